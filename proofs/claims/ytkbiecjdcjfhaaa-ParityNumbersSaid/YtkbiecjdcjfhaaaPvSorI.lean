/- A library's sort over a row of numbers in memory: its contract, told of plain values. -/
import Derived.Test.YtkbiecjdcjfhaaaPvCall
import Derived.Test.YtkbiecjdcjfhaaaPvRw
import Derived.Sort.EveryDepth
import Derived.Shelf.SortG.Plain
set_option linter.unusedSimpArgs false
set_option linter.unusedVariables false
namespace Go.Pv
open Go Go.Sort Go.Proofs Go.RowKit
namespace SorI
theorem shape_putRow {α:Type} [Inhabited α] (enc:α→Value) (w:World) (blk off:Nat) (d:Array α) (k:Nat):(putRow enc w blk off d).shape? k=w.shape? k:=by
  unfold World.shape? putRow mapBlock
  simp only [Array.getElem?_modify]
  by_cases h:blk=k
  · subst h
    simp only [if_true]
    cases w.heap[blk]? with
    | none=>rfl
    | some o=>cases o<;>simp [onCells,putCells]
  · simp [h]
theorem wrote_putRow {α:Type} [Inhabited α] {enc:α→Value} {w:World} {blk off:Nat} {d0 d:Array α} (h0:Holds enc w blk off d0) (hs:d.size=d0.size):Wrote blk off (d.toList.map enc) w (putRow enc w blk off d) where
  os:=rfl
  tape:=rfl
  output:=rfl
  size:=by simp
  block:=fun k hk=>by
    unfold putRow mapBlock
    simp only [Array.getElem?_modify]
    rw [if_neg (fun h=>hk h.symm)]
  hit:=fun i hi=>by
    have hi':i<d.size:=by simpa using hi
    rw [cell?_putRow enc w blk off d0 d h0 hs i hi']
    simp [List.getD_eq_getElem?_getD,hi',getElem!_pos]
  miss:=fun c hc=>cell?_putRow_other enc w blk off d c (by simpa using hc)
  frozen:=fun c=>frozen?_putRow enc w blk off d c
  shape:=fun k=>shape_putRow enc w blk off d k
theorem call_sort {P : Program} {G : Globs} {k : FuncId} {fn : Func} {body : Code} (hf : P.funcs[k]? = some fn) (hn : (fn.name == "runtime.NumGoroutine") = false) (hbody : fn.body = some body)
    (hcon:∀ (blk off cap:Nat) (zs:List Int) (w:World),Holds (Value.int .i64) w blk off zs.toArray→blk<w.heap.size→zs.length<4611686018427387904→Calls P k #[.slice (some ⟨blk,off,none⟩) zs.length cap] w fun e w'=>e = .returned (.tuple #[])∧∃ n os,w'=grow (putRow (Value.int .i64) (Sort.ahead w n) blk off (zs.mergeSort fun x y=>decide (x≤y)).toArray) os)
    {s:St} {j:Nat} {l:List Int} {rest:List LV} (hs:s.get j=some (.cells .mut (ints l++rest))) (hl1:1≤l.length) (hl2:l.length≤1048576) :
    CallOk P G (.fn (.func k) [] []) [.sref j 0 l.length 1] s (fun _ s'=>s'=s.put j (.cells .mut (ints (l.mergeSort fun x y=>decide (x≤y))++rest))):=by
  intro w0 μ ι δ w vf vargs c cs hN hvf hvl hva
  cases hvf with
  | fn hl hl' hr hr' =>
    rename_i va vb
    obtain rfl:va = #[]:=Array.eq_empty_of_size_eq_zero hl
    obtain rfl:vb = #[]:=Array.eq_empty_of_size_eq_zero hl'
    obtain ⟨x,rfl⟩:∃ x,vargs = #[x]:=by
      have h2:vargs.size=1:=hvl
      refine ⟨vargs[0],?_⟩
      apply Array.ext (by simp [h2])
      intro i hi1 hi2
      have:i=0:=by omega
      subst this;rfl
    have h0:Rv μ ι w (.sref j 0 l.length 1) x:=by simpa using hva 0 (by simp)
    cases h0 with
    | sref hp hcap hlc had=>
      rename_i cap p off'
      obtain rfl:off'=0:=had (by omega)
      have I:=hN.inv
      have hb:=I.blk j _ p hs hp
      obtain ⟨⟨sh,b0⟩,b1,b2,b3,b4,b5,b6⟩:=hb
      have hml:(ints l).length=l.length:=by simp
      have hcl:(ints l++rest).length=l.length+rest.length:=by simp
      have hdom:=I.dom j p hp
      have hH:Holds (Value.int .i64) w p.b (p.off+0) l.toArray:=by
        intro t ht
        have ht':t<l.length:=by simpa using ht
        obtain ⟨v,hc,_,hrv⟩:=b2 t (by omega)
        rw [Nat.add_zero]
        refine ⟨?_,b3 _⟩
        have h1:=hrv (by omega)
        rw [List.getD_eq_getElem?_getD,List.getElem?_append_left (by rw [hml];exact ht'),ints_get (by omega)] at h1
        rw [hc]
        cases h1
        simp [List.getD_eq_getElem?_getD,ht']
      obtain ⟨e,w',fr,⟨rfl,n,os,rfl⟩,hcm,hfn,hlv⟩:=hcon p.b (p.off+0) cap l w hH hdom.2.2 (by omega) (c::cs)
      have hZl:(l.mergeSort fun x y=>decide (x≤y)).length=l.length:=List.length_mergeSort l
      generalize (l.mergeSort fun x y=>decide (x≤y))=z at *
      have S1:Same w (Sort.ahead w n):=⟨rfl,rfl,rfl,Nat.le_refl _,fun _ _=>rfl⟩
      have I1:=I.same S1
      have x1:=I.ext_same S1
      have hH1:Holds (Value.int .i64) (Sort.ahead w n) p.b (p.off+0) l.toArray:=hH
      have hW:=wrote_putRow hH1 (d:=z.toArray) (by simp [hZl])
      have hget:∀ t,t<z.length→((z.toArray.toList.map (Value.int .i64)).getD t undef) = .int .i64 (z.getD t 0):=fun t ht=>by
        simp [List.getD_eq_getElem?_getD,ht]
      obtain ⟨I2,x2⟩:=I1.write hs hp (ints z) (z.toArray.toList.map (Value.int .i64)) (off:=0) (by simp) (by rw [List.length_append,hml];simp;omega) (fun i hi=>by
        have hi':i<z.length:=by simpa using hi
        rw [hget i hi',List.getD_eq_getElem?_getD,ints_get (by omega)]
        exact .int _ _) (fun i hi=>by
        have hi':i<z.length:=by simpa using hi
        rw [hget i hi'];rfl) hW
      have hsp:splice (ints l++rest) 0 (ints z)=ints z++rest:=by
        have:=splice_gen (ints z) [] (ints l) rest (by simp [hZl])
        simpa using this
      rw [hsp] at I2
      have S3:Same (putRow (Value.int .i64) (Sort.ahead w n) p.b (p.off+0) z.toArray) (grow (putRow (Value.int .i64) (Sort.ahead w n) p.b (p.off+0) z.toArray) os):=by
        refine ⟨rfl,rfl,rfl,?_,fun q hq=>?_⟩
        · simp [grow]
        · simp only [grow]
          rw [Array.getElem?_append_left (by simpa using hq)]
      have I3:=I2.same S3
      have x3:=I2.ext_same S3
      have hinv:(invoke (.fn (.func k) #[]) (#[]++#[Value.slice (some ⟨p.b,p.off+0,none⟩) l.length cap])).run P w = .ok (.enter k #[.slice (some ⟨p.b,p.off+0,none⟩) l.length cap]) w:=by
        have hn' : ¬ fn.name = "runtime.NumGoroutine" := by simpa using hn
        simp [invoke,callFunc,hf,hn',hbody]
      refine ⟨.tup [],s.put j (.cells .mut (ints z++rest)),μ,ι,_, .tuple #[],rfl,⟨_,_,_,fun w=>ofValue_run (.func k) #[] #[] _ P w,hinv,?_⟩,I3,(x1.trans x2).trans x3,⟨Nat.le_refl _,fun id hid hm=>?_,fun _ _ h=>h⟩, .tup rfl (fun i hi=>absurd hi (Nat.not_lt_zero i))⟩
      · refine Steps.trans ?_ (.one (step_leave_returned hlv))
        have hst:Steps P _ _:=hcm
        simpa using hst
      · rw [St.get_put,if_neg]
        rintro rfl
        rw [hp] at hm
        cases hm
end SorI
end Go.Pv
