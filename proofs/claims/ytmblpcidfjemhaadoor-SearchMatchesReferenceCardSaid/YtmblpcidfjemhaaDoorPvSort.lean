/- A library's sort over a row in memory: its contract, told of plain values. -/
import Derived.Test.YtmblpcidfjemhaaDoorPvCall
import Derived.Test.YtmblpcidfjemhaaDoorPvQ
import Derived.Shelf.GgSortFunc.InsertionK
import Derived.Sort.Statements
set_option linter.unusedSimpArgs false
set_option linter.unusedVariables false
namespace Go.Pv
open Go Go.Sort Go.Proofs
theorem shape_putRow {α:Type} [Inhabited α] (enc:α→Value) (w:World) (blk off:Nat) (d:Array α) (k:Nat):(putRow enc w blk off d).shape? k=w.shape? k:=by
  unfold World.shape? putRow mapBlock
  simp only [Array.getElem?_modify]
  by_cases h:blk=k
  · subst h
    simp only [if_true]
    cases w.heap[blk]? with
    | none=>rfl
    | some o=>cases o<;>simp [onCells,putCells]
  · simp [h]
theorem wrote_putRow {α:Type} [Inhabited α] {enc:α→Value} {w:World} {blk off:Nat} {d0 d:Array α} (h0:Holds enc w blk off d0) (hs:d.size=d0.size):Wrote blk off (d.toList.map enc) w (putRow enc w blk off d) where
  os:=rfl
  tape:=rfl
  output:=rfl
  size:=by simp
  block:=fun k hk=>by
    unfold putRow mapBlock
    simp only [Array.getElem?_modify]
    rw [if_neg (fun h=>hk h.symm)]
  hit:=fun i hi=>by
    have hi':i<d.size:=by simpa using hi
    rw [cell?_putRow enc w blk off d0 d h0 hs i hi']
    simp [List.getD_eq_getElem?_getD,hi',getElem!_pos]
  miss:=fun c hc=>cell?_putRow_other enc w blk off d c (by simpa using hc)
  frozen:=fun c=>frozen?_putRow enc w blk off d c
  shape:=fun k=>shape_putRow enc w blk off d k
def encM (x:Int × Bool):List Value:=[.int .i64 x.1, .bool x.2]
theorem flat_even {ms:List (Int × Bool)} {i:Nat} (h:i<ms.length):(flatK encM 2 ms.toArray)[i*2]! = .int .i64 (ms.getD i (0,false)).1:=by
  rw [get_flatK encM 2 ms.toArray (i*2) (by simp;omega)]
  have h1:i*2 / 2=i:=by omega
  have h2:i*2 % 2=0:=by omega
  rw [h1,h2]
  simp [encM,h,List.getD_eq_getElem?_getD]
theorem flat_odd {ms:List (Int × Bool)} {i:Nat} (h:i<ms.length):(flatK encM 2 ms.toArray)[i*2+1]! = .bool (ms.getD i (0,false)).2:=by
  rw [get_flatK encM 2 ms.toArray (i*2+1) (by simp;omega)]
  have h1:(i*2+1) / 2=i:=by omega
  have h2:(i*2+1) % 2=1:=by omega
  rw [h1,h2]
  simp [encM,h,List.getD_eq_getElem?_getD]
theorem parity (t:Nat):(∃ i,t=i*2)∨∃ i,t=i*2+1:=by
  rcases Nat.mod_two_eq_zero_or_one t with h | h
  · exact .inl ⟨t / 2,by omega⟩
  · exact .inr ⟨t / 2,by omega⟩
theorem flat_rv {μ:Mu} {ι:Io} {w:World} {ms:List (Int × Bool)} {t:Nat} (h:t<ms.length*2):Rv μ ι w ((mcells ms).getD t .top) (flatK encM 2 ms.toArray)[t]! := by
  rcases parity t with ⟨i,rfl⟩ | ⟨i,rfl⟩
  · have hi:i<ms.length:=by omega
    rw [flat_even hi,List.getD_eq_getElem?_getD,mcells_get0 hi]
    exact .int _ _
  · have hi:i<ms.length:=by omega
    rw [flat_odd hi,List.getD_eq_getElem?_getD,mcells_get1 hi]
    exact .bool _
theorem flat_inv {μ:Mu} {ι:Io} {w:World} {ms:List (Int × Bool)} {t:Nat} {v:Value} (h:t<ms.length*2) (hv:Rv μ ι w ((mcells ms).getD t .top) v):v=(flatK encM 2 ms.toArray)[t]! := by
  rcases parity t with ⟨i,rfl⟩ | ⟨i,rfl⟩
  · have hi:i<ms.length:=by omega
    rw [List.getD_eq_getElem?_getD,mcells_get0 hi] at hv
    rw [flat_even hi]
    cases hv
    rfl
  · have hi:i<ms.length:=by omega
    rw [List.getD_eq_getElem?_getD,mcells_get1 hi] at hv
    rw [flat_odd hi]
    cases hv
    rfl
theorem call_sort {P : Program} {G : Globs} {k g : FuncId} {fn : Func} {body : Code} (hf : P.funcs[k]? = some fn) (hn : (fn.name == "runtime.NumGoroutine") = false) (hbody : fn.body = some body)
    {lt:Int × Bool→Int × Bool→Bool}
    (hcon:∀ (blk off cap:Nat) (d:Array (Int × Bool)) (w:World),HoldsK encM 2 w blk off d→blk<w.heap.size→d.size<4611686018427387904→Calls P k #[.slice (some ⟨blk,off,none⟩) d.size cap, .func (.func g) #[] #[]] w fun e w'=>e = .returned (.tuple #[])∧∃ d' n os,PermIn 0 d.size d d'∧SortedIn lt 0 d.size d'∧w'=sortWorldK encM 2 w blk off n d' os)
    {s:St} {j:Nat} {ms:List (Int × Bool)} (hs:s.get j=some (.cells .mut (mcells ms))) (hl1:1≤ms.length) (hl2:ms.length≤1048576) :
    CallOk P G (.fn (.func k) [] []) [.sref j 0 ms.length 2, .fn (.func g) [] []] s (fun _ s'=>∃ ms',ms'.Perm ms∧(∀ a b,a<b→b<ms'.length→lt (ms'.getD b (0,false)) (ms'.getD a (0,false))=false)∧s'=s.put j (.cells .mut (mcells ms'))):=by
  intro w0 μ ι δ w vf vargs c cs hN hvf hvl hva
  cases hvf with
  | fn hl hl' hr hr' =>
    rename_i va vb
    obtain rfl:va = #[]:=Array.eq_empty_of_size_eq_zero hl
    obtain rfl:vb = #[]:=Array.eq_empty_of_size_eq_zero hl'
    obtain ⟨x,y,rfl⟩:∃ x y,vargs = #[x,y]:=by
      have h2:vargs.size=2:=hvl
      refine ⟨vargs[0],vargs[1],?_⟩
      apply Array.ext (by simp [h2])
      intro i hi1 hi2
      have:i=0∨i=1:=by omega
      rcases this with rfl | rfl<;>rfl
    have h0:Rv μ ι w (.sref j 0 ms.length 2) x:=by simpa using hva 0 (by simp)
    have h1:Rv μ ι w (.fn (.func g) [] []) y:=by simpa using hva 1 (by simp)
    cases h0 with
    | sref hp hcap hlc had=>
      rename_i cap p off'
      cases h1 with
      | fn kl kl' kr kr' =>
        rename_i va vb
        obtain rfl:va = #[]:=Array.eq_empty_of_size_eq_zero kl
        obtain rfl:vb = #[]:=Array.eq_empty_of_size_eq_zero kl'
        obtain rfl:off'=0:=had (by omega)
        have I:=hN.inv
        have hb:=I.blk j _ p hs hp
        obtain ⟨⟨sh,b0⟩,b1,b2,b3,b4,b5,b6⟩:=hb
        have hml:(mcells ms).length=ms.length*2:=mcells_length ms
        have hdom:=I.dom j p hp
        have hH:HoldsK encM 2 w p.b (p.off+0) ms.toArray:=by
          intro t ht
          have ht':t<ms.length*2:=by simpa using ht
          obtain ⟨v,hc,_,hrv⟩:=b2 t (by omega)
          rw [Nat.add_zero]
          refine ⟨?_,b3 _⟩
          rw [hc,flat_inv ht' (hrv (by omega))]
          rfl
        obtain ⟨e,w',fr,⟨rfl,d',n,os,hperm,hsort,rfl⟩,hcm,hfn,hlv⟩:=hcon p.b (p.off+0) cap ms.toArray w hH hdom.2.2 (by simp;omega) (c::cs)
        obtain ⟨hpz,_,hpp⟩:=hperm
        have hd'l:d'.toList.length=ms.length:=by simpa using hpz
        have e1:d'.extract 0 ms.toArray.size=d':=by
          rw [← hpz];simp
        have e2:ms.toArray.extract 0 ms.toArray.size=ms.toArray:=by simp
        rw [e1,e2] at hpp
        have S1:Same w (Sort.ahead w n):=⟨rfl,rfl,rfl,Nat.le_refl _,fun _ _=>rfl⟩
        have I1:=I.same S1
        have x1:=I.ext_same S1
        have hH1:Holds id (Sort.ahead w n) p.b (p.off+0) (flatK encM 2 ms.toArray):=hH
        have hW:=wrote_putRow hH1 (d:=flatK encM 2 d') (by simp [hpz])
        have hdl:((flatK encM 2 d').toList.map id).length=d'.toList.length*2:=by simp
        have hget:∀ t,t<d'.toList.length*2→((flatK encM 2 d').toList.map id).getD t undef=(flatK encM 2 d'.toList.toArray)[t]! := fun t ht=>by
          have ht':t<d'.size*2:=by simpa using ht
          simp [List.getD_eq_getElem?_getD,ht']
        obtain ⟨I2,x2⟩:=I1.write hs hp (mcells d'.toList) ((flatK encM 2 d').toList.map id) (off:=0) (by rw [hdl,mcells_length]) (by rw [mcells_length,hml,hd'l];omega) (fun i hi=>by
          rw [mcells_length] at hi
          rw [hget i hi]
          exact flat_rv hi) (fun i hi=>by
          rw [hdl] at hi
          rw [hget i hi]
          rcases parity i with ⟨q,rfl⟩ | ⟨q,rfl⟩
          · rw [flat_even (by omega)];rfl
          · rw [flat_odd (by omega)];rfl) hW
        rw [splice_all (by rw [hml,mcells_length,hd'l])] at I2
        have S3:Same (putRow id (Sort.ahead w n) p.b (p.off+0) (flatK encM 2 d')) (sortWorldK encM 2 w p.b (p.off+0) n d' os):=by
          refine ⟨rfl,rfl,rfl,?_,fun q hq=>?_⟩
          · simp [sortWorldK,grow,putRowK]
          · simp only [sortWorldK,grow,putRowK]
            rw [Array.getElem?_append_left (by simpa using hq)]
        have I3:=I2.same S3
        have x3:=I2.ext_same S3
        have hinv:(invoke (.fn (.func k) #[]) (#[]++#[Value.slice (some ⟨p.b,p.off+0,none⟩) ms.length cap, .func (.func g) #[] #[]])).run P w = .ok (.enter k #[.slice (some ⟨p.b,p.off+0,none⟩) ms.length cap, .func (.func g) #[] #[]]) w:=by
          have hn' : ¬ fn.name = "runtime.NumGoroutine" := by simpa using hn
          simp [invoke,callFunc,hf,hn',hbody]
        refine ⟨.tup [],s.put j (.cells .mut (mcells d'.toList)),μ,ι,_, .tuple #[],⟨d'.toList,by simpa using hpp,fun a b hab hb=>?_,rfl⟩,⟨_,_,_,fun w=>ofValue_run (.func k) #[] #[] _ P w,hinv,?_⟩,I3,(x1.trans x2).trans x3,⟨Nat.le_refl _,fun id hid hm=>?_,fun _ _ h=>h⟩, .tup rfl (fun i hi=>absurd hi (Nat.not_lt_zero i))⟩
        · have hb':b<d'.size:=by simpa using hb
          have:=hsort a b (Nat.zero_le _) hab (by rw [← hpz];exact hb')
          rw [getElem!_pos d' b hb',getElem!_pos d' a (by omega)] at this
          simpa [List.getD_eq_getElem?_getD,hb',show a<d'.size by omega] using this
        · refine Steps.trans ?_ (.one (step_leave_returned hlv))
          have hst:Steps P _ _:=hcm
          simpa using hst
        · rw [St.get_put,if_neg]
          rintro rfl
          rw [hp] at hm
          cases hm
end Go.Pv
