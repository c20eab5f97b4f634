/- parity.text. -/
import Derived.Test.YtkbiecjdcjfhaaaTbase
import Derived.Test.YtkbiecjdcjfhaaaPvApz
set_option linter.unusedSimpArgs false
set_option linter.unusedVariables false
namespace Go.Proofs.Ytkbiecjdcjfhaaa
open Go Go.Pv
open Classical
def b2 (n:Int):List Int:=[IntKind.u8.wrap n,IntKind.u8.wrap (n.fdiv 256)]
def u8s (l:List Int):List LV:=l.map (LV.int .u8)
def txt (l:List Int):List UInt8:=(l.flatMap b2).map fun z=>UInt8.ofNat z.toNat
theorem bytesOf_u8:∀ l:List Int,bytesOf (u8s l)=some (l.map fun z=>UInt8.ofNat z.toNat)
  | []=>rfl
  | z::l=>by
    show (do some (UInt8.ofNat z.toNat::(← bytesOf (u8s l))))=_
    rw [bytesOf_u8 l];rfl
theorem u8s_closed:∀ l:List Int,LV.closed.closedAll (u8s l)=true
  | []=>rfl
  | z::l=>by
    show (true && LV.closed.closedAll (u8s l))=true
    rw [u8s_closed l];rfl
theorem b2_len (l:List Int):(l.flatMap b2).length=2*l.length:=by
  induction l with
  | nil=>rfl
  | cons z l ih=>rw [List.flatMap_cons,List.length_append,ih,List.length_cons];show 2+_=_;omega
set_option maxHeartbeats 4000000 in
theorem put_ok {s:St} {b j len:Nat} {cs:List LV} (hb:s.get b=some (.cells .mut [.sref j 0 len 1])) (hj:s.get j=some (.cells .mut cs)) (hl:cs.length=len) (hlt:b<s.n∧j<s.n) (hne:j≠b) (hlen:len≤1000000) (n:Int) :
    CallOk Try.prog GL (.fn (.func 60) [] [.pref b 0]) [.int .i64 n] s (fun _ s'=>∃ j',s'.get b=some (.cells .mut [.sref j' 0 (len+2) 1])∧s'.get j'=some (.cells .mut (cs++u8s (b2 n)))∧s.n≤j'∧j'<s'.n∧s.n≤s'.n):=by
  refine call_fn (first:=[]) (caps:=[.pref b 0]) Try.func60 (by decide +kernel) c60 (Nat.le_of_ble_eq_true rfl) (CodeOk.mono (Q:=fun o e s'=>(o = .normal∨o = .jmp .ret)∧∃ j',s'.get b=some (.cells .mut [.sref j' 0 (len+2) 1])∧s'.get j'=some (.cells .mut (cs++u8s (b2 n)))∧s.n≤j'∧j'<s'.n∧s.n≤s'.n) ?_ fun o e s' hh=>by
    obtain ⟨h1,h2⟩:=hh
    exact ⟨h1, .tup [],by simp [l60,resVal],h2⟩)
  have e0:(envOf ([]++[.int .i64 n]++[.pref b 0])).at 0 = .int .i64 n:=by rw [envOf_at];rfl
  have e1:(envOf ([]++[.int .i64 n]++[.pref b 0])).at 1 = .pref b 0:=by rw [envOf_at];rfl
  generalize envOf ([]++[.int .i64 n]++[.pref b 0])=e at *
  refine Cd.out ?_
  unfold l60
  dsimp only [jA,jG,qm,ql]
  have hsh:binLV .shr (.int .i64 n) (.int .u64 8)=some (.int .i64 (n.fdiv 256)):=rfl
  have hw1:∃ z1,IntKind.u8.wrap n=z1:=⟨_,rfl⟩
  have hw2:∃ z2,IntKind.u8.wrap (n.fdiv 256)=z2:=⟨_,rfl⟩
  obtain ⟨z1,hw1⟩:=hw1
  obtain ⟨z2,hw2⟩:=hw2
  repeat' (first | refine gN (And.intro @hb (And.intro @hsh (And.intro @hw1 @hw2))) ?_ | (refine gB (And.intro @hb (And.intro @hsh (And.intro @hw1 @hw2))) ?_;intro bb hbb;cases bb<;>(try simp only [hbs,if_false,reduceCtorEq] at hbb)<;>(try first | (exfalso;omega) | exact hbb.elim)) | fail)
  refine q_appM (k:=2) (n:=len) (vs:=u8s (b2 n)) (cells:=cs) (yv:=.sref j 0 len 1) (by
    simp only [evParts,List.map,lk,sv1,sv2,sv3,Nat.reduceEqDiff,Nat.reduceAdd,Nat.reduceLeDiff,reduceIte,if_false,if_true,mkVal,unLV,List.map,optTmps]
    have hc:∀ z:Int,cells? (.int .u8 z)=some [.int .u8 z]:=fun _=>rfl
    simp [rep,fillParts,hc,splice,u8s,b2,hw1,hw2]) (by simp [u8s,b2]) (u8s_closed _) ef ⟨hl, .inr ⟨j,rfl,hlt.2,hj⟩⟩ (by unfold big;omega) (fun s' r h1 h2 h3 h4=>?_)
  have hb':s'.get b=some (.cells .mut [.sref j 0 len 1]):=by rw [h3 b hlt.1 fun hu=>hne (uses_sref.1 hu).symm];exact hb
  obtain ⟨h0,⟨rfl,h5⟩ | ⟨j',rfl,h5,h6⟩⟩:=h1
  · omega
  have hj':=h4 j' (uses_sref.2 rfl)
  have hB:=Bx.mk h6
  clear h6 h3
  repeat' (first | refine gN @hb' ?_ | (refine gB @hb' ?_;intro bb hbb;cases bb<;>(try simp only [hbs,if_false,reduceCtorEq] at hbb)<;>(try first | (exfalso;omega) | exact hbb.elim)) | fail)
  refine ⟨.inl trivial,j',by rw [St.get_put,if_pos rfl],by rw [St.get_put,if_neg (by omega)];exact hB.out,hj',h5,h2⟩
set_option maxHeartbeats 8000000 in
theorem text_ok {v:LV} {l:List Int} (hv:IsInts v l) (hl:l.length≤100000):PO 50 [v] (.str ⟨(txt l).toArray⟩):=by
  have hcl:=hv.closed
  have hvl:=hv.sl.len
  have hw:IntKind.i64.wrap (2*(l.length:Int))=((2*l.length:Nat):Int):=by rw [wrap_i64 _ (by omega) (by omega)];rfl
  refine q_fn (t:=2) hm Try.func50 (by decide +kernel) c50 (Nat.le_of_ble_eq_true rfl) (by simp [LV.closed.closedAll,hcl]) rfl rfl ?_
  have e0:(envOf [v]).at 0=v:=by rw [envOf_at];rfl
  generalize envOf [v]=e at *
  unfold l50
  dsimp only [jA,jG,qS,qI,qA,qB,qC,qm,ql]
  repeat' (first | refine gN (And.intro @hvl @hw) ?_ | (refine gB (And.intro @hvl @hw) ?_;intro bb hbb;cases bb<;>(try simp only [hbs,if_false,reduceCtorEq] at hbb)<;>(try first | (exfalso;omega) | exact hbb.elim)) | fail)
  refine q_run0 (v:=.sref 0 0 0 1) (s':=St.empty.new (.cells .mut [])) (by
    have h1:((2*l.length:Nat):Int)*1≤big:=by unfold big;omega
    have h2:((2*l.length:Nat):Int)≤big:=by unfold big;omega
    simp only [LOp.run,lk,sv1,sv2,sv3,Nat.reduceEqDiff,Nat.reduceAdd,Nat.reduceLeDiff,reduceIte,if_false,if_true,mkVal,unLV,List.map,optTmps,hw]
    rw [if_pos ⟨Int.le_refl _,by omega,by simpa using h1,h2,trivial⟩]
    simp [n_empty,rep]) ?_
  have hn0:(St.empty.new (.cells .mut [])).n=1:=by simp [n_empty]
  have hg0:(St.empty.new (.cells .mut [])).get 0=some (.cells .mut []):=by simp [n_empty]
  generalize St.empty.new (.cells .mut [])=s1 at *
  repeat' (first | refine gN @hvl ?_ | (refine gB @hvl ?_;intro bb hbb;cases bb<;>(try simp only [hbs,if_false,reduceCtorEq] at hbb)<;>(try first | (exfalso;omega) | exact hbb.elim)) | fail)
  refine qc_loop (fun m e s=>∃ k j:Nat,m=l.length - k∧k≤l.length∧s.get 1=some (.cells .mut [.sref j 0 (2*k) 1])∧s.get j=some (.cells .mut (u8s ((l.take k).flatMap b2)))∧j≠1∧j<s.n∧1<s.n∧e.at 3 = .pref 1 0∧e.at 4 = .fn (.func 60) [] [.pref 1 0]∧e.at 12=v∧e.at 13 = .int .i64 (l.length:Int)∧e.at 14 = .int .i64 (k:Int)) _
    ⟨0,0,rfl,by omega,by simp [hn0],by simp [u8s,hn0,hg0],by omega,by simp [hn0],by simp [hn0],ef,by simp only [List.map,lk,sv1,sv2,sv3,Nat.reduceEqDiff,Nat.reduceAdd,Nat.reduceLeDiff,reduceIte,if_false,if_true,mkVal,unLV,List.map,optTmps],ef,ef,by simp only [lk,sv1,sv2,sv3,Nat.reduceEqDiff,Nat.reduceAdd,Nat.reduceLeDiff,reduceIte,if_false,if_true,mkVal,unLV,List.map,optTmps];rfl⟩ ?_
  clear e0 hn0 hg0
  clear e s1
  rintro m e s ⟨k,j,rfl,hk,h1,hj,hne,hjn,hn1,e3,e4,e12,e13,e14⟩
  by_cases hkl:k<l.length
  · have hkI:(k:Int)<(l.length:Int):=by omega
    have hwk:IntKind.i64.wrap ((k:Int)+1)=((k+1:Nat):Int):=by rw [wrap_i64 _ (by omega) (by omega)];rfl
    have hgx:=ints_get hkI
    have htk:l.take (k+1)=l.take k++[l.getD k 0]:=by rw [List.take_add_one,List.getD_eq_getElem?_getD,List.getElem?_eq_getElem hkl];rfl
    generalize l.getD k 0=x at *
    have hbl:=b2_len (l.take k)
    rw [List.length_take] at hbl
    have hput:=put_ok (len:=2*k) h1 hj (by simp [u8s,hbl];omega) ⟨hn1,hjn⟩ hne (by omega) x
    have htB:Bx (u8s ((l.take (k+1)).flatMap b2)=u8s ((l.take k).flatMap b2)++u8s (b2 x)):=⟨by rw [htk];simp [u8s,List.flatMap_append]⟩
    clear htk h1 hj
    repeat' (first | refine gN (And.intro (@iaN _ _ _ hv.sl) @hgx) ?_ | (refine gB (And.intro (@iaN _ _ _ hv.sl) @hgx) ?_;intro bb hbb;cases bb<;>(try simp only [hbs,if_false,reduceCtorEq] at hbb)<;>(try first | (exfalso;omega) | exact hbb.elim)) | fail)
    refine q_call wN (fv:=.fn (.func 60) [] [.pref 1 0]) (vs:=[.int .i64 x]) ef (by simp only [List.map,lk,sv1,sv2,sv3,Nat.reduceEqDiff,Nat.reduceAdd,Nat.reduceLeDiff,reduceIte,if_false,if_true,mkVal,unLV,List.map,optTmps]) (CallOk.mono hput fun r s2 hh=>⟨trivial,?_⟩)
    obtain ⟨j2,a1,a2,a3,a4,a5⟩:=hh
    simp only [Env.put_some]
    rw [← htB.out] at a2
    clear hput
    repeat' (first | refine gN @hwk ?_ | (refine gB @hwk ?_;intro bb hbb;cases bb<;>(try simp only [hbs,if_false,reduceCtorEq] at hbb)<;>(try first | (exfalso;omega) | exact hbb.elim)) | fail)
    refine ⟨l.length - (k+1),by omega,k+1,j2,rfl,by omega,by rw [a1];rfl,a2,by omega,a4,by omega,?_⟩
    simp only [lk,sv1,sv2,sv3,Nat.reduceEqDiff,Nat.reduceAdd,Nat.reduceLeDiff,reduceIte,if_false,if_true,mkVal,unLV,List.map,optTmps,hwk,e3,e4,e12,e13,and_self]
  · have hk':k=l.length:=by omega
    subst hk'
    rw [List.take_length] at hj
    have hrow:rowOf s 1 (2*l.length) (.sref j 0 (2*l.length) 1)=some (u8s (l.flatMap b2)):=by
      have:=b2_len l
      simp only [rowOf,hj,u8s,List.length_map,this,Nat.zero_add,Nat.mul_one,Nat.le_refl,and_self,if_true,List.drop_zero]
      rw [List.take_of_length_le (by rw [List.length_map,this];exact Nat.le_refl _)]
    have hby:=bytesOf_u8 (l.flatMap b2)
    repeat' (first | refine gN @h1 ?_ | (refine gB @h1 ?_;intro bb hbb;cases bb<;>(try simp only [hbs,if_false,reduceCtorEq] at hbb)<;>(try first | (exfalso;omega) | exact hbb.elim)) | fail)
    refine q_run0 (v:=.str ⟨(txt l).toArray⟩) (s':=s) (by
      simp only [LOp.run,lk,sv1,sv2,sv3,Nat.reduceEqDiff,Nat.reduceAdd,Nat.reduceLeDiff,reduceIte,if_false,if_true,mkVal,unLV,List.map,optTmps,slLen,hrow,hby,Option.bind_eq_bind,Option.bind_some]
      rfl) ?_
    repeat' (first | refine gN trivial ?_ | (refine gB trivial ?_;intro bb hbb;cases bb<;>(try simp only [hbs,if_false,reduceCtorEq] at hbb)<;>(try first | (exfalso;omega) | exact hbb.elim)) | fail)
    exact ⟨.inr trivial,ef⟩
end Go.Proofs.Ytkbiecjdcjfhaaa
