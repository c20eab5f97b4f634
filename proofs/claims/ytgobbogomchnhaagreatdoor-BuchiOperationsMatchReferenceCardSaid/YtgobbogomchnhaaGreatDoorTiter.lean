/- buchi.Trim's moves: the moves of a state for a letter, yielded. -/
import Derived.Test.YtgobbogomchnhaaGreatDoorTnum
import Derived.Test.YtgobbogomchnhaaGreatDoorPvQ
set_option linter.unusedSimpArgs false
set_option linter.unusedVariables false
namespace Go.Proofs.YtgobbogomchnhaaGreatDoor
open Go Go.Pv Go.Bfs
open Classical
def rowM (B:Bu) (q a:Nat):Moves:=(B.next.getD q []).getD a []
set_option maxHeartbeats 8000000 in
theorem titer_ok {v:LV} {B:Bu} {sv nv:LV} (hB:IsB v B sv nv) (hok:Vb B) {q a:Nat} (hq:q<B.next.length) (ha:(a:Int)<B.L) {y:LV} {s:St} {I:Nat→St→Prop} (hI0:I 0 s)
  (hst:∀ k s1 s2,I k s1→s.n≤s1.n→s1.n≤s2.n→(∀ i,i<s1.n→s2.get i=s1.get i)→I k s2)
  (hbd:∀ k m s1,(rowM B q a)[k]? = some m→I k s1→s.n≤s1.n→CallOk Tryz.prog GL y [.int .i64 m.1, .bool m.2] s1 (fun r s2=>s1.n≤s2.n∧r = .bool true∧I (k+1) s2)) :
  CallOk Tryz.prog GL (.fn (.func 39) [] [.pimm [.int .i64 B.L,sv,nv] 0, .pimm [.int .i64 (q:Int)] 0, .pimm [.int .i64 (a:Int)] 0]) [y] s (fun _ s'=>s.n≤s'.n∧I (rowM B q a).length s'):=by
 obtain ⟨rfl,hst',vs,hn⟩:=hB
 have hc1:=hst'.sl.cell
 have hc2:=hn.sl.cell
 have hnl:=hn.sl.len
 have hn3:=hok.2.2.1
 have hmx:maxLen=9223372036854775807:=by decide
 refine call_fn (first:=[]) (caps:=[.pimm [.int .i64 B.L,sv,nv] 0, .pimm [.int .i64 (q:Int)] 0, .pimm [.int .i64 (a:Int)] 0]) Tryz.func39 (by decide +kernel) c39 (Nat.le_of_ble_eq_true rfl) (CodeOk.mono (Q:=fun o e s'=>(o = .normal∨o = .jmp .ret)∧s.n≤s'.n∧I (rowM B q a).length s') ?_ fun o e s' hh=>by
  exact ⟨hh.1, .tup [],by simp [l39,resVal],hh.2⟩)
 have e0:(envOf ([]++[y]++[.pimm [.int .i64 B.L,sv,nv] 0, .pimm [.int .i64 (q:Int)] 0, .pimm [.int .i64 (a:Int)] 0])).at 0=y:=by rw [envOf_at];rfl
 have e1:(envOf ([]++[y]++[.pimm [.int .i64 B.L,sv,nv] 0, .pimm [.int .i64 (q:Int)] 0, .pimm [.int .i64 (a:Int)] 0])).at 1 = .pimm [.int .i64 B.L,sv,nv] 0:=by rw [envOf_at];rfl
 have e2:(envOf ([]++[y]++[.pimm [.int .i64 B.L,sv,nv] 0, .pimm [.int .i64 (q:Int)] 0, .pimm [.int .i64 (a:Int)] 0])).at 2 = .pimm [.int .i64 (q:Int)] 0:=by rw [envOf_at];rfl
 have e3:(envOf ([]++[y]++[.pimm [.int .i64 B.L,sv,nv] 0, .pimm [.int .i64 (q:Int)] 0, .pimm [.int .i64 (a:Int)] 0])).at 3 = .pimm [.int .i64 (a:Int)] 0:=by rw [envOf_at];rfl
 generalize envOf ([]++[y]++[.pimm [.int .i64 B.L,sv,nv] 0, .pimm [.int .i64 (q:Int)] 0, .pimm [.int .i64 (a:Int)] 0])=e at *
 refine Cd.out ?_
 unfold l39
 dsimp only [jA,jB,jG,qL,qN,qF,qS,qI,qA,qB,qC,qm,ql]
 have g1:vs[q]? = some (vs.getD q .top):=hn.get hq
 obtain ⟨ws,hr⟩:=hn.row q hq
 have hrl:=hr.sl.len
 have hROK:=hok.2.2.2.2 q hq
 have hqI:(q:Int)<(B.next.length:Int):=by omega
 have hal:a<(B.next.getD q []).length:=by have:=hROK.1;omega
 have haI:(a:Int)<((B.next.getD q []).length:Int):=by omega
 have g2:ws[a]? = some (ws.getD a .top):=hr.get hal
 have hm':=hr.row a hal
 have hmo:=hROK.2 a hal
 have hms:rowM B q a=(B.next.getD q []).getD a []:=rfl
 rw [← hms] at hm' hmo
 generalize rowM B q a=ms at *
 clear hms hROK
 generalize B.next.getD q []=row at *
 generalize vs.getD q .top=rv at *
 generalize ws.getD a .top=mv at *
 have hml:=hm'.sl.len
 have hmlen:=hm'.len
 repeat' (first | refine gA (And.intro (@iaN _ _ _ hn.sl) (And.intro @g1 (And.intro (@iaN _ _ _ hr.sl) (And.intro @g2 @hml)))) ?_ | (refine gB (And.intro (@iaN _ _ _ hn.sl) (And.intro @g1 (And.intro (@iaN _ _ _ hr.sl) (And.intro @g2 @hml)))) ?_;intro bb hbb;cases bb<;>(try simp only [hbs,if_false,reduceCtorEq] at hbb)) | apply qc_seq | fail)
 refine qc_loop (fun m e s1=>∃ k:Nat,m=ms.length - k∧k≤ms.length∧s.n≤s1.n∧I k s1∧e.at 0=y∧e.at 14=mv∧e.at 15 = .int .i64 (ms.length:Int)∧e.at 16 = .int .i64 (k:Int)) _
  ⟨0,rfl,by omega,Nat.le_refl _,hI0,ef,ef,ef,by simp only [lk,sv1,sv2,sv3,Nat.reduceEqDiff,Nat.reduceAdd,Nat.reduceLeDiff,reduceIte,if_false,if_true,mkVal,unLV,List.map,optTmps];rfl⟩ ?_
 clear e0 e1 e2 e3
 clear e
 rintro m e s1 ⟨k,rfl,hk,hn1,hI,e0,e14,e15,e16⟩
 by_cases hkl:k<ms.length
 ·have hkI:(k:Int)<(ms.length:Int):=by omega
  have hw:IntKind.i64.wrap ((k:Int)+1)=((k+1:Nat):Int):=by rw [wrap_i64 _ (by omega) (by omega)];rfl
  have hld:=fun s=>loadN_moves (s:=s) hkl
  obtain ⟨mm,hmm⟩:∃ mm,ms[k]? = some mm:=⟨_,List.getElem?_eq_getElem hkl⟩
  have hgd:ms.getD k (0,false)=mm:=by rw [List.getD_eq_getElem?_getD,hmm];rfl
  rw [hgd] at hld
  repeat' (first | refine gA (And.intro (@iaN _ _ _ hm'.sl) @hld) ?_ | (refine gB (And.intro (@iaN _ _ _ hm'.sl) @hld) ?_;intro bb hbb;cases bb<;>(try simp only [hbs,if_false,reduceCtorEq] at hbb)) | apply qc_seq | fail)
  ·exfalso;omega
  have hI2:=hst k s1 ((s1.new (.cells .mut [.int .i64 0, .bool false])).put s1.n (.cells .mut [.int .i64 mm.1, .bool mm.2])) hI hn1 (by simp) fun i hi=>by rw [St.get_put,if_neg (by omega),St.get_new,if_neg (by omega)]
  refine q_call wN (fv:=y) (vs:=[.int .i64 mm.1, .bool mm.2]) ef (by simp only [List.map,lk,sv1,sv2,sv3,Nat.reduceEqDiff,Nat.reduceAdd,Nat.reduceLeDiff,reduceIte,if_false,if_true,mkVal,unLV,List.map,optTmps]) (CallOk.mono (hbd k mm _ hmm hI2 (by simp;omega)) fun r s2 hh=>⟨trivial,?_⟩)
  obtain ⟨a1,rfl,hI3⟩:=hh
  have hn2:s1.n+1≤s2.n:=by simpa using a1
  simp only [Env.put_some]
  repeat' (first | refine gA trivial ?_ | (refine gB trivial ?_;intro bb hbb;cases bb<;>(try simp only [hbs,if_false,reduceCtorEq] at hbb)) | apply qc_seq | fail)
  refine ⟨ms.length - (k+1),by omega,k+1,rfl,by omega,by omega,hI3,?_⟩
  simp only [lk,sv1,sv2,sv3,Nat.reduceEqDiff,Nat.reduceAdd,Nat.reduceLeDiff,reduceIte,if_false,if_true,mkVal,unLV,List.map,optTmps,hw,e0,e14,e15,and_self]
 ·have hk':k=ms.length:=by omega
  subst hk'
  repeat' (first | refine gA trivial ?_ | (refine gB trivial ?_;intro bb hbb;cases bb<;>(try simp only [hbs,if_false,reduceCtorEq] at hbb)) | apply qc_seq | fail)
  ·exact ⟨.inl trivial,hn1,hI⟩
  ·exfalso;omega
theorem trange_ok {v:LV} {B:Bu} {sv nv:LV} (hB:IsB v B sv nv) (hok:Vb B) {q a:Nat} (hq:q<B.next.length) (ha:(a:Int)<B.L) {y:Opd} {p p' nt:Nat} {ac bc:LCode} {e:Env} {s:St} {Q:Out→Env→St→Prop}
  (hy:y.ev e = .fn (.func 39) [] [.pimm [.int .i64 B.L,sv,nv] 0, .pimm [.int .i64 (q:Int)] 0, .pimm [.int .i64 (a:Int)] 0]) (Jv:Nat→St→Prop) (h0:Jv 0 s)
  (hst:∀ k s1 s2,Jv k s1→s.n≤s1.n→s1.n≤s2.n→(∀ i,i<s1.n→i≠s.n→s2.get i=s1.get i)→Jv k s2)
  (hbd:∀ k m s1 (b1 b2:Blk),(rowM B q a)[k]? = some m→Jv k s1→s.n+1≤s1.n→s1.get s.n=some b1→∀ nt',Cd Tryz.prog GL true nt' ac (Tr.set (Tr.set e p (.int .i64 m.1)) p' (.bool m.2)) s1 (Thn (fun e1 s2=>s2.get s.n=some b1 ∧
   Cd Tryz.prog GL true nt' bc e1 (s2.put s.n b2) (fun o _ s3=>s3.get s.n=some b2∧s1.n≤s3.n∧o = .normal∧Jv (k+1) s3)) (fun _ _ _=>False)))
  (hend:∀ s1,Jv (rowM B q a).length s1→s.n+1≤s1.n→Q .normal e s1):Cd Tryz.prog GL false nt (.rangeFunc y [p,p'] ac bc) e s Q:=by
 refine qc_range hy ?_
 refine CallOk.mono (titer_ok hB hok hq ha (s:=s.new (.loop .ready none e [p,p'] ac bc)) (y:=.yld s.n)
  (I:=fun k s1=>s1.get s.n=some (.loop .ready none e [p,p'] ac bc)∧s.n+1≤s1.n∧Jv k s1) ?_ ?_ ?_) ?_
 ·refine ⟨by simp,by simp,hst 0 s _ h0 (Nat.le_refl _) (by simp) fun i hi _=>?_⟩
  rw [St.get_new,if_neg (by omega)]
 ·rintro k s1 s2 ⟨h1,h2,h3⟩ h4 h5 h6
  exact ⟨by rw [h6 s.n (by omega)];exact h1,by omega,hst k s1 s2 h3 (by omega) h5 fun i hi _=>h6 i hi⟩
 ·rintro k m s1 hx ⟨h1,h2,h3⟩ h4
  refine qc_yield h1 rfl fun nt'=>qc_mono _ (hbd k m s1 _ (.loop .busy none e [p,p'] ac bc) hx h3 h2 h1 nt') fun o e1 s2 hh=>?_
  cases o with
  | jmp j=>exact hh.elim
  | normal=>
   refine ⟨hh.1,qc_mono _ hh.2 fun o e3 s3 h5=>?_⟩
   obtain ⟨g1,g2,rfl,g4⟩:=h5
   refine ⟨_,_,_,_,_,_,g1,by rw [St.n_put];exact g2,rfl,by rw [St.get_put,if_pos rfl],by rw [St.n_put];omega,?_⟩
   exact hst _ s3 _ g4 (by omega) (by rw [St.n_put];omega) fun i hi hne=>by rw [St.get_put,if_neg hne]
 ·rintro v s1 ⟨h0',h1,h2,h3⟩
  refine ⟨_,_,_,_,_,_,h1,by simp,?_⟩
  exact hend _ (hst _ s1 _ h3 (by omega) (by rw [St.n_put];omega) fun i hi hne=>by rw [St.get_put,if_neg hne]) (by rw [St.n_put];omega)
theorem tmoves_ok {v:LV} {B:Bu} {sv nv:LV} (hB:IsB v B sv nv) (q a:Nat) (s:St):CallOk Tryz.prog GL (.fn (.func 38) [] [.pimm [.int .i64 B.L,sv,nv] 0]) [.int .i64 (q:Int), .int .i64 (a:Int)] s
  (fun r s'=>s'=s∧r = .fn (.func 39) [] [.pimm [.int .i64 B.L,sv,nv] 0, .pimm [.int .i64 (q:Int)] 0, .pimm [.int .i64 (a:Int)] 0]):=by
 refine call_fn (first:=[]) (caps:=[.pimm [.int .i64 B.L,sv,nv] 0]) Tryz.func38 (by decide +kernel) c38 (Nat.le_of_ble_eq_true rfl) (CodeOk.mono (Q:=fun o e s'=>(o = .normal∨o = .jmp .ret)∧s'=s∧e.at 5 = .fn (.func 39) [] [.pimm [.int .i64 B.L,sv,nv] 0, .pimm [.int .i64 (q:Int)] 0, .pimm [.int .i64 (a:Int)] 0]) ?_ fun o e s' hh=>by
  obtain ⟨h1,h2,h3⟩:=hh
  exact ⟨h1,_,by simp [l38,resVal,resOne,h3],h2,rfl⟩)
 have e0:(envOf ([]++[.int .i64 (q:Int), .int .i64 (a:Int)]++[.pimm [.int .i64 B.L,sv,nv] 0])).at 0 = .int .i64 (q:Int):=by rw [envOf_at];rfl
 have e1:(envOf ([]++[.int .i64 (q:Int), .int .i64 (a:Int)]++[.pimm [.int .i64 B.L,sv,nv] 0])).at 1 = .int .i64 (a:Int):=by rw [envOf_at];rfl
 have e2:(envOf ([]++[.int .i64 (q:Int), .int .i64 (a:Int)]++[.pimm [.int .i64 B.L,sv,nv] 0])).at 2 = .pimm [.int .i64 B.L,sv,nv] 0:=by rw [envOf_at];rfl
 generalize envOf ([]++[.int .i64 (q:Int), .int .i64 (a:Int)]++[.pimm [.int .i64 B.L,sv,nv] 0])=e at *
 refine Cd.out ?_
 unfold l38
 dsimp only [jA,qO,qm]
 repeat' (first | refine gA trivial ?_ | (refine gB trivial ?_;intro bb hbb;cases bb<;>(try simp only [hbs,if_false,reduceCtorEq] at hbb)) | apply qc_seq | fail)
 exact ⟨.inr trivial,trivial,by simp only [lk,sv1,sv2,sv3,Nat.reduceEqDiff,Nat.reduceAdd,Nat.reduceLeDiff,reduceIte,if_false,if_true,mkVal,unLV,List.map,optTmps,List.map,e2]⟩
end Go.Proofs.YtgobbogomchnhaaGreatDoor
