/- Sets of states as maps; tree.reached. -/
import Derived.Test.YtkbiecjdcjfhaaaValid
import Derived.Test.YtkbiecjdcjfhaaaPvRw
import Derived.Test.YtkbiecjdcjfhaaaTre
import Derived.Test.YtkbiecjdcjfhaaaTbase
set_option linter.unusedSimpArgs false
set_option linter.unusedVariables false
namespace Go.Proofs.Ytkbiecjdcjfhaaa
open Go Go.Pv Go.Tre
open Classical
def mvs (B:Bu) (q a:Nat):Moves:=(B.next.getD q []).getD a []
set_option maxHeartbeats 8000000 in
theorem chosenM_ok {mv fv:LV} {ms:Moves} (hm':IsMoves mv ms) (hl:ms.length≤1000000) {p:Int × Bool→Bool} {s:St} (hp:∀ (m:Int × Bool) (s1:St),CallOk Try.prog GL fv [.agg [.int .i64 m.1, .bool m.2]] s1 (fun r s'=>s'=s1∧r = .bool (p m))) :
    CallOk Try.prog GL (.fn (.func 83) [] []) [mv,fv] s (fun r s'=>Sg s' r 2 (mcells (ms.filter p)) (ms.filter p).length∧(∀ id,uses r id→s.n≤id)∧s.n≤s'.n∧∀ id,id<s.n→s'.get id=s.get id):=by
  have hml:=hm'.sl.len
  have hmx:maxLen=9223372036854775807:=by decide
  refine call_fn (first:=[]) (caps:=[]) Try.func83 (by decide +kernel) c83 (Nat.le_of_ble_eq_true rfl) (CodeOk.mono (Q:=fun o e s'=>(o = .normal∨o = .jmp .ret)∧∃ lv,e.at 4=lv∧Sg s' lv 2 (mcells (ms.filter p)) (ms.filter p).length∧(∀ id,uses lv id→s.n≤id)∧s.n≤s'.n∧∀ id,id<s.n→s'.get id=s.get id) ?_ fun o e s' hh=>by
    obtain ⟨h1,lv,h2,h3⟩:=hh
    exact ⟨h1,_,by simp [l83,resVal,resOne,h2],h3⟩)
  have e0:(envOf ([]++[mv,fv]++[])).at 0=mv:=by rw [envOf_at];rfl
  have e1:(envOf ([]++[mv,fv]++[])).at 1=fv:=by rw [envOf_at];rfl
  generalize envOf ([]++[mv,fv]++[])=e at *
  refine Cd.out ?_
  unfold l83
  dsimp only [jA,jG,qN,qS,qI,qA,qB,qC,qm]
  repeat' (first | refine gA @hml ?_ | (refine gB @hml ?_;intro bb hbb;cases bb<;>(try simp only [hbs,if_false,reduceCtorEq] at hbb)) | apply qc_seq | fail)
  refine qc_loop (fun m e s1=>∃ (k:Nat) (lv:LV),m=ms.length - k∧k≤ms.length∧(Sg s1 lv 2 (mcells ((ms.take k).filter p)) ((ms.take k).filter p).length∧(∀ id,uses lv id→s.n≤id)∧s.n≤s1.n∧∀ id,id<s.n→s1.get id=s.get id)∧e.at 1=fv∧e.at 5=lv∧e.at 8=mv∧e.at 9 = .int .i64 (ms.length:Int)∧e.at 10 = .int .i64 (k:Int)) _
    ⟨0, .nils,rfl,by omega,⟨Sg.nil _ _,fun id h=>absurd h (uses_nils id),Nat.le_refl _,fun _ _=>rfl⟩,ef,ef,ef,ef,by simp only [lk,sv1,sv2,sv3,Nat.reduceEqDiff,Nat.reduceAdd,Nat.reduceLeDiff,reduceIte,if_false,if_true,mkVal,unLV,List.map,optTmps];rfl⟩ ?_
  clear e0 e1
  clear e
  rintro m e s1 ⟨k,lv,rfl,hk,⟨hS,hU,hn,ho⟩,e1,e5,e8,e9,e10⟩
  by_cases hkl:k<ms.length
  · have hkI:(k:Int)<(ms.length:Int):=by omega
    have hwk:IntKind.i64.wrap ((k:Int)+1)=((k+1:Nat):Int):=by rw [wrap_i64 _ (by omega) (by omega)];rfl
    have hld:=fun s=>loadN_moves (s:=s) hkl
    have htk:ms.take (k+1)=ms.take k++[ms.getD k (0,false)]:=by rw [List.take_add_one,List.getD_eq_getElem?_getD,List.getElem?_eq_getElem hkl];rfl
    have hfl:=List.length_filter_le p (ms.take k)
    rw [List.length_take] at hfl
    generalize ms.getD k (0,false)=mm at *
    have htB:=Bx.mk htk
    have hSB:=Bx.mk (And.intro hU (And.intro hn ho))
    have hlt:=fun id=>hS.lt (id:=id)
    clear htk hU hn ho
    repeat' (first | refine gA (And.intro (@iaN _ _ _ hm'.sl) @hld) ?_ | (refine gB (And.intro (@iaN _ _ _ hm'.sl) @hld) ?_;intro bb hbb;cases bb<;>(try simp only [hbs,if_false,reduceCtorEq] at hbb)) | apply qc_seq | fail)
    all_goals first | (exfalso;first | omega | exact hbb.elim) | skip
    have hS1:Sg ((s1.new (.cells .mut [.int .i64 0, .bool false])).put s1.n (.cells .mut [.int .i64 mm.1, .bool mm.2])) lv 2 (mcells ((ms.take k).filter p)) ((ms.take k).filter p).length:=hS.mono (by simp) fun id hid=>by
      have:=hlt id hid
      rw [St.get_put,if_neg (by omega),St.get_new,if_neg (by omega)]
    have ho1:∀ id,id<s1.n→((s1.new (.cells .mut [.int .i64 0, .bool false])).put s1.n (.cells .mut [.int .i64 mm.1, .bool mm.2])).get id=s1.get id:=fun id hid=>by rw [St.get_put,if_neg (by omega),St.get_new,if_neg (by omega)]
    have hg1:((s1.new (.cells .mut [.int .i64 0, .bool false])).put s1.n (.cells .mut [.int .i64 mm.1, .bool mm.2])).get s1.n=some (.cells .mut [.int .i64 mm.1, .bool mm.2]):=by rw [St.get_put,if_pos rfl]
    have hn1:((s1.new (.cells .mut [.int .i64 0, .bool false])).put s1.n (.cells .mut [.int .i64 mm.1, .bool mm.2])).n=s1.n+1:=rfl
    generalize (s1.new (.cells .mut [.int .i64 0, .bool false])).put s1.n (.cells .mut [.int .i64 mm.1, .bool mm.2])=s2 at *
    clear hS
    refine q_call wN (fv:=fv) (vs:=[.agg [.int .i64 mm.1, .bool mm.2]]) ef (by simp only [List.map,lk,sv1,sv2,sv3,Nat.reduceEqDiff,Nat.reduceAdd,Nat.reduceLeDiff,reduceIte,if_false,if_true,mkVal,unLV,List.map,optTmps]) (CallOk.mono (hp mm _) fun r s3 hh=>⟨trivial,?_⟩)
    obtain ⟨h3,rfl⟩:=hh
    subst s3
    simp only [Env.put_some]
    cases hpm:p mm with
    | true=>
      have hxB:Bx ((ms.take (k+1)).filter p=(ms.take k).filter p++[mm]):=⟨by rw [htB.out,List.filter_append];simp [hpm]⟩
      clear hpm hld
      generalize (ms.take k).filter p=LL at *
      repeat' (first | refine gA trivial ?_ | (refine gB trivial ?_;intro bb hbb;cases bb<;>(try simp only [hbs,if_false,reduceCtorEq] at hbb)) | apply qc_seq | fail)
      refine q_appG (n:=LL.length) (esz:=2) (xv:=.agg [.int .i64 mm.1, .bool mm.2]) (yv:=lv) (vs:=[.int .i64 mm.1, .bool mm.2]) (cells:=mcells LL) ef rfl rfl rfl (Stays.closed rfl) ef hS1 (by decide) (by omega) (fun s3 j3 a1 a2 a3 a4 a5 a6=>?_)
      repeat' (first | refine gA trivial ?_ | (refine gB trivial ?_;intro bb hbb;cases bb<;>(try simp only [hbs,if_false,reduceCtorEq] at hbb)) | apply qc_seq | fail)
      refine ⟨ms.length - (k+1),by omega,k+1, .sref j3 0 (LL.length+1) 2,rfl,by omega,⟨?_,fun id hu=>by have:=uses_sref.1 hu;have:=hSB.out.2.1;omega,by have:=hSB.out.2.1;omega,fun id hid=>?_⟩,?_⟩
      · rw [hxB.out,mcells_append]
        simpa [mcells] using a4
      · have h1:=hSB.out.2.1
        rw [a6 id (by omega) (fun hu=>by have:=hSB.out.1 id hu;omega),ho1 id (by omega)]
        exact hSB.out.2.2 id hid
      · simp only [lk,sv1,sv2,sv3,Nat.reduceEqDiff,Nat.reduceAdd,Nat.reduceLeDiff,reduceIte,if_false,if_true,mkVal,unLV,List.map,optTmps,hwk,e1,e8,e9,and_self]
    | false=>
      have hxB:Bx ((ms.take (k+1)).filter p=(ms.take k).filter p):=⟨by rw [htB.out,List.filter_append];simp [hpm]⟩
      clear hpm hld
      repeat' (first | refine gA trivial ?_ | (refine gB trivial ?_;intro bb hbb;cases bb<;>(try simp only [hbs,if_false,reduceCtorEq] at hbb)) | apply qc_seq | fail)
      refine ⟨ms.length - (k+1),by omega,k+1,lv,rfl,by omega,⟨by rw [hxB.out];exact hS1,hSB.out.1,by have:=hSB.out.2.1;omega,fun id hid=>?_⟩,?_⟩
      · have h1:=hSB.out.2.1
        rw [ho1 id (by omega)]
        exact hSB.out.2.2 id hid
      · simp only [lk,sv1,sv2,sv3,Nat.reduceEqDiff,Nat.reduceAdd,Nat.reduceLeDiff,reduceIte,if_false,if_true,mkVal,unLV,List.map,optTmps,hwk,e1,e5,e8,e9,and_self]
  · have hk':k=ms.length:=by omega
    subst hk'
    rw [List.take_length] at hS
    have hSB:=Bx.mk (And.intro hS (And.intro hU (And.intro hn ho)))
    clear hS hU hn ho
    repeat' (first | refine gA trivial ?_ | (refine gB trivial ?_;intro bb hbb;cases bb<;>(try simp only [hbs,if_false,reduceCtorEq] at hbb)) | apply qc_seq | fail)
    all_goals first | (exfalso;first | omega | exact hbb.elim) | skip
    exact ⟨.inr trivial,lv,ef,hSB.out⟩
theorem gr1_ok (m:Int × Bool) (s:St):CallOk Try.prog GL (.fn (.func 74) [] []) [.agg [.int .i64 m.1, .bool m.2]] s (fun r s'=>s'=s∧r = .bool true):=by
  refine call_fn (first:=[]) (caps:=[]) Try.func74 (by decide +kernel) c74 (Nat.le_of_ble_eq_true rfl) (CodeOk.mono (Q:=fun o e s'=>(o = .normal∨o = .jmp .ret)∧s'=s∧e.at 2 = .bool true) ?_ fun o e s' hh=>by
    obtain ⟨h1,h2,h3⟩:=hh
    exact ⟨h1,_,by simp [l74,resVal,resOne,h3],h2,rfl⟩)
  have e0:(envOf ([]++[.agg [.int .i64 m.1, .bool m.2]]++[])).at 0 = .agg [.int .i64 m.1, .bool m.2]:=by rw [envOf_at];rfl
  generalize envOf ([]++[.agg [.int .i64 m.1, .bool m.2]]++[])=e at *
  refine Cd.out ?_
  unfold l74
  dsimp only [jA,qK,qO]
  repeat' (first | refine gA trivial ?_ | (refine gB trivial ?_;intro bb hbb;cases bb<;>(try simp only [hbs,if_false,reduceCtorEq] at hbb)) | apply qc_seq | fail)
  exact ⟨.inr trivial,trivial,ef⟩
theorem gr2_ok (m:Int × Bool) (s:St):CallOk Try.prog GL (.fn (.func 75) [] []) [.agg [.int .i64 m.1, .bool m.2]] s (fun r s'=>s'=s∧r = .bool m.2):=by
  refine call_fn (first:=[]) (caps:=[]) Try.func75 (by decide +kernel) c75 (Nat.le_of_ble_eq_true rfl) (CodeOk.mono (Q:=fun o e s'=>(o = .normal∨o = .jmp .ret)∧s'=s∧e.at 2 = .bool m.2) ?_ fun o e s' hh=>by
    obtain ⟨h1,h2,h3⟩:=hh
    exact ⟨h1,_,by simp [l75,resVal,resOne,h3],h2,rfl⟩)
  have e0:(envOf ([]++[.agg [.int .i64 m.1, .bool m.2]]++[])).at 0 = .agg [.int .i64 m.1, .bool m.2]:=by rw [envOf_at];rfl
  generalize envOf ([]++[.agg [.int .i64 m.1, .bool m.2]]++[])=e at *
  refine Cd.out ?_
  unfold l75
  dsimp only [jA,qF,qK,qO,qm,ql]
  repeat' (first | refine gA trivial ?_ | (refine gB trivial ?_;intro bb hbb;cases bb<;>(try simp only [hbs,if_false,reduceCtorEq] at hbb)) | apply qc_seq | fail)
  exact ⟨.inr trivial,trivial,ef⟩
end Go.Proofs.Ytkbiecjdcjfhaaa
