/- record.names, position, and what Step asks of names. -/
import Derived.Test.YtkbiecjdcjfhaaaRecn
set_option linter.unusedSimpArgs false
set_option linter.unusedVariables false
namespace Go.Proofs.Ytkbiecjdcjfhaaa
open Go Go.Pv
open Classical
def marks (good bad:List Int) (n:Nat):Int→Int:=mkA bad n 2 (mkA good n 1 fun _=>0)
set_option maxHeartbeats 8000000 in
theorem names_ok {gv bv:LV} {good bad:List Int} (hg:IsInts gv good) (hb:IsInts bv bad) {n:Nat} {s:St} :
    CallOk Try.prog GL (.fn (.func 53) [] []) [.agg [gv,bv], .int .i64 (n:Int)] s (fun r s'=>∃ M E,r = .mref M∧s.n≤s'.n∧s.n≤M∧M<s'.n∧s'.get M=some (.map (mG embI E))∧MK E (marks good bad n)∧∀ id,id<s.n→s'.get id=s.get id):=by
  have hgc:=hg.closed
  have hbc:=hb.closed
  have hg1:=hg.sl.cell
  have hb1:=hb.sl.cell
  refine call_fn (first:=[]) (caps:=[]) Try.func53 (by decide +kernel) c53 (Nat.le_of_ble_eq_true rfl) (CodeOk.mono (Q:=fun o e s'=>(o = .normal∨o = .jmp .ret)∧∃ M E,e.at 4 = .mref M∧s.n≤s'.n∧s.n≤M∧M<s'.n∧s'.get M=some (.map (mG embI E))∧MK E (marks good bad n)∧∀ id,id<s.n→s'.get id=s.get id) ?_ fun o e s' hh=>by
    obtain ⟨h1,M,E,h2,h3⟩:=hh
    exact ⟨h1,_,by simp [l53,resVal,resOne,h2],M,E,rfl,h3⟩)
  have e0:(envOf ([]++[.agg [gv,bv], .int .i64 (n:Int)]++[])).at 0 = .agg [gv,bv]:=by rw [envOf_at];rfl
  have e1:(envOf ([]++[.agg [gv,bv], .int .i64 (n:Int)]++[])).at 1 = .int .i64 (n:Int):=by rw [envOf_at];rfl
  generalize envOf ([]++[.agg [gv,bv], .int .i64 (n:Int)]++[])=e at *
  refine Cd.out ?_
  unfold l53
  dsimp only [jA,jG,qF,qO,qm,ql]
  repeat' (first | refine gA trivial ?_ | (refine gB trivial ?_;intro bb hbb;cases bb<;>(try simp only [hbs,if_false,reduceCtorEq] at hbb)) | apply qc_seq | fail)
  refine q_mkmap wN rfl ?_
  repeat' (first | refine gA trivial ?_ | (refine gB trivial ?_;intro bb hbb;cases bb<;>(try simp only [hbs,if_false,reduceCtorEq] at hbb)) | apply qc_seq | fail)
  refine q_call wN (fv:=.fn (.func 69) [] [.pimm [.int .i64 (n:Int)] 0, .pref (s.n+1) 0]) (vs:=[gv, .int .i64 1]) ef (by simp only [List.map,lk,sv1,sv2,sv3,Nat.reduceEqDiff,Nat.reduceAdd,Nat.reduceLeDiff,reduceIte,if_false,if_true,mkVal,unLV,List.map,optTmps]) (CallOk.mono (mark_ok hg (n:=n) (md:=.mut) (jm:=s.n+1) (M:=s.n) (E:=[]) (f:=fun _=>0) (by rw [St.get_put,if_pos rfl]) (by rw [St.get_put,if_neg (by omega),St.get_new,if_neg (by simp),St.get_new,if_pos rfl];rfl) MK.nil (by omega)) fun r s2 hh=>⟨trivial,?_⟩)
  obtain ⟨n2,⟨E2,g2,k2⟩,o2⟩:=hh
  have hn2:s2.n=s.n+2:=by rw [n2];simp
  have hj2:s2.get (s.n+1)=some (.cells .mut [.mref s.n]):=by rw [o2 _ (by omega),St.get_put,if_pos rfl]
  have ho2:∀ id,id<s.n→s2.get id=s.get id:=fun id hid=>by rw [o2 _ (by omega),St.get_put,if_neg (by omega),St.get_new,if_neg (by simp;omega),St.get_new,if_neg (by omega)]
  simp only [Env.put_some]
  clear n2 o2
  repeat' (first | refine gA trivial ?_ | (refine gB trivial ?_;intro bb hbb;cases bb<;>(try simp only [hbs,if_false,reduceCtorEq] at hbb)) | apply qc_seq | fail)
  refine q_call wN (fv:=.fn (.func 69) [] [.pimm [.int .i64 (n:Int)] 0, .pref (s.n+1) 0]) (vs:=[bv, .int .i64 2]) ef (by simp only [List.map,lk,sv1,sv2,sv3,Nat.reduceEqDiff,Nat.reduceAdd,Nat.reduceLeDiff,reduceIte,if_false,if_true,mkVal,unLV,List.map,optTmps]) (CallOk.mono (mark_ok hb (n:=n) (md:=.mut) (jm:=s.n+1) (M:=s.n) (E:=E2) hj2 g2 k2 (by omega)) fun r s3 hh=>⟨trivial,?_⟩)
  obtain ⟨n3,⟨E3,g3,k3⟩,o3⟩:=hh
  have hn3:s3.n=s.n+2:=by omega
  have hj3:s3.get (s.n+1)=some (.cells .mut [.mref s.n]):=by rw [o3 _ (by omega)];exact hj2
  have ho3:∀ id,id<s.n→s3.get id=s.get id:=fun id hid=>by rw [o3 _ (by omega)];exact ho2 id hid
  simp only [Env.put_some]
  clear n3 o3 hj2 g2 ho2 hn2
  repeat' (first | refine gA trivial ?_ | (refine gB trivial ?_;intro bb hbb;cases bb<;>(try simp only [hbs,if_false,reduceCtorEq] at hbb)) | apply qc_seq | fail)
  exact ⟨.inr trivial,s.n,E3,ef,by omega,by omega,by omega,g3,k3,ho3⟩
theorem bad_ok {jm M:Nat} {md:Md} {s:St} {E:List (Int × LV)} {f:Int→Int} (hj:s.get jm=some (.cells md [.mref M])) (hM:s.get M=some (.map (mG embI E))) (hE:MK E f) (x:Int) :
    CallOk Try.prog GL (.fn (.func 54) [] [.pref jm 0]) [.int .i64 x] s (fun r s'=>s'=s∧r = .bool (decide (f x=2))):=by
  refine call_fn (first:=[]) (caps:=[.pref jm 0]) Try.func54 (by decide +kernel) c54 (Nat.le_of_ble_eq_true rfl) (CodeOk.mono (Q:=fun o e s'=>(o = .normal∨o = .jmp .ret)∧s'=s∧e.at 3 = .bool (decide (f x=2))) ?_ fun o e s' hh=>by
    obtain ⟨h1,h2,h3⟩:=hh
    exact ⟨h1,_,by simp [l54,resVal,resOne,h3],h2,rfl⟩)
  have e0:(envOf ([]++[.int .i64 x]++[.pref jm 0])).at 0 = .int .i64 x:=by rw [envOf_at];rfl
  have e1:(envOf ([]++[.int .i64 x]++[.pref jm 0])).at 1 = .pref jm 0:=by rw [envOf_at];rfl
  generalize envOf ([]++[.int .i64 x]++[.pref jm 0])=e at *
  refine Cd.out ?_
  unfold l54
  dsimp only [jA,qK,qm,ql]
  have hk:=hE x
  generalize f x=y at *
  repeat' (first | refine gA trivial ?_ | (refine gB trivial ?_;intro bb hbb;cases bb<;>(try simp only [hbs,if_false,reduceCtorEq] at hbb)) | apply qc_seq | fail)
  refine q_lookG1 keyI (M:=M) (k:=x) (L:=E) wN ef (by simp only [lk,sv1,sv2,sv3,Nat.reduceEqDiff,Nat.reduceAdd,Nat.reduceLeDiff,reduceIte,if_false,if_true,mkVal,unLV,List.map,optTmps];rfl) hM ?_
  rw [hk]
  repeat' (first | refine gA trivial ?_ | (refine gB trivial ?_;intro bb hbb;cases bb<;>(try simp only [hbs,if_false,reduceCtorEq] at hbb)) | apply qc_seq | fail)
  · exact ⟨.inr trivial,trivial,by rw [decide_eq_false hbb];simp only [lk,sv1,sv2,sv3,Nat.reduceEqDiff,Nat.reduceAdd,Nat.reduceLeDiff,reduceIte,if_false,if_true,mkVal,unLV,List.map,optTmps]⟩
  · exact ⟨.inr trivial,trivial,by rw [decide_eq_true hbb];simp only [lk,sv1,sv2,sv3,Nat.reduceEqDiff,Nat.reduceAdd,Nat.reduceLeDiff,reduceIte,if_false,if_true,mkVal,unLV,List.map,optTmps]⟩
theorem good_ok {jm M:Nat} {md:Md} {s:St} {E:List (Int × LV)} {f:Int→Int} (hj:s.get jm=some (.cells md [.mref M])) (hM:s.get M=some (.map (mG embI E))) (hE:MK E f) (x:Int) :
    CallOk Try.prog GL (.fn (.func 55) [] [.pref jm 0]) [.int .i64 x] s (fun r s'=>s'=s∧r = .bool (decide (f x=1))):=by
  refine call_fn (first:=[]) (caps:=[.pref jm 0]) Try.func55 (by decide +kernel) c55 (Nat.le_of_ble_eq_true rfl) (CodeOk.mono (Q:=fun o e s'=>(o = .normal∨o = .jmp .ret)∧s'=s∧e.at 3 = .bool (decide (f x=1))) ?_ fun o e s' hh=>by
    obtain ⟨h1,h2,h3⟩:=hh
    exact ⟨h1,_,by simp [l55,resVal,resOne,h3],h2,rfl⟩)
  have e0:(envOf ([]++[.int .i64 x]++[.pref jm 0])).at 0 = .int .i64 x:=by rw [envOf_at];rfl
  have e1:(envOf ([]++[.int .i64 x]++[.pref jm 0])).at 1 = .pref jm 0:=by rw [envOf_at];rfl
  generalize envOf ([]++[.int .i64 x]++[.pref jm 0])=e at *
  refine Cd.out ?_
  unfold l55
  dsimp only [jA,qK,qm,ql]
  have hk:=hE x
  generalize f x=y at *
  repeat' (first | refine gA trivial ?_ | (refine gB trivial ?_;intro bb hbb;cases bb<;>(try simp only [hbs,if_false,reduceCtorEq] at hbb)) | apply qc_seq | fail)
  refine q_lookG1 keyI (M:=M) (k:=x) (L:=E) wN ef (by simp only [lk,sv1,sv2,sv3,Nat.reduceEqDiff,Nat.reduceAdd,Nat.reduceLeDiff,reduceIte,if_false,if_true,mkVal,unLV,List.map,optTmps];rfl) hM ?_
  rw [hk]
  repeat' (first | refine gA trivial ?_ | (refine gB trivial ?_;intro bb hbb;cases bb<;>(try simp only [hbs,if_false,reduceCtorEq] at hbb)) | apply qc_seq | fail)
  · exact ⟨.inr trivial,trivial,by rw [decide_eq_false hbb];simp only [lk,sv1,sv2,sv3,Nat.reduceEqDiff,Nat.reduceAdd,Nat.reduceLeDiff,reduceIte,if_false,if_true,mkVal,unLV,List.map,optTmps]⟩
  · exact ⟨.inr trivial,trivial,by rw [decide_eq_true hbb];simp only [lk,sv1,sv2,sv3,Nat.reduceEqDiff,Nat.reduceAdd,Nat.reduceLeDiff,reduceIte,if_false,if_true,mkVal,unLV,List.map,optTmps]⟩
set_option maxHeartbeats 8000000 in
theorem pos_ok {rv fv:LV} {r:List Int} (hr:IsInts rv r) (hl:r.length≤1000000) {s:St} {p:Int→Bool} (hp:∀ x,CallOk Try.prog GL fv [.int .i64 x] s (fun b s'=>s'=s∧b = .bool (p x))) :
    CallOk Try.prog GL (.fn (.func 56) [] []) [rv,fv] s (fun v s'=>s'=s∧v = .int .i64 (r.findIdx p:Int)):=by
  have hrl:=hr.sl.len
  have hmx:maxLen=9223372036854775807:=by decide
  refine call_fn (first:=[]) (caps:=[]) Try.func56 (by decide +kernel) c56 (Nat.le_of_ble_eq_true rfl) (CodeOk.mono (Q:=fun o e s'=>(o = .normal∨o = .jmp .ret)∧s'=s∧e.at 4 = .int .i64 (r.findIdx p:Int)) ?_ fun o e s' hh=>by
    obtain ⟨h1,h2,h3⟩:=hh
    exact ⟨h1,_,by simp [l56,resVal,resOne,h3],h2,rfl⟩)
  have e0:(envOf ([]++[rv,fv]++[])).at 0=rv:=by rw [envOf_at];rfl
  have e1:(envOf ([]++[rv,fv]++[])).at 1=fv:=by rw [envOf_at];rfl
  generalize envOf ([]++[rv,fv]++[])=e at *
  refine Cd.out ?_
  unfold l56
  dsimp only [jA,qS,qI,qA,qB,qC,qm,ql]
  repeat' (first | refine gA @hrl ?_ | (refine gB @hrl ?_;intro bb hbb;cases bb<;>(try simp only [hbs,if_false,reduceCtorEq] at hbb)) | apply qc_seq | fail)
  refine qc_loop (fun m e s1=>∃ k:Nat,m=r.length - k∧k≤r.length∧s1=s∧(∀ j x,j<k→r[j]? = some x→p x=false)∧e.at 0=rv∧e.at 1=fv∧e.at 7=rv∧e.at 8 = .int .i64 (r.length:Int)∧e.at 9 = .int .i64 (k:Int)) _
    ⟨0,rfl,by omega,rfl,fun j x hj=>absurd hj (Nat.not_lt_zero _),ef,ef,ef,ef,by simp only [lk,sv1,sv2,sv3,Nat.reduceEqDiff,Nat.reduceAdd,Nat.reduceLeDiff,reduceIte,if_false,if_true,mkVal,unLV,List.map,optTmps];rfl⟩ ?_
  clear e0 e1
  clear e
  rintro m e s1 ⟨k,rfl,hk,hs1,hno,e0,e1,e7,e8,e9⟩
  subst s1
  by_cases hkl:k<r.length
  · have hkI:(k:Int)<(r.length:Int):=by omega
    have hwk:IntKind.i64.wrap ((k:Int)+1)=((k+1:Nat):Int):=by rw [wrap_i64 _ (by omega) (by omega)];rfl
    have hg:=ints_get hkI
    have hx:r[k]? = some (r.getD k 0):=by rw [List.getD_eq_getElem?_getD,List.getElem?_eq_getElem hkl];rfl
    generalize r.getD k 0=x at *
    have hnoB:=Bx.mk hno
    have hxB:=Bx.mk hx
    clear hno hx
    repeat' (first | refine gA (And.intro (@iaN _ _ _ hr.sl) @hg) ?_ | (refine gB (And.intro (@iaN _ _ _ hr.sl) @hg) ?_;intro bb hbb;cases bb<;>(try simp only [hbs,if_false,reduceCtorEq] at hbb)) | apply qc_seq | fail)
    all_goals first | (exfalso;first | omega | exact hbb.elim) | skip
    refine q_call wN (fv:=fv) (vs:=[.int .i64 x]) ef (by simp only [List.map,lk,sv1,sv2,sv3,Nat.reduceEqDiff,Nat.reduceAdd,Nat.reduceLeDiff,reduceIte,if_false,if_true,mkVal,unLV,List.map,optTmps]) (CallOk.mono (hp x) fun b s2 hh=>⟨trivial,?_⟩)
    obtain ⟨h2,rfl⟩:=hh
    subst s2
    simp only [Env.put_some]
    cases hpx:p x with
    | true=>
      have hF:Bx (r.findIdx p=k):=⟨by
        have h1:r[k]=x:=by have:=hxB.out;rw [List.getElem?_eq_getElem hkl] at this;exact Option.some.inj this
        rw [List.findIdx_eq hkl]
        exact ⟨by rw [h1];exact hpx,fun j hj=>hnoB.out j _ hj (List.getElem?_eq_getElem _)⟩⟩
      clear hpx
      repeat' (first | refine gA trivial ?_ | (refine gB trivial ?_;intro bb hbb;cases bb<;>(try simp only [hbs,if_false,reduceCtorEq] at hbb)) | apply qc_seq | fail)
      exact ⟨.inr trivial,trivial,by rw [hF.out];simp only [lk,sv1,sv2,sv3,Nat.reduceEqDiff,Nat.reduceAdd,Nat.reduceLeDiff,reduceIte,if_false,if_true,mkVal,unLV,List.map,optTmps]⟩
    | false=>
      have hpB:=Bx.mk hpx
      clear hpx
      repeat' (first | refine gA trivial ?_ | (refine gB trivial ?_;intro bb hbb;cases bb<;>(try simp only [hbs,if_false,reduceCtorEq] at hbb)) | apply qc_seq | fail)
      refine ⟨r.length - (k+1),by omega,k+1,rfl,by omega,trivial,fun j z hj hz=>?_,?_⟩
      · by_cases hjk:j=k
        · subst hjk
          rw [hxB.out] at hz
          rw [← Option.some.inj hz]
          exact hpB.out
        · exact hnoB.out j z (by omega) hz
      · simp only [lk,sv1,sv2,sv3,Nat.reduceEqDiff,Nat.reduceAdd,Nat.reduceLeDiff,reduceIte,if_false,if_true,mkVal,unLV,List.map,optTmps,hwk,e0,e1,e7,e8,and_self]
  · have hF:Bx (r.findIdx p=r.length):=⟨List.findIdx_eq_length.2 fun x hx=>by
      obtain ⟨j,hj⟩:=List.mem_iff_getElem?.1 hx
      exact hno j x (by have:=(List.getElem?_eq_some_iff.1 hj).1;omega) hj⟩
    clear hno
    repeat' (first | refine gA @hrl ?_ | (refine gB @hrl ?_;intro bb hbb;cases bb<;>(try simp only [hbs,if_false,reduceCtorEq] at hbb)) | apply qc_seq | fail)
    all_goals first | (exfalso;first | omega | exact hbb.elim) | skip
    exact ⟨.inr trivial,trivial,by rw [hF.out];simp only [lk,sv1,sv2,sv3,Nat.reduceEqDiff,Nat.reduceAdd,Nat.reduceLeDiff,reduceIte,if_false,if_true,mkVal,unLV,List.map,optTmps]⟩
end Go.Proofs.Ytkbiecjdcjfhaaa
