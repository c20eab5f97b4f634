/- record.names, position, and what Step asks of names. -/
import Derived.Test.YtkbiecjdcjfhaaaRecv
set_option linter.unusedSimpArgs false
set_option linter.unusedVariables false
namespace Go.Proofs.Ytkbiecjdcjfhaaa
open Go Go.Pv
open Classical
def MK (E:List (Int × LV)) (f:Int→Int):Prop:=∀ k,(lookG E k).getD (.int .i64 0) = .int .i64 (f k)
theorem MK.nil:MK [] fun _=>0:=fun k=>rfl
def mkA (L:List Int) (n:Nat) (m:Int) (f:Int→Int) (k:Int):Int:=if k∈L∧1≤k∧k≤(n:Int) then m else f k
set_option maxHeartbeats 8000000 in
theorem mark_ok {lv:LV} {L:List Int} (hL:IsInts lv L) {n:Nat} {mv:Int} {jm M:Nat} {md:Md} {s:St} {E:List (Int × LV)} {f:Int→Int} (hj:s.get jm=some (.cells md [.mref M])) (hM:s.get M=some (.map (mG embI E))) (hE:MK E f) (hjM:jm≠M) :
    CallOk Try.prog GL (.fn (.func 69) [] [.pimm [.int .i64 (n:Int)] 0, .pref jm 0]) [lv, .int .i64 mv] s (fun _ s'=>s'.n=s.n∧(∃ E',s'.get M=some (.map (mG embI E'))∧MK E' (mkA L n mv f))∧∀ id,id≠M→s'.get id=s.get id):=by
  have hll:=hL.sl.len
  have hlen:=hL.len
  have hmx:maxLen=9223372036854775807:=by decide
  refine call_fn (first:=[]) (caps:=[.pimm [.int .i64 (n:Int)] 0, .pref jm 0]) Try.func69 (by decide +kernel) c69 (Nat.le_of_ble_eq_true rfl) (CodeOk.mono (Q:=fun o e s'=>(o = .normal∨o = .jmp .ret)∧s'.n=s.n∧(∃ E',s'.get M=some (.map (mG embI E'))∧MK E' (mkA L n mv f))∧∀ id,id≠M→s'.get id=s.get id) ?_ fun o e s' hh=>by
    exact ⟨hh.1, .tup [],by simp [l69,resVal],hh.2⟩)
  have e0:(envOf ([]++[lv, .int .i64 mv]++[.pimm [.int .i64 (n:Int)] 0, .pref jm 0])).at 0=lv:=by rw [envOf_at];rfl
  have e1:(envOf ([]++[lv, .int .i64 mv]++[.pimm [.int .i64 (n:Int)] 0, .pref jm 0])).at 1 = .int .i64 mv:=by rw [envOf_at];rfl
  have e2:(envOf ([]++[lv, .int .i64 mv]++[.pimm [.int .i64 (n:Int)] 0, .pref jm 0])).at 2 = .pimm [.int .i64 (n:Int)] 0:=by rw [envOf_at];rfl
  have e3:(envOf ([]++[lv, .int .i64 mv]++[.pimm [.int .i64 (n:Int)] 0, .pref jm 0])).at 3 = .pref jm 0:=by rw [envOf_at];rfl
  generalize envOf ([]++[lv, .int .i64 mv]++[.pimm [.int .i64 (n:Int)] 0, .pref jm 0])=e at *
  refine Cd.out ?_
  unfold l69
  dsimp only [jA,jD,qM,qL,qS,qI,qA,qB,qC,qm,ql]
  repeat' (first | refine gA @hll ?_ | (refine gB @hll ?_;intro bb hbb;cases bb<;>(try simp only [hbs,if_false,reduceCtorEq] at hbb)) | apply qc_seq | fail)
  refine qc_loop (fun m e s1=>∃ k:Nat,m=L.length - k∧k≤L.length∧(s1.n=s.n∧(∃ E',s1.get M=some (.map (mG embI E'))∧MK E' (mkA (L.take k) n mv f))∧∀ id,id≠M→s1.get id=s.get id)∧e.at 1 = .int .i64 mv∧e.at 2 = .pimm [.int .i64 (n:Int)] 0∧e.at 3 = .pref jm 0∧e.at 8=lv∧e.at 9 = .int .i64 (L.length:Int)∧e.at 10 = .int .i64 (k:Int)) _
    ⟨0, rfl, by omega, ⟨rfl, ⟨E, hM, by have : mkA (L.take 0) n mv f = f := by funext k; simp [mkA]
                                        rw [this];exact hE⟩,fun _ _=>rfl⟩,ef,ef,ef,ef,ef,by simp only [lk,sv1,sv2,sv3,Nat.reduceEqDiff,Nat.reduceAdd,Nat.reduceLeDiff,reduceIte,if_false,if_true,mkVal,unLV,List.map,optTmps];rfl⟩ ?_
  clear e0 e1 e2 e3 hM hE E
  clear e
  rintro m e s1 ⟨k,rfl,hk,⟨hn1,⟨E,hM,hE⟩,hold⟩,e1,e2,e3,e8,e9,e10⟩
  by_cases hkl:k<L.length
  · have hkI:(k:Int)<(L.length:Int):=by omega
    have hwk:IntKind.i64.wrap ((k:Int)+1)=((k+1:Nat):Int):=by rw [wrap_i64 _ (by omega) (by omega)];rfl
    have hg:=ints_get hkI
    have hj1:s1.get jm=some (.cells md [.mref M]):=by rw [hold _ hjM];exact hj
    have htk:L.take (k+1)=L.take k++[L.getD k 0]:=by rw [List.take_add_one,List.getD_eq_getElem?_getD,List.getElem?_eq_getElem hkl];rfl
    generalize L.getD k 0=x at *
    have hSB:Bx (s1.n=s.n∧(∀ id,id≠M→s1.get id=s.get id)∧MK E (mkA (L.take k) n mv f)):=⟨hn1,hold,hE⟩
    have hTB:Bx (L.take (k+1)=L.take k++[x]):=⟨htk⟩
    clear htk hn1 hold hE hj
    by_cases hx:1≤x∧x≤(n:Int)
    · have hxB:=Bx.mk hx
      repeat' (first | refine gA (And.intro (@iaN _ _ _ hL.sl) @hg) ?_ | (refine gB (And.intro (@iaN _ _ _ hL.sl) @hg) ?_;intro bb hbb;cases bb<;>(try simp only [hbs,if_false,reduceCtorEq] at hbb)) | apply qc_seq | fail)
      all_goals first | (exfalso;first | omega | exact hbb.elim) | skip
      refine q_updG keyI (M:=M) (k:=x) (vv:=.int .i64 mv) (L:=E) ef (by simp only [lk,sv1,sv2,sv3,Nat.reduceEqDiff,Nat.reduceAdd,Nat.reduceLeDiff,reduceIte,if_false,if_true,mkVal,unLV,List.map,optTmps];rfl) ef hM ?_
      repeat' (first | refine gA trivial ?_ | (refine gB trivial ?_;intro bb hbb;cases bb<;>(try simp only [hbs,if_false,reduceCtorEq] at hbb)) | apply qc_seq | fail)
      refine ⟨L.length - (k+1),by omega,k+1,rfl,by omega,⟨hSB.out.1,⟨upG E x (.int .i64 mv),by rw [St.get_put,if_pos rfl],fun j=>?_⟩,fun id hid=>by rw [St.get_put,if_neg hid];exact hSB.out.2.1 id hid⟩,?_⟩
      · rw [look_up,hTB.out]
        by_cases hjx:j=x
        · subst hjx;simp [mkA,hxB.out]
        · rw [if_neg hjx,hSB.out.2.2 j];simp [mkA,hjx]
      · simp only [lk,sv1,sv2,sv3,Nat.reduceEqDiff,Nat.reduceAdd,Nat.reduceLeDiff,reduceIte,if_false,if_true,mkVal,unLV,List.map,optTmps,hwk,e1,e2,e3,e8,e9,and_self]
    · have hxB:=Bx.mk hx
      repeat' (first | refine gA (And.intro (@iaN _ _ _ hL.sl) @hg) ?_ | (refine gB (And.intro (@iaN _ _ _ hL.sl) @hg) ?_;intro bb hbb;cases bb<;>(try simp only [hbs,if_false,reduceCtorEq] at hbb)) | apply qc_seq | fail)
      all_goals first | (exfalso;first | omega | exact hbb.elim) | skip
      all_goals
        refine ⟨L.length - (k+1),by omega,k+1,rfl,by omega,⟨hSB.out.1,⟨E,hM,fun j=>?_⟩,hSB.out.2.1⟩,?_⟩
        · rw [hSB.out.2.2 j,hTB.out]
          by_cases hjx:j=x
          · subst hjx;simp [mkA,hxB.out]
          · simp [mkA,hjx]
        · simp only [lk,sv1,sv2,sv3,Nat.reduceEqDiff,Nat.reduceAdd,Nat.reduceLeDiff,reduceIte,if_false,if_true,mkVal,unLV,List.map,optTmps,hwk,e1,e2,e3,e8,e9,and_self]
  · have hk':k=L.length:=by omega
    subst hk'
    rw [List.take_length] at hE
    have hSB:=Bx.mk (And.intro hn1 (And.intro hold hE))
    clear hn1 hold hE
    repeat' (first | refine gA trivial ?_ | (refine gB trivial ?_;intro bb hbb;cases bb<;>(try simp only [hbs,if_false,reduceCtorEq] at hbb)) | apply qc_seq | fail)
    all_goals first | (exfalso;first | omega | exact hbb.elim) | skip
    exact ⟨.inl trivial,hSB.out.1,⟨E,hM,hSB.out.2.2⟩,hSB.out.2.1⟩
end Go.Proofs.Ytkbiecjdcjfhaaa
