/- buchi.Trim. -/
import Derived.Test.YtohldpfjnllkdaaDoorTauto
set_option linter.unusedSimpArgs false
set_option linter.unusedVariables false
namespace Go.Proofs.YtohldpfjnllkdaaDoor
open Go Go.Pv
open Classical
theorem frz_aut {s : St} {stv nxv : LV} {C : Bu} {T1 T2 : Nat → Prop} (f1 : FZ T1 (fun v' => IsInts v' C.start) 39 stv s) (f2 : FZ T2 (fun v' => IsNext v' C.next) 39 nxv s) (hd : ∀ id, T1 id → ¬ T2 id) :
    ∃ r s' sv nv, frz frzDepth (.agg [.int .i64 C.L, stv, nxv]) s = some (r, s') ∧ IsB r C sv nv := by
  obtain ⟨v1, s1, a1, a2, a3, a4⟩ := f1 s fun _ _ => rfl
  obtain ⟨v2, s2, b1, b2, b3, b4⟩ := f2 s1 fun id hid => a4 id fun h => hd id h hid
  by_cases hc : (LV.agg [.int .i64 C.L, stv, nxv]).closed = true
  · have hc' : stv.closed = true ∧ nxv.closed = true := by simpa [LV.closed, LV.closed.closedAll] using hc
    rw [frz_closed hc'.1] at a1
    rw [frz_closed hc'.2] at b1
    cases a1
    cases b1
    exact ⟨_, s, stv, nxv, frz_closed hc, rfl, a2, b2⟩
  · have hc0 : (LV.agg [.int .i64 C.L, stv, nxv]).closed = false := by simpa using hc
    refine ⟨.agg [.int .i64 C.L, v1, v2], s2, v1, v2, ?_, rfl, a2, b2⟩
    have hb : frz 39 (.int .i64 C.L) s = some (.int .i64 C.L, s) := frz_closed rfl
    show frz (39 + 1) _ s = _
    unfold frz
    rw [hc0]
    simp only [Bool.false_eq_true, if_false, frz.frzAll, hb, a1, b1, Option.bind_eq_bind, Option.bind_some]
set_option maxHeartbeats 16000000 in
theorem ttrim_ok {v : LV} {B : Bu} {sv nv : LV} (hB : IsB v B sv nv) :
    PE 22 [v] (fun r => (¬ Vb B ∧ r = .agg [.int .i64 0, .nils, .nils]) ∨ (Vb B ∧ ∃ C sv' nv', IsB r C sv' nv' ∧ TrimR B C)) := by
  have hvc := hB.closed
  have hB0 := hB
  have hbv := bvalid_ok hB
  have hau := fun (hok : Vb B) (s : St) => tauto_ok hB hok (s := s)
  obtain ⟨rfl, hst', vs, hn⟩ := hB
  have hc1 := hst'.sl.cell
  have hc2 := hn.sl.cell
  refine q_fnExR Tryd.func22 (by decide +kernel) c22 (Nat.le_of_ble_eq_true rfl) (by simp [LV.closed.closedAll, hvc]) ?_
  have e0 : (envOf [LV.agg [.int .i64 B.L, sv, nv]]).at 0 = .agg [.int .i64 B.L, sv, nv] := by rw [envOf_at]; rfl
  generalize envOf [LV.agg [.int .i64 B.L, sv, nv]] = e at *
  unfold l22
  dsimp only
  repeat' (first | refine gA trivial ?_ | (refine gB trivial ?_; intro bb hbb; cases bb <;> (try simp only [hbs, if_false, reduceCtorEq] at hbb)) | apply qc_seq | fail)
  refine q_pureB hG0 (hbv) (by first | exact wN | (apply wG; (simp only [lk, Nat.reduceEqDiff, reduceIte, e0]; (try rfl); done))) (by simp only [List.map, lk, Nat.reduceEqDiff, reduceIte, e0]; try rfl) (fun bb hbb => ⟨by first | trivial | (simp only [Chks, wantedG, LOp.run, Env.put_some, Env.put_none, lk, sv1, sv2, sv3, Nat.reduceEqDiff, Nat.reduceAdd, Nat.reduceLeDiff, reduceIte, if_false, if_true, mkVal, unLV, List.map, optTmps, beq_self_eq_true, reduceCtorEq, false_or, true_and, and_true, Option.some.injEq, *]; done), ?_⟩)
  simp only [Env.put_some]
  cases bb <;> simp only [decide_eq_true_eq, decide_eq_false_iff_not] at hbb
  · repeat' (first | refine gA trivial ?_ | (refine gB trivial ?_; intro bb hbb; cases bb <;> (try simp only [hbs, if_false, reduceCtorEq] at hbb)) | apply qc_seq | fail)
    refine q_gen (v := .agg [.int .i64 0, .nils, .nils]) wN (by simp only [LOp.run, lk, sv1, sv2, sv3, Nat.reduceEqDiff, Nat.reduceAdd, Nat.reduceLeDiff, reduceIte, if_false, if_true, mkVal, unLV, List.map, optTmps, evParts, fillParts]; rfl) rfl trivial ?_
    simp only [Env.put_some]
    repeat' (first | refine gA trivial ?_ | (refine gB trivial ?_; intro bb hbb; cases bb <;> (try simp only [hbs, if_false, reduceCtorEq] at hbb)) | apply qc_seq | fail)
    refine ⟨.inr trivial, .agg [.int .i64 0, .nils, .nils], by simp [resVal, resOne, mkVal, lk, St.get_put, n_empty], .agg [.int .i64 0, .nils, .nils], _, frz_closed rfl, rfl, .inl ⟨hbb, rfl⟩⟩
  have hok := hbb
  repeat' (first | refine gA trivial ?_ | (refine gB trivial ?_; intro bb hbb; cases bb <;> (try simp only [hbs, if_false, reduceCtorEq] at hbb)) | apply qc_seq | fail)
  refine q_call wN (fv := .fn (.func 45) [] []) (vs := [.int .i64 B.L, sv, .int .i64 3000, .fn (.func 43) [] [.pimm [.int .i64 B.L, sv, nv] 0]]) ef (by simp only [List.map, lk, sv1, sv2, sv3, Nat.reduceEqDiff, Nat.reduceAdd, Nat.reduceLeDiff, reduceIte, if_false, if_true, mkVal, unLV, List.map, optTmps]) (CallOk.mono (hau hok _) fun r s3 hh => ⟨trivial, ?_⟩)
  obtain ⟨stv, nxv, C, T1, T2, rfl, hTR, f1, f2, f3, f4, ⟨f5, f6⟩, f7, f8⟩ := hh
  have g2 : s3.get 0 = some (.cells .mut [.int .i64 0, .nils, .nils]) := by rw [f8 _ (by simp only [St.n_put, St.n_new, n_empty]; omega)]; rfl
  simp only [Env.put_some]
  clear f8
  obtain ⟨j4, hj4⟩ : ∃ j4, s3.n = j4 := ⟨_, rfl⟩
  have hj0 : ¬ (0 : Nat) = j4 := by have := f7; simp only [St.n_put, St.n_new, n_empty] at this; omega
  have h1n : (St.empty.new (.cells .mut [.int .i64 0, .nils, .nils])).n = 1 := rfl
  have fin : ∀ S : St, (∀ id, T1 id ∨ T2 id → S.get id = s3.get id) → ∃ r s', frz frzDepth (.agg [.int .i64 B.L, stv, nxv]) S = some (r, s') ∧ r.closed = true ∧ ((¬ Vb B ∧ r = .agg [.int .i64 0, .nils, .nils]) ∨ (Vb B ∧ ∃ C sv' nv', IsB r C sv' nv' ∧ TrimR B C)) := fun S hS => by
    obtain ⟨r, s', sv', nv', a1, a2⟩ := frz_aut (f1.stable (s' := S) fun id hid => hS id (.inl hid)) (f2.stable (s' := S) fun id hid => hS id (.inr hid)) f3
    rw [hTR.L] at a1
    exact ⟨r, s', a1, a2.closed, .inr ⟨hok, C, sv', nv', a2, hTR⟩⟩
  have fb : ∀ id, T1 id ∨ T2 id → id ≠ j4 ∧ id ≠ 0 := fun id hid => by
    have := f4 id hid
    rw [h1n] at this
    omega
  clear f7 hau
  repeat' (first | refine gA trivial ?_ | (refine gB trivial ?_; intro bb hbb; cases bb <;> (try simp only [hbs, if_false, reduceCtorEq] at hbb)) | apply qc_seq | fail)
  refine ⟨.inr trivial, .agg [.int .i64 B.L, stv, nxv], by simp [resVal, resOne, mkVal, lk, St.get_put], fin _ fun id hid => ?_⟩
  rw [St.get_put, if_neg (fb id hid).2, St.get_put, if_neg (fb id hid).1, St.get_new, hj4, if_neg (fb id hid).1]
end Go.Proofs.YtohldpfjnllkdaaDoor
