/- The document's small functions of words. -/
import Derived.Test.YtohldpfjnllkdaaDoorWoa
import Derived.Test.YtohldpfjnllkdaaDoorLitr
set_option linter.unusedSimpArgs false
set_option linter.unusedVariables false
namespace Go.Proofs.YtohldpfjnllkdaaDoor
open Go Go.Pv
open Classical
theorem short_ok {st lo : LV} {S L : List Int} (hS : IsInts st S) (hL : IsInts lo L) : PO 20 [.agg [st, lo]] (.bool (decide (S.length ≤ 80 ∧ L.length ≤ 80))) := by
  have hcl : (LV.agg [st, lo]).closed = true := by simp [LV.closed, LV.closed.closedAll, hS.closed, hL.closed]
  have hc1 := hS.sl.cell
  have hc2 := hL.sl.cell
  refine pure_tmp (t := 2) hm Tryd.func20 (by decide +kernel) c20 (Nat.le_of_ble_eq_true rfl) (by simp [LV.closed.closedAll, hcl]) rfl rfl ?_
  have h0 : (envOf [LV.agg [st, lo]]).at 0 = .agg [st, lo] := by rw [envOf_at]; rfl
  generalize envOf [LV.agg [st, lo]] = e at *
  unfold l20
  dsimp only
  repeat' (first
      | (refine ok_block ?_)
      | (refine pw_seq ?_)
      | (refine ok_skip ?_; try simp only [Thn, Blkd, reduceIte, Nat.reduceEqDiff])
      | (refine ok_exit ?_; try simp only [Thn, Blkd, reduceIte, Nat.reduceEqDiff, Nat.succ_ne_self])
      | (refine ok_ret ?_; try simp only [Thn, Blkd, reduceIte, Nat.reduceEqDiff])
      | (refine pw_region hm ?_)
      | (refine pw_nil ?_; try simp only [Thn, Blkd, reduceIte, Nat.reduceEqDiff])
      | (apply pw_condT; (focus (simp only [lk, sv1, sv2, sv3, Nat.reduceEqDiff, Nat.reduceAdd, Nat.reduceLeDiff, reduceIte, if_false, if_true, mkVal, unLV, List.map, optTmps, *]; done)))
      | (apply pw_condF; (focus (simp only [lk, sv1, sv2, sv3, Nat.reduceEqDiff, Nat.reduceAdd, Nat.reduceLeDiff, reduceIte, if_false, if_true, mkVal, unLV, List.map, optTmps, *]; done)))
      | (apply pw_binF; (focus (simp only [wantedG, lk, sv1, sv2, sv3, Nat.reduceEqDiff, Nat.reduceAdd, Nat.reduceLeDiff, reduceIte, if_false, if_true, mkVal, unLV, List.map, optTmps, beq_self_eq_true, *]; (try rfl); done)); (focus (simp only [lk, sv1, sv2, sv3, Nat.reduceEqDiff, Nat.reduceAdd, Nat.reduceLeDiff, reduceIte, if_false, if_true, mkVal, unLV, List.map, optTmps, binLV, intBin, hS.sl.len, hL.sl.len, *]; (try rfl); done)); intro bb hbb; cases bb <;> simp only [decide_eq_true_eq, decide_eq_false_iff_not, bne_iff_ne, beq_iff_eq, ne_eq, bne_eq_false_iff_eq, beq_eq_false_iff_ne, Int.not_lt, Int.not_le, gt_iff_lt, ge_iff_le, Bool.not_eq_true] at hbb)
      | (apply pw_run0; (focus (simp only [LOp.run, binLV, intBin, lk, sv1, sv2, sv3, Nat.reduceEqDiff, Nat.reduceAdd, Nat.reduceLeDiff, reduceIte, if_false, if_true, mkVal, unLV, List.map, optTmps, hS.sl.len, hL.sl.len, *]; (try rfl); done)))
      | (apply pw_run0; (focus (simp only [run_iaddr, lk, sv1, sv2, sv3, Nat.reduceEqDiff, Nat.reduceAdd, Nat.reduceLeDiff, reduceIte, if_false, if_true, mkVal, unLV, List.map, optTmps, hS.sl.len, hL.sl.len, *]; (try rfl); done)))
      | (apply pw_skipF; (focus (simp only [wantedG, lk, sv1, sv2, sv3, Nat.reduceEqDiff, Nat.reduceAdd, Nat.reduceLeDiff, reduceIte, if_false, if_true, mkVal, unLV, List.map, optTmps, *]; (try rfl); done)); simp only [Env.put_some])
      | (apply pw_runF; (focus (simp only [wantedG, lk, sv1, sv2, sv3, Nat.reduceEqDiff, Nat.reduceAdd, Nat.reduceLeDiff, reduceIte, if_false, if_true, mkVal, unLV, List.map, optTmps, beq_self_eq_true, *]; (try rfl); done)); (focus (simp only [LOp.run, binLV, intBin, lk, sv1, sv2, sv3, Nat.reduceEqDiff, Nat.reduceAdd, Nat.reduceLeDiff, reduceIte, if_false, if_true, mkVal, unLV, List.map, optTmps, hS.sl.len, hL.sl.len, *]; (try rfl); done)); (focus rfl); (focus trivial); simp only [Env.put_some])
      | (apply pw_runF; (focus (simp only [wantedG, lk, sv1, sv2, sv3, Nat.reduceEqDiff, Nat.reduceAdd, Nat.reduceLeDiff, reduceIte, if_false, if_true, mkVal, unLV, List.map, optTmps, beq_self_eq_true, *]; (try rfl); done)); (focus (simp only [run_iaddr, lk, sv1, sv2, sv3, Nat.reduceEqDiff, Nat.reduceAdd, Nat.reduceLeDiff, reduceIte, if_false, if_true, mkVal, unLV, List.map, optTmps, hS.sl.len, hL.sl.len, *]; (try rfl); done)); (focus rfl); (focus trivial); simp only [Env.put_some]))
  all_goals (refine ⟨.inr trivial, ?_⟩; simp only [lk, sv1, sv2, sv3, Nat.reduceEqDiff, Nat.reduceAdd, Nat.reduceLeDiff, reduceIte, if_false, if_true, mkVal, unLV, List.map, optTmps]; first | exact bool_t (by omega) | exact bool_f (by omega))
theorem rformed_ok {st lo : LV} {S L : List Int} (hS : IsInts st S) (hL : IsInts lo L) : PO 42 [.agg [st, lo]] (.bool (decide (Fm S L))) := by
  have hcl : (LV.agg [st, lo]).closed = true := by simp [LV.closed, LV.closed.closedAll, hS.closed, hL.closed]
  have hc1 := hS.sl.cell
  have hc2 := hL.sl.cell
  refine pure_tmp (t := 2) hm Tryd.func42 (by decide +kernel) c42 (Nat.le_of_ble_eq_true rfl) (by simp [LV.closed.closedAll, hcl]) rfl rfl ?_
  have h0 : (envOf [LV.agg [st, lo]]).at 0 = .agg [st, lo] := by rw [envOf_at]; rfl
  generalize envOf [LV.agg [st, lo]] = e at *
  unfold l42
  dsimp only
  repeat' (first
      | (refine ok_block ?_)
      | (refine pw_seq ?_)
      | (refine ok_skip ?_; try simp only [Thn, Blkd, reduceIte, Nat.reduceEqDiff])
      | (refine ok_exit ?_; try simp only [Thn, Blkd, reduceIte, Nat.reduceEqDiff, Nat.succ_ne_self])
      | (refine ok_ret ?_; try simp only [Thn, Blkd, reduceIte, Nat.reduceEqDiff])
      | (refine pw_region hm ?_)
      | (refine pw_nil ?_; try simp only [Thn, Blkd, reduceIte, Nat.reduceEqDiff])
      | (apply pw_condT; (focus (simp only [lk, sv1, sv2, sv3, Nat.reduceEqDiff, Nat.reduceAdd, Nat.reduceLeDiff, reduceIte, if_false, if_true, mkVal, unLV, List.map, optTmps, *]; done)))
      | (apply pw_condF; (focus (simp only [lk, sv1, sv2, sv3, Nat.reduceEqDiff, Nat.reduceAdd, Nat.reduceLeDiff, reduceIte, if_false, if_true, mkVal, unLV, List.map, optTmps, *]; done)))
      | (apply pw_binF; (focus (simp only [wantedG, lk, sv1, sv2, sv3, Nat.reduceEqDiff, Nat.reduceAdd, Nat.reduceLeDiff, reduceIte, if_false, if_true, mkVal, unLV, List.map, optTmps, beq_self_eq_true, *]; (try rfl); done)); (focus (simp only [lk, sv1, sv2, sv3, Nat.reduceEqDiff, Nat.reduceAdd, Nat.reduceLeDiff, reduceIte, if_false, if_true, mkVal, unLV, List.map, optTmps, binLV, intBin, hS.sl.len, hL.sl.len, *]; (try rfl); done)); intro bb hbb; cases bb <;> simp only [decide_eq_true_eq, decide_eq_false_iff_not, bne_iff_ne, beq_iff_eq, ne_eq, bne_eq_false_iff_eq, beq_eq_false_iff_ne, Int.not_lt, Int.not_le, gt_iff_lt, ge_iff_le, Bool.not_eq_true] at hbb)
      | (apply pw_run0; (focus (simp only [LOp.run, binLV, intBin, lk, sv1, sv2, sv3, Nat.reduceEqDiff, Nat.reduceAdd, Nat.reduceLeDiff, reduceIte, if_false, if_true, mkVal, unLV, List.map, optTmps, hS.sl.len, hL.sl.len, *]; (try rfl); done)))
      | (apply pw_run0; (focus (simp only [run_iaddr, lk, sv1, sv2, sv3, Nat.reduceEqDiff, Nat.reduceAdd, Nat.reduceLeDiff, reduceIte, if_false, if_true, mkVal, unLV, List.map, optTmps, hS.sl.len, hL.sl.len, *]; (try rfl); done)))
      | (apply pw_skipF; (focus (simp only [wantedG, lk, sv1, sv2, sv3, Nat.reduceEqDiff, Nat.reduceAdd, Nat.reduceLeDiff, reduceIte, if_false, if_true, mkVal, unLV, List.map, optTmps, *]; (try rfl); done)); simp only [Env.put_some])
      | (apply pw_runF; (focus (simp only [wantedG, lk, sv1, sv2, sv3, Nat.reduceEqDiff, Nat.reduceAdd, Nat.reduceLeDiff, reduceIte, if_false, if_true, mkVal, unLV, List.map, optTmps, beq_self_eq_true, *]; (try rfl); done)); (focus (simp only [LOp.run, binLV, intBin, lk, sv1, sv2, sv3, Nat.reduceEqDiff, Nat.reduceAdd, Nat.reduceLeDiff, reduceIte, if_false, if_true, mkVal, unLV, List.map, optTmps, hS.sl.len, hL.sl.len, *]; (try rfl); done)); (focus rfl); (focus trivial); simp only [Env.put_some])
      | (apply pw_runF; (focus (simp only [wantedG, lk, sv1, sv2, sv3, Nat.reduceEqDiff, Nat.reduceAdd, Nat.reduceLeDiff, reduceIte, if_false, if_true, mkVal, unLV, List.map, optTmps, beq_self_eq_true, *]; (try rfl); done)); (focus (simp only [run_iaddr, lk, sv1, sv2, sv3, Nat.reduceEqDiff, Nat.reduceAdd, Nat.reduceLeDiff, reduceIte, if_false, if_true, mkVal, unLV, List.map, optTmps, hS.sl.len, hL.sl.len, *]; (try rfl); done)); (focus rfl); (focus trivial); simp only [Env.put_some]))
  all_goals first
    | (refine ⟨.inr trivial, ?_⟩
       simp only [lk, sv1, sv2, sv3, Nat.reduceEqDiff, Nat.reduceAdd, Nat.reduceLeDiff, reduceIte, if_false, if_true, mkVal, unLV, List.map, optTmps]
       refine bool_f fun h => ?_
       obtain ⟨a, b, c, d, f⟩ := h
       omega)
    | skip
  refine pw_loopI (fun n e s => s = St.empty ∧ ∃ i : Nat, n = S.length - i ∧ i ≤ S.length ∧ e.at 1 = .pimm [st, lo] 0 ∧ e.at 3 = .int .i64 (i : Int) ∧ ∀ j, j < i → 0 ≤ S.getD j 0 ∧ S.getD j 0 < 64) S.length ⟨rfl, 0, by simp, by simp, by simp, by simp, fun j hj => absurd hj (Nat.not_lt_zero _)⟩ ?_
  rintro n e s ⟨rfl, i, rfl, hi, e1, e3, hall⟩
  repeat' (first
      | (refine ok_block ?_)
      | (refine pw_seq ?_)
      | (refine ok_skip ?_; try simp only [Thn, Blkd, reduceIte, Nat.reduceEqDiff])
      | (refine ok_exit ?_; try simp only [Thn, Blkd, reduceIte, Nat.reduceEqDiff, Nat.succ_ne_self])
      | (refine ok_ret ?_; try simp only [Thn, Blkd, reduceIte, Nat.reduceEqDiff])
      | (refine pw_region hm ?_)
      | (refine pw_nil ?_; try simp only [Thn, Blkd, reduceIte, Nat.reduceEqDiff])
      | (apply pw_condT; (focus (simp only [lk, sv1, sv2, sv3, Nat.reduceEqDiff, Nat.reduceAdd, Nat.reduceLeDiff, reduceIte, if_false, if_true, mkVal, unLV, List.map, optTmps, *]; done)))
      | (apply pw_condF; (focus (simp only [lk, sv1, sv2, sv3, Nat.reduceEqDiff, Nat.reduceAdd, Nat.reduceLeDiff, reduceIte, if_false, if_true, mkVal, unLV, List.map, optTmps, *]; done)))
      | (apply pw_binF; (focus (simp only [wantedG, lk, sv1, sv2, sv3, Nat.reduceEqDiff, Nat.reduceAdd, Nat.reduceLeDiff, reduceIte, if_false, if_true, mkVal, unLV, List.map, optTmps, beq_self_eq_true, *]; (try rfl); done)); (focus (simp only [lk, sv1, sv2, sv3, Nat.reduceEqDiff, Nat.reduceAdd, Nat.reduceLeDiff, reduceIte, if_false, if_true, mkVal, unLV, List.map, optTmps, binLV, intBin, hS.sl.len, hL.sl.len, iaN hS.sl, ints_get, *]; (try rfl); done)); intro bb hbb; cases bb <;> simp only [decide_eq_true_eq, decide_eq_false_iff_not, bne_iff_ne, beq_iff_eq, ne_eq, bne_eq_false_iff_eq, beq_eq_false_iff_ne, Int.not_lt, Int.not_le, gt_iff_lt, ge_iff_le, Bool.not_eq_true] at hbb)
      | (apply pw_run0; (focus (simp only [LOp.run, binLV, intBin, lk, sv1, sv2, sv3, Nat.reduceEqDiff, Nat.reduceAdd, Nat.reduceLeDiff, reduceIte, if_false, if_true, mkVal, unLV, List.map, optTmps, hS.sl.len, hL.sl.len, iaN hS.sl, ints_get, *]; (try rfl); done)))
      | (apply pw_run0; (focus (simp only [run_iaddr, lk, sv1, sv2, sv3, Nat.reduceEqDiff, Nat.reduceAdd, Nat.reduceLeDiff, reduceIte, if_false, if_true, mkVal, unLV, List.map, optTmps, hS.sl.len, hL.sl.len, iaN hS.sl, ints_get, *]; (try rfl); done)))
      | (apply pw_skipF; (focus (simp only [wantedG, lk, sv1, sv2, sv3, Nat.reduceEqDiff, Nat.reduceAdd, Nat.reduceLeDiff, reduceIte, if_false, if_true, mkVal, unLV, List.map, optTmps, *]; (try rfl); done)); simp only [Env.put_some])
      | (apply pw_runF; (focus (simp only [wantedG, lk, sv1, sv2, sv3, Nat.reduceEqDiff, Nat.reduceAdd, Nat.reduceLeDiff, reduceIte, if_false, if_true, mkVal, unLV, List.map, optTmps, beq_self_eq_true, *]; (try rfl); done)); (focus (simp only [LOp.run, binLV, intBin, lk, sv1, sv2, sv3, Nat.reduceEqDiff, Nat.reduceAdd, Nat.reduceLeDiff, reduceIte, if_false, if_true, mkVal, unLV, List.map, optTmps, hS.sl.len, hL.sl.len, iaN hS.sl, ints_get, *]; (try rfl); done)); (focus rfl); (focus trivial); simp only [Env.put_some])
      | (apply pw_runF; (focus (simp only [wantedG, lk, sv1, sv2, sv3, Nat.reduceEqDiff, Nat.reduceAdd, Nat.reduceLeDiff, reduceIte, if_false, if_true, mkVal, unLV, List.map, optTmps, beq_self_eq_true, *]; (try rfl); done)); (focus (simp only [run_iaddr, lk, sv1, sv2, sv3, Nat.reduceEqDiff, Nat.reduceAdd, Nat.reduceLeDiff, reduceIte, if_false, if_true, mkVal, unLV, List.map, optTmps, hS.sl.len, hL.sl.len, iaN hS.sl, ints_get, *]; (try rfl); done)); (focus rfl); (focus trivial); simp only [Env.put_some]))
  · refine pw_loopI (fun n e s => s = St.empty ∧ ∃ i : Nat, n = L.length - i ∧ i ≤ L.length ∧ e.at 1 = .pimm [st, lo] 0 ∧ e.at 5 = .int .i64 (i : Int) ∧ ∀ j, j < i → 0 ≤ L.getD j 0 ∧ L.getD j 0 < 64) L.length ⟨rfl, 0, by simp, by simp, by simp [e1], by simp, fun j hj => absurd hj (Nat.not_lt_zero _)⟩ ?_
    rintro n e s ⟨rfl, k, rfl, hk, e1, e5, hall2⟩
    repeat' (first
        | (refine ok_block ?_)
        | (refine pw_seq ?_)
        | (refine ok_skip ?_; try simp only [Thn, Blkd, reduceIte, Nat.reduceEqDiff])
        | (refine ok_exit ?_; try simp only [Thn, Blkd, reduceIte, Nat.reduceEqDiff, Nat.succ_ne_self])
        | (refine ok_ret ?_; try simp only [Thn, Blkd, reduceIte, Nat.reduceEqDiff])
        | (refine pw_region hm ?_)
        | (refine pw_nil ?_; try simp only [Thn, Blkd, reduceIte, Nat.reduceEqDiff])
        | (apply pw_condT; (focus (simp only [lk, sv1, sv2, sv3, Nat.reduceEqDiff, Nat.reduceAdd, Nat.reduceLeDiff, reduceIte, if_false, if_true, mkVal, unLV, List.map, optTmps, *]; done)))
        | (apply pw_condF; (focus (simp only [lk, sv1, sv2, sv3, Nat.reduceEqDiff, Nat.reduceAdd, Nat.reduceLeDiff, reduceIte, if_false, if_true, mkVal, unLV, List.map, optTmps, *]; done)))
        | (apply pw_binF; (focus (simp only [wantedG, lk, sv1, sv2, sv3, Nat.reduceEqDiff, Nat.reduceAdd, Nat.reduceLeDiff, reduceIte, if_false, if_true, mkVal, unLV, List.map, optTmps, beq_self_eq_true, *]; (try rfl); done)); (focus (simp only [lk, sv1, sv2, sv3, Nat.reduceEqDiff, Nat.reduceAdd, Nat.reduceLeDiff, reduceIte, if_false, if_true, mkVal, unLV, List.map, optTmps, binLV, intBin, hS.sl.len, hL.sl.len, iaN hL.sl, ints_get, *]; (try rfl); done)); intro bb hbb; cases bb <;> simp only [decide_eq_true_eq, decide_eq_false_iff_not, bne_iff_ne, beq_iff_eq, ne_eq, bne_eq_false_iff_eq, beq_eq_false_iff_ne, Int.not_lt, Int.not_le, gt_iff_lt, ge_iff_le, Bool.not_eq_true] at hbb)
        | (apply pw_run0; (focus (simp only [LOp.run, binLV, intBin, lk, sv1, sv2, sv3, Nat.reduceEqDiff, Nat.reduceAdd, Nat.reduceLeDiff, reduceIte, if_false, if_true, mkVal, unLV, List.map, optTmps, hS.sl.len, hL.sl.len, iaN hL.sl, ints_get, *]; (try rfl); done)))
        | (apply pw_run0; (focus (simp only [run_iaddr, lk, sv1, sv2, sv3, Nat.reduceEqDiff, Nat.reduceAdd, Nat.reduceLeDiff, reduceIte, if_false, if_true, mkVal, unLV, List.map, optTmps, hS.sl.len, hL.sl.len, iaN hL.sl, ints_get, *]; (try rfl); done)))
        | (apply pw_skipF; (focus (simp only [wantedG, lk, sv1, sv2, sv3, Nat.reduceEqDiff, Nat.reduceAdd, Nat.reduceLeDiff, reduceIte, if_false, if_true, mkVal, unLV, List.map, optTmps, *]; (try rfl); done)); simp only [Env.put_some])
        | (apply pw_runF; (focus (simp only [wantedG, lk, sv1, sv2, sv3, Nat.reduceEqDiff, Nat.reduceAdd, Nat.reduceLeDiff, reduceIte, if_false, if_true, mkVal, unLV, List.map, optTmps, beq_self_eq_true, *]; (try rfl); done)); (focus (simp only [LOp.run, binLV, intBin, lk, sv1, sv2, sv3, Nat.reduceEqDiff, Nat.reduceAdd, Nat.reduceLeDiff, reduceIte, if_false, if_true, mkVal, unLV, List.map, optTmps, hS.sl.len, hL.sl.len, iaN hL.sl, ints_get, *]; (try rfl); done)); (focus rfl); (focus trivial); simp only [Env.put_some])
        | (apply pw_runF; (focus (simp only [wantedG, lk, sv1, sv2, sv3, Nat.reduceEqDiff, Nat.reduceAdd, Nat.reduceLeDiff, reduceIte, if_false, if_true, mkVal, unLV, List.map, optTmps, beq_self_eq_true, *]; (try rfl); done)); (focus (simp only [run_iaddr, lk, sv1, sv2, sv3, Nat.reduceEqDiff, Nat.reduceAdd, Nat.reduceLeDiff, reduceIte, if_false, if_true, mkVal, unLV, List.map, optTmps, hS.sl.len, hL.sl.len, iaN hL.sl, ints_get, *]; (try rfl); done)); (focus rfl); (focus trivial); simp only [Env.put_some]))
    · refine ⟨.inr trivial, ?_⟩
      simp only [lk, sv1, sv2, sv3, Nat.reduceEqDiff, Nat.reduceAdd, Nat.reduceLeDiff, reduceIte, if_false, if_true, mkVal, unLV, List.map, optTmps]
      exact bool_t ⟨by omega, by omega, by omega, fun j hj => hall j (by omega), fun j hj => hall2 j (by omega)⟩
    refine pw_pureB hG0 (letter_ok (L.getD k 0)) (by simp only [wantedG, lk, sv1, sv2, sv3, Nat.reduceEqDiff, Nat.reduceAdd, Nat.reduceLeDiff, reduceIte, if_false, if_true, mkVal, unLV, List.map, optTmps, beq_self_eq_true, *]) (by simp only [lk, sv1, sv2, sv3, Nat.reduceEqDiff, Nat.reduceAdd, Nat.reduceLeDiff, reduceIte, if_false, if_true, mkVal, unLV, List.map, optTmps, *]) (fun bb hbb => ⟨by first | trivial | (simp only [Chks, wantedG, LOp.run, lk, sv1, sv2, sv3, Nat.reduceEqDiff, Nat.reduceAdd, Nat.reduceLeDiff, reduceIte, if_false, if_true, mkVal, unLV, List.map, optTmps, beq_self_eq_true, *]; simp), ?_⟩)
    simp only [Env.put_some]
    cases bb <;> simp only [decide_eq_true_eq, decide_eq_false_iff_not] at hbb
    · repeat' (first
          | (refine ok_block ?_)
          | (refine pw_seq ?_)
          | (refine ok_skip ?_; try simp only [Thn, Blkd, reduceIte, Nat.reduceEqDiff])
          | (refine ok_exit ?_; try simp only [Thn, Blkd, reduceIte, Nat.reduceEqDiff, Nat.succ_ne_self])
          | (refine ok_ret ?_; try simp only [Thn, Blkd, reduceIte, Nat.reduceEqDiff])
          | (refine pw_region hm ?_)
          | (refine pw_nil ?_; try simp only [Thn, Blkd, reduceIte, Nat.reduceEqDiff])
          | (apply pw_condT; (focus (simp only [lk, sv1, sv2, sv3, Nat.reduceEqDiff, Nat.reduceAdd, Nat.reduceLeDiff, reduceIte, if_false, if_true, mkVal, unLV, List.map, optTmps, *]; done)))
          | (apply pw_condF; (focus (simp only [lk, sv1, sv2, sv3, Nat.reduceEqDiff, Nat.reduceAdd, Nat.reduceLeDiff, reduceIte, if_false, if_true, mkVal, unLV, List.map, optTmps, *]; done)))
          | (apply pw_binF; (focus (simp only [wantedG, lk, sv1, sv2, sv3, Nat.reduceEqDiff, Nat.reduceAdd, Nat.reduceLeDiff, reduceIte, if_false, if_true, mkVal, unLV, List.map, optTmps, beq_self_eq_true, *]; (try rfl); done)); (focus (simp only [lk, sv1, sv2, sv3, Nat.reduceEqDiff, Nat.reduceAdd, Nat.reduceLeDiff, reduceIte, if_false, if_true, mkVal, unLV, List.map, optTmps, binLV, intBin, *]; (try rfl); done)); intro bb hbb; cases bb <;> simp only [decide_eq_true_eq, decide_eq_false_iff_not, bne_iff_ne, beq_iff_eq, ne_eq, bne_eq_false_iff_eq, beq_eq_false_iff_ne, Int.not_lt, Int.not_le, gt_iff_lt, ge_iff_le, Bool.not_eq_true] at hbb)
          | (apply pw_run0; (focus (simp only [LOp.run, binLV, intBin, lk, sv1, sv2, sv3, Nat.reduceEqDiff, Nat.reduceAdd, Nat.reduceLeDiff, reduceIte, if_false, if_true, mkVal, unLV, List.map, optTmps, *]; (try rfl); done)))
          | (apply pw_run0; (focus (simp only [run_iaddr, lk, sv1, sv2, sv3, Nat.reduceEqDiff, Nat.reduceAdd, Nat.reduceLeDiff, reduceIte, if_false, if_true, mkVal, unLV, List.map, optTmps, *]; (try rfl); done)))
          | (apply pw_skipF; (focus (simp only [wantedG, lk, sv1, sv2, sv3, Nat.reduceEqDiff, Nat.reduceAdd, Nat.reduceLeDiff, reduceIte, if_false, if_true, mkVal, unLV, List.map, optTmps, *]; (try rfl); done)); simp only [Env.put_some])
          | (apply pw_runF; (focus (simp only [wantedG, lk, sv1, sv2, sv3, Nat.reduceEqDiff, Nat.reduceAdd, Nat.reduceLeDiff, reduceIte, if_false, if_true, mkVal, unLV, List.map, optTmps, beq_self_eq_true, *]; (try rfl); done)); (focus (simp only [LOp.run, binLV, intBin, lk, sv1, sv2, sv3, Nat.reduceEqDiff, Nat.reduceAdd, Nat.reduceLeDiff, reduceIte, if_false, if_true, mkVal, unLV, List.map, optTmps, *]; (try rfl); done)); (focus rfl); (focus trivial); simp only [Env.put_some])
          | (apply pw_runF; (focus (simp only [wantedG, lk, sv1, sv2, sv3, Nat.reduceEqDiff, Nat.reduceAdd, Nat.reduceLeDiff, reduceIte, if_false, if_true, mkVal, unLV, List.map, optTmps, beq_self_eq_true, *]; (try rfl); done)); (focus (simp only [run_iaddr, lk, sv1, sv2, sv3, Nat.reduceEqDiff, Nat.reduceAdd, Nat.reduceLeDiff, reduceIte, if_false, if_true, mkVal, unLV, List.map, optTmps, *]; (try rfl); done)); (focus rfl); (focus trivial); simp only [Env.put_some]))
      refine ⟨.inr trivial, ?_⟩
      simp only [lk, sv1, sv2, sv3, Nat.reduceEqDiff, Nat.reduceAdd, Nat.reduceLeDiff, reduceIte, if_false, if_true, mkVal, unLV, List.map, optTmps]
      refine bool_f fun h => hbb (h.2.2.2.2 k (by omega))
    · repeat' (first
          | (refine ok_block ?_)
          | (refine pw_seq ?_)
          | (refine ok_skip ?_; try simp only [Thn, Blkd, reduceIte, Nat.reduceEqDiff])
          | (refine ok_exit ?_; try simp only [Thn, Blkd, reduceIte, Nat.reduceEqDiff, Nat.succ_ne_self])
          | (refine ok_ret ?_; try simp only [Thn, Blkd, reduceIte, Nat.reduceEqDiff])
          | (refine pw_region hm ?_)
          | (refine pw_nil ?_; try simp only [Thn, Blkd, reduceIte, Nat.reduceEqDiff])
          | (apply pw_condT; (focus (simp only [lk, sv1, sv2, sv3, Nat.reduceEqDiff, Nat.reduceAdd, Nat.reduceLeDiff, reduceIte, if_false, if_true, mkVal, unLV, List.map, optTmps, *]; done)))
          | (apply pw_condF; (focus (simp only [lk, sv1, sv2, sv3, Nat.reduceEqDiff, Nat.reduceAdd, Nat.reduceLeDiff, reduceIte, if_false, if_true, mkVal, unLV, List.map, optTmps, *]; done)))
          | (apply pw_binF; (focus (simp only [wantedG, lk, sv1, sv2, sv3, Nat.reduceEqDiff, Nat.reduceAdd, Nat.reduceLeDiff, reduceIte, if_false, if_true, mkVal, unLV, List.map, optTmps, beq_self_eq_true, *]; (try rfl); done)); (focus (simp only [lk, sv1, sv2, sv3, Nat.reduceEqDiff, Nat.reduceAdd, Nat.reduceLeDiff, reduceIte, if_false, if_true, mkVal, unLV, List.map, optTmps, binLV, intBin, *]; (try rfl); done)); intro bb hbb; cases bb <;> simp only [decide_eq_true_eq, decide_eq_false_iff_not, bne_iff_ne, beq_iff_eq, ne_eq, bne_eq_false_iff_eq, beq_eq_false_iff_ne, Int.not_lt, Int.not_le, gt_iff_lt, ge_iff_le, Bool.not_eq_true] at hbb)
          | (apply pw_run0; (focus (simp only [LOp.run, binLV, intBin, lk, sv1, sv2, sv3, Nat.reduceEqDiff, Nat.reduceAdd, Nat.reduceLeDiff, reduceIte, if_false, if_true, mkVal, unLV, List.map, optTmps, *]; (try rfl); done)))
          | (apply pw_run0; (focus (simp only [run_iaddr, lk, sv1, sv2, sv3, Nat.reduceEqDiff, Nat.reduceAdd, Nat.reduceLeDiff, reduceIte, if_false, if_true, mkVal, unLV, List.map, optTmps, *]; (try rfl); done)))
          | (apply pw_skipF; (focus (simp only [wantedG, lk, sv1, sv2, sv3, Nat.reduceEqDiff, Nat.reduceAdd, Nat.reduceLeDiff, reduceIte, if_false, if_true, mkVal, unLV, List.map, optTmps, *]; (try rfl); done)); simp only [Env.put_some])
          | (apply pw_runF; (focus (simp only [wantedG, lk, sv1, sv2, sv3, Nat.reduceEqDiff, Nat.reduceAdd, Nat.reduceLeDiff, reduceIte, if_false, if_true, mkVal, unLV, List.map, optTmps, beq_self_eq_true, *]; (try rfl); done)); (focus (simp only [LOp.run, binLV, intBin, lk, sv1, sv2, sv3, Nat.reduceEqDiff, Nat.reduceAdd, Nat.reduceLeDiff, reduceIte, if_false, if_true, mkVal, unLV, List.map, optTmps, *]; (try rfl); done)); (focus rfl); (focus trivial); simp only [Env.put_some])
          | (apply pw_runF; (focus (simp only [wantedG, lk, sv1, sv2, sv3, Nat.reduceEqDiff, Nat.reduceAdd, Nat.reduceLeDiff, reduceIte, if_false, if_true, mkVal, unLV, List.map, optTmps, beq_self_eq_true, *]; (try rfl); done)); (focus (simp only [run_iaddr, lk, sv1, sv2, sv3, Nat.reduceEqDiff, Nat.reduceAdd, Nat.reduceLeDiff, reduceIte, if_false, if_true, mkVal, unLV, List.map, optTmps, *]; (try rfl); done)); (focus rfl); (focus trivial); simp only [Env.put_some]))
      refine ⟨_, ?_, trivial, k + 1, rfl, ?_⟩
      · omega
      simp only [lk, sv1, sv2, sv3, Nat.reduceEqDiff, Nat.reduceAdd, Nat.reduceLeDiff, reduceIte, if_false, if_true, mkVal, unLV, List.map, optTmps, true_and, wrap_succ (i := k) ‹_› hL.len, *]
      refine ⟨by omega, fun j hj => ?_⟩
      rcases Nat.lt_succ_iff_lt_or_eq.1 hj with h | rfl
      · exact hall2 j h
      · exact hbb
  · refine pw_pureB hG0 (letter_ok (S.getD i 0)) (by simp only [wantedG, lk, sv1, sv2, sv3, Nat.reduceEqDiff, Nat.reduceAdd, Nat.reduceLeDiff, reduceIte, if_false, if_true, mkVal, unLV, List.map, optTmps, beq_self_eq_true, *]) (by simp only [lk, sv1, sv2, sv3, Nat.reduceEqDiff, Nat.reduceAdd, Nat.reduceLeDiff, reduceIte, if_false, if_true, mkVal, unLV, List.map, optTmps, *]) (fun bb hbb => ⟨by first | trivial | (simp only [Chks, wantedG, LOp.run, lk, sv1, sv2, sv3, Nat.reduceEqDiff, Nat.reduceAdd, Nat.reduceLeDiff, reduceIte, if_false, if_true, mkVal, unLV, List.map, optTmps, beq_self_eq_true, *]; simp), ?_⟩)
    simp only [Env.put_some]
    cases bb <;> simp only [decide_eq_true_eq, decide_eq_false_iff_not] at hbb
    · repeat' (first
          | (refine ok_block ?_)
          | (refine pw_seq ?_)
          | (refine ok_skip ?_; try simp only [Thn, Blkd, reduceIte, Nat.reduceEqDiff])
          | (refine ok_exit ?_; try simp only [Thn, Blkd, reduceIte, Nat.reduceEqDiff, Nat.succ_ne_self])
          | (refine ok_ret ?_; try simp only [Thn, Blkd, reduceIte, Nat.reduceEqDiff])
          | (refine pw_region hm ?_)
          | (refine pw_nil ?_; try simp only [Thn, Blkd, reduceIte, Nat.reduceEqDiff])
          | (apply pw_condT; (focus (simp only [lk, sv1, sv2, sv3, Nat.reduceEqDiff, Nat.reduceAdd, Nat.reduceLeDiff, reduceIte, if_false, if_true, mkVal, unLV, List.map, optTmps, *]; done)))
          | (apply pw_condF; (focus (simp only [lk, sv1, sv2, sv3, Nat.reduceEqDiff, Nat.reduceAdd, Nat.reduceLeDiff, reduceIte, if_false, if_true, mkVal, unLV, List.map, optTmps, *]; done)))
          | (apply pw_binF; (focus (simp only [wantedG, lk, sv1, sv2, sv3, Nat.reduceEqDiff, Nat.reduceAdd, Nat.reduceLeDiff, reduceIte, if_false, if_true, mkVal, unLV, List.map, optTmps, beq_self_eq_true, *]; (try rfl); done)); (focus (simp only [lk, sv1, sv2, sv3, Nat.reduceEqDiff, Nat.reduceAdd, Nat.reduceLeDiff, reduceIte, if_false, if_true, mkVal, unLV, List.map, optTmps, binLV, intBin, *]; (try rfl); done)); intro bb hbb; cases bb <;> simp only [decide_eq_true_eq, decide_eq_false_iff_not, bne_iff_ne, beq_iff_eq, ne_eq, bne_eq_false_iff_eq, beq_eq_false_iff_ne, Int.not_lt, Int.not_le, gt_iff_lt, ge_iff_le, Bool.not_eq_true] at hbb)
          | (apply pw_run0; (focus (simp only [LOp.run, binLV, intBin, lk, sv1, sv2, sv3, Nat.reduceEqDiff, Nat.reduceAdd, Nat.reduceLeDiff, reduceIte, if_false, if_true, mkVal, unLV, List.map, optTmps, *]; (try rfl); done)))
          | (apply pw_run0; (focus (simp only [run_iaddr, lk, sv1, sv2, sv3, Nat.reduceEqDiff, Nat.reduceAdd, Nat.reduceLeDiff, reduceIte, if_false, if_true, mkVal, unLV, List.map, optTmps, *]; (try rfl); done)))
          | (apply pw_skipF; (focus (simp only [wantedG, lk, sv1, sv2, sv3, Nat.reduceEqDiff, Nat.reduceAdd, Nat.reduceLeDiff, reduceIte, if_false, if_true, mkVal, unLV, List.map, optTmps, *]; (try rfl); done)); simp only [Env.put_some])
          | (apply pw_runF; (focus (simp only [wantedG, lk, sv1, sv2, sv3, Nat.reduceEqDiff, Nat.reduceAdd, Nat.reduceLeDiff, reduceIte, if_false, if_true, mkVal, unLV, List.map, optTmps, beq_self_eq_true, *]; (try rfl); done)); (focus (simp only [LOp.run, binLV, intBin, lk, sv1, sv2, sv3, Nat.reduceEqDiff, Nat.reduceAdd, Nat.reduceLeDiff, reduceIte, if_false, if_true, mkVal, unLV, List.map, optTmps, *]; (try rfl); done)); (focus rfl); (focus trivial); simp only [Env.put_some])
          | (apply pw_runF; (focus (simp only [wantedG, lk, sv1, sv2, sv3, Nat.reduceEqDiff, Nat.reduceAdd, Nat.reduceLeDiff, reduceIte, if_false, if_true, mkVal, unLV, List.map, optTmps, beq_self_eq_true, *]; (try rfl); done)); (focus (simp only [run_iaddr, lk, sv1, sv2, sv3, Nat.reduceEqDiff, Nat.reduceAdd, Nat.reduceLeDiff, reduceIte, if_false, if_true, mkVal, unLV, List.map, optTmps, *]; (try rfl); done)); (focus rfl); (focus trivial); simp only [Env.put_some]))
      refine ⟨.inr trivial, ?_⟩
      simp only [lk, sv1, sv2, sv3, Nat.reduceEqDiff, Nat.reduceAdd, Nat.reduceLeDiff, reduceIte, if_false, if_true, mkVal, unLV, List.map, optTmps]
      refine bool_f fun h => hbb (h.2.2.2.1 i (by omega))
    · repeat' (first
          | (refine ok_block ?_)
          | (refine pw_seq ?_)
          | (refine ok_skip ?_; try simp only [Thn, Blkd, reduceIte, Nat.reduceEqDiff])
          | (refine ok_exit ?_; try simp only [Thn, Blkd, reduceIte, Nat.reduceEqDiff, Nat.succ_ne_self])
          | (refine ok_ret ?_; try simp only [Thn, Blkd, reduceIte, Nat.reduceEqDiff])
          | (refine pw_region hm ?_)
          | (refine pw_nil ?_; try simp only [Thn, Blkd, reduceIte, Nat.reduceEqDiff])
          | (apply pw_condT; (focus (simp only [lk, sv1, sv2, sv3, Nat.reduceEqDiff, Nat.reduceAdd, Nat.reduceLeDiff, reduceIte, if_false, if_true, mkVal, unLV, List.map, optTmps, *]; done)))
          | (apply pw_condF; (focus (simp only [lk, sv1, sv2, sv3, Nat.reduceEqDiff, Nat.reduceAdd, Nat.reduceLeDiff, reduceIte, if_false, if_true, mkVal, unLV, List.map, optTmps, *]; done)))
          | (apply pw_binF; (focus (simp only [wantedG, lk, sv1, sv2, sv3, Nat.reduceEqDiff, Nat.reduceAdd, Nat.reduceLeDiff, reduceIte, if_false, if_true, mkVal, unLV, List.map, optTmps, beq_self_eq_true, *]; (try rfl); done)); (focus (simp only [lk, sv1, sv2, sv3, Nat.reduceEqDiff, Nat.reduceAdd, Nat.reduceLeDiff, reduceIte, if_false, if_true, mkVal, unLV, List.map, optTmps, binLV, intBin, *]; (try rfl); done)); intro bb hbb; cases bb <;> simp only [decide_eq_true_eq, decide_eq_false_iff_not, bne_iff_ne, beq_iff_eq, ne_eq, bne_eq_false_iff_eq, beq_eq_false_iff_ne, Int.not_lt, Int.not_le, gt_iff_lt, ge_iff_le, Bool.not_eq_true] at hbb)
          | (apply pw_run0; (focus (simp only [LOp.run, binLV, intBin, lk, sv1, sv2, sv3, Nat.reduceEqDiff, Nat.reduceAdd, Nat.reduceLeDiff, reduceIte, if_false, if_true, mkVal, unLV, List.map, optTmps, *]; (try rfl); done)))
          | (apply pw_run0; (focus (simp only [run_iaddr, lk, sv1, sv2, sv3, Nat.reduceEqDiff, Nat.reduceAdd, Nat.reduceLeDiff, reduceIte, if_false, if_true, mkVal, unLV, List.map, optTmps, *]; (try rfl); done)))
          | (apply pw_skipF; (focus (simp only [wantedG, lk, sv1, sv2, sv3, Nat.reduceEqDiff, Nat.reduceAdd, Nat.reduceLeDiff, reduceIte, if_false, if_true, mkVal, unLV, List.map, optTmps, *]; (try rfl); done)); simp only [Env.put_some])
          | (apply pw_runF; (focus (simp only [wantedG, lk, sv1, sv2, sv3, Nat.reduceEqDiff, Nat.reduceAdd, Nat.reduceLeDiff, reduceIte, if_false, if_true, mkVal, unLV, List.map, optTmps, beq_self_eq_true, *]; (try rfl); done)); (focus (simp only [LOp.run, binLV, intBin, lk, sv1, sv2, sv3, Nat.reduceEqDiff, Nat.reduceAdd, Nat.reduceLeDiff, reduceIte, if_false, if_true, mkVal, unLV, List.map, optTmps, *]; (try rfl); done)); (focus rfl); (focus trivial); simp only [Env.put_some])
          | (apply pw_runF; (focus (simp only [wantedG, lk, sv1, sv2, sv3, Nat.reduceEqDiff, Nat.reduceAdd, Nat.reduceLeDiff, reduceIte, if_false, if_true, mkVal, unLV, List.map, optTmps, beq_self_eq_true, *]; (try rfl); done)); (focus (simp only [run_iaddr, lk, sv1, sv2, sv3, Nat.reduceEqDiff, Nat.reduceAdd, Nat.reduceLeDiff, reduceIte, if_false, if_true, mkVal, unLV, List.map, optTmps, *]; (try rfl); done)); (focus rfl); (focus trivial); simp only [Env.put_some]))
      refine ⟨_, ?_, trivial, i + 1, rfl, ?_⟩
      · omega
      simp only [lk, sv1, sv2, sv3, Nat.reduceEqDiff, Nat.reduceAdd, Nat.reduceLeDiff, reduceIte, if_false, if_true, mkVal, unLV, List.map, optTmps, true_and, wrap_succ (i := i) ‹_› hS.len, *]
      refine ⟨by omega, fun j hj => ?_⟩
      rcases Nat.lt_succ_iff_lt_or_eq.1 hj with h | rfl
      · exact hall j h
      · exact hbb
theorem rwvalid_ok {st lo : LV} {S L : List Int} (hS : IsInts st S) (hL : IsInts lo L) (m : Int) : PO 21 [.int .i64 m, .agg [st, lo]] (.bool (decide ((∀ j, j < S.length → S.getD j 0 < m) ∧ (∀ j, j < L.length → L.getD j 0 < m) ∧ Fm S L))) := by
  have hcl : (LV.agg [st, lo]).closed = true := by simp [LV.closed, LV.closed.closedAll, hS.closed, hL.closed]
  have hc1 := hS.sl.cell
  have hc2 := hL.sl.cell
  refine pure_tmp (t := 4) hm Tryd.func21 (by decide +kernel) c21 (Nat.le_of_ble_eq_true rfl) (by simp [LV.closed.closedAll, hcl]; rfl) rfl rfl ?_
  have h0 : (envOf [.int .i64 m, LV.agg [st, lo]]).at 0 = .int .i64 m := by rw [envOf_at]; rfl
  have h1 : (envOf [.int .i64 m, LV.agg [st, lo]]).at 1 = .agg [st, lo] := by rw [envOf_at]; rfl
  generalize envOf [.int .i64 m, LV.agg [st, lo]] = e at *
  unfold l21
  dsimp only
  repeat' (first
      | (refine ok_block ?_)
      | (refine pw_seq ?_)
      | (refine ok_skip ?_; try simp only [Thn, Blkd, reduceIte, Nat.reduceEqDiff])
      | (refine ok_exit ?_; try simp only [Thn, Blkd, reduceIte, Nat.reduceEqDiff, Nat.succ_ne_self])
      | (refine ok_ret ?_; try simp only [Thn, Blkd, reduceIte, Nat.reduceEqDiff])
      | (refine pw_region hm ?_)
      | (refine pw_nil ?_; try simp only [Thn, Blkd, reduceIte, Nat.reduceEqDiff])
      | (apply pw_condT; (focus (simp only [lk, sv1, sv2, sv3, Nat.reduceEqDiff, Nat.reduceAdd, Nat.reduceLeDiff, reduceIte, if_false, if_true, mkVal, unLV, List.map, optTmps, *]; done)))
      | (apply pw_condF; (focus (simp only [lk, sv1, sv2, sv3, Nat.reduceEqDiff, Nat.reduceAdd, Nat.reduceLeDiff, reduceIte, if_false, if_true, mkVal, unLV, List.map, optTmps, *]; done)))
      | (apply pw_binF; (focus (simp only [wantedG, lk, sv1, sv2, sv3, Nat.reduceEqDiff, Nat.reduceAdd, Nat.reduceLeDiff, reduceIte, if_false, if_true, mkVal, unLV, List.map, optTmps, beq_self_eq_true, *]; (try rfl); done)); (focus (simp only [lk, sv1, sv2, sv3, Nat.reduceEqDiff, Nat.reduceAdd, Nat.reduceLeDiff, reduceIte, if_false, if_true, mkVal, unLV, List.map, optTmps, binLV, intBin, hS.sl.len, hL.sl.len, *]; (try rfl); done)); intro bb hbb; cases bb <;> simp only [decide_eq_true_eq, decide_eq_false_iff_not, bne_iff_ne, beq_iff_eq, ne_eq, bne_eq_false_iff_eq, beq_eq_false_iff_ne, Int.not_lt, Int.not_le, gt_iff_lt, ge_iff_le, Bool.not_eq_true] at hbb)
      | (apply pw_run0; (focus (simp only [LOp.run, binLV, intBin, lk, sv1, sv2, sv3, Nat.reduceEqDiff, Nat.reduceAdd, Nat.reduceLeDiff, reduceIte, if_false, if_true, mkVal, unLV, List.map, optTmps, hS.sl.len, hL.sl.len, *]; (try rfl); done)))
      | (apply pw_run0; (focus (simp only [run_iaddr, lk, sv1, sv2, sv3, Nat.reduceEqDiff, Nat.reduceAdd, Nat.reduceLeDiff, reduceIte, if_false, if_true, mkVal, unLV, List.map, optTmps, hS.sl.len, hL.sl.len, *]; (try rfl); done)))
      | (apply pw_skipF; (focus (simp only [wantedG, lk, sv1, sv2, sv3, Nat.reduceEqDiff, Nat.reduceAdd, Nat.reduceLeDiff, reduceIte, if_false, if_true, mkVal, unLV, List.map, optTmps, *]; (try rfl); done)); simp only [Env.put_some])
      | (apply pw_runF; (focus (simp only [wantedG, lk, sv1, sv2, sv3, Nat.reduceEqDiff, Nat.reduceAdd, Nat.reduceLeDiff, reduceIte, if_false, if_true, mkVal, unLV, List.map, optTmps, beq_self_eq_true, *]; (try rfl); done)); (focus (simp only [LOp.run, binLV, intBin, lk, sv1, sv2, sv3, Nat.reduceEqDiff, Nat.reduceAdd, Nat.reduceLeDiff, reduceIte, if_false, if_true, mkVal, unLV, List.map, optTmps, hS.sl.len, hL.sl.len, *]; (try rfl); done)); (focus rfl); (focus trivial); simp only [Env.put_some])
      | (apply pw_runF; (focus (simp only [wantedG, lk, sv1, sv2, sv3, Nat.reduceEqDiff, Nat.reduceAdd, Nat.reduceLeDiff, reduceIte, if_false, if_true, mkVal, unLV, List.map, optTmps, beq_self_eq_true, *]; (try rfl); done)); (focus (simp only [run_iaddr, lk, sv1, sv2, sv3, Nat.reduceEqDiff, Nat.reduceAdd, Nat.reduceLeDiff, reduceIte, if_false, if_true, mkVal, unLV, List.map, optTmps, hS.sl.len, hL.sl.len, *]; (try rfl); done)); (focus rfl); (focus trivial); simp only [Env.put_some]))
  refine pw_loopI (fun n e s => s = St.empty ∧ ∃ i : Nat, n = S.length - i ∧ i ≤ S.length ∧ e.at 0 = .int .i64 m ∧ e.at 3 = .pimm [st, lo] 0 ∧ e.at 5 = .int .i64 (i : Int) ∧ ∀ j, j < i → S.getD j 0 < m) S.length ⟨rfl, 0, by simp, by simp, by simp [h0], by simp, by simp, fun j hj => absurd hj (Nat.not_lt_zero _)⟩ ?_
  rintro n e s ⟨rfl, i, rfl, hi, e0, e3, e5, hall⟩
  repeat' (first
      | (refine ok_block ?_)
      | (refine pw_seq ?_)
      | (refine ok_skip ?_; try simp only [Thn, Blkd, reduceIte, Nat.reduceEqDiff])
      | (refine ok_exit ?_; try simp only [Thn, Blkd, reduceIte, Nat.reduceEqDiff, Nat.succ_ne_self])
      | (refine ok_ret ?_; try simp only [Thn, Blkd, reduceIte, Nat.reduceEqDiff])
      | (refine pw_region hm ?_)
      | (refine pw_nil ?_; try simp only [Thn, Blkd, reduceIte, Nat.reduceEqDiff])
      | (apply pw_condT; (focus (simp only [lk, sv1, sv2, sv3, Nat.reduceEqDiff, Nat.reduceAdd, Nat.reduceLeDiff, reduceIte, if_false, if_true, mkVal, unLV, List.map, optTmps, *]; done)))
      | (apply pw_condF; (focus (simp only [lk, sv1, sv2, sv3, Nat.reduceEqDiff, Nat.reduceAdd, Nat.reduceLeDiff, reduceIte, if_false, if_true, mkVal, unLV, List.map, optTmps, *]; done)))
      | (apply pw_binF; (focus (simp only [wantedG, lk, sv1, sv2, sv3, Nat.reduceEqDiff, Nat.reduceAdd, Nat.reduceLeDiff, reduceIte, if_false, if_true, mkVal, unLV, List.map, optTmps, beq_self_eq_true, *]; (try rfl); done)); (focus (simp only [lk, sv1, sv2, sv3, Nat.reduceEqDiff, Nat.reduceAdd, Nat.reduceLeDiff, reduceIte, if_false, if_true, mkVal, unLV, List.map, optTmps, binLV, intBin, hS.sl.len, hL.sl.len, iaN hS.sl, ints_get, *]; (try rfl); done)); intro bb hbb; cases bb <;> simp only [decide_eq_true_eq, decide_eq_false_iff_not, bne_iff_ne, beq_iff_eq, ne_eq, bne_eq_false_iff_eq, beq_eq_false_iff_ne, Int.not_lt, Int.not_le, gt_iff_lt, ge_iff_le, Bool.not_eq_true] at hbb)
      | (apply pw_run0; (focus (simp only [LOp.run, binLV, intBin, lk, sv1, sv2, sv3, Nat.reduceEqDiff, Nat.reduceAdd, Nat.reduceLeDiff, reduceIte, if_false, if_true, mkVal, unLV, List.map, optTmps, hS.sl.len, hL.sl.len, iaN hS.sl, ints_get, *]; (try rfl); done)))
      | (apply pw_run0; (focus (simp only [run_iaddr, lk, sv1, sv2, sv3, Nat.reduceEqDiff, Nat.reduceAdd, Nat.reduceLeDiff, reduceIte, if_false, if_true, mkVal, unLV, List.map, optTmps, hS.sl.len, hL.sl.len, iaN hS.sl, ints_get, *]; (try rfl); done)))
      | (apply pw_skipF; (focus (simp only [wantedG, lk, sv1, sv2, sv3, Nat.reduceEqDiff, Nat.reduceAdd, Nat.reduceLeDiff, reduceIte, if_false, if_true, mkVal, unLV, List.map, optTmps, *]; (try rfl); done)); simp only [Env.put_some])
      | (apply pw_runF; (focus (simp only [wantedG, lk, sv1, sv2, sv3, Nat.reduceEqDiff, Nat.reduceAdd, Nat.reduceLeDiff, reduceIte, if_false, if_true, mkVal, unLV, List.map, optTmps, beq_self_eq_true, *]; (try rfl); done)); (focus (simp only [LOp.run, binLV, intBin, lk, sv1, sv2, sv3, Nat.reduceEqDiff, Nat.reduceAdd, Nat.reduceLeDiff, reduceIte, if_false, if_true, mkVal, unLV, List.map, optTmps, hS.sl.len, hL.sl.len, iaN hS.sl, ints_get, *]; (try rfl); done)); (focus rfl); (focus trivial); simp only [Env.put_some])
      | (apply pw_runF; (focus (simp only [wantedG, lk, sv1, sv2, sv3, Nat.reduceEqDiff, Nat.reduceAdd, Nat.reduceLeDiff, reduceIte, if_false, if_true, mkVal, unLV, List.map, optTmps, beq_self_eq_true, *]; (try rfl); done)); (focus (simp only [run_iaddr, lk, sv1, sv2, sv3, Nat.reduceEqDiff, Nat.reduceAdd, Nat.reduceLeDiff, reduceIte, if_false, if_true, mkVal, unLV, List.map, optTmps, hS.sl.len, hL.sl.len, iaN hS.sl, ints_get, *]; (try rfl); done)); (focus rfl); (focus trivial); simp only [Env.put_some]))
  · refine pw_loopI (fun n e s => s = St.empty ∧ ∃ i : Nat, n = L.length - i ∧ i ≤ L.length ∧ e.at 0 = .int .i64 m ∧ e.at 3 = .pimm [st, lo] 0 ∧ e.at 6 = .int .i64 (i : Int) ∧ ∀ j, j < i → L.getD j 0 < m) L.length ⟨rfl, 0, by simp, by simp, by simp [e0], by simp [e3], by simp, fun j hj => absurd hj (Nat.not_lt_zero _)⟩ ?_
    rintro n e s ⟨rfl, k, rfl, hk, e0, e3, e6, hall2⟩
    repeat' (first
        | (refine ok_block ?_)
        | (refine pw_seq ?_)
        | (refine ok_skip ?_; try simp only [Thn, Blkd, reduceIte, Nat.reduceEqDiff])
        | (refine ok_exit ?_; try simp only [Thn, Blkd, reduceIte, Nat.reduceEqDiff, Nat.succ_ne_self])
        | (refine ok_ret ?_; try simp only [Thn, Blkd, reduceIte, Nat.reduceEqDiff])
        | (refine pw_region hm ?_)
        | (refine pw_nil ?_; try simp only [Thn, Blkd, reduceIte, Nat.reduceEqDiff])
        | (apply pw_condT; (focus (simp only [lk, sv1, sv2, sv3, Nat.reduceEqDiff, Nat.reduceAdd, Nat.reduceLeDiff, reduceIte, if_false, if_true, mkVal, unLV, List.map, optTmps, *]; done)))
        | (apply pw_condF; (focus (simp only [lk, sv1, sv2, sv3, Nat.reduceEqDiff, Nat.reduceAdd, Nat.reduceLeDiff, reduceIte, if_false, if_true, mkVal, unLV, List.map, optTmps, *]; done)))
        | (apply pw_binF; (focus (simp only [wantedG, lk, sv1, sv2, sv3, Nat.reduceEqDiff, Nat.reduceAdd, Nat.reduceLeDiff, reduceIte, if_false, if_true, mkVal, unLV, List.map, optTmps, beq_self_eq_true, *]; (try rfl); done)); (focus (simp only [lk, sv1, sv2, sv3, Nat.reduceEqDiff, Nat.reduceAdd, Nat.reduceLeDiff, reduceIte, if_false, if_true, mkVal, unLV, List.map, optTmps, binLV, intBin, hS.sl.len, hL.sl.len, iaN hL.sl, ints_get, *]; (try rfl); done)); intro bb hbb; cases bb <;> simp only [decide_eq_true_eq, decide_eq_false_iff_not, bne_iff_ne, beq_iff_eq, ne_eq, bne_eq_false_iff_eq, beq_eq_false_iff_ne, Int.not_lt, Int.not_le, gt_iff_lt, ge_iff_le, Bool.not_eq_true] at hbb)
        | (apply pw_run0; (focus (simp only [LOp.run, binLV, intBin, lk, sv1, sv2, sv3, Nat.reduceEqDiff, Nat.reduceAdd, Nat.reduceLeDiff, reduceIte, if_false, if_true, mkVal, unLV, List.map, optTmps, hS.sl.len, hL.sl.len, iaN hL.sl, ints_get, *]; (try rfl); done)))
        | (apply pw_run0; (focus (simp only [run_iaddr, lk, sv1, sv2, sv3, Nat.reduceEqDiff, Nat.reduceAdd, Nat.reduceLeDiff, reduceIte, if_false, if_true, mkVal, unLV, List.map, optTmps, hS.sl.len, hL.sl.len, iaN hL.sl, ints_get, *]; (try rfl); done)))
        | (apply pw_skipF; (focus (simp only [wantedG, lk, sv1, sv2, sv3, Nat.reduceEqDiff, Nat.reduceAdd, Nat.reduceLeDiff, reduceIte, if_false, if_true, mkVal, unLV, List.map, optTmps, *]; (try rfl); done)); simp only [Env.put_some])
        | (apply pw_runF; (focus (simp only [wantedG, lk, sv1, sv2, sv3, Nat.reduceEqDiff, Nat.reduceAdd, Nat.reduceLeDiff, reduceIte, if_false, if_true, mkVal, unLV, List.map, optTmps, beq_self_eq_true, *]; (try rfl); done)); (focus (simp only [LOp.run, binLV, intBin, lk, sv1, sv2, sv3, Nat.reduceEqDiff, Nat.reduceAdd, Nat.reduceLeDiff, reduceIte, if_false, if_true, mkVal, unLV, List.map, optTmps, hS.sl.len, hL.sl.len, iaN hL.sl, ints_get, *]; (try rfl); done)); (focus rfl); (focus trivial); simp only [Env.put_some])
        | (apply pw_runF; (focus (simp only [wantedG, lk, sv1, sv2, sv3, Nat.reduceEqDiff, Nat.reduceAdd, Nat.reduceLeDiff, reduceIte, if_false, if_true, mkVal, unLV, List.map, optTmps, beq_self_eq_true, *]; (try rfl); done)); (focus (simp only [run_iaddr, lk, sv1, sv2, sv3, Nat.reduceEqDiff, Nat.reduceAdd, Nat.reduceLeDiff, reduceIte, if_false, if_true, mkVal, unLV, List.map, optTmps, hS.sl.len, hL.sl.len, iaN hL.sl, ints_get, *]; (try rfl); done)); (focus rfl); (focus trivial); simp only [Env.put_some]))
    · refine pw_pureB hG0 (rformed_ok hS hL) (by simp only [wantedG, lk, sv1, sv2, sv3, Nat.reduceEqDiff, Nat.reduceAdd, Nat.reduceLeDiff, reduceIte, if_false, if_true, mkVal, unLV, List.map, optTmps, beq_self_eq_true, *]) (by simp only [lk, sv1, sv2, sv3, Nat.reduceEqDiff, Nat.reduceAdd, Nat.reduceLeDiff, reduceIte, if_false, if_true, mkVal, unLV, List.map, optTmps, *]) (fun bb hbb => ⟨by first | trivial | (simp only [Chks, wantedG, LOp.run, lk, sv1, sv2, sv3, Nat.reduceEqDiff, Nat.reduceAdd, Nat.reduceLeDiff, reduceIte, if_false, if_true, mkVal, unLV, List.map, optTmps, beq_self_eq_true, *]; simp), ?_⟩)
      simp only [Env.put_some]
      cases bb <;> simp only [decide_eq_true_eq, decide_eq_false_iff_not] at hbb
      · repeat' (first
            | (refine ok_block ?_)
            | (refine pw_seq ?_)
            | (refine ok_skip ?_; try simp only [Thn, Blkd, reduceIte, Nat.reduceEqDiff])
            | (refine ok_exit ?_; try simp only [Thn, Blkd, reduceIte, Nat.reduceEqDiff, Nat.succ_ne_self])
            | (refine ok_ret ?_; try simp only [Thn, Blkd, reduceIte, Nat.reduceEqDiff])
            | (refine pw_region hm ?_)
            | (refine pw_nil ?_; try simp only [Thn, Blkd, reduceIte, Nat.reduceEqDiff])
            | (apply pw_condT; (focus (simp only [lk, sv1, sv2, sv3, Nat.reduceEqDiff, Nat.reduceAdd, Nat.reduceLeDiff, reduceIte, if_false, if_true, mkVal, unLV, List.map, optTmps, *]; done)))
            | (apply pw_condF; (focus (simp only [lk, sv1, sv2, sv3, Nat.reduceEqDiff, Nat.reduceAdd, Nat.reduceLeDiff, reduceIte, if_false, if_true, mkVal, unLV, List.map, optTmps, *]; done)))
            | (apply pw_binF; (focus (simp only [wantedG, lk, sv1, sv2, sv3, Nat.reduceEqDiff, Nat.reduceAdd, Nat.reduceLeDiff, reduceIte, if_false, if_true, mkVal, unLV, List.map, optTmps, beq_self_eq_true, *]; (try rfl); done)); (focus (simp only [lk, sv1, sv2, sv3, Nat.reduceEqDiff, Nat.reduceAdd, Nat.reduceLeDiff, reduceIte, if_false, if_true, mkVal, unLV, List.map, optTmps, binLV, intBin, *]; (try rfl); done)); intro bb hbb; cases bb <;> simp only [decide_eq_true_eq, decide_eq_false_iff_not, bne_iff_ne, beq_iff_eq, ne_eq, bne_eq_false_iff_eq, beq_eq_false_iff_ne, Int.not_lt, Int.not_le, gt_iff_lt, ge_iff_le, Bool.not_eq_true] at hbb)
            | (apply pw_run0; (focus (simp only [LOp.run, binLV, intBin, lk, sv1, sv2, sv3, Nat.reduceEqDiff, Nat.reduceAdd, Nat.reduceLeDiff, reduceIte, if_false, if_true, mkVal, unLV, List.map, optTmps, *]; (try rfl); done)))
            | (apply pw_run0; (focus (simp only [run_iaddr, lk, sv1, sv2, sv3, Nat.reduceEqDiff, Nat.reduceAdd, Nat.reduceLeDiff, reduceIte, if_false, if_true, mkVal, unLV, List.map, optTmps, *]; (try rfl); done)))
            | (apply pw_skipF; (focus (simp only [wantedG, lk, sv1, sv2, sv3, Nat.reduceEqDiff, Nat.reduceAdd, Nat.reduceLeDiff, reduceIte, if_false, if_true, mkVal, unLV, List.map, optTmps, *]; (try rfl); done)); simp only [Env.put_some])
            | (apply pw_runF; (focus (simp only [wantedG, lk, sv1, sv2, sv3, Nat.reduceEqDiff, Nat.reduceAdd, Nat.reduceLeDiff, reduceIte, if_false, if_true, mkVal, unLV, List.map, optTmps, beq_self_eq_true, *]; (try rfl); done)); (focus (simp only [LOp.run, binLV, intBin, lk, sv1, sv2, sv3, Nat.reduceEqDiff, Nat.reduceAdd, Nat.reduceLeDiff, reduceIte, if_false, if_true, mkVal, unLV, List.map, optTmps, *]; (try rfl); done)); (focus rfl); (focus trivial); simp only [Env.put_some])
            | (apply pw_runF; (focus (simp only [wantedG, lk, sv1, sv2, sv3, Nat.reduceEqDiff, Nat.reduceAdd, Nat.reduceLeDiff, reduceIte, if_false, if_true, mkVal, unLV, List.map, optTmps, beq_self_eq_true, *]; (try rfl); done)); (focus (simp only [run_iaddr, lk, sv1, sv2, sv3, Nat.reduceEqDiff, Nat.reduceAdd, Nat.reduceLeDiff, reduceIte, if_false, if_true, mkVal, unLV, List.map, optTmps, *]; (try rfl); done)); (focus rfl); (focus trivial); simp only [Env.put_some]))
        refine ⟨.inr trivial, ?_⟩
        simp only [lk, sv1, sv2, sv3, Nat.reduceEqDiff, Nat.reduceAdd, Nat.reduceLeDiff, reduceIte, if_false, if_true, mkVal, unLV, List.map, optTmps]
        exact bool_f fun h => hbb h.2.2
      · repeat' (first
            | (refine ok_block ?_)
            | (refine pw_seq ?_)
            | (refine ok_skip ?_; try simp only [Thn, Blkd, reduceIte, Nat.reduceEqDiff])
            | (refine ok_exit ?_; try simp only [Thn, Blkd, reduceIte, Nat.reduceEqDiff, Nat.succ_ne_self])
            | (refine ok_ret ?_; try simp only [Thn, Blkd, reduceIte, Nat.reduceEqDiff])
            | (refine pw_region hm ?_)
            | (refine pw_nil ?_; try simp only [Thn, Blkd, reduceIte, Nat.reduceEqDiff])
            | (apply pw_condT; (focus (simp only [lk, sv1, sv2, sv3, Nat.reduceEqDiff, Nat.reduceAdd, Nat.reduceLeDiff, reduceIte, if_false, if_true, mkVal, unLV, List.map, optTmps, *]; done)))
            | (apply pw_condF; (focus (simp only [lk, sv1, sv2, sv3, Nat.reduceEqDiff, Nat.reduceAdd, Nat.reduceLeDiff, reduceIte, if_false, if_true, mkVal, unLV, List.map, optTmps, *]; done)))
            | (apply pw_binF; (focus (simp only [wantedG, lk, sv1, sv2, sv3, Nat.reduceEqDiff, Nat.reduceAdd, Nat.reduceLeDiff, reduceIte, if_false, if_true, mkVal, unLV, List.map, optTmps, beq_self_eq_true, *]; (try rfl); done)); (focus (simp only [lk, sv1, sv2, sv3, Nat.reduceEqDiff, Nat.reduceAdd, Nat.reduceLeDiff, reduceIte, if_false, if_true, mkVal, unLV, List.map, optTmps, binLV, intBin, *]; (try rfl); done)); intro bb hbb; cases bb <;> simp only [decide_eq_true_eq, decide_eq_false_iff_not, bne_iff_ne, beq_iff_eq, ne_eq, bne_eq_false_iff_eq, beq_eq_false_iff_ne, Int.not_lt, Int.not_le, gt_iff_lt, ge_iff_le, Bool.not_eq_true] at hbb)
            | (apply pw_run0; (focus (simp only [LOp.run, binLV, intBin, lk, sv1, sv2, sv3, Nat.reduceEqDiff, Nat.reduceAdd, Nat.reduceLeDiff, reduceIte, if_false, if_true, mkVal, unLV, List.map, optTmps, *]; (try rfl); done)))
            | (apply pw_run0; (focus (simp only [run_iaddr, lk, sv1, sv2, sv3, Nat.reduceEqDiff, Nat.reduceAdd, Nat.reduceLeDiff, reduceIte, if_false, if_true, mkVal, unLV, List.map, optTmps, *]; (try rfl); done)))
            | (apply pw_skipF; (focus (simp only [wantedG, lk, sv1, sv2, sv3, Nat.reduceEqDiff, Nat.reduceAdd, Nat.reduceLeDiff, reduceIte, if_false, if_true, mkVal, unLV, List.map, optTmps, *]; (try rfl); done)); simp only [Env.put_some])
            | (apply pw_runF; (focus (simp only [wantedG, lk, sv1, sv2, sv3, Nat.reduceEqDiff, Nat.reduceAdd, Nat.reduceLeDiff, reduceIte, if_false, if_true, mkVal, unLV, List.map, optTmps, beq_self_eq_true, *]; (try rfl); done)); (focus (simp only [LOp.run, binLV, intBin, lk, sv1, sv2, sv3, Nat.reduceEqDiff, Nat.reduceAdd, Nat.reduceLeDiff, reduceIte, if_false, if_true, mkVal, unLV, List.map, optTmps, *]; (try rfl); done)); (focus rfl); (focus trivial); simp only [Env.put_some])
            | (apply pw_runF; (focus (simp only [wantedG, lk, sv1, sv2, sv3, Nat.reduceEqDiff, Nat.reduceAdd, Nat.reduceLeDiff, reduceIte, if_false, if_true, mkVal, unLV, List.map, optTmps, beq_self_eq_true, *]; (try rfl); done)); (focus (simp only [run_iaddr, lk, sv1, sv2, sv3, Nat.reduceEqDiff, Nat.reduceAdd, Nat.reduceLeDiff, reduceIte, if_false, if_true, mkVal, unLV, List.map, optTmps, *]; (try rfl); done)); (focus rfl); (focus trivial); simp only [Env.put_some]))
        refine ⟨.inr trivial, ?_⟩
        simp only [lk, sv1, sv2, sv3, Nat.reduceEqDiff, Nat.reduceAdd, Nat.reduceLeDiff, reduceIte, if_false, if_true, mkVal, unLV, List.map, optTmps]
        exact bool_t ⟨fun j hj => hall j (by omega), fun j hj => hall2 j (by omega), hbb⟩
    · refine ⟨_, ?_, trivial, k + 1, rfl, ?_⟩
      · omega
      simp only [lk, sv1, sv2, sv3, Nat.reduceEqDiff, Nat.reduceAdd, Nat.reduceLeDiff, reduceIte, if_false, if_true, mkVal, unLV, List.map, optTmps, true_and, wrap_succ (i := k) ‹_› hL.len, *]
      refine ⟨by omega, fun j hj => ?_⟩
      rcases Nat.lt_succ_iff_lt_or_eq.1 hj with h | rfl
      · exact hall2 j h
      · exact hbb
    · refine ⟨.inr trivial, ?_⟩
      simp only [lk, sv1, sv2, sv3, Nat.reduceEqDiff, Nat.reduceAdd, Nat.reduceLeDiff, reduceIte, if_false, if_true, mkVal, unLV, List.map, optTmps]
      refine bool_f fun h => ?_
      have := h.2.1 k (by omega)
      omega
  · refine ⟨_, ?_, trivial, i + 1, rfl, ?_⟩
    · omega
    simp only [lk, sv1, sv2, sv3, Nat.reduceEqDiff, Nat.reduceAdd, Nat.reduceLeDiff, reduceIte, if_false, if_true, mkVal, unLV, List.map, optTmps, true_and, wrap_succ (i := i) ‹_› hS.len, *]
    refine ⟨by omega, fun j hj => ?_⟩
    rcases Nat.lt_succ_iff_lt_or_eq.1 hj with h | rfl
    · exact hall j h
    · exact hbb
  · refine ⟨.inr trivial, ?_⟩
    simp only [lk, sv1, sv2, sv3, Nat.reduceEqDiff, Nat.reduceAdd, Nat.reduceLeDiff, reduceIte, if_false, if_true, mkVal, unLV, List.map, optTmps]
    refine bool_f fun h => ?_
    have := h.1 i (by omega)
    omega
end Go.Proofs.YtohldpfjnllkdaaDoor
