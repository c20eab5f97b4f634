/- The word package: letter, below, formed, Valid. -/
import Derived.Test.YtohldpfjnllkdaaDoorBase
import Derived.Test.YtohldpfjnllkdaaDoorLitw
import Derived.Test.YtohldpfjnllkdaaDoorPvRow
set_option linter.unusedSimpArgs false
set_option linter.unusedVariables false
namespace Go.Proofs.YtohldpfjnllkdaaDoor
open Go Go.Pv
open Classical
def AllB (l : List Int) (m : Int) : Prop := ∀ j, j < l.length → 0 ≤ l.getD j 0 ∧ l.getD j 0 < m
theorem letter_ok (n : Int) : PO 68 [.int .i64 n] (.bool (decide (0 ≤ n ∧ n < 64))) := by
  refine pure_tmp (t := 2) hm Tryd.func68 (by decide +kernel) c68 (Nat.le_of_ble_eq_true rfl) rfl rfl rfl ?_
  have h0 : (envOf [LV.int .i64 n]).at 0 = .int .i64 n := by rw [envOf_at]; rfl
  generalize envOf [LV.int .i64 n] = e at *
  unfold l68
  dsimp only
  repeat' (first
      | (refine ok_block ?_)
      | (refine pw_seq ?_)
      | (refine ok_skip ?_; try simp only [Thn, Blkd, reduceIte, Nat.reduceEqDiff])
      | (refine ok_exit ?_; try simp only [Thn, Blkd, reduceIte, Nat.reduceEqDiff, Nat.succ_ne_self])
      | (refine ok_ret ?_; try simp only [Thn, Blkd, reduceIte, Nat.reduceEqDiff])
      | (refine pw_region hm ?_)
      | (refine pw_nil ?_; try simp only [Thn, Blkd, reduceIte, Nat.reduceEqDiff])
      | (apply pw_condT; (focus (simp only [lk, sv1, sv2, sv3, Nat.reduceEqDiff, Nat.reduceAdd, Nat.reduceLeDiff, reduceIte, if_false, if_true, mkVal, unLV, List.map, optTmps, *]; done)))
      | (apply pw_condF; (focus (simp only [lk, sv1, sv2, sv3, Nat.reduceEqDiff, Nat.reduceAdd, Nat.reduceLeDiff, reduceIte, if_false, if_true, mkVal, unLV, List.map, optTmps, *]; done)))
      | (apply pw_binF; (focus (simp only [wantedG, lk, sv1, sv2, sv3, Nat.reduceEqDiff, Nat.reduceAdd, Nat.reduceLeDiff, reduceIte, if_false, if_true, mkVal, unLV, List.map, optTmps, beq_self_eq_true, *]; (try rfl); done)); (focus (simp only [lk, sv1, sv2, sv3, Nat.reduceEqDiff, Nat.reduceAdd, Nat.reduceLeDiff, reduceIte, if_false, if_true, mkVal, unLV, List.map, optTmps, binLV, intBin, *]; (try rfl); done)); intro bb hbb; cases bb <;> simp only [decide_eq_true_eq, decide_eq_false_iff_not, bne_iff_ne, beq_iff_eq, ne_eq, bne_eq_false_iff_eq, beq_eq_false_iff_ne, Int.not_lt, Int.not_le, gt_iff_lt, ge_iff_le, Bool.not_eq_true] at hbb)
      | (apply pw_run0; (focus (simp only [LOp.run, binLV, intBin, lk, sv1, sv2, sv3, Nat.reduceEqDiff, Nat.reduceAdd, Nat.reduceLeDiff, reduceIte, if_false, if_true, mkVal, unLV, List.map, optTmps, *]; (try rfl); done)))
      | (apply pw_run0; (focus (simp only [run_iaddr, lk, sv1, sv2, sv3, Nat.reduceEqDiff, Nat.reduceAdd, Nat.reduceLeDiff, reduceIte, if_false, if_true, mkVal, unLV, List.map, optTmps, *]; (try rfl); done)))
      | (apply pw_skipF; (focus (simp only [wantedG, lk, sv1, sv2, sv3, Nat.reduceEqDiff, Nat.reduceAdd, Nat.reduceLeDiff, reduceIte, if_false, if_true, mkVal, unLV, List.map, optTmps, *]; (try rfl); done)); simp only [Env.put_some])
      | (apply pw_runF; (focus (simp only [wantedG, lk, sv1, sv2, sv3, Nat.reduceEqDiff, Nat.reduceAdd, Nat.reduceLeDiff, reduceIte, if_false, if_true, mkVal, unLV, List.map, optTmps, beq_self_eq_true, *]; (try rfl); done)); (focus (simp only [LOp.run, binLV, intBin, lk, sv1, sv2, sv3, Nat.reduceEqDiff, Nat.reduceAdd, Nat.reduceLeDiff, reduceIte, if_false, if_true, mkVal, unLV, List.map, optTmps, *]; (try rfl); done)); (focus rfl); (focus trivial); simp only [Env.put_some])
      | (apply pw_runF; (focus (simp only [wantedG, lk, sv1, sv2, sv3, Nat.reduceEqDiff, Nat.reduceAdd, Nat.reduceLeDiff, reduceIte, if_false, if_true, mkVal, unLV, List.map, optTmps, beq_self_eq_true, *]; (try rfl); done)); (focus (simp only [run_iaddr, lk, sv1, sv2, sv3, Nat.reduceEqDiff, Nat.reduceAdd, Nat.reduceLeDiff, reduceIte, if_false, if_true, mkVal, unLV, List.map, optTmps, *]; (try rfl); done)); (focus rfl); (focus trivial); simp only [Env.put_some]))
  all_goals (refine ⟨.inr trivial, ?_⟩; simp only [lk, sv1, sv2, sv3, Nat.reduceEqDiff, Nat.reduceAdd, Nat.reduceLeDiff, reduceIte, if_false, if_true, mkVal, unLV, List.map, optTmps]; first | exact bool_t (by omega) | exact bool_f (by omega))
theorem below_ok {v : LV} {l : List Int} (hv : IsInts v l) (m : Int) : PO 61 [v, .int .i64 m] (.bool (decide (AllB l m))) := by
  refine pure_tmp (t := 4) hm Tryd.func61 (by decide +kernel) c61 (Nat.le_of_ble_eq_true rfl) (by simp [LV.closed.closedAll, LV.closed, hv.closed]) rfl rfl ?_
  have h0 : (envOf [v, .int .i64 m]).at 0 = v := by rw [envOf_at]; rfl
  have h1 : (envOf [v, .int .i64 m]).at 1 = .int .i64 m := by rw [envOf_at]; rfl
  generalize envOf [v, .int .i64 m] = e at *
  unfold l61
  dsimp only
  repeat' (first
      | (refine ok_block ?_)
      | (refine pw_seq ?_)
      | (refine ok_skip ?_; try simp only [Thn, Blkd, reduceIte, Nat.reduceEqDiff])
      | (refine ok_exit ?_; try simp only [Thn, Blkd, reduceIte, Nat.reduceEqDiff, Nat.succ_ne_self])
      | (refine ok_ret ?_; try simp only [Thn, Blkd, reduceIte, Nat.reduceEqDiff])
      | (refine pw_region hm ?_)
      | (refine pw_nil ?_; try simp only [Thn, Blkd, reduceIte, Nat.reduceEqDiff])
      | (apply pw_condT; (focus (simp only [lk, sv1, sv2, sv3, Nat.reduceEqDiff, Nat.reduceAdd, Nat.reduceLeDiff, reduceIte, if_false, if_true, mkVal, unLV, List.map, optTmps, *]; done)))
      | (apply pw_condF; (focus (simp only [lk, sv1, sv2, sv3, Nat.reduceEqDiff, Nat.reduceAdd, Nat.reduceLeDiff, reduceIte, if_false, if_true, mkVal, unLV, List.map, optTmps, *]; done)))
      | (apply pw_binF; (focus (simp only [wantedG, lk, sv1, sv2, sv3, Nat.reduceEqDiff, Nat.reduceAdd, Nat.reduceLeDiff, reduceIte, if_false, if_true, mkVal, unLV, List.map, optTmps, beq_self_eq_true, *]; (try rfl); done)); (focus (simp only [lk, sv1, sv2, sv3, Nat.reduceEqDiff, Nat.reduceAdd, Nat.reduceLeDiff, reduceIte, if_false, if_true, mkVal, unLV, List.map, optTmps, binLV, intBin, hv.sl.len, *]; (try rfl); done)); intro bb hbb; cases bb <;> simp only [decide_eq_true_eq, decide_eq_false_iff_not, bne_iff_ne, beq_iff_eq, ne_eq, bne_eq_false_iff_eq, beq_eq_false_iff_ne, Int.not_lt, Int.not_le, gt_iff_lt, ge_iff_le, Bool.not_eq_true] at hbb)
      | (apply pw_run0; (focus (simp only [LOp.run, binLV, intBin, lk, sv1, sv2, sv3, Nat.reduceEqDiff, Nat.reduceAdd, Nat.reduceLeDiff, reduceIte, if_false, if_true, mkVal, unLV, List.map, optTmps, hv.sl.len, *]; (try rfl); done)))
      | (apply pw_run0; (focus (simp only [run_iaddr, lk, sv1, sv2, sv3, Nat.reduceEqDiff, Nat.reduceAdd, Nat.reduceLeDiff, reduceIte, if_false, if_true, mkVal, unLV, List.map, optTmps, hv.sl.len, *]; (try rfl); done)))
      | (apply pw_skipF; (focus (simp only [wantedG, lk, sv1, sv2, sv3, Nat.reduceEqDiff, Nat.reduceAdd, Nat.reduceLeDiff, reduceIte, if_false, if_true, mkVal, unLV, List.map, optTmps, *]; (try rfl); done)); simp only [Env.put_some])
      | (apply pw_runF; (focus (simp only [wantedG, lk, sv1, sv2, sv3, Nat.reduceEqDiff, Nat.reduceAdd, Nat.reduceLeDiff, reduceIte, if_false, if_true, mkVal, unLV, List.map, optTmps, beq_self_eq_true, *]; (try rfl); done)); (focus (simp only [LOp.run, binLV, intBin, lk, sv1, sv2, sv3, Nat.reduceEqDiff, Nat.reduceAdd, Nat.reduceLeDiff, reduceIte, if_false, if_true, mkVal, unLV, List.map, optTmps, hv.sl.len, *]; (try rfl); done)); (focus rfl); (focus trivial); simp only [Env.put_some])
      | (apply pw_runF; (focus (simp only [wantedG, lk, sv1, sv2, sv3, Nat.reduceEqDiff, Nat.reduceAdd, Nat.reduceLeDiff, reduceIte, if_false, if_true, mkVal, unLV, List.map, optTmps, beq_self_eq_true, *]; (try rfl); done)); (focus (simp only [run_iaddr, lk, sv1, sv2, sv3, Nat.reduceEqDiff, Nat.reduceAdd, Nat.reduceLeDiff, reduceIte, if_false, if_true, mkVal, unLV, List.map, optTmps, hv.sl.len, *]; (try rfl); done)); (focus rfl); (focus trivial); simp only [Env.put_some]))
  refine pw_loopI (fun n e s => s = St.empty ∧ ∃ i : Nat, n = l.length - i ∧ i ≤ l.length ∧ e.at 1 = .int .i64 m ∧ e.at 7 = v ∧ e.at 8 = .int .i64 (l.length : Int) ∧ e.at 9 = .int .i64 (i : Int) ∧ ∀ j, j < i → 0 ≤ l.getD j 0 ∧ l.getD j 0 < m) l.length ⟨rfl, 0, by simp, by simp, by simp [h1], by simp [h0], by simp, by simp, fun j hj => absurd hj (Nat.not_lt_zero _)⟩ ?_
  rintro n e s ⟨rfl, i, rfl, hi, e1, e7, e8, e9, hall⟩
  repeat' (first
      | (refine ok_block ?_)
      | (refine pw_seq ?_)
      | (refine ok_skip ?_; try simp only [Thn, Blkd, reduceIte, Nat.reduceEqDiff])
      | (refine ok_exit ?_; try simp only [Thn, Blkd, reduceIte, Nat.reduceEqDiff, Nat.succ_ne_self])
      | (refine ok_ret ?_; try simp only [Thn, Blkd, reduceIte, Nat.reduceEqDiff])
      | (refine pw_region hm ?_)
      | (refine pw_nil ?_; try simp only [Thn, Blkd, reduceIte, Nat.reduceEqDiff])
      | (apply pw_condT; (focus (simp only [lk, sv1, sv2, sv3, Nat.reduceEqDiff, Nat.reduceAdd, Nat.reduceLeDiff, reduceIte, if_false, if_true, mkVal, unLV, List.map, optTmps, *]; done)))
      | (apply pw_condF; (focus (simp only [lk, sv1, sv2, sv3, Nat.reduceEqDiff, Nat.reduceAdd, Nat.reduceLeDiff, reduceIte, if_false, if_true, mkVal, unLV, List.map, optTmps, *]; done)))
      | (apply pw_binF; (focus (simp only [wantedG, lk, sv1, sv2, sv3, Nat.reduceEqDiff, Nat.reduceAdd, Nat.reduceLeDiff, reduceIte, if_false, if_true, mkVal, unLV, List.map, optTmps, beq_self_eq_true, *]; (try rfl); done)); (focus (simp only [lk, sv1, sv2, sv3, Nat.reduceEqDiff, Nat.reduceAdd, Nat.reduceLeDiff, reduceIte, if_false, if_true, mkVal, unLV, List.map, optTmps, binLV, intBin, iaN hv.sl, ints_get, *]; (try rfl); done)); intro bb hbb; cases bb <;> simp only [decide_eq_true_eq, decide_eq_false_iff_not, bne_iff_ne, beq_iff_eq, ne_eq, bne_eq_false_iff_eq, beq_eq_false_iff_ne, Int.not_lt, Int.not_le, gt_iff_lt, ge_iff_le, Bool.not_eq_true] at hbb)
      | (apply pw_run0; (focus (simp only [LOp.run, binLV, intBin, lk, sv1, sv2, sv3, Nat.reduceEqDiff, Nat.reduceAdd, Nat.reduceLeDiff, reduceIte, if_false, if_true, mkVal, unLV, List.map, optTmps, iaN hv.sl, ints_get, *]; (try rfl); done)))
      | (apply pw_run0; (focus (simp only [run_iaddr, lk, sv1, sv2, sv3, Nat.reduceEqDiff, Nat.reduceAdd, Nat.reduceLeDiff, reduceIte, if_false, if_true, mkVal, unLV, List.map, optTmps, iaN hv.sl, ints_get, *]; (try rfl); done)))
      | (apply pw_skipF; (focus (simp only [wantedG, lk, sv1, sv2, sv3, Nat.reduceEqDiff, Nat.reduceAdd, Nat.reduceLeDiff, reduceIte, if_false, if_true, mkVal, unLV, List.map, optTmps, *]; (try rfl); done)); simp only [Env.put_some])
      | (apply pw_runF; (focus (simp only [wantedG, lk, sv1, sv2, sv3, Nat.reduceEqDiff, Nat.reduceAdd, Nat.reduceLeDiff, reduceIte, if_false, if_true, mkVal, unLV, List.map, optTmps, beq_self_eq_true, *]; (try rfl); done)); (focus (simp only [LOp.run, binLV, intBin, lk, sv1, sv2, sv3, Nat.reduceEqDiff, Nat.reduceAdd, Nat.reduceLeDiff, reduceIte, if_false, if_true, mkVal, unLV, List.map, optTmps, iaN hv.sl, ints_get, *]; (try rfl); done)); (focus rfl); (focus trivial); simp only [Env.put_some])
      | (apply pw_runF; (focus (simp only [wantedG, lk, sv1, sv2, sv3, Nat.reduceEqDiff, Nat.reduceAdd, Nat.reduceLeDiff, reduceIte, if_false, if_true, mkVal, unLV, List.map, optTmps, beq_self_eq_true, *]; (try rfl); done)); (focus (simp only [run_iaddr, lk, sv1, sv2, sv3, Nat.reduceEqDiff, Nat.reduceAdd, Nat.reduceLeDiff, reduceIte, if_false, if_true, mkVal, unLV, List.map, optTmps, iaN hv.sl, ints_get, *]; (try rfl); done)); (focus rfl); (focus trivial); simp only [Env.put_some]))
  all_goals first
    | (refine ⟨.inr trivial, ?_⟩
       simp only [lk, sv1, sv2, sv3, Nat.reduceEqDiff, Nat.reduceAdd, Nat.reduceLeDiff, reduceIte, if_false, if_true, mkVal, unLV, List.map, optTmps]
       first
         | exact bool_t fun j hj => hall j (by omega)
         | (refine bool_f fun h => ?_
            have := h i (by omega)
            omega))
    | (refine ⟨_, ?_, trivial, i + 1, rfl, ?_⟩
       · omega
       simp only [lk, sv1, sv2, sv3, Nat.reduceEqDiff, Nat.reduceAdd, Nat.reduceLeDiff, reduceIte, if_false, if_true, mkVal, unLV, List.map, optTmps, true_and, wrap_succ (i := i) ‹_› hv.len, *]
       refine ⟨by omega, fun j hj => ?_⟩
       rcases Nat.lt_succ_iff_lt_or_eq.1 hj with h | rfl
       · exact hall j h
       · omega)
def Fm (S L : List Int) : Prop := S.length ≤ 60 ∧ 1 ≤ L.length ∧ L.length ≤ 40 ∧ AllB S 64 ∧ AllB L 64
theorem formed_ok {st lo : LV} {S L : List Int} (hS : IsInts st S) (hL : IsInts lo L) : PO 60 [.agg [st, lo]] (.bool (decide (Fm S L))) := by
  have hcl : (LV.agg [st, lo]).closed = true := by simp [LV.closed, LV.closed.closedAll, hS.closed, hL.closed]
  have hc1 := hS.sl.cell
  have hc2 := hL.sl.cell
  refine pure_tmp (t := 2) hm Tryd.func60 (by decide +kernel) c60 (Nat.le_of_ble_eq_true rfl) (by simp [LV.closed.closedAll, hcl]) rfl rfl ?_
  have h0 : (envOf [LV.agg [st, lo]]).at 0 = .agg [st, lo] := by rw [envOf_at]; rfl
  generalize envOf [LV.agg [st, lo]] = e at *
  unfold l60
  dsimp only
  repeat' (first
      | (refine ok_block ?_)
      | (refine pw_seq ?_)
      | (refine ok_skip ?_; try simp only [Thn, Blkd, reduceIte, Nat.reduceEqDiff])
      | (refine ok_exit ?_; try simp only [Thn, Blkd, reduceIte, Nat.reduceEqDiff, Nat.succ_ne_self])
      | (refine ok_ret ?_; try simp only [Thn, Blkd, reduceIte, Nat.reduceEqDiff])
      | (refine pw_region hm ?_)
      | (refine pw_nil ?_; try simp only [Thn, Blkd, reduceIte, Nat.reduceEqDiff])
      | (apply pw_condT; (focus (simp only [lk, sv1, sv2, sv3, Nat.reduceEqDiff, Nat.reduceAdd, Nat.reduceLeDiff, reduceIte, if_false, if_true, mkVal, unLV, List.map, optTmps, *]; done)))
      | (apply pw_condF; (focus (simp only [lk, sv1, sv2, sv3, Nat.reduceEqDiff, Nat.reduceAdd, Nat.reduceLeDiff, reduceIte, if_false, if_true, mkVal, unLV, List.map, optTmps, *]; done)))
      | (apply pw_binF; (focus (simp only [wantedG, lk, sv1, sv2, sv3, Nat.reduceEqDiff, Nat.reduceAdd, Nat.reduceLeDiff, reduceIte, if_false, if_true, mkVal, unLV, List.map, optTmps, beq_self_eq_true, *]; (try rfl); done)); (focus (simp only [lk, sv1, sv2, sv3, Nat.reduceEqDiff, Nat.reduceAdd, Nat.reduceLeDiff, reduceIte, if_false, if_true, mkVal, unLV, List.map, optTmps, binLV, intBin, hS.sl.len, hL.sl.len, *]; (try rfl); done)); intro bb hbb; cases bb <;> simp only [decide_eq_true_eq, decide_eq_false_iff_not, bne_iff_ne, beq_iff_eq, ne_eq, bne_eq_false_iff_eq, beq_eq_false_iff_ne, Int.not_lt, Int.not_le, gt_iff_lt, ge_iff_le, Bool.not_eq_true] at hbb)
      | (apply pw_run0; (focus (simp only [LOp.run, binLV, intBin, lk, sv1, sv2, sv3, Nat.reduceEqDiff, Nat.reduceAdd, Nat.reduceLeDiff, reduceIte, if_false, if_true, mkVal, unLV, List.map, optTmps, hS.sl.len, hL.sl.len, *]; (try rfl); done)))
      | (apply pw_run0; (focus (simp only [run_iaddr, lk, sv1, sv2, sv3, Nat.reduceEqDiff, Nat.reduceAdd, Nat.reduceLeDiff, reduceIte, if_false, if_true, mkVal, unLV, List.map, optTmps, hS.sl.len, hL.sl.len, *]; (try rfl); done)))
      | (apply pw_skipF; (focus (simp only [wantedG, lk, sv1, sv2, sv3, Nat.reduceEqDiff, Nat.reduceAdd, Nat.reduceLeDiff, reduceIte, if_false, if_true, mkVal, unLV, List.map, optTmps, *]; (try rfl); done)); simp only [Env.put_some])
      | (apply pw_runF; (focus (simp only [wantedG, lk, sv1, sv2, sv3, Nat.reduceEqDiff, Nat.reduceAdd, Nat.reduceLeDiff, reduceIte, if_false, if_true, mkVal, unLV, List.map, optTmps, beq_self_eq_true, *]; (try rfl); done)); (focus (simp only [LOp.run, binLV, intBin, lk, sv1, sv2, sv3, Nat.reduceEqDiff, Nat.reduceAdd, Nat.reduceLeDiff, reduceIte, if_false, if_true, mkVal, unLV, List.map, optTmps, hS.sl.len, hL.sl.len, *]; (try rfl); done)); (focus rfl); (focus trivial); simp only [Env.put_some])
      | (apply pw_runF; (focus (simp only [wantedG, lk, sv1, sv2, sv3, Nat.reduceEqDiff, Nat.reduceAdd, Nat.reduceLeDiff, reduceIte, if_false, if_true, mkVal, unLV, List.map, optTmps, beq_self_eq_true, *]; (try rfl); done)); (focus (simp only [run_iaddr, lk, sv1, sv2, sv3, Nat.reduceEqDiff, Nat.reduceAdd, Nat.reduceLeDiff, reduceIte, if_false, if_true, mkVal, unLV, List.map, optTmps, hS.sl.len, hL.sl.len, *]; (try rfl); done)); (focus rfl); (focus trivial); simp only [Env.put_some]))
  all_goals first
    | (refine ⟨.inr trivial, ?_⟩
       simp only [lk, sv1, sv2, sv3, Nat.reduceEqDiff, Nat.reduceAdd, Nat.reduceLeDiff, reduceIte, if_false, if_true, mkVal, unLV, List.map, optTmps]
       refine bool_f fun h => ?_
       obtain ⟨a, b, c, d, f⟩ := h
       omega)
    | skip
  refine pw_pureB hG0 (below_ok hS 64) (by simp only [wantedG, lk, sv1, sv2, sv3, Nat.reduceEqDiff, Nat.reduceAdd, Nat.reduceLeDiff, reduceIte, if_false, if_true, mkVal, unLV, List.map, optTmps, beq_self_eq_true, *]) (by simp only [lk, sv1, sv2, sv3, Nat.reduceEqDiff, Nat.reduceAdd, Nat.reduceLeDiff, reduceIte, if_false, if_true, mkVal, unLV, List.map, optTmps, *]) (fun bb hbb => ⟨by first | trivial | (simp only [Chks, wantedG, LOp.run, lk, sv1, sv2, sv3, Nat.reduceEqDiff, Nat.reduceAdd, Nat.reduceLeDiff, reduceIte, if_false, if_true, mkVal, unLV, List.map, optTmps, beq_self_eq_true, *]; simp), ?_⟩)
  simp only [Env.put_some]
  cases bb <;> simp only [decide_eq_true_eq, decide_eq_false_iff_not] at hbb
  · repeat' (first
        | (refine ok_block ?_)
        | (refine pw_seq ?_)
        | (refine ok_skip ?_; try simp only [Thn, Blkd, reduceIte, Nat.reduceEqDiff])
        | (refine ok_exit ?_; try simp only [Thn, Blkd, reduceIte, Nat.reduceEqDiff, Nat.succ_ne_self])
        | (refine ok_ret ?_; try simp only [Thn, Blkd, reduceIte, Nat.reduceEqDiff])
        | (refine pw_region hm ?_)
        | (refine pw_nil ?_; try simp only [Thn, Blkd, reduceIte, Nat.reduceEqDiff])
        | (apply pw_condT; (focus (simp only [lk, sv1, sv2, sv3, Nat.reduceEqDiff, Nat.reduceAdd, Nat.reduceLeDiff, reduceIte, if_false, if_true, mkVal, unLV, List.map, optTmps, *]; done)))
        | (apply pw_condF; (focus (simp only [lk, sv1, sv2, sv3, Nat.reduceEqDiff, Nat.reduceAdd, Nat.reduceLeDiff, reduceIte, if_false, if_true, mkVal, unLV, List.map, optTmps, *]; done)))
        | (apply pw_binF; (focus (simp only [wantedG, lk, sv1, sv2, sv3, Nat.reduceEqDiff, Nat.reduceAdd, Nat.reduceLeDiff, reduceIte, if_false, if_true, mkVal, unLV, List.map, optTmps, beq_self_eq_true, *]; (try rfl); done)); (focus (simp only [lk, sv1, sv2, sv3, Nat.reduceEqDiff, Nat.reduceAdd, Nat.reduceLeDiff, reduceIte, if_false, if_true, mkVal, unLV, List.map, optTmps, binLV, intBin, hS.sl.len, hL.sl.len, *]; (try rfl); done)); intro bb hbb; cases bb <;> simp only [decide_eq_true_eq, decide_eq_false_iff_not, bne_iff_ne, beq_iff_eq, ne_eq, bne_eq_false_iff_eq, beq_eq_false_iff_ne, Int.not_lt, Int.not_le, gt_iff_lt, ge_iff_le, Bool.not_eq_true] at hbb)
        | (apply pw_run0; (focus (simp only [LOp.run, binLV, intBin, lk, sv1, sv2, sv3, Nat.reduceEqDiff, Nat.reduceAdd, Nat.reduceLeDiff, reduceIte, if_false, if_true, mkVal, unLV, List.map, optTmps, hS.sl.len, hL.sl.len, *]; (try rfl); done)))
        | (apply pw_run0; (focus (simp only [run_iaddr, lk, sv1, sv2, sv3, Nat.reduceEqDiff, Nat.reduceAdd, Nat.reduceLeDiff, reduceIte, if_false, if_true, mkVal, unLV, List.map, optTmps, hS.sl.len, hL.sl.len, *]; (try rfl); done)))
        | (apply pw_skipF; (focus (simp only [wantedG, lk, sv1, sv2, sv3, Nat.reduceEqDiff, Nat.reduceAdd, Nat.reduceLeDiff, reduceIte, if_false, if_true, mkVal, unLV, List.map, optTmps, *]; (try rfl); done)); simp only [Env.put_some])
        | (apply pw_runF; (focus (simp only [wantedG, lk, sv1, sv2, sv3, Nat.reduceEqDiff, Nat.reduceAdd, Nat.reduceLeDiff, reduceIte, if_false, if_true, mkVal, unLV, List.map, optTmps, beq_self_eq_true, *]; (try rfl); done)); (focus (simp only [LOp.run, binLV, intBin, lk, sv1, sv2, sv3, Nat.reduceEqDiff, Nat.reduceAdd, Nat.reduceLeDiff, reduceIte, if_false, if_true, mkVal, unLV, List.map, optTmps, hS.sl.len, hL.sl.len, *]; (try rfl); done)); (focus rfl); (focus trivial); simp only [Env.put_some])
        | (apply pw_runF; (focus (simp only [wantedG, lk, sv1, sv2, sv3, Nat.reduceEqDiff, Nat.reduceAdd, Nat.reduceLeDiff, reduceIte, if_false, if_true, mkVal, unLV, List.map, optTmps, beq_self_eq_true, *]; (try rfl); done)); (focus (simp only [run_iaddr, lk, sv1, sv2, sv3, Nat.reduceEqDiff, Nat.reduceAdd, Nat.reduceLeDiff, reduceIte, if_false, if_true, mkVal, unLV, List.map, optTmps, hS.sl.len, hL.sl.len, *]; (try rfl); done)); (focus rfl); (focus trivial); simp only [Env.put_some]))
    refine ⟨.inr trivial, ?_⟩
    simp only [lk, sv1, sv2, sv3, Nat.reduceEqDiff, Nat.reduceAdd, Nat.reduceLeDiff, reduceIte, if_false, if_true, mkVal, unLV, List.map, optTmps]
    exact bool_f fun h => hbb h.2.2.2.1
  · repeat' (first
        | (refine ok_block ?_)
        | (refine pw_seq ?_)
        | (refine ok_skip ?_; try simp only [Thn, Blkd, reduceIte, Nat.reduceEqDiff])
        | (refine ok_exit ?_; try simp only [Thn, Blkd, reduceIte, Nat.reduceEqDiff, Nat.succ_ne_self])
        | (refine ok_ret ?_; try simp only [Thn, Blkd, reduceIte, Nat.reduceEqDiff])
        | (refine pw_region hm ?_)
        | (refine pw_nil ?_; try simp only [Thn, Blkd, reduceIte, Nat.reduceEqDiff])
        | (apply pw_condT; (focus (simp only [lk, sv1, sv2, sv3, Nat.reduceEqDiff, Nat.reduceAdd, Nat.reduceLeDiff, reduceIte, if_false, if_true, mkVal, unLV, List.map, optTmps, *]; done)))
        | (apply pw_condF; (focus (simp only [lk, sv1, sv2, sv3, Nat.reduceEqDiff, Nat.reduceAdd, Nat.reduceLeDiff, reduceIte, if_false, if_true, mkVal, unLV, List.map, optTmps, *]; done)))
        | (apply pw_binF; (focus (simp only [wantedG, lk, sv1, sv2, sv3, Nat.reduceEqDiff, Nat.reduceAdd, Nat.reduceLeDiff, reduceIte, if_false, if_true, mkVal, unLV, List.map, optTmps, beq_self_eq_true, *]; (try rfl); done)); (focus (simp only [lk, sv1, sv2, sv3, Nat.reduceEqDiff, Nat.reduceAdd, Nat.reduceLeDiff, reduceIte, if_false, if_true, mkVal, unLV, List.map, optTmps, binLV, intBin, hS.sl.len, hL.sl.len, *]; (try rfl); done)); intro bb hbb; cases bb <;> simp only [decide_eq_true_eq, decide_eq_false_iff_not, bne_iff_ne, beq_iff_eq, ne_eq, bne_eq_false_iff_eq, beq_eq_false_iff_ne, Int.not_lt, Int.not_le, gt_iff_lt, ge_iff_le, Bool.not_eq_true] at hbb)
        | (apply pw_run0; (focus (simp only [LOp.run, binLV, intBin, lk, sv1, sv2, sv3, Nat.reduceEqDiff, Nat.reduceAdd, Nat.reduceLeDiff, reduceIte, if_false, if_true, mkVal, unLV, List.map, optTmps, hS.sl.len, hL.sl.len, *]; (try rfl); done)))
        | (apply pw_run0; (focus (simp only [run_iaddr, lk, sv1, sv2, sv3, Nat.reduceEqDiff, Nat.reduceAdd, Nat.reduceLeDiff, reduceIte, if_false, if_true, mkVal, unLV, List.map, optTmps, hS.sl.len, hL.sl.len, *]; (try rfl); done)))
        | (apply pw_skipF; (focus (simp only [wantedG, lk, sv1, sv2, sv3, Nat.reduceEqDiff, Nat.reduceAdd, Nat.reduceLeDiff, reduceIte, if_false, if_true, mkVal, unLV, List.map, optTmps, *]; (try rfl); done)); simp only [Env.put_some])
        | (apply pw_runF; (focus (simp only [wantedG, lk, sv1, sv2, sv3, Nat.reduceEqDiff, Nat.reduceAdd, Nat.reduceLeDiff, reduceIte, if_false, if_true, mkVal, unLV, List.map, optTmps, beq_self_eq_true, *]; (try rfl); done)); (focus (simp only [LOp.run, binLV, intBin, lk, sv1, sv2, sv3, Nat.reduceEqDiff, Nat.reduceAdd, Nat.reduceLeDiff, reduceIte, if_false, if_true, mkVal, unLV, List.map, optTmps, hS.sl.len, hL.sl.len, *]; (try rfl); done)); (focus rfl); (focus trivial); simp only [Env.put_some])
        | (apply pw_runF; (focus (simp only [wantedG, lk, sv1, sv2, sv3, Nat.reduceEqDiff, Nat.reduceAdd, Nat.reduceLeDiff, reduceIte, if_false, if_true, mkVal, unLV, List.map, optTmps, beq_self_eq_true, *]; (try rfl); done)); (focus (simp only [run_iaddr, lk, sv1, sv2, sv3, Nat.reduceEqDiff, Nat.reduceAdd, Nat.reduceLeDiff, reduceIte, if_false, if_true, mkVal, unLV, List.map, optTmps, hS.sl.len, hL.sl.len, *]; (try rfl); done)); (focus rfl); (focus trivial); simp only [Env.put_some]))
    refine pw_pureB hG0 (below_ok hL 64) (by simp only [wantedG, lk, sv1, sv2, sv3, Nat.reduceEqDiff, Nat.reduceAdd, Nat.reduceLeDiff, reduceIte, if_false, if_true, mkVal, unLV, List.map, optTmps, beq_self_eq_true, *]) (by simp only [lk, sv1, sv2, sv3, Nat.reduceEqDiff, Nat.reduceAdd, Nat.reduceLeDiff, reduceIte, if_false, if_true, mkVal, unLV, List.map, optTmps, *]) (fun bb hbb => ⟨by first | trivial | (simp only [Chks, wantedG, LOp.run, lk, sv1, sv2, sv3, Nat.reduceEqDiff, Nat.reduceAdd, Nat.reduceLeDiff, reduceIte, if_false, if_true, mkVal, unLV, List.map, optTmps, beq_self_eq_true, *]; simp), ?_⟩)
    simp only [Env.put_some]
    cases bb <;> simp only [decide_eq_true_eq, decide_eq_false_iff_not] at hbb
    · repeat' (first
          | (refine ok_block ?_)
          | (refine pw_seq ?_)
          | (refine ok_skip ?_; try simp only [Thn, Blkd, reduceIte, Nat.reduceEqDiff])
          | (refine ok_exit ?_; try simp only [Thn, Blkd, reduceIte, Nat.reduceEqDiff, Nat.succ_ne_self])
          | (refine ok_ret ?_; try simp only [Thn, Blkd, reduceIte, Nat.reduceEqDiff])
          | (refine pw_region hm ?_)
          | (refine pw_nil ?_; try simp only [Thn, Blkd, reduceIte, Nat.reduceEqDiff])
          | (apply pw_condT; (focus (simp only [lk, sv1, sv2, sv3, Nat.reduceEqDiff, Nat.reduceAdd, Nat.reduceLeDiff, reduceIte, if_false, if_true, mkVal, unLV, List.map, optTmps, *]; done)))
          | (apply pw_condF; (focus (simp only [lk, sv1, sv2, sv3, Nat.reduceEqDiff, Nat.reduceAdd, Nat.reduceLeDiff, reduceIte, if_false, if_true, mkVal, unLV, List.map, optTmps, *]; done)))
          | (apply pw_binF; (focus (simp only [wantedG, lk, sv1, sv2, sv3, Nat.reduceEqDiff, Nat.reduceAdd, Nat.reduceLeDiff, reduceIte, if_false, if_true, mkVal, unLV, List.map, optTmps, beq_self_eq_true, *]; (try rfl); done)); (focus (simp only [lk, sv1, sv2, sv3, Nat.reduceEqDiff, Nat.reduceAdd, Nat.reduceLeDiff, reduceIte, if_false, if_true, mkVal, unLV, List.map, optTmps, binLV, intBin, *]; (try rfl); done)); intro bb hbb; cases bb <;> simp only [decide_eq_true_eq, decide_eq_false_iff_not, bne_iff_ne, beq_iff_eq, ne_eq, bne_eq_false_iff_eq, beq_eq_false_iff_ne, Int.not_lt, Int.not_le, gt_iff_lt, ge_iff_le, Bool.not_eq_true] at hbb)
          | (apply pw_run0; (focus (simp only [LOp.run, binLV, intBin, lk, sv1, sv2, sv3, Nat.reduceEqDiff, Nat.reduceAdd, Nat.reduceLeDiff, reduceIte, if_false, if_true, mkVal, unLV, List.map, optTmps, *]; (try rfl); done)))
          | (apply pw_run0; (focus (simp only [run_iaddr, lk, sv1, sv2, sv3, Nat.reduceEqDiff, Nat.reduceAdd, Nat.reduceLeDiff, reduceIte, if_false, if_true, mkVal, unLV, List.map, optTmps, *]; (try rfl); done)))
          | (apply pw_skipF; (focus (simp only [wantedG, lk, sv1, sv2, sv3, Nat.reduceEqDiff, Nat.reduceAdd, Nat.reduceLeDiff, reduceIte, if_false, if_true, mkVal, unLV, List.map, optTmps, *]; (try rfl); done)); simp only [Env.put_some])
          | (apply pw_runF; (focus (simp only [wantedG, lk, sv1, sv2, sv3, Nat.reduceEqDiff, Nat.reduceAdd, Nat.reduceLeDiff, reduceIte, if_false, if_true, mkVal, unLV, List.map, optTmps, beq_self_eq_true, *]; (try rfl); done)); (focus (simp only [LOp.run, binLV, intBin, lk, sv1, sv2, sv3, Nat.reduceEqDiff, Nat.reduceAdd, Nat.reduceLeDiff, reduceIte, if_false, if_true, mkVal, unLV, List.map, optTmps, *]; (try rfl); done)); (focus rfl); (focus trivial); simp only [Env.put_some])
          | (apply pw_runF; (focus (simp only [wantedG, lk, sv1, sv2, sv3, Nat.reduceEqDiff, Nat.reduceAdd, Nat.reduceLeDiff, reduceIte, if_false, if_true, mkVal, unLV, List.map, optTmps, beq_self_eq_true, *]; (try rfl); done)); (focus (simp only [run_iaddr, lk, sv1, sv2, sv3, Nat.reduceEqDiff, Nat.reduceAdd, Nat.reduceLeDiff, reduceIte, if_false, if_true, mkVal, unLV, List.map, optTmps, *]; (try rfl); done)); (focus rfl); (focus trivial); simp only [Env.put_some]))
      refine ⟨.inr trivial, ?_⟩
      simp only [lk, sv1, sv2, sv3, Nat.reduceEqDiff, Nat.reduceAdd, Nat.reduceLeDiff, reduceIte, if_false, if_true, mkVal, unLV, List.map, optTmps]
      exact bool_f fun h => hbb h.2.2.2.2
    · repeat' (first
          | (refine ok_block ?_)
          | (refine pw_seq ?_)
          | (refine ok_skip ?_; try simp only [Thn, Blkd, reduceIte, Nat.reduceEqDiff])
          | (refine ok_exit ?_; try simp only [Thn, Blkd, reduceIte, Nat.reduceEqDiff, Nat.succ_ne_self])
          | (refine ok_ret ?_; try simp only [Thn, Blkd, reduceIte, Nat.reduceEqDiff])
          | (refine pw_region hm ?_)
          | (refine pw_nil ?_; try simp only [Thn, Blkd, reduceIte, Nat.reduceEqDiff])
          | (apply pw_condT; (focus (simp only [lk, sv1, sv2, sv3, Nat.reduceEqDiff, Nat.reduceAdd, Nat.reduceLeDiff, reduceIte, if_false, if_true, mkVal, unLV, List.map, optTmps, *]; done)))
          | (apply pw_condF; (focus (simp only [lk, sv1, sv2, sv3, Nat.reduceEqDiff, Nat.reduceAdd, Nat.reduceLeDiff, reduceIte, if_false, if_true, mkVal, unLV, List.map, optTmps, *]; done)))
          | (apply pw_binF; (focus (simp only [wantedG, lk, sv1, sv2, sv3, Nat.reduceEqDiff, Nat.reduceAdd, Nat.reduceLeDiff, reduceIte, if_false, if_true, mkVal, unLV, List.map, optTmps, beq_self_eq_true, *]; (try rfl); done)); (focus (simp only [lk, sv1, sv2, sv3, Nat.reduceEqDiff, Nat.reduceAdd, Nat.reduceLeDiff, reduceIte, if_false, if_true, mkVal, unLV, List.map, optTmps, binLV, intBin, *]; (try rfl); done)); intro bb hbb; cases bb <;> simp only [decide_eq_true_eq, decide_eq_false_iff_not, bne_iff_ne, beq_iff_eq, ne_eq, bne_eq_false_iff_eq, beq_eq_false_iff_ne, Int.not_lt, Int.not_le, gt_iff_lt, ge_iff_le, Bool.not_eq_true] at hbb)
          | (apply pw_run0; (focus (simp only [LOp.run, binLV, intBin, lk, sv1, sv2, sv3, Nat.reduceEqDiff, Nat.reduceAdd, Nat.reduceLeDiff, reduceIte, if_false, if_true, mkVal, unLV, List.map, optTmps, *]; (try rfl); done)))
          | (apply pw_run0; (focus (simp only [run_iaddr, lk, sv1, sv2, sv3, Nat.reduceEqDiff, Nat.reduceAdd, Nat.reduceLeDiff, reduceIte, if_false, if_true, mkVal, unLV, List.map, optTmps, *]; (try rfl); done)))
          | (apply pw_skipF; (focus (simp only [wantedG, lk, sv1, sv2, sv3, Nat.reduceEqDiff, Nat.reduceAdd, Nat.reduceLeDiff, reduceIte, if_false, if_true, mkVal, unLV, List.map, optTmps, *]; (try rfl); done)); simp only [Env.put_some])
          | (apply pw_runF; (focus (simp only [wantedG, lk, sv1, sv2, sv3, Nat.reduceEqDiff, Nat.reduceAdd, Nat.reduceLeDiff, reduceIte, if_false, if_true, mkVal, unLV, List.map, optTmps, beq_self_eq_true, *]; (try rfl); done)); (focus (simp only [LOp.run, binLV, intBin, lk, sv1, sv2, sv3, Nat.reduceEqDiff, Nat.reduceAdd, Nat.reduceLeDiff, reduceIte, if_false, if_true, mkVal, unLV, List.map, optTmps, *]; (try rfl); done)); (focus rfl); (focus trivial); simp only [Env.put_some])
          | (apply pw_runF; (focus (simp only [wantedG, lk, sv1, sv2, sv3, Nat.reduceEqDiff, Nat.reduceAdd, Nat.reduceLeDiff, reduceIte, if_false, if_true, mkVal, unLV, List.map, optTmps, beq_self_eq_true, *]; (try rfl); done)); (focus (simp only [run_iaddr, lk, sv1, sv2, sv3, Nat.reduceEqDiff, Nat.reduceAdd, Nat.reduceLeDiff, reduceIte, if_false, if_true, mkVal, unLV, List.map, optTmps, *]; (try rfl); done)); (focus rfl); (focus trivial); simp only [Env.put_some]))
      refine ⟨.inr trivial, ?_⟩
      simp only [lk, sv1, sv2, sv3, Nat.reduceEqDiff, Nat.reduceAdd, Nat.reduceLeDiff, reduceIte, if_false, if_true, mkVal, unLV, List.map, optTmps]
      exact bool_t ⟨by omega, by omega, by omega, by assumption, hbb⟩
theorem wvalid_ok {st lo : LV} {S L : List Int} (hS : IsInts st S) (hL : IsInts lo L) (m : Int) : PO 37 [.int .i64 m, .agg [st, lo]] (.bool (decide (Fm S L ∧ AllB S m ∧ AllB L m))) := by
  have hcl : (LV.agg [st, lo]).closed = true := by simp [LV.closed, LV.closed.closedAll, hS.closed, hL.closed]
  have hc1 := hS.sl.cell
  have hc2 := hL.sl.cell
  refine pure_tmp (t := 4) hm Tryd.func37 (by decide +kernel) c37 (Nat.le_of_ble_eq_true rfl) (by simp [LV.closed.closedAll, hcl]; rfl) rfl rfl ?_
  have h0 : (envOf [.int .i64 m, LV.agg [st, lo]]).at 0 = .int .i64 m := by rw [envOf_at]; rfl
  have h1 : (envOf [.int .i64 m, LV.agg [st, lo]]).at 1 = .agg [st, lo] := by rw [envOf_at]; rfl
  generalize envOf [.int .i64 m, LV.agg [st, lo]] = e at *
  unfold l37
  dsimp only
  repeat' (first
      | (refine ok_block ?_)
      | (refine pw_seq ?_)
      | (refine ok_skip ?_; try simp only [Thn, Blkd, reduceIte, Nat.reduceEqDiff])
      | (refine ok_exit ?_; try simp only [Thn, Blkd, reduceIte, Nat.reduceEqDiff, Nat.succ_ne_self])
      | (refine ok_ret ?_; try simp only [Thn, Blkd, reduceIte, Nat.reduceEqDiff])
      | (refine pw_region hm ?_)
      | (refine pw_nil ?_; try simp only [Thn, Blkd, reduceIte, Nat.reduceEqDiff])
      | (apply pw_condT; (focus (simp only [lk, sv1, sv2, sv3, Nat.reduceEqDiff, Nat.reduceAdd, Nat.reduceLeDiff, reduceIte, if_false, if_true, mkVal, unLV, List.map, optTmps, *]; done)))
      | (apply pw_condF; (focus (simp only [lk, sv1, sv2, sv3, Nat.reduceEqDiff, Nat.reduceAdd, Nat.reduceLeDiff, reduceIte, if_false, if_true, mkVal, unLV, List.map, optTmps, *]; done)))
      | (apply pw_binF; (focus (simp only [wantedG, lk, sv1, sv2, sv3, Nat.reduceEqDiff, Nat.reduceAdd, Nat.reduceLeDiff, reduceIte, if_false, if_true, mkVal, unLV, List.map, optTmps, beq_self_eq_true, *]; (try rfl); done)); (focus (simp only [lk, sv1, sv2, sv3, Nat.reduceEqDiff, Nat.reduceAdd, Nat.reduceLeDiff, reduceIte, if_false, if_true, mkVal, unLV, List.map, optTmps, binLV, intBin, *]; (try rfl); done)); intro bb hbb; cases bb <;> simp only [decide_eq_true_eq, decide_eq_false_iff_not, bne_iff_ne, beq_iff_eq, ne_eq, bne_eq_false_iff_eq, beq_eq_false_iff_ne, Int.not_lt, Int.not_le, gt_iff_lt, ge_iff_le, Bool.not_eq_true] at hbb)
      | (apply pw_run0; (focus (simp only [LOp.run, binLV, intBin, lk, sv1, sv2, sv3, Nat.reduceEqDiff, Nat.reduceAdd, Nat.reduceLeDiff, reduceIte, if_false, if_true, mkVal, unLV, List.map, optTmps, *]; (try rfl); done)))
      | (apply pw_run0; (focus (simp only [run_iaddr, lk, sv1, sv2, sv3, Nat.reduceEqDiff, Nat.reduceAdd, Nat.reduceLeDiff, reduceIte, if_false, if_true, mkVal, unLV, List.map, optTmps, *]; (try rfl); done)))
      | (apply pw_skipF; (focus (simp only [wantedG, lk, sv1, sv2, sv3, Nat.reduceEqDiff, Nat.reduceAdd, Nat.reduceLeDiff, reduceIte, if_false, if_true, mkVal, unLV, List.map, optTmps, *]; (try rfl); done)); simp only [Env.put_some])
      | (apply pw_runF; (focus (simp only [wantedG, lk, sv1, sv2, sv3, Nat.reduceEqDiff, Nat.reduceAdd, Nat.reduceLeDiff, reduceIte, if_false, if_true, mkVal, unLV, List.map, optTmps, beq_self_eq_true, *]; (try rfl); done)); (focus (simp only [LOp.run, binLV, intBin, lk, sv1, sv2, sv3, Nat.reduceEqDiff, Nat.reduceAdd, Nat.reduceLeDiff, reduceIte, if_false, if_true, mkVal, unLV, List.map, optTmps, *]; (try rfl); done)); (focus rfl); (focus trivial); simp only [Env.put_some])
      | (apply pw_runF; (focus (simp only [wantedG, lk, sv1, sv2, sv3, Nat.reduceEqDiff, Nat.reduceAdd, Nat.reduceLeDiff, reduceIte, if_false, if_true, mkVal, unLV, List.map, optTmps, beq_self_eq_true, *]; (try rfl); done)); (focus (simp only [run_iaddr, lk, sv1, sv2, sv3, Nat.reduceEqDiff, Nat.reduceAdd, Nat.reduceLeDiff, reduceIte, if_false, if_true, mkVal, unLV, List.map, optTmps, *]; (try rfl); done)); (focus rfl); (focus trivial); simp only [Env.put_some]))
  refine pw_pureB hG0 (formed_ok hS hL) (by simp only [wantedG, lk, sv1, sv2, sv3, Nat.reduceEqDiff, Nat.reduceAdd, Nat.reduceLeDiff, reduceIte, if_false, if_true, mkVal, unLV, List.map, optTmps, beq_self_eq_true, *]) (by simp only [lk, sv1, sv2, sv3, Nat.reduceEqDiff, Nat.reduceAdd, Nat.reduceLeDiff, reduceIte, if_false, if_true, mkVal, unLV, List.map, optTmps, *]) (fun bb hbb => ⟨by first | trivial | (simp only [Chks, wantedG, LOp.run, lk, sv1, sv2, sv3, Nat.reduceEqDiff, Nat.reduceAdd, Nat.reduceLeDiff, reduceIte, if_false, if_true, mkVal, unLV, List.map, optTmps, beq_self_eq_true, *]; simp), ?_⟩)
  simp only [Env.put_some]
  cases bb <;> simp only [decide_eq_true_eq, decide_eq_false_iff_not] at hbb
  · repeat' (first
        | (refine ok_block ?_)
        | (refine pw_seq ?_)
        | (refine ok_skip ?_; try simp only [Thn, Blkd, reduceIte, Nat.reduceEqDiff])
        | (refine ok_exit ?_; try simp only [Thn, Blkd, reduceIte, Nat.reduceEqDiff, Nat.succ_ne_self])
        | (refine ok_ret ?_; try simp only [Thn, Blkd, reduceIte, Nat.reduceEqDiff])
        | (refine pw_region hm ?_)
        | (refine pw_nil ?_; try simp only [Thn, Blkd, reduceIte, Nat.reduceEqDiff])
        | (apply pw_condT; (focus (simp only [lk, sv1, sv2, sv3, Nat.reduceEqDiff, Nat.reduceAdd, Nat.reduceLeDiff, reduceIte, if_false, if_true, mkVal, unLV, List.map, optTmps, *]; done)))
        | (apply pw_condF; (focus (simp only [lk, sv1, sv2, sv3, Nat.reduceEqDiff, Nat.reduceAdd, Nat.reduceLeDiff, reduceIte, if_false, if_true, mkVal, unLV, List.map, optTmps, *]; done)))
        | (apply pw_binF; (focus (simp only [wantedG, lk, sv1, sv2, sv3, Nat.reduceEqDiff, Nat.reduceAdd, Nat.reduceLeDiff, reduceIte, if_false, if_true, mkVal, unLV, List.map, optTmps, beq_self_eq_true, *]; (try rfl); done)); (focus (simp only [lk, sv1, sv2, sv3, Nat.reduceEqDiff, Nat.reduceAdd, Nat.reduceLeDiff, reduceIte, if_false, if_true, mkVal, unLV, List.map, optTmps, binLV, intBin, *]; (try rfl); done)); intro bb hbb; cases bb <;> simp only [decide_eq_true_eq, decide_eq_false_iff_not, bne_iff_ne, beq_iff_eq, ne_eq, bne_eq_false_iff_eq, beq_eq_false_iff_ne, Int.not_lt, Int.not_le, gt_iff_lt, ge_iff_le, Bool.not_eq_true] at hbb)
        | (apply pw_run0; (focus (simp only [LOp.run, binLV, intBin, lk, sv1, sv2, sv3, Nat.reduceEqDiff, Nat.reduceAdd, Nat.reduceLeDiff, reduceIte, if_false, if_true, mkVal, unLV, List.map, optTmps, *]; (try rfl); done)))
        | (apply pw_run0; (focus (simp only [run_iaddr, lk, sv1, sv2, sv3, Nat.reduceEqDiff, Nat.reduceAdd, Nat.reduceLeDiff, reduceIte, if_false, if_true, mkVal, unLV, List.map, optTmps, *]; (try rfl); done)))
        | (apply pw_skipF; (focus (simp only [wantedG, lk, sv1, sv2, sv3, Nat.reduceEqDiff, Nat.reduceAdd, Nat.reduceLeDiff, reduceIte, if_false, if_true, mkVal, unLV, List.map, optTmps, *]; (try rfl); done)); simp only [Env.put_some])
        | (apply pw_runF; (focus (simp only [wantedG, lk, sv1, sv2, sv3, Nat.reduceEqDiff, Nat.reduceAdd, Nat.reduceLeDiff, reduceIte, if_false, if_true, mkVal, unLV, List.map, optTmps, beq_self_eq_true, *]; (try rfl); done)); (focus (simp only [LOp.run, binLV, intBin, lk, sv1, sv2, sv3, Nat.reduceEqDiff, Nat.reduceAdd, Nat.reduceLeDiff, reduceIte, if_false, if_true, mkVal, unLV, List.map, optTmps, *]; (try rfl); done)); (focus rfl); (focus trivial); simp only [Env.put_some])
        | (apply pw_runF; (focus (simp only [wantedG, lk, sv1, sv2, sv3, Nat.reduceEqDiff, Nat.reduceAdd, Nat.reduceLeDiff, reduceIte, if_false, if_true, mkVal, unLV, List.map, optTmps, beq_self_eq_true, *]; (try rfl); done)); (focus (simp only [run_iaddr, lk, sv1, sv2, sv3, Nat.reduceEqDiff, Nat.reduceAdd, Nat.reduceLeDiff, reduceIte, if_false, if_true, mkVal, unLV, List.map, optTmps, *]; (try rfl); done)); (focus rfl); (focus trivial); simp only [Env.put_some]))
    refine ⟨.inr trivial, ?_⟩
    simp only [lk, sv1, sv2, sv3, Nat.reduceEqDiff, Nat.reduceAdd, Nat.reduceLeDiff, reduceIte, if_false, if_true, mkVal, unLV, List.map, optTmps]
    exact bool_f fun h => hbb h.1
  · repeat' (first
        | (refine ok_block ?_)
        | (refine pw_seq ?_)
        | (refine ok_skip ?_; try simp only [Thn, Blkd, reduceIte, Nat.reduceEqDiff])
        | (refine ok_exit ?_; try simp only [Thn, Blkd, reduceIte, Nat.reduceEqDiff, Nat.succ_ne_self])
        | (refine ok_ret ?_; try simp only [Thn, Blkd, reduceIte, Nat.reduceEqDiff])
        | (refine pw_region hm ?_)
        | (refine pw_nil ?_; try simp only [Thn, Blkd, reduceIte, Nat.reduceEqDiff])
        | (apply pw_condT; (focus (simp only [lk, sv1, sv2, sv3, Nat.reduceEqDiff, Nat.reduceAdd, Nat.reduceLeDiff, reduceIte, if_false, if_true, mkVal, unLV, List.map, optTmps, *]; done)))
        | (apply pw_condF; (focus (simp only [lk, sv1, sv2, sv3, Nat.reduceEqDiff, Nat.reduceAdd, Nat.reduceLeDiff, reduceIte, if_false, if_true, mkVal, unLV, List.map, optTmps, *]; done)))
        | (apply pw_binF; (focus (simp only [wantedG, lk, sv1, sv2, sv3, Nat.reduceEqDiff, Nat.reduceAdd, Nat.reduceLeDiff, reduceIte, if_false, if_true, mkVal, unLV, List.map, optTmps, beq_self_eq_true, *]; (try rfl); done)); (focus (simp only [lk, sv1, sv2, sv3, Nat.reduceEqDiff, Nat.reduceAdd, Nat.reduceLeDiff, reduceIte, if_false, if_true, mkVal, unLV, List.map, optTmps, binLV, intBin, *]; (try rfl); done)); intro bb hbb; cases bb <;> simp only [decide_eq_true_eq, decide_eq_false_iff_not, bne_iff_ne, beq_iff_eq, ne_eq, bne_eq_false_iff_eq, beq_eq_false_iff_ne, Int.not_lt, Int.not_le, gt_iff_lt, ge_iff_le, Bool.not_eq_true] at hbb)
        | (apply pw_run0; (focus (simp only [LOp.run, binLV, intBin, lk, sv1, sv2, sv3, Nat.reduceEqDiff, Nat.reduceAdd, Nat.reduceLeDiff, reduceIte, if_false, if_true, mkVal, unLV, List.map, optTmps, *]; (try rfl); done)))
        | (apply pw_run0; (focus (simp only [run_iaddr, lk, sv1, sv2, sv3, Nat.reduceEqDiff, Nat.reduceAdd, Nat.reduceLeDiff, reduceIte, if_false, if_true, mkVal, unLV, List.map, optTmps, *]; (try rfl); done)))
        | (apply pw_skipF; (focus (simp only [wantedG, lk, sv1, sv2, sv3, Nat.reduceEqDiff, Nat.reduceAdd, Nat.reduceLeDiff, reduceIte, if_false, if_true, mkVal, unLV, List.map, optTmps, *]; (try rfl); done)); simp only [Env.put_some])
        | (apply pw_runF; (focus (simp only [wantedG, lk, sv1, sv2, sv3, Nat.reduceEqDiff, Nat.reduceAdd, Nat.reduceLeDiff, reduceIte, if_false, if_true, mkVal, unLV, List.map, optTmps, beq_self_eq_true, *]; (try rfl); done)); (focus (simp only [LOp.run, binLV, intBin, lk, sv1, sv2, sv3, Nat.reduceEqDiff, Nat.reduceAdd, Nat.reduceLeDiff, reduceIte, if_false, if_true, mkVal, unLV, List.map, optTmps, *]; (try rfl); done)); (focus rfl); (focus trivial); simp only [Env.put_some])
        | (apply pw_runF; (focus (simp only [wantedG, lk, sv1, sv2, sv3, Nat.reduceEqDiff, Nat.reduceAdd, Nat.reduceLeDiff, reduceIte, if_false, if_true, mkVal, unLV, List.map, optTmps, beq_self_eq_true, *]; (try rfl); done)); (focus (simp only [run_iaddr, lk, sv1, sv2, sv3, Nat.reduceEqDiff, Nat.reduceAdd, Nat.reduceLeDiff, reduceIte, if_false, if_true, mkVal, unLV, List.map, optTmps, *]; (try rfl); done)); (focus rfl); (focus trivial); simp only [Env.put_some]))
    refine pw_pureB hG0 (below_ok hS m) (by simp only [wantedG, lk, sv1, sv2, sv3, Nat.reduceEqDiff, Nat.reduceAdd, Nat.reduceLeDiff, reduceIte, if_false, if_true, mkVal, unLV, List.map, optTmps, beq_self_eq_true, *]) (by simp only [lk, sv1, sv2, sv3, Nat.reduceEqDiff, Nat.reduceAdd, Nat.reduceLeDiff, reduceIte, if_false, if_true, mkVal, unLV, List.map, optTmps, *]) (fun bb hbb => ⟨by first | trivial | (simp only [Chks, wantedG, LOp.run, lk, sv1, sv2, sv3, Nat.reduceEqDiff, Nat.reduceAdd, Nat.reduceLeDiff, reduceIte, if_false, if_true, mkVal, unLV, List.map, optTmps, beq_self_eq_true, *]; simp), ?_⟩)
    simp only [Env.put_some]
    cases bb <;> simp only [decide_eq_true_eq, decide_eq_false_iff_not] at hbb
    · repeat' (first
          | (refine ok_block ?_)
          | (refine pw_seq ?_)
          | (refine ok_skip ?_; try simp only [Thn, Blkd, reduceIte, Nat.reduceEqDiff])
          | (refine ok_exit ?_; try simp only [Thn, Blkd, reduceIte, Nat.reduceEqDiff, Nat.succ_ne_self])
          | (refine ok_ret ?_; try simp only [Thn, Blkd, reduceIte, Nat.reduceEqDiff])
          | (refine pw_region hm ?_)
          | (refine pw_nil ?_; try simp only [Thn, Blkd, reduceIte, Nat.reduceEqDiff])
          | (apply pw_condT; (focus (simp only [lk, sv1, sv2, sv3, Nat.reduceEqDiff, Nat.reduceAdd, Nat.reduceLeDiff, reduceIte, if_false, if_true, mkVal, unLV, List.map, optTmps, *]; done)))
          | (apply pw_condF; (focus (simp only [lk, sv1, sv2, sv3, Nat.reduceEqDiff, Nat.reduceAdd, Nat.reduceLeDiff, reduceIte, if_false, if_true, mkVal, unLV, List.map, optTmps, *]; done)))
          | (apply pw_binF; (focus (simp only [wantedG, lk, sv1, sv2, sv3, Nat.reduceEqDiff, Nat.reduceAdd, Nat.reduceLeDiff, reduceIte, if_false, if_true, mkVal, unLV, List.map, optTmps, beq_self_eq_true, *]; (try rfl); done)); (focus (simp only [lk, sv1, sv2, sv3, Nat.reduceEqDiff, Nat.reduceAdd, Nat.reduceLeDiff, reduceIte, if_false, if_true, mkVal, unLV, List.map, optTmps, binLV, intBin, *]; (try rfl); done)); intro bb hbb; cases bb <;> simp only [decide_eq_true_eq, decide_eq_false_iff_not, bne_iff_ne, beq_iff_eq, ne_eq, bne_eq_false_iff_eq, beq_eq_false_iff_ne, Int.not_lt, Int.not_le, gt_iff_lt, ge_iff_le, Bool.not_eq_true] at hbb)
          | (apply pw_run0; (focus (simp only [LOp.run, binLV, intBin, lk, sv1, sv2, sv3, Nat.reduceEqDiff, Nat.reduceAdd, Nat.reduceLeDiff, reduceIte, if_false, if_true, mkVal, unLV, List.map, optTmps, *]; (try rfl); done)))
          | (apply pw_run0; (focus (simp only [run_iaddr, lk, sv1, sv2, sv3, Nat.reduceEqDiff, Nat.reduceAdd, Nat.reduceLeDiff, reduceIte, if_false, if_true, mkVal, unLV, List.map, optTmps, *]; (try rfl); done)))
          | (apply pw_skipF; (focus (simp only [wantedG, lk, sv1, sv2, sv3, Nat.reduceEqDiff, Nat.reduceAdd, Nat.reduceLeDiff, reduceIte, if_false, if_true, mkVal, unLV, List.map, optTmps, *]; (try rfl); done)); simp only [Env.put_some])
          | (apply pw_runF; (focus (simp only [wantedG, lk, sv1, sv2, sv3, Nat.reduceEqDiff, Nat.reduceAdd, Nat.reduceLeDiff, reduceIte, if_false, if_true, mkVal, unLV, List.map, optTmps, beq_self_eq_true, *]; (try rfl); done)); (focus (simp only [LOp.run, binLV, intBin, lk, sv1, sv2, sv3, Nat.reduceEqDiff, Nat.reduceAdd, Nat.reduceLeDiff, reduceIte, if_false, if_true, mkVal, unLV, List.map, optTmps, *]; (try rfl); done)); (focus rfl); (focus trivial); simp only [Env.put_some])
          | (apply pw_runF; (focus (simp only [wantedG, lk, sv1, sv2, sv3, Nat.reduceEqDiff, Nat.reduceAdd, Nat.reduceLeDiff, reduceIte, if_false, if_true, mkVal, unLV, List.map, optTmps, beq_self_eq_true, *]; (try rfl); done)); (focus (simp only [run_iaddr, lk, sv1, sv2, sv3, Nat.reduceEqDiff, Nat.reduceAdd, Nat.reduceLeDiff, reduceIte, if_false, if_true, mkVal, unLV, List.map, optTmps, *]; (try rfl); done)); (focus rfl); (focus trivial); simp only [Env.put_some]))
      refine ⟨.inr trivial, ?_⟩
      simp only [lk, sv1, sv2, sv3, Nat.reduceEqDiff, Nat.reduceAdd, Nat.reduceLeDiff, reduceIte, if_false, if_true, mkVal, unLV, List.map, optTmps]
      exact bool_f fun h => hbb h.2.1
    · repeat' (first
          | (refine ok_block ?_)
          | (refine pw_seq ?_)
          | (refine ok_skip ?_; try simp only [Thn, Blkd, reduceIte, Nat.reduceEqDiff])
          | (refine ok_exit ?_; try simp only [Thn, Blkd, reduceIte, Nat.reduceEqDiff, Nat.succ_ne_self])
          | (refine ok_ret ?_; try simp only [Thn, Blkd, reduceIte, Nat.reduceEqDiff])
          | (refine pw_region hm ?_)
          | (refine pw_nil ?_; try simp only [Thn, Blkd, reduceIte, Nat.reduceEqDiff])
          | (apply pw_condT; (focus (simp only [lk, sv1, sv2, sv3, Nat.reduceEqDiff, Nat.reduceAdd, Nat.reduceLeDiff, reduceIte, if_false, if_true, mkVal, unLV, List.map, optTmps, *]; done)))
          | (apply pw_condF; (focus (simp only [lk, sv1, sv2, sv3, Nat.reduceEqDiff, Nat.reduceAdd, Nat.reduceLeDiff, reduceIte, if_false, if_true, mkVal, unLV, List.map, optTmps, *]; done)))
          | (apply pw_binF; (focus (simp only [wantedG, lk, sv1, sv2, sv3, Nat.reduceEqDiff, Nat.reduceAdd, Nat.reduceLeDiff, reduceIte, if_false, if_true, mkVal, unLV, List.map, optTmps, beq_self_eq_true, *]; (try rfl); done)); (focus (simp only [lk, sv1, sv2, sv3, Nat.reduceEqDiff, Nat.reduceAdd, Nat.reduceLeDiff, reduceIte, if_false, if_true, mkVal, unLV, List.map, optTmps, binLV, intBin, *]; (try rfl); done)); intro bb hbb; cases bb <;> simp only [decide_eq_true_eq, decide_eq_false_iff_not, bne_iff_ne, beq_iff_eq, ne_eq, bne_eq_false_iff_eq, beq_eq_false_iff_ne, Int.not_lt, Int.not_le, gt_iff_lt, ge_iff_le, Bool.not_eq_true] at hbb)
          | (apply pw_run0; (focus (simp only [LOp.run, binLV, intBin, lk, sv1, sv2, sv3, Nat.reduceEqDiff, Nat.reduceAdd, Nat.reduceLeDiff, reduceIte, if_false, if_true, mkVal, unLV, List.map, optTmps, *]; (try rfl); done)))
          | (apply pw_run0; (focus (simp only [run_iaddr, lk, sv1, sv2, sv3, Nat.reduceEqDiff, Nat.reduceAdd, Nat.reduceLeDiff, reduceIte, if_false, if_true, mkVal, unLV, List.map, optTmps, *]; (try rfl); done)))
          | (apply pw_skipF; (focus (simp only [wantedG, lk, sv1, sv2, sv3, Nat.reduceEqDiff, Nat.reduceAdd, Nat.reduceLeDiff, reduceIte, if_false, if_true, mkVal, unLV, List.map, optTmps, *]; (try rfl); done)); simp only [Env.put_some])
          | (apply pw_runF; (focus (simp only [wantedG, lk, sv1, sv2, sv3, Nat.reduceEqDiff, Nat.reduceAdd, Nat.reduceLeDiff, reduceIte, if_false, if_true, mkVal, unLV, List.map, optTmps, beq_self_eq_true, *]; (try rfl); done)); (focus (simp only [LOp.run, binLV, intBin, lk, sv1, sv2, sv3, Nat.reduceEqDiff, Nat.reduceAdd, Nat.reduceLeDiff, reduceIte, if_false, if_true, mkVal, unLV, List.map, optTmps, *]; (try rfl); done)); (focus rfl); (focus trivial); simp only [Env.put_some])
          | (apply pw_runF; (focus (simp only [wantedG, lk, sv1, sv2, sv3, Nat.reduceEqDiff, Nat.reduceAdd, Nat.reduceLeDiff, reduceIte, if_false, if_true, mkVal, unLV, List.map, optTmps, beq_self_eq_true, *]; (try rfl); done)); (focus (simp only [run_iaddr, lk, sv1, sv2, sv3, Nat.reduceEqDiff, Nat.reduceAdd, Nat.reduceLeDiff, reduceIte, if_false, if_true, mkVal, unLV, List.map, optTmps, *]; (try rfl); done)); (focus rfl); (focus trivial); simp only [Env.put_some]))
      refine pw_pureB hG0 (below_ok hL m) (by simp only [wantedG, lk, sv1, sv2, sv3, Nat.reduceEqDiff, Nat.reduceAdd, Nat.reduceLeDiff, reduceIte, if_false, if_true, mkVal, unLV, List.map, optTmps, beq_self_eq_true, *]) (by simp only [lk, sv1, sv2, sv3, Nat.reduceEqDiff, Nat.reduceAdd, Nat.reduceLeDiff, reduceIte, if_false, if_true, mkVal, unLV, List.map, optTmps, *]) (fun bb hbb => ⟨by first | trivial | (simp only [Chks, wantedG, LOp.run, lk, sv1, sv2, sv3, Nat.reduceEqDiff, Nat.reduceAdd, Nat.reduceLeDiff, reduceIte, if_false, if_true, mkVal, unLV, List.map, optTmps, beq_self_eq_true, *]; simp), ?_⟩)
      simp only [Env.put_some]
      cases bb <;> simp only [decide_eq_true_eq, decide_eq_false_iff_not] at hbb
      · repeat' (first
            | (refine ok_block ?_)
            | (refine pw_seq ?_)
            | (refine ok_skip ?_; try simp only [Thn, Blkd, reduceIte, Nat.reduceEqDiff])
            | (refine ok_exit ?_; try simp only [Thn, Blkd, reduceIte, Nat.reduceEqDiff, Nat.succ_ne_self])
            | (refine ok_ret ?_; try simp only [Thn, Blkd, reduceIte, Nat.reduceEqDiff])
            | (refine pw_region hm ?_)
            | (refine pw_nil ?_; try simp only [Thn, Blkd, reduceIte, Nat.reduceEqDiff])
            | (apply pw_condT; (focus (simp only [lk, sv1, sv2, sv3, Nat.reduceEqDiff, Nat.reduceAdd, Nat.reduceLeDiff, reduceIte, if_false, if_true, mkVal, unLV, List.map, optTmps, *]; done)))
            | (apply pw_condF; (focus (simp only [lk, sv1, sv2, sv3, Nat.reduceEqDiff, Nat.reduceAdd, Nat.reduceLeDiff, reduceIte, if_false, if_true, mkVal, unLV, List.map, optTmps, *]; done)))
            | (apply pw_binF; (focus (simp only [wantedG, lk, sv1, sv2, sv3, Nat.reduceEqDiff, Nat.reduceAdd, Nat.reduceLeDiff, reduceIte, if_false, if_true, mkVal, unLV, List.map, optTmps, beq_self_eq_true, *]; (try rfl); done)); (focus (simp only [lk, sv1, sv2, sv3, Nat.reduceEqDiff, Nat.reduceAdd, Nat.reduceLeDiff, reduceIte, if_false, if_true, mkVal, unLV, List.map, optTmps, binLV, intBin, *]; (try rfl); done)); intro bb hbb; cases bb <;> simp only [decide_eq_true_eq, decide_eq_false_iff_not, bne_iff_ne, beq_iff_eq, ne_eq, bne_eq_false_iff_eq, beq_eq_false_iff_ne, Int.not_lt, Int.not_le, gt_iff_lt, ge_iff_le, Bool.not_eq_true] at hbb)
            | (apply pw_run0; (focus (simp only [LOp.run, binLV, intBin, lk, sv1, sv2, sv3, Nat.reduceEqDiff, Nat.reduceAdd, Nat.reduceLeDiff, reduceIte, if_false, if_true, mkVal, unLV, List.map, optTmps, *]; (try rfl); done)))
            | (apply pw_run0; (focus (simp only [run_iaddr, lk, sv1, sv2, sv3, Nat.reduceEqDiff, Nat.reduceAdd, Nat.reduceLeDiff, reduceIte, if_false, if_true, mkVal, unLV, List.map, optTmps, *]; (try rfl); done)))
            | (apply pw_skipF; (focus (simp only [wantedG, lk, sv1, sv2, sv3, Nat.reduceEqDiff, Nat.reduceAdd, Nat.reduceLeDiff, reduceIte, if_false, if_true, mkVal, unLV, List.map, optTmps, *]; (try rfl); done)); simp only [Env.put_some])
            | (apply pw_runF; (focus (simp only [wantedG, lk, sv1, sv2, sv3, Nat.reduceEqDiff, Nat.reduceAdd, Nat.reduceLeDiff, reduceIte, if_false, if_true, mkVal, unLV, List.map, optTmps, beq_self_eq_true, *]; (try rfl); done)); (focus (simp only [LOp.run, binLV, intBin, lk, sv1, sv2, sv3, Nat.reduceEqDiff, Nat.reduceAdd, Nat.reduceLeDiff, reduceIte, if_false, if_true, mkVal, unLV, List.map, optTmps, *]; (try rfl); done)); (focus rfl); (focus trivial); simp only [Env.put_some])
            | (apply pw_runF; (focus (simp only [wantedG, lk, sv1, sv2, sv3, Nat.reduceEqDiff, Nat.reduceAdd, Nat.reduceLeDiff, reduceIte, if_false, if_true, mkVal, unLV, List.map, optTmps, beq_self_eq_true, *]; (try rfl); done)); (focus (simp only [run_iaddr, lk, sv1, sv2, sv3, Nat.reduceEqDiff, Nat.reduceAdd, Nat.reduceLeDiff, reduceIte, if_false, if_true, mkVal, unLV, List.map, optTmps, *]; (try rfl); done)); (focus rfl); (focus trivial); simp only [Env.put_some]))
        refine ⟨.inr trivial, ?_⟩
        simp only [lk, sv1, sv2, sv3, Nat.reduceEqDiff, Nat.reduceAdd, Nat.reduceLeDiff, reduceIte, if_false, if_true, mkVal, unLV, List.map, optTmps]
        exact bool_f fun h => hbb h.2.2
      · repeat' (first
            | (refine ok_block ?_)
            | (refine pw_seq ?_)
            | (refine ok_skip ?_; try simp only [Thn, Blkd, reduceIte, Nat.reduceEqDiff])
            | (refine ok_exit ?_; try simp only [Thn, Blkd, reduceIte, Nat.reduceEqDiff, Nat.succ_ne_self])
            | (refine ok_ret ?_; try simp only [Thn, Blkd, reduceIte, Nat.reduceEqDiff])
            | (refine pw_region hm ?_)
            | (refine pw_nil ?_; try simp only [Thn, Blkd, reduceIte, Nat.reduceEqDiff])
            | (apply pw_condT; (focus (simp only [lk, sv1, sv2, sv3, Nat.reduceEqDiff, Nat.reduceAdd, Nat.reduceLeDiff, reduceIte, if_false, if_true, mkVal, unLV, List.map, optTmps, *]; done)))
            | (apply pw_condF; (focus (simp only [lk, sv1, sv2, sv3, Nat.reduceEqDiff, Nat.reduceAdd, Nat.reduceLeDiff, reduceIte, if_false, if_true, mkVal, unLV, List.map, optTmps, *]; done)))
            | (apply pw_binF; (focus (simp only [wantedG, lk, sv1, sv2, sv3, Nat.reduceEqDiff, Nat.reduceAdd, Nat.reduceLeDiff, reduceIte, if_false, if_true, mkVal, unLV, List.map, optTmps, beq_self_eq_true, *]; (try rfl); done)); (focus (simp only [lk, sv1, sv2, sv3, Nat.reduceEqDiff, Nat.reduceAdd, Nat.reduceLeDiff, reduceIte, if_false, if_true, mkVal, unLV, List.map, optTmps, binLV, intBin, *]; (try rfl); done)); intro bb hbb; cases bb <;> simp only [decide_eq_true_eq, decide_eq_false_iff_not, bne_iff_ne, beq_iff_eq, ne_eq, bne_eq_false_iff_eq, beq_eq_false_iff_ne, Int.not_lt, Int.not_le, gt_iff_lt, ge_iff_le, Bool.not_eq_true] at hbb)
            | (apply pw_run0; (focus (simp only [LOp.run, binLV, intBin, lk, sv1, sv2, sv3, Nat.reduceEqDiff, Nat.reduceAdd, Nat.reduceLeDiff, reduceIte, if_false, if_true, mkVal, unLV, List.map, optTmps, *]; (try rfl); done)))
            | (apply pw_run0; (focus (simp only [run_iaddr, lk, sv1, sv2, sv3, Nat.reduceEqDiff, Nat.reduceAdd, Nat.reduceLeDiff, reduceIte, if_false, if_true, mkVal, unLV, List.map, optTmps, *]; (try rfl); done)))
            | (apply pw_skipF; (focus (simp only [wantedG, lk, sv1, sv2, sv3, Nat.reduceEqDiff, Nat.reduceAdd, Nat.reduceLeDiff, reduceIte, if_false, if_true, mkVal, unLV, List.map, optTmps, *]; (try rfl); done)); simp only [Env.put_some])
            | (apply pw_runF; (focus (simp only [wantedG, lk, sv1, sv2, sv3, Nat.reduceEqDiff, Nat.reduceAdd, Nat.reduceLeDiff, reduceIte, if_false, if_true, mkVal, unLV, List.map, optTmps, beq_self_eq_true, *]; (try rfl); done)); (focus (simp only [LOp.run, binLV, intBin, lk, sv1, sv2, sv3, Nat.reduceEqDiff, Nat.reduceAdd, Nat.reduceLeDiff, reduceIte, if_false, if_true, mkVal, unLV, List.map, optTmps, *]; (try rfl); done)); (focus rfl); (focus trivial); simp only [Env.put_some])
            | (apply pw_runF; (focus (simp only [wantedG, lk, sv1, sv2, sv3, Nat.reduceEqDiff, Nat.reduceAdd, Nat.reduceLeDiff, reduceIte, if_false, if_true, mkVal, unLV, List.map, optTmps, beq_self_eq_true, *]; (try rfl); done)); (focus (simp only [run_iaddr, lk, sv1, sv2, sv3, Nat.reduceEqDiff, Nat.reduceAdd, Nat.reduceLeDiff, reduceIte, if_false, if_true, mkVal, unLV, List.map, optTmps, *]; (try rfl); done)); (focus rfl); (focus trivial); simp only [Env.put_some]))
        refine ⟨.inr trivial, ?_⟩
        simp only [lk, sv1, sv2, sv3, Nat.reduceEqDiff, Nat.reduceAdd, Nat.reduceLeDiff, reduceIte, if_false, if_true, mkVal, unLV, List.map, optTmps]
        exact bool_t ⟨by assumption, by assumption, hbb⟩
end Go.Proofs.YtohldpfjnllkdaaDoor
