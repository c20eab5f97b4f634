/- What the document's functions on automata answer. -/
import Derived.Test.YtmfpcofncfhklaaB
import Derived.Test.YtmfpcofncfhklaaPvQ
set_option linter.unusedSimpArgs false
set_option linter.unusedVariables false
namespace Go.Proofs.Ytmfpcofncfhklaa
open Go Go.Pv
open Classical

theorem small_ok {L S : Int} {nx pr : LV} {N R : List (List Int)} {vN vR : List LV} (hN : IsRows nx N vN) (hR : IsRows pr R vR) :
    PO 14 [.agg [.int .i64 L, .int .i64 S, nx, pr]] (.bool (decide ((N.length ≤ 60 ∧ R.length ≤ 60) ∧ (∀ j, j < N.length → (N.getD j []).length ≤ 16) ∧ ∀ j, j < R.length → (R.getD j []).length ≤ 16))) := by
  have hcl : (LV.agg [.int .i64 L, .int .i64 S, nx, pr]).closed = true := by simp [LV.closed, LV.closed.closedAll, hN.closed, hR.closed]
  have hc1 := hN.sl.cell
  have hc2 := hR.sl.cell
  refine pure_tmp (t := 2) hm Try.func14 (by decide +kernel) c14 (Nat.le_of_ble_eq_true rfl) (by simp [LV.closed.closedAll, hcl]) rfl rfl ?_
  have h0 : (envOf [LV.agg [.int .i64 L, .int .i64 S, nx, pr]]).at 0 = .agg [.int .i64 L, .int .i64 S, nx, pr] := by rw [envOf_at]; rfl
  generalize envOf [LV.agg [.int .i64 L, .int .i64 S, nx, pr]] = e at *
  unfold l14
  dsimp only
  repeat' (first
      | (refine ok_block ?_)
      | (refine pw_seq ?_)
      | (refine ok_skip ?_; try simp only [Thn, Blkd, reduceIte, Nat.reduceEqDiff])
      | (refine ok_exit ?_; try simp only [Thn, Blkd, reduceIte, Nat.reduceEqDiff, Nat.succ_ne_self])
      | (refine ok_ret ?_; try simp only [Thn, Blkd, reduceIte, Nat.reduceEqDiff])
      | (refine pw_region hm ?_)
      | (refine pw_nil ?_; try simp only [Thn, Blkd, reduceIte, Nat.reduceEqDiff])
      | (apply pw_condT; (focus (simp only [lk, sv1, sv2, sv3, Nat.reduceEqDiff, Nat.reduceAdd, Nat.reduceLeDiff, reduceIte, if_false, if_true, mkVal, unLV, List.map, optTmps, *]; done)))
      | (apply pw_condF; (focus (simp only [lk, sv1, sv2, sv3, Nat.reduceEqDiff, Nat.reduceAdd, Nat.reduceLeDiff, reduceIte, if_false, if_true, mkVal, unLV, List.map, optTmps, *]; done)))
      | (apply pw_binF; (focus (simp only [wantedG, lk, sv1, sv2, sv3, Nat.reduceEqDiff, Nat.reduceAdd, Nat.reduceLeDiff, reduceIte, if_false, if_true, mkVal, unLV, List.map, optTmps, beq_self_eq_true, *]; (try rfl); done)); (focus (simp only [lk, sv1, sv2, sv3, Nat.reduceEqDiff, Nat.reduceAdd, Nat.reduceLeDiff, reduceIte, if_false, if_true, mkVal, unLV, List.map, optTmps, binLV, intBin, hN.sl.len, hR.sl.len, *]; (try rfl); done)); intro bb hbb; cases bb <;> simp only [decide_eq_true_eq, decide_eq_false_iff_not, bne_iff_ne, beq_iff_eq, ne_eq, bne_eq_false_iff_eq, beq_eq_false_iff_ne, Int.not_lt, Int.not_le, gt_iff_lt, ge_iff_le, Bool.not_eq_true] at hbb)
      | (apply pw_run0; (focus (simp only [LOp.run, binLV, intBin, lk, sv1, sv2, sv3, Nat.reduceEqDiff, Nat.reduceAdd, Nat.reduceLeDiff, reduceIte, if_false, if_true, mkVal, unLV, List.map, optTmps, hN.sl.len, hR.sl.len, *]; (try rfl); done)))
      | (apply pw_run0; (focus (simp only [run_iaddr, lk, sv1, sv2, sv3, Nat.reduceEqDiff, Nat.reduceAdd, Nat.reduceLeDiff, reduceIte, if_false, if_true, mkVal, unLV, List.map, optTmps, hN.sl.len, hR.sl.len, *]; (try rfl); done)))
      | (apply pw_skipF; (focus (simp only [wantedG, lk, sv1, sv2, sv3, Nat.reduceEqDiff, Nat.reduceAdd, Nat.reduceLeDiff, reduceIte, if_false, if_true, mkVal, unLV, List.map, optTmps, *]; (try rfl); done)); simp only [Env.put_some])
      | (apply pw_runF; (focus (simp only [wantedG, lk, sv1, sv2, sv3, Nat.reduceEqDiff, Nat.reduceAdd, Nat.reduceLeDiff, reduceIte, if_false, if_true, mkVal, unLV, List.map, optTmps, beq_self_eq_true, *]; (try rfl); done)); (focus (simp only [LOp.run, binLV, intBin, lk, sv1, sv2, sv3, Nat.reduceEqDiff, Nat.reduceAdd, Nat.reduceLeDiff, reduceIte, if_false, if_true, mkVal, unLV, List.map, optTmps, hN.sl.len, hR.sl.len, *]; (try rfl); done)); (focus rfl); (focus trivial); simp only [Env.put_some])
      | (apply pw_runF; (focus (simp only [wantedG, lk, sv1, sv2, sv3, Nat.reduceEqDiff, Nat.reduceAdd, Nat.reduceLeDiff, reduceIte, if_false, if_true, mkVal, unLV, List.map, optTmps, beq_self_eq_true, *]; (try rfl); done)); (focus (simp only [run_iaddr, lk, sv1, sv2, sv3, Nat.reduceEqDiff, Nat.reduceAdd, Nat.reduceLeDiff, reduceIte, if_false, if_true, mkVal, unLV, List.map, optTmps, hN.sl.len, hR.sl.len, *]; (try rfl); done)); (focus rfl); (focus trivial); simp only [Env.put_some]))
  all_goals first
    | (refine ⟨.inr trivial, ?_⟩
       simp only [lk, sv1, sv2, sv3, Nat.reduceEqDiff, Nat.reduceAdd, Nat.reduceLeDiff, reduceIte, if_false, if_true, mkVal, unLV, List.map, optTmps]
       refine bool_f fun h => ?_
       have := h.1
       omega)
    | skip
  refine pw_loopI (fun n e s => s = St.empty ∧ ∃ i : Nat, n = N.length - i ∧ i ≤ N.length ∧ e.at 1 = .pimm [.int .i64 L, .int .i64 S, nx, pr] 0 ∧ e.at 3 = .int .i64 (i : Int) ∧ ∀ j, j < i → (N.getD j []).length ≤ 16) N.length ⟨rfl, 0, by simp, by simp, by simp, by simp, fun j hj => absurd hj (Nat.not_lt_zero _)⟩ ?_
  rintro n e s ⟨rfl, i, rfl, hi, e1, e3, hall⟩
  repeat' (first
      | (refine ok_block ?_)
      | (refine pw_seq ?_)
      | (refine ok_skip ?_; try simp only [Thn, Blkd, reduceIte, Nat.reduceEqDiff])
      | (refine ok_exit ?_; try simp only [Thn, Blkd, reduceIte, Nat.reduceEqDiff, Nat.succ_ne_self])
      | (refine ok_ret ?_; try simp only [Thn, Blkd, reduceIte, Nat.reduceEqDiff])
      | (refine pw_region hm ?_)
      | (refine pw_nil ?_; try simp only [Thn, Blkd, reduceIte, Nat.reduceEqDiff])
      | (apply pw_condT; (focus (simp only [lk, sv1, sv2, sv3, Nat.reduceEqDiff, Nat.reduceAdd, Nat.reduceLeDiff, reduceIte, if_false, if_true, mkVal, unLV, List.map, optTmps, *]; done)))
      | (apply pw_condF; (focus (simp only [lk, sv1, sv2, sv3, Nat.reduceEqDiff, Nat.reduceAdd, Nat.reduceLeDiff, reduceIte, if_false, if_true, mkVal, unLV, List.map, optTmps, *]; done)))
      | (apply pw_binF; (focus (simp only [wantedG, lk, sv1, sv2, sv3, Nat.reduceEqDiff, Nat.reduceAdd, Nat.reduceLeDiff, reduceIte, if_false, if_true, mkVal, unLV, List.map, optTmps, beq_self_eq_true, *]; (try rfl); done)); (focus (simp only [lk, sv1, sv2, sv3, Nat.reduceEqDiff, Nat.reduceAdd, Nat.reduceLeDiff, reduceIte, if_false, if_true, mkVal, unLV, List.map, optTmps, binLV, intBin, hN.sl.len, hR.sl.len, iaN hN.sl, hN.getI, hN.rlen, *]; (try rfl); done)); intro bb hbb; cases bb <;> simp only [decide_eq_true_eq, decide_eq_false_iff_not, bne_iff_ne, beq_iff_eq, ne_eq, bne_eq_false_iff_eq, beq_eq_false_iff_ne, Int.not_lt, Int.not_le, gt_iff_lt, ge_iff_le, Bool.not_eq_true] at hbb)
      | (apply pw_run0; (focus (simp only [LOp.run, binLV, intBin, lk, sv1, sv2, sv3, Nat.reduceEqDiff, Nat.reduceAdd, Nat.reduceLeDiff, reduceIte, if_false, if_true, mkVal, unLV, List.map, optTmps, hN.sl.len, hR.sl.len, iaN hN.sl, hN.getI, hN.rlen, *]; (try rfl); done)))
      | (apply pw_run0; (focus (simp only [run_iaddr, lk, sv1, sv2, sv3, Nat.reduceEqDiff, Nat.reduceAdd, Nat.reduceLeDiff, reduceIte, if_false, if_true, mkVal, unLV, List.map, optTmps, hN.sl.len, hR.sl.len, iaN hN.sl, hN.getI, hN.rlen, *]; (try rfl); done)))
      | (apply pw_skipF; (focus (simp only [wantedG, lk, sv1, sv2, sv3, Nat.reduceEqDiff, Nat.reduceAdd, Nat.reduceLeDiff, reduceIte, if_false, if_true, mkVal, unLV, List.map, optTmps, *]; (try rfl); done)); simp only [Env.put_some])
      | (apply pw_runF; (focus (simp only [wantedG, lk, sv1, sv2, sv3, Nat.reduceEqDiff, Nat.reduceAdd, Nat.reduceLeDiff, reduceIte, if_false, if_true, mkVal, unLV, List.map, optTmps, beq_self_eq_true, *]; (try rfl); done)); (focus (simp only [LOp.run, binLV, intBin, lk, sv1, sv2, sv3, Nat.reduceEqDiff, Nat.reduceAdd, Nat.reduceLeDiff, reduceIte, if_false, if_true, mkVal, unLV, List.map, optTmps, hN.sl.len, hR.sl.len, iaN hN.sl, hN.getI, hN.rlen, *]; (try rfl); done)); (focus rfl); (focus trivial); simp only [Env.put_some])
      | (apply pw_runF; (focus (simp only [wantedG, lk, sv1, sv2, sv3, Nat.reduceEqDiff, Nat.reduceAdd, Nat.reduceLeDiff, reduceIte, if_false, if_true, mkVal, unLV, List.map, optTmps, beq_self_eq_true, *]; (try rfl); done)); (focus (simp only [run_iaddr, lk, sv1, sv2, sv3, Nat.reduceEqDiff, Nat.reduceAdd, Nat.reduceLeDiff, reduceIte, if_false, if_true, mkVal, unLV, List.map, optTmps, hN.sl.len, hR.sl.len, iaN hN.sl, hN.getI, hN.rlen, *]; (try rfl); done)); (focus rfl); (focus trivial); simp only [Env.put_some]))
  · refine pw_loopI (fun n e s => s = St.empty ∧ ∃ i : Nat, n = R.length - i ∧ i ≤ R.length ∧ e.at 1 = .pimm [.int .i64 L, .int .i64 S, nx, pr] 0 ∧ e.at 4 = .int .i64 (i : Int) ∧ ∀ j, j < i → (R.getD j []).length ≤ 16) R.length ⟨rfl, 0, by simp, by simp, by simp [e1], by simp, fun j hj => absurd hj (Nat.not_lt_zero _)⟩ ?_
    rintro n e s ⟨rfl, k, rfl, hk, e1, e4, hall2⟩
    repeat' (first
        | (refine ok_block ?_)
        | (refine pw_seq ?_)
        | (refine ok_skip ?_; try simp only [Thn, Blkd, reduceIte, Nat.reduceEqDiff])
        | (refine ok_exit ?_; try simp only [Thn, Blkd, reduceIte, Nat.reduceEqDiff, Nat.succ_ne_self])
        | (refine ok_ret ?_; try simp only [Thn, Blkd, reduceIte, Nat.reduceEqDiff])
        | (refine pw_region hm ?_)
        | (refine pw_nil ?_; try simp only [Thn, Blkd, reduceIte, Nat.reduceEqDiff])
        | (apply pw_condT; (focus (simp only [lk, sv1, sv2, sv3, Nat.reduceEqDiff, Nat.reduceAdd, Nat.reduceLeDiff, reduceIte, if_false, if_true, mkVal, unLV, List.map, optTmps, *]; done)))
        | (apply pw_condF; (focus (simp only [lk, sv1, sv2, sv3, Nat.reduceEqDiff, Nat.reduceAdd, Nat.reduceLeDiff, reduceIte, if_false, if_true, mkVal, unLV, List.map, optTmps, *]; done)))
        | (apply pw_binF; (focus (simp only [wantedG, lk, sv1, sv2, sv3, Nat.reduceEqDiff, Nat.reduceAdd, Nat.reduceLeDiff, reduceIte, if_false, if_true, mkVal, unLV, List.map, optTmps, beq_self_eq_true, *]; (try rfl); done)); (focus (simp only [lk, sv1, sv2, sv3, Nat.reduceEqDiff, Nat.reduceAdd, Nat.reduceLeDiff, reduceIte, if_false, if_true, mkVal, unLV, List.map, optTmps, binLV, intBin, hN.sl.len, hR.sl.len, iaN hR.sl, hR.getI, hR.rlen, *]; (try rfl); done)); intro bb hbb; cases bb <;> simp only [decide_eq_true_eq, decide_eq_false_iff_not, bne_iff_ne, beq_iff_eq, ne_eq, bne_eq_false_iff_eq, beq_eq_false_iff_ne, Int.not_lt, Int.not_le, gt_iff_lt, ge_iff_le, Bool.not_eq_true] at hbb)
        | (apply pw_run0; (focus (simp only [LOp.run, binLV, intBin, lk, sv1, sv2, sv3, Nat.reduceEqDiff, Nat.reduceAdd, Nat.reduceLeDiff, reduceIte, if_false, if_true, mkVal, unLV, List.map, optTmps, hN.sl.len, hR.sl.len, iaN hR.sl, hR.getI, hR.rlen, *]; (try rfl); done)))
        | (apply pw_run0; (focus (simp only [run_iaddr, lk, sv1, sv2, sv3, Nat.reduceEqDiff, Nat.reduceAdd, Nat.reduceLeDiff, reduceIte, if_false, if_true, mkVal, unLV, List.map, optTmps, hN.sl.len, hR.sl.len, iaN hR.sl, hR.getI, hR.rlen, *]; (try rfl); done)))
        | (apply pw_skipF; (focus (simp only [wantedG, lk, sv1, sv2, sv3, Nat.reduceEqDiff, Nat.reduceAdd, Nat.reduceLeDiff, reduceIte, if_false, if_true, mkVal, unLV, List.map, optTmps, *]; (try rfl); done)); simp only [Env.put_some])
        | (apply pw_runF; (focus (simp only [wantedG, lk, sv1, sv2, sv3, Nat.reduceEqDiff, Nat.reduceAdd, Nat.reduceLeDiff, reduceIte, if_false, if_true, mkVal, unLV, List.map, optTmps, beq_self_eq_true, *]; (try rfl); done)); (focus (simp only [LOp.run, binLV, intBin, lk, sv1, sv2, sv3, Nat.reduceEqDiff, Nat.reduceAdd, Nat.reduceLeDiff, reduceIte, if_false, if_true, mkVal, unLV, List.map, optTmps, hN.sl.len, hR.sl.len, iaN hR.sl, hR.getI, hR.rlen, *]; (try rfl); done)); (focus rfl); (focus trivial); simp only [Env.put_some])
        | (apply pw_runF; (focus (simp only [wantedG, lk, sv1, sv2, sv3, Nat.reduceEqDiff, Nat.reduceAdd, Nat.reduceLeDiff, reduceIte, if_false, if_true, mkVal, unLV, List.map, optTmps, beq_self_eq_true, *]; (try rfl); done)); (focus (simp only [run_iaddr, lk, sv1, sv2, sv3, Nat.reduceEqDiff, Nat.reduceAdd, Nat.reduceLeDiff, reduceIte, if_false, if_true, mkVal, unLV, List.map, optTmps, hN.sl.len, hR.sl.len, iaN hR.sl, hR.getI, hR.rlen, *]; (try rfl); done)); (focus rfl); (focus trivial); simp only [Env.put_some]))
    · refine ⟨.inr trivial, ?_⟩
      simp only [lk, sv1, sv2, sv3, Nat.reduceEqDiff, Nat.reduceAdd, Nat.reduceLeDiff, reduceIte, if_false, if_true, mkVal, unLV, List.map, optTmps]
      exact bool_t ⟨by omega, fun j hj => hall j (by omega), fun j hj => hall2 j (by omega)⟩
    · refine ⟨_, ?_, trivial, k + 1, rfl, ?_⟩
      · omega
      simp only [lk, sv1, sv2, sv3, Nat.reduceEqDiff, Nat.reduceAdd, Nat.reduceLeDiff, reduceIte, if_false, if_true, mkVal, unLV, List.map, optTmps, true_and, wrap_succ (i := k) ‹_› hR.len, *]
      refine ⟨by omega, fun j hj => ?_⟩
      rcases Nat.lt_succ_iff_lt_or_eq.1 hj with h | rfl
      · exact hall2 j h
      · omega
    · refine ⟨.inr trivial, ?_⟩
      simp only [lk, sv1, sv2, sv3, Nat.reduceEqDiff, Nat.reduceAdd, Nat.reduceLeDiff, reduceIte, if_false, if_true, mkVal, unLV, List.map, optTmps]
      refine bool_f fun h => ?_
      have := h.2.2 k (by omega)
      omega
  · refine ⟨_, ?_, trivial, i + 1, rfl, ?_⟩
    · omega
    simp only [lk, sv1, sv2, sv3, Nat.reduceEqDiff, Nat.reduceAdd, Nat.reduceLeDiff, reduceIte, if_false, if_true, mkVal, unLV, List.map, optTmps, true_and, wrap_succ (i := i) ‹_› hN.len, *]
    refine ⟨by omega, fun j hj => ?_⟩
    rcases Nat.lt_succ_iff_lt_or_eq.1 hj with h | rfl
    · exact hall j h
    · omega
  · refine ⟨.inr trivial, ?_⟩
    simp only [lk, sv1, sv2, sv3, Nat.reduceEqDiff, Nat.reduceAdd, Nat.reduceLeDiff, reduceIte, if_false, if_true, mkVal, unLV, List.map, optTmps]
    refine bool_f fun h => ?_
    have := h.2.1 i (by omega)
    omega

theorem greatest_ok : PO 37 [] (.int .i64 20000) := by
  refine q_fn (t := 0) hm Try.func37 (by decide +kernel) c37 (Nat.le_of_ble_eq_true rfl) rfl rfl rfl ?_
  generalize envOf [] = e
  unfold l37
  dsimp only
  repeat' (first
      | (apply qc_block)
      | (apply qc_seq)
      | (apply qc_skip; try simp only [Thn, Blkd, reduceIte, Nat.reduceEqDiff])
      | (apply qc_exit; try simp only [Thn, Blkd, reduceIte, Nat.reduceEqDiff, Nat.succ_ne_self])
      | (apply qc_ret; try simp only [Thn, Blkd, reduceIte, Nat.reduceEqDiff])
      | (apply qc_region hm)
      | (apply q_nil; try simp only [Thn, Blkd, reduceIte, Nat.reduceEqDiff])
      | (apply qc_condT; (focus (simp only [lk, Nat.reduceEqDiff, reduceIte]; (try rfl); done)))
      | (apply qc_condF; (focus (simp only [lk, Nat.reduceEqDiff, reduceIte]; (try rfl); done)))
      | (apply q_mv; (focus (first | exact wN | (apply wG; (simp only [lk, Nat.reduceEqDiff, reduceIte]; (try rfl); done)))); (focus (simp only [lk, Nat.reduceEqDiff, reduceIte]; (try rfl); done)))
      | (apply q_cmp; (focus (first | exact wN | (apply wG; (simp only [lk, Nat.reduceEqDiff, reduceIte]; (try rfl); done)))); (focus (simp only [lk, Nat.reduceEqDiff, reduceIte]; (try rfl); done)); (focus (simp only [lk, Nat.reduceEqDiff, reduceIte]; (try rfl); done)); (focus rfl); intro bb hbb; cases bb <;> (simp only [decide_eq_true_eq, decide_eq_false_iff_not, bne_iff_ne, beq_iff_eq, ne_eq, bne_eq_false_iff_eq, beq_eq_false_iff_ne, Int.not_lt, Int.not_le, gt_iff_lt, ge_iff_le, Bool.not_eq_true] at hbb))
      | (apply q_eq; (focus (first | exact wN | (apply wG; (simp only [lk, Nat.reduceEqDiff, reduceIte]; (try rfl); done)))); (focus (simp only [lk, Nat.reduceEqDiff, reduceIte]; (try rfl); done)); (focus (simp only [lk, Nat.reduceEqDiff, reduceIte]; (try rfl); done)); (focus rfl); intro bb hbb; cases bb <;> (try simp only [Bool.false_eq_true, if_false] at hbb))
      | (apply q_bin; (focus (first | exact wN | (apply wG; (simp only [lk, Nat.reduceEqDiff, reduceIte]; (try rfl); done)))); (focus (simp only [lk, Nat.reduceEqDiff, reduceIte]; (try rfl); done)); (focus (simp only [lk, Nat.reduceEqDiff, reduceIte]; (try rfl); done)); (focus rfl))
      | (apply q_faddr; (focus (first | exact wN | (apply wG; (simp only [lk, Nat.reduceEqDiff, reduceIte]; (try rfl); done)))); (focus (simp only [lk, Nat.reduceEqDiff, reduceIte]; (try rfl); done)))
      | (apply q_load; (focus (first | exact wN | (apply wG; (simp only [lk, Nat.reduceEqDiff, reduceIte]; (try rfl); done)))); (focus (simp only [lk, Nat.reduceEqDiff, reduceIte]; (try rfl); done)); (focus (first | rfl | (simp only [Nat.mul_one, Nat.zero_add, *]; (try rfl); done))))
      | (apply q_len; (focus (first | exact wN | (apply wG; (simp only [lk, Nat.reduceEqDiff, reduceIte]; (try rfl); done)))); (focus (simp only [lk, Nat.reduceEqDiff, reduceIte]; (try rfl); done)); (focus (first | rfl | (simp only [Nat.mul_one, Nat.zero_add, *]; (try rfl); done))))
      | (apply q_iaddr; (focus (first | exact wN | (apply wG; (simp only [lk, Nat.reduceEqDiff, reduceIte]; (try rfl); done)))); (focus (simp only [lk, Nat.reduceEqDiff, reduceIte]; (try rfl); done)); (focus (simp only [lk, Nat.reduceEqDiff, reduceIte]; (try rfl); done)); (focus (first | rfl | (simp only [Nat.mul_one, Nat.zero_add, *]; (try rfl); done))))
      | (apply q_max2; (focus (first | exact wN | (apply wG; (simp only [lk, Nat.reduceEqDiff, reduceIte]; (try rfl); done)))); (focus (simp only [lk, Nat.reduceEqDiff, reduceIte]; (try rfl); done)); (focus (simp only [lk, Nat.reduceEqDiff, reduceIte]; (try rfl); done)))
      | (apply q_min2; (focus (first | exact wN | (apply wG; (simp only [lk, Nat.reduceEqDiff, reduceIte]; (try rfl); done)))); (focus (simp only [lk, Nat.reduceEqDiff, reduceIte]; (try rfl); done)); (focus (simp only [lk, Nat.reduceEqDiff, reduceIte]; (try rfl); done)))
      | (apply q_not; (focus (first | exact wN | (apply wG; (simp only [lk, Nat.reduceEqDiff, reduceIte]; (try rfl); done)))); (focus (simp only [lk, Nat.reduceEqDiff, reduceIte]; (try rfl); done)))
      | (apply q_pickT; (focus (first | exact wN | (apply wG; (simp only [lk, Nat.reduceEqDiff, reduceIte]; (try rfl); done)))); (focus (simp only [lk, Nat.reduceEqDiff, reduceIte]; (try rfl); done)); (focus (simp only [lk, Nat.reduceEqDiff, reduceIte]; (try rfl); done)))
      | (apply q_pickF; (focus (first | exact wN | (apply wG; (simp only [lk, Nat.reduceEqDiff, reduceIte]; (try rfl); done)))); (focus (simp only [lk, Nat.reduceEqDiff, reduceIte]; (try rfl); done)); (focus (simp only [lk, Nat.reduceEqDiff, reduceIte]; (try rfl); done)))
      | (apply q_box; (focus (simp only [lk, Nat.reduceEqDiff, reduceIte]; (try rfl); done)); (focus assumption); (focus (simp only [List.all_cons, List.all_nil, isC_int, isC_bool, isC_str, Bool.and_self, *]; done)); (focus rfl))
      | (apply q_loadN; (focus (first | exact wN | (apply wG; (simp only [lk, Nat.reduceEqDiff, reduceIte]; (try rfl); done)))); (focus (simp only [lk, Nat.reduceEqDiff, reduceIte]; (try rfl); done)); (focus rfl); (focus (simp only [List.drop_zero, List.drop_succ_cons, List.take_succ_cons, List.take_zero, List.take_nil]; (try rfl); done)))
      | (apply q_alloc; (focus (first | exact wN | (apply wG; (simp only [lk, Nat.reduceEqDiff, reduceIte]; (try rfl); done)))); try simp only [n_empty, St.n_new, St.n_put, Nat.zero_add, Nat.reduceAdd])
      | (apply q_bslice0; (focus (first | exact wN | (apply wG; (simp only [lk, Nat.reduceEqDiff, reduceIte]; (try rfl); done)))); try simp only [n_empty, St.n_new, St.n_put, Nat.zero_add, Nat.reduceAdd])
      | (apply q_bslice1; (focus (first | exact wN | (apply wG; (simp only [lk, Nat.reduceEqDiff, reduceIte]; (try rfl); done)))); (focus (simp only [lk, Nat.reduceEqDiff, reduceIte]; (try rfl); done)); (focus (first | rfl | assumption | (simp only [isC_int, isC_sref, isC_nils, isC_simm, *]; done))); try simp only [n_empty, St.n_new, St.n_put, Nat.zero_add, Nat.reduceAdd])
      | (apply q_store; (focus (simp only [lk, Nat.reduceEqDiff, reduceIte]; (try rfl); done)); (focus (simp only [lk, Nat.reduceEqDiff, reduceIte]; (try rfl); done)); (focus (first | exact cells_cell (by assumption) | (simp only [cells_agg, cells_int, cells_bool, cells_str, cells_nils, cells_zs, cells_simm, cells_sref, cells_pref, cells_mref, isC_int, isC_bool, isC_str, isC_nils, isC_zs, isC_simm, isC_sref, List.all_cons, List.all_nil, Bool.and_self, if_true, *]; (try rfl); done))); (focus (first | (simp only [St.get_put, St.get_new, St.n_put, St.n_new, n_empty, Nat.zero_add, Nat.reduceAdd, Nat.reduceEqDiff, reduceIte, *]; (try rfl); done))); (focus rfl); (focus rfl); try simp only [splice, List.set_cons_zero, List.set_cons_succ])
      | (apply q_faddrR; (focus (first | exact wN | (apply wG; (simp only [lk, Nat.reduceEqDiff, reduceIte]; (try rfl); done)))); (focus (simp only [lk, Nat.reduceEqDiff, reduceIte]; (try rfl); done)))
      | (apply q_loadR; (focus (first | exact wN | (apply wG; (simp only [lk, Nat.reduceEqDiff, reduceIte]; (try rfl); done)))); (focus (simp only [lk, Nat.reduceEqDiff, reduceIte]; (try rfl); done)); (focus (first | (simp only [St.get_put, St.get_new, St.n_put, St.n_new, n_empty, Nat.zero_add, Nat.reduceAdd, Nat.reduceEqDiff, reduceIte, *]; (try rfl); done))); (focus (first | rfl | (simp only [Nat.mul_one, Nat.zero_add, *]; (try rfl); done))))
      | (apply q_loadRN; (focus (first | exact wN | (apply wG; (simp only [lk, Nat.reduceEqDiff, reduceIte]; (try rfl); done)))); (focus (simp only [lk, Nat.reduceEqDiff, reduceIte]; (try rfl); done)); (focus (first | (simp only [St.get_put, St.get_new, St.n_put, St.n_new, n_empty, Nat.zero_add, Nat.reduceAdd, Nat.reduceEqDiff, reduceIte, *]; (try rfl); done))); (focus rfl); (focus (simp only [List.drop_zero, List.drop_succ_cons, List.take_succ_cons, List.take_zero, List.take_nil]; (try rfl); done)))
      | (apply q_ext; (focus (first | exact wN | (apply wG; (simp only [lk, Nat.reduceEqDiff, reduceIte]; (try rfl); done)))); (focus (simp only [lk, Nat.reduceEqDiff, reduceIte]; (try rfl); done)); (focus rfl))
      | (apply q_skip rfl; (focus (simp only [lk, Nat.reduceEqDiff, reduceIte]; (try rfl); done)); (focus rfl); simp only [Env.put_some]))
  exact ⟨.inr trivial, by simp⟩

def Ent (N R : List (List Int)) (i k : Nat) : Prop := 0 ≤ (N.getD i []).getD k 0 ∧ (N.getD i []).getD k 0 < (N.length : Int) ∧ 0 ≤ (R.getD i []).getD k 0 ∧ (R.getD i []).getD k 0 ≤ 20000
def RowOk (N R : List (List Int)) (L : Int) (i : Nat) : Prop := ((N.getD i []).length : Int) = L ∧ ((R.getD i []).length : Int) = L ∧ ∀ k : Nat, (k : Int) < L → Ent N R i k
def PV (L S : Int) (N R : List (List Int)) : Prop := (1 ≤ L ∧ L ≤ 64 ∧ 1 ≤ N.length ∧ N.length ≤ 3000 ∧ R.length = N.length ∧ 0 ≤ S ∧ S < N.length) ∧ ∀ i, i < N.length → RowOk N R L i

set_option maxHeartbeats 4000000 in
theorem rvalid_ok {L S : Int} {nx pr : LV} {N R : List (List Int)} {vN vR : List LV} (hN : IsRows nx N vN) (hR : IsRows pr R vR) : PO 15 [.agg [.int .i64 L, .int .i64 S, nx, pr]] (.bool (decide (PV L S N R))) := by
  have hcl : (LV.agg [.int .i64 L, .int .i64 S, nx, pr]).closed = true := by simp [LV.closed, LV.closed.closedAll, hN.closed, hR.closed]
  have hc1 := hN.sl.cell
  have hc2 := hR.sl.cell
  refine q_fn (t := 2) hm Try.func15 (by decide +kernel) c15 (Nat.le_of_ble_eq_true rfl) (by simp [LV.closed.closedAll, hcl]) rfl rfl ?_
  have h0 : (envOf [LV.agg [.int .i64 L, .int .i64 S, nx, pr]]).at 0 = .agg [.int .i64 L, .int .i64 S, nx, pr] := by rw [envOf_at]; rfl
  generalize envOf [LV.agg [.int .i64 L, .int .i64 S, nx, pr]] = e at *
  unfold l15
  dsimp only
  repeat' (first
      | (apply qc_block)
      | (apply qc_seq)
      | (apply qc_skip; try simp only [Thn, Blkd, reduceIte, Nat.reduceEqDiff])
      | (apply qc_exit; try simp only [Thn, Blkd, reduceIte, Nat.reduceEqDiff, Nat.succ_ne_self])
      | (apply qc_ret; try simp only [Thn, Blkd, reduceIte, Nat.reduceEqDiff])
      | (apply qc_region hm)
      | (apply q_nil; try simp only [Thn, Blkd, reduceIte, Nat.reduceEqDiff])
      | (apply qc_condT; (focus (simp only [lk, Nat.reduceEqDiff, reduceIte, h0]; (try rfl); done)))
      | (apply qc_condF; (focus (simp only [lk, Nat.reduceEqDiff, reduceIte, h0]; (try rfl); done)))
      | (apply q_mv; (focus (first | exact wN | (apply wG; (simp only [lk, Nat.reduceEqDiff, reduceIte, h0]; (try rfl); done)))); (focus (simp only [lk, Nat.reduceEqDiff, reduceIte, h0]; (try rfl); done)))
      | (apply q_cmp; (focus (first | exact wN | (apply wG; (simp only [lk, Nat.reduceEqDiff, reduceIte, h0]; (try rfl); done)))); (focus (simp only [lk, Nat.reduceEqDiff, reduceIte, h0]; (try rfl); done)); (focus (simp only [lk, Nat.reduceEqDiff, reduceIte, h0]; (try rfl); done)); (focus rfl); intro bb hbb; cases bb <;> (simp only [decide_eq_true_eq, decide_eq_false_iff_not, bne_iff_ne, beq_iff_eq, ne_eq, bne_eq_false_iff_eq, beq_eq_false_iff_ne, Int.not_lt, Int.not_le, gt_iff_lt, ge_iff_le, Bool.not_eq_true] at hbb))
      | (apply q_eq; (focus (first | exact wN | (apply wG; (simp only [lk, Nat.reduceEqDiff, reduceIte, h0]; (try rfl); done)))); (focus (simp only [lk, Nat.reduceEqDiff, reduceIte, h0]; (try rfl); done)); (focus (simp only [lk, Nat.reduceEqDiff, reduceIte, h0]; (try rfl); done)); (focus rfl); intro bb hbb; cases bb <;> (try simp only [Bool.false_eq_true, if_false] at hbb))
      | (apply q_bin; (focus (first | exact wN | (apply wG; (simp only [lk, Nat.reduceEqDiff, reduceIte, h0]; (try rfl); done)))); (focus (simp only [lk, Nat.reduceEqDiff, reduceIte, h0]; (try rfl); done)); (focus (simp only [lk, Nat.reduceEqDiff, reduceIte, h0]; (try rfl); done)); (focus rfl))
      | (apply q_faddr; (focus (first | exact wN | (apply wG; (simp only [lk, Nat.reduceEqDiff, reduceIte, h0]; (try rfl); done)))); (focus (simp only [lk, Nat.reduceEqDiff, reduceIte, h0]; (try rfl); done)))
      | (apply q_load; (focus (first | exact wN | (apply wG; (simp only [lk, Nat.reduceEqDiff, reduceIte, h0]; (try rfl); done)))); (focus (simp only [lk, Nat.reduceEqDiff, reduceIte, h0]; (try rfl); done)); (focus (first | rfl | (simp only [Nat.mul_one, Nat.zero_add, hN.sl.len, hR.sl.len, *]; (try rfl); done))))
      | (apply q_len; (focus (first | exact wN | (apply wG; (simp only [lk, Nat.reduceEqDiff, reduceIte, h0]; (try rfl); done)))); (focus (simp only [lk, Nat.reduceEqDiff, reduceIte, h0]; (try rfl); done)); (focus (first | rfl | (simp only [Nat.mul_one, Nat.zero_add, hN.sl.len, hR.sl.len, *]; (try rfl); done))))
      | (apply q_iaddr; (focus (first | exact wN | (apply wG; (simp only [lk, Nat.reduceEqDiff, reduceIte, h0]; (try rfl); done)))); (focus (simp only [lk, Nat.reduceEqDiff, reduceIte, h0]; (try rfl); done)); (focus (simp only [lk, Nat.reduceEqDiff, reduceIte, h0]; (try rfl); done)); (focus (first | rfl | (simp only [Nat.mul_one, Nat.zero_add, hN.sl.len, hR.sl.len, *]; (try rfl); done))))
      | (apply q_max2; (focus (first | exact wN | (apply wG; (simp only [lk, Nat.reduceEqDiff, reduceIte, h0]; (try rfl); done)))); (focus (simp only [lk, Nat.reduceEqDiff, reduceIte, h0]; (try rfl); done)); (focus (simp only [lk, Nat.reduceEqDiff, reduceIte, h0]; (try rfl); done)))
      | (apply q_min2; (focus (first | exact wN | (apply wG; (simp only [lk, Nat.reduceEqDiff, reduceIte, h0]; (try rfl); done)))); (focus (simp only [lk, Nat.reduceEqDiff, reduceIte, h0]; (try rfl); done)); (focus (simp only [lk, Nat.reduceEqDiff, reduceIte, h0]; (try rfl); done)))
      | (apply q_not; (focus (first | exact wN | (apply wG; (simp only [lk, Nat.reduceEqDiff, reduceIte, h0]; (try rfl); done)))); (focus (simp only [lk, Nat.reduceEqDiff, reduceIte, h0]; (try rfl); done)))
      | (apply q_pickT; (focus (first | exact wN | (apply wG; (simp only [lk, Nat.reduceEqDiff, reduceIte, h0]; (try rfl); done)))); (focus (simp only [lk, Nat.reduceEqDiff, reduceIte, h0]; (try rfl); done)); (focus (simp only [lk, Nat.reduceEqDiff, reduceIte, h0]; (try rfl); done)))
      | (apply q_pickF; (focus (first | exact wN | (apply wG; (simp only [lk, Nat.reduceEqDiff, reduceIte, h0]; (try rfl); done)))); (focus (simp only [lk, Nat.reduceEqDiff, reduceIte, h0]; (try rfl); done)); (focus (simp only [lk, Nat.reduceEqDiff, reduceIte, h0]; (try rfl); done)))
      | (apply q_box; (focus (simp only [lk, Nat.reduceEqDiff, reduceIte, h0]; (try rfl); done)); (focus assumption); (focus (simp only [List.all_cons, List.all_nil, isC_int, isC_bool, isC_str, Bool.and_self, *]; done)); (focus rfl))
      | (apply q_loadN; (focus (first | exact wN | (apply wG; (simp only [lk, Nat.reduceEqDiff, reduceIte, h0]; (try rfl); done)))); (focus (simp only [lk, Nat.reduceEqDiff, reduceIte, h0]; (try rfl); done)); (focus rfl); (focus (simp only [List.drop_zero, List.drop_succ_cons, List.take_succ_cons, List.take_zero, List.take_nil]; (try rfl); done)))
      | (apply q_alloc; (focus (first | exact wN | (apply wG; (simp only [lk, Nat.reduceEqDiff, reduceIte, h0]; (try rfl); done)))); try simp only [n_empty, St.n_new, St.n_put, Nat.zero_add, Nat.reduceAdd])
      | (apply q_bslice0; (focus (first | exact wN | (apply wG; (simp only [lk, Nat.reduceEqDiff, reduceIte, h0]; (try rfl); done)))); try simp only [n_empty, St.n_new, St.n_put, Nat.zero_add, Nat.reduceAdd])
      | (apply q_bslice1; (focus (first | exact wN | (apply wG; (simp only [lk, Nat.reduceEqDiff, reduceIte, h0]; (try rfl); done)))); (focus (simp only [lk, Nat.reduceEqDiff, reduceIte, h0]; (try rfl); done)); (focus (first | rfl | assumption | (simp only [isC_int, isC_sref, isC_nils, isC_simm, *]; done))); try simp only [n_empty, St.n_new, St.n_put, Nat.zero_add, Nat.reduceAdd])
      | (apply q_store; (focus (simp only [lk, Nat.reduceEqDiff, reduceIte, h0]; (try rfl); done)); (focus (simp only [lk, Nat.reduceEqDiff, reduceIte, h0]; (try rfl); done)); (focus (first | exact cells_cell (by assumption) | (simp only [cells_agg, cells_int, cells_bool, cells_str, cells_nils, cells_zs, cells_simm, cells_sref, cells_pref, cells_mref, isC_int, isC_bool, isC_str, isC_nils, isC_zs, isC_simm, isC_sref, List.all_cons, List.all_nil, Bool.and_self, if_true, *]; (try rfl); done))); (focus (first | (simp only [St.get_put, St.get_new, St.n_put, St.n_new, n_empty, Nat.zero_add, Nat.reduceAdd, Nat.reduceEqDiff, reduceIte, *]; (try rfl); done))); (focus rfl); (focus rfl); try simp only [splice, List.set_cons_zero, List.set_cons_succ])
      | (apply q_faddrR; (focus (first | exact wN | (apply wG; (simp only [lk, Nat.reduceEqDiff, reduceIte, h0]; (try rfl); done)))); (focus (simp only [lk, Nat.reduceEqDiff, reduceIte, h0]; (try rfl); done)))
      | (apply q_loadR; (focus (first | exact wN | (apply wG; (simp only [lk, Nat.reduceEqDiff, reduceIte, h0]; (try rfl); done)))); (focus (simp only [lk, Nat.reduceEqDiff, reduceIte, h0]; (try rfl); done)); (focus (first | (simp only [St.get_put, St.get_new, St.n_put, St.n_new, n_empty, Nat.zero_add, Nat.reduceAdd, Nat.reduceEqDiff, reduceIte, *]; (try rfl); done))); (focus (first | rfl | (simp only [Nat.mul_one, Nat.zero_add, hN.sl.len, hR.sl.len, *]; (try rfl); done))))
      | (apply q_loadRN; (focus (first | exact wN | (apply wG; (simp only [lk, Nat.reduceEqDiff, reduceIte, h0]; (try rfl); done)))); (focus (simp only [lk, Nat.reduceEqDiff, reduceIte, h0]; (try rfl); done)); (focus (first | (simp only [St.get_put, St.get_new, St.n_put, St.n_new, n_empty, Nat.zero_add, Nat.reduceAdd, Nat.reduceEqDiff, reduceIte, *]; (try rfl); done))); (focus rfl); (focus (simp only [List.drop_zero, List.drop_succ_cons, List.take_succ_cons, List.take_zero, List.take_nil]; (try rfl); done)))
      | (apply q_ext; (focus (first | exact wN | (apply wG; (simp only [lk, Nat.reduceEqDiff, reduceIte, h0]; (try rfl); done)))); (focus (simp only [lk, Nat.reduceEqDiff, reduceIte, h0]; (try rfl); done)); (focus rfl))
      | (apply q_skip rfl; (focus (simp only [lk, Nat.reduceEqDiff, reduceIte, h0]; (try rfl); done)); (focus rfl); simp only [Env.put_some]))
  all_goals first
    | (refine ⟨.inr trivial, ?_⟩
       simp only [lk, sv1, sv2, sv3, Nat.reduceEqDiff, Nat.reduceAdd, Nat.reduceLeDiff, reduceIte, if_false, if_true, mkVal, unLV, List.map, optTmps]
       refine bool_f fun h => ?_
       have := h.1
       omega)
    | skip
  refine qc_loop (fun n e s => s = St.empty ∧ ∃ i : Nat, n = N.length - i ∧ i ≤ N.length ∧ e.at 1 = .pimm [.int .i64 L, .int .i64 S, nx, pr] 0 ∧ e.at 3 = .int .i64 (N.length : Int) ∧ e.at 4 = .int .i64 (i : Int) ∧ ∀ j, j < i → RowOk N R L j) N.length ⟨rfl, 0, by simp, by simp, by simp, by simp, by simp, fun j hj => absurd hj (Nat.not_lt_zero _)⟩ ?_
  rintro n e s ⟨rfl, i, rfl, hi, e1, e3, e4, hall⟩
  repeat' (first
      | (apply qc_block)
      | (apply qc_seq)
      | (apply qc_skip; try simp only [Thn, Blkd, reduceIte, Nat.reduceEqDiff])
      | (apply qc_exit; try simp only [Thn, Blkd, reduceIte, Nat.reduceEqDiff, Nat.succ_ne_self])
      | (apply qc_ret; try simp only [Thn, Blkd, reduceIte, Nat.reduceEqDiff])
      | (apply qc_region hm)
      | (apply q_nil; try simp only [Thn, Blkd, reduceIte, Nat.reduceEqDiff])
      | (apply qc_condT; (focus (simp only [lk, Nat.reduceEqDiff, reduceIte, e1, e3, e4]; (try rfl); done)))
      | (apply qc_condF; (focus (simp only [lk, Nat.reduceEqDiff, reduceIte, e1, e3, e4]; (try rfl); done)))
      | (apply q_mv; (focus (first | exact wN | (apply wG; (simp only [lk, Nat.reduceEqDiff, reduceIte, e1, e3, e4]; (try rfl); done)))); (focus (simp only [lk, Nat.reduceEqDiff, reduceIte, e1, e3, e4]; (try rfl); done)))
      | (apply q_cmp; (focus (first | exact wN | (apply wG; (simp only [lk, Nat.reduceEqDiff, reduceIte, e1, e3, e4]; (try rfl); done)))); (focus (simp only [lk, Nat.reduceEqDiff, reduceIte, e1, e3, e4]; (try rfl); done)); (focus (simp only [lk, Nat.reduceEqDiff, reduceIte, e1, e3, e4]; (try rfl); done)); (focus rfl); intro bb hbb; cases bb <;> (simp only [decide_eq_true_eq, decide_eq_false_iff_not, bne_iff_ne, beq_iff_eq, ne_eq, bne_eq_false_iff_eq, beq_eq_false_iff_ne, Int.not_lt, Int.not_le, gt_iff_lt, ge_iff_le, Bool.not_eq_true] at hbb))
      | (apply q_eq; (focus (first | exact wN | (apply wG; (simp only [lk, Nat.reduceEqDiff, reduceIte, e1, e3, e4]; (try rfl); done)))); (focus (simp only [lk, Nat.reduceEqDiff, reduceIte, e1, e3, e4]; (try rfl); done)); (focus (simp only [lk, Nat.reduceEqDiff, reduceIte, e1, e3, e4]; (try rfl); done)); (focus rfl); intro bb hbb; cases bb <;> (try simp only [Bool.false_eq_true, if_false] at hbb))
      | (apply q_bin; (focus (first | exact wN | (apply wG; (simp only [lk, Nat.reduceEqDiff, reduceIte, e1, e3, e4]; (try rfl); done)))); (focus (simp only [lk, Nat.reduceEqDiff, reduceIte, e1, e3, e4]; (try rfl); done)); (focus (simp only [lk, Nat.reduceEqDiff, reduceIte, e1, e3, e4]; (try rfl); done)); (focus rfl))
      | (apply q_faddr; (focus (first | exact wN | (apply wG; (simp only [lk, Nat.reduceEqDiff, reduceIte, e1, e3, e4]; (try rfl); done)))); (focus (simp only [lk, Nat.reduceEqDiff, reduceIte, e1, e3, e4]; (try rfl); done)))
      | (apply q_load; (focus (first | exact wN | (apply wG; (simp only [lk, Nat.reduceEqDiff, reduceIte, e1, e3, e4]; (try rfl); done)))); (focus (simp only [lk, Nat.reduceEqDiff, reduceIte, e1, e3, e4]; (try rfl); done)); (focus (first | rfl | (simp only [Nat.mul_one, Nat.zero_add, hN.sl.len, hR.sl.len, iaN hN.sl, iaN hR.sl, hN.getI, hN.rlen, hR.getI, hR.rlen, *]; (try rfl); done))))
      | (apply q_len; (focus (first | exact wN | (apply wG; (simp only [lk, Nat.reduceEqDiff, reduceIte, e1, e3, e4]; (try rfl); done)))); (focus (simp only [lk, Nat.reduceEqDiff, reduceIte, e1, e3, e4]; (try rfl); done)); (focus (first | rfl | (simp only [Nat.mul_one, Nat.zero_add, hN.sl.len, hR.sl.len, iaN hN.sl, iaN hR.sl, hN.getI, hN.rlen, hR.getI, hR.rlen, *]; (try rfl); done))))
      | (apply q_iaddr; (focus (first | exact wN | (apply wG; (simp only [lk, Nat.reduceEqDiff, reduceIte, e1, e3, e4]; (try rfl); done)))); (focus (simp only [lk, Nat.reduceEqDiff, reduceIte, e1, e3, e4]; (try rfl); done)); (focus (simp only [lk, Nat.reduceEqDiff, reduceIte, e1, e3, e4]; (try rfl); done)); (focus (first | rfl | (simp only [Nat.mul_one, Nat.zero_add, hN.sl.len, hR.sl.len, iaN hN.sl, iaN hR.sl, hN.getI, hN.rlen, hR.getI, hR.rlen, *]; (try rfl); done))))
      | (apply q_max2; (focus (first | exact wN | (apply wG; (simp only [lk, Nat.reduceEqDiff, reduceIte, e1, e3, e4]; (try rfl); done)))); (focus (simp only [lk, Nat.reduceEqDiff, reduceIte, e1, e3, e4]; (try rfl); done)); (focus (simp only [lk, Nat.reduceEqDiff, reduceIte, e1, e3, e4]; (try rfl); done)))
      | (apply q_min2; (focus (first | exact wN | (apply wG; (simp only [lk, Nat.reduceEqDiff, reduceIte, e1, e3, e4]; (try rfl); done)))); (focus (simp only [lk, Nat.reduceEqDiff, reduceIte, e1, e3, e4]; (try rfl); done)); (focus (simp only [lk, Nat.reduceEqDiff, reduceIte, e1, e3, e4]; (try rfl); done)))
      | (apply q_not; (focus (first | exact wN | (apply wG; (simp only [lk, Nat.reduceEqDiff, reduceIte, e1, e3, e4]; (try rfl); done)))); (focus (simp only [lk, Nat.reduceEqDiff, reduceIte, e1, e3, e4]; (try rfl); done)))
      | (apply q_pickT; (focus (first | exact wN | (apply wG; (simp only [lk, Nat.reduceEqDiff, reduceIte, e1, e3, e4]; (try rfl); done)))); (focus (simp only [lk, Nat.reduceEqDiff, reduceIte, e1, e3, e4]; (try rfl); done)); (focus (simp only [lk, Nat.reduceEqDiff, reduceIte, e1, e3, e4]; (try rfl); done)))
      | (apply q_pickF; (focus (first | exact wN | (apply wG; (simp only [lk, Nat.reduceEqDiff, reduceIte, e1, e3, e4]; (try rfl); done)))); (focus (simp only [lk, Nat.reduceEqDiff, reduceIte, e1, e3, e4]; (try rfl); done)); (focus (simp only [lk, Nat.reduceEqDiff, reduceIte, e1, e3, e4]; (try rfl); done)))
      | (apply q_box; (focus (simp only [lk, Nat.reduceEqDiff, reduceIte, e1, e3, e4]; (try rfl); done)); (focus assumption); (focus (simp only [List.all_cons, List.all_nil, isC_int, isC_bool, isC_str, Bool.and_self, *]; done)); (focus rfl))
      | (apply q_loadN; (focus (first | exact wN | (apply wG; (simp only [lk, Nat.reduceEqDiff, reduceIte, e1, e3, e4]; (try rfl); done)))); (focus (simp only [lk, Nat.reduceEqDiff, reduceIte, e1, e3, e4]; (try rfl); done)); (focus rfl); (focus (simp only [List.drop_zero, List.drop_succ_cons, List.take_succ_cons, List.take_zero, List.take_nil]; (try rfl); done)))
      | (apply q_alloc; (focus (first | exact wN | (apply wG; (simp only [lk, Nat.reduceEqDiff, reduceIte, e1, e3, e4]; (try rfl); done)))); try simp only [n_empty, St.n_new, St.n_put, Nat.zero_add, Nat.reduceAdd])
      | (apply q_bslice0; (focus (first | exact wN | (apply wG; (simp only [lk, Nat.reduceEqDiff, reduceIte, e1, e3, e4]; (try rfl); done)))); try simp only [n_empty, St.n_new, St.n_put, Nat.zero_add, Nat.reduceAdd])
      | (apply q_bslice1; (focus (first | exact wN | (apply wG; (simp only [lk, Nat.reduceEqDiff, reduceIte, e1, e3, e4]; (try rfl); done)))); (focus (simp only [lk, Nat.reduceEqDiff, reduceIte, e1, e3, e4]; (try rfl); done)); (focus (first | rfl | assumption | (simp only [isC_int, isC_sref, isC_nils, isC_simm, *]; done))); try simp only [n_empty, St.n_new, St.n_put, Nat.zero_add, Nat.reduceAdd])
      | (apply q_store; (focus (simp only [lk, Nat.reduceEqDiff, reduceIte, e1, e3, e4]; (try rfl); done)); (focus (simp only [lk, Nat.reduceEqDiff, reduceIte, e1, e3, e4]; (try rfl); done)); (focus (first | exact cells_cell (by assumption) | (simp only [cells_agg, cells_int, cells_bool, cells_str, cells_nils, cells_zs, cells_simm, cells_sref, cells_pref, cells_mref, isC_int, isC_bool, isC_str, isC_nils, isC_zs, isC_simm, isC_sref, List.all_cons, List.all_nil, Bool.and_self, if_true, *]; (try rfl); done))); (focus (first | (simp only [St.get_put, St.get_new, St.n_put, St.n_new, n_empty, Nat.zero_add, Nat.reduceAdd, Nat.reduceEqDiff, reduceIte, *]; (try rfl); done))); (focus rfl); (focus rfl); try simp only [splice, List.set_cons_zero, List.set_cons_succ])
      | (apply q_faddrR; (focus (first | exact wN | (apply wG; (simp only [lk, Nat.reduceEqDiff, reduceIte, e1, e3, e4]; (try rfl); done)))); (focus (simp only [lk, Nat.reduceEqDiff, reduceIte, e1, e3, e4]; (try rfl); done)))
      | (apply q_loadR; (focus (first | exact wN | (apply wG; (simp only [lk, Nat.reduceEqDiff, reduceIte, e1, e3, e4]; (try rfl); done)))); (focus (simp only [lk, Nat.reduceEqDiff, reduceIte, e1, e3, e4]; (try rfl); done)); (focus (first | (simp only [St.get_put, St.get_new, St.n_put, St.n_new, n_empty, Nat.zero_add, Nat.reduceAdd, Nat.reduceEqDiff, reduceIte, *]; (try rfl); done))); (focus (first | rfl | (simp only [Nat.mul_one, Nat.zero_add, hN.sl.len, hR.sl.len, iaN hN.sl, iaN hR.sl, hN.getI, hN.rlen, hR.getI, hR.rlen, *]; (try rfl); done))))
      | (apply q_loadRN; (focus (first | exact wN | (apply wG; (simp only [lk, Nat.reduceEqDiff, reduceIte, e1, e3, e4]; (try rfl); done)))); (focus (simp only [lk, Nat.reduceEqDiff, reduceIte, e1, e3, e4]; (try rfl); done)); (focus (first | (simp only [St.get_put, St.get_new, St.n_put, St.n_new, n_empty, Nat.zero_add, Nat.reduceAdd, Nat.reduceEqDiff, reduceIte, *]; (try rfl); done))); (focus rfl); (focus (simp only [List.drop_zero, List.drop_succ_cons, List.take_succ_cons, List.take_zero, List.take_nil]; (try rfl); done)))
      | (apply q_ext; (focus (first | exact wN | (apply wG; (simp only [lk, Nat.reduceEqDiff, reduceIte, e1, e3, e4]; (try rfl); done)))); (focus (simp only [lk, Nat.reduceEqDiff, reduceIte, e1, e3, e4]; (try rfl); done)); (focus rfl))
      | (apply q_skip rfl; (focus (simp only [lk, Nat.reduceEqDiff, reduceIte, e1, e3, e4]; (try rfl); done)); (focus rfl); simp only [Env.put_some]))
  · refine ⟨.inr trivial, ?_⟩
    simp only [lk, sv1, sv2, sv3, Nat.reduceEqDiff, Nat.reduceAdd, Nat.reduceLeDiff, reduceIte, if_false, if_true, mkVal, unLV, List.map, optTmps]
    exact bool_t ⟨by omega, fun j hj => hall j (by omega)⟩
  · rename_i hb1 hb2
    refine qc_loop (fun n e s => s = St.empty ∧ ∃ k : Nat, n = L.toNat - k ∧ (k : Int) ≤ L ∧ e.at 1 = .pimm [.int .i64 L, .int .i64 S, nx, pr] 0 ∧ e.at 3 = .int .i64 (N.length : Int) ∧ e.at 4 = .int .i64 (i : Int) ∧ e.at 5 = .int .i64 (k : Int) ∧ ∀ j, j < k → Ent N R i j) L.toNat ⟨rfl, 0, by simp, by omega, by simp [e1], by simp [e3], by simp [e4], by simp, fun j hj => absurd hj (Nat.not_lt_zero _)⟩ ?_
    rintro n e s ⟨rfl, k, rfl, hk, e1, e3, e4, e5, hall2⟩
    repeat' (first
        | (apply qc_block)
        | (apply qc_seq)
        | (apply qc_skip; try simp only [Thn, Blkd, reduceIte, Nat.reduceEqDiff])
        | (apply qc_exit; try simp only [Thn, Blkd, reduceIte, Nat.reduceEqDiff, Nat.succ_ne_self])
        | (apply qc_ret; try simp only [Thn, Blkd, reduceIte, Nat.reduceEqDiff])
        | (apply qc_region hm)
        | (apply q_nil; try simp only [Thn, Blkd, reduceIte, Nat.reduceEqDiff])
        | (apply qc_condT; (focus (simp only [lk, Nat.reduceEqDiff, reduceIte, e1, e3, e4, e5]; (try rfl); done)))
        | (apply qc_condF; (focus (simp only [lk, Nat.reduceEqDiff, reduceIte, e1, e3, e4, e5]; (try rfl); done)))
        | (apply q_mv; (focus (first | exact wN | (apply wG; (simp only [lk, Nat.reduceEqDiff, reduceIte, e1, e3, e4, e5]; (try rfl); done)))); (focus (simp only [lk, Nat.reduceEqDiff, reduceIte, e1, e3, e4, e5]; (try rfl); done)))
        | (apply q_cmp; (focus (first | exact wN | (apply wG; (simp only [lk, Nat.reduceEqDiff, reduceIte, e1, e3, e4, e5]; (try rfl); done)))); (focus (simp only [lk, Nat.reduceEqDiff, reduceIte, e1, e3, e4, e5]; (try rfl); done)); (focus (simp only [lk, Nat.reduceEqDiff, reduceIte, e1, e3, e4, e5]; (try rfl); done)); (focus rfl); intro bb hbb; cases bb <;> (simp only [decide_eq_true_eq, decide_eq_false_iff_not, bne_iff_ne, beq_iff_eq, ne_eq, bne_eq_false_iff_eq, beq_eq_false_iff_ne, Int.not_lt, Int.not_le, gt_iff_lt, ge_iff_le, Bool.not_eq_true] at hbb))
        | (apply q_eq; (focus (first | exact wN | (apply wG; (simp only [lk, Nat.reduceEqDiff, reduceIte, e1, e3, e4, e5]; (try rfl); done)))); (focus (simp only [lk, Nat.reduceEqDiff, reduceIte, e1, e3, e4, e5]; (try rfl); done)); (focus (simp only [lk, Nat.reduceEqDiff, reduceIte, e1, e3, e4, e5]; (try rfl); done)); (focus rfl); intro bb hbb; cases bb <;> (try simp only [Bool.false_eq_true, if_false] at hbb))
        | (apply q_bin; (focus (first | exact wN | (apply wG; (simp only [lk, Nat.reduceEqDiff, reduceIte, e1, e3, e4, e5]; (try rfl); done)))); (focus (simp only [lk, Nat.reduceEqDiff, reduceIte, e1, e3, e4, e5]; (try rfl); done)); (focus (simp only [lk, Nat.reduceEqDiff, reduceIte, e1, e3, e4, e5]; (try rfl); done)); (focus rfl))
        | (apply q_faddr; (focus (first | exact wN | (apply wG; (simp only [lk, Nat.reduceEqDiff, reduceIte, e1, e3, e4, e5]; (try rfl); done)))); (focus (simp only [lk, Nat.reduceEqDiff, reduceIte, e1, e3, e4, e5]; (try rfl); done)))
        | (apply q_load; (focus (first | exact wN | (apply wG; (simp only [lk, Nat.reduceEqDiff, reduceIte, e1, e3, e4, e5]; (try rfl); done)))); (focus (simp only [lk, Nat.reduceEqDiff, reduceIte, e1, e3, e4, e5]; (try rfl); done)); (focus (first | rfl | (simp only [Nat.mul_one, Nat.zero_add, hN.sl.len, hR.sl.len, iaN hN.sl, iaN hR.sl, hN.getI, hN.rlen, hN.ria, hR.getI, hR.rlen, hR.ria, ints_get, *]; (try rfl); done))))
        | (apply q_len; (focus (first | exact wN | (apply wG; (simp only [lk, Nat.reduceEqDiff, reduceIte, e1, e3, e4, e5]; (try rfl); done)))); (focus (simp only [lk, Nat.reduceEqDiff, reduceIte, e1, e3, e4, e5]; (try rfl); done)); (focus (first | rfl | (simp only [Nat.mul_one, Nat.zero_add, hN.sl.len, hR.sl.len, iaN hN.sl, iaN hR.sl, hN.getI, hN.rlen, hN.ria, hR.getI, hR.rlen, hR.ria, ints_get, *]; (try rfl); done))))
        | (apply q_iaddr; (focus (first | exact wN | (apply wG; (simp only [lk, Nat.reduceEqDiff, reduceIte, e1, e3, e4, e5]; (try rfl); done)))); (focus (simp only [lk, Nat.reduceEqDiff, reduceIte, e1, e3, e4, e5]; (try rfl); done)); (focus (simp only [lk, Nat.reduceEqDiff, reduceIte, e1, e3, e4, e5]; (try rfl); done)); (focus (first | rfl | (simp only [Nat.mul_one, Nat.zero_add, hN.sl.len, hR.sl.len, iaN hN.sl, iaN hR.sl, hN.getI, hN.rlen, hN.ria, hR.getI, hR.rlen, hR.ria, ints_get, *]; (try rfl); done))))
        | (apply q_max2; (focus (first | exact wN | (apply wG; (simp only [lk, Nat.reduceEqDiff, reduceIte, e1, e3, e4, e5]; (try rfl); done)))); (focus (simp only [lk, Nat.reduceEqDiff, reduceIte, e1, e3, e4, e5]; (try rfl); done)); (focus (simp only [lk, Nat.reduceEqDiff, reduceIte, e1, e3, e4, e5]; (try rfl); done)))
        | (apply q_min2; (focus (first | exact wN | (apply wG; (simp only [lk, Nat.reduceEqDiff, reduceIte, e1, e3, e4, e5]; (try rfl); done)))); (focus (simp only [lk, Nat.reduceEqDiff, reduceIte, e1, e3, e4, e5]; (try rfl); done)); (focus (simp only [lk, Nat.reduceEqDiff, reduceIte, e1, e3, e4, e5]; (try rfl); done)))
        | (apply q_not; (focus (first | exact wN | (apply wG; (simp only [lk, Nat.reduceEqDiff, reduceIte, e1, e3, e4, e5]; (try rfl); done)))); (focus (simp only [lk, Nat.reduceEqDiff, reduceIte, e1, e3, e4, e5]; (try rfl); done)))
        | (apply q_pickT; (focus (first | exact wN | (apply wG; (simp only [lk, Nat.reduceEqDiff, reduceIte, e1, e3, e4, e5]; (try rfl); done)))); (focus (simp only [lk, Nat.reduceEqDiff, reduceIte, e1, e3, e4, e5]; (try rfl); done)); (focus (simp only [lk, Nat.reduceEqDiff, reduceIte, e1, e3, e4, e5]; (try rfl); done)))
        | (apply q_pickF; (focus (first | exact wN | (apply wG; (simp only [lk, Nat.reduceEqDiff, reduceIte, e1, e3, e4, e5]; (try rfl); done)))); (focus (simp only [lk, Nat.reduceEqDiff, reduceIte, e1, e3, e4, e5]; (try rfl); done)); (focus (simp only [lk, Nat.reduceEqDiff, reduceIte, e1, e3, e4, e5]; (try rfl); done)))
        | (apply q_box; (focus (simp only [lk, Nat.reduceEqDiff, reduceIte, e1, e3, e4, e5]; (try rfl); done)); (focus assumption); (focus (simp only [List.all_cons, List.all_nil, isC_int, isC_bool, isC_str, Bool.and_self, *]; done)); (focus rfl))
        | (apply q_loadN; (focus (first | exact wN | (apply wG; (simp only [lk, Nat.reduceEqDiff, reduceIte, e1, e3, e4, e5]; (try rfl); done)))); (focus (simp only [lk, Nat.reduceEqDiff, reduceIte, e1, e3, e4, e5]; (try rfl); done)); (focus rfl); (focus (simp only [List.drop_zero, List.drop_succ_cons, List.take_succ_cons, List.take_zero, List.take_nil]; (try rfl); done)))
        | (apply q_alloc; (focus (first | exact wN | (apply wG; (simp only [lk, Nat.reduceEqDiff, reduceIte, e1, e3, e4, e5]; (try rfl); done)))); try simp only [n_empty, St.n_new, St.n_put, Nat.zero_add, Nat.reduceAdd])
        | (apply q_bslice0; (focus (first | exact wN | (apply wG; (simp only [lk, Nat.reduceEqDiff, reduceIte, e1, e3, e4, e5]; (try rfl); done)))); try simp only [n_empty, St.n_new, St.n_put, Nat.zero_add, Nat.reduceAdd])
        | (apply q_bslice1; (focus (first | exact wN | (apply wG; (simp only [lk, Nat.reduceEqDiff, reduceIte, e1, e3, e4, e5]; (try rfl); done)))); (focus (simp only [lk, Nat.reduceEqDiff, reduceIte, e1, e3, e4, e5]; (try rfl); done)); (focus (first | rfl | assumption | (simp only [isC_int, isC_sref, isC_nils, isC_simm, *]; done))); try simp only [n_empty, St.n_new, St.n_put, Nat.zero_add, Nat.reduceAdd])
        | (apply q_store; (focus (simp only [lk, Nat.reduceEqDiff, reduceIte, e1, e3, e4, e5]; (try rfl); done)); (focus (simp only [lk, Nat.reduceEqDiff, reduceIte, e1, e3, e4, e5]; (try rfl); done)); (focus (first | exact cells_cell (by assumption) | (simp only [cells_agg, cells_int, cells_bool, cells_str, cells_nils, cells_zs, cells_simm, cells_sref, cells_pref, cells_mref, isC_int, isC_bool, isC_str, isC_nils, isC_zs, isC_simm, isC_sref, List.all_cons, List.all_nil, Bool.and_self, if_true, *]; (try rfl); done))); (focus (first | (simp only [St.get_put, St.get_new, St.n_put, St.n_new, n_empty, Nat.zero_add, Nat.reduceAdd, Nat.reduceEqDiff, reduceIte, *]; (try rfl); done))); (focus rfl); (focus rfl); try simp only [splice, List.set_cons_zero, List.set_cons_succ])
        | (apply q_faddrR; (focus (first | exact wN | (apply wG; (simp only [lk, Nat.reduceEqDiff, reduceIte, e1, e3, e4, e5]; (try rfl); done)))); (focus (simp only [lk, Nat.reduceEqDiff, reduceIte, e1, e3, e4, e5]; (try rfl); done)))
        | (apply q_loadR; (focus (first | exact wN | (apply wG; (simp only [lk, Nat.reduceEqDiff, reduceIte, e1, e3, e4, e5]; (try rfl); done)))); (focus (simp only [lk, Nat.reduceEqDiff, reduceIte, e1, e3, e4, e5]; (try rfl); done)); (focus (first | (simp only [St.get_put, St.get_new, St.n_put, St.n_new, n_empty, Nat.zero_add, Nat.reduceAdd, Nat.reduceEqDiff, reduceIte, *]; (try rfl); done))); (focus (first | rfl | (simp only [Nat.mul_one, Nat.zero_add, hN.sl.len, hR.sl.len, iaN hN.sl, iaN hR.sl, hN.getI, hN.rlen, hN.ria, hR.getI, hR.rlen, hR.ria, ints_get, *]; (try rfl); done))))
        | (apply q_loadRN; (focus (first | exact wN | (apply wG; (simp only [lk, Nat.reduceEqDiff, reduceIte, e1, e3, e4, e5]; (try rfl); done)))); (focus (simp only [lk, Nat.reduceEqDiff, reduceIte, e1, e3, e4, e5]; (try rfl); done)); (focus (first | (simp only [St.get_put, St.get_new, St.n_put, St.n_new, n_empty, Nat.zero_add, Nat.reduceAdd, Nat.reduceEqDiff, reduceIte, *]; (try rfl); done))); (focus rfl); (focus (simp only [List.drop_zero, List.drop_succ_cons, List.take_succ_cons, List.take_zero, List.take_nil]; (try rfl); done)))
        | (apply q_ext; (focus (first | exact wN | (apply wG; (simp only [lk, Nat.reduceEqDiff, reduceIte, e1, e3, e4, e5]; (try rfl); done)))); (focus (simp only [lk, Nat.reduceEqDiff, reduceIte, e1, e3, e4, e5]; (try rfl); done)); (focus rfl))
        | (apply q_skip rfl; (focus (simp only [lk, Nat.reduceEqDiff, reduceIte, e1, e3, e4, e5]; (try rfl); done)); (focus rfl); simp only [Env.put_some]))
    · refine ⟨_, ?_, trivial, i + 1, rfl, ?_⟩
      · omega
      simp only [lk, sv1, sv2, sv3, Nat.reduceEqDiff, Nat.reduceAdd, Nat.reduceLeDiff, reduceIte, if_false, if_true, mkVal, unLV, List.map, optTmps, true_and, wrap_succ (i := i) (n := N.length) (by omega) hN.len, *]
      refine ⟨by omega, fun j hj => ?_⟩
      rcases Nat.lt_succ_iff_lt_or_eq.1 hj with h | rfl
      · exact hall j h
      · exact ⟨by assumption, by assumption, fun k' hk' => hall2 k' (by omega)⟩
    · refine q_pure hG0 (greatest_ok) (by first | exact wN | (apply wG; (simp only [lk, Nat.reduceEqDiff, reduceIte, e1, e3, e4, e5]; (try rfl); done))) (by simp only [List.map, lk, Nat.reduceEqDiff, reduceIte, e1, e3, e4, e5]; try rfl) (by first | trivial | (simp only [Chks, wantedG, LOp.run, Env.put_some, Env.put_none, lk, sv1, sv2, sv3, Nat.reduceEqDiff, Nat.reduceAdd, Nat.reduceLeDiff, reduceIte, if_false, if_true, mkVal, unLV, List.map, optTmps, beq_self_eq_true, reduceCtorEq, false_or, true_and, and_true, Option.some.injEq, hR.getI, ints_get, *]; done)) ?_
      simp only [Env.put_some]
      repeat' (first
          | (apply qc_block)
          | (apply qc_seq)
          | (apply qc_skip; try simp only [Thn, Blkd, reduceIte, Nat.reduceEqDiff])
          | (apply qc_exit; try simp only [Thn, Blkd, reduceIte, Nat.reduceEqDiff, Nat.succ_ne_self])
          | (apply qc_ret; try simp only [Thn, Blkd, reduceIte, Nat.reduceEqDiff])
          | (apply qc_region hm)
          | (apply q_nil; try simp only [Thn, Blkd, reduceIte, Nat.reduceEqDiff])
          | (apply qc_condT; (focus (simp only [lk, Nat.reduceEqDiff, reduceIte, e1, e3, e4, e5]; (try rfl); done)))
          | (apply qc_condF; (focus (simp only [lk, Nat.reduceEqDiff, reduceIte, e1, e3, e4, e5]; (try rfl); done)))
          | (apply q_mv; (focus (first | exact wN | (apply wG; (simp only [lk, Nat.reduceEqDiff, reduceIte, e1, e3, e4, e5]; (try rfl); done)))); (focus (simp only [lk, Nat.reduceEqDiff, reduceIte, e1, e3, e4, e5]; (try rfl); done)))
          | (apply q_cmp; (focus (first | exact wN | (apply wG; (simp only [lk, Nat.reduceEqDiff, reduceIte, e1, e3, e4, e5]; (try rfl); done)))); (focus (simp only [lk, Nat.reduceEqDiff, reduceIte, e1, e3, e4, e5]; (try rfl); done)); (focus (simp only [lk, Nat.reduceEqDiff, reduceIte, e1, e3, e4, e5]; (try rfl); done)); (focus rfl); intro bb hbb; cases bb <;> (simp only [decide_eq_true_eq, decide_eq_false_iff_not, bne_iff_ne, beq_iff_eq, ne_eq, bne_eq_false_iff_eq, beq_eq_false_iff_ne, Int.not_lt, Int.not_le, gt_iff_lt, ge_iff_le, Bool.not_eq_true] at hbb))
          | (apply q_eq; (focus (first | exact wN | (apply wG; (simp only [lk, Nat.reduceEqDiff, reduceIte, e1, e3, e4, e5]; (try rfl); done)))); (focus (simp only [lk, Nat.reduceEqDiff, reduceIte, e1, e3, e4, e5]; (try rfl); done)); (focus (simp only [lk, Nat.reduceEqDiff, reduceIte, e1, e3, e4, e5]; (try rfl); done)); (focus rfl); intro bb hbb; cases bb <;> (try simp only [Bool.false_eq_true, if_false] at hbb))
          | (apply q_bin; (focus (first | exact wN | (apply wG; (simp only [lk, Nat.reduceEqDiff, reduceIte, e1, e3, e4, e5]; (try rfl); done)))); (focus (simp only [lk, Nat.reduceEqDiff, reduceIte, e1, e3, e4, e5]; (try rfl); done)); (focus (simp only [lk, Nat.reduceEqDiff, reduceIte, e1, e3, e4, e5]; (try rfl); done)); (focus rfl))
          | (apply q_faddr; (focus (first | exact wN | (apply wG; (simp only [lk, Nat.reduceEqDiff, reduceIte, e1, e3, e4, e5]; (try rfl); done)))); (focus (simp only [lk, Nat.reduceEqDiff, reduceIte, e1, e3, e4, e5]; (try rfl); done)))
          | (apply q_load; (focus (first | exact wN | (apply wG; (simp only [lk, Nat.reduceEqDiff, reduceIte, e1, e3, e4, e5]; (try rfl); done)))); (focus (simp only [lk, Nat.reduceEqDiff, reduceIte, e1, e3, e4, e5]; (try rfl); done)); (focus (first | rfl | (simp only [Nat.mul_one, Nat.zero_add, hN.sl.len, *]; (try rfl); done))))
          | (apply q_len; (focus (first | exact wN | (apply wG; (simp only [lk, Nat.reduceEqDiff, reduceIte, e1, e3, e4, e5]; (try rfl); done)))); (focus (simp only [lk, Nat.reduceEqDiff, reduceIte, e1, e3, e4, e5]; (try rfl); done)); (focus (first | rfl | (simp only [Nat.mul_one, Nat.zero_add, hN.sl.len, *]; (try rfl); done))))
          | (apply q_iaddr; (focus (first | exact wN | (apply wG; (simp only [lk, Nat.reduceEqDiff, reduceIte, e1, e3, e4, e5]; (try rfl); done)))); (focus (simp only [lk, Nat.reduceEqDiff, reduceIte, e1, e3, e4, e5]; (try rfl); done)); (focus (simp only [lk, Nat.reduceEqDiff, reduceIte, e1, e3, e4, e5]; (try rfl); done)); (focus (first | rfl | (simp only [Nat.mul_one, Nat.zero_add, hN.sl.len, *]; (try rfl); done))))
          | (apply q_max2; (focus (first | exact wN | (apply wG; (simp only [lk, Nat.reduceEqDiff, reduceIte, e1, e3, e4, e5]; (try rfl); done)))); (focus (simp only [lk, Nat.reduceEqDiff, reduceIte, e1, e3, e4, e5]; (try rfl); done)); (focus (simp only [lk, Nat.reduceEqDiff, reduceIte, e1, e3, e4, e5]; (try rfl); done)))
          | (apply q_min2; (focus (first | exact wN | (apply wG; (simp only [lk, Nat.reduceEqDiff, reduceIte, e1, e3, e4, e5]; (try rfl); done)))); (focus (simp only [lk, Nat.reduceEqDiff, reduceIte, e1, e3, e4, e5]; (try rfl); done)); (focus (simp only [lk, Nat.reduceEqDiff, reduceIte, e1, e3, e4, e5]; (try rfl); done)))
          | (apply q_not; (focus (first | exact wN | (apply wG; (simp only [lk, Nat.reduceEqDiff, reduceIte, e1, e3, e4, e5]; (try rfl); done)))); (focus (simp only [lk, Nat.reduceEqDiff, reduceIte, e1, e3, e4, e5]; (try rfl); done)))
          | (apply q_pickT; (focus (first | exact wN | (apply wG; (simp only [lk, Nat.reduceEqDiff, reduceIte, e1, e3, e4, e5]; (try rfl); done)))); (focus (simp only [lk, Nat.reduceEqDiff, reduceIte, e1, e3, e4, e5]; (try rfl); done)); (focus (simp only [lk, Nat.reduceEqDiff, reduceIte, e1, e3, e4, e5]; (try rfl); done)))
          | (apply q_pickF; (focus (first | exact wN | (apply wG; (simp only [lk, Nat.reduceEqDiff, reduceIte, e1, e3, e4, e5]; (try rfl); done)))); (focus (simp only [lk, Nat.reduceEqDiff, reduceIte, e1, e3, e4, e5]; (try rfl); done)); (focus (simp only [lk, Nat.reduceEqDiff, reduceIte, e1, e3, e4, e5]; (try rfl); done)))
          | (apply q_box; (focus (simp only [lk, Nat.reduceEqDiff, reduceIte, e1, e3, e4, e5]; (try rfl); done)); (focus assumption); (focus (simp only [List.all_cons, List.all_nil, isC_int, isC_bool, isC_str, Bool.and_self, *]; done)); (focus rfl))
          | (apply q_loadN; (focus (first | exact wN | (apply wG; (simp only [lk, Nat.reduceEqDiff, reduceIte, e1, e3, e4, e5]; (try rfl); done)))); (focus (simp only [lk, Nat.reduceEqDiff, reduceIte, e1, e3, e4, e5]; (try rfl); done)); (focus rfl); (focus (simp only [List.drop_zero, List.drop_succ_cons, List.take_succ_cons, List.take_zero, List.take_nil]; (try rfl); done)))
          | (apply q_alloc; (focus (first | exact wN | (apply wG; (simp only [lk, Nat.reduceEqDiff, reduceIte, e1, e3, e4, e5]; (try rfl); done)))); try simp only [n_empty, St.n_new, St.n_put, Nat.zero_add, Nat.reduceAdd])
          | (apply q_bslice0; (focus (first | exact wN | (apply wG; (simp only [lk, Nat.reduceEqDiff, reduceIte, e1, e3, e4, e5]; (try rfl); done)))); try simp only [n_empty, St.n_new, St.n_put, Nat.zero_add, Nat.reduceAdd])
          | (apply q_bslice1; (focus (first | exact wN | (apply wG; (simp only [lk, Nat.reduceEqDiff, reduceIte, e1, e3, e4, e5]; (try rfl); done)))); (focus (simp only [lk, Nat.reduceEqDiff, reduceIte, e1, e3, e4, e5]; (try rfl); done)); (focus (first | rfl | assumption | (simp only [isC_int, isC_sref, isC_nils, isC_simm, *]; done))); try simp only [n_empty, St.n_new, St.n_put, Nat.zero_add, Nat.reduceAdd])
          | (apply q_store; (focus (simp only [lk, Nat.reduceEqDiff, reduceIte, e1, e3, e4, e5]; (try rfl); done)); (focus (simp only [lk, Nat.reduceEqDiff, reduceIte, e1, e3, e4, e5]; (try rfl); done)); (focus (first | exact cells_cell (by assumption) | (simp only [cells_agg, cells_int, cells_bool, cells_str, cells_nils, cells_zs, cells_simm, cells_sref, cells_pref, cells_mref, isC_int, isC_bool, isC_str, isC_nils, isC_zs, isC_simm, isC_sref, List.all_cons, List.all_nil, Bool.and_self, if_true, *]; (try rfl); done))); (focus (first | (simp only [St.get_put, St.get_new, St.n_put, St.n_new, n_empty, Nat.zero_add, Nat.reduceAdd, Nat.reduceEqDiff, reduceIte, *]; (try rfl); done))); (focus rfl); (focus rfl); try simp only [splice, List.set_cons_zero, List.set_cons_succ])
          | (apply q_faddrR; (focus (first | exact wN | (apply wG; (simp only [lk, Nat.reduceEqDiff, reduceIte, e1, e3, e4, e5]; (try rfl); done)))); (focus (simp only [lk, Nat.reduceEqDiff, reduceIte, e1, e3, e4, e5]; (try rfl); done)))
          | (apply q_loadR; (focus (first | exact wN | (apply wG; (simp only [lk, Nat.reduceEqDiff, reduceIte, e1, e3, e4, e5]; (try rfl); done)))); (focus (simp only [lk, Nat.reduceEqDiff, reduceIte, e1, e3, e4, e5]; (try rfl); done)); (focus (first | (simp only [St.get_put, St.get_new, St.n_put, St.n_new, n_empty, Nat.zero_add, Nat.reduceAdd, Nat.reduceEqDiff, reduceIte, *]; (try rfl); done))); (focus (first | rfl | (simp only [Nat.mul_one, Nat.zero_add, hN.sl.len, *]; (try rfl); done))))
          | (apply q_loadRN; (focus (first | exact wN | (apply wG; (simp only [lk, Nat.reduceEqDiff, reduceIte, e1, e3, e4, e5]; (try rfl); done)))); (focus (simp only [lk, Nat.reduceEqDiff, reduceIte, e1, e3, e4, e5]; (try rfl); done)); (focus (first | (simp only [St.get_put, St.get_new, St.n_put, St.n_new, n_empty, Nat.zero_add, Nat.reduceAdd, Nat.reduceEqDiff, reduceIte, *]; (try rfl); done))); (focus rfl); (focus (simp only [List.drop_zero, List.drop_succ_cons, List.take_succ_cons, List.take_zero, List.take_nil]; (try rfl); done)))
          | (apply q_ext; (focus (first | exact wN | (apply wG; (simp only [lk, Nat.reduceEqDiff, reduceIte, e1, e3, e4, e5]; (try rfl); done)))); (focus (simp only [lk, Nat.reduceEqDiff, reduceIte, e1, e3, e4, e5]; (try rfl); done)); (focus rfl))
          | (apply q_skip rfl; (focus (simp only [lk, Nat.reduceEqDiff, reduceIte, e1, e3, e4, e5]; (try rfl); done)); (focus rfl); simp only [Env.put_some]))
      · refine ⟨_, ?_, trivial, k + 1, rfl, ?_⟩
        · omega
        simp only [lk, sv1, sv2, sv3, Nat.reduceEqDiff, Nat.reduceAdd, Nat.reduceLeDiff, reduceIte, if_false, if_true, mkVal, unLV, List.map, optTmps, true_and, wrap_succ (i := k) (n := 64) (by omega) (by decide), *]
        refine ⟨by omega, fun j hj => ?_⟩
        rcases Nat.lt_succ_iff_lt_or_eq.1 hj with h | rfl
        · exact hall2 j h
        · exact ⟨by assumption, by assumption, by assumption, by assumption⟩
      · refine ⟨.inr trivial, ?_⟩
        simp only [lk, sv1, sv2, sv3, Nat.reduceEqDiff, Nat.reduceAdd, Nat.reduceLeDiff, reduceIte, if_false, if_true, mkVal, unLV, List.map, optTmps]
        refine bool_f fun h => ?_
        have := ((h.2 i (by omega)).2.2 k (by omega)).2.2.2
        omega
    all_goals
      refine ⟨.inr trivial, ?_⟩
      simp only [lk, sv1, sv2, sv3, Nat.reduceEqDiff, Nat.reduceAdd, Nat.reduceLeDiff, reduceIte, if_false, if_true, mkVal, unLV, List.map, optTmps]
      refine bool_f fun h => ?_
      obtain ⟨u1, u2, u3, u4⟩ := (h.2 i (by omega)).2.2 k (by omega)
      omega
  · refine ⟨.inr trivial, ?_⟩
    simp only [lk, sv1, sv2, sv3, Nat.reduceEqDiff, Nat.reduceAdd, Nat.reduceLeDiff, reduceIte, if_false, if_true, mkVal, unLV, List.map, optTmps]
    refine bool_f fun h => ?_
    have := (h.2 i (by omega)).2.1
    omega
  · refine ⟨.inr trivial, ?_⟩
    simp only [lk, sv1, sv2, sv3, Nat.reduceEqDiff, Nat.reduceAdd, Nat.reduceLeDiff, reduceIte, if_false, if_true, mkVal, unLV, List.map, optTmps]
    refine bool_f fun h => ?_
    have := (h.2 i (by omega)).1
    omega
end Go.Proofs.Ytmfpcofncfhklaa
