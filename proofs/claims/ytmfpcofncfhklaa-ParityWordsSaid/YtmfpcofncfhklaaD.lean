/- What the program's check of an automaton answers, and the document's greatest priority. -/
import Derived.Test.YtmfpcofncfhklaaC
set_option linter.unusedSimpArgs false
set_option linter.unusedVariables false
namespace Go.Proofs.Ytmfpcofncfhklaa
open Go Go.Pv
open Classical

set_option maxHeartbeats 4000000 in
theorem pvalid_ok {L S : Int} {nx pr : LV} {N R : List (List Int)} {vN vR : List LV} (hN : IsRows nx N vN) (hR : IsRows pr R vR) : PO 11 [.agg [.int .i64 L, .int .i64 S, nx, pr]] (.bool (decide (PV L S N R))) := by
  have hcl : (LV.agg [.int .i64 L, .int .i64 S, nx, pr]).closed = true := by simp [LV.closed, LV.closed.closedAll, hN.closed, hR.closed]
  have hc1 := hN.sl.cell
  have hc2 := hR.sl.cell
  refine q_fn (t := 2) hm Try.func11 (by decide +kernel) c11 (Nat.le_of_ble_eq_true rfl) (by simp [LV.closed.closedAll, hcl]) rfl rfl ?_
  have h0 : (envOf [LV.agg [.int .i64 L, .int .i64 S, nx, pr]]).at 0 = .agg [.int .i64 L, .int .i64 S, nx, pr] := by rw [envOf_at]; rfl
  generalize envOf [LV.agg [.int .i64 L, .int .i64 S, nx, pr]] = e at *
  unfold l11
  dsimp only
  repeat' (first
      | (apply qc_block)
      | (apply qc_seq)
      | (apply qc_skip; try simp only [Thn, Blkd, reduceIte, Nat.reduceEqDiff])
      | (apply qc_exit; try simp only [Thn, Blkd, reduceIte, Nat.reduceEqDiff, Nat.succ_ne_self])
      | (apply qc_ret; try simp only [Thn, Blkd, reduceIte, Nat.reduceEqDiff])
      | (apply qc_region hm)
      | (apply q_nil; try simp only [Thn, Blkd, reduceIte, Nat.reduceEqDiff])
      | (apply qc_condT; (focus (simp only [lk, Nat.reduceEqDiff, reduceIte, h0]; (try rfl); done)))
      | (apply qc_condF; (focus (simp only [lk, Nat.reduceEqDiff, reduceIte, h0]; (try rfl); done)))
      | (apply q_mv; (focus (first | exact wN | (apply wG; (simp only [lk, Nat.reduceEqDiff, reduceIte, h0]; (try rfl); done)))); (focus (simp only [lk, Nat.reduceEqDiff, reduceIte, h0]; (try rfl); done)))
      | (apply q_cmp; (focus (first | exact wN | (apply wG; (simp only [lk, Nat.reduceEqDiff, reduceIte, h0]; (try rfl); done)))); (focus (simp only [lk, Nat.reduceEqDiff, reduceIte, h0]; (try rfl); done)); (focus (simp only [lk, Nat.reduceEqDiff, reduceIte, h0]; (try rfl); done)); (focus rfl); intro bb hbb; cases bb <;> (simp only [decide_eq_true_eq, decide_eq_false_iff_not, bne_iff_ne, beq_iff_eq, ne_eq, bne_eq_false_iff_eq, beq_eq_false_iff_ne, Int.not_lt, Int.not_le, gt_iff_lt, ge_iff_le, Bool.not_eq_true] at hbb))
      | (apply q_eq; (focus (first | exact wN | (apply wG; (simp only [lk, Nat.reduceEqDiff, reduceIte, h0]; (try rfl); done)))); (focus (simp only [lk, Nat.reduceEqDiff, reduceIte, h0]; (try rfl); done)); (focus (simp only [lk, Nat.reduceEqDiff, reduceIte, h0]; (try rfl); done)); (focus rfl); intro bb hbb; cases bb <;> (try simp only [Bool.false_eq_true, if_false] at hbb))
      | (apply q_bin; (focus (first | exact wN | (apply wG; (simp only [lk, Nat.reduceEqDiff, reduceIte, h0]; (try rfl); done)))); (focus (simp only [lk, Nat.reduceEqDiff, reduceIte, h0]; (try rfl); done)); (focus (simp only [lk, Nat.reduceEqDiff, reduceIte, h0]; (try rfl); done)); (focus rfl))
      | (apply q_faddr; (focus (first | exact wN | (apply wG; (simp only [lk, Nat.reduceEqDiff, reduceIte, h0]; (try rfl); done)))); (focus (simp only [lk, Nat.reduceEqDiff, reduceIte, h0]; (try rfl); done)))
      | (apply q_load; (focus (first | exact wN | (apply wG; (simp only [lk, Nat.reduceEqDiff, reduceIte, h0]; (try rfl); done)))); (focus (simp only [lk, Nat.reduceEqDiff, reduceIte, h0]; (try rfl); done)); (focus (first | rfl | (simp only [Nat.mul_one, Nat.zero_add, hN.sl.len, hR.sl.len, *]; (try rfl); done))))
      | (apply q_len; (focus (first | exact wN | (apply wG; (simp only [lk, Nat.reduceEqDiff, reduceIte, h0]; (try rfl); done)))); (focus (simp only [lk, Nat.reduceEqDiff, reduceIte, h0]; (try rfl); done)); (focus (first | rfl | (simp only [Nat.mul_one, Nat.zero_add, hN.sl.len, hR.sl.len, *]; (try rfl); done))))
      | (apply q_iaddr; (focus (first | exact wN | (apply wG; (simp only [lk, Nat.reduceEqDiff, reduceIte, h0]; (try rfl); done)))); (focus (simp only [lk, Nat.reduceEqDiff, reduceIte, h0]; (try rfl); done)); (focus (simp only [lk, Nat.reduceEqDiff, reduceIte, h0]; (try rfl); done)); (focus (first | rfl | (simp only [Nat.mul_one, Nat.zero_add, hN.sl.len, hR.sl.len, *]; (try rfl); done))))
      | (apply q_max2; (focus (first | exact wN | (apply wG; (simp only [lk, Nat.reduceEqDiff, reduceIte, h0]; (try rfl); done)))); (focus (simp only [lk, Nat.reduceEqDiff, reduceIte, h0]; (try rfl); done)); (focus (simp only [lk, Nat.reduceEqDiff, reduceIte, h0]; (try rfl); done)))
      | (apply q_min2; (focus (first | exact wN | (apply wG; (simp only [lk, Nat.reduceEqDiff, reduceIte, h0]; (try rfl); done)))); (focus (simp only [lk, Nat.reduceEqDiff, reduceIte, h0]; (try rfl); done)); (focus (simp only [lk, Nat.reduceEqDiff, reduceIte, h0]; (try rfl); done)))
      | (apply q_not; (focus (first | exact wN | (apply wG; (simp only [lk, Nat.reduceEqDiff, reduceIte, h0]; (try rfl); done)))); (focus (simp only [lk, Nat.reduceEqDiff, reduceIte, h0]; (try rfl); done)))
      | (apply q_pickT; (focus (first | exact wN | (apply wG; (simp only [lk, Nat.reduceEqDiff, reduceIte, h0]; (try rfl); done)))); (focus (simp only [lk, Nat.reduceEqDiff, reduceIte, h0]; (try rfl); done)); (focus (simp only [lk, Nat.reduceEqDiff, reduceIte, h0]; (try rfl); done)))
      | (apply q_pickF; (focus (first | exact wN | (apply wG; (simp only [lk, Nat.reduceEqDiff, reduceIte, h0]; (try rfl); done)))); (focus (simp only [lk, Nat.reduceEqDiff, reduceIte, h0]; (try rfl); done)); (focus (simp only [lk, Nat.reduceEqDiff, reduceIte, h0]; (try rfl); done)))
      | (apply q_box; (focus (simp only [lk, Nat.reduceEqDiff, reduceIte, h0]; (try rfl); done)); (focus assumption); (focus (simp only [List.all_cons, List.all_nil, isC_int, isC_bool, isC_str, Bool.and_self, *]; done)); (focus rfl))
      | (apply q_loadN; (focus (first | exact wN | (apply wG; (simp only [lk, Nat.reduceEqDiff, reduceIte, h0]; (try rfl); done)))); (focus (simp only [lk, Nat.reduceEqDiff, reduceIte, h0]; (try rfl); done)); (focus rfl); (focus (simp only [List.drop_zero, List.drop_succ_cons, List.take_succ_cons, List.take_zero, List.take_nil]; (try rfl); done)))
      | (apply q_alloc; (focus (first | exact wN | (apply wG; (simp only [lk, Nat.reduceEqDiff, reduceIte, h0]; (try rfl); done)))); try simp only [n_empty, St.n_new, St.n_put, Nat.zero_add, Nat.reduceAdd])
      | (apply q_bslice0; (focus (first | exact wN | (apply wG; (simp only [lk, Nat.reduceEqDiff, reduceIte, h0]; (try rfl); done)))); try simp only [n_empty, St.n_new, St.n_put, Nat.zero_add, Nat.reduceAdd])
      | (apply q_bslice1; (focus (first | exact wN | (apply wG; (simp only [lk, Nat.reduceEqDiff, reduceIte, h0]; (try rfl); done)))); (focus (simp only [lk, Nat.reduceEqDiff, reduceIte, h0]; (try rfl); done)); (focus (first | rfl | assumption | (simp only [isC_int, isC_sref, isC_nils, isC_simm, *]; done))); try simp only [n_empty, St.n_new, St.n_put, Nat.zero_add, Nat.reduceAdd])
      | (apply q_store; (focus (simp only [lk, Nat.reduceEqDiff, reduceIte, h0]; (try rfl); done)); (focus (simp only [lk, Nat.reduceEqDiff, reduceIte, h0]; (try rfl); done)); (focus (first | exact cells_cell (by assumption) | (simp only [cells_agg, cells_int, cells_bool, cells_str, cells_nils, cells_zs, cells_simm, cells_sref, cells_pref, cells_mref, isC_int, isC_bool, isC_str, isC_nils, isC_zs, isC_simm, isC_sref, List.all_cons, List.all_nil, Bool.and_self, if_true, *]; (try rfl); done))); (focus (first | (simp only [St.get_put, St.get_new, St.n_put, St.n_new, n_empty, Nat.zero_add, Nat.reduceAdd, Nat.reduceEqDiff, reduceIte, *]; (try rfl); done))); (focus rfl); (focus rfl); try simp only [splice, List.set_cons_zero, List.set_cons_succ])
      | (apply q_faddrR; (focus (first | exact wN | (apply wG; (simp only [lk, Nat.reduceEqDiff, reduceIte, h0]; (try rfl); done)))); (focus (simp only [lk, Nat.reduceEqDiff, reduceIte, h0]; (try rfl); done)))
      | (apply q_loadR; (focus (first | exact wN | (apply wG; (simp only [lk, Nat.reduceEqDiff, reduceIte, h0]; (try rfl); done)))); (focus (simp only [lk, Nat.reduceEqDiff, reduceIte, h0]; (try rfl); done)); (focus (first | (simp only [St.get_put, St.get_new, St.n_put, St.n_new, n_empty, Nat.zero_add, Nat.reduceAdd, Nat.reduceEqDiff, reduceIte, *]; (try rfl); done))); (focus (first | rfl | (simp only [Nat.mul_one, Nat.zero_add, hN.sl.len, hR.sl.len, *]; (try rfl); done))))
      | (apply q_loadRN; (focus (first | exact wN | (apply wG; (simp only [lk, Nat.reduceEqDiff, reduceIte, h0]; (try rfl); done)))); (focus (simp only [lk, Nat.reduceEqDiff, reduceIte, h0]; (try rfl); done)); (focus (first | (simp only [St.get_put, St.get_new, St.n_put, St.n_new, n_empty, Nat.zero_add, Nat.reduceAdd, Nat.reduceEqDiff, reduceIte, *]; (try rfl); done))); (focus rfl); (focus (simp only [List.drop_zero, List.drop_succ_cons, List.take_succ_cons, List.take_zero, List.take_nil]; (try rfl); done)))
      | (apply q_ext; (focus (first | exact wN | (apply wG; (simp only [lk, Nat.reduceEqDiff, reduceIte, h0]; (try rfl); done)))); (focus (simp only [lk, Nat.reduceEqDiff, reduceIte, h0]; (try rfl); done)); (focus rfl))
      | (apply q_skip rfl; (focus (simp only [lk, Nat.reduceEqDiff, reduceIte, h0]; (try rfl); done)); (focus rfl); simp only [Env.put_some]))
  all_goals first
    | (refine ⟨.inr trivial, ?_⟩
       simp only [lk, sv1, sv2, sv3, Nat.reduceEqDiff, Nat.reduceAdd, Nat.reduceLeDiff, reduceIte, if_false, if_true, mkVal, unLV, List.map, optTmps]
       refine bool_f fun h => ?_
       have := h.1
       omega)
    | skip
  refine qc_loop (fun n e s => s = St.empty ∧ ∃ i : Nat, n = N.length - i ∧ i ≤ N.length ∧ e.at 1 = .pimm [.int .i64 L, .int .i64 S, nx, pr] 0 ∧ e.at 3 = .int .i64 (N.length : Int) ∧ e.at 46 = nx ∧ e.at 47 = .int .i64 (N.length : Int) ∧ e.at 48 = .int .i64 (i : Int) ∧ ∀ j, j < i → RowOk N R L j) N.length ⟨rfl, 0, by simp, by simp, by simp, by simp, by simp, by simp, by simp, fun j hj => absurd hj (Nat.not_lt_zero _)⟩ ?_
  rintro n e s ⟨rfl, i, rfl, hi, e1, e3, e46, e47, e48, hall⟩
  repeat' (first
      | (apply qc_block)
      | (apply qc_seq)
      | (apply qc_skip; try simp only [Thn, Blkd, reduceIte, Nat.reduceEqDiff])
      | (apply qc_exit; try simp only [Thn, Blkd, reduceIte, Nat.reduceEqDiff, Nat.succ_ne_self])
      | (apply qc_ret; try simp only [Thn, Blkd, reduceIte, Nat.reduceEqDiff])
      | (apply qc_region hm)
      | (apply q_nil; try simp only [Thn, Blkd, reduceIte, Nat.reduceEqDiff])
      | (apply qc_condT; (focus (simp only [lk, Nat.reduceEqDiff, reduceIte, e1, e3, e46, e47, e48]; (try rfl); done)))
      | (apply qc_condF; (focus (simp only [lk, Nat.reduceEqDiff, reduceIte, e1, e3, e46, e47, e48]; (try rfl); done)))
      | (apply q_mv; (focus (first | exact wN | (apply wG; (simp only [lk, Nat.reduceEqDiff, reduceIte, e1, e3, e46, e47, e48]; (try rfl); done)))); (focus (simp only [lk, Nat.reduceEqDiff, reduceIte, e1, e3, e46, e47, e48]; (try rfl); done)))
      | (apply q_cmp; (focus (first | exact wN | (apply wG; (simp only [lk, Nat.reduceEqDiff, reduceIte, e1, e3, e46, e47, e48]; (try rfl); done)))); (focus (simp only [lk, Nat.reduceEqDiff, reduceIte, e1, e3, e46, e47, e48]; (try rfl); done)); (focus (simp only [lk, Nat.reduceEqDiff, reduceIte, e1, e3, e46, e47, e48]; (try rfl); done)); (focus rfl); intro bb hbb; cases bb <;> (simp only [decide_eq_true_eq, decide_eq_false_iff_not, bne_iff_ne, beq_iff_eq, ne_eq, bne_eq_false_iff_eq, beq_eq_false_iff_ne, Int.not_lt, Int.not_le, gt_iff_lt, ge_iff_le, Bool.not_eq_true] at hbb))
      | (apply q_eq; (focus (first | exact wN | (apply wG; (simp only [lk, Nat.reduceEqDiff, reduceIte, e1, e3, e46, e47, e48]; (try rfl); done)))); (focus (simp only [lk, Nat.reduceEqDiff, reduceIte, e1, e3, e46, e47, e48]; (try rfl); done)); (focus (simp only [lk, Nat.reduceEqDiff, reduceIte, e1, e3, e46, e47, e48]; (try rfl); done)); (focus rfl); intro bb hbb; cases bb <;> (try simp only [Bool.false_eq_true, if_false] at hbb))
      | (apply q_bin; (focus (first | exact wN | (apply wG; (simp only [lk, Nat.reduceEqDiff, reduceIte, e1, e3, e46, e47, e48]; (try rfl); done)))); (focus (simp only [lk, Nat.reduceEqDiff, reduceIte, e1, e3, e46, e47, e48]; (try rfl); done)); (focus (simp only [lk, Nat.reduceEqDiff, reduceIte, e1, e3, e46, e47, e48]; (try rfl); done)); (focus rfl))
      | (apply q_faddr; (focus (first | exact wN | (apply wG; (simp only [lk, Nat.reduceEqDiff, reduceIte, e1, e3, e46, e47, e48]; (try rfl); done)))); (focus (simp only [lk, Nat.reduceEqDiff, reduceIte, e1, e3, e46, e47, e48]; (try rfl); done)))
      | (apply q_load; (focus (first | exact wN | (apply wG; (simp only [lk, Nat.reduceEqDiff, reduceIte, e1, e3, e46, e47, e48]; (try rfl); done)))); (focus (simp only [lk, Nat.reduceEqDiff, reduceIte, e1, e3, e46, e47, e48]; (try rfl); done)); (focus (first | rfl | (simp only [Nat.mul_one, Nat.zero_add, hN.sl.len, hR.sl.len, iaN hN.sl, iaN hR.sl, hN.getI, hN.rlen, hR.getI, hR.rlen, *]; (try rfl); done))))
      | (apply q_len; (focus (first | exact wN | (apply wG; (simp only [lk, Nat.reduceEqDiff, reduceIte, e1, e3, e46, e47, e48]; (try rfl); done)))); (focus (simp only [lk, Nat.reduceEqDiff, reduceIte, e1, e3, e46, e47, e48]; (try rfl); done)); (focus (first | rfl | (simp only [Nat.mul_one, Nat.zero_add, hN.sl.len, hR.sl.len, iaN hN.sl, iaN hR.sl, hN.getI, hN.rlen, hR.getI, hR.rlen, *]; (try rfl); done))))
      | (apply q_iaddr; (focus (first | exact wN | (apply wG; (simp only [lk, Nat.reduceEqDiff, reduceIte, e1, e3, e46, e47, e48]; (try rfl); done)))); (focus (simp only [lk, Nat.reduceEqDiff, reduceIte, e1, e3, e46, e47, e48]; (try rfl); done)); (focus (simp only [lk, Nat.reduceEqDiff, reduceIte, e1, e3, e46, e47, e48]; (try rfl); done)); (focus (first | rfl | (simp only [Nat.mul_one, Nat.zero_add, hN.sl.len, hR.sl.len, iaN hN.sl, iaN hR.sl, hN.getI, hN.rlen, hR.getI, hR.rlen, *]; (try rfl); done))))
      | (apply q_max2; (focus (first | exact wN | (apply wG; (simp only [lk, Nat.reduceEqDiff, reduceIte, e1, e3, e46, e47, e48]; (try rfl); done)))); (focus (simp only [lk, Nat.reduceEqDiff, reduceIte, e1, e3, e46, e47, e48]; (try rfl); done)); (focus (simp only [lk, Nat.reduceEqDiff, reduceIte, e1, e3, e46, e47, e48]; (try rfl); done)))
      | (apply q_min2; (focus (first | exact wN | (apply wG; (simp only [lk, Nat.reduceEqDiff, reduceIte, e1, e3, e46, e47, e48]; (try rfl); done)))); (focus (simp only [lk, Nat.reduceEqDiff, reduceIte, e1, e3, e46, e47, e48]; (try rfl); done)); (focus (simp only [lk, Nat.reduceEqDiff, reduceIte, e1, e3, e46, e47, e48]; (try rfl); done)))
      | (apply q_not; (focus (first | exact wN | (apply wG; (simp only [lk, Nat.reduceEqDiff, reduceIte, e1, e3, e46, e47, e48]; (try rfl); done)))); (focus (simp only [lk, Nat.reduceEqDiff, reduceIte, e1, e3, e46, e47, e48]; (try rfl); done)))
      | (apply q_pickT; (focus (first | exact wN | (apply wG; (simp only [lk, Nat.reduceEqDiff, reduceIte, e1, e3, e46, e47, e48]; (try rfl); done)))); (focus (simp only [lk, Nat.reduceEqDiff, reduceIte, e1, e3, e46, e47, e48]; (try rfl); done)); (focus (simp only [lk, Nat.reduceEqDiff, reduceIte, e1, e3, e46, e47, e48]; (try rfl); done)))
      | (apply q_pickF; (focus (first | exact wN | (apply wG; (simp only [lk, Nat.reduceEqDiff, reduceIte, e1, e3, e46, e47, e48]; (try rfl); done)))); (focus (simp only [lk, Nat.reduceEqDiff, reduceIte, e1, e3, e46, e47, e48]; (try rfl); done)); (focus (simp only [lk, Nat.reduceEqDiff, reduceIte, e1, e3, e46, e47, e48]; (try rfl); done)))
      | (apply q_box; (focus (simp only [lk, Nat.reduceEqDiff, reduceIte, e1, e3, e46, e47, e48]; (try rfl); done)); (focus assumption); (focus (simp only [List.all_cons, List.all_nil, isC_int, isC_bool, isC_str, Bool.and_self, *]; done)); (focus rfl))
      | (apply q_loadN; (focus (first | exact wN | (apply wG; (simp only [lk, Nat.reduceEqDiff, reduceIte, e1, e3, e46, e47, e48]; (try rfl); done)))); (focus (simp only [lk, Nat.reduceEqDiff, reduceIte, e1, e3, e46, e47, e48]; (try rfl); done)); (focus rfl); (focus (simp only [List.drop_zero, List.drop_succ_cons, List.take_succ_cons, List.take_zero, List.take_nil]; (try rfl); done)))
      | (apply q_alloc; (focus (first | exact wN | (apply wG; (simp only [lk, Nat.reduceEqDiff, reduceIte, e1, e3, e46, e47, e48]; (try rfl); done)))); try simp only [n_empty, St.n_new, St.n_put, Nat.zero_add, Nat.reduceAdd])
      | (apply q_bslice0; (focus (first | exact wN | (apply wG; (simp only [lk, Nat.reduceEqDiff, reduceIte, e1, e3, e46, e47, e48]; (try rfl); done)))); try simp only [n_empty, St.n_new, St.n_put, Nat.zero_add, Nat.reduceAdd])
      | (apply q_bslice1; (focus (first | exact wN | (apply wG; (simp only [lk, Nat.reduceEqDiff, reduceIte, e1, e3, e46, e47, e48]; (try rfl); done)))); (focus (simp only [lk, Nat.reduceEqDiff, reduceIte, e1, e3, e46, e47, e48]; (try rfl); done)); (focus (first | rfl | assumption | (simp only [isC_int, isC_sref, isC_nils, isC_simm, *]; done))); try simp only [n_empty, St.n_new, St.n_put, Nat.zero_add, Nat.reduceAdd])
      | (apply q_store; (focus (simp only [lk, Nat.reduceEqDiff, reduceIte, e1, e3, e46, e47, e48]; (try rfl); done)); (focus (simp only [lk, Nat.reduceEqDiff, reduceIte, e1, e3, e46, e47, e48]; (try rfl); done)); (focus (first | exact cells_cell (by assumption) | (simp only [cells_agg, cells_int, cells_bool, cells_str, cells_nils, cells_zs, cells_simm, cells_sref, cells_pref, cells_mref, isC_int, isC_bool, isC_str, isC_nils, isC_zs, isC_simm, isC_sref, List.all_cons, List.all_nil, Bool.and_self, if_true, *]; (try rfl); done))); (focus (first | (simp only [St.get_put, St.get_new, St.n_put, St.n_new, n_empty, Nat.zero_add, Nat.reduceAdd, Nat.reduceEqDiff, reduceIte, *]; (try rfl); done))); (focus rfl); (focus rfl); try simp only [splice, List.set_cons_zero, List.set_cons_succ])
      | (apply q_faddrR; (focus (first | exact wN | (apply wG; (simp only [lk, Nat.reduceEqDiff, reduceIte, e1, e3, e46, e47, e48]; (try rfl); done)))); (focus (simp only [lk, Nat.reduceEqDiff, reduceIte, e1, e3, e46, e47, e48]; (try rfl); done)))
      | (apply q_loadR; (focus (first | exact wN | (apply wG; (simp only [lk, Nat.reduceEqDiff, reduceIte, e1, e3, e46, e47, e48]; (try rfl); done)))); (focus (simp only [lk, Nat.reduceEqDiff, reduceIte, e1, e3, e46, e47, e48]; (try rfl); done)); (focus (first | (simp only [St.get_put, St.get_new, St.n_put, St.n_new, n_empty, Nat.zero_add, Nat.reduceAdd, Nat.reduceEqDiff, reduceIte, *]; (try rfl); done))); (focus (first | rfl | (simp only [Nat.mul_one, Nat.zero_add, hN.sl.len, hR.sl.len, iaN hN.sl, iaN hR.sl, hN.getI, hN.rlen, hR.getI, hR.rlen, *]; (try rfl); done))))
      | (apply q_loadRN; (focus (first | exact wN | (apply wG; (simp only [lk, Nat.reduceEqDiff, reduceIte, e1, e3, e46, e47, e48]; (try rfl); done)))); (focus (simp only [lk, Nat.reduceEqDiff, reduceIte, e1, e3, e46, e47, e48]; (try rfl); done)); (focus (first | (simp only [St.get_put, St.get_new, St.n_put, St.n_new, n_empty, Nat.zero_add, Nat.reduceAdd, Nat.reduceEqDiff, reduceIte, *]; (try rfl); done))); (focus rfl); (focus (simp only [List.drop_zero, List.drop_succ_cons, List.take_succ_cons, List.take_zero, List.take_nil]; (try rfl); done)))
      | (apply q_ext; (focus (first | exact wN | (apply wG; (simp only [lk, Nat.reduceEqDiff, reduceIte, e1, e3, e46, e47, e48]; (try rfl); done)))); (focus (simp only [lk, Nat.reduceEqDiff, reduceIte, e1, e3, e46, e47, e48]; (try rfl); done)); (focus rfl))
      | (apply q_skip rfl; (focus (simp only [lk, Nat.reduceEqDiff, reduceIte, e1, e3, e46, e47, e48]; (try rfl); done)); (focus rfl); simp only [Env.put_some]))
  · refine ⟨.inr trivial, ?_⟩
    simp only [lk, sv1, sv2, sv3, Nat.reduceEqDiff, Nat.reduceAdd, Nat.reduceLeDiff, reduceIte, if_false, if_true, mkVal, unLV, List.map, optTmps]
    exact bool_t ⟨by omega, fun j hj => hall j (by omega)⟩
  · rename_i hb1 hb2
    refine qc_loop (fun n e s => s = St.empty ∧ ∃ k : Nat, n = L.toNat - k ∧ (k : Int) ≤ L ∧ e.at 1 = .pimm [.int .i64 L, .int .i64 S, nx, pr] 0 ∧ e.at 3 = .int .i64 (N.length : Int) ∧ e.at 4 = .int .i64 (i : Int) ∧ e.at 46 = nx ∧ e.at 47 = .int .i64 (N.length : Int) ∧ e.at 48 = .int .i64 (i : Int) ∧ e.at 69 = vN.getD i .top ∧ e.at 70 = .int .i64 L ∧ e.at 71 = .int .i64 (k : Int) ∧ ∀ j, j < k → Ent N R i j) L.toNat
      ⟨rfl, 0, by simp, by omega, by simp [e1], by simp [e3], by simp, by simp [e46], by simp [e47], by simp [e48], by simp, by simp only [lk, sv1, sv2, sv3, Nat.reduceEqDiff, Nat.reduceAdd, Nat.reduceLeDiff, reduceIte, if_false, if_true, mkVal, unLV, List.map, optTmps, *], by simp, fun j hj => absurd hj (Nat.not_lt_zero _)⟩ ?_
    rintro n e s ⟨rfl, k, rfl, hk, e1, e3, e4, e46, e47, e48, e69, e70, e71, hall2⟩
    repeat' (first
        | (apply qc_block)
        | (apply qc_seq)
        | (apply qc_skip; try simp only [Thn, Blkd, reduceIte, Nat.reduceEqDiff])
        | (apply qc_exit; try simp only [Thn, Blkd, reduceIte, Nat.reduceEqDiff, Nat.succ_ne_self])
        | (apply qc_ret; try simp only [Thn, Blkd, reduceIte, Nat.reduceEqDiff])
        | (apply qc_region hm)
        | (apply q_nil; try simp only [Thn, Blkd, reduceIte, Nat.reduceEqDiff])
        | (apply qc_condT; (focus (simp only [lk, Nat.reduceEqDiff, reduceIte, e1, e3, e4, e46, e47, e48, e69, e70, e71]; (try rfl); done)))
        | (apply qc_condF; (focus (simp only [lk, Nat.reduceEqDiff, reduceIte, e1, e3, e4, e46, e47, e48, e69, e70, e71]; (try rfl); done)))
        | (apply q_mv; (focus (first | exact wN | (apply wG; (simp only [lk, Nat.reduceEqDiff, reduceIte, e1, e3, e4, e46, e47, e48, e69, e70, e71]; (try rfl); done)))); (focus (simp only [lk, Nat.reduceEqDiff, reduceIte, e1, e3, e4, e46, e47, e48, e69, e70, e71]; (try rfl); done)))
        | (apply q_cmp; (focus (first | exact wN | (apply wG; (simp only [lk, Nat.reduceEqDiff, reduceIte, e1, e3, e4, e46, e47, e48, e69, e70, e71]; (try rfl); done)))); (focus (simp only [lk, Nat.reduceEqDiff, reduceIte, e1, e3, e4, e46, e47, e48, e69, e70, e71]; (try rfl); done)); (focus (simp only [lk, Nat.reduceEqDiff, reduceIte, e1, e3, e4, e46, e47, e48, e69, e70, e71]; (try rfl); done)); (focus rfl); intro bb hbb; cases bb <;> (simp only [decide_eq_true_eq, decide_eq_false_iff_not, bne_iff_ne, beq_iff_eq, ne_eq, bne_eq_false_iff_eq, beq_eq_false_iff_ne, Int.not_lt, Int.not_le, gt_iff_lt, ge_iff_le, Bool.not_eq_true] at hbb))
        | (apply q_eq; (focus (first | exact wN | (apply wG; (simp only [lk, Nat.reduceEqDiff, reduceIte, e1, e3, e4, e46, e47, e48, e69, e70, e71]; (try rfl); done)))); (focus (simp only [lk, Nat.reduceEqDiff, reduceIte, e1, e3, e4, e46, e47, e48, e69, e70, e71]; (try rfl); done)); (focus (simp only [lk, Nat.reduceEqDiff, reduceIte, e1, e3, e4, e46, e47, e48, e69, e70, e71]; (try rfl); done)); (focus rfl); intro bb hbb; cases bb <;> (try simp only [Bool.false_eq_true, if_false] at hbb))
        | (apply q_bin; (focus (first | exact wN | (apply wG; (simp only [lk, Nat.reduceEqDiff, reduceIte, e1, e3, e4, e46, e47, e48, e69, e70, e71]; (try rfl); done)))); (focus (simp only [lk, Nat.reduceEqDiff, reduceIte, e1, e3, e4, e46, e47, e48, e69, e70, e71]; (try rfl); done)); (focus (simp only [lk, Nat.reduceEqDiff, reduceIte, e1, e3, e4, e46, e47, e48, e69, e70, e71]; (try rfl); done)); (focus rfl))
        | (apply q_faddr; (focus (first | exact wN | (apply wG; (simp only [lk, Nat.reduceEqDiff, reduceIte, e1, e3, e4, e46, e47, e48, e69, e70, e71]; (try rfl); done)))); (focus (simp only [lk, Nat.reduceEqDiff, reduceIte, e1, e3, e4, e46, e47, e48, e69, e70, e71]; (try rfl); done)))
        | (apply q_load; (focus (first | exact wN | (apply wG; (simp only [lk, Nat.reduceEqDiff, reduceIte, e1, e3, e4, e46, e47, e48, e69, e70, e71]; (try rfl); done)))); (focus (simp only [lk, Nat.reduceEqDiff, reduceIte, e1, e3, e4, e46, e47, e48, e69, e70, e71]; (try rfl); done)); (focus (first | rfl | (simp only [Nat.mul_one, Nat.zero_add, hN.sl.len, hR.sl.len, iaN hN.sl, iaN hR.sl, hN.getI, hN.rlen, hN.ria, hR.getI, hR.rlen, hR.ria, ints_get, *]; (try rfl); done))))
        | (apply q_len; (focus (first | exact wN | (apply wG; (simp only [lk, Nat.reduceEqDiff, reduceIte, e1, e3, e4, e46, e47, e48, e69, e70, e71]; (try rfl); done)))); (focus (simp only [lk, Nat.reduceEqDiff, reduceIte, e1, e3, e4, e46, e47, e48, e69, e70, e71]; (try rfl); done)); (focus (first | rfl | (simp only [Nat.mul_one, Nat.zero_add, hN.sl.len, hR.sl.len, iaN hN.sl, iaN hR.sl, hN.getI, hN.rlen, hN.ria, hR.getI, hR.rlen, hR.ria, ints_get, *]; (try rfl); done))))
        | (apply q_iaddr; (focus (first | exact wN | (apply wG; (simp only [lk, Nat.reduceEqDiff, reduceIte, e1, e3, e4, e46, e47, e48, e69, e70, e71]; (try rfl); done)))); (focus (simp only [lk, Nat.reduceEqDiff, reduceIte, e1, e3, e4, e46, e47, e48, e69, e70, e71]; (try rfl); done)); (focus (simp only [lk, Nat.reduceEqDiff, reduceIte, e1, e3, e4, e46, e47, e48, e69, e70, e71]; (try rfl); done)); (focus (first | rfl | (simp only [Nat.mul_one, Nat.zero_add, hN.sl.len, hR.sl.len, iaN hN.sl, iaN hR.sl, hN.getI, hN.rlen, hN.ria, hR.getI, hR.rlen, hR.ria, ints_get, *]; (try rfl); done))))
        | (apply q_max2; (focus (first | exact wN | (apply wG; (simp only [lk, Nat.reduceEqDiff, reduceIte, e1, e3, e4, e46, e47, e48, e69, e70, e71]; (try rfl); done)))); (focus (simp only [lk, Nat.reduceEqDiff, reduceIte, e1, e3, e4, e46, e47, e48, e69, e70, e71]; (try rfl); done)); (focus (simp only [lk, Nat.reduceEqDiff, reduceIte, e1, e3, e4, e46, e47, e48, e69, e70, e71]; (try rfl); done)))
        | (apply q_min2; (focus (first | exact wN | (apply wG; (simp only [lk, Nat.reduceEqDiff, reduceIte, e1, e3, e4, e46, e47, e48, e69, e70, e71]; (try rfl); done)))); (focus (simp only [lk, Nat.reduceEqDiff, reduceIte, e1, e3, e4, e46, e47, e48, e69, e70, e71]; (try rfl); done)); (focus (simp only [lk, Nat.reduceEqDiff, reduceIte, e1, e3, e4, e46, e47, e48, e69, e70, e71]; (try rfl); done)))
        | (apply q_not; (focus (first | exact wN | (apply wG; (simp only [lk, Nat.reduceEqDiff, reduceIte, e1, e3, e4, e46, e47, e48, e69, e70, e71]; (try rfl); done)))); (focus (simp only [lk, Nat.reduceEqDiff, reduceIte, e1, e3, e4, e46, e47, e48, e69, e70, e71]; (try rfl); done)))
        | (apply q_pickT; (focus (first | exact wN | (apply wG; (simp only [lk, Nat.reduceEqDiff, reduceIte, e1, e3, e4, e46, e47, e48, e69, e70, e71]; (try rfl); done)))); (focus (simp only [lk, Nat.reduceEqDiff, reduceIte, e1, e3, e4, e46, e47, e48, e69, e70, e71]; (try rfl); done)); (focus (simp only [lk, Nat.reduceEqDiff, reduceIte, e1, e3, e4, e46, e47, e48, e69, e70, e71]; (try rfl); done)))
        | (apply q_pickF; (focus (first | exact wN | (apply wG; (simp only [lk, Nat.reduceEqDiff, reduceIte, e1, e3, e4, e46, e47, e48, e69, e70, e71]; (try rfl); done)))); (focus (simp only [lk, Nat.reduceEqDiff, reduceIte, e1, e3, e4, e46, e47, e48, e69, e70, e71]; (try rfl); done)); (focus (simp only [lk, Nat.reduceEqDiff, reduceIte, e1, e3, e4, e46, e47, e48, e69, e70, e71]; (try rfl); done)))
        | (apply q_box; (focus (simp only [lk, Nat.reduceEqDiff, reduceIte, e1, e3, e4, e46, e47, e48, e69, e70, e71]; (try rfl); done)); (focus assumption); (focus (simp only [List.all_cons, List.all_nil, isC_int, isC_bool, isC_str, Bool.and_self, *]; done)); (focus rfl))
        | (apply q_loadN; (focus (first | exact wN | (apply wG; (simp only [lk, Nat.reduceEqDiff, reduceIte, e1, e3, e4, e46, e47, e48, e69, e70, e71]; (try rfl); done)))); (focus (simp only [lk, Nat.reduceEqDiff, reduceIte, e1, e3, e4, e46, e47, e48, e69, e70, e71]; (try rfl); done)); (focus rfl); (focus (simp only [List.drop_zero, List.drop_succ_cons, List.take_succ_cons, List.take_zero, List.take_nil]; (try rfl); done)))
        | (apply q_alloc; (focus (first | exact wN | (apply wG; (simp only [lk, Nat.reduceEqDiff, reduceIte, e1, e3, e4, e46, e47, e48, e69, e70, e71]; (try rfl); done)))); try simp only [n_empty, St.n_new, St.n_put, Nat.zero_add, Nat.reduceAdd])
        | (apply q_bslice0; (focus (first | exact wN | (apply wG; (simp only [lk, Nat.reduceEqDiff, reduceIte, e1, e3, e4, e46, e47, e48, e69, e70, e71]; (try rfl); done)))); try simp only [n_empty, St.n_new, St.n_put, Nat.zero_add, Nat.reduceAdd])
        | (apply q_bslice1; (focus (first | exact wN | (apply wG; (simp only [lk, Nat.reduceEqDiff, reduceIte, e1, e3, e4, e46, e47, e48, e69, e70, e71]; (try rfl); done)))); (focus (simp only [lk, Nat.reduceEqDiff, reduceIte, e1, e3, e4, e46, e47, e48, e69, e70, e71]; (try rfl); done)); (focus (first | rfl | assumption | (simp only [isC_int, isC_sref, isC_nils, isC_simm, *]; done))); try simp only [n_empty, St.n_new, St.n_put, Nat.zero_add, Nat.reduceAdd])
        | (apply q_store; (focus (simp only [lk, Nat.reduceEqDiff, reduceIte, e1, e3, e4, e46, e47, e48, e69, e70, e71]; (try rfl); done)); (focus (simp only [lk, Nat.reduceEqDiff, reduceIte, e1, e3, e4, e46, e47, e48, e69, e70, e71]; (try rfl); done)); (focus (first | exact cells_cell (by assumption) | (simp only [cells_agg, cells_int, cells_bool, cells_str, cells_nils, cells_zs, cells_simm, cells_sref, cells_pref, cells_mref, isC_int, isC_bool, isC_str, isC_nils, isC_zs, isC_simm, isC_sref, List.all_cons, List.all_nil, Bool.and_self, if_true, *]; (try rfl); done))); (focus (first | (simp only [St.get_put, St.get_new, St.n_put, St.n_new, n_empty, Nat.zero_add, Nat.reduceAdd, Nat.reduceEqDiff, reduceIte, *]; (try rfl); done))); (focus rfl); (focus rfl); try simp only [splice, List.set_cons_zero, List.set_cons_succ])
        | (apply q_faddrR; (focus (first | exact wN | (apply wG; (simp only [lk, Nat.reduceEqDiff, reduceIte, e1, e3, e4, e46, e47, e48, e69, e70, e71]; (try rfl); done)))); (focus (simp only [lk, Nat.reduceEqDiff, reduceIte, e1, e3, e4, e46, e47, e48, e69, e70, e71]; (try rfl); done)))
        | (apply q_loadR; (focus (first | exact wN | (apply wG; (simp only [lk, Nat.reduceEqDiff, reduceIte, e1, e3, e4, e46, e47, e48, e69, e70, e71]; (try rfl); done)))); (focus (simp only [lk, Nat.reduceEqDiff, reduceIte, e1, e3, e4, e46, e47, e48, e69, e70, e71]; (try rfl); done)); (focus (first | (simp only [St.get_put, St.get_new, St.n_put, St.n_new, n_empty, Nat.zero_add, Nat.reduceAdd, Nat.reduceEqDiff, reduceIte, *]; (try rfl); done))); (focus (first | rfl | (simp only [Nat.mul_one, Nat.zero_add, hN.sl.len, hR.sl.len, iaN hN.sl, iaN hR.sl, hN.getI, hN.rlen, hN.ria, hR.getI, hR.rlen, hR.ria, ints_get, *]; (try rfl); done))))
        | (apply q_loadRN; (focus (first | exact wN | (apply wG; (simp only [lk, Nat.reduceEqDiff, reduceIte, e1, e3, e4, e46, e47, e48, e69, e70, e71]; (try rfl); done)))); (focus (simp only [lk, Nat.reduceEqDiff, reduceIte, e1, e3, e4, e46, e47, e48, e69, e70, e71]; (try rfl); done)); (focus (first | (simp only [St.get_put, St.get_new, St.n_put, St.n_new, n_empty, Nat.zero_add, Nat.reduceAdd, Nat.reduceEqDiff, reduceIte, *]; (try rfl); done))); (focus rfl); (focus (simp only [List.drop_zero, List.drop_succ_cons, List.take_succ_cons, List.take_zero, List.take_nil]; (try rfl); done)))
        | (apply q_ext; (focus (first | exact wN | (apply wG; (simp only [lk, Nat.reduceEqDiff, reduceIte, e1, e3, e4, e46, e47, e48, e69, e70, e71]; (try rfl); done)))); (focus (simp only [lk, Nat.reduceEqDiff, reduceIte, e1, e3, e4, e46, e47, e48, e69, e70, e71]; (try rfl); done)); (focus rfl))
        | (apply q_skip rfl; (focus (simp only [lk, Nat.reduceEqDiff, reduceIte, e1, e3, e4, e46, e47, e48, e69, e70, e71]; (try rfl); done)); (focus rfl); simp only [Env.put_some]))
    · refine ⟨_, ?_, trivial, i + 1, rfl, ?_⟩
      · omega
      simp only [lk, sv1, sv2, sv3, Nat.reduceEqDiff, Nat.reduceAdd, Nat.reduceLeDiff, reduceIte, if_false, if_true, mkVal, unLV, List.map, optTmps, true_and, wrap_succ (i := i) (n := N.length) (by omega) hN.len, *]
      refine ⟨by omega, fun j hj => ?_⟩
      rcases Nat.lt_succ_iff_lt_or_eq.1 hj with h | rfl
      · exact hall j h
      · exact ⟨by assumption, by assumption, fun k' hk' => hall2 k' (by omega)⟩
    · refine ⟨_, ?_, trivial, k + 1, rfl, ?_⟩
      · omega
      simp only [lk, sv1, sv2, sv3, Nat.reduceEqDiff, Nat.reduceAdd, Nat.reduceLeDiff, reduceIte, if_false, if_true, mkVal, unLV, List.map, optTmps, true_and, wrap_succ (i := k) (n := 64) (by omega) (by decide), *]
      refine ⟨by omega, fun j hj => ?_⟩
      rcases Nat.lt_succ_iff_lt_or_eq.1 hj with h | rfl
      · exact hall2 j h
      · exact ⟨by assumption, by assumption, by assumption, by assumption⟩
    all_goals
      refine ⟨.inr trivial, ?_⟩
      simp only [lk, sv1, sv2, sv3, Nat.reduceEqDiff, Nat.reduceAdd, Nat.reduceLeDiff, reduceIte, if_false, if_true, mkVal, unLV, List.map, optTmps]
      refine bool_f fun h => ?_
      obtain ⟨u1, u2, u3, u4⟩ := (h.2 i (by omega)).2.2 k (by omega)
      omega
  · refine ⟨.inr trivial, ?_⟩
    simp only [lk, sv1, sv2, sv3, Nat.reduceEqDiff, Nat.reduceAdd, Nat.reduceLeDiff, reduceIte, if_false, if_true, mkVal, unLV, List.map, optTmps]
    refine bool_f fun h => ?_
    have := (h.2 i (by omega)).2.1
    omega
  · refine ⟨.inr trivial, ?_⟩
    simp only [lk, sv1, sv2, sv3, Nat.reduceEqDiff, Nat.reduceAdd, Nat.reduceLeDiff, reduceIte, if_false, if_true, mkVal, unLV, List.map, optTmps]
    refine bool_f fun h => ?_
    have := (h.2 i (by omega)).1
    omega

end Go.Proofs.Ytmfpcofncfhklaa
