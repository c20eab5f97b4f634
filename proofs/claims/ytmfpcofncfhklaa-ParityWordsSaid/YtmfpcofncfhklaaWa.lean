/- Lists compared, and the period of a list. -/
import Derived.Test.YtmfpcofncfhklaaA
import Derived.Test.YtmfpcofncfhklaaLitb
import Derived.Test.YtmfpcofncfhklaaPvQ
set_option linter.unusedSimpArgs false
set_option linter.unusedVariables false
namespace Go.Proofs.Ytmfpcofncfhklaa
open Go Go.Pv
open Classical

/-- Equal lengths, not for rewriting. -/
def SameN (a b : Nat) : Prop := a = b
set_option maxHeartbeats 4000000 in
theorem equal_ok {v w : LV} {l r : List Int} (hv : IsInts v l) (hw : IsInts w r) : PO 69 [v, w] (.bool (decide (l.length = r.length ∧ ∀ j, j < l.length → l.getD j 0 = r.getD j 0))) := by
  refine q_fn (t := 4) hm Try.func69 (by decide +kernel) c69 (Nat.le_of_ble_eq_true rfl) (by simp [LV.closed.closedAll, hv.closed, hw.closed]) rfl rfl ?_
  have h0 : (envOf [v, w]).at 0 = v := by rw [envOf_at]; rfl
  have h1 : (envOf [v, w]).at 1 = w := by rw [envOf_at]; rfl
  generalize envOf [v, w] = e at *
  unfold l69
  dsimp only
  repeat' (first
      | (apply qc_block)
      | (apply qc_seq)
      | (apply qc_skip; try simp only [Thn, Blkd, reduceIte, Nat.reduceEqDiff])
      | (apply qc_exit; try simp only [Thn, Blkd, reduceIte, Nat.reduceEqDiff, Nat.succ_ne_self])
      | (apply qc_ret; try simp only [Thn, Blkd, reduceIte, Nat.reduceEqDiff])
      | (apply qc_region hm)
      | (apply q_nil; try simp only [Thn, Blkd, reduceIte, Nat.reduceEqDiff])
      | (apply qc_condT; (focus (simp only [lk, Nat.reduceEqDiff, reduceIte, h0, h1]; (try rfl); done)))
      | (apply qc_condF; (focus (simp only [lk, Nat.reduceEqDiff, reduceIte, h0, h1]; (try rfl); done)))
      | (apply q_mv; (focus (first | exact wN | (apply wG; (simp only [lk, Nat.reduceEqDiff, reduceIte, h0, h1]; (try rfl); done)))); (focus (simp only [lk, Nat.reduceEqDiff, reduceIte, h0, h1]; (try rfl); done)))
      | (apply q_cmp; (focus (first | exact wN | (apply wG; (simp only [lk, Nat.reduceEqDiff, reduceIte, h0, h1]; (try rfl); done)))); (focus (simp only [lk, Nat.reduceEqDiff, reduceIte, h0, h1]; (try rfl); done)); (focus (simp only [lk, Nat.reduceEqDiff, reduceIte, h0, h1]; (try rfl); done)); (focus rfl); intro bb hbb; cases bb <;> (simp only [decide_eq_true_eq, decide_eq_false_iff_not, bne_iff_ne, beq_iff_eq, ne_eq, bne_eq_false_iff_eq, beq_eq_false_iff_ne, Int.not_lt, Int.not_le, gt_iff_lt, ge_iff_le, Bool.not_eq_true] at hbb))
      | (apply q_eq; (focus (first | exact wN | (apply wG; (simp only [lk, Nat.reduceEqDiff, reduceIte, h0, h1]; (try rfl); done)))); (focus (simp only [lk, Nat.reduceEqDiff, reduceIte, h0, h1]; (try rfl); done)); (focus (simp only [lk, Nat.reduceEqDiff, reduceIte, h0, h1]; (try rfl); done)); (focus rfl); intro bb hbb; cases bb <;> (try simp only [Bool.false_eq_true, if_false] at hbb))
      | (apply q_bin; (focus (first | exact wN | (apply wG; (simp only [lk, Nat.reduceEqDiff, reduceIte, h0, h1]; (try rfl); done)))); (focus (simp only [lk, Nat.reduceEqDiff, reduceIte, h0, h1]; (try rfl); done)); (focus (simp only [lk, Nat.reduceEqDiff, reduceIte, h0, h1]; (try rfl); done)); (focus rfl))
      | (apply q_faddr; (focus (first | exact wN | (apply wG; (simp only [lk, Nat.reduceEqDiff, reduceIte, h0, h1]; (try rfl); done)))); (focus (simp only [lk, Nat.reduceEqDiff, reduceIte, h0, h1]; (try rfl); done)))
      | (apply q_load; (focus (first | exact wN | (apply wG; (simp only [lk, Nat.reduceEqDiff, reduceIte, h0, h1]; (try rfl); done)))); (focus (simp only [lk, Nat.reduceEqDiff, reduceIte, h0, h1]; (try rfl); done)); (focus (first | rfl | (simp only [Nat.mul_one, Nat.zero_add, hv.sl.len, hw.sl.len, *]; (try rfl); done))))
      | (apply q_len; (focus (first | exact wN | (apply wG; (simp only [lk, Nat.reduceEqDiff, reduceIte, h0, h1]; (try rfl); done)))); (focus (simp only [lk, Nat.reduceEqDiff, reduceIte, h0, h1]; (try rfl); done)); (focus (first | rfl | (simp only [Nat.mul_one, Nat.zero_add, hv.sl.len, hw.sl.len, *]; (try rfl); done))))
      | (apply q_iaddr; (focus (first | exact wN | (apply wG; (simp only [lk, Nat.reduceEqDiff, reduceIte, h0, h1]; (try rfl); done)))); (focus (simp only [lk, Nat.reduceEqDiff, reduceIte, h0, h1]; (try rfl); done)); (focus (simp only [lk, Nat.reduceEqDiff, reduceIte, h0, h1]; (try rfl); done)); (focus (first | rfl | (simp only [Nat.mul_one, Nat.zero_add, hv.sl.len, hw.sl.len, *]; (try rfl); done))))
      | (apply q_max2; (focus (first | exact wN | (apply wG; (simp only [lk, Nat.reduceEqDiff, reduceIte, h0, h1]; (try rfl); done)))); (focus (simp only [lk, Nat.reduceEqDiff, reduceIte, h0, h1]; (try rfl); done)); (focus (simp only [lk, Nat.reduceEqDiff, reduceIte, h0, h1]; (try rfl); done)))
      | (apply q_min2; (focus (first | exact wN | (apply wG; (simp only [lk, Nat.reduceEqDiff, reduceIte, h0, h1]; (try rfl); done)))); (focus (simp only [lk, Nat.reduceEqDiff, reduceIte, h0, h1]; (try rfl); done)); (focus (simp only [lk, Nat.reduceEqDiff, reduceIte, h0, h1]; (try rfl); done)))
      | (apply q_not; (focus (first | exact wN | (apply wG; (simp only [lk, Nat.reduceEqDiff, reduceIte, h0, h1]; (try rfl); done)))); (focus (simp only [lk, Nat.reduceEqDiff, reduceIte, h0, h1]; (try rfl); done)))
      | (apply q_pickT; (focus (first | exact wN | (apply wG; (simp only [lk, Nat.reduceEqDiff, reduceIte, h0, h1]; (try rfl); done)))); (focus (simp only [lk, Nat.reduceEqDiff, reduceIte, h0, h1]; (try rfl); done)); (focus (simp only [lk, Nat.reduceEqDiff, reduceIte, h0, h1]; (try rfl); done)))
      | (apply q_pickF; (focus (first | exact wN | (apply wG; (simp only [lk, Nat.reduceEqDiff, reduceIte, h0, h1]; (try rfl); done)))); (focus (simp only [lk, Nat.reduceEqDiff, reduceIte, h0, h1]; (try rfl); done)); (focus (simp only [lk, Nat.reduceEqDiff, reduceIte, h0, h1]; (try rfl); done)))
      | (apply q_box; (focus (simp only [lk, Nat.reduceEqDiff, reduceIte, h0, h1]; (try rfl); done)); (focus assumption); (focus (simp only [List.all_cons, List.all_nil, isC_int, isC_bool, isC_str, Bool.and_self, *]; done)); (focus rfl))
      | (apply q_loadN; (focus (first | exact wN | (apply wG; (simp only [lk, Nat.reduceEqDiff, reduceIte, h0, h1]; (try rfl); done)))); (focus (simp only [lk, Nat.reduceEqDiff, reduceIte, h0, h1]; (try rfl); done)); (focus rfl); (focus (simp only [List.drop_zero, List.drop_succ_cons, List.take_succ_cons, List.take_zero, List.take_nil]; (try rfl); done)))
      | (apply q_alloc; (focus (first | exact wN | (apply wG; (simp only [lk, Nat.reduceEqDiff, reduceIte, h0, h1]; (try rfl); done)))); try simp only [n_empty, St.n_new, St.n_put, Nat.zero_add, Nat.reduceAdd])
      | (apply q_bslice0; (focus (first | exact wN | (apply wG; (simp only [lk, Nat.reduceEqDiff, reduceIte, h0, h1]; (try rfl); done)))); try simp only [n_empty, St.n_new, St.n_put, Nat.zero_add, Nat.reduceAdd])
      | (apply q_bslice1; (focus (first | exact wN | (apply wG; (simp only [lk, Nat.reduceEqDiff, reduceIte, h0, h1]; (try rfl); done)))); (focus (simp only [lk, Nat.reduceEqDiff, reduceIte, h0, h1]; (try rfl); done)); (focus (first | rfl | assumption | (simp only [isC_int, isC_sref, isC_nils, isC_simm, *]; done))); try simp only [n_empty, St.n_new, St.n_put, Nat.zero_add, Nat.reduceAdd])
      | (apply q_store; (focus (simp only [lk, Nat.reduceEqDiff, reduceIte, h0, h1]; (try rfl); done)); (focus (simp only [lk, Nat.reduceEqDiff, reduceIte, h0, h1]; (try rfl); done)); (focus (first | exact cells_cell (by assumption) | (simp only [cells_agg, cells_int, cells_bool, cells_str, cells_nils, cells_zs, cells_simm, cells_sref, cells_pref, cells_mref, isC_int, isC_bool, isC_str, isC_nils, isC_zs, isC_simm, isC_sref, List.all_cons, List.all_nil, Bool.and_self, if_true, *]; (try rfl); done))); (focus (first | (simp only [St.get_put, St.get_new, St.n_put, St.n_new, n_empty, Nat.zero_add, Nat.reduceAdd, Nat.reduceEqDiff, reduceIte, *]; (try rfl); done))); (focus rfl); (focus rfl); try simp only [splice, List.set_cons_zero, List.set_cons_succ])
      | (apply q_faddrR; (focus (first | exact wN | (apply wG; (simp only [lk, Nat.reduceEqDiff, reduceIte, h0, h1]; (try rfl); done)))); (focus (simp only [lk, Nat.reduceEqDiff, reduceIte, h0, h1]; (try rfl); done)))
      | (apply q_loadR; (focus (first | exact wN | (apply wG; (simp only [lk, Nat.reduceEqDiff, reduceIte, h0, h1]; (try rfl); done)))); (focus (simp only [lk, Nat.reduceEqDiff, reduceIte, h0, h1]; (try rfl); done)); (focus (first | (simp only [St.get_put, St.get_new, St.n_put, St.n_new, n_empty, Nat.zero_add, Nat.reduceAdd, Nat.reduceEqDiff, reduceIte, *]; (try rfl); done))); (focus (first | rfl | (simp only [Nat.mul_one, Nat.zero_add, hv.sl.len, hw.sl.len, *]; (try rfl); done))))
      | (apply q_loadRN; (focus (first | exact wN | (apply wG; (simp only [lk, Nat.reduceEqDiff, reduceIte, h0, h1]; (try rfl); done)))); (focus (simp only [lk, Nat.reduceEqDiff, reduceIte, h0, h1]; (try rfl); done)); (focus (first | (simp only [St.get_put, St.get_new, St.n_put, St.n_new, n_empty, Nat.zero_add, Nat.reduceAdd, Nat.reduceEqDiff, reduceIte, *]; (try rfl); done))); (focus rfl); (focus (simp only [List.drop_zero, List.drop_succ_cons, List.take_succ_cons, List.take_zero, List.take_nil]; (try rfl); done)))
      | (apply q_ext; (focus (first | exact wN | (apply wG; (simp only [lk, Nat.reduceEqDiff, reduceIte, h0, h1]; (try rfl); done)))); (focus (simp only [lk, Nat.reduceEqDiff, reduceIte, h0, h1]; (try rfl); done)); (focus rfl))
      | (apply q_skip rfl; (focus (simp only [lk, Nat.reduceEqDiff, reduceIte, h0, h1]; (try rfl); done)); (focus rfl); simp only [Env.put_some]))
  · have hsame : SameN l.length r.length := by unfold SameN; omega
    clear hbb
    refine qc_loop (fun n e s => s = St.empty ∧ ∃ i : Nat, n = l.length - i ∧ i ≤ l.length ∧ e.at 0 = v ∧ e.at 1 = w ∧ e.at 12 = .int .i64 (l.length : Int) ∧ e.at 13 = .int .i64 (i : Int) ∧ ∀ j, j < i → l.getD j 0 = r.getD j 0) l.length ⟨rfl, 0, by simp, by simp, by simp [h0], by simp [h1], by simp, by simp, fun j hj => absurd hj (Nat.not_lt_zero _)⟩ ?_
    rintro n e s ⟨rfl, i, rfl, hi, e0, e1, e12, e13, hall⟩
    by_cases hil : i < l.length
    · have x1 : (i : Int) < (l.length : Int) := by omega
      have x2 : (i : Int) < (r.length : Int) := by unfold SameN at hsame; omega
      repeat' (first
          | (apply qc_block)
          | (apply qc_seq)
          | (apply qc_skip; try simp only [Thn, Blkd, reduceIte, Nat.reduceEqDiff])
          | (apply qc_exit; try simp only [Thn, Blkd, reduceIte, Nat.reduceEqDiff, Nat.succ_ne_self])
          | (apply qc_ret; try simp only [Thn, Blkd, reduceIte, Nat.reduceEqDiff])
          | (apply qc_region hm)
          | (apply q_nil; try simp only [Thn, Blkd, reduceIte, Nat.reduceEqDiff])
          | (apply qc_condT; (focus (simp only [lk, Nat.reduceEqDiff, reduceIte, e0, e1, e12, e13]; (try rfl); done)))
          | (apply qc_condF; (focus (simp only [lk, Nat.reduceEqDiff, reduceIte, e0, e1, e12, e13]; (try rfl); done)))
          | (apply q_mv; (focus (first | exact wN | (apply wG; (simp only [lk, Nat.reduceEqDiff, reduceIte, e0, e1, e12, e13]; (try rfl); done)))); (focus (simp only [lk, Nat.reduceEqDiff, reduceIte, e0, e1, e12, e13]; (try rfl); done)))
          | (apply q_cmp; (focus (first | exact wN | (apply wG; (simp only [lk, Nat.reduceEqDiff, reduceIte, e0, e1, e12, e13]; (try rfl); done)))); (focus (simp only [lk, Nat.reduceEqDiff, reduceIte, e0, e1, e12, e13]; (try rfl); done)); (focus (simp only [lk, Nat.reduceEqDiff, reduceIte, e0, e1, e12, e13]; (try rfl); done)); (focus rfl); intro bb hbb; cases bb <;> (simp only [decide_eq_true_eq, decide_eq_false_iff_not, bne_iff_ne, beq_iff_eq, ne_eq, bne_eq_false_iff_eq, beq_eq_false_iff_ne, Int.not_lt, Int.not_le, gt_iff_lt, ge_iff_le, Bool.not_eq_true] at hbb))
          | (apply q_eq; (focus (first | exact wN | (apply wG; (simp only [lk, Nat.reduceEqDiff, reduceIte, e0, e1, e12, e13]; (try rfl); done)))); (focus (simp only [lk, Nat.reduceEqDiff, reduceIte, e0, e1, e12, e13]; (try rfl); done)); (focus (simp only [lk, Nat.reduceEqDiff, reduceIte, e0, e1, e12, e13]; (try rfl); done)); (focus rfl); intro bb hbb; cases bb <;> (try simp only [Bool.false_eq_true, if_false] at hbb))
          | (apply q_bin; (focus (first | exact wN | (apply wG; (simp only [lk, Nat.reduceEqDiff, reduceIte, e0, e1, e12, e13]; (try rfl); done)))); (focus (simp only [lk, Nat.reduceEqDiff, reduceIte, e0, e1, e12, e13]; (try rfl); done)); (focus (simp only [lk, Nat.reduceEqDiff, reduceIte, e0, e1, e12, e13]; (try rfl); done)); (focus rfl))
          | (apply q_faddr; (focus (first | exact wN | (apply wG; (simp only [lk, Nat.reduceEqDiff, reduceIte, e0, e1, e12, e13]; (try rfl); done)))); (focus (simp only [lk, Nat.reduceEqDiff, reduceIte, e0, e1, e12, e13]; (try rfl); done)))
          | (apply q_load; (focus (first | exact wN | (apply wG; (simp only [lk, Nat.reduceEqDiff, reduceIte, e0, e1, e12, e13]; (try rfl); done)))); (focus (simp only [lk, Nat.reduceEqDiff, reduceIte, e0, e1, e12, e13]; (try rfl); done)); (focus (first | rfl | (simp only [Nat.mul_one, Nat.zero_add, iaN hv.sl, iaN hw.sl, ints_get, *]; (try rfl); done))))
          | (apply q_len; (focus (first | exact wN | (apply wG; (simp only [lk, Nat.reduceEqDiff, reduceIte, e0, e1, e12, e13]; (try rfl); done)))); (focus (simp only [lk, Nat.reduceEqDiff, reduceIte, e0, e1, e12, e13]; (try rfl); done)); (focus (first | rfl | (simp only [Nat.mul_one, Nat.zero_add, iaN hv.sl, iaN hw.sl, ints_get, *]; (try rfl); done))))
          | (apply q_iaddr; (focus (first | exact wN | (apply wG; (simp only [lk, Nat.reduceEqDiff, reduceIte, e0, e1, e12, e13]; (try rfl); done)))); (focus (simp only [lk, Nat.reduceEqDiff, reduceIte, e0, e1, e12, e13]; (try rfl); done)); (focus (simp only [lk, Nat.reduceEqDiff, reduceIte, e0, e1, e12, e13]; (try rfl); done)); (focus (first | rfl | (simp only [Nat.mul_one, Nat.zero_add, iaN hv.sl, iaN hw.sl, ints_get, *]; (try rfl); done))))
          | (apply q_max2; (focus (first | exact wN | (apply wG; (simp only [lk, Nat.reduceEqDiff, reduceIte, e0, e1, e12, e13]; (try rfl); done)))); (focus (simp only [lk, Nat.reduceEqDiff, reduceIte, e0, e1, e12, e13]; (try rfl); done)); (focus (simp only [lk, Nat.reduceEqDiff, reduceIte, e0, e1, e12, e13]; (try rfl); done)))
          | (apply q_min2; (focus (first | exact wN | (apply wG; (simp only [lk, Nat.reduceEqDiff, reduceIte, e0, e1, e12, e13]; (try rfl); done)))); (focus (simp only [lk, Nat.reduceEqDiff, reduceIte, e0, e1, e12, e13]; (try rfl); done)); (focus (simp only [lk, Nat.reduceEqDiff, reduceIte, e0, e1, e12, e13]; (try rfl); done)))
          | (apply q_not; (focus (first | exact wN | (apply wG; (simp only [lk, Nat.reduceEqDiff, reduceIte, e0, e1, e12, e13]; (try rfl); done)))); (focus (simp only [lk, Nat.reduceEqDiff, reduceIte, e0, e1, e12, e13]; (try rfl); done)))
          | (apply q_pickT; (focus (first | exact wN | (apply wG; (simp only [lk, Nat.reduceEqDiff, reduceIte, e0, e1, e12, e13]; (try rfl); done)))); (focus (simp only [lk, Nat.reduceEqDiff, reduceIte, e0, e1, e12, e13]; (try rfl); done)); (focus (simp only [lk, Nat.reduceEqDiff, reduceIte, e0, e1, e12, e13]; (try rfl); done)))
          | (apply q_pickF; (focus (first | exact wN | (apply wG; (simp only [lk, Nat.reduceEqDiff, reduceIte, e0, e1, e12, e13]; (try rfl); done)))); (focus (simp only [lk, Nat.reduceEqDiff, reduceIte, e0, e1, e12, e13]; (try rfl); done)); (focus (simp only [lk, Nat.reduceEqDiff, reduceIte, e0, e1, e12, e13]; (try rfl); done)))
          | (apply q_box; (focus (simp only [lk, Nat.reduceEqDiff, reduceIte, e0, e1, e12, e13]; (try rfl); done)); (focus assumption); (focus (simp only [List.all_cons, List.all_nil, isC_int, isC_bool, isC_str, Bool.and_self, *]; done)); (focus rfl))
          | (apply q_loadN; (focus (first | exact wN | (apply wG; (simp only [lk, Nat.reduceEqDiff, reduceIte, e0, e1, e12, e13]; (try rfl); done)))); (focus (simp only [lk, Nat.reduceEqDiff, reduceIte, e0, e1, e12, e13]; (try rfl); done)); (focus rfl); (focus (simp only [List.drop_zero, List.drop_succ_cons, List.take_succ_cons, List.take_zero, List.take_nil]; (try rfl); done)))
          | (apply q_alloc; (focus (first | exact wN | (apply wG; (simp only [lk, Nat.reduceEqDiff, reduceIte, e0, e1, e12, e13]; (try rfl); done)))); try simp only [n_empty, St.n_new, St.n_put, Nat.zero_add, Nat.reduceAdd])
          | (apply q_bslice0; (focus (first | exact wN | (apply wG; (simp only [lk, Nat.reduceEqDiff, reduceIte, e0, e1, e12, e13]; (try rfl); done)))); try simp only [n_empty, St.n_new, St.n_put, Nat.zero_add, Nat.reduceAdd])
          | (apply q_bslice1; (focus (first | exact wN | (apply wG; (simp only [lk, Nat.reduceEqDiff, reduceIte, e0, e1, e12, e13]; (try rfl); done)))); (focus (simp only [lk, Nat.reduceEqDiff, reduceIte, e0, e1, e12, e13]; (try rfl); done)); (focus (first | rfl | assumption | (simp only [isC_int, isC_sref, isC_nils, isC_simm, *]; done))); try simp only [n_empty, St.n_new, St.n_put, Nat.zero_add, Nat.reduceAdd])
          | (apply q_store; (focus (simp only [lk, Nat.reduceEqDiff, reduceIte, e0, e1, e12, e13]; (try rfl); done)); (focus (simp only [lk, Nat.reduceEqDiff, reduceIte, e0, e1, e12, e13]; (try rfl); done)); (focus (first | exact cells_cell (by assumption) | (simp only [cells_agg, cells_int, cells_bool, cells_str, cells_nils, cells_zs, cells_simm, cells_sref, cells_pref, cells_mref, isC_int, isC_bool, isC_str, isC_nils, isC_zs, isC_simm, isC_sref, List.all_cons, List.all_nil, Bool.and_self, if_true, *]; (try rfl); done))); (focus (first | (simp only [St.get_put, St.get_new, St.n_put, St.n_new, n_empty, Nat.zero_add, Nat.reduceAdd, Nat.reduceEqDiff, reduceIte, *]; (try rfl); done))); (focus rfl); (focus rfl); try simp only [splice, List.set_cons_zero, List.set_cons_succ])
          | (apply q_faddrR; (focus (first | exact wN | (apply wG; (simp only [lk, Nat.reduceEqDiff, reduceIte, e0, e1, e12, e13]; (try rfl); done)))); (focus (simp only [lk, Nat.reduceEqDiff, reduceIte, e0, e1, e12, e13]; (try rfl); done)))
          | (apply q_loadR; (focus (first | exact wN | (apply wG; (simp only [lk, Nat.reduceEqDiff, reduceIte, e0, e1, e12, e13]; (try rfl); done)))); (focus (simp only [lk, Nat.reduceEqDiff, reduceIte, e0, e1, e12, e13]; (try rfl); done)); (focus (first | (simp only [St.get_put, St.get_new, St.n_put, St.n_new, n_empty, Nat.zero_add, Nat.reduceAdd, Nat.reduceEqDiff, reduceIte, *]; (try rfl); done))); (focus (first | rfl | (simp only [Nat.mul_one, Nat.zero_add, iaN hv.sl, iaN hw.sl, ints_get, *]; (try rfl); done))))
          | (apply q_loadRN; (focus (first | exact wN | (apply wG; (simp only [lk, Nat.reduceEqDiff, reduceIte, e0, e1, e12, e13]; (try rfl); done)))); (focus (simp only [lk, Nat.reduceEqDiff, reduceIte, e0, e1, e12, e13]; (try rfl); done)); (focus (first | (simp only [St.get_put, St.get_new, St.n_put, St.n_new, n_empty, Nat.zero_add, Nat.reduceAdd, Nat.reduceEqDiff, reduceIte, *]; (try rfl); done))); (focus rfl); (focus (simp only [List.drop_zero, List.drop_succ_cons, List.take_succ_cons, List.take_zero, List.take_nil]; (try rfl); done)))
          | (apply q_ext; (focus (first | exact wN | (apply wG; (simp only [lk, Nat.reduceEqDiff, reduceIte, e0, e1, e12, e13]; (try rfl); done)))); (focus (simp only [lk, Nat.reduceEqDiff, reduceIte, e0, e1, e12, e13]; (try rfl); done)); (focus rfl))
          | (apply q_skip rfl; (focus (simp only [lk, Nat.reduceEqDiff, reduceIte, e0, e1, e12, e13]; (try rfl); done)); (focus rfl); simp only [Env.put_some]))
      · omega
      · refine ⟨_, ?_, trivial, i + 1, rfl, ?_⟩
        · omega
        simp only [lk, sv1, sv2, sv3, Nat.reduceEqDiff, Nat.reduceAdd, Nat.reduceLeDiff, reduceIte, if_false, if_true, mkVal, unLV, List.map, optTmps, true_and, wrap_succ (i := i) (n := l.length) (by omega) hv.len, e0, e1, e12, e13]
        refine ⟨by omega, fun j hj => ?_⟩
        rcases Nat.lt_succ_iff_lt_or_eq.1 hj with h | rfl
        · exact hall j h
        · assumption
      · refine ⟨.inr trivial, ?_⟩
        simp only [lk, sv1, sv2, sv3, Nat.reduceEqDiff, Nat.reduceAdd, Nat.reduceLeDiff, reduceIte, if_false, if_true, mkVal, unLV, List.map, optTmps]
        exact bool_f fun h => hbb (h.2 i (by omega))
    · repeat' (first
          | (apply qc_block)
          | (apply qc_seq)
          | (apply qc_skip; try simp only [Thn, Blkd, reduceIte, Nat.reduceEqDiff])
          | (apply qc_exit; try simp only [Thn, Blkd, reduceIte, Nat.reduceEqDiff, Nat.succ_ne_self])
          | (apply qc_ret; try simp only [Thn, Blkd, reduceIte, Nat.reduceEqDiff])
          | (apply qc_region hm)
          | (apply q_nil; try simp only [Thn, Blkd, reduceIte, Nat.reduceEqDiff])
          | (apply qc_condT; (focus (simp only [lk, Nat.reduceEqDiff, reduceIte, e0, e1, e12, e13]; (try rfl); done)))
          | (apply qc_condF; (focus (simp only [lk, Nat.reduceEqDiff, reduceIte, e0, e1, e12, e13]; (try rfl); done)))
          | (apply q_mv; (focus (first | exact wN | (apply wG; (simp only [lk, Nat.reduceEqDiff, reduceIte, e0, e1, e12, e13]; (try rfl); done)))); (focus (simp only [lk, Nat.reduceEqDiff, reduceIte, e0, e1, e12, e13]; (try rfl); done)))
          | (apply q_cmp; (focus (first | exact wN | (apply wG; (simp only [lk, Nat.reduceEqDiff, reduceIte, e0, e1, e12, e13]; (try rfl); done)))); (focus (simp only [lk, Nat.reduceEqDiff, reduceIte, e0, e1, e12, e13]; (try rfl); done)); (focus (simp only [lk, Nat.reduceEqDiff, reduceIte, e0, e1, e12, e13]; (try rfl); done)); (focus rfl); intro bb hbb; cases bb <;> (simp only [decide_eq_true_eq, decide_eq_false_iff_not, bne_iff_ne, beq_iff_eq, ne_eq, bne_eq_false_iff_eq, beq_eq_false_iff_ne, Int.not_lt, Int.not_le, gt_iff_lt, ge_iff_le, Bool.not_eq_true] at hbb))
          | (apply q_eq; (focus (first | exact wN | (apply wG; (simp only [lk, Nat.reduceEqDiff, reduceIte, e0, e1, e12, e13]; (try rfl); done)))); (focus (simp only [lk, Nat.reduceEqDiff, reduceIte, e0, e1, e12, e13]; (try rfl); done)); (focus (simp only [lk, Nat.reduceEqDiff, reduceIte, e0, e1, e12, e13]; (try rfl); done)); (focus rfl); intro bb hbb; cases bb <;> (try simp only [Bool.false_eq_true, if_false] at hbb))
          | (apply q_bin; (focus (first | exact wN | (apply wG; (simp only [lk, Nat.reduceEqDiff, reduceIte, e0, e1, e12, e13]; (try rfl); done)))); (focus (simp only [lk, Nat.reduceEqDiff, reduceIte, e0, e1, e12, e13]; (try rfl); done)); (focus (simp only [lk, Nat.reduceEqDiff, reduceIte, e0, e1, e12, e13]; (try rfl); done)); (focus rfl))
          | (apply q_faddr; (focus (first | exact wN | (apply wG; (simp only [lk, Nat.reduceEqDiff, reduceIte, e0, e1, e12, e13]; (try rfl); done)))); (focus (simp only [lk, Nat.reduceEqDiff, reduceIte, e0, e1, e12, e13]; (try rfl); done)))
          | (apply q_load; (focus (first | exact wN | (apply wG; (simp only [lk, Nat.reduceEqDiff, reduceIte, e0, e1, e12, e13]; (try rfl); done)))); (focus (simp only [lk, Nat.reduceEqDiff, reduceIte, e0, e1, e12, e13]; (try rfl); done)); (focus (first | rfl | (simp only [Nat.mul_one, Nat.zero_add, *]; (try rfl); done))))
          | (apply q_len; (focus (first | exact wN | (apply wG; (simp only [lk, Nat.reduceEqDiff, reduceIte, e0, e1, e12, e13]; (try rfl); done)))); (focus (simp only [lk, Nat.reduceEqDiff, reduceIte, e0, e1, e12, e13]; (try rfl); done)); (focus (first | rfl | (simp only [Nat.mul_one, Nat.zero_add, *]; (try rfl); done))))
          | (apply q_iaddr; (focus (first | exact wN | (apply wG; (simp only [lk, Nat.reduceEqDiff, reduceIte, e0, e1, e12, e13]; (try rfl); done)))); (focus (simp only [lk, Nat.reduceEqDiff, reduceIte, e0, e1, e12, e13]; (try rfl); done)); (focus (simp only [lk, Nat.reduceEqDiff, reduceIte, e0, e1, e12, e13]; (try rfl); done)); (focus (first | rfl | (simp only [Nat.mul_one, Nat.zero_add, *]; (try rfl); done))))
          | (apply q_max2; (focus (first | exact wN | (apply wG; (simp only [lk, Nat.reduceEqDiff, reduceIte, e0, e1, e12, e13]; (try rfl); done)))); (focus (simp only [lk, Nat.reduceEqDiff, reduceIte, e0, e1, e12, e13]; (try rfl); done)); (focus (simp only [lk, Nat.reduceEqDiff, reduceIte, e0, e1, e12, e13]; (try rfl); done)))
          | (apply q_min2; (focus (first | exact wN | (apply wG; (simp only [lk, Nat.reduceEqDiff, reduceIte, e0, e1, e12, e13]; (try rfl); done)))); (focus (simp only [lk, Nat.reduceEqDiff, reduceIte, e0, e1, e12, e13]; (try rfl); done)); (focus (simp only [lk, Nat.reduceEqDiff, reduceIte, e0, e1, e12, e13]; (try rfl); done)))
          | (apply q_not; (focus (first | exact wN | (apply wG; (simp only [lk, Nat.reduceEqDiff, reduceIte, e0, e1, e12, e13]; (try rfl); done)))); (focus (simp only [lk, Nat.reduceEqDiff, reduceIte, e0, e1, e12, e13]; (try rfl); done)))
          | (apply q_pickT; (focus (first | exact wN | (apply wG; (simp only [lk, Nat.reduceEqDiff, reduceIte, e0, e1, e12, e13]; (try rfl); done)))); (focus (simp only [lk, Nat.reduceEqDiff, reduceIte, e0, e1, e12, e13]; (try rfl); done)); (focus (simp only [lk, Nat.reduceEqDiff, reduceIte, e0, e1, e12, e13]; (try rfl); done)))
          | (apply q_pickF; (focus (first | exact wN | (apply wG; (simp only [lk, Nat.reduceEqDiff, reduceIte, e0, e1, e12, e13]; (try rfl); done)))); (focus (simp only [lk, Nat.reduceEqDiff, reduceIte, e0, e1, e12, e13]; (try rfl); done)); (focus (simp only [lk, Nat.reduceEqDiff, reduceIte, e0, e1, e12, e13]; (try rfl); done)))
          | (apply q_box; (focus (simp only [lk, Nat.reduceEqDiff, reduceIte, e0, e1, e12, e13]; (try rfl); done)); (focus assumption); (focus (simp only [List.all_cons, List.all_nil, isC_int, isC_bool, isC_str, Bool.and_self, *]; done)); (focus rfl))
          | (apply q_loadN; (focus (first | exact wN | (apply wG; (simp only [lk, Nat.reduceEqDiff, reduceIte, e0, e1, e12, e13]; (try rfl); done)))); (focus (simp only [lk, Nat.reduceEqDiff, reduceIte, e0, e1, e12, e13]; (try rfl); done)); (focus rfl); (focus (simp only [List.drop_zero, List.drop_succ_cons, List.take_succ_cons, List.take_zero, List.take_nil]; (try rfl); done)))
          | (apply q_alloc; (focus (first | exact wN | (apply wG; (simp only [lk, Nat.reduceEqDiff, reduceIte, e0, e1, e12, e13]; (try rfl); done)))); try simp only [n_empty, St.n_new, St.n_put, Nat.zero_add, Nat.reduceAdd])
          | (apply q_bslice0; (focus (first | exact wN | (apply wG; (simp only [lk, Nat.reduceEqDiff, reduceIte, e0, e1, e12, e13]; (try rfl); done)))); try simp only [n_empty, St.n_new, St.n_put, Nat.zero_add, Nat.reduceAdd])
          | (apply q_bslice1; (focus (first | exact wN | (apply wG; (simp only [lk, Nat.reduceEqDiff, reduceIte, e0, e1, e12, e13]; (try rfl); done)))); (focus (simp only [lk, Nat.reduceEqDiff, reduceIte, e0, e1, e12, e13]; (try rfl); done)); (focus (first | rfl | assumption | (simp only [isC_int, isC_sref, isC_nils, isC_simm, *]; done))); try simp only [n_empty, St.n_new, St.n_put, Nat.zero_add, Nat.reduceAdd])
          | (apply q_store; (focus (simp only [lk, Nat.reduceEqDiff, reduceIte, e0, e1, e12, e13]; (try rfl); done)); (focus (simp only [lk, Nat.reduceEqDiff, reduceIte, e0, e1, e12, e13]; (try rfl); done)); (focus (first | exact cells_cell (by assumption) | (simp only [cells_agg, cells_int, cells_bool, cells_str, cells_nils, cells_zs, cells_simm, cells_sref, cells_pref, cells_mref, isC_int, isC_bool, isC_str, isC_nils, isC_zs, isC_simm, isC_sref, List.all_cons, List.all_nil, Bool.and_self, if_true, *]; (try rfl); done))); (focus (first | (simp only [St.get_put, St.get_new, St.n_put, St.n_new, n_empty, Nat.zero_add, Nat.reduceAdd, Nat.reduceEqDiff, reduceIte, *]; (try rfl); done))); (focus rfl); (focus rfl); try simp only [splice, List.set_cons_zero, List.set_cons_succ])
          | (apply q_faddrR; (focus (first | exact wN | (apply wG; (simp only [lk, Nat.reduceEqDiff, reduceIte, e0, e1, e12, e13]; (try rfl); done)))); (focus (simp only [lk, Nat.reduceEqDiff, reduceIte, e0, e1, e12, e13]; (try rfl); done)))
          | (apply q_loadR; (focus (first | exact wN | (apply wG; (simp only [lk, Nat.reduceEqDiff, reduceIte, e0, e1, e12, e13]; (try rfl); done)))); (focus (simp only [lk, Nat.reduceEqDiff, reduceIte, e0, e1, e12, e13]; (try rfl); done)); (focus (first | (simp only [St.get_put, St.get_new, St.n_put, St.n_new, n_empty, Nat.zero_add, Nat.reduceAdd, Nat.reduceEqDiff, reduceIte, *]; (try rfl); done))); (focus (first | rfl | (simp only [Nat.mul_one, Nat.zero_add, *]; (try rfl); done))))
          | (apply q_loadRN; (focus (first | exact wN | (apply wG; (simp only [lk, Nat.reduceEqDiff, reduceIte, e0, e1, e12, e13]; (try rfl); done)))); (focus (simp only [lk, Nat.reduceEqDiff, reduceIte, e0, e1, e12, e13]; (try rfl); done)); (focus (first | (simp only [St.get_put, St.get_new, St.n_put, St.n_new, n_empty, Nat.zero_add, Nat.reduceAdd, Nat.reduceEqDiff, reduceIte, *]; (try rfl); done))); (focus rfl); (focus (simp only [List.drop_zero, List.drop_succ_cons, List.take_succ_cons, List.take_zero, List.take_nil]; (try rfl); done)))
          | (apply q_ext; (focus (first | exact wN | (apply wG; (simp only [lk, Nat.reduceEqDiff, reduceIte, e0, e1, e12, e13]; (try rfl); done)))); (focus (simp only [lk, Nat.reduceEqDiff, reduceIte, e0, e1, e12, e13]; (try rfl); done)); (focus rfl))
          | (apply q_skip rfl; (focus (simp only [lk, Nat.reduceEqDiff, reduceIte, e0, e1, e12, e13]; (try rfl); done)); (focus rfl); simp only [Env.put_some]))
      · refine ⟨.inr trivial, ?_⟩
        simp only [lk, sv1, sv2, sv3, Nat.reduceEqDiff, Nat.reduceAdd, Nat.reduceLeDiff, reduceIte, if_false, if_true, mkVal, unLV, List.map, optTmps]
        exact bool_t ⟨hsame, fun j hj => hall j (by omega)⟩
      · omega
  · refine ⟨.inr trivial, ?_⟩
    simp only [lk, sv1, sv2, sv3, Nat.reduceEqDiff, Nat.reduceAdd, Nat.reduceLeDiff, reduceIte, if_false, if_true, mkVal, unLV, List.map, optTmps]
    refine bool_f fun h => ?_
    have := h.1
    omega
end Go.Proofs.Ytmfpcofncfhklaa
