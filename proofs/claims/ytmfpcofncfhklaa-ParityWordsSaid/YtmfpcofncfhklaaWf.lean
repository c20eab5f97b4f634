/- The normal lasso, called; lassos that were just made, as arguments. -/
import Derived.Test.YtmfpcofncfhklaaWe
set_option linter.unusedSimpArgs false
set_option linter.unusedVariables false
namespace Go.Proofs.Ytmfpcofncfhklaa
open Go Go.Pv
open Classical

set_option maxHeartbeats 4000000 in
theorem wnormal_ok {st lo : LV} {sl ll : List Int} (hS : IsInts st sl) (hL : IsInts lo ll) (hf : Fm sl ll) :
    PE 20 [.agg [st, lo]] (fun r => ∃ st' lo' sl' ll', r = .agg [st', lo'] ∧ IsInts st' sl' ∧ IsInts lo' ll' ∧ sl'.length ≤ sl.length ∧ 1 ≤ ll'.length ∧ ll'.length ≤ ll.length ∧ (∀ x ∈ sl', x ∈ sl) ∧ (∀ x ∈ ll', x ∈ ll) ∧ ∀ i, lett sl' ll' i = lett sl ll i) := by
  have hcl : (LV.agg [st, lo]).closed = true := by simp [LV.closed, LV.closed.closedAll, hS.closed, hL.closed]
  have hc1 := hS.sl.cell
  have hc2 := hL.sl.cell
  refine q_fnExR Try.func20 (by decide +kernel) c20 (Nat.le_of_ble_eq_true rfl) (by simp [LV.closed.closedAll, hcl]) ?_
  have h0 : (envOf [LV.agg [st, lo]]).at 0 = .agg [st, lo] := by rw [envOf_at]; rfl
  generalize envOf [LV.agg [st, lo]] = e at *
  unfold l20
  dsimp only
  repeat' (first
      | (apply qc_block)
      | (apply qc_seq)
      | (apply qc_skip; try simp only [Thn, Blkd, reduceIte, Nat.reduceEqDiff])
      | (apply qc_exit; try simp only [Thn, Blkd, reduceIte, Nat.reduceEqDiff, Nat.succ_ne_self])
      | (apply qc_ret; try simp only [Thn, Blkd, reduceIte, Nat.reduceEqDiff])
      | (apply qc_region hm)
      | (apply q_nil; try simp only [Thn, Blkd, reduceIte, Nat.reduceEqDiff])
      | (apply qc_condT; (focus (simp only [lk, Nat.reduceEqDiff, reduceIte, h0]; (try rfl); done)))
      | (apply qc_condF; (focus (simp only [lk, Nat.reduceEqDiff, reduceIte, h0]; (try rfl); done)))
      | (apply q_mv; (focus (first | exact wN | (apply wG; (simp only [lk, Nat.reduceEqDiff, reduceIte, h0]; (try rfl); done)))); (focus (simp only [lk, Nat.reduceEqDiff, reduceIte, h0]; (try rfl); done)))
      | (apply q_cmp; (focus (first | exact wN | (apply wG; (simp only [lk, Nat.reduceEqDiff, reduceIte, h0]; (try rfl); done)))); (focus (simp only [lk, Nat.reduceEqDiff, reduceIte, h0]; (try rfl); done)); (focus (simp only [lk, Nat.reduceEqDiff, reduceIte, h0]; (try rfl); done)); (focus rfl); intro bb hbb; cases bb <;> (simp only [decide_eq_true_eq, decide_eq_false_iff_not, bne_iff_ne, beq_iff_eq, ne_eq, bne_eq_false_iff_eq, beq_eq_false_iff_ne, Int.not_lt, Int.not_le, gt_iff_lt, ge_iff_le, Bool.not_eq_true] at hbb))
      | (apply q_eq; (focus (first | exact wN | (apply wG; (simp only [lk, Nat.reduceEqDiff, reduceIte, h0]; (try rfl); done)))); (focus (simp only [lk, Nat.reduceEqDiff, reduceIte, h0]; (try rfl); done)); (focus (simp only [lk, Nat.reduceEqDiff, reduceIte, h0]; (try rfl); done)); (focus rfl); intro bb hbb; cases bb <;> (try simp only [Bool.false_eq_true, if_false] at hbb))
      | (apply q_bin; (focus (first | exact wN | (apply wG; (simp only [lk, Nat.reduceEqDiff, reduceIte, h0]; (try rfl); done)))); (focus (simp only [lk, Nat.reduceEqDiff, reduceIte, h0]; (try rfl); done)); (focus (simp only [lk, Nat.reduceEqDiff, reduceIte, h0]; (try rfl); done)); (focus rfl))
      | (apply q_faddr; (focus (first | exact wN | (apply wG; (simp only [lk, Nat.reduceEqDiff, reduceIte, h0]; (try rfl); done)))); (focus (simp only [lk, Nat.reduceEqDiff, reduceIte, h0]; (try rfl); done)))
      | (apply q_load; (focus (first | exact wN | (apply wG; (simp only [lk, Nat.reduceEqDiff, reduceIte, h0]; (try rfl); done)))); (focus (simp only [lk, Nat.reduceEqDiff, reduceIte, h0]; (try rfl); done)); (focus (first | rfl | (simp only [Nat.mul_one, Nat.zero_add, *]; (try rfl); done))))
      | (apply q_len; (focus (first | exact wN | (apply wG; (simp only [lk, Nat.reduceEqDiff, reduceIte, h0]; (try rfl); done)))); (focus (simp only [lk, Nat.reduceEqDiff, reduceIte, h0]; (try rfl); done)); (focus (first | rfl | (simp only [Nat.mul_one, Nat.zero_add, *]; (try rfl); done))))
      | (apply q_iaddr; (focus (first | exact wN | (apply wG; (simp only [lk, Nat.reduceEqDiff, reduceIte, h0]; (try rfl); done)))); (focus (simp only [lk, Nat.reduceEqDiff, reduceIte, h0]; (try rfl); done)); (focus (simp only [lk, Nat.reduceEqDiff, reduceIte, h0]; (try rfl); done)); (focus (first | rfl | (simp only [Nat.mul_one, Nat.zero_add, *]; (try rfl); done))))
      | (apply q_max2; (focus (first | exact wN | (apply wG; (simp only [lk, Nat.reduceEqDiff, reduceIte, h0]; (try rfl); done)))); (focus (simp only [lk, Nat.reduceEqDiff, reduceIte, h0]; (try rfl); done)); (focus (simp only [lk, Nat.reduceEqDiff, reduceIte, h0]; (try rfl); done)))
      | (apply q_min2; (focus (first | exact wN | (apply wG; (simp only [lk, Nat.reduceEqDiff, reduceIte, h0]; (try rfl); done)))); (focus (simp only [lk, Nat.reduceEqDiff, reduceIte, h0]; (try rfl); done)); (focus (simp only [lk, Nat.reduceEqDiff, reduceIte, h0]; (try rfl); done)))
      | (apply q_not; (focus (first | exact wN | (apply wG; (simp only [lk, Nat.reduceEqDiff, reduceIte, h0]; (try rfl); done)))); (focus (simp only [lk, Nat.reduceEqDiff, reduceIte, h0]; (try rfl); done)))
      | (apply q_pickT; (focus (first | exact wN | (apply wG; (simp only [lk, Nat.reduceEqDiff, reduceIte, h0]; (try rfl); done)))); (focus (simp only [lk, Nat.reduceEqDiff, reduceIte, h0]; (try rfl); done)); (focus (simp only [lk, Nat.reduceEqDiff, reduceIte, h0]; (try rfl); done)))
      | (apply q_pickF; (focus (first | exact wN | (apply wG; (simp only [lk, Nat.reduceEqDiff, reduceIte, h0]; (try rfl); done)))); (focus (simp only [lk, Nat.reduceEqDiff, reduceIte, h0]; (try rfl); done)); (focus (simp only [lk, Nat.reduceEqDiff, reduceIte, h0]; (try rfl); done)))
      | (apply q_box; (focus (simp only [lk, Nat.reduceEqDiff, reduceIte, h0]; (try rfl); done)); (focus assumption); (focus (simp only [List.all_cons, List.all_nil, isC_int, isC_bool, isC_str, Bool.and_self, *]; done)); (focus rfl))
      | (apply q_loadN; (focus (first | exact wN | (apply wG; (simp only [lk, Nat.reduceEqDiff, reduceIte, h0]; (try rfl); done)))); (focus (simp only [lk, Nat.reduceEqDiff, reduceIte, h0]; (try rfl); done)); (focus rfl); (focus (simp only [List.drop_zero, List.drop_succ_cons, List.take_succ_cons, List.take_zero, List.take_nil]; (try rfl); done)))
      | (apply q_alloc; (focus (first | exact wN | (apply wG; (simp only [lk, Nat.reduceEqDiff, reduceIte, h0]; (try rfl); done)))); try simp only [n_empty, St.n_new, St.n_put, Nat.zero_add, Nat.reduceAdd])
      | (apply q_bslice0; (focus (first | exact wN | (apply wG; (simp only [lk, Nat.reduceEqDiff, reduceIte, h0]; (try rfl); done)))); try simp only [n_empty, St.n_new, St.n_put, Nat.zero_add, Nat.reduceAdd])
      | (apply q_bslice1; (focus (first | exact wN | (apply wG; (simp only [lk, Nat.reduceEqDiff, reduceIte, h0]; (try rfl); done)))); (focus (simp only [lk, Nat.reduceEqDiff, reduceIte, h0]; (try rfl); done)); (focus (first | rfl | assumption | (simp only [isC_int, isC_sref, isC_nils, isC_simm, *]; done))); try simp only [n_empty, St.n_new, St.n_put, Nat.zero_add, Nat.reduceAdd])
      | (apply q_store; (focus (simp only [lk, Nat.reduceEqDiff, reduceIte, h0]; (try rfl); done)); (focus (simp only [lk, Nat.reduceEqDiff, reduceIte, h0]; (try rfl); done)); (focus (first | exact cells_cell (by assumption) | (simp only [cells_agg, cells_int, cells_bool, cells_str, cells_nils, cells_zs, cells_simm, cells_sref, cells_pref, cells_mref, isC_int, isC_bool, isC_str, isC_nils, isC_zs, isC_simm, isC_sref, List.all_cons, List.all_nil, Bool.and_self, if_true, *]; (try rfl); done))); (focus (first | (simp only [St.get_put, St.get_new, St.n_put, St.n_new, n_empty, Nat.zero_add, Nat.reduceAdd, Nat.reduceEqDiff, reduceIte, *]; (try rfl); done))); (focus rfl); (focus rfl); try simp only [splice, List.set_cons_zero, List.set_cons_succ])
      | (apply q_faddrR; (focus (first | exact wN | (apply wG; (simp only [lk, Nat.reduceEqDiff, reduceIte, h0]; (try rfl); done)))); (focus (simp only [lk, Nat.reduceEqDiff, reduceIte, h0]; (try rfl); done)))
      | (apply q_loadR; (focus (first | exact wN | (apply wG; (simp only [lk, Nat.reduceEqDiff, reduceIte, h0]; (try rfl); done)))); (focus (simp only [lk, Nat.reduceEqDiff, reduceIte, h0]; (try rfl); done)); (focus (first | (simp only [St.get_put, St.get_new, St.n_put, St.n_new, n_empty, Nat.zero_add, Nat.reduceAdd, Nat.reduceEqDiff, reduceIte, *]; (try rfl); done))); (focus (first | rfl | (simp only [Nat.mul_one, Nat.zero_add, *]; (try rfl); done))))
      | (apply q_loadRN; (focus (first | exact wN | (apply wG; (simp only [lk, Nat.reduceEqDiff, reduceIte, h0]; (try rfl); done)))); (focus (simp only [lk, Nat.reduceEqDiff, reduceIte, h0]; (try rfl); done)); (focus (first | (simp only [St.get_put, St.get_new, St.n_put, St.n_new, n_empty, Nat.zero_add, Nat.reduceAdd, Nat.reduceEqDiff, reduceIte, *]; (try rfl); done))); (focus rfl); (focus (simp only [List.drop_zero, List.drop_succ_cons, List.take_succ_cons, List.take_zero, List.take_nil]; (try rfl); done)))
      | (apply q_ext; (focus (first | exact wN | (apply wG; (simp only [lk, Nat.reduceEqDiff, reduceIte, h0]; (try rfl); done)))); (focus (simp only [lk, Nat.reduceEqDiff, reduceIte, h0]; (try rfl); done)); (focus rfl))
      | (apply q_skip rfl; (focus (simp only [lk, Nat.reduceEqDiff, reduceIte, h0]; (try rfl); done)); (focus rfl); simp only [Env.put_some]))
  refine q_pureB hG0 (formed_ok hS hL) (by first | exact wN | (apply wG; (simp only [lk, Nat.reduceEqDiff, reduceIte, h0]; (try rfl); done))) (by simp only [List.map, lk, Nat.reduceEqDiff, reduceIte, h0]; try rfl) (fun bb hbb => ⟨by first | trivial | (simp only [Chks, wantedG, LOp.run, Env.put_some, Env.put_none, lk, sv1, sv2, sv3, Nat.reduceEqDiff, Nat.reduceAdd, Nat.reduceLeDiff, reduceIte, if_false, if_true, mkVal, unLV, List.map, optTmps, beq_self_eq_true, reduceCtorEq, false_or, true_and, and_true, Option.some.injEq, *]; done), ?_⟩)
  simp only [Env.put_some]
  cases bb <;> simp only [decide_eq_true_eq, decide_eq_false_iff_not] at hbb
  · exact absurd hf hbb
  repeat' (first
      | (apply qc_block)
      | (apply qc_seq)
      | (apply qc_skip; try simp only [Thn, Blkd, reduceIte, Nat.reduceEqDiff])
      | (apply qc_exit; try simp only [Thn, Blkd, reduceIte, Nat.reduceEqDiff, Nat.succ_ne_self])
      | (apply qc_ret; try simp only [Thn, Blkd, reduceIte, Nat.reduceEqDiff])
      | (apply qc_region hm)
      | (apply q_nil; try simp only [Thn, Blkd, reduceIte, Nat.reduceEqDiff])
      | (apply qc_condT; (focus (simp only [lk, Nat.reduceEqDiff, reduceIte, h0]; (try rfl); done)))
      | (apply qc_condF; (focus (simp only [lk, Nat.reduceEqDiff, reduceIte, h0]; (try rfl); done)))
      | (apply q_mv; (focus (first | exact wN | (apply wG; (simp only [lk, Nat.reduceEqDiff, reduceIte, h0]; (try rfl); done)))); (focus (simp only [lk, Nat.reduceEqDiff, reduceIte, h0]; (try rfl); done)))
      | (apply q_cmp; (focus (first | exact wN | (apply wG; (simp only [lk, Nat.reduceEqDiff, reduceIte, h0]; (try rfl); done)))); (focus (simp only [lk, Nat.reduceEqDiff, reduceIte, h0]; (try rfl); done)); (focus (simp only [lk, Nat.reduceEqDiff, reduceIte, h0]; (try rfl); done)); (focus rfl); intro bb hbb; cases bb <;> (simp only [decide_eq_true_eq, decide_eq_false_iff_not, bne_iff_ne, beq_iff_eq, ne_eq, bne_eq_false_iff_eq, beq_eq_false_iff_ne, Int.not_lt, Int.not_le, gt_iff_lt, ge_iff_le, Bool.not_eq_true] at hbb))
      | (apply q_eq; (focus (first | exact wN | (apply wG; (simp only [lk, Nat.reduceEqDiff, reduceIte, h0]; (try rfl); done)))); (focus (simp only [lk, Nat.reduceEqDiff, reduceIte, h0]; (try rfl); done)); (focus (simp only [lk, Nat.reduceEqDiff, reduceIte, h0]; (try rfl); done)); (focus rfl); intro bb hbb; cases bb <;> (try simp only [Bool.false_eq_true, if_false] at hbb))
      | (apply q_bin; (focus (first | exact wN | (apply wG; (simp only [lk, Nat.reduceEqDiff, reduceIte, h0]; (try rfl); done)))); (focus (simp only [lk, Nat.reduceEqDiff, reduceIte, h0]; (try rfl); done)); (focus (simp only [lk, Nat.reduceEqDiff, reduceIte, h0]; (try rfl); done)); (focus rfl))
      | (apply q_faddr; (focus (first | exact wN | (apply wG; (simp only [lk, Nat.reduceEqDiff, reduceIte, h0]; (try rfl); done)))); (focus (simp only [lk, Nat.reduceEqDiff, reduceIte, h0]; (try rfl); done)))
      | (apply q_load; (focus (first | exact wN | (apply wG; (simp only [lk, Nat.reduceEqDiff, reduceIte, h0]; (try rfl); done)))); (focus (simp only [lk, Nat.reduceEqDiff, reduceIte, h0]; (try rfl); done)); (focus (first | rfl | (simp only [Nat.mul_one, Nat.zero_add, *]; (try rfl); done))))
      | (apply q_len; (focus (first | exact wN | (apply wG; (simp only [lk, Nat.reduceEqDiff, reduceIte, h0]; (try rfl); done)))); (focus (simp only [lk, Nat.reduceEqDiff, reduceIte, h0]; (try rfl); done)); (focus (first | rfl | (simp only [Nat.mul_one, Nat.zero_add, *]; (try rfl); done))))
      | (apply q_iaddr; (focus (first | exact wN | (apply wG; (simp only [lk, Nat.reduceEqDiff, reduceIte, h0]; (try rfl); done)))); (focus (simp only [lk, Nat.reduceEqDiff, reduceIte, h0]; (try rfl); done)); (focus (simp only [lk, Nat.reduceEqDiff, reduceIte, h0]; (try rfl); done)); (focus (first | rfl | (simp only [Nat.mul_one, Nat.zero_add, *]; (try rfl); done))))
      | (apply q_max2; (focus (first | exact wN | (apply wG; (simp only [lk, Nat.reduceEqDiff, reduceIte, h0]; (try rfl); done)))); (focus (simp only [lk, Nat.reduceEqDiff, reduceIte, h0]; (try rfl); done)); (focus (simp only [lk, Nat.reduceEqDiff, reduceIte, h0]; (try rfl); done)))
      | (apply q_min2; (focus (first | exact wN | (apply wG; (simp only [lk, Nat.reduceEqDiff, reduceIte, h0]; (try rfl); done)))); (focus (simp only [lk, Nat.reduceEqDiff, reduceIte, h0]; (try rfl); done)); (focus (simp only [lk, Nat.reduceEqDiff, reduceIte, h0]; (try rfl); done)))
      | (apply q_not; (focus (first | exact wN | (apply wG; (simp only [lk, Nat.reduceEqDiff, reduceIte, h0]; (try rfl); done)))); (focus (simp only [lk, Nat.reduceEqDiff, reduceIte, h0]; (try rfl); done)))
      | (apply q_pickT; (focus (first | exact wN | (apply wG; (simp only [lk, Nat.reduceEqDiff, reduceIte, h0]; (try rfl); done)))); (focus (simp only [lk, Nat.reduceEqDiff, reduceIte, h0]; (try rfl); done)); (focus (simp only [lk, Nat.reduceEqDiff, reduceIte, h0]; (try rfl); done)))
      | (apply q_pickF; (focus (first | exact wN | (apply wG; (simp only [lk, Nat.reduceEqDiff, reduceIte, h0]; (try rfl); done)))); (focus (simp only [lk, Nat.reduceEqDiff, reduceIte, h0]; (try rfl); done)); (focus (simp only [lk, Nat.reduceEqDiff, reduceIte, h0]; (try rfl); done)))
      | (apply q_box; (focus (simp only [lk, Nat.reduceEqDiff, reduceIte, h0]; (try rfl); done)); (focus assumption); (focus (simp only [List.all_cons, List.all_nil, isC_int, isC_bool, isC_str, Bool.and_self, *]; done)); (focus rfl))
      | (apply q_loadN; (focus (first | exact wN | (apply wG; (simp only [lk, Nat.reduceEqDiff, reduceIte, h0]; (try rfl); done)))); (focus (simp only [lk, Nat.reduceEqDiff, reduceIte, h0]; (try rfl); done)); (focus rfl); (focus (simp only [List.drop_zero, List.drop_succ_cons, List.take_succ_cons, List.take_zero, List.take_nil]; (try rfl); done)))
      | (apply q_alloc; (focus (first | exact wN | (apply wG; (simp only [lk, Nat.reduceEqDiff, reduceIte, h0]; (try rfl); done)))); try simp only [n_empty, St.n_new, St.n_put, Nat.zero_add, Nat.reduceAdd])
      | (apply q_bslice0; (focus (first | exact wN | (apply wG; (simp only [lk, Nat.reduceEqDiff, reduceIte, h0]; (try rfl); done)))); try simp only [n_empty, St.n_new, St.n_put, Nat.zero_add, Nat.reduceAdd])
      | (apply q_bslice1; (focus (first | exact wN | (apply wG; (simp only [lk, Nat.reduceEqDiff, reduceIte, h0]; (try rfl); done)))); (focus (simp only [lk, Nat.reduceEqDiff, reduceIte, h0]; (try rfl); done)); (focus (first | rfl | assumption | (simp only [isC_int, isC_sref, isC_nils, isC_simm, *]; done))); try simp only [n_empty, St.n_new, St.n_put, Nat.zero_add, Nat.reduceAdd])
      | (apply q_store; (focus (simp only [lk, Nat.reduceEqDiff, reduceIte, h0]; (try rfl); done)); (focus (simp only [lk, Nat.reduceEqDiff, reduceIte, h0]; (try rfl); done)); (focus (first | exact cells_cell (by assumption) | (simp only [cells_agg, cells_int, cells_bool, cells_str, cells_nils, cells_zs, cells_simm, cells_sref, cells_pref, cells_mref, isC_int, isC_bool, isC_str, isC_nils, isC_zs, isC_simm, isC_sref, List.all_cons, List.all_nil, Bool.and_self, if_true, *]; (try rfl); done))); (focus (first | (simp only [St.get_put, St.get_new, St.n_put, St.n_new, n_empty, Nat.zero_add, Nat.reduceAdd, Nat.reduceEqDiff, reduceIte, *]; (try rfl); done))); (focus rfl); (focus rfl); try simp only [splice, List.set_cons_zero, List.set_cons_succ])
      | (apply q_faddrR; (focus (first | exact wN | (apply wG; (simp only [lk, Nat.reduceEqDiff, reduceIte, h0]; (try rfl); done)))); (focus (simp only [lk, Nat.reduceEqDiff, reduceIte, h0]; (try rfl); done)))
      | (apply q_loadR; (focus (first | exact wN | (apply wG; (simp only [lk, Nat.reduceEqDiff, reduceIte, h0]; (try rfl); done)))); (focus (simp only [lk, Nat.reduceEqDiff, reduceIte, h0]; (try rfl); done)); (focus (first | (simp only [St.get_put, St.get_new, St.n_put, St.n_new, n_empty, Nat.zero_add, Nat.reduceAdd, Nat.reduceEqDiff, reduceIte, *]; (try rfl); done))); (focus (first | rfl | (simp only [Nat.mul_one, Nat.zero_add, *]; (try rfl); done))))
      | (apply q_loadRN; (focus (first | exact wN | (apply wG; (simp only [lk, Nat.reduceEqDiff, reduceIte, h0]; (try rfl); done)))); (focus (simp only [lk, Nat.reduceEqDiff, reduceIte, h0]; (try rfl); done)); (focus (first | (simp only [St.get_put, St.get_new, St.n_put, St.n_new, n_empty, Nat.zero_add, Nat.reduceAdd, Nat.reduceEqDiff, reduceIte, *]; (try rfl); done))); (focus rfl); (focus (simp only [List.drop_zero, List.drop_succ_cons, List.take_succ_cons, List.take_zero, List.take_nil]; (try rfl); done)))
      | (apply q_ext; (focus (first | exact wN | (apply wG; (simp only [lk, Nat.reduceEqDiff, reduceIte, h0]; (try rfl); done)))); (focus (simp only [lk, Nat.reduceEqDiff, reduceIte, h0]; (try rfl); done)); (focus rfl))
      | (apply q_skip rfl; (focus (simp only [lk, Nat.reduceEqDiff, reduceIte, h0]; (try rfl); done)); (focus rfl); simp only [Env.put_some]))
  refine q_pureEx hG0 (normal_ok hS hL hf) wN (by simp only [lk, sv1, sv2, sv3, Nat.reduceEqDiff, Nat.reduceAdd, Nat.reduceLeDiff, reduceIte, if_false, if_true, mkVal, unLV, List.map, optTmps, h0]) (fun r hr hrc => ⟨trivial, ?_⟩)
  obtain ⟨st', lo', sl', ll', rfl, hS', hL', hrest⟩ := hr
  have hca := hS'.sl.cell
  have hcb := hL'.sl.cell
  simp only [Env.put_some]
  refine q_storeG (i := 0) (o := 0) (n := 2) (cs := [.nils, .nils]) (vs := [st', lo']) (cs' := [st', lo']) (v := .agg [st', lo']) (by simp only [lk, sv1, sv2, sv3, Nat.reduceEqDiff, Nat.reduceAdd, Nat.reduceLeDiff, reduceIte, if_false, if_true, mkVal, unLV, List.map, optTmps, n_empty]) (by simp only [lk, sv1, sv2, sv3, Nat.reduceEqDiff, Nat.reduceAdd, Nat.reduceLeDiff, reduceIte, if_false, if_true, mkVal, unLV, List.map, optTmps]) (by simp [cells_agg, hca, hcb]) (by simp [n_empty]) rfl (by simp) rfl ?_
  repeat' (first
      | (apply qc_block)
      | (apply qc_seq)
      | (apply qc_skip; try simp only [Thn, Blkd, reduceIte, Nat.reduceEqDiff])
      | (apply qc_exit; try simp only [Thn, Blkd, reduceIte, Nat.reduceEqDiff, Nat.succ_ne_self])
      | (apply qc_ret; try simp only [Thn, Blkd, reduceIte, Nat.reduceEqDiff])
      | (apply qc_region hm)
      | (apply q_nil; try simp only [Thn, Blkd, reduceIte, Nat.reduceEqDiff])
      | (apply qc_condT; (focus (simp only [lk, Nat.reduceEqDiff, reduceIte, h0]; (try rfl); done)))
      | (apply qc_condF; (focus (simp only [lk, Nat.reduceEqDiff, reduceIte, h0]; (try rfl); done)))
      | (apply q_mv; (focus (first | exact wN | (apply wG; (simp only [lk, Nat.reduceEqDiff, reduceIte, h0]; (try rfl); done)))); (focus (simp only [lk, Nat.reduceEqDiff, reduceIte, h0]; (try rfl); done)))
      | (apply q_cmp; (focus (first | exact wN | (apply wG; (simp only [lk, Nat.reduceEqDiff, reduceIte, h0]; (try rfl); done)))); (focus (simp only [lk, Nat.reduceEqDiff, reduceIte, h0]; (try rfl); done)); (focus (simp only [lk, Nat.reduceEqDiff, reduceIte, h0]; (try rfl); done)); (focus rfl); intro bb hbb; cases bb <;> (simp only [decide_eq_true_eq, decide_eq_false_iff_not, bne_iff_ne, beq_iff_eq, ne_eq, bne_eq_false_iff_eq, beq_eq_false_iff_ne, Int.not_lt, Int.not_le, gt_iff_lt, ge_iff_le, Bool.not_eq_true] at hbb))
      | (apply q_eq; (focus (first | exact wN | (apply wG; (simp only [lk, Nat.reduceEqDiff, reduceIte, h0]; (try rfl); done)))); (focus (simp only [lk, Nat.reduceEqDiff, reduceIte, h0]; (try rfl); done)); (focus (simp only [lk, Nat.reduceEqDiff, reduceIte, h0]; (try rfl); done)); (focus rfl); intro bb hbb; cases bb <;> (try simp only [Bool.false_eq_true, if_false] at hbb))
      | (apply q_bin; (focus (first | exact wN | (apply wG; (simp only [lk, Nat.reduceEqDiff, reduceIte, h0]; (try rfl); done)))); (focus (simp only [lk, Nat.reduceEqDiff, reduceIte, h0]; (try rfl); done)); (focus (simp only [lk, Nat.reduceEqDiff, reduceIte, h0]; (try rfl); done)); (focus rfl))
      | (apply q_faddr; (focus (first | exact wN | (apply wG; (simp only [lk, Nat.reduceEqDiff, reduceIte, h0]; (try rfl); done)))); (focus (simp only [lk, Nat.reduceEqDiff, reduceIte, h0]; (try rfl); done)))
      | (apply q_load; (focus (first | exact wN | (apply wG; (simp only [lk, Nat.reduceEqDiff, reduceIte, h0]; (try rfl); done)))); (focus (simp only [lk, Nat.reduceEqDiff, reduceIte, h0]; (try rfl); done)); (focus (first | rfl | (simp only [Nat.mul_one, Nat.zero_add, *]; (try rfl); done))))
      | (apply q_len; (focus (first | exact wN | (apply wG; (simp only [lk, Nat.reduceEqDiff, reduceIte, h0]; (try rfl); done)))); (focus (simp only [lk, Nat.reduceEqDiff, reduceIte, h0]; (try rfl); done)); (focus (first | rfl | (simp only [Nat.mul_one, Nat.zero_add, *]; (try rfl); done))))
      | (apply q_iaddr; (focus (first | exact wN | (apply wG; (simp only [lk, Nat.reduceEqDiff, reduceIte, h0]; (try rfl); done)))); (focus (simp only [lk, Nat.reduceEqDiff, reduceIte, h0]; (try rfl); done)); (focus (simp only [lk, Nat.reduceEqDiff, reduceIte, h0]; (try rfl); done)); (focus (first | rfl | (simp only [Nat.mul_one, Nat.zero_add, *]; (try rfl); done))))
      | (apply q_max2; (focus (first | exact wN | (apply wG; (simp only [lk, Nat.reduceEqDiff, reduceIte, h0]; (try rfl); done)))); (focus (simp only [lk, Nat.reduceEqDiff, reduceIte, h0]; (try rfl); done)); (focus (simp only [lk, Nat.reduceEqDiff, reduceIte, h0]; (try rfl); done)))
      | (apply q_min2; (focus (first | exact wN | (apply wG; (simp only [lk, Nat.reduceEqDiff, reduceIte, h0]; (try rfl); done)))); (focus (simp only [lk, Nat.reduceEqDiff, reduceIte, h0]; (try rfl); done)); (focus (simp only [lk, Nat.reduceEqDiff, reduceIte, h0]; (try rfl); done)))
      | (apply q_not; (focus (first | exact wN | (apply wG; (simp only [lk, Nat.reduceEqDiff, reduceIte, h0]; (try rfl); done)))); (focus (simp only [lk, Nat.reduceEqDiff, reduceIte, h0]; (try rfl); done)))
      | (apply q_pickT; (focus (first | exact wN | (apply wG; (simp only [lk, Nat.reduceEqDiff, reduceIte, h0]; (try rfl); done)))); (focus (simp only [lk, Nat.reduceEqDiff, reduceIte, h0]; (try rfl); done)); (focus (simp only [lk, Nat.reduceEqDiff, reduceIte, h0]; (try rfl); done)))
      | (apply q_pickF; (focus (first | exact wN | (apply wG; (simp only [lk, Nat.reduceEqDiff, reduceIte, h0]; (try rfl); done)))); (focus (simp only [lk, Nat.reduceEqDiff, reduceIte, h0]; (try rfl); done)); (focus (simp only [lk, Nat.reduceEqDiff, reduceIte, h0]; (try rfl); done)))
      | (apply q_box; (focus (simp only [lk, Nat.reduceEqDiff, reduceIte, h0]; (try rfl); done)); (focus assumption); (focus (simp only [List.all_cons, List.all_nil, isC_int, isC_bool, isC_str, Bool.and_self, *]; done)); (focus rfl))
      | (apply q_loadN; (focus (first | exact wN | (apply wG; (simp only [lk, Nat.reduceEqDiff, reduceIte, h0]; (try rfl); done)))); (focus (simp only [lk, Nat.reduceEqDiff, reduceIte, h0]; (try rfl); done)); (focus rfl); (focus (simp only [List.drop_zero, List.drop_succ_cons, List.take_succ_cons, List.take_zero, List.take_nil]; (try rfl); done)))
      | (apply q_alloc; (focus (first | exact wN | (apply wG; (simp only [lk, Nat.reduceEqDiff, reduceIte, h0]; (try rfl); done)))); try simp only [n_empty, St.n_new, St.n_put, Nat.zero_add, Nat.reduceAdd])
      | (apply q_bslice0; (focus (first | exact wN | (apply wG; (simp only [lk, Nat.reduceEqDiff, reduceIte, h0]; (try rfl); done)))); try simp only [n_empty, St.n_new, St.n_put, Nat.zero_add, Nat.reduceAdd])
      | (apply q_bslice1; (focus (first | exact wN | (apply wG; (simp only [lk, Nat.reduceEqDiff, reduceIte, h0]; (try rfl); done)))); (focus (simp only [lk, Nat.reduceEqDiff, reduceIte, h0]; (try rfl); done)); (focus (first | rfl | assumption | (simp only [isC_int, isC_sref, isC_nils, isC_simm, *]; done))); try simp only [n_empty, St.n_new, St.n_put, Nat.zero_add, Nat.reduceAdd])
      | (apply q_store; (focus (simp only [lk, Nat.reduceEqDiff, reduceIte, h0]; (try rfl); done)); (focus (simp only [lk, Nat.reduceEqDiff, reduceIte, h0]; (try rfl); done)); (focus (first | exact cells_cell (by assumption) | (simp only [cells_agg, cells_int, cells_bool, cells_str, cells_nils, cells_zs, cells_simm, cells_sref, cells_pref, cells_mref, isC_int, isC_bool, isC_str, isC_nils, isC_zs, isC_simm, isC_sref, List.all_cons, List.all_nil, Bool.and_self, if_true, *]; (try rfl); done))); (focus (first | (simp only [St.get_put, St.get_new, St.n_put, St.n_new, n_empty, Nat.zero_add, Nat.reduceAdd, Nat.reduceEqDiff, reduceIte, *]; (try rfl); done))); (focus rfl); (focus rfl); try simp only [splice, List.set_cons_zero, List.set_cons_succ])
      | (apply q_faddrR; (focus (first | exact wN | (apply wG; (simp only [lk, Nat.reduceEqDiff, reduceIte, h0]; (try rfl); done)))); (focus (simp only [lk, Nat.reduceEqDiff, reduceIte, h0]; (try rfl); done)))
      | (apply q_loadR; (focus (first | exact wN | (apply wG; (simp only [lk, Nat.reduceEqDiff, reduceIte, h0]; (try rfl); done)))); (focus (simp only [lk, Nat.reduceEqDiff, reduceIte, h0]; (try rfl); done)); (focus (first | (simp only [St.get_put, St.get_new, St.n_put, St.n_new, n_empty, Nat.zero_add, Nat.reduceAdd, Nat.reduceEqDiff, reduceIte, *]; (try rfl); done))); (focus (first | rfl | (simp only [Nat.mul_one, Nat.zero_add, *]; (try rfl); done))))
      | (apply q_loadRN; (focus (first | exact wN | (apply wG; (simp only [lk, Nat.reduceEqDiff, reduceIte, h0]; (try rfl); done)))); (focus (simp only [lk, Nat.reduceEqDiff, reduceIte, h0]; (try rfl); done)); (focus (first | (simp only [St.get_put, St.get_new, St.n_put, St.n_new, n_empty, Nat.zero_add, Nat.reduceAdd, Nat.reduceEqDiff, reduceIte, *]; (try rfl); done))); (focus rfl); (focus (simp only [List.drop_zero, List.drop_succ_cons, List.take_succ_cons, List.take_zero, List.take_nil]; (try rfl); done)))
      | (apply q_ext; (focus (first | exact wN | (apply wG; (simp only [lk, Nat.reduceEqDiff, reduceIte, h0]; (try rfl); done)))); (focus (simp only [lk, Nat.reduceEqDiff, reduceIte, h0]; (try rfl); done)); (focus rfl))
      | (apply q_skip rfl; (focus (simp only [lk, Nat.reduceEqDiff, reduceIte, h0]; (try rfl); done)); (focus rfl); simp only [Env.put_some]))
  exact ⟨.inr trivial, .agg [st', lo'], by simp [resVal, resOne, mkVal], .agg [st', lo'], _, frzD_closed hrc, hrc, _, _, _, _, rfl, hS', hL', hrest⟩

/-- A block is there, with these cells. -/
def Has (s : St) (id : Nat) (cs : List LV) : Prop := ∃ m, s.get id = some (.cells m cs)
/-- A list, closed or still written. -/
def Fld (s : St) (v : LV) (l : List Int) : Prop := IsInts v l ∨ ∃ a, v = .sref a 0 l.length 1 ∧ Has s a (ints l) ∧ IsInts (.simm (ints l) l.length) l
theorem Fld.mono {s s' : St} {v : LV} {l : List Int} (h : Fld s v l) (hs : ∀ id cs, Has s id cs → Has s' id cs) : Fld s' v l := by
  rcases h with h | ⟨a, h1, h2, h3⟩
  · exact .inl h
  · exact .inr ⟨a, h1, hs _ _ h2, h3⟩
theorem Fld.cell {s : St} {v : LV} {l : List Int} (h : Fld s v l) : isCell v = true := by
  rcases h with h | ⟨a, rfl, h2, h3⟩
  · exact h.sl.cell
  · rfl
theorem frz_fld {s : St} {v : LV} {l : List Int} (n : Nat) (h : Fld s v l) : ∃ v' s', frz (n + 2) v s = some (v', s') ∧ IsInts v' l ∧ s'.n = s.n ∧ ∀ id cs, Has s id cs → Has s' id cs := by
  rcases h with h | ⟨a, rfl, ⟨m, hm⟩, h3⟩
  · exact ⟨v, s, frz_closed h.closed, h, rfl, fun _ _ h => h⟩
  · refine ⟨_, s.put a (.cells (if m = .mut then .app else m) (ints l)), ?_, h3, rfl, fun id cs hh => ?_⟩
    · unfold frz
      simp only [LV.closed, Bool.false_eq_true, if_false, hm, Nat.zero_add, Nat.mul_one, ints_length, Nat.le_refl, if_true, frzAll_closed (ints_closed l), Option.bind_eq_bind, Option.bind_some, List.drop_zero]
      rw [List.take_of_length_le (by simp)]
    · by_cases he : id = a
      · subst he
        obtain ⟨m', hh⟩ := hh
        rw [hm] at hh
        cases hh
        exact ⟨_, by rw [St.get_put, if_pos rfl]⟩
      · obtain ⟨m', hh⟩ := hh
        exact ⟨m', by rw [St.get_put, if_neg he]; exact hh⟩
theorem frz_agg2 {s s1 s2 : St} {x y x' y' : LV} (n : Nat) (hx : frz n x s = some (x', s1)) (hy : frz n y s1 = some (y', s2)) : ∃ z s3, frz (n + 1) (.agg [x, y]) s = some (z, s3) ∧ (z = .agg [x, y] ∧ s3 = s ∧ (LV.agg [x, y]).closed = true ∨ z = .agg [x', y'] ∧ s3 = s2) := by
  by_cases hc : (LV.agg [x, y]).closed = true
  · exact ⟨_, _, frz_closed hc, .inl ⟨rfl, rfl, hc⟩⟩
  · have hc' : (LV.agg [x, y]).closed = false := by simpa using hc
    exact ⟨_, _, frz_agg n hc' (by simp [frz.frzAll, hx, hy]), .inr ⟨rfl, rfl⟩⟩
theorem IsInts.of_closed {s : St} {v : LV} {l : List Int} (h : Fld s v l) (hc : v.closed = true) : IsInts v l := by
  rcases h with h | ⟨a, rfl, _⟩
  · exact h
  · simp [LV.closed] at hc
/-- A value ahead of a lasso. -/
theorem frz_lasso {s : St} {c x y : LV} {la lb : List Int} (hcc : c.closed = true) (hx : Fld s x la) (hy : Fld s y lb) :
    ∃ x' y' s', frz.frzAll (frz frzDepth) [c, .agg [x, y]] s = some ([c, .agg [x', y']], s') ∧ IsInts x' la ∧ IsInts y' lb ∧ s'.n = s.n ∧ ∀ id cs, Has s id cs → Has s' id cs := by
  obtain ⟨x', s1, h1, h2, h3, h4⟩ := frz_fld 37 hx
  obtain ⟨y', s2, k1, k2, k3, k4⟩ := frz_fld 37 (hy.mono h4)
  obtain ⟨z, s3, g1, g2⟩ := frz_agg2 39 h1 k1
  have hd : frzDepth = 39 + 1 := rfl
  rcases g2 with ⟨rfl, rfl, hc⟩ | ⟨rfl, rfl⟩
  · have hc' : x.closed = true ∧ y.closed = true := by simpa [LV.closed, LV.closed.closedAll] using hc
    exact ⟨x, y, s3, by simp [frz.frzAll, hd, frz_closed hcc, g1], IsInts.of_closed hx hc'.1, IsInts.of_closed hy hc'.2, rfl, fun _ _ h => h⟩
  · exact ⟨x', y', s3, by simp [frz.frzAll, hd, frz_closed hcc, g1], h2, k2, by rw [k3, h3], fun id cs h => k4 id cs (h4 id cs h)⟩

theorem q_pureF {P : Program} {G : Globs} {K : Env → St → Prop} {l : List LOper} {e : Env} {s s' : St} {g : Option (Nat × Bool)} {fl : Bool} (hG : ∀ x ∈ G, LV.closed.closedAll x.2 = true) {dst : Option Nat} {chk : List (Nat × Option (Nat × Bool) × LOp)} {ops : List Opd} {vs vs' : List LV} {fv r : LV}
    (hp : PureOk P G fv vs' r) (hg : wantedG g e = some true) (ha : ops.map (·.ev e) = vs) (hfz : frz.frzAll (frz frzDepth) vs s = some (vs', s'))
    (hc : Chks chk (e.put dst r) s') (h : W P G K l (e.put dst r) s') : W P G K (⟨dst, .call (.c fv) ops, g, chk, fl⟩ :: l) e s :=
  q_call hg rfl ha (call_frz hfz (pure_call hG hp ⟨hc, h⟩))
theorem row_ints {v : LV} {l : List Int} (hv : IsInts v l) : lenLV v = some l.length ∧ ∀ s, rowOf s 1 l.length v = some (ints l) := by
  have hsl := hv.sl
  clear hv
  generalize hc : ints l = cs at hsl
  generalize hn : l.length = n at hsl
  cases hsl with
  | nil => exact ⟨rfl, fun _ => rfl⟩
  | zs => exact ⟨rfl, fun _ => rfl⟩
  | simm => exact ⟨rfl, fun _ => rowOf_simm (by rw [← hc]; simpa using hn)⟩
end Go.Proofs.Ytmfpcofncfhklaa
