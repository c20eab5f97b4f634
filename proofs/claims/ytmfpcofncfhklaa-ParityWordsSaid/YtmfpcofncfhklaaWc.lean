/- A list copied, and a list turned in a circle. -/
import Derived.Test.YtmfpcofncfhklaaWb
set_option linter.unusedSimpArgs false
set_option linter.unusedVariables false
namespace Go.Proofs.Ytmfpcofncfhklaa
open Go Go.Pv
open Classical

theorem mk_ints {l : List Int} (hl : l.length ≤ 64) (hr : ∀ x ∈ l, inI64 x) : IsInts (.simm (ints l) l.length) l := by
  have : maxLen = 9223372036854775807 := by decide
  exact ⟨.simm _ _, by omega, hr⟩

theorem fin_ints {e : Env} {t : Nat} {s : St} {j n : Nat} {l : List Int} (hv : e.at t = .sref j 0 n 1) (hn : n = l.length) (hs : s.get j = some (.cells .mut (ints l))) (hlm : IsInts (.simm (ints l) l.length) l) :
    ∃ r s', frz frzDepth (e.at t) s = some (r, s') ∧ r.closed = true ∧ IsInts r l := by
  subst hn
  rw [hv]
  exact ⟨_, _, frz_sref hs (by simp) (ints_closed l), hlm.closed, hlm⟩

set_option maxHeartbeats 4000000 in
theorem cloneEx {v : LV} {l : List Int} (hv : IsInts v l) (hl : l.length ≤ 64) : PE 39 [v] (fun r => IsInts r l) := by
  refine q_fnEx (t := 2) hm Try.func39 (by decide +kernel) c39 (Nat.le_of_ble_eq_true rfl) (by simp [LV.closed.closedAll, hv.closed]) rfl ?_
  have hsl := hv.sl
  have hr := hv.rng
  have hlm := mk_ints hl hr
  clear hv
  have hv' : v = .nils ∧ l = [] ∨ eqLV .slc v .nils = some false ∧ lenLV v = some l.length ∧ ∀ s, rowOf s 1 l.length v = some (ints l) := by
    generalize hc : ints l = cs at hsl
    generalize hn : l.length = n at hsl
    cases hsl with
    | nil => exact .inl ⟨rfl, by simpa [ints] using hc⟩
    | zs => exact .inr ⟨rfl, rfl, fun _ => rfl⟩
    | simm => exact .inr ⟨rfl, rfl, fun _ => rowOf_simm (by rw [← hc]; simpa using hn)⟩
  have h0 : (envOf [v]).at 0 = v := by rw [envOf_at]; rfl
  generalize envOf [v] = e at *
  unfold l39
  dsimp only
  rcases hv' with ⟨rfl, rfl⟩ | ⟨hne, hlen, hrow⟩
  · repeat' (first
        | (apply qc_block)
        | (apply qc_seq)
        | (apply qc_skip; try simp only [Thn, Blkd, reduceIte, Nat.reduceEqDiff])
        | (apply qc_exit; try simp only [Thn, Blkd, reduceIte, Nat.reduceEqDiff, Nat.succ_ne_self])
        | (apply qc_ret; try simp only [Thn, Blkd, reduceIte, Nat.reduceEqDiff])
        | (apply qc_region hm)
        | (apply q_nil; try simp only [Thn, Blkd, reduceIte, Nat.reduceEqDiff])
        | (apply qc_condT; (focus (simp only [lk, Nat.reduceEqDiff, reduceIte, h0]; (try rfl); done)))
        | (apply qc_condF; (focus (simp only [lk, Nat.reduceEqDiff, reduceIte, h0]; (try rfl); done)))
        | (apply q_mv; (focus (first | exact wN | (apply wG; (simp only [lk, Nat.reduceEqDiff, reduceIte, h0]; (try rfl); done)))); (focus (simp only [lk, Nat.reduceEqDiff, reduceIte, h0]; (try rfl); done)))
        | (apply q_cmp; (focus (first | exact wN | (apply wG; (simp only [lk, Nat.reduceEqDiff, reduceIte, h0]; (try rfl); done)))); (focus (simp only [lk, Nat.reduceEqDiff, reduceIte, h0]; (try rfl); done)); (focus (simp only [lk, Nat.reduceEqDiff, reduceIte, h0]; (try rfl); done)); (focus rfl); intro bb hbb; cases bb <;> (simp only [decide_eq_true_eq, decide_eq_false_iff_not, bne_iff_ne, beq_iff_eq, ne_eq, bne_eq_false_iff_eq, beq_eq_false_iff_ne, Int.not_lt, Int.not_le, gt_iff_lt, ge_iff_le, Bool.not_eq_true] at hbb))
        | (apply q_eq; (focus (first | exact wN | (apply wG; (simp only [lk, Nat.reduceEqDiff, reduceIte, h0]; (try rfl); done)))); (focus (simp only [lk, Nat.reduceEqDiff, reduceIte, h0]; (try rfl); done)); (focus (simp only [lk, Nat.reduceEqDiff, reduceIte, h0]; (try rfl); done)); (focus rfl); intro bb hbb; cases bb <;> (try simp only [Bool.false_eq_true, if_false] at hbb))
        | (apply q_bin; (focus (first | exact wN | (apply wG; (simp only [lk, Nat.reduceEqDiff, reduceIte, h0]; (try rfl); done)))); (focus (simp only [lk, Nat.reduceEqDiff, reduceIte, h0]; (try rfl); done)); (focus (simp only [lk, Nat.reduceEqDiff, reduceIte, h0]; (try rfl); done)); (focus rfl))
        | (apply q_faddr; (focus (first | exact wN | (apply wG; (simp only [lk, Nat.reduceEqDiff, reduceIte, h0]; (try rfl); done)))); (focus (simp only [lk, Nat.reduceEqDiff, reduceIte, h0]; (try rfl); done)))
        | (apply q_load; (focus (first | exact wN | (apply wG; (simp only [lk, Nat.reduceEqDiff, reduceIte, h0]; (try rfl); done)))); (focus (simp only [lk, Nat.reduceEqDiff, reduceIte, h0]; (try rfl); done)); (focus (first | rfl | (simp only [Nat.mul_one, Nat.zero_add, *]; (try rfl); done))))
        | (apply q_len; (focus (first | exact wN | (apply wG; (simp only [lk, Nat.reduceEqDiff, reduceIte, h0]; (try rfl); done)))); (focus (simp only [lk, Nat.reduceEqDiff, reduceIte, h0]; (try rfl); done)); (focus (first | rfl | (simp only [Nat.mul_one, Nat.zero_add, *]; (try rfl); done))))
        | (apply q_iaddr; (focus (first | exact wN | (apply wG; (simp only [lk, Nat.reduceEqDiff, reduceIte, h0]; (try rfl); done)))); (focus (simp only [lk, Nat.reduceEqDiff, reduceIte, h0]; (try rfl); done)); (focus (simp only [lk, Nat.reduceEqDiff, reduceIte, h0]; (try rfl); done)); (focus (first | rfl | (simp only [Nat.mul_one, Nat.zero_add, *]; (try rfl); done))))
        | (apply q_max2; (focus (first | exact wN | (apply wG; (simp only [lk, Nat.reduceEqDiff, reduceIte, h0]; (try rfl); done)))); (focus (simp only [lk, Nat.reduceEqDiff, reduceIte, h0]; (try rfl); done)); (focus (simp only [lk, Nat.reduceEqDiff, reduceIte, h0]; (try rfl); done)))
        | (apply q_min2; (focus (first | exact wN | (apply wG; (simp only [lk, Nat.reduceEqDiff, reduceIte, h0]; (try rfl); done)))); (focus (simp only [lk, Nat.reduceEqDiff, reduceIte, h0]; (try rfl); done)); (focus (simp only [lk, Nat.reduceEqDiff, reduceIte, h0]; (try rfl); done)))
        | (apply q_not; (focus (first | exact wN | (apply wG; (simp only [lk, Nat.reduceEqDiff, reduceIte, h0]; (try rfl); done)))); (focus (simp only [lk, Nat.reduceEqDiff, reduceIte, h0]; (try rfl); done)))
        | (apply q_pickT; (focus (first | exact wN | (apply wG; (simp only [lk, Nat.reduceEqDiff, reduceIte, h0]; (try rfl); done)))); (focus (simp only [lk, Nat.reduceEqDiff, reduceIte, h0]; (try rfl); done)); (focus (simp only [lk, Nat.reduceEqDiff, reduceIte, h0]; (try rfl); done)))
        | (apply q_pickF; (focus (first | exact wN | (apply wG; (simp only [lk, Nat.reduceEqDiff, reduceIte, h0]; (try rfl); done)))); (focus (simp only [lk, Nat.reduceEqDiff, reduceIte, h0]; (try rfl); done)); (focus (simp only [lk, Nat.reduceEqDiff, reduceIte, h0]; (try rfl); done)))
        | (apply q_box; (focus (simp only [lk, Nat.reduceEqDiff, reduceIte, h0]; (try rfl); done)); (focus assumption); (focus (simp only [List.all_cons, List.all_nil, isC_int, isC_bool, isC_str, Bool.and_self, *]; done)); (focus rfl))
        | (apply q_loadN; (focus (first | exact wN | (apply wG; (simp only [lk, Nat.reduceEqDiff, reduceIte, h0]; (try rfl); done)))); (focus (simp only [lk, Nat.reduceEqDiff, reduceIte, h0]; (try rfl); done)); (focus rfl); (focus (simp only [List.drop_zero, List.drop_succ_cons, List.take_succ_cons, List.take_zero, List.take_nil]; (try rfl); done)))
        | (apply q_alloc; (focus (first | exact wN | (apply wG; (simp only [lk, Nat.reduceEqDiff, reduceIte, h0]; (try rfl); done)))); try simp only [n_empty, St.n_new, St.n_put, Nat.zero_add, Nat.reduceAdd])
        | (apply q_bslice0; (focus (first | exact wN | (apply wG; (simp only [lk, Nat.reduceEqDiff, reduceIte, h0]; (try rfl); done)))); try simp only [n_empty, St.n_new, St.n_put, Nat.zero_add, Nat.reduceAdd])
        | (apply q_bslice1; (focus (first | exact wN | (apply wG; (simp only [lk, Nat.reduceEqDiff, reduceIte, h0]; (try rfl); done)))); (focus (simp only [lk, Nat.reduceEqDiff, reduceIte, h0]; (try rfl); done)); (focus (first | rfl | assumption | (simp only [isC_int, isC_sref, isC_nils, isC_simm, *]; done))); try simp only [n_empty, St.n_new, St.n_put, Nat.zero_add, Nat.reduceAdd])
        | (apply q_store; (focus (simp only [lk, Nat.reduceEqDiff, reduceIte, h0]; (try rfl); done)); (focus (simp only [lk, Nat.reduceEqDiff, reduceIte, h0]; (try rfl); done)); (focus (first | exact cells_cell (by assumption) | (simp only [cells_agg, cells_int, cells_bool, cells_str, cells_nils, cells_zs, cells_simm, cells_sref, cells_pref, cells_mref, isC_int, isC_bool, isC_str, isC_nils, isC_zs, isC_simm, isC_sref, List.all_cons, List.all_nil, Bool.and_self, if_true, *]; (try rfl); done))); (focus (first | (simp only [St.get_put, St.get_new, St.n_put, St.n_new, n_empty, Nat.zero_add, Nat.reduceAdd, Nat.reduceEqDiff, reduceIte, *]; (try rfl); done))); (focus rfl); (focus rfl); try simp only [splice, List.set_cons_zero, List.set_cons_succ])
        | (apply q_faddrR; (focus (first | exact wN | (apply wG; (simp only [lk, Nat.reduceEqDiff, reduceIte, h0]; (try rfl); done)))); (focus (simp only [lk, Nat.reduceEqDiff, reduceIte, h0]; (try rfl); done)))
        | (apply q_loadR; (focus (first | exact wN | (apply wG; (simp only [lk, Nat.reduceEqDiff, reduceIte, h0]; (try rfl); done)))); (focus (simp only [lk, Nat.reduceEqDiff, reduceIte, h0]; (try rfl); done)); (focus (first | (simp only [St.get_put, St.get_new, St.n_put, St.n_new, n_empty, Nat.zero_add, Nat.reduceAdd, Nat.reduceEqDiff, reduceIte, *]; (try rfl); done))); (focus (first | rfl | (simp only [Nat.mul_one, Nat.zero_add, *]; (try rfl); done))))
        | (apply q_loadRN; (focus (first | exact wN | (apply wG; (simp only [lk, Nat.reduceEqDiff, reduceIte, h0]; (try rfl); done)))); (focus (simp only [lk, Nat.reduceEqDiff, reduceIte, h0]; (try rfl); done)); (focus (first | (simp only [St.get_put, St.get_new, St.n_put, St.n_new, n_empty, Nat.zero_add, Nat.reduceAdd, Nat.reduceEqDiff, reduceIte, *]; (try rfl); done))); (focus rfl); (focus (simp only [List.drop_zero, List.drop_succ_cons, List.take_succ_cons, List.take_zero, List.take_nil]; (try rfl); done)))
        | (apply q_ext; (focus (first | exact wN | (apply wG; (simp only [lk, Nat.reduceEqDiff, reduceIte, h0]; (try rfl); done)))); (focus (simp only [lk, Nat.reduceEqDiff, reduceIte, h0]; (try rfl); done)); (focus rfl))
        | (apply q_skip rfl; (focus (simp only [lk, Nat.reduceEqDiff, reduceIte, h0]; (try rfl); done)); (focus rfl); simp only [Env.put_some]))
    · cases hbb
    · refine ⟨.inr trivial, .nils, St.empty, ?_, rfl, .nil, by simp, hr⟩
      simp only [lk, sv1, sv2, sv3, Nat.reduceEqDiff, Nat.reduceAdd, Nat.reduceLeDiff, reduceIte, if_false, if_true, mkVal, unLV, List.map, optTmps]
      exact frzD_closed rfl
  · repeat' (first
        | (apply qc_block)
        | (apply qc_seq)
        | (apply qc_skip; try simp only [Thn, Blkd, reduceIte, Nat.reduceEqDiff])
        | (apply qc_exit; try simp only [Thn, Blkd, reduceIte, Nat.reduceEqDiff, Nat.succ_ne_self])
        | (apply qc_ret; try simp only [Thn, Blkd, reduceIte, Nat.reduceEqDiff])
        | (apply qc_region hm)
        | (apply q_nil; try simp only [Thn, Blkd, reduceIte, Nat.reduceEqDiff])
        | (apply qc_condT; (focus (simp only [lk, Nat.reduceEqDiff, reduceIte, h0]; (try rfl); done)))
        | (apply qc_condF; (focus (simp only [lk, Nat.reduceEqDiff, reduceIte, h0]; (try rfl); done)))
        | (apply q_mv; (focus (first | exact wN | (apply wG; (simp only [lk, Nat.reduceEqDiff, reduceIte, h0]; (try rfl); done)))); (focus (simp only [lk, Nat.reduceEqDiff, reduceIte, h0]; (try rfl); done)))
        | (apply q_cmp; (focus (first | exact wN | (apply wG; (simp only [lk, Nat.reduceEqDiff, reduceIte, h0]; (try rfl); done)))); (focus (simp only [lk, Nat.reduceEqDiff, reduceIte, h0]; (try rfl); done)); (focus (simp only [lk, Nat.reduceEqDiff, reduceIte, h0]; (try rfl); done)); (focus rfl); intro bb hbb; cases bb <;> (simp only [decide_eq_true_eq, decide_eq_false_iff_not, bne_iff_ne, beq_iff_eq, ne_eq, bne_eq_false_iff_eq, beq_eq_false_iff_ne, Int.not_lt, Int.not_le, gt_iff_lt, ge_iff_le, Bool.not_eq_true] at hbb))
        | (apply q_eq; (focus (first | exact wN | (apply wG; (simp only [lk, Nat.reduceEqDiff, reduceIte, h0]; (try rfl); done)))); (focus (simp only [lk, Nat.reduceEqDiff, reduceIte, h0]; (try rfl); done)); (focus (simp only [lk, Nat.reduceEqDiff, reduceIte, h0]; (try rfl); done)); (focus rfl); intro bb hbb; cases bb <;> (try simp only [Bool.false_eq_true, if_false] at hbb))
        | (apply q_bin; (focus (first | exact wN | (apply wG; (simp only [lk, Nat.reduceEqDiff, reduceIte, h0]; (try rfl); done)))); (focus (simp only [lk, Nat.reduceEqDiff, reduceIte, h0]; (try rfl); done)); (focus (simp only [lk, Nat.reduceEqDiff, reduceIte, h0]; (try rfl); done)); (focus rfl))
        | (apply q_faddr; (focus (first | exact wN | (apply wG; (simp only [lk, Nat.reduceEqDiff, reduceIte, h0]; (try rfl); done)))); (focus (simp only [lk, Nat.reduceEqDiff, reduceIte, h0]; (try rfl); done)))
        | (apply q_load; (focus (first | exact wN | (apply wG; (simp only [lk, Nat.reduceEqDiff, reduceIte, h0]; (try rfl); done)))); (focus (simp only [lk, Nat.reduceEqDiff, reduceIte, h0]; (try rfl); done)); (focus (first | rfl | (simp only [Nat.mul_one, Nat.zero_add, *]; (try rfl); done))))
        | (apply q_len; (focus (first | exact wN | (apply wG; (simp only [lk, Nat.reduceEqDiff, reduceIte, h0]; (try rfl); done)))); (focus (simp only [lk, Nat.reduceEqDiff, reduceIte, h0]; (try rfl); done)); (focus (first | rfl | (simp only [Nat.mul_one, Nat.zero_add, *]; (try rfl); done))))
        | (apply q_iaddr; (focus (first | exact wN | (apply wG; (simp only [lk, Nat.reduceEqDiff, reduceIte, h0]; (try rfl); done)))); (focus (simp only [lk, Nat.reduceEqDiff, reduceIte, h0]; (try rfl); done)); (focus (simp only [lk, Nat.reduceEqDiff, reduceIte, h0]; (try rfl); done)); (focus (first | rfl | (simp only [Nat.mul_one, Nat.zero_add, *]; (try rfl); done))))
        | (apply q_max2; (focus (first | exact wN | (apply wG; (simp only [lk, Nat.reduceEqDiff, reduceIte, h0]; (try rfl); done)))); (focus (simp only [lk, Nat.reduceEqDiff, reduceIte, h0]; (try rfl); done)); (focus (simp only [lk, Nat.reduceEqDiff, reduceIte, h0]; (try rfl); done)))
        | (apply q_min2; (focus (first | exact wN | (apply wG; (simp only [lk, Nat.reduceEqDiff, reduceIte, h0]; (try rfl); done)))); (focus (simp only [lk, Nat.reduceEqDiff, reduceIte, h0]; (try rfl); done)); (focus (simp only [lk, Nat.reduceEqDiff, reduceIte, h0]; (try rfl); done)))
        | (apply q_not; (focus (first | exact wN | (apply wG; (simp only [lk, Nat.reduceEqDiff, reduceIte, h0]; (try rfl); done)))); (focus (simp only [lk, Nat.reduceEqDiff, reduceIte, h0]; (try rfl); done)))
        | (apply q_pickT; (focus (first | exact wN | (apply wG; (simp only [lk, Nat.reduceEqDiff, reduceIte, h0]; (try rfl); done)))); (focus (simp only [lk, Nat.reduceEqDiff, reduceIte, h0]; (try rfl); done)); (focus (simp only [lk, Nat.reduceEqDiff, reduceIte, h0]; (try rfl); done)))
        | (apply q_pickF; (focus (first | exact wN | (apply wG; (simp only [lk, Nat.reduceEqDiff, reduceIte, h0]; (try rfl); done)))); (focus (simp only [lk, Nat.reduceEqDiff, reduceIte, h0]; (try rfl); done)); (focus (simp only [lk, Nat.reduceEqDiff, reduceIte, h0]; (try rfl); done)))
        | (apply q_box; (focus (simp only [lk, Nat.reduceEqDiff, reduceIte, h0]; (try rfl); done)); (focus assumption); (focus (simp only [List.all_cons, List.all_nil, isC_int, isC_bool, isC_str, Bool.and_self, *]; done)); (focus rfl))
        | (apply q_loadN; (focus (first | exact wN | (apply wG; (simp only [lk, Nat.reduceEqDiff, reduceIte, h0]; (try rfl); done)))); (focus (simp only [lk, Nat.reduceEqDiff, reduceIte, h0]; (try rfl); done)); (focus rfl); (focus (simp only [List.drop_zero, List.drop_succ_cons, List.take_succ_cons, List.take_zero, List.take_nil]; (try rfl); done)))
        | (apply q_alloc; (focus (first | exact wN | (apply wG; (simp only [lk, Nat.reduceEqDiff, reduceIte, h0]; (try rfl); done)))); try simp only [n_empty, St.n_new, St.n_put, Nat.zero_add, Nat.reduceAdd])
        | (apply q_bslice0; (focus (first | exact wN | (apply wG; (simp only [lk, Nat.reduceEqDiff, reduceIte, h0]; (try rfl); done)))); try simp only [n_empty, St.n_new, St.n_put, Nat.zero_add, Nat.reduceAdd])
        | (apply q_bslice1; (focus (first | exact wN | (apply wG; (simp only [lk, Nat.reduceEqDiff, reduceIte, h0]; (try rfl); done)))); (focus (simp only [lk, Nat.reduceEqDiff, reduceIte, h0]; (try rfl); done)); (focus (first | rfl | assumption | (simp only [isC_int, isC_sref, isC_nils, isC_simm, *]; done))); try simp only [n_empty, St.n_new, St.n_put, Nat.zero_add, Nat.reduceAdd])
        | (apply q_store; (focus (simp only [lk, Nat.reduceEqDiff, reduceIte, h0]; (try rfl); done)); (focus (simp only [lk, Nat.reduceEqDiff, reduceIte, h0]; (try rfl); done)); (focus (first | exact cells_cell (by assumption) | (simp only [cells_agg, cells_int, cells_bool, cells_str, cells_nils, cells_zs, cells_simm, cells_sref, cells_pref, cells_mref, isC_int, isC_bool, isC_str, isC_nils, isC_zs, isC_simm, isC_sref, List.all_cons, List.all_nil, Bool.and_self, if_true, *]; (try rfl); done))); (focus (first | (simp only [St.get_put, St.get_new, St.n_put, St.n_new, n_empty, Nat.zero_add, Nat.reduceAdd, Nat.reduceEqDiff, reduceIte, *]; (try rfl); done))); (focus rfl); (focus rfl); try simp only [splice, List.set_cons_zero, List.set_cons_succ])
        | (apply q_faddrR; (focus (first | exact wN | (apply wG; (simp only [lk, Nat.reduceEqDiff, reduceIte, h0]; (try rfl); done)))); (focus (simp only [lk, Nat.reduceEqDiff, reduceIte, h0]; (try rfl); done)))
        | (apply q_loadR; (focus (first | exact wN | (apply wG; (simp only [lk, Nat.reduceEqDiff, reduceIte, h0]; (try rfl); done)))); (focus (simp only [lk, Nat.reduceEqDiff, reduceIte, h0]; (try rfl); done)); (focus (first | (simp only [St.get_put, St.get_new, St.n_put, St.n_new, n_empty, Nat.zero_add, Nat.reduceAdd, Nat.reduceEqDiff, reduceIte, *]; (try rfl); done))); (focus (first | rfl | (simp only [Nat.mul_one, Nat.zero_add, *]; (try rfl); done))))
        | (apply q_loadRN; (focus (first | exact wN | (apply wG; (simp only [lk, Nat.reduceEqDiff, reduceIte, h0]; (try rfl); done)))); (focus (simp only [lk, Nat.reduceEqDiff, reduceIte, h0]; (try rfl); done)); (focus (first | (simp only [St.get_put, St.get_new, St.n_put, St.n_new, n_empty, Nat.zero_add, Nat.reduceAdd, Nat.reduceEqDiff, reduceIte, *]; (try rfl); done))); (focus rfl); (focus (simp only [List.drop_zero, List.drop_succ_cons, List.take_succ_cons, List.take_zero, List.take_nil]; (try rfl); done)))
        | (apply q_ext; (focus (first | exact wN | (apply wG; (simp only [lk, Nat.reduceEqDiff, reduceIte, h0]; (try rfl); done)))); (focus (simp only [lk, Nat.reduceEqDiff, reduceIte, h0]; (try rfl); done)); (focus rfl))
        | (apply q_skip rfl; (focus (simp only [lk, Nat.reduceEqDiff, reduceIte, h0]; (try rfl); done)); (focus rfl); simp only [Env.put_some]))
    refine q_eq wN (a := v) (b := .nils) (b0 := false) (by simp only [lk, sv1, sv2, sv3, Nat.reduceEqDiff, Nat.reduceAdd, Nat.reduceLeDiff, reduceIte, if_false, if_true, mkVal, unLV, List.map, optTmps]) (by simp only [lk, sv1, sv2, sv3, Nat.reduceEqDiff, Nat.reduceAdd, Nat.reduceLeDiff, reduceIte, if_false, if_true, mkVal, unLV, List.map, optTmps]) hne (fun bb hbb => ?_)
    cases hbb
    repeat' (first
        | (apply qc_block)
        | (apply qc_seq)
        | (apply qc_skip; try simp only [Thn, Blkd, reduceIte, Nat.reduceEqDiff])
        | (apply qc_exit; try simp only [Thn, Blkd, reduceIte, Nat.reduceEqDiff, Nat.succ_ne_self])
        | (apply qc_ret; try simp only [Thn, Blkd, reduceIte, Nat.reduceEqDiff])
        | (apply qc_region hm)
        | (apply q_nil; try simp only [Thn, Blkd, reduceIte, Nat.reduceEqDiff])
        | (apply qc_condT; (focus (simp only [lk, Nat.reduceEqDiff, reduceIte, h0]; (try rfl); done)))
        | (apply qc_condF; (focus (simp only [lk, Nat.reduceEqDiff, reduceIte, h0]; (try rfl); done)))
        | (apply q_mv; (focus (first | exact wN | (apply wG; (simp only [lk, Nat.reduceEqDiff, reduceIte, h0]; (try rfl); done)))); (focus (simp only [lk, Nat.reduceEqDiff, reduceIte, h0]; (try rfl); done)))
        | (apply q_cmp; (focus (first | exact wN | (apply wG; (simp only [lk, Nat.reduceEqDiff, reduceIte, h0]; (try rfl); done)))); (focus (simp only [lk, Nat.reduceEqDiff, reduceIte, h0]; (try rfl); done)); (focus (simp only [lk, Nat.reduceEqDiff, reduceIte, h0]; (try rfl); done)); (focus rfl); intro bb hbb; cases bb <;> (simp only [decide_eq_true_eq, decide_eq_false_iff_not, bne_iff_ne, beq_iff_eq, ne_eq, bne_eq_false_iff_eq, beq_eq_false_iff_ne, Int.not_lt, Int.not_le, gt_iff_lt, ge_iff_le, Bool.not_eq_true] at hbb))
        | (apply q_eq; (focus (first | exact wN | (apply wG; (simp only [lk, Nat.reduceEqDiff, reduceIte, h0]; (try rfl); done)))); (focus (simp only [lk, Nat.reduceEqDiff, reduceIte, h0]; (try rfl); done)); (focus (simp only [lk, Nat.reduceEqDiff, reduceIte, h0]; (try rfl); done)); (focus rfl); intro bb hbb; cases bb <;> (try simp only [Bool.false_eq_true, if_false] at hbb))
        | (apply q_bin; (focus (first | exact wN | (apply wG; (simp only [lk, Nat.reduceEqDiff, reduceIte, h0]; (try rfl); done)))); (focus (simp only [lk, Nat.reduceEqDiff, reduceIte, h0]; (try rfl); done)); (focus (simp only [lk, Nat.reduceEqDiff, reduceIte, h0]; (try rfl); done)); (focus rfl))
        | (apply q_faddr; (focus (first | exact wN | (apply wG; (simp only [lk, Nat.reduceEqDiff, reduceIte, h0]; (try rfl); done)))); (focus (simp only [lk, Nat.reduceEqDiff, reduceIte, h0]; (try rfl); done)))
        | (apply q_load; (focus (first | exact wN | (apply wG; (simp only [lk, Nat.reduceEqDiff, reduceIte, h0]; (try rfl); done)))); (focus (simp only [lk, Nat.reduceEqDiff, reduceIte, h0]; (try rfl); done)); (focus (first | rfl | (simp only [Nat.mul_one, Nat.zero_add, *]; (try rfl); done))))
        | (apply q_len; (focus (first | exact wN | (apply wG; (simp only [lk, Nat.reduceEqDiff, reduceIte, h0]; (try rfl); done)))); (focus (simp only [lk, Nat.reduceEqDiff, reduceIte, h0]; (try rfl); done)); (focus (first | rfl | (simp only [Nat.mul_one, Nat.zero_add, *]; (try rfl); done))))
        | (apply q_iaddr; (focus (first | exact wN | (apply wG; (simp only [lk, Nat.reduceEqDiff, reduceIte, h0]; (try rfl); done)))); (focus (simp only [lk, Nat.reduceEqDiff, reduceIte, h0]; (try rfl); done)); (focus (simp only [lk, Nat.reduceEqDiff, reduceIte, h0]; (try rfl); done)); (focus (first | rfl | (simp only [Nat.mul_one, Nat.zero_add, *]; (try rfl); done))))
        | (apply q_max2; (focus (first | exact wN | (apply wG; (simp only [lk, Nat.reduceEqDiff, reduceIte, h0]; (try rfl); done)))); (focus (simp only [lk, Nat.reduceEqDiff, reduceIte, h0]; (try rfl); done)); (focus (simp only [lk, Nat.reduceEqDiff, reduceIte, h0]; (try rfl); done)))
        | (apply q_min2; (focus (first | exact wN | (apply wG; (simp only [lk, Nat.reduceEqDiff, reduceIte, h0]; (try rfl); done)))); (focus (simp only [lk, Nat.reduceEqDiff, reduceIte, h0]; (try rfl); done)); (focus (simp only [lk, Nat.reduceEqDiff, reduceIte, h0]; (try rfl); done)))
        | (apply q_not; (focus (first | exact wN | (apply wG; (simp only [lk, Nat.reduceEqDiff, reduceIte, h0]; (try rfl); done)))); (focus (simp only [lk, Nat.reduceEqDiff, reduceIte, h0]; (try rfl); done)))
        | (apply q_pickT; (focus (first | exact wN | (apply wG; (simp only [lk, Nat.reduceEqDiff, reduceIte, h0]; (try rfl); done)))); (focus (simp only [lk, Nat.reduceEqDiff, reduceIte, h0]; (try rfl); done)); (focus (simp only [lk, Nat.reduceEqDiff, reduceIte, h0]; (try rfl); done)))
        | (apply q_pickF; (focus (first | exact wN | (apply wG; (simp only [lk, Nat.reduceEqDiff, reduceIte, h0]; (try rfl); done)))); (focus (simp only [lk, Nat.reduceEqDiff, reduceIte, h0]; (try rfl); done)); (focus (simp only [lk, Nat.reduceEqDiff, reduceIte, h0]; (try rfl); done)))
        | (apply q_box; (focus (simp only [lk, Nat.reduceEqDiff, reduceIte, h0]; (try rfl); done)); (focus assumption); (focus (simp only [List.all_cons, List.all_nil, isC_int, isC_bool, isC_str, Bool.and_self, *]; done)); (focus rfl))
        | (apply q_loadN; (focus (first | exact wN | (apply wG; (simp only [lk, Nat.reduceEqDiff, reduceIte, h0]; (try rfl); done)))); (focus (simp only [lk, Nat.reduceEqDiff, reduceIte, h0]; (try rfl); done)); (focus rfl); (focus (simp only [List.drop_zero, List.drop_succ_cons, List.take_succ_cons, List.take_zero, List.take_nil]; (try rfl); done)))
        | (apply q_alloc; (focus (first | exact wN | (apply wG; (simp only [lk, Nat.reduceEqDiff, reduceIte, h0]; (try rfl); done)))); try simp only [n_empty, St.n_new, St.n_put, Nat.zero_add, Nat.reduceAdd])
        | (apply q_bslice0; (focus (first | exact wN | (apply wG; (simp only [lk, Nat.reduceEqDiff, reduceIte, h0]; (try rfl); done)))); try simp only [n_empty, St.n_new, St.n_put, Nat.zero_add, Nat.reduceAdd])
        | (apply q_bslice1; (focus (first | exact wN | (apply wG; (simp only [lk, Nat.reduceEqDiff, reduceIte, h0]; (try rfl); done)))); (focus (simp only [lk, Nat.reduceEqDiff, reduceIte, h0]; (try rfl); done)); (focus (first | rfl | assumption | (simp only [isC_int, isC_sref, isC_nils, isC_simm, *]; done))); try simp only [n_empty, St.n_new, St.n_put, Nat.zero_add, Nat.reduceAdd])
        | (apply q_store; (focus (simp only [lk, Nat.reduceEqDiff, reduceIte, h0]; (try rfl); done)); (focus (simp only [lk, Nat.reduceEqDiff, reduceIte, h0]; (try rfl); done)); (focus (first | exact cells_cell (by assumption) | (simp only [cells_agg, cells_int, cells_bool, cells_str, cells_nils, cells_zs, cells_simm, cells_sref, cells_pref, cells_mref, isC_int, isC_bool, isC_str, isC_nils, isC_zs, isC_simm, isC_sref, List.all_cons, List.all_nil, Bool.and_self, if_true, *]; (try rfl); done))); (focus (first | (simp only [St.get_put, St.get_new, St.n_put, St.n_new, n_empty, Nat.zero_add, Nat.reduceAdd, Nat.reduceEqDiff, reduceIte, *]; (try rfl); done))); (focus rfl); (focus rfl); try simp only [splice, List.set_cons_zero, List.set_cons_succ])
        | (apply q_faddrR; (focus (first | exact wN | (apply wG; (simp only [lk, Nat.reduceEqDiff, reduceIte, h0]; (try rfl); done)))); (focus (simp only [lk, Nat.reduceEqDiff, reduceIte, h0]; (try rfl); done)))
        | (apply q_loadR; (focus (first | exact wN | (apply wG; (simp only [lk, Nat.reduceEqDiff, reduceIte, h0]; (try rfl); done)))); (focus (simp only [lk, Nat.reduceEqDiff, reduceIte, h0]; (try rfl); done)); (focus (first | (simp only [St.get_put, St.get_new, St.n_put, St.n_new, n_empty, Nat.zero_add, Nat.reduceAdd, Nat.reduceEqDiff, reduceIte, *]; (try rfl); done))); (focus (first | rfl | (simp only [Nat.mul_one, Nat.zero_add, *]; (try rfl); done))))
        | (apply q_loadRN; (focus (first | exact wN | (apply wG; (simp only [lk, Nat.reduceEqDiff, reduceIte, h0]; (try rfl); done)))); (focus (simp only [lk, Nat.reduceEqDiff, reduceIte, h0]; (try rfl); done)); (focus (first | (simp only [St.get_put, St.get_new, St.n_put, St.n_new, n_empty, Nat.zero_add, Nat.reduceAdd, Nat.reduceEqDiff, reduceIte, *]; (try rfl); done))); (focus rfl); (focus (simp only [List.drop_zero, List.drop_succ_cons, List.take_succ_cons, List.take_zero, List.take_nil]; (try rfl); done)))
        | (apply q_ext; (focus (first | exact wN | (apply wG; (simp only [lk, Nat.reduceEqDiff, reduceIte, h0]; (try rfl); done)))); (focus (simp only [lk, Nat.reduceEqDiff, reduceIte, h0]; (try rfl); done)); (focus rfl))
        | (apply q_skip rfl; (focus (simp only [lk, Nat.reduceEqDiff, reduceIte, h0]; (try rfl); done)); (focus rfl); simp only [Env.put_some]))
    refine q_append wN (xv := .sref 0 0 0 1) (yv := v) (by simp only [lk, sv1, sv2, sv3, Nat.reduceEqDiff, Nat.reduceAdd, Nat.reduceLeDiff, reduceIte, if_false, if_true, mkVal, unLV, List.map, optTmps, n_empty]) (by simp only [lk, sv1, sv2, sv3, Nat.reduceEqDiff, Nat.reduceAdd, Nat.reduceLeDiff, reduceIte, if_false, if_true, mkVal, unLV, List.map, optTmps, h0]) hlen (hrow _) (frzTry_all (ints_closed l))
      (appendLV_mutN (cs := []) (by rw [St.get_new, n_empty, if_pos rfl]) rfl (by simp) (by decide) (by omega)) ?_
    repeat' (first
        | (apply qc_block)
        | (apply qc_seq)
        | (apply qc_skip; try simp only [Thn, Blkd, reduceIte, Nat.reduceEqDiff])
        | (apply qc_exit; try simp only [Thn, Blkd, reduceIte, Nat.reduceEqDiff, Nat.succ_ne_self])
        | (apply qc_ret; try simp only [Thn, Blkd, reduceIte, Nat.reduceEqDiff])
        | (apply qc_region hm)
        | (apply q_nil; try simp only [Thn, Blkd, reduceIte, Nat.reduceEqDiff])
        | (apply qc_condT; (focus (simp only [lk, Nat.reduceEqDiff, reduceIte, h0]; (try rfl); done)))
        | (apply qc_condF; (focus (simp only [lk, Nat.reduceEqDiff, reduceIte, h0]; (try rfl); done)))
        | (apply q_mv; (focus (first | exact wN | (apply wG; (simp only [lk, Nat.reduceEqDiff, reduceIte, h0]; (try rfl); done)))); (focus (simp only [lk, Nat.reduceEqDiff, reduceIte, h0]; (try rfl); done)))
        | (apply q_cmp; (focus (first | exact wN | (apply wG; (simp only [lk, Nat.reduceEqDiff, reduceIte, h0]; (try rfl); done)))); (focus (simp only [lk, Nat.reduceEqDiff, reduceIte, h0]; (try rfl); done)); (focus (simp only [lk, Nat.reduceEqDiff, reduceIte, h0]; (try rfl); done)); (focus rfl); intro bb hbb; cases bb <;> (simp only [decide_eq_true_eq, decide_eq_false_iff_not, bne_iff_ne, beq_iff_eq, ne_eq, bne_eq_false_iff_eq, beq_eq_false_iff_ne, Int.not_lt, Int.not_le, gt_iff_lt, ge_iff_le, Bool.not_eq_true] at hbb))
        | (apply q_eq; (focus (first | exact wN | (apply wG; (simp only [lk, Nat.reduceEqDiff, reduceIte, h0]; (try rfl); done)))); (focus (simp only [lk, Nat.reduceEqDiff, reduceIte, h0]; (try rfl); done)); (focus (simp only [lk, Nat.reduceEqDiff, reduceIte, h0]; (try rfl); done)); (focus rfl); intro bb hbb; cases bb <;> (try simp only [Bool.false_eq_true, if_false] at hbb))
        | (apply q_bin; (focus (first | exact wN | (apply wG; (simp only [lk, Nat.reduceEqDiff, reduceIte, h0]; (try rfl); done)))); (focus (simp only [lk, Nat.reduceEqDiff, reduceIte, h0]; (try rfl); done)); (focus (simp only [lk, Nat.reduceEqDiff, reduceIte, h0]; (try rfl); done)); (focus rfl))
        | (apply q_faddr; (focus (first | exact wN | (apply wG; (simp only [lk, Nat.reduceEqDiff, reduceIte, h0]; (try rfl); done)))); (focus (simp only [lk, Nat.reduceEqDiff, reduceIte, h0]; (try rfl); done)))
        | (apply q_load; (focus (first | exact wN | (apply wG; (simp only [lk, Nat.reduceEqDiff, reduceIte, h0]; (try rfl); done)))); (focus (simp only [lk, Nat.reduceEqDiff, reduceIte, h0]; (try rfl); done)); (focus (first | rfl | (simp only [Nat.mul_one, Nat.zero_add, *]; (try rfl); done))))
        | (apply q_len; (focus (first | exact wN | (apply wG; (simp only [lk, Nat.reduceEqDiff, reduceIte, h0]; (try rfl); done)))); (focus (simp only [lk, Nat.reduceEqDiff, reduceIte, h0]; (try rfl); done)); (focus (first | rfl | (simp only [Nat.mul_one, Nat.zero_add, *]; (try rfl); done))))
        | (apply q_iaddr; (focus (first | exact wN | (apply wG; (simp only [lk, Nat.reduceEqDiff, reduceIte, h0]; (try rfl); done)))); (focus (simp only [lk, Nat.reduceEqDiff, reduceIte, h0]; (try rfl); done)); (focus (simp only [lk, Nat.reduceEqDiff, reduceIte, h0]; (try rfl); done)); (focus (first | rfl | (simp only [Nat.mul_one, Nat.zero_add, *]; (try rfl); done))))
        | (apply q_max2; (focus (first | exact wN | (apply wG; (simp only [lk, Nat.reduceEqDiff, reduceIte, h0]; (try rfl); done)))); (focus (simp only [lk, Nat.reduceEqDiff, reduceIte, h0]; (try rfl); done)); (focus (simp only [lk, Nat.reduceEqDiff, reduceIte, h0]; (try rfl); done)))
        | (apply q_min2; (focus (first | exact wN | (apply wG; (simp only [lk, Nat.reduceEqDiff, reduceIte, h0]; (try rfl); done)))); (focus (simp only [lk, Nat.reduceEqDiff, reduceIte, h0]; (try rfl); done)); (focus (simp only [lk, Nat.reduceEqDiff, reduceIte, h0]; (try rfl); done)))
        | (apply q_not; (focus (first | exact wN | (apply wG; (simp only [lk, Nat.reduceEqDiff, reduceIte, h0]; (try rfl); done)))); (focus (simp only [lk, Nat.reduceEqDiff, reduceIte, h0]; (try rfl); done)))
        | (apply q_pickT; (focus (first | exact wN | (apply wG; (simp only [lk, Nat.reduceEqDiff, reduceIte, h0]; (try rfl); done)))); (focus (simp only [lk, Nat.reduceEqDiff, reduceIte, h0]; (try rfl); done)); (focus (simp only [lk, Nat.reduceEqDiff, reduceIte, h0]; (try rfl); done)))
        | (apply q_pickF; (focus (first | exact wN | (apply wG; (simp only [lk, Nat.reduceEqDiff, reduceIte, h0]; (try rfl); done)))); (focus (simp only [lk, Nat.reduceEqDiff, reduceIte, h0]; (try rfl); done)); (focus (simp only [lk, Nat.reduceEqDiff, reduceIte, h0]; (try rfl); done)))
        | (apply q_box; (focus (simp only [lk, Nat.reduceEqDiff, reduceIte, h0]; (try rfl); done)); (focus assumption); (focus (simp only [List.all_cons, List.all_nil, isC_int, isC_bool, isC_str, Bool.and_self, *]; done)); (focus rfl))
        | (apply q_loadN; (focus (first | exact wN | (apply wG; (simp only [lk, Nat.reduceEqDiff, reduceIte, h0]; (try rfl); done)))); (focus (simp only [lk, Nat.reduceEqDiff, reduceIte, h0]; (try rfl); done)); (focus rfl); (focus (simp only [List.drop_zero, List.drop_succ_cons, List.take_succ_cons, List.take_zero, List.take_nil]; (try rfl); done)))
        | (apply q_alloc; (focus (first | exact wN | (apply wG; (simp only [lk, Nat.reduceEqDiff, reduceIte, h0]; (try rfl); done)))); try simp only [n_empty, St.n_new, St.n_put, Nat.zero_add, Nat.reduceAdd])
        | (apply q_bslice0; (focus (first | exact wN | (apply wG; (simp only [lk, Nat.reduceEqDiff, reduceIte, h0]; (try rfl); done)))); try simp only [n_empty, St.n_new, St.n_put, Nat.zero_add, Nat.reduceAdd])
        | (apply q_bslice1; (focus (first | exact wN | (apply wG; (simp only [lk, Nat.reduceEqDiff, reduceIte, h0]; (try rfl); done)))); (focus (simp only [lk, Nat.reduceEqDiff, reduceIte, h0]; (try rfl); done)); (focus (first | rfl | assumption | (simp only [isC_int, isC_sref, isC_nils, isC_simm, *]; done))); try simp only [n_empty, St.n_new, St.n_put, Nat.zero_add, Nat.reduceAdd])
        | (apply q_store; (focus (simp only [lk, Nat.reduceEqDiff, reduceIte, h0]; (try rfl); done)); (focus (simp only [lk, Nat.reduceEqDiff, reduceIte, h0]; (try rfl); done)); (focus (first | exact cells_cell (by assumption) | (simp only [cells_agg, cells_int, cells_bool, cells_str, cells_nils, cells_zs, cells_simm, cells_sref, cells_pref, cells_mref, isC_int, isC_bool, isC_str, isC_nils, isC_zs, isC_simm, isC_sref, List.all_cons, List.all_nil, Bool.and_self, if_true, *]; (try rfl); done))); (focus (first | (simp only [St.get_put, St.get_new, St.n_put, St.n_new, n_empty, Nat.zero_add, Nat.reduceAdd, Nat.reduceEqDiff, reduceIte, *]; (try rfl); done))); (focus rfl); (focus rfl); try simp only [splice, List.set_cons_zero, List.set_cons_succ])
        | (apply q_faddrR; (focus (first | exact wN | (apply wG; (simp only [lk, Nat.reduceEqDiff, reduceIte, h0]; (try rfl); done)))); (focus (simp only [lk, Nat.reduceEqDiff, reduceIte, h0]; (try rfl); done)))
        | (apply q_loadR; (focus (first | exact wN | (apply wG; (simp only [lk, Nat.reduceEqDiff, reduceIte, h0]; (try rfl); done)))); (focus (simp only [lk, Nat.reduceEqDiff, reduceIte, h0]; (try rfl); done)); (focus (first | (simp only [St.get_put, St.get_new, St.n_put, St.n_new, n_empty, Nat.zero_add, Nat.reduceAdd, Nat.reduceEqDiff, reduceIte, *]; (try rfl); done))); (focus (first | rfl | (simp only [Nat.mul_one, Nat.zero_add, *]; (try rfl); done))))
        | (apply q_loadRN; (focus (first | exact wN | (apply wG; (simp only [lk, Nat.reduceEqDiff, reduceIte, h0]; (try rfl); done)))); (focus (simp only [lk, Nat.reduceEqDiff, reduceIte, h0]; (try rfl); done)); (focus (first | (simp only [St.get_put, St.get_new, St.n_put, St.n_new, n_empty, Nat.zero_add, Nat.reduceAdd, Nat.reduceEqDiff, reduceIte, *]; (try rfl); done))); (focus rfl); (focus (simp only [List.drop_zero, List.drop_succ_cons, List.take_succ_cons, List.take_zero, List.take_nil]; (try rfl); done)))
        | (apply q_ext; (focus (first | exact wN | (apply wG; (simp only [lk, Nat.reduceEqDiff, reduceIte, h0]; (try rfl); done)))); (focus (simp only [lk, Nat.reduceEqDiff, reduceIte, h0]; (try rfl); done)); (focus rfl))
        | (apply q_skip rfl; (focus (simp only [lk, Nat.reduceEqDiff, reduceIte, h0]; (try rfl); done)); (focus rfl); simp only [Env.put_some]))
    exact ⟨.inr trivial, fin_ints (by simp only [lk, sv1, sv2, sv3, Nat.reduceEqDiff, Nat.reduceAdd, Nat.reduceLeDiff, reduceIte, if_false, if_true, mkVal, unLV, List.map, optTmps]; rfl) (Nat.zero_add _) (by simp only [St.get_new, St.n_put, if_true]; rfl) hlm⟩

theorem splice_at : ∀ (vs a b c : List LV), b.length = vs.length → splice (a ++ b ++ c) a.length vs = a ++ vs ++ c := by
  intro vs
  induction vs with
  | nil => intro a b c h; have : b = [] := by simpa using h
           subst this; simp [splice]
  | cons v vs ih =>
    intro a b c h
    cases b with
    | nil => simp at h
    | cons x b =>
      have h' : b.length = vs.length := by simpa using h
      have := ih (a ++ [v]) b c h'
      simp only [splice]
      have e1 : (a ++ (x :: b) ++ c).set a.length v = a ++ [v] ++ b ++ c := by simp [List.set_append]
      rw [e1]
      simpa using this

set_option maxHeartbeats 4000000 in
theorem turned_ok {v : LV} {l : List Int} (hv : IsInts v l) (hl : l.length ≤ 64) (hl1 : 1 ≤ l.length) {k : Nat} (hk : k ≤ l.length) : PE 59 [v, .int .i64 (k : Int)] (fun r => IsInts r (l.drop k ++ l.take k)) := by
  have hvs := hv.sl.pos (by omega)
  have hlm : IsInts (.simm (ints (l.drop k ++ l.take k)) (l.drop k ++ l.take k).length) (l.drop k ++ l.take k) := mk_ints (by simp; omega) fun x hx => by
    rcases List.mem_append.1 hx with h | h
    · exact hv.rng x (List.mem_of_mem_drop h)
    · exact hv.rng x (List.mem_of_mem_take h)
  refine q_fnEx (t := 4) hm Try.func59 (by decide +kernel) c59 (Nat.le_of_ble_eq_true rfl) (by simp [LV.closed.closedAll, LV.closed, hv.closed]) rfl ?_
  have h0 : (envOf [v, .int .i64 (k : Int)]).at 0 = v := by rw [envOf_at]; rfl
  have h1 : (envOf [v, .int .i64 (k : Int)]).at 1 = .int .i64 (k : Int) := by rw [envOf_at]; rfl
  generalize envOf [v, .int .i64 (k : Int)] = e at *
  unfold l59
  dsimp only
  repeat' (first
      | (apply qc_block)
      | (apply qc_seq)
      | (apply qc_skip; try simp only [Thn, Blkd, reduceIte, Nat.reduceEqDiff])
      | (apply qc_exit; try simp only [Thn, Blkd, reduceIte, Nat.reduceEqDiff, Nat.succ_ne_self])
      | (apply qc_ret; try simp only [Thn, Blkd, reduceIte, Nat.reduceEqDiff])
      | (apply qc_region hm)
      | (apply q_nil; try simp only [Thn, Blkd, reduceIte, Nat.reduceEqDiff])
      | (apply qc_condT; (focus (simp only [lk, Nat.reduceEqDiff, reduceIte, h0, h1]; (try rfl); done)))
      | (apply qc_condF; (focus (simp only [lk, Nat.reduceEqDiff, reduceIte, h0, h1]; (try rfl); done)))
      | (apply q_mv; (focus (first | exact wN | (apply wG; (simp only [lk, Nat.reduceEqDiff, reduceIte, h0, h1]; (try rfl); done)))); (focus (simp only [lk, Nat.reduceEqDiff, reduceIte, h0, h1]; (try rfl); done)))
      | (apply q_cmp; (focus (first | exact wN | (apply wG; (simp only [lk, Nat.reduceEqDiff, reduceIte, h0, h1]; (try rfl); done)))); (focus (simp only [lk, Nat.reduceEqDiff, reduceIte, h0, h1]; (try rfl); done)); (focus (simp only [lk, Nat.reduceEqDiff, reduceIte, h0, h1]; (try rfl); done)); (focus rfl); intro bb hbb; cases bb <;> (simp only [decide_eq_true_eq, decide_eq_false_iff_not, bne_iff_ne, beq_iff_eq, ne_eq, bne_eq_false_iff_eq, beq_eq_false_iff_ne, Int.not_lt, Int.not_le, gt_iff_lt, ge_iff_le, Bool.not_eq_true] at hbb))
      | (apply q_eq; (focus (first | exact wN | (apply wG; (simp only [lk, Nat.reduceEqDiff, reduceIte, h0, h1]; (try rfl); done)))); (focus (simp only [lk, Nat.reduceEqDiff, reduceIte, h0, h1]; (try rfl); done)); (focus (simp only [lk, Nat.reduceEqDiff, reduceIte, h0, h1]; (try rfl); done)); (focus rfl); intro bb hbb; cases bb <;> (try simp only [Bool.false_eq_true, if_false] at hbb))
      | (apply q_bin; (focus (first | exact wN | (apply wG; (simp only [lk, Nat.reduceEqDiff, reduceIte, h0, h1]; (try rfl); done)))); (focus (simp only [lk, Nat.reduceEqDiff, reduceIte, h0, h1]; (try rfl); done)); (focus (simp only [lk, Nat.reduceEqDiff, reduceIte, h0, h1]; (try rfl); done)); (focus rfl))
      | (apply q_faddr; (focus (first | exact wN | (apply wG; (simp only [lk, Nat.reduceEqDiff, reduceIte, h0, h1]; (try rfl); done)))); (focus (simp only [lk, Nat.reduceEqDiff, reduceIte, h0, h1]; (try rfl); done)))
      | (apply q_load; (focus (first | exact wN | (apply wG; (simp only [lk, Nat.reduceEqDiff, reduceIte, h0, h1]; (try rfl); done)))); (focus (simp only [lk, Nat.reduceEqDiff, reduceIte, h0, h1]; (try rfl); done)); (focus (first | rfl | (simp only [Nat.mul_one, Nat.zero_add, hv.sl.len, *]; (try rfl); done))))
      | (apply q_len; (focus (first | exact wN | (apply wG; (simp only [lk, Nat.reduceEqDiff, reduceIte, h0, h1]; (try rfl); done)))); (focus (simp only [lk, Nat.reduceEqDiff, reduceIte, h0, h1]; (try rfl); done)); (focus (first | rfl | (simp only [Nat.mul_one, Nat.zero_add, hv.sl.len, *]; (try rfl); done))))
      | (apply q_iaddr; (focus (first | exact wN | (apply wG; (simp only [lk, Nat.reduceEqDiff, reduceIte, h0, h1]; (try rfl); done)))); (focus (simp only [lk, Nat.reduceEqDiff, reduceIte, h0, h1]; (try rfl); done)); (focus (simp only [lk, Nat.reduceEqDiff, reduceIte, h0, h1]; (try rfl); done)); (focus (first | rfl | (simp only [Nat.mul_one, Nat.zero_add, hv.sl.len, *]; (try rfl); done))))
      | (apply q_max2; (focus (first | exact wN | (apply wG; (simp only [lk, Nat.reduceEqDiff, reduceIte, h0, h1]; (try rfl); done)))); (focus (simp only [lk, Nat.reduceEqDiff, reduceIte, h0, h1]; (try rfl); done)); (focus (simp only [lk, Nat.reduceEqDiff, reduceIte, h0, h1]; (try rfl); done)))
      | (apply q_min2; (focus (first | exact wN | (apply wG; (simp only [lk, Nat.reduceEqDiff, reduceIte, h0, h1]; (try rfl); done)))); (focus (simp only [lk, Nat.reduceEqDiff, reduceIte, h0, h1]; (try rfl); done)); (focus (simp only [lk, Nat.reduceEqDiff, reduceIte, h0, h1]; (try rfl); done)))
      | (apply q_not; (focus (first | exact wN | (apply wG; (simp only [lk, Nat.reduceEqDiff, reduceIte, h0, h1]; (try rfl); done)))); (focus (simp only [lk, Nat.reduceEqDiff, reduceIte, h0, h1]; (try rfl); done)))
      | (apply q_pickT; (focus (first | exact wN | (apply wG; (simp only [lk, Nat.reduceEqDiff, reduceIte, h0, h1]; (try rfl); done)))); (focus (simp only [lk, Nat.reduceEqDiff, reduceIte, h0, h1]; (try rfl); done)); (focus (simp only [lk, Nat.reduceEqDiff, reduceIte, h0, h1]; (try rfl); done)))
      | (apply q_pickF; (focus (first | exact wN | (apply wG; (simp only [lk, Nat.reduceEqDiff, reduceIte, h0, h1]; (try rfl); done)))); (focus (simp only [lk, Nat.reduceEqDiff, reduceIte, h0, h1]; (try rfl); done)); (focus (simp only [lk, Nat.reduceEqDiff, reduceIte, h0, h1]; (try rfl); done)))
      | (apply q_box; (focus (simp only [lk, Nat.reduceEqDiff, reduceIte, h0, h1]; (try rfl); done)); (focus assumption); (focus (simp only [List.all_cons, List.all_nil, isC_int, isC_bool, isC_str, Bool.and_self, *]; done)); (focus rfl))
      | (apply q_loadN; (focus (first | exact wN | (apply wG; (simp only [lk, Nat.reduceEqDiff, reduceIte, h0, h1]; (try rfl); done)))); (focus (simp only [lk, Nat.reduceEqDiff, reduceIte, h0, h1]; (try rfl); done)); (focus rfl); (focus (simp only [List.drop_zero, List.drop_succ_cons, List.take_succ_cons, List.take_zero, List.take_nil]; (try rfl); done)))
      | (apply q_alloc; (focus (first | exact wN | (apply wG; (simp only [lk, Nat.reduceEqDiff, reduceIte, h0, h1]; (try rfl); done)))); try simp only [n_empty, St.n_new, St.n_put, Nat.zero_add, Nat.reduceAdd])
      | (apply q_bslice0; (focus (first | exact wN | (apply wG; (simp only [lk, Nat.reduceEqDiff, reduceIte, h0, h1]; (try rfl); done)))); try simp only [n_empty, St.n_new, St.n_put, Nat.zero_add, Nat.reduceAdd])
      | (apply q_bslice1; (focus (first | exact wN | (apply wG; (simp only [lk, Nat.reduceEqDiff, reduceIte, h0, h1]; (try rfl); done)))); (focus (simp only [lk, Nat.reduceEqDiff, reduceIte, h0, h1]; (try rfl); done)); (focus (first | rfl | assumption | (simp only [isC_int, isC_sref, isC_nils, isC_simm, *]; done))); try simp only [n_empty, St.n_new, St.n_put, Nat.zero_add, Nat.reduceAdd])
      | (apply q_store; (focus (simp only [lk, Nat.reduceEqDiff, reduceIte, h0, h1]; (try rfl); done)); (focus (simp only [lk, Nat.reduceEqDiff, reduceIte, h0, h1]; (try rfl); done)); (focus (first | exact cells_cell (by assumption) | (simp only [cells_agg, cells_int, cells_bool, cells_str, cells_nils, cells_zs, cells_simm, cells_sref, cells_pref, cells_mref, isC_int, isC_bool, isC_str, isC_nils, isC_zs, isC_simm, isC_sref, List.all_cons, List.all_nil, Bool.and_self, if_true, *]; (try rfl); done))); (focus (first | (simp only [St.get_put, St.get_new, St.n_put, St.n_new, n_empty, Nat.zero_add, Nat.reduceAdd, Nat.reduceEqDiff, reduceIte, *]; (try rfl); done))); (focus rfl); (focus rfl); try simp only [splice, List.set_cons_zero, List.set_cons_succ])
      | (apply q_faddrR; (focus (first | exact wN | (apply wG; (simp only [lk, Nat.reduceEqDiff, reduceIte, h0, h1]; (try rfl); done)))); (focus (simp only [lk, Nat.reduceEqDiff, reduceIte, h0, h1]; (try rfl); done)))
      | (apply q_loadR; (focus (first | exact wN | (apply wG; (simp only [lk, Nat.reduceEqDiff, reduceIte, h0, h1]; (try rfl); done)))); (focus (simp only [lk, Nat.reduceEqDiff, reduceIte, h0, h1]; (try rfl); done)); (focus (first | (simp only [St.get_put, St.get_new, St.n_put, St.n_new, n_empty, Nat.zero_add, Nat.reduceAdd, Nat.reduceEqDiff, reduceIte, *]; (try rfl); done))); (focus (first | rfl | (simp only [Nat.mul_one, Nat.zero_add, hv.sl.len, *]; (try rfl); done))))
      | (apply q_loadRN; (focus (first | exact wN | (apply wG; (simp only [lk, Nat.reduceEqDiff, reduceIte, h0, h1]; (try rfl); done)))); (focus (simp only [lk, Nat.reduceEqDiff, reduceIte, h0, h1]; (try rfl); done)); (focus (first | (simp only [St.get_put, St.get_new, St.n_put, St.n_new, n_empty, Nat.zero_add, Nat.reduceAdd, Nat.reduceEqDiff, reduceIte, *]; (try rfl); done))); (focus rfl); (focus (simp only [List.drop_zero, List.drop_succ_cons, List.take_succ_cons, List.take_zero, List.take_nil]; (try rfl); done)))
      | (apply q_ext; (focus (first | exact wN | (apply wG; (simp only [lk, Nat.reduceEqDiff, reduceIte, h0, h1]; (try rfl); done)))); (focus (simp only [lk, Nat.reduceEqDiff, reduceIte, h0, h1]; (try rfl); done)); (focus rfl))
      | (apply q_skip rfl; (focus (simp only [lk, Nat.reduceEqDiff, reduceIte, h0, h1]; (try rfl); done)); (focus rfl); simp only [Env.put_some]))
  refine q_gen (v := .sref 0 0 l.length 1) (s' := St.empty.new (.cells .mut (rep l.length [.int .i64 0]))) wN ?_ rfl trivial ?_
  · have : (l.length : Int) * 8 ≤ big := by unfold big; omega
    have h2 : (l.length : Int) ≤ big := by unfold big; omega
    simp only [LOp.run, lk, sv1, sv2, sv3, Nat.reduceEqDiff, Nat.reduceAdd, Nat.reduceLeDiff, reduceIte, if_false, if_true, mkVal, unLV, List.map, optTmps]
    rw [if_pos ⟨by omega, Int.le_refl _, this, h2, trivial⟩]
    simp [n_empty]
  simp only [Env.put_some]
  repeat' (first
      | (apply qc_block)
      | (apply qc_seq)
      | (apply qc_skip; try simp only [Thn, Blkd, reduceIte, Nat.reduceEqDiff])
      | (apply qc_exit; try simp only [Thn, Blkd, reduceIte, Nat.reduceEqDiff, Nat.succ_ne_self])
      | (apply qc_ret; try simp only [Thn, Blkd, reduceIte, Nat.reduceEqDiff])
      | (apply qc_region hm)
      | (apply q_nil; try simp only [Thn, Blkd, reduceIte, Nat.reduceEqDiff])
      | (apply qc_condT; (focus (simp only [lk, Nat.reduceEqDiff, reduceIte, h0, h1]; (try rfl); done)))
      | (apply qc_condF; (focus (simp only [lk, Nat.reduceEqDiff, reduceIte, h0, h1]; (try rfl); done)))
      | (apply q_mv; (focus (first | exact wN | (apply wG; (simp only [lk, Nat.reduceEqDiff, reduceIte, h0, h1]; (try rfl); done)))); (focus (simp only [lk, Nat.reduceEqDiff, reduceIte, h0, h1]; (try rfl); done)))
      | (apply q_cmp; (focus (first | exact wN | (apply wG; (simp only [lk, Nat.reduceEqDiff, reduceIte, h0, h1]; (try rfl); done)))); (focus (simp only [lk, Nat.reduceEqDiff, reduceIte, h0, h1]; (try rfl); done)); (focus (simp only [lk, Nat.reduceEqDiff, reduceIte, h0, h1]; (try rfl); done)); (focus rfl); intro bb hbb; cases bb <;> (simp only [decide_eq_true_eq, decide_eq_false_iff_not, bne_iff_ne, beq_iff_eq, ne_eq, bne_eq_false_iff_eq, beq_eq_false_iff_ne, Int.not_lt, Int.not_le, gt_iff_lt, ge_iff_le, Bool.not_eq_true] at hbb))
      | (apply q_eq; (focus (first | exact wN | (apply wG; (simp only [lk, Nat.reduceEqDiff, reduceIte, h0, h1]; (try rfl); done)))); (focus (simp only [lk, Nat.reduceEqDiff, reduceIte, h0, h1]; (try rfl); done)); (focus (simp only [lk, Nat.reduceEqDiff, reduceIte, h0, h1]; (try rfl); done)); (focus rfl); intro bb hbb; cases bb <;> (try simp only [Bool.false_eq_true, if_false] at hbb))
      | (apply q_bin; (focus (first | exact wN | (apply wG; (simp only [lk, Nat.reduceEqDiff, reduceIte, h0, h1]; (try rfl); done)))); (focus (simp only [lk, Nat.reduceEqDiff, reduceIte, h0, h1]; (try rfl); done)); (focus (simp only [lk, Nat.reduceEqDiff, reduceIte, h0, h1]; (try rfl); done)); (focus rfl))
      | (apply q_faddr; (focus (first | exact wN | (apply wG; (simp only [lk, Nat.reduceEqDiff, reduceIte, h0, h1]; (try rfl); done)))); (focus (simp only [lk, Nat.reduceEqDiff, reduceIte, h0, h1]; (try rfl); done)))
      | (apply q_load; (focus (first | exact wN | (apply wG; (simp only [lk, Nat.reduceEqDiff, reduceIte, h0, h1]; (try rfl); done)))); (focus (simp only [lk, Nat.reduceEqDiff, reduceIte, h0, h1]; (try rfl); done)); (focus (first | rfl | (simp only [Nat.mul_one, Nat.zero_add, hv.sl.len, *]; (try rfl); done))))
      | (apply q_len; (focus (first | exact wN | (apply wG; (simp only [lk, Nat.reduceEqDiff, reduceIte, h0, h1]; (try rfl); done)))); (focus (simp only [lk, Nat.reduceEqDiff, reduceIte, h0, h1]; (try rfl); done)); (focus (first | rfl | (simp only [Nat.mul_one, Nat.zero_add, hv.sl.len, *]; (try rfl); done))))
      | (apply q_iaddr; (focus (first | exact wN | (apply wG; (simp only [lk, Nat.reduceEqDiff, reduceIte, h0, h1]; (try rfl); done)))); (focus (simp only [lk, Nat.reduceEqDiff, reduceIte, h0, h1]; (try rfl); done)); (focus (simp only [lk, Nat.reduceEqDiff, reduceIte, h0, h1]; (try rfl); done)); (focus (first | rfl | (simp only [Nat.mul_one, Nat.zero_add, hv.sl.len, *]; (try rfl); done))))
      | (apply q_max2; (focus (first | exact wN | (apply wG; (simp only [lk, Nat.reduceEqDiff, reduceIte, h0, h1]; (try rfl); done)))); (focus (simp only [lk, Nat.reduceEqDiff, reduceIte, h0, h1]; (try rfl); done)); (focus (simp only [lk, Nat.reduceEqDiff, reduceIte, h0, h1]; (try rfl); done)))
      | (apply q_min2; (focus (first | exact wN | (apply wG; (simp only [lk, Nat.reduceEqDiff, reduceIte, h0, h1]; (try rfl); done)))); (focus (simp only [lk, Nat.reduceEqDiff, reduceIte, h0, h1]; (try rfl); done)); (focus (simp only [lk, Nat.reduceEqDiff, reduceIte, h0, h1]; (try rfl); done)))
      | (apply q_not; (focus (first | exact wN | (apply wG; (simp only [lk, Nat.reduceEqDiff, reduceIte, h0, h1]; (try rfl); done)))); (focus (simp only [lk, Nat.reduceEqDiff, reduceIte, h0, h1]; (try rfl); done)))
      | (apply q_pickT; (focus (first | exact wN | (apply wG; (simp only [lk, Nat.reduceEqDiff, reduceIte, h0, h1]; (try rfl); done)))); (focus (simp only [lk, Nat.reduceEqDiff, reduceIte, h0, h1]; (try rfl); done)); (focus (simp only [lk, Nat.reduceEqDiff, reduceIte, h0, h1]; (try rfl); done)))
      | (apply q_pickF; (focus (first | exact wN | (apply wG; (simp only [lk, Nat.reduceEqDiff, reduceIte, h0, h1]; (try rfl); done)))); (focus (simp only [lk, Nat.reduceEqDiff, reduceIte, h0, h1]; (try rfl); done)); (focus (simp only [lk, Nat.reduceEqDiff, reduceIte, h0, h1]; (try rfl); done)))
      | (apply q_box; (focus (simp only [lk, Nat.reduceEqDiff, reduceIte, h0, h1]; (try rfl); done)); (focus assumption); (focus (simp only [List.all_cons, List.all_nil, isC_int, isC_bool, isC_str, Bool.and_self, *]; done)); (focus rfl))
      | (apply q_loadN; (focus (first | exact wN | (apply wG; (simp only [lk, Nat.reduceEqDiff, reduceIte, h0, h1]; (try rfl); done)))); (focus (simp only [lk, Nat.reduceEqDiff, reduceIte, h0, h1]; (try rfl); done)); (focus rfl); (focus (simp only [List.drop_zero, List.drop_succ_cons, List.take_succ_cons, List.take_zero, List.take_nil]; (try rfl); done)))
      | (apply q_alloc; (focus (first | exact wN | (apply wG; (simp only [lk, Nat.reduceEqDiff, reduceIte, h0, h1]; (try rfl); done)))); try simp only [n_empty, St.n_new, St.n_put, Nat.zero_add, Nat.reduceAdd])
      | (apply q_bslice0; (focus (first | exact wN | (apply wG; (simp only [lk, Nat.reduceEqDiff, reduceIte, h0, h1]; (try rfl); done)))); try simp only [n_empty, St.n_new, St.n_put, Nat.zero_add, Nat.reduceAdd])
      | (apply q_bslice1; (focus (first | exact wN | (apply wG; (simp only [lk, Nat.reduceEqDiff, reduceIte, h0, h1]; (try rfl); done)))); (focus (simp only [lk, Nat.reduceEqDiff, reduceIte, h0, h1]; (try rfl); done)); (focus (first | rfl | assumption | (simp only [isC_int, isC_sref, isC_nils, isC_simm, *]; done))); try simp only [n_empty, St.n_new, St.n_put, Nat.zero_add, Nat.reduceAdd])
      | (apply q_store; (focus (simp only [lk, Nat.reduceEqDiff, reduceIte, h0, h1]; (try rfl); done)); (focus (simp only [lk, Nat.reduceEqDiff, reduceIte, h0, h1]; (try rfl); done)); (focus (first | exact cells_cell (by assumption) | (simp only [cells_agg, cells_int, cells_bool, cells_str, cells_nils, cells_zs, cells_simm, cells_sref, cells_pref, cells_mref, isC_int, isC_bool, isC_str, isC_nils, isC_zs, isC_simm, isC_sref, List.all_cons, List.all_nil, Bool.and_self, if_true, *]; (try rfl); done))); (focus (first | (simp only [St.get_put, St.get_new, St.n_put, St.n_new, n_empty, Nat.zero_add, Nat.reduceAdd, Nat.reduceEqDiff, reduceIte, *]; (try rfl); done))); (focus rfl); (focus rfl); try simp only [splice, List.set_cons_zero, List.set_cons_succ])
      | (apply q_faddrR; (focus (first | exact wN | (apply wG; (simp only [lk, Nat.reduceEqDiff, reduceIte, h0, h1]; (try rfl); done)))); (focus (simp only [lk, Nat.reduceEqDiff, reduceIte, h0, h1]; (try rfl); done)))
      | (apply q_loadR; (focus (first | exact wN | (apply wG; (simp only [lk, Nat.reduceEqDiff, reduceIte, h0, h1]; (try rfl); done)))); (focus (simp only [lk, Nat.reduceEqDiff, reduceIte, h0, h1]; (try rfl); done)); (focus (first | (simp only [St.get_put, St.get_new, St.n_put, St.n_new, n_empty, Nat.zero_add, Nat.reduceAdd, Nat.reduceEqDiff, reduceIte, *]; (try rfl); done))); (focus (first | rfl | (simp only [Nat.mul_one, Nat.zero_add, hv.sl.len, *]; (try rfl); done))))
      | (apply q_loadRN; (focus (first | exact wN | (apply wG; (simp only [lk, Nat.reduceEqDiff, reduceIte, h0, h1]; (try rfl); done)))); (focus (simp only [lk, Nat.reduceEqDiff, reduceIte, h0, h1]; (try rfl); done)); (focus (first | (simp only [St.get_put, St.get_new, St.n_put, St.n_new, n_empty, Nat.zero_add, Nat.reduceAdd, Nat.reduceEqDiff, reduceIte, *]; (try rfl); done))); (focus rfl); (focus (simp only [List.drop_zero, List.drop_succ_cons, List.take_succ_cons, List.take_zero, List.take_nil]; (try rfl); done)))
      | (apply q_ext; (focus (first | exact wN | (apply wG; (simp only [lk, Nat.reduceEqDiff, reduceIte, h0, h1]; (try rfl); done)))); (focus (simp only [lk, Nat.reduceEqDiff, reduceIte, h0, h1]; (try rfl); done)); (focus rfl))
      | (apply q_skip rfl; (focus (simp only [lk, Nat.reduceEqDiff, reduceIte, h0, h1]; (try rfl); done)); (focus rfl); simp only [Env.put_some]))
  refine q_gen (v := .simm (((ints l).drop k).take (l.length - k)) (l.length - k)) wN (run_slice (by simp only [lk, sv1, sv2, sv3, Nat.reduceEqDiff, Nat.reduceAdd, Nat.reduceLeDiff, reduceIte, if_false, if_true, mkVal, unLV, List.map, optTmps, h0]; exact hvs) rfl rfl rfl (by simp only [lk, sv1, sv2, sv3, Nat.reduceEqDiff, Nat.reduceAdd, Nat.reduceLeDiff, reduceIte, if_false, if_true, mkVal, unLV, List.map, optTmps, h1]; exact bnd_int hk) (ints_length l)) rfl trivial ?_
  simp only [Env.put_some]
  have hrep : (rep l.length [LV.int .i64 0]).length = l.length := by simp [rep]
  generalize rep l.length [LV.int .i64 0] = z at *
  refine q_gen (v := .int .i64 ((l.length - k : Nat) : Int)) (s' := St.put (St.new St.empty (.cells .mut z)) 0 (.cells .mut (splice z 0 (((ints l).drop k).take (l.length - k))))) wN ?_ rfl trivial ?_
  · have hm1 : min (l.length - k) l.length = l.length - k := by omega
    have hr1 : rowOf (St.new St.empty (.cells .mut z)) 1 (l.length - k) (.simm (((ints l).drop k).take (l.length - k)) (l.length - k)) = some (((ints l).drop k).take (l.length - k)) := rowOf_simm (by simp)
    simp only [LOp.run, lk, sv1, sv2, sv3, Nat.reduceEqDiff, Nat.reduceAdd, Nat.reduceLeDiff, reduceIte, if_false, if_true, mkVal, unLV, List.map, optTmps, lenLV, Option.bind_eq_bind, Option.bind_some, hm1, hr1, St.get_new, n_empty, if_true, Nat.zero_add, Nat.mul_one]
    rw [if_pos ⟨trivial, by omega⟩]
  simp only [Env.put_some]
  repeat' (first
      | (apply qc_block)
      | (apply qc_seq)
      | (apply qc_skip; try simp only [Thn, Blkd, reduceIte, Nat.reduceEqDiff])
      | (apply qc_exit; try simp only [Thn, Blkd, reduceIte, Nat.reduceEqDiff, Nat.succ_ne_self])
      | (apply qc_ret; try simp only [Thn, Blkd, reduceIte, Nat.reduceEqDiff])
      | (apply qc_region hm)
      | (apply q_nil; try simp only [Thn, Blkd, reduceIte, Nat.reduceEqDiff])
      | (apply qc_condT; (focus (simp only [lk, Nat.reduceEqDiff, reduceIte, h0, h1]; (try rfl); done)))
      | (apply qc_condF; (focus (simp only [lk, Nat.reduceEqDiff, reduceIte, h0, h1]; (try rfl); done)))
      | (apply q_mv; (focus (first | exact wN | (apply wG; (simp only [lk, Nat.reduceEqDiff, reduceIte, h0, h1]; (try rfl); done)))); (focus (simp only [lk, Nat.reduceEqDiff, reduceIte, h0, h1]; (try rfl); done)))
      | (apply q_cmp; (focus (first | exact wN | (apply wG; (simp only [lk, Nat.reduceEqDiff, reduceIte, h0, h1]; (try rfl); done)))); (focus (simp only [lk, Nat.reduceEqDiff, reduceIte, h0, h1]; (try rfl); done)); (focus (simp only [lk, Nat.reduceEqDiff, reduceIte, h0, h1]; (try rfl); done)); (focus rfl); intro bb hbb; cases bb <;> (simp only [decide_eq_true_eq, decide_eq_false_iff_not, bne_iff_ne, beq_iff_eq, ne_eq, bne_eq_false_iff_eq, beq_eq_false_iff_ne, Int.not_lt, Int.not_le, gt_iff_lt, ge_iff_le, Bool.not_eq_true] at hbb))
      | (apply q_eq; (focus (first | exact wN | (apply wG; (simp only [lk, Nat.reduceEqDiff, reduceIte, h0, h1]; (try rfl); done)))); (focus (simp only [lk, Nat.reduceEqDiff, reduceIte, h0, h1]; (try rfl); done)); (focus (simp only [lk, Nat.reduceEqDiff, reduceIte, h0, h1]; (try rfl); done)); (focus rfl); intro bb hbb; cases bb <;> (try simp only [Bool.false_eq_true, if_false] at hbb))
      | (apply q_bin; (focus (first | exact wN | (apply wG; (simp only [lk, Nat.reduceEqDiff, reduceIte, h0, h1]; (try rfl); done)))); (focus (simp only [lk, Nat.reduceEqDiff, reduceIte, h0, h1]; (try rfl); done)); (focus (simp only [lk, Nat.reduceEqDiff, reduceIte, h0, h1]; (try rfl); done)); (focus rfl))
      | (apply q_faddr; (focus (first | exact wN | (apply wG; (simp only [lk, Nat.reduceEqDiff, reduceIte, h0, h1]; (try rfl); done)))); (focus (simp only [lk, Nat.reduceEqDiff, reduceIte, h0, h1]; (try rfl); done)))
      | (apply q_load; (focus (first | exact wN | (apply wG; (simp only [lk, Nat.reduceEqDiff, reduceIte, h0, h1]; (try rfl); done)))); (focus (simp only [lk, Nat.reduceEqDiff, reduceIte, h0, h1]; (try rfl); done)); (focus (first | rfl | (simp only [Nat.mul_one, Nat.zero_add, hv.sl.len, *]; (try rfl); done))))
      | (apply q_len; (focus (first | exact wN | (apply wG; (simp only [lk, Nat.reduceEqDiff, reduceIte, h0, h1]; (try rfl); done)))); (focus (simp only [lk, Nat.reduceEqDiff, reduceIte, h0, h1]; (try rfl); done)); (focus (first | rfl | (simp only [Nat.mul_one, Nat.zero_add, hv.sl.len, *]; (try rfl); done))))
      | (apply q_iaddr; (focus (first | exact wN | (apply wG; (simp only [lk, Nat.reduceEqDiff, reduceIte, h0, h1]; (try rfl); done)))); (focus (simp only [lk, Nat.reduceEqDiff, reduceIte, h0, h1]; (try rfl); done)); (focus (simp only [lk, Nat.reduceEqDiff, reduceIte, h0, h1]; (try rfl); done)); (focus (first | rfl | (simp only [Nat.mul_one, Nat.zero_add, hv.sl.len, *]; (try rfl); done))))
      | (apply q_max2; (focus (first | exact wN | (apply wG; (simp only [lk, Nat.reduceEqDiff, reduceIte, h0, h1]; (try rfl); done)))); (focus (simp only [lk, Nat.reduceEqDiff, reduceIte, h0, h1]; (try rfl); done)); (focus (simp only [lk, Nat.reduceEqDiff, reduceIte, h0, h1]; (try rfl); done)))
      | (apply q_min2; (focus (first | exact wN | (apply wG; (simp only [lk, Nat.reduceEqDiff, reduceIte, h0, h1]; (try rfl); done)))); (focus (simp only [lk, Nat.reduceEqDiff, reduceIte, h0, h1]; (try rfl); done)); (focus (simp only [lk, Nat.reduceEqDiff, reduceIte, h0, h1]; (try rfl); done)))
      | (apply q_not; (focus (first | exact wN | (apply wG; (simp only [lk, Nat.reduceEqDiff, reduceIte, h0, h1]; (try rfl); done)))); (focus (simp only [lk, Nat.reduceEqDiff, reduceIte, h0, h1]; (try rfl); done)))
      | (apply q_pickT; (focus (first | exact wN | (apply wG; (simp only [lk, Nat.reduceEqDiff, reduceIte, h0, h1]; (try rfl); done)))); (focus (simp only [lk, Nat.reduceEqDiff, reduceIte, h0, h1]; (try rfl); done)); (focus (simp only [lk, Nat.reduceEqDiff, reduceIte, h0, h1]; (try rfl); done)))
      | (apply q_pickF; (focus (first | exact wN | (apply wG; (simp only [lk, Nat.reduceEqDiff, reduceIte, h0, h1]; (try rfl); done)))); (focus (simp only [lk, Nat.reduceEqDiff, reduceIte, h0, h1]; (try rfl); done)); (focus (simp only [lk, Nat.reduceEqDiff, reduceIte, h0, h1]; (try rfl); done)))
      | (apply q_box; (focus (simp only [lk, Nat.reduceEqDiff, reduceIte, h0, h1]; (try rfl); done)); (focus assumption); (focus (simp only [List.all_cons, List.all_nil, isC_int, isC_bool, isC_str, Bool.and_self, *]; done)); (focus rfl))
      | (apply q_loadN; (focus (first | exact wN | (apply wG; (simp only [lk, Nat.reduceEqDiff, reduceIte, h0, h1]; (try rfl); done)))); (focus (simp only [lk, Nat.reduceEqDiff, reduceIte, h0, h1]; (try rfl); done)); (focus rfl); (focus (simp only [List.drop_zero, List.drop_succ_cons, List.take_succ_cons, List.take_zero, List.take_nil]; (try rfl); done)))
      | (apply q_alloc; (focus (first | exact wN | (apply wG; (simp only [lk, Nat.reduceEqDiff, reduceIte, h0, h1]; (try rfl); done)))); try simp only [n_empty, St.n_new, St.n_put, Nat.zero_add, Nat.reduceAdd])
      | (apply q_bslice0; (focus (first | exact wN | (apply wG; (simp only [lk, Nat.reduceEqDiff, reduceIte, h0, h1]; (try rfl); done)))); try simp only [n_empty, St.n_new, St.n_put, Nat.zero_add, Nat.reduceAdd])
      | (apply q_bslice1; (focus (first | exact wN | (apply wG; (simp only [lk, Nat.reduceEqDiff, reduceIte, h0, h1]; (try rfl); done)))); (focus (simp only [lk, Nat.reduceEqDiff, reduceIte, h0, h1]; (try rfl); done)); (focus (first | rfl | assumption | (simp only [isC_int, isC_sref, isC_nils, isC_simm, *]; done))); try simp only [n_empty, St.n_new, St.n_put, Nat.zero_add, Nat.reduceAdd])
      | (apply q_store; (focus (simp only [lk, Nat.reduceEqDiff, reduceIte, h0, h1]; (try rfl); done)); (focus (simp only [lk, Nat.reduceEqDiff, reduceIte, h0, h1]; (try rfl); done)); (focus (first | exact cells_cell (by assumption) | (simp only [cells_agg, cells_int, cells_bool, cells_str, cells_nils, cells_zs, cells_simm, cells_sref, cells_pref, cells_mref, isC_int, isC_bool, isC_str, isC_nils, isC_zs, isC_simm, isC_sref, List.all_cons, List.all_nil, Bool.and_self, if_true, *]; (try rfl); done))); (focus (first | (simp only [St.get_put, St.get_new, St.n_put, St.n_new, n_empty, Nat.zero_add, Nat.reduceAdd, Nat.reduceEqDiff, reduceIte, *]; (try rfl); done))); (focus rfl); (focus rfl); try simp only [splice, List.set_cons_zero, List.set_cons_succ])
      | (apply q_faddrR; (focus (first | exact wN | (apply wG; (simp only [lk, Nat.reduceEqDiff, reduceIte, h0, h1]; (try rfl); done)))); (focus (simp only [lk, Nat.reduceEqDiff, reduceIte, h0, h1]; (try rfl); done)))
      | (apply q_loadR; (focus (first | exact wN | (apply wG; (simp only [lk, Nat.reduceEqDiff, reduceIte, h0, h1]; (try rfl); done)))); (focus (simp only [lk, Nat.reduceEqDiff, reduceIte, h0, h1]; (try rfl); done)); (focus (first | (simp only [St.get_put, St.get_new, St.n_put, St.n_new, n_empty, Nat.zero_add, Nat.reduceAdd, Nat.reduceEqDiff, reduceIte, *]; (try rfl); done))); (focus (first | rfl | (simp only [Nat.mul_one, Nat.zero_add, hv.sl.len, *]; (try rfl); done))))
      | (apply q_loadRN; (focus (first | exact wN | (apply wG; (simp only [lk, Nat.reduceEqDiff, reduceIte, h0, h1]; (try rfl); done)))); (focus (simp only [lk, Nat.reduceEqDiff, reduceIte, h0, h1]; (try rfl); done)); (focus (first | (simp only [St.get_put, St.get_new, St.n_put, St.n_new, n_empty, Nat.zero_add, Nat.reduceAdd, Nat.reduceEqDiff, reduceIte, *]; (try rfl); done))); (focus rfl); (focus (simp only [List.drop_zero, List.drop_succ_cons, List.take_succ_cons, List.take_zero, List.take_nil]; (try rfl); done)))
      | (apply q_ext; (focus (first | exact wN | (apply wG; (simp only [lk, Nat.reduceEqDiff, reduceIte, h0, h1]; (try rfl); done)))); (focus (simp only [lk, Nat.reduceEqDiff, reduceIte, h0, h1]; (try rfl); done)); (focus rfl))
      | (apply q_skip rfl; (focus (simp only [lk, Nat.reduceEqDiff, reduceIte, h0, h1]; (try rfl); done)); (focus rfl); simp only [Env.put_some]))
  refine q_gen (v := .sref 0 (l.length - k) k 1) (s' := St.put (St.new St.empty (.cells .mut z)) 0 (.cells .mut (splice z 0 (((ints l).drop k).take (l.length - k))))) wN ?_ rfl trivial ?_
  · simp only [LOp.run, lk, sv1, sv2, sv3, Nat.reduceEqDiff, Nat.reduceAdd, Nat.reduceLeDiff, reduceIte, if_false, if_true, mkVal, unLV, List.map, optTmps, Option.map_some, Option.map_none, bndOf, Option.bind_eq_bind, Option.bind_some]
    rw [if_pos ⟨by omega, by omega⟩]
    simp only [Option.bind_some, if_true, Int.toNat_natCast]
    congr 3
    omega
  simp only [Env.put_some]
  repeat' (first
      | (apply qc_block)
      | (apply qc_seq)
      | (apply qc_skip; try simp only [Thn, Blkd, reduceIte, Nat.reduceEqDiff])
      | (apply qc_exit; try simp only [Thn, Blkd, reduceIte, Nat.reduceEqDiff, Nat.succ_ne_self])
      | (apply qc_ret; try simp only [Thn, Blkd, reduceIte, Nat.reduceEqDiff])
      | (apply qc_region hm)
      | (apply q_nil; try simp only [Thn, Blkd, reduceIte, Nat.reduceEqDiff])
      | (apply qc_condT; (focus (simp only [lk, Nat.reduceEqDiff, reduceIte, h0, h1]; (try rfl); done)))
      | (apply qc_condF; (focus (simp only [lk, Nat.reduceEqDiff, reduceIte, h0, h1]; (try rfl); done)))
      | (apply q_mv; (focus (first | exact wN | (apply wG; (simp only [lk, Nat.reduceEqDiff, reduceIte, h0, h1]; (try rfl); done)))); (focus (simp only [lk, Nat.reduceEqDiff, reduceIte, h0, h1]; (try rfl); done)))
      | (apply q_cmp; (focus (first | exact wN | (apply wG; (simp only [lk, Nat.reduceEqDiff, reduceIte, h0, h1]; (try rfl); done)))); (focus (simp only [lk, Nat.reduceEqDiff, reduceIte, h0, h1]; (try rfl); done)); (focus (simp only [lk, Nat.reduceEqDiff, reduceIte, h0, h1]; (try rfl); done)); (focus rfl); intro bb hbb; cases bb <;> (simp only [decide_eq_true_eq, decide_eq_false_iff_not, bne_iff_ne, beq_iff_eq, ne_eq, bne_eq_false_iff_eq, beq_eq_false_iff_ne, Int.not_lt, Int.not_le, gt_iff_lt, ge_iff_le, Bool.not_eq_true] at hbb))
      | (apply q_eq; (focus (first | exact wN | (apply wG; (simp only [lk, Nat.reduceEqDiff, reduceIte, h0, h1]; (try rfl); done)))); (focus (simp only [lk, Nat.reduceEqDiff, reduceIte, h0, h1]; (try rfl); done)); (focus (simp only [lk, Nat.reduceEqDiff, reduceIte, h0, h1]; (try rfl); done)); (focus rfl); intro bb hbb; cases bb <;> (try simp only [Bool.false_eq_true, if_false] at hbb))
      | (apply q_bin; (focus (first | exact wN | (apply wG; (simp only [lk, Nat.reduceEqDiff, reduceIte, h0, h1]; (try rfl); done)))); (focus (simp only [lk, Nat.reduceEqDiff, reduceIte, h0, h1]; (try rfl); done)); (focus (simp only [lk, Nat.reduceEqDiff, reduceIte, h0, h1]; (try rfl); done)); (focus rfl))
      | (apply q_faddr; (focus (first | exact wN | (apply wG; (simp only [lk, Nat.reduceEqDiff, reduceIte, h0, h1]; (try rfl); done)))); (focus (simp only [lk, Nat.reduceEqDiff, reduceIte, h0, h1]; (try rfl); done)))
      | (apply q_load; (focus (first | exact wN | (apply wG; (simp only [lk, Nat.reduceEqDiff, reduceIte, h0, h1]; (try rfl); done)))); (focus (simp only [lk, Nat.reduceEqDiff, reduceIte, h0, h1]; (try rfl); done)); (focus (first | rfl | (simp only [Nat.mul_one, Nat.zero_add, hv.sl.len, *]; (try rfl); done))))
      | (apply q_len; (focus (first | exact wN | (apply wG; (simp only [lk, Nat.reduceEqDiff, reduceIte, h0, h1]; (try rfl); done)))); (focus (simp only [lk, Nat.reduceEqDiff, reduceIte, h0, h1]; (try rfl); done)); (focus (first | rfl | (simp only [Nat.mul_one, Nat.zero_add, hv.sl.len, *]; (try rfl); done))))
      | (apply q_iaddr; (focus (first | exact wN | (apply wG; (simp only [lk, Nat.reduceEqDiff, reduceIte, h0, h1]; (try rfl); done)))); (focus (simp only [lk, Nat.reduceEqDiff, reduceIte, h0, h1]; (try rfl); done)); (focus (simp only [lk, Nat.reduceEqDiff, reduceIte, h0, h1]; (try rfl); done)); (focus (first | rfl | (simp only [Nat.mul_one, Nat.zero_add, hv.sl.len, *]; (try rfl); done))))
      | (apply q_max2; (focus (first | exact wN | (apply wG; (simp only [lk, Nat.reduceEqDiff, reduceIte, h0, h1]; (try rfl); done)))); (focus (simp only [lk, Nat.reduceEqDiff, reduceIte, h0, h1]; (try rfl); done)); (focus (simp only [lk, Nat.reduceEqDiff, reduceIte, h0, h1]; (try rfl); done)))
      | (apply q_min2; (focus (first | exact wN | (apply wG; (simp only [lk, Nat.reduceEqDiff, reduceIte, h0, h1]; (try rfl); done)))); (focus (simp only [lk, Nat.reduceEqDiff, reduceIte, h0, h1]; (try rfl); done)); (focus (simp only [lk, Nat.reduceEqDiff, reduceIte, h0, h1]; (try rfl); done)))
      | (apply q_not; (focus (first | exact wN | (apply wG; (simp only [lk, Nat.reduceEqDiff, reduceIte, h0, h1]; (try rfl); done)))); (focus (simp only [lk, Nat.reduceEqDiff, reduceIte, h0, h1]; (try rfl); done)))
      | (apply q_pickT; (focus (first | exact wN | (apply wG; (simp only [lk, Nat.reduceEqDiff, reduceIte, h0, h1]; (try rfl); done)))); (focus (simp only [lk, Nat.reduceEqDiff, reduceIte, h0, h1]; (try rfl); done)); (focus (simp only [lk, Nat.reduceEqDiff, reduceIte, h0, h1]; (try rfl); done)))
      | (apply q_pickF; (focus (first | exact wN | (apply wG; (simp only [lk, Nat.reduceEqDiff, reduceIte, h0, h1]; (try rfl); done)))); (focus (simp only [lk, Nat.reduceEqDiff, reduceIte, h0, h1]; (try rfl); done)); (focus (simp only [lk, Nat.reduceEqDiff, reduceIte, h0, h1]; (try rfl); done)))
      | (apply q_box; (focus (simp only [lk, Nat.reduceEqDiff, reduceIte, h0, h1]; (try rfl); done)); (focus assumption); (focus (simp only [List.all_cons, List.all_nil, isC_int, isC_bool, isC_str, Bool.and_self, *]; done)); (focus rfl))
      | (apply q_loadN; (focus (first | exact wN | (apply wG; (simp only [lk, Nat.reduceEqDiff, reduceIte, h0, h1]; (try rfl); done)))); (focus (simp only [lk, Nat.reduceEqDiff, reduceIte, h0, h1]; (try rfl); done)); (focus rfl); (focus (simp only [List.drop_zero, List.drop_succ_cons, List.take_succ_cons, List.take_zero, List.take_nil]; (try rfl); done)))
      | (apply q_alloc; (focus (first | exact wN | (apply wG; (simp only [lk, Nat.reduceEqDiff, reduceIte, h0, h1]; (try rfl); done)))); try simp only [n_empty, St.n_new, St.n_put, Nat.zero_add, Nat.reduceAdd])
      | (apply q_bslice0; (focus (first | exact wN | (apply wG; (simp only [lk, Nat.reduceEqDiff, reduceIte, h0, h1]; (try rfl); done)))); try simp only [n_empty, St.n_new, St.n_put, Nat.zero_add, Nat.reduceAdd])
      | (apply q_bslice1; (focus (first | exact wN | (apply wG; (simp only [lk, Nat.reduceEqDiff, reduceIte, h0, h1]; (try rfl); done)))); (focus (simp only [lk, Nat.reduceEqDiff, reduceIte, h0, h1]; (try rfl); done)); (focus (first | rfl | assumption | (simp only [isC_int, isC_sref, isC_nils, isC_simm, *]; done))); try simp only [n_empty, St.n_new, St.n_put, Nat.zero_add, Nat.reduceAdd])
      | (apply q_store; (focus (simp only [lk, Nat.reduceEqDiff, reduceIte, h0, h1]; (try rfl); done)); (focus (simp only [lk, Nat.reduceEqDiff, reduceIte, h0, h1]; (try rfl); done)); (focus (first | exact cells_cell (by assumption) | (simp only [cells_agg, cells_int, cells_bool, cells_str, cells_nils, cells_zs, cells_simm, cells_sref, cells_pref, cells_mref, isC_int, isC_bool, isC_str, isC_nils, isC_zs, isC_simm, isC_sref, List.all_cons, List.all_nil, Bool.and_self, if_true, *]; (try rfl); done))); (focus (first | (simp only [St.get_put, St.get_new, St.n_put, St.n_new, n_empty, Nat.zero_add, Nat.reduceAdd, Nat.reduceEqDiff, reduceIte, *]; (try rfl); done))); (focus rfl); (focus rfl); try simp only [splice, List.set_cons_zero, List.set_cons_succ])
      | (apply q_faddrR; (focus (first | exact wN | (apply wG; (simp only [lk, Nat.reduceEqDiff, reduceIte, h0, h1]; (try rfl); done)))); (focus (simp only [lk, Nat.reduceEqDiff, reduceIte, h0, h1]; (try rfl); done)))
      | (apply q_loadR; (focus (first | exact wN | (apply wG; (simp only [lk, Nat.reduceEqDiff, reduceIte, h0, h1]; (try rfl); done)))); (focus (simp only [lk, Nat.reduceEqDiff, reduceIte, h0, h1]; (try rfl); done)); (focus (first | (simp only [St.get_put, St.get_new, St.n_put, St.n_new, n_empty, Nat.zero_add, Nat.reduceAdd, Nat.reduceEqDiff, reduceIte, *]; (try rfl); done))); (focus (first | rfl | (simp only [Nat.mul_one, Nat.zero_add, hv.sl.len, *]; (try rfl); done))))
      | (apply q_loadRN; (focus (first | exact wN | (apply wG; (simp only [lk, Nat.reduceEqDiff, reduceIte, h0, h1]; (try rfl); done)))); (focus (simp only [lk, Nat.reduceEqDiff, reduceIte, h0, h1]; (try rfl); done)); (focus (first | (simp only [St.get_put, St.get_new, St.n_put, St.n_new, n_empty, Nat.zero_add, Nat.reduceAdd, Nat.reduceEqDiff, reduceIte, *]; (try rfl); done))); (focus rfl); (focus (simp only [List.drop_zero, List.drop_succ_cons, List.take_succ_cons, List.take_zero, List.take_nil]; (try rfl); done)))
      | (apply q_ext; (focus (first | exact wN | (apply wG; (simp only [lk, Nat.reduceEqDiff, reduceIte, h0, h1]; (try rfl); done)))); (focus (simp only [lk, Nat.reduceEqDiff, reduceIte, h0, h1]; (try rfl); done)); (focus rfl))
      | (apply q_skip rfl; (focus (simp only [lk, Nat.reduceEqDiff, reduceIte, h0, h1]; (try rfl); done)); (focus rfl); simp only [Env.put_some]))
  refine q_gen (v := .simm (((ints l).drop 0).take k) k) wN (run_slice (h := k) (k := 0) (by simp only [lk, sv1, sv2, sv3, Nat.reduceEqDiff, Nat.reduceAdd, Nat.reduceLeDiff, reduceIte, if_false, if_true, mkVal, unLV, List.map, optTmps, h0]; exact hvs) rfl rfl (by simp only [lk, sv1, sv2, sv3, Nat.reduceEqDiff, Nat.reduceAdd, Nat.reduceLeDiff, reduceIte, if_false, if_true, mkVal, unLV, List.map, optTmps, h1]; exact bnd_int hk) rfl (ints_length l)) rfl trivial ?_
  simp only [Env.put_some]
  have z1 : splice z 0 (((ints l).drop k).take (l.length - k)) = ints (l.drop k) ++ z.drop (l.length - k) := by
    have h3 : ((ints l).drop k).take (l.length - k) = ints (l.drop k) := by
      rw [List.take_of_length_le (by simp)]; simp [ints, List.map_drop]
    have := splice_at (ints (l.drop k)) [] (z.take (l.length - k)) (z.drop (l.length - k)) (by simp [hrep])
    rw [h3]
    simpa using this
  rw [z1]
  refine q_gen (v := .int .i64 (k : Int)) (s' := St.put (St.put (St.new St.empty (.cells .mut z)) 0 (.cells .mut (ints (l.drop k) ++ z.drop (l.length - k)))) 0 (.cells .mut (splice (ints (l.drop k) ++ z.drop (l.length - k)) (l.length - k) (((ints l).drop 0).take k)))) wN ?_ rfl trivial ?_
  · have hm1 : min k k = k := by omega
    have hr1 : ∀ s, rowOf s 1 k (.simm ((ints l).take k) k) = some ((ints l).take k) := fun s => rowOf_simm (by simp; omega)
    simp only [List.drop_zero, LOp.run, lk, sv1, sv2, sv3, Nat.reduceEqDiff, Nat.reduceAdd, Nat.reduceLeDiff, reduceIte, if_false, if_true, mkVal, unLV, List.map, optTmps, lenLV, Option.bind_eq_bind, Option.bind_some, hm1, hr1, St.get_put, if_true, Nat.zero_add, Nat.mul_one]
    rw [if_pos ⟨trivial, by simp [hrep]; omega⟩]
  simp only [Env.put_some]
  have z2 : splice (ints (l.drop k) ++ z.drop (l.length - k)) (l.length - k) (((ints l).drop 0).take k) = ints (l.drop k ++ l.take k) := by
    have h3 : ((ints l).drop 0).take k = ints (l.take k) := by simp [ints, List.map_take]
    have := splice_at (ints (l.take k)) (ints (l.drop k)) (z.drop (l.length - k)) [] (by simp [hrep]; omega)
    rw [h3]
    simpa [ints] using this
  rw [z2]
  repeat' (first
      | (apply qc_block)
      | (apply qc_seq)
      | (apply qc_skip; try simp only [Thn, Blkd, reduceIte, Nat.reduceEqDiff])
      | (apply qc_exit; try simp only [Thn, Blkd, reduceIte, Nat.reduceEqDiff, Nat.succ_ne_self])
      | (apply qc_ret; try simp only [Thn, Blkd, reduceIte, Nat.reduceEqDiff])
      | (apply qc_region hm)
      | (apply q_nil; try simp only [Thn, Blkd, reduceIte, Nat.reduceEqDiff])
      | (apply qc_condT; (focus (simp only [lk, Nat.reduceEqDiff, reduceIte, h0, h1]; (try rfl); done)))
      | (apply qc_condF; (focus (simp only [lk, Nat.reduceEqDiff, reduceIte, h0, h1]; (try rfl); done)))
      | (apply q_mv; (focus (first | exact wN | (apply wG; (simp only [lk, Nat.reduceEqDiff, reduceIte, h0, h1]; (try rfl); done)))); (focus (simp only [lk, Nat.reduceEqDiff, reduceIte, h0, h1]; (try rfl); done)))
      | (apply q_cmp; (focus (first | exact wN | (apply wG; (simp only [lk, Nat.reduceEqDiff, reduceIte, h0, h1]; (try rfl); done)))); (focus (simp only [lk, Nat.reduceEqDiff, reduceIte, h0, h1]; (try rfl); done)); (focus (simp only [lk, Nat.reduceEqDiff, reduceIte, h0, h1]; (try rfl); done)); (focus rfl); intro bb hbb; cases bb <;> (simp only [decide_eq_true_eq, decide_eq_false_iff_not, bne_iff_ne, beq_iff_eq, ne_eq, bne_eq_false_iff_eq, beq_eq_false_iff_ne, Int.not_lt, Int.not_le, gt_iff_lt, ge_iff_le, Bool.not_eq_true] at hbb))
      | (apply q_eq; (focus (first | exact wN | (apply wG; (simp only [lk, Nat.reduceEqDiff, reduceIte, h0, h1]; (try rfl); done)))); (focus (simp only [lk, Nat.reduceEqDiff, reduceIte, h0, h1]; (try rfl); done)); (focus (simp only [lk, Nat.reduceEqDiff, reduceIte, h0, h1]; (try rfl); done)); (focus rfl); intro bb hbb; cases bb <;> (try simp only [Bool.false_eq_true, if_false] at hbb))
      | (apply q_bin; (focus (first | exact wN | (apply wG; (simp only [lk, Nat.reduceEqDiff, reduceIte, h0, h1]; (try rfl); done)))); (focus (simp only [lk, Nat.reduceEqDiff, reduceIte, h0, h1]; (try rfl); done)); (focus (simp only [lk, Nat.reduceEqDiff, reduceIte, h0, h1]; (try rfl); done)); (focus rfl))
      | (apply q_faddr; (focus (first | exact wN | (apply wG; (simp only [lk, Nat.reduceEqDiff, reduceIte, h0, h1]; (try rfl); done)))); (focus (simp only [lk, Nat.reduceEqDiff, reduceIte, h0, h1]; (try rfl); done)))
      | (apply q_load; (focus (first | exact wN | (apply wG; (simp only [lk, Nat.reduceEqDiff, reduceIte, h0, h1]; (try rfl); done)))); (focus (simp only [lk, Nat.reduceEqDiff, reduceIte, h0, h1]; (try rfl); done)); (focus (first | rfl | (simp only [Nat.mul_one, Nat.zero_add, *]; (try rfl); done))))
      | (apply q_len; (focus (first | exact wN | (apply wG; (simp only [lk, Nat.reduceEqDiff, reduceIte, h0, h1]; (try rfl); done)))); (focus (simp only [lk, Nat.reduceEqDiff, reduceIte, h0, h1]; (try rfl); done)); (focus (first | rfl | (simp only [Nat.mul_one, Nat.zero_add, *]; (try rfl); done))))
      | (apply q_iaddr; (focus (first | exact wN | (apply wG; (simp only [lk, Nat.reduceEqDiff, reduceIte, h0, h1]; (try rfl); done)))); (focus (simp only [lk, Nat.reduceEqDiff, reduceIte, h0, h1]; (try rfl); done)); (focus (simp only [lk, Nat.reduceEqDiff, reduceIte, h0, h1]; (try rfl); done)); (focus (first | rfl | (simp only [Nat.mul_one, Nat.zero_add, *]; (try rfl); done))))
      | (apply q_max2; (focus (first | exact wN | (apply wG; (simp only [lk, Nat.reduceEqDiff, reduceIte, h0, h1]; (try rfl); done)))); (focus (simp only [lk, Nat.reduceEqDiff, reduceIte, h0, h1]; (try rfl); done)); (focus (simp only [lk, Nat.reduceEqDiff, reduceIte, h0, h1]; (try rfl); done)))
      | (apply q_min2; (focus (first | exact wN | (apply wG; (simp only [lk, Nat.reduceEqDiff, reduceIte, h0, h1]; (try rfl); done)))); (focus (simp only [lk, Nat.reduceEqDiff, reduceIte, h0, h1]; (try rfl); done)); (focus (simp only [lk, Nat.reduceEqDiff, reduceIte, h0, h1]; (try rfl); done)))
      | (apply q_not; (focus (first | exact wN | (apply wG; (simp only [lk, Nat.reduceEqDiff, reduceIte, h0, h1]; (try rfl); done)))); (focus (simp only [lk, Nat.reduceEqDiff, reduceIte, h0, h1]; (try rfl); done)))
      | (apply q_pickT; (focus (first | exact wN | (apply wG; (simp only [lk, Nat.reduceEqDiff, reduceIte, h0, h1]; (try rfl); done)))); (focus (simp only [lk, Nat.reduceEqDiff, reduceIte, h0, h1]; (try rfl); done)); (focus (simp only [lk, Nat.reduceEqDiff, reduceIte, h0, h1]; (try rfl); done)))
      | (apply q_pickF; (focus (first | exact wN | (apply wG; (simp only [lk, Nat.reduceEqDiff, reduceIte, h0, h1]; (try rfl); done)))); (focus (simp only [lk, Nat.reduceEqDiff, reduceIte, h0, h1]; (try rfl); done)); (focus (simp only [lk, Nat.reduceEqDiff, reduceIte, h0, h1]; (try rfl); done)))
      | (apply q_box; (focus (simp only [lk, Nat.reduceEqDiff, reduceIte, h0, h1]; (try rfl); done)); (focus assumption); (focus (simp only [List.all_cons, List.all_nil, isC_int, isC_bool, isC_str, Bool.and_self, *]; done)); (focus rfl))
      | (apply q_loadN; (focus (first | exact wN | (apply wG; (simp only [lk, Nat.reduceEqDiff, reduceIte, h0, h1]; (try rfl); done)))); (focus (simp only [lk, Nat.reduceEqDiff, reduceIte, h0, h1]; (try rfl); done)); (focus rfl); (focus (simp only [List.drop_zero, List.drop_succ_cons, List.take_succ_cons, List.take_zero, List.take_nil]; (try rfl); done)))
      | (apply q_alloc; (focus (first | exact wN | (apply wG; (simp only [lk, Nat.reduceEqDiff, reduceIte, h0, h1]; (try rfl); done)))); try simp only [n_empty, St.n_new, St.n_put, Nat.zero_add, Nat.reduceAdd])
      | (apply q_bslice0; (focus (first | exact wN | (apply wG; (simp only [lk, Nat.reduceEqDiff, reduceIte, h0, h1]; (try rfl); done)))); try simp only [n_empty, St.n_new, St.n_put, Nat.zero_add, Nat.reduceAdd])
      | (apply q_bslice1; (focus (first | exact wN | (apply wG; (simp only [lk, Nat.reduceEqDiff, reduceIte, h0, h1]; (try rfl); done)))); (focus (simp only [lk, Nat.reduceEqDiff, reduceIte, h0, h1]; (try rfl); done)); (focus (first | rfl | assumption | (simp only [isC_int, isC_sref, isC_nils, isC_simm, *]; done))); try simp only [n_empty, St.n_new, St.n_put, Nat.zero_add, Nat.reduceAdd])
      | (apply q_store; (focus (simp only [lk, Nat.reduceEqDiff, reduceIte, h0, h1]; (try rfl); done)); (focus (simp only [lk, Nat.reduceEqDiff, reduceIte, h0, h1]; (try rfl); done)); (focus (first | exact cells_cell (by assumption) | (simp only [cells_agg, cells_int, cells_bool, cells_str, cells_nils, cells_zs, cells_simm, cells_sref, cells_pref, cells_mref, isC_int, isC_bool, isC_str, isC_nils, isC_zs, isC_simm, isC_sref, List.all_cons, List.all_nil, Bool.and_self, if_true, *]; (try rfl); done))); (focus (first | (simp only [St.get_put, St.get_new, St.n_put, St.n_new, n_empty, Nat.zero_add, Nat.reduceAdd, Nat.reduceEqDiff, reduceIte, *]; (try rfl); done))); (focus rfl); (focus rfl); try simp only [splice, List.set_cons_zero, List.set_cons_succ])
      | (apply q_faddrR; (focus (first | exact wN | (apply wG; (simp only [lk, Nat.reduceEqDiff, reduceIte, h0, h1]; (try rfl); done)))); (focus (simp only [lk, Nat.reduceEqDiff, reduceIte, h0, h1]; (try rfl); done)))
      | (apply q_loadR; (focus (first | exact wN | (apply wG; (simp only [lk, Nat.reduceEqDiff, reduceIte, h0, h1]; (try rfl); done)))); (focus (simp only [lk, Nat.reduceEqDiff, reduceIte, h0, h1]; (try rfl); done)); (focus (first | (simp only [St.get_put, St.get_new, St.n_put, St.n_new, n_empty, Nat.zero_add, Nat.reduceAdd, Nat.reduceEqDiff, reduceIte, *]; (try rfl); done))); (focus (first | rfl | (simp only [Nat.mul_one, Nat.zero_add, *]; (try rfl); done))))
      | (apply q_loadRN; (focus (first | exact wN | (apply wG; (simp only [lk, Nat.reduceEqDiff, reduceIte, h0, h1]; (try rfl); done)))); (focus (simp only [lk, Nat.reduceEqDiff, reduceIte, h0, h1]; (try rfl); done)); (focus (first | (simp only [St.get_put, St.get_new, St.n_put, St.n_new, n_empty, Nat.zero_add, Nat.reduceAdd, Nat.reduceEqDiff, reduceIte, *]; (try rfl); done))); (focus rfl); (focus (simp only [List.drop_zero, List.drop_succ_cons, List.take_succ_cons, List.take_zero, List.take_nil]; (try rfl); done)))
      | (apply q_ext; (focus (first | exact wN | (apply wG; (simp only [lk, Nat.reduceEqDiff, reduceIte, h0, h1]; (try rfl); done)))); (focus (simp only [lk, Nat.reduceEqDiff, reduceIte, h0, h1]; (try rfl); done)); (focus rfl))
      | (apply q_skip rfl; (focus (simp only [lk, Nat.reduceEqDiff, reduceIte, h0, h1]; (try rfl); done)); (focus rfl); simp only [Env.put_some]))
  exact ⟨.inr trivial, fin_ints (by simp only [lk, sv1, sv2, sv3, Nat.reduceEqDiff, Nat.reduceAdd, Nat.reduceLeDiff, reduceIte, if_false, if_true, mkVal, unLV, List.map, optTmps]; rfl) (by simp; omega) (by rw [St.get_put, if_pos rfl]) hlm⟩
end Go.Proofs.Ytmfpcofncfhklaa
