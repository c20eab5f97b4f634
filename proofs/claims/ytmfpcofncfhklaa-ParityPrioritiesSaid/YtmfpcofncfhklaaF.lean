/- Priorities turned. -/
import Derived.Test.YtmfpcofncfhklaaE
set_option linter.unusedSimpArgs false
set_option linter.unusedVariables false
namespace Go.Proofs.Ytmfpcofncfhklaa
open Go Go.Pv
open Classical

def chg (m : Int) (l : List Int) : List Int := l.map fun x => 3 * x + m
theorem chg_take {m : Int} {l : List Int} {k : Nat} (h : k < l.length) : ints (chg m (l.take (k + 1))) = ints (chg m (l.take k)) ++ [.int .i64 (3 * l.getD k 0 + m)] := by
  rw [List.take_add_one, List.getElem?_eq_getElem h]
  simp only [ints, chg, List.map_append, List.getD_eq_getElem?_getD, List.getElem?_eq_getElem h, Option.toList_some, List.map_cons, List.map_nil, Option.getD_some]

/-- The rows that are made so far. -/
def Made (m : Int) (R : List (List Int)) (i : Nat) (vs : List LV) : Prop := vs.length = i ∧ ∀ j, j < i → vs.getD j .top = .simm (ints (chg m (R.getD j []))) (R.getD j []).length

theorem Made.closed {m : Int} {R : List (List Int)} {i : Nat} {vs : List LV} (h : Made m R i vs) : LV.closed.closedAll vs = true :=
  closedAll_of fun j hj => by rw [h.2 j (by rw [← h.1]; exact hj)]; simp [LV.closed, ints_closed]

theorem Made.snoc {m : Int} {R : List (List Int)} {i : Nat} {vs : List LV} (h : Made m R i vs) : Made m R (i + 1) (vs ++ [.simm (ints (chg m (R.getD i []))) (R.getD i []).length]) := by
  refine ⟨by simp [h.1], fun j hj => ?_⟩
  by_cases hlt : j < i
  · rw [List.getD_eq_getElem?_getD, List.getElem?_append_left (by rw [h.1]; exact hlt), ← List.getD_eq_getElem?_getD]
    exact h.2 j hlt
  · obtain rfl : j = i := by omega
    rw [List.getD_eq_getElem?_getD, List.getElem?_append_right (by rw [h.1]; exact Nat.le_refl _), h.1, Nat.sub_self]
    rfl

/-- The rows that are made so far, where they stand. -/
def Acc (m : Int) (R : List (List Int)) (i : Nat) (s : St) (acc : LV) : Prop :=
  (i = 0 ∧ acc = .nils) ∨ (0 < i ∧ ∃ j vs, 1 < j ∧ j < s.n ∧ acc = .sref j 0 i 1 ∧ s.get j = some (.cells .mut vs) ∧ Made m R i vs)
/-- The state between rows: the result's place, the new automaton's, and the rows. -/
def Sta (L S m : Int) (nx : LV) (R : List (List Int)) (i : Nat) (s : St) (acc : LV) : Prop :=
  1 < s.n ∧ s.get 0 = some (.cells .mut [.int .i64 0, .int .i64 0, .nils, .nils]) ∧ s.get 1 = some (.cells .mut [.int .i64 L, .int .i64 S, nx, acc]) ∧ isCell acc = true ∧ Acc m R i s acc

theorem Acc.put1 {m : Int} {R : List (List Int)} {i : Nat} {s : St} {acc : LV} {b : Blk} (h : Acc m R i s acc) : Acc m R i (s.put 1 b) acc := by
  rcases h with h | ⟨h0, j, vs, h1, h2, h3, h4, h5⟩
  · exact .inl h
  · exact .inr ⟨h0, j, vs, h1, h2, h3, by rw [St.get_put, if_neg (by omega)]; exact h4, h5⟩

theorem acc_append {m : Int} {R : List (List Int)} {i b : Nat} {s s3 : St} {acc : LV} (hacc : Acc m R i s acc) (h1 : 1 < s.n) (hn : s.n ≤ s3.n) (hold : ∀ id, id < s.n → s3.get id = s.get id) (hb : b ≤ 2 ^ 10) (hi : i ≤ 2 ^ 20) :
    ∃ acc' s4, appendLV 1 b acc [.simm (ints (chg m (R.getD i []))) (R.getD i []).length] 1 s3 = some (acc', s4) ∧ Acc m R (i + 1) s4 acc' ∧ isCell acc' = true ∧ s3.n < s4.n ∧ s4.get 0 = s3.get 0 ∧ s4.get 1 = s3.get 1 := by
  rcases hacc with ⟨rfl, rfl⟩ | ⟨h0, j, vs, hj1, hj2, rfl, hsj, hmade⟩
  · refine ⟨_, _, appendLV_nils (by omega), .inr ⟨by omega, s3.n, _, by omega, by simp, rfl, by rw [St.get_new, if_pos rfl], ?_⟩, rfl, by simp, by rw [St.get_new, if_neg (by omega)], by rw [St.get_new, if_neg (by omega)]⟩
    exact Made.snoc (i := 0) (vs := []) ⟨rfl, fun j hj => absurd hj (Nat.not_lt_zero _)⟩
  · refine ⟨_, _, appendLV_mut (by rw [hold j hj2]; exact hsj) hmade.1 hb hi, .inr ⟨by omega, s3.n, _, by omega, by simp, rfl, by rw [St.get_new, St.n_put, if_pos rfl], hmade.snoc⟩, rfl, by simp, ?_, ?_⟩
    · rw [St.get_new, St.n_put, if_neg (by omega), St.get_put, if_neg (by omega)]
    · rw [St.get_new, St.n_put, if_neg (by omega), St.get_put, if_neg (by omega)]

theorem Made.rows {m : Int} {R : List (List Int)} {vs : List LV} (h : Made m R R.length vs) (hRl : R.length ≤ 3000) (hm0 : 0 ≤ m) (hm1 : m ≤ 255)
    (hb : ∀ i, i < R.length → (R.getD i []).length ≤ 64 ∧ ∀ k, k < (R.getD i []).length → 0 ≤ (R.getD i []).getD k 0 ∧ (R.getD i []).getD k 0 ≤ 6000) : IsRows (.simm vs R.length) (R.map (chg m)) vs := by
  have hmx : (3000 : Nat) ≤ maxLen := by decide
  refine ⟨by rw [List.length_map]; exact .simm _ _, by rw [List.length_map]; exact h.1, by rw [List.length_map]; omega, fun i hi => ?_⟩
  rw [List.length_map] at hi
  have hg : (R.map (chg m)).getD i [] = chg m (R.getD i []) := by simp [List.getD_eq_getElem?_getD, hi]
  rw [h.2 i hi, hg]
  have hl : (chg m (R.getD i [])).length = (R.getD i []).length := by simp [chg]
  obtain ⟨b1, b2⟩ := hb i hi
  refine ⟨by rw [← hl]; exact .simm _ _, by rw [hl]; omega, fun x hx => ?_⟩
  obtain ⟨y, hy, rfl⟩ := List.mem_map.1 hx
  obtain ⟨k, hk, rfl⟩ := List.getElem_of_mem hy
  have := b2 k hk
  rw [List.getD_eq_getElem?_getD, List.getElem?_eq_getElem hk, Option.getD_some] at this
  constructor <;> omega

set_option maxHeartbeats 4000000 in
theorem changed_ok {L S m : Int} {nx pr : LV} {N R : List (List Int)} {vN vR : List LV} (hN : IsRows nx N vN) (hR : IsRows pr R vR) (hm0 : 0 ≤ m) (hm1 : m ≤ 255) (hRl : R.length ≤ 3000)
    (hb : ∀ i, i < R.length → (R.getD i []).length ≤ 64 ∧ ∀ k, k < (R.getD i []).length → 0 ≤ (R.getD i []).getD k 0 ∧ (R.getD i []).getD k 0 ≤ 6000) :
    PE 21 [.agg [.int .i64 L, .int .i64 S, nx, pr], .int .i64 m] (fun r => ∃ pr' vR', r = .agg [.int .i64 L, .int .i64 S, nx, pr'] ∧ IsRows pr' (R.map (chg m)) vR') := by
  have hcl : (LV.agg [.int .i64 L, .int .i64 S, nx, pr]).closed = true := by simp [LV.closed, LV.closed.closedAll, hN.closed, hR.closed]
  have hc1 := hN.sl.cell
  have hc2 := hR.sl.cell
  refine q_fnExR Try.func21 (by decide +kernel) c21 (Nat.le_of_ble_eq_true rfl) (by simp [LV.closed.closedAll, hcl]; rfl) ?_
  have h0 : (envOf [LV.agg [.int .i64 L, .int .i64 S, nx, pr], .int .i64 m]).at 0 = .agg [.int .i64 L, .int .i64 S, nx, pr] := by rw [envOf_at]; rfl
  have h1 : (envOf [LV.agg [.int .i64 L, .int .i64 S, nx, pr], .int .i64 m]).at 1 = .int .i64 m := by rw [envOf_at]; rfl
  generalize envOf [LV.agg [.int .i64 L, .int .i64 S, nx, pr], .int .i64 m] = e at *
  unfold l21
  dsimp only
  repeat' (first
      | (apply qc_block)
      | (apply qc_seq)
      | (apply qc_skip; try simp only [Thn, Blkd, reduceIte, Nat.reduceEqDiff])
      | (apply qc_exit; try simp only [Thn, Blkd, reduceIte, Nat.reduceEqDiff, Nat.succ_ne_self])
      | (apply qc_ret; try simp only [Thn, Blkd, reduceIte, Nat.reduceEqDiff])
      | (apply qc_region hm)
      | (apply q_nil; try simp only [Thn, Blkd, reduceIte, Nat.reduceEqDiff])
      | (apply qc_condT; (focus (simp only [lk, Nat.reduceEqDiff, reduceIte, h0, h1]; (try rfl); done)))
      | (apply qc_condF; (focus (simp only [lk, Nat.reduceEqDiff, reduceIte, h0, h1]; (try rfl); done)))
      | (apply q_mv; (focus (first | exact wN | (apply wG; (simp only [lk, Nat.reduceEqDiff, reduceIte, h0, h1]; (try rfl); done)))); (focus (simp only [lk, Nat.reduceEqDiff, reduceIte, h0, h1]; (try rfl); done)))
      | (apply q_cmp; (focus (first | exact wN | (apply wG; (simp only [lk, Nat.reduceEqDiff, reduceIte, h0, h1]; (try rfl); done)))); (focus (simp only [lk, Nat.reduceEqDiff, reduceIte, h0, h1]; (try rfl); done)); (focus (simp only [lk, Nat.reduceEqDiff, reduceIte, h0, h1]; (try rfl); done)); (focus rfl); intro bb hbb; cases bb <;> (simp only [decide_eq_true_eq, decide_eq_false_iff_not, bne_iff_ne, beq_iff_eq, ne_eq, bne_eq_false_iff_eq, beq_eq_false_iff_ne, Int.not_lt, Int.not_le, gt_iff_lt, ge_iff_le, Bool.not_eq_true] at hbb))
      | (apply q_eq; (focus (first | exact wN | (apply wG; (simp only [lk, Nat.reduceEqDiff, reduceIte, h0, h1]; (try rfl); done)))); (focus (simp only [lk, Nat.reduceEqDiff, reduceIte, h0, h1]; (try rfl); done)); (focus (simp only [lk, Nat.reduceEqDiff, reduceIte, h0, h1]; (try rfl); done)); (focus rfl); intro bb hbb; cases bb <;> (try simp only [Bool.false_eq_true, if_false] at hbb))
      | (apply q_bin; (focus (first | exact wN | (apply wG; (simp only [lk, Nat.reduceEqDiff, reduceIte, h0, h1]; (try rfl); done)))); (focus (simp only [lk, Nat.reduceEqDiff, reduceIte, h0, h1]; (try rfl); done)); (focus (simp only [lk, Nat.reduceEqDiff, reduceIte, h0, h1]; (try rfl); done)); (focus rfl))
      | (apply q_faddr; (focus (first | exact wN | (apply wG; (simp only [lk, Nat.reduceEqDiff, reduceIte, h0, h1]; (try rfl); done)))); (focus (simp only [lk, Nat.reduceEqDiff, reduceIte, h0, h1]; (try rfl); done)))
      | (apply q_load; (focus (first | exact wN | (apply wG; (simp only [lk, Nat.reduceEqDiff, reduceIte, h0, h1]; (try rfl); done)))); (focus (simp only [lk, Nat.reduceEqDiff, reduceIte, h0, h1]; (try rfl); done)); (focus (first | rfl | (simp only [Nat.mul_one, Nat.zero_add, hN.sl.len, hR.sl.len, *]; (try rfl); done))))
      | (apply q_len; (focus (first | exact wN | (apply wG; (simp only [lk, Nat.reduceEqDiff, reduceIte, h0, h1]; (try rfl); done)))); (focus (simp only [lk, Nat.reduceEqDiff, reduceIte, h0, h1]; (try rfl); done)); (focus (first | rfl | (simp only [Nat.mul_one, Nat.zero_add, hN.sl.len, hR.sl.len, *]; (try rfl); done))))
      | (apply q_iaddr; (focus (first | exact wN | (apply wG; (simp only [lk, Nat.reduceEqDiff, reduceIte, h0, h1]; (try rfl); done)))); (focus (simp only [lk, Nat.reduceEqDiff, reduceIte, h0, h1]; (try rfl); done)); (focus (simp only [lk, Nat.reduceEqDiff, reduceIte, h0, h1]; (try rfl); done)); (focus (first | rfl | (simp only [Nat.mul_one, Nat.zero_add, hN.sl.len, hR.sl.len, *]; (try rfl); done))))
      | (apply q_max2; (focus (first | exact wN | (apply wG; (simp only [lk, Nat.reduceEqDiff, reduceIte, h0, h1]; (try rfl); done)))); (focus (simp only [lk, Nat.reduceEqDiff, reduceIte, h0, h1]; (try rfl); done)); (focus (simp only [lk, Nat.reduceEqDiff, reduceIte, h0, h1]; (try rfl); done)))
      | (apply q_min2; (focus (first | exact wN | (apply wG; (simp only [lk, Nat.reduceEqDiff, reduceIte, h0, h1]; (try rfl); done)))); (focus (simp only [lk, Nat.reduceEqDiff, reduceIte, h0, h1]; (try rfl); done)); (focus (simp only [lk, Nat.reduceEqDiff, reduceIte, h0, h1]; (try rfl); done)))
      | (apply q_not; (focus (first | exact wN | (apply wG; (simp only [lk, Nat.reduceEqDiff, reduceIte, h0, h1]; (try rfl); done)))); (focus (simp only [lk, Nat.reduceEqDiff, reduceIte, h0, h1]; (try rfl); done)))
      | (apply q_pickT; (focus (first | exact wN | (apply wG; (simp only [lk, Nat.reduceEqDiff, reduceIte, h0, h1]; (try rfl); done)))); (focus (simp only [lk, Nat.reduceEqDiff, reduceIte, h0, h1]; (try rfl); done)); (focus (simp only [lk, Nat.reduceEqDiff, reduceIte, h0, h1]; (try rfl); done)))
      | (apply q_pickF; (focus (first | exact wN | (apply wG; (simp only [lk, Nat.reduceEqDiff, reduceIte, h0, h1]; (try rfl); done)))); (focus (simp only [lk, Nat.reduceEqDiff, reduceIte, h0, h1]; (try rfl); done)); (focus (simp only [lk, Nat.reduceEqDiff, reduceIte, h0, h1]; (try rfl); done)))
      | (apply q_box; (focus (simp only [lk, Nat.reduceEqDiff, reduceIte, h0, h1]; (try rfl); done)); (focus assumption); (focus (simp only [List.all_cons, List.all_nil, isC_int, isC_bool, isC_str, Bool.and_self, *]; done)); (focus rfl))
      | (apply q_loadN; (focus (first | exact wN | (apply wG; (simp only [lk, Nat.reduceEqDiff, reduceIte, h0, h1]; (try rfl); done)))); (focus (simp only [lk, Nat.reduceEqDiff, reduceIte, h0, h1]; (try rfl); done)); (focus rfl); (focus (simp only [List.drop_zero, List.drop_succ_cons, List.take_succ_cons, List.take_zero, List.take_nil]; (try rfl); done)))
      | (apply q_alloc; (focus (first | exact wN | (apply wG; (simp only [lk, Nat.reduceEqDiff, reduceIte, h0, h1]; (try rfl); done)))); try simp only [n_empty, St.n_new, St.n_put, Nat.zero_add, Nat.reduceAdd])
      | (apply q_bslice0; (focus (first | exact wN | (apply wG; (simp only [lk, Nat.reduceEqDiff, reduceIte, h0, h1]; (try rfl); done)))); try simp only [n_empty, St.n_new, St.n_put, Nat.zero_add, Nat.reduceAdd])
      | (apply q_bslice1; (focus (first | exact wN | (apply wG; (simp only [lk, Nat.reduceEqDiff, reduceIte, h0, h1]; (try rfl); done)))); (focus (simp only [lk, Nat.reduceEqDiff, reduceIte, h0, h1]; (try rfl); done)); (focus (first | rfl | assumption | (simp only [isC_int, isC_sref, isC_nils, isC_simm, *]; done))); try simp only [n_empty, St.n_new, St.n_put, Nat.zero_add, Nat.reduceAdd])
      | (apply q_store; (focus (simp only [lk, Nat.reduceEqDiff, reduceIte, h0, h1]; (try rfl); done)); (focus (simp only [lk, Nat.reduceEqDiff, reduceIte, h0, h1]; (try rfl); done)); (focus (first | exact cells_cell (by assumption) | (simp only [cells_agg, cells_int, cells_bool, cells_str, cells_nils, cells_zs, cells_simm, cells_sref, cells_pref, cells_mref, isC_int, isC_bool, isC_str, isC_nils, isC_zs, isC_simm, isC_sref, List.all_cons, List.all_nil, Bool.and_self, if_true, *]; (try rfl); done))); (focus (first | (simp only [St.get_put, St.get_new, St.n_put, St.n_new, n_empty, Nat.zero_add, Nat.reduceAdd, Nat.reduceEqDiff, reduceIte, *]; (try rfl); done))); (focus rfl); (focus rfl); try simp only [splice, List.set_cons_zero, List.set_cons_succ])
      | (apply q_faddrR; (focus (first | exact wN | (apply wG; (simp only [lk, Nat.reduceEqDiff, reduceIte, h0, h1]; (try rfl); done)))); (focus (simp only [lk, Nat.reduceEqDiff, reduceIte, h0, h1]; (try rfl); done)))
      | (apply q_loadR; (focus (first | exact wN | (apply wG; (simp only [lk, Nat.reduceEqDiff, reduceIte, h0, h1]; (try rfl); done)))); (focus (simp only [lk, Nat.reduceEqDiff, reduceIte, h0, h1]; (try rfl); done)); (focus (first | (simp only [St.get_put, St.get_new, St.n_put, St.n_new, n_empty, Nat.zero_add, Nat.reduceAdd, Nat.reduceEqDiff, reduceIte, *]; (try rfl); done))); (focus (first | rfl | (simp only [Nat.mul_one, Nat.zero_add, hN.sl.len, hR.sl.len, *]; (try rfl); done))))
      | (apply q_loadRN; (focus (first | exact wN | (apply wG; (simp only [lk, Nat.reduceEqDiff, reduceIte, h0, h1]; (try rfl); done)))); (focus (simp only [lk, Nat.reduceEqDiff, reduceIte, h0, h1]; (try rfl); done)); (focus (first | (simp only [St.get_put, St.get_new, St.n_put, St.n_new, n_empty, Nat.zero_add, Nat.reduceAdd, Nat.reduceEqDiff, reduceIte, *]; (try rfl); done))); (focus rfl); (focus (simp only [List.drop_zero, List.drop_succ_cons, List.take_succ_cons, List.take_zero, List.take_nil]; (try rfl); done)))
      | (apply q_ext; (focus (first | exact wN | (apply wG; (simp only [lk, Nat.reduceEqDiff, reduceIte, h0, h1]; (try rfl); done)))); (focus (simp only [lk, Nat.reduceEqDiff, reduceIte, h0, h1]; (try rfl); done)); (focus rfl))
      | (apply q_skip rfl; (focus (simp only [lk, Nat.reduceEqDiff, reduceIte, h0, h1]; (try rfl); done)); (focus rfl); simp only [Env.put_some]))
  refine qc_loop (fun n e s => ∃ i : Nat, n = R.length - i ∧ i ≤ R.length ∧ e.at 1 = .int .i64 m ∧ e.at 2 = .pimm [.int .i64 L, .int .i64 S, nx, pr] 0 ∧ e.at 4 = .pref 0 0 ∧ e.at 5 = .pref 1 0 ∧ e.at 6 = .int .i64 (i : Int) ∧ ∃ acc, Sta L S m nx R i s acc) R.length
    ⟨0, by simp, by simp, by simp [h1], by simp, by simp, by simp, by simp, .nils, by simp [n_empty], by simp [n_empty], by simp, rfl, .inl ⟨rfl, rfl⟩⟩ ?_
  rintro n e s ⟨i, rfl, hi, e1, e2, e4, e5, e6, acc, hn, hs0, hs1, hca, hacc⟩
  repeat' (first
      | (apply qc_block)
      | (apply qc_seq)
      | (apply qc_skip; try simp only [Thn, Blkd, reduceIte, Nat.reduceEqDiff])
      | (apply qc_exit; try simp only [Thn, Blkd, reduceIte, Nat.reduceEqDiff, Nat.succ_ne_self])
      | (apply qc_ret; try simp only [Thn, Blkd, reduceIte, Nat.reduceEqDiff])
      | (apply qc_region hm)
      | (apply q_nil; try simp only [Thn, Blkd, reduceIte, Nat.reduceEqDiff])
      | (apply qc_condT; (focus (simp only [lk, Nat.reduceEqDiff, reduceIte, e1, e2, e4, e5, e6]; (try rfl); done)))
      | (apply qc_condF; (focus (simp only [lk, Nat.reduceEqDiff, reduceIte, e1, e2, e4, e5, e6]; (try rfl); done)))
      | (apply q_mv; (focus (first | exact wN | (apply wG; (simp only [lk, Nat.reduceEqDiff, reduceIte, e1, e2, e4, e5, e6]; (try rfl); done)))); (focus (simp only [lk, Nat.reduceEqDiff, reduceIte, e1, e2, e4, e5, e6]; (try rfl); done)))
      | (apply q_cmp; (focus (first | exact wN | (apply wG; (simp only [lk, Nat.reduceEqDiff, reduceIte, e1, e2, e4, e5, e6]; (try rfl); done)))); (focus (simp only [lk, Nat.reduceEqDiff, reduceIte, e1, e2, e4, e5, e6]; (try rfl); done)); (focus (simp only [lk, Nat.reduceEqDiff, reduceIte, e1, e2, e4, e5, e6]; (try rfl); done)); (focus rfl); intro bb hbb; cases bb <;> (simp only [decide_eq_true_eq, decide_eq_false_iff_not, bne_iff_ne, beq_iff_eq, ne_eq, bne_eq_false_iff_eq, beq_eq_false_iff_ne, Int.not_lt, Int.not_le, gt_iff_lt, ge_iff_le, Bool.not_eq_true] at hbb))
      | (apply q_eq; (focus (first | exact wN | (apply wG; (simp only [lk, Nat.reduceEqDiff, reduceIte, e1, e2, e4, e5, e6]; (try rfl); done)))); (focus (simp only [lk, Nat.reduceEqDiff, reduceIte, e1, e2, e4, e5, e6]; (try rfl); done)); (focus (simp only [lk, Nat.reduceEqDiff, reduceIte, e1, e2, e4, e5, e6]; (try rfl); done)); (focus rfl); intro bb hbb; cases bb <;> (try simp only [Bool.false_eq_true, if_false] at hbb))
      | (apply q_bin; (focus (first | exact wN | (apply wG; (simp only [lk, Nat.reduceEqDiff, reduceIte, e1, e2, e4, e5, e6]; (try rfl); done)))); (focus (simp only [lk, Nat.reduceEqDiff, reduceIte, e1, e2, e4, e5, e6]; (try rfl); done)); (focus (simp only [lk, Nat.reduceEqDiff, reduceIte, e1, e2, e4, e5, e6]; (try rfl); done)); (focus rfl))
      | (apply q_faddr; (focus (first | exact wN | (apply wG; (simp only [lk, Nat.reduceEqDiff, reduceIte, e1, e2, e4, e5, e6]; (try rfl); done)))); (focus (simp only [lk, Nat.reduceEqDiff, reduceIte, e1, e2, e4, e5, e6]; (try rfl); done)))
      | (apply q_load; (focus (first | exact wN | (apply wG; (simp only [lk, Nat.reduceEqDiff, reduceIte, e1, e2, e4, e5, e6]; (try rfl); done)))); (focus (simp only [lk, Nat.reduceEqDiff, reduceIte, e1, e2, e4, e5, e6]; (try rfl); done)); (focus (first | rfl | (simp only [Nat.mul_one, Nat.zero_add, hR.sl.len, iaN hR.sl, hR.getI, hR.rlen, *]; (try rfl); done))))
      | (apply q_len; (focus (first | exact wN | (apply wG; (simp only [lk, Nat.reduceEqDiff, reduceIte, e1, e2, e4, e5, e6]; (try rfl); done)))); (focus (simp only [lk, Nat.reduceEqDiff, reduceIte, e1, e2, e4, e5, e6]; (try rfl); done)); (focus (first | rfl | (simp only [Nat.mul_one, Nat.zero_add, hR.sl.len, iaN hR.sl, hR.getI, hR.rlen, *]; (try rfl); done))))
      | (apply q_iaddr; (focus (first | exact wN | (apply wG; (simp only [lk, Nat.reduceEqDiff, reduceIte, e1, e2, e4, e5, e6]; (try rfl); done)))); (focus (simp only [lk, Nat.reduceEqDiff, reduceIte, e1, e2, e4, e5, e6]; (try rfl); done)); (focus (simp only [lk, Nat.reduceEqDiff, reduceIte, e1, e2, e4, e5, e6]; (try rfl); done)); (focus (first | rfl | (simp only [Nat.mul_one, Nat.zero_add, hR.sl.len, iaN hR.sl, hR.getI, hR.rlen, *]; (try rfl); done))))
      | (apply q_max2; (focus (first | exact wN | (apply wG; (simp only [lk, Nat.reduceEqDiff, reduceIte, e1, e2, e4, e5, e6]; (try rfl); done)))); (focus (simp only [lk, Nat.reduceEqDiff, reduceIte, e1, e2, e4, e5, e6]; (try rfl); done)); (focus (simp only [lk, Nat.reduceEqDiff, reduceIte, e1, e2, e4, e5, e6]; (try rfl); done)))
      | (apply q_min2; (focus (first | exact wN | (apply wG; (simp only [lk, Nat.reduceEqDiff, reduceIte, e1, e2, e4, e5, e6]; (try rfl); done)))); (focus (simp only [lk, Nat.reduceEqDiff, reduceIte, e1, e2, e4, e5, e6]; (try rfl); done)); (focus (simp only [lk, Nat.reduceEqDiff, reduceIte, e1, e2, e4, e5, e6]; (try rfl); done)))
      | (apply q_not; (focus (first | exact wN | (apply wG; (simp only [lk, Nat.reduceEqDiff, reduceIte, e1, e2, e4, e5, e6]; (try rfl); done)))); (focus (simp only [lk, Nat.reduceEqDiff, reduceIte, e1, e2, e4, e5, e6]; (try rfl); done)))
      | (apply q_pickT; (focus (first | exact wN | (apply wG; (simp only [lk, Nat.reduceEqDiff, reduceIte, e1, e2, e4, e5, e6]; (try rfl); done)))); (focus (simp only [lk, Nat.reduceEqDiff, reduceIte, e1, e2, e4, e5, e6]; (try rfl); done)); (focus (simp only [lk, Nat.reduceEqDiff, reduceIte, e1, e2, e4, e5, e6]; (try rfl); done)))
      | (apply q_pickF; (focus (first | exact wN | (apply wG; (simp only [lk, Nat.reduceEqDiff, reduceIte, e1, e2, e4, e5, e6]; (try rfl); done)))); (focus (simp only [lk, Nat.reduceEqDiff, reduceIte, e1, e2, e4, e5, e6]; (try rfl); done)); (focus (simp only [lk, Nat.reduceEqDiff, reduceIte, e1, e2, e4, e5, e6]; (try rfl); done)))
      | (apply q_box; (focus (simp only [lk, Nat.reduceEqDiff, reduceIte, e1, e2, e4, e5, e6]; (try rfl); done)); (focus assumption); (focus (simp only [List.all_cons, List.all_nil, isC_int, isC_bool, isC_str, Bool.and_self, *]; done)); (focus rfl))
      | (apply q_loadN; (focus (first | exact wN | (apply wG; (simp only [lk, Nat.reduceEqDiff, reduceIte, e1, e2, e4, e5, e6]; (try rfl); done)))); (focus (simp only [lk, Nat.reduceEqDiff, reduceIte, e1, e2, e4, e5, e6]; (try rfl); done)); (focus rfl); (focus (simp only [List.drop_zero, List.drop_succ_cons, List.take_succ_cons, List.take_zero, List.take_nil]; (try rfl); done)))
      | (apply q_alloc; (focus (first | exact wN | (apply wG; (simp only [lk, Nat.reduceEqDiff, reduceIte, e1, e2, e4, e5, e6]; (try rfl); done)))); try simp only [n_empty, St.n_new, St.n_put, Nat.zero_add, Nat.reduceAdd])
      | (apply q_bslice0; (focus (first | exact wN | (apply wG; (simp only [lk, Nat.reduceEqDiff, reduceIte, e1, e2, e4, e5, e6]; (try rfl); done)))); try simp only [n_empty, St.n_new, St.n_put, Nat.zero_add, Nat.reduceAdd])
      | (apply q_bslice1; (focus (first | exact wN | (apply wG; (simp only [lk, Nat.reduceEqDiff, reduceIte, e1, e2, e4, e5, e6]; (try rfl); done)))); (focus (simp only [lk, Nat.reduceEqDiff, reduceIte, e1, e2, e4, e5, e6]; (try rfl); done)); (focus (first | rfl | assumption | (simp only [isC_int, isC_sref, isC_nils, isC_simm, *]; done))); try simp only [n_empty, St.n_new, St.n_put, Nat.zero_add, Nat.reduceAdd])
      | (apply q_store; (focus (simp only [lk, Nat.reduceEqDiff, reduceIte, e1, e2, e4, e5, e6]; (try rfl); done)); (focus (simp only [lk, Nat.reduceEqDiff, reduceIte, e1, e2, e4, e5, e6]; (try rfl); done)); (focus (first | exact cells_cell (by assumption) | (simp only [cells_agg, cells_int, cells_bool, cells_str, cells_nils, cells_zs, cells_simm, cells_sref, cells_pref, cells_mref, isC_int, isC_bool, isC_str, isC_nils, isC_zs, isC_simm, isC_sref, List.all_cons, List.all_nil, Bool.and_self, if_true, *]; (try rfl); done))); (focus (first | (simp only [St.get_put, St.get_new, St.n_put, St.n_new, n_empty, Nat.zero_add, Nat.reduceAdd, Nat.reduceEqDiff, reduceIte, *]; (try rfl); done))); (focus rfl); (focus rfl); try simp only [splice, List.set_cons_zero, List.set_cons_succ])
      | (apply q_faddrR; (focus (first | exact wN | (apply wG; (simp only [lk, Nat.reduceEqDiff, reduceIte, e1, e2, e4, e5, e6]; (try rfl); done)))); (focus (simp only [lk, Nat.reduceEqDiff, reduceIte, e1, e2, e4, e5, e6]; (try rfl); done)))
      | (apply q_loadR; (focus (first | exact wN | (apply wG; (simp only [lk, Nat.reduceEqDiff, reduceIte, e1, e2, e4, e5, e6]; (try rfl); done)))); (focus (simp only [lk, Nat.reduceEqDiff, reduceIte, e1, e2, e4, e5, e6]; (try rfl); done)); (focus (first | (simp only [St.get_put, St.get_new, St.n_put, St.n_new, n_empty, Nat.zero_add, Nat.reduceAdd, Nat.reduceEqDiff, reduceIte, *]; (try rfl); done))); (focus (first | rfl | (simp only [Nat.mul_one, Nat.zero_add, hR.sl.len, iaN hR.sl, hR.getI, hR.rlen, *]; (try rfl); done))))
      | (apply q_loadRN; (focus (first | exact wN | (apply wG; (simp only [lk, Nat.reduceEqDiff, reduceIte, e1, e2, e4, e5, e6]; (try rfl); done)))); (focus (simp only [lk, Nat.reduceEqDiff, reduceIte, e1, e2, e4, e5, e6]; (try rfl); done)); (focus (first | (simp only [St.get_put, St.get_new, St.n_put, St.n_new, n_empty, Nat.zero_add, Nat.reduceAdd, Nat.reduceEqDiff, reduceIte, *]; (try rfl); done))); (focus rfl); (focus (simp only [List.drop_zero, List.drop_succ_cons, List.take_succ_cons, List.take_zero, List.take_nil]; (try rfl); done)))
      | (apply q_ext; (focus (first | exact wN | (apply wG; (simp only [lk, Nat.reduceEqDiff, reduceIte, e1, e2, e4, e5, e6]; (try rfl); done)))); (focus (simp only [lk, Nat.reduceEqDiff, reduceIte, e1, e2, e4, e5, e6]; (try rfl); done)); (focus rfl))
      | (apply q_skip rfl; (focus (simp only [lk, Nat.reduceEqDiff, reduceIte, e1, e2, e4, e5, e6]; (try rfl); done)); (focus rfl); simp only [Env.put_some]))
  · have hiR : i = R.length := by omega
    subst hiR
    refine ⟨.inr trivial, .agg [.int .i64 L, .int .i64 S, nx, acc], by simp [resVal, resOne, e4, mkVal], ?_⟩
    rcases hacc with ⟨hz, rfl⟩ | ⟨hz, j, vs, hj1, hj2, rfl, hsj, hmade⟩
    · refine ⟨.agg [.int .i64 L, .int .i64 S, nx, .nils], _, frzD_closed (by simp [LV.closed, LV.closed.closedAll, hN.closed]), by simp [LV.closed, LV.closed.closedAll, hN.closed], .nils, [], rfl, ?_⟩
      have hRn : R = [] := List.length_eq_zero_iff.1 hz
      subst hRn
      exact ⟨.nil, rfl, by simp, fun i hi => absurd hi (Nat.not_lt_zero _)⟩
    · refine ⟨.agg [.int .i64 L, .int .i64 S, nx, .simm vs R.length], (s.put 0 (.cells .mut [.int .i64 L, .int .i64 S, nx, .sref j 0 R.length 1])).put j (.cells .app vs), ?_, by simp [LV.closed, LV.closed.closedAll, hN.closed, hmade.closed], .simm vs R.length, vs, rfl, hmade.rows hRl hm0 hm1 hb⟩
      have hj : (s.put 0 (.cells .mut [.int .i64 L, .int .i64 S, nx, .sref j 0 R.length 1])).get j = some (.cells .mut vs) := by rw [St.get_put, if_neg (by omega)]; exact hsj
      refine frz_agg 39 (by simp [LV.closed, LV.closed.closedAll]) ?_
      simp [frz.frzAll, frz_closed (n := 38) (v := .int .i64 L) rfl, frz_closed (n := 38) (v := .int .i64 S) rfl, frz_closed (n := 38) hN.closed, frz_srefN 37 hj hmade.1 hmade.closed]
  · have hi' : i < R.length := by omega
    refine qc_loop (fun n e s2 => ∃ k j : Nat, n = (R.getD i []).length - k ∧ k ≤ (R.getD i []).length ∧ e.at 1 = .int .i64 m ∧ e.at 2 = .pimm [.int .i64 L, .int .i64 S, nx, pr] 0 ∧ e.at 4 = .pref 0 0 ∧ e.at 5 = .pref 1 0 ∧ e.at 6 = .int .i64 (i : Int) ∧ e.at 8 = .int .i64 (k : Int) ∧ e.at 7 = .sref j 0 k 1 ∧
        s.n ≤ j ∧ j < s2.n ∧ (∀ id, id < s.n → s2.get id = s.get id) ∧ s2.get j = some (.cells .mut (ints (chg m ((R.getD i []).take k))))) (R.getD i []).length
      ⟨0, s.n, by simp, by simp, by simp [e1], by simp [e2], by simp [e4], by simp [e5], by simp [e6], by simp, by simp, Nat.le_refl _, by simp, fun id hid => by rw [St.get_new, if_neg (by omega)], by simp [ints, chg]⟩ ?_
    rintro n e s2 ⟨k, j, rfl, hk, e1, e2, e4, e5, e6, e8, e7, hj1, hj2, hold, hcs⟩
    repeat' (first
        | (apply qc_block)
        | (apply qc_seq)
        | (apply qc_skip; try simp only [Thn, Blkd, reduceIte, Nat.reduceEqDiff])
        | (apply qc_exit; try simp only [Thn, Blkd, reduceIte, Nat.reduceEqDiff, Nat.succ_ne_self])
        | (apply qc_ret; try simp only [Thn, Blkd, reduceIte, Nat.reduceEqDiff])
        | (apply qc_region hm)
        | (apply q_nil; try simp only [Thn, Blkd, reduceIte, Nat.reduceEqDiff])
        | (apply qc_condT; (focus (simp only [lk, Nat.reduceEqDiff, reduceIte, e1, e2, e4, e5, e6, e7, e8]; (try rfl); done)))
        | (apply qc_condF; (focus (simp only [lk, Nat.reduceEqDiff, reduceIte, e1, e2, e4, e5, e6, e7, e8]; (try rfl); done)))
        | (apply q_mv; (focus (first | exact wN | (apply wG; (simp only [lk, Nat.reduceEqDiff, reduceIte, e1, e2, e4, e5, e6, e7, e8]; (try rfl); done)))); (focus (simp only [lk, Nat.reduceEqDiff, reduceIte, e1, e2, e4, e5, e6, e7, e8]; (try rfl); done)))
        | (apply q_cmp; (focus (first | exact wN | (apply wG; (simp only [lk, Nat.reduceEqDiff, reduceIte, e1, e2, e4, e5, e6, e7, e8]; (try rfl); done)))); (focus (simp only [lk, Nat.reduceEqDiff, reduceIte, e1, e2, e4, e5, e6, e7, e8]; (try rfl); done)); (focus (simp only [lk, Nat.reduceEqDiff, reduceIte, e1, e2, e4, e5, e6, e7, e8]; (try rfl); done)); (focus rfl); intro bb hbb; cases bb <;> (simp only [decide_eq_true_eq, decide_eq_false_iff_not, bne_iff_ne, beq_iff_eq, ne_eq, bne_eq_false_iff_eq, beq_eq_false_iff_ne, Int.not_lt, Int.not_le, gt_iff_lt, ge_iff_le, Bool.not_eq_true] at hbb))
        | (apply q_eq; (focus (first | exact wN | (apply wG; (simp only [lk, Nat.reduceEqDiff, reduceIte, e1, e2, e4, e5, e6, e7, e8]; (try rfl); done)))); (focus (simp only [lk, Nat.reduceEqDiff, reduceIte, e1, e2, e4, e5, e6, e7, e8]; (try rfl); done)); (focus (simp only [lk, Nat.reduceEqDiff, reduceIte, e1, e2, e4, e5, e6, e7, e8]; (try rfl); done)); (focus rfl); intro bb hbb; cases bb <;> (try simp only [Bool.false_eq_true, if_false] at hbb))
        | (apply q_bin; (focus (first | exact wN | (apply wG; (simp only [lk, Nat.reduceEqDiff, reduceIte, e1, e2, e4, e5, e6, e7, e8]; (try rfl); done)))); (focus (simp only [lk, Nat.reduceEqDiff, reduceIte, e1, e2, e4, e5, e6, e7, e8]; (try rfl); done)); (focus (simp only [lk, Nat.reduceEqDiff, reduceIte, e1, e2, e4, e5, e6, e7, e8]; (try rfl); done)); (focus rfl))
        | (apply q_faddr; (focus (first | exact wN | (apply wG; (simp only [lk, Nat.reduceEqDiff, reduceIte, e1, e2, e4, e5, e6, e7, e8]; (try rfl); done)))); (focus (simp only [lk, Nat.reduceEqDiff, reduceIte, e1, e2, e4, e5, e6, e7, e8]; (try rfl); done)))
        | (apply q_load; (focus (first | exact wN | (apply wG; (simp only [lk, Nat.reduceEqDiff, reduceIte, e1, e2, e4, e5, e6, e7, e8]; (try rfl); done)))); (focus (simp only [lk, Nat.reduceEqDiff, reduceIte, e1, e2, e4, e5, e6, e7, e8]; (try rfl); done)); (focus (first | rfl | (simp only [Nat.mul_one, Nat.zero_add, hR.sl.len, iaN hR.sl, hR.getI, hR.rlen, hR.ria, ints_get, *]; (try rfl); done))))
        | (apply q_len; (focus (first | exact wN | (apply wG; (simp only [lk, Nat.reduceEqDiff, reduceIte, e1, e2, e4, e5, e6, e7, e8]; (try rfl); done)))); (focus (simp only [lk, Nat.reduceEqDiff, reduceIte, e1, e2, e4, e5, e6, e7, e8]; (try rfl); done)); (focus (first | rfl | (simp only [Nat.mul_one, Nat.zero_add, hR.sl.len, iaN hR.sl, hR.getI, hR.rlen, hR.ria, ints_get, *]; (try rfl); done))))
        | (apply q_iaddr; (focus (first | exact wN | (apply wG; (simp only [lk, Nat.reduceEqDiff, reduceIte, e1, e2, e4, e5, e6, e7, e8]; (try rfl); done)))); (focus (simp only [lk, Nat.reduceEqDiff, reduceIte, e1, e2, e4, e5, e6, e7, e8]; (try rfl); done)); (focus (simp only [lk, Nat.reduceEqDiff, reduceIte, e1, e2, e4, e5, e6, e7, e8]; (try rfl); done)); (focus (first | rfl | (simp only [Nat.mul_one, Nat.zero_add, hR.sl.len, iaN hR.sl, hR.getI, hR.rlen, hR.ria, ints_get, *]; (try rfl); done))))
        | (apply q_max2; (focus (first | exact wN | (apply wG; (simp only [lk, Nat.reduceEqDiff, reduceIte, e1, e2, e4, e5, e6, e7, e8]; (try rfl); done)))); (focus (simp only [lk, Nat.reduceEqDiff, reduceIte, e1, e2, e4, e5, e6, e7, e8]; (try rfl); done)); (focus (simp only [lk, Nat.reduceEqDiff, reduceIte, e1, e2, e4, e5, e6, e7, e8]; (try rfl); done)))
        | (apply q_min2; (focus (first | exact wN | (apply wG; (simp only [lk, Nat.reduceEqDiff, reduceIte, e1, e2, e4, e5, e6, e7, e8]; (try rfl); done)))); (focus (simp only [lk, Nat.reduceEqDiff, reduceIte, e1, e2, e4, e5, e6, e7, e8]; (try rfl); done)); (focus (simp only [lk, Nat.reduceEqDiff, reduceIte, e1, e2, e4, e5, e6, e7, e8]; (try rfl); done)))
        | (apply q_not; (focus (first | exact wN | (apply wG; (simp only [lk, Nat.reduceEqDiff, reduceIte, e1, e2, e4, e5, e6, e7, e8]; (try rfl); done)))); (focus (simp only [lk, Nat.reduceEqDiff, reduceIte, e1, e2, e4, e5, e6, e7, e8]; (try rfl); done)))
        | (apply q_pickT; (focus (first | exact wN | (apply wG; (simp only [lk, Nat.reduceEqDiff, reduceIte, e1, e2, e4, e5, e6, e7, e8]; (try rfl); done)))); (focus (simp only [lk, Nat.reduceEqDiff, reduceIte, e1, e2, e4, e5, e6, e7, e8]; (try rfl); done)); (focus (simp only [lk, Nat.reduceEqDiff, reduceIte, e1, e2, e4, e5, e6, e7, e8]; (try rfl); done)))
        | (apply q_pickF; (focus (first | exact wN | (apply wG; (simp only [lk, Nat.reduceEqDiff, reduceIte, e1, e2, e4, e5, e6, e7, e8]; (try rfl); done)))); (focus (simp only [lk, Nat.reduceEqDiff, reduceIte, e1, e2, e4, e5, e6, e7, e8]; (try rfl); done)); (focus (simp only [lk, Nat.reduceEqDiff, reduceIte, e1, e2, e4, e5, e6, e7, e8]; (try rfl); done)))
        | (apply q_box; (focus (simp only [lk, Nat.reduceEqDiff, reduceIte, e1, e2, e4, e5, e6, e7, e8]; (try rfl); done)); (focus assumption); (focus (simp only [List.all_cons, List.all_nil, isC_int, isC_bool, isC_str, Bool.and_self, *]; done)); (focus rfl))
        | (apply q_loadN; (focus (first | exact wN | (apply wG; (simp only [lk, Nat.reduceEqDiff, reduceIte, e1, e2, e4, e5, e6, e7, e8]; (try rfl); done)))); (focus (simp only [lk, Nat.reduceEqDiff, reduceIte, e1, e2, e4, e5, e6, e7, e8]; (try rfl); done)); (focus rfl); (focus (simp only [List.drop_zero, List.drop_succ_cons, List.take_succ_cons, List.take_zero, List.take_nil]; (try rfl); done)))
        | (apply q_alloc; (focus (first | exact wN | (apply wG; (simp only [lk, Nat.reduceEqDiff, reduceIte, e1, e2, e4, e5, e6, e7, e8]; (try rfl); done)))); try simp only [n_empty, St.n_new, St.n_put, Nat.zero_add, Nat.reduceAdd])
        | (apply q_bslice0; (focus (first | exact wN | (apply wG; (simp only [lk, Nat.reduceEqDiff, reduceIte, e1, e2, e4, e5, e6, e7, e8]; (try rfl); done)))); try simp only [n_empty, St.n_new, St.n_put, Nat.zero_add, Nat.reduceAdd])
        | (apply q_bslice1; (focus (first | exact wN | (apply wG; (simp only [lk, Nat.reduceEqDiff, reduceIte, e1, e2, e4, e5, e6, e7, e8]; (try rfl); done)))); (focus (simp only [lk, Nat.reduceEqDiff, reduceIte, e1, e2, e4, e5, e6, e7, e8]; (try rfl); done)); (focus (first | rfl | assumption | (simp only [isC_int, isC_sref, isC_nils, isC_simm, *]; done))); try simp only [n_empty, St.n_new, St.n_put, Nat.zero_add, Nat.reduceAdd])
        | (apply q_store; (focus (simp only [lk, Nat.reduceEqDiff, reduceIte, e1, e2, e4, e5, e6, e7, e8]; (try rfl); done)); (focus (simp only [lk, Nat.reduceEqDiff, reduceIte, e1, e2, e4, e5, e6, e7, e8]; (try rfl); done)); (focus (first | exact cells_cell (by assumption) | (simp only [cells_agg, cells_int, cells_bool, cells_str, cells_nils, cells_zs, cells_simm, cells_sref, cells_pref, cells_mref, isC_int, isC_bool, isC_str, isC_nils, isC_zs, isC_simm, isC_sref, List.all_cons, List.all_nil, Bool.and_self, if_true, *]; (try rfl); done))); (focus (first | (simp only [St.get_put, St.get_new, St.n_put, St.n_new, n_empty, Nat.zero_add, Nat.reduceAdd, Nat.reduceEqDiff, reduceIte, *]; (try rfl); done))); (focus rfl); (focus rfl); try simp only [splice, List.set_cons_zero, List.set_cons_succ])
        | (apply q_faddrR; (focus (first | exact wN | (apply wG; (simp only [lk, Nat.reduceEqDiff, reduceIte, e1, e2, e4, e5, e6, e7, e8]; (try rfl); done)))); (focus (simp only [lk, Nat.reduceEqDiff, reduceIte, e1, e2, e4, e5, e6, e7, e8]; (try rfl); done)))
        | (apply q_loadR; (focus (first | exact wN | (apply wG; (simp only [lk, Nat.reduceEqDiff, reduceIte, e1, e2, e4, e5, e6, e7, e8]; (try rfl); done)))); (focus (simp only [lk, Nat.reduceEqDiff, reduceIte, e1, e2, e4, e5, e6, e7, e8]; (try rfl); done)); (focus (first | (simp only [St.get_put, St.get_new, St.n_put, St.n_new, n_empty, Nat.zero_add, Nat.reduceAdd, Nat.reduceEqDiff, reduceIte, *]; (try rfl); done))); (focus (first | rfl | (simp only [Nat.mul_one, Nat.zero_add, hR.sl.len, iaN hR.sl, hR.getI, hR.rlen, hR.ria, ints_get, *]; (try rfl); done))))
        | (apply q_loadRN; (focus (first | exact wN | (apply wG; (simp only [lk, Nat.reduceEqDiff, reduceIte, e1, e2, e4, e5, e6, e7, e8]; (try rfl); done)))); (focus (simp only [lk, Nat.reduceEqDiff, reduceIte, e1, e2, e4, e5, e6, e7, e8]; (try rfl); done)); (focus (first | (simp only [St.get_put, St.get_new, St.n_put, St.n_new, n_empty, Nat.zero_add, Nat.reduceAdd, Nat.reduceEqDiff, reduceIte, *]; (try rfl); done))); (focus rfl); (focus (simp only [List.drop_zero, List.drop_succ_cons, List.take_succ_cons, List.take_zero, List.take_nil]; (try rfl); done)))
        | (apply q_ext; (focus (first | exact wN | (apply wG; (simp only [lk, Nat.reduceEqDiff, reduceIte, e1, e2, e4, e5, e6, e7, e8]; (try rfl); done)))); (focus (simp only [lk, Nat.reduceEqDiff, reduceIte, e1, e2, e4, e5, e6, e7, e8]; (try rfl); done)); (focus rfl))
        | (apply q_skip rfl; (focus (simp only [lk, Nat.reduceEqDiff, reduceIte, e1, e2, e4, e5, e6, e7, e8]; (try rfl); done)); (focus rfl); simp only [Env.put_some]))
    · have hkR : k = (R.getD i []).length := by omega
      have hg1 : (s2.new (.cells .mut [.sref j 0 k 1])).get j = some (.cells .mut (ints (chg m (R.getD i [])))) := by rw [St.get_new, if_neg (by omega), hcs, hkR, List.take_length]
      have hlen : (ints (chg m (R.getD i []))).length = k := by simp [ints, chg, hkR]
      obtain ⟨acc', s4, hap, hacc', hca', hn4, h40, h41⟩ := acc_append (b := 24) (s3 := (s2.new (.cells .mut [.sref j 0 k 1])).put j (.cells .app (ints (chg m (R.getD i []))))) hacc hn (by simp; omega) (fun id hid => by rw [St.get_put, if_neg (by omega), St.get_new, if_neg (by omega)]; exact hold id hid) (by decide) (by omega)
      have h4s0 : s4.get 0 = some (.cells .mut [.int .i64 0, .int .i64 0, .nils, .nils]) := by rw [h40, St.get_put, if_neg (by omega), St.get_new, if_neg (by omega), hold 0 (by omega)]; exact hs0
      have h4s1 : s4.get 1 = some (.cells .mut [.int .i64 L, .int .i64 S, nx, acc]) := by rw [h41, St.get_put, if_neg (by omega), St.get_new, if_neg (by omega), hold 1 (by omega)]; exact hs1
      rw [← hkR] at hap
      clear h40 h41
      refine q_append wN (xv := acc) (yv := .sref s2.n 0 1 1) (by simp only [lk, sv1, sv2, sv3, Nat.reduceEqDiff, Nat.reduceAdd, Nat.reduceLeDiff, reduceIte, if_false, if_true, mkVal, unLV, List.map, optTmps]) (by simp only [lk, sv1, sv2, sv3, Nat.reduceEqDiff, Nat.reduceAdd, Nat.reduceLeDiff, reduceIte, if_false, if_true, mkVal, unLV, List.map, optTmps]) rfl (rowOf_one (by rw [St.get_new, if_pos rfl])) (frzTry_sref hg1 hlen (ints_closed _)) hap ?_
      repeat' (first
          | (apply qc_block)
          | (apply qc_seq)
          | (apply qc_skip; try simp only [Thn, Blkd, reduceIte, Nat.reduceEqDiff])
          | (apply qc_exit; try simp only [Thn, Blkd, reduceIte, Nat.reduceEqDiff, Nat.succ_ne_self])
          | (apply qc_ret; try simp only [Thn, Blkd, reduceIte, Nat.reduceEqDiff])
          | (apply qc_region hm)
          | (apply q_nil; try simp only [Thn, Blkd, reduceIte, Nat.reduceEqDiff])
          | (apply qc_condT; (focus (simp only [lk, Nat.reduceEqDiff, reduceIte, e1, e2, e4, e5, e6]; (try rfl); done)))
          | (apply qc_condF; (focus (simp only [lk, Nat.reduceEqDiff, reduceIte, e1, e2, e4, e5, e6]; (try rfl); done)))
          | (apply q_mv; (focus (first | exact wN | (apply wG; (simp only [lk, Nat.reduceEqDiff, reduceIte, e1, e2, e4, e5, e6]; (try rfl); done)))); (focus (simp only [lk, Nat.reduceEqDiff, reduceIte, e1, e2, e4, e5, e6]; (try rfl); done)))
          | (apply q_cmp; (focus (first | exact wN | (apply wG; (simp only [lk, Nat.reduceEqDiff, reduceIte, e1, e2, e4, e5, e6]; (try rfl); done)))); (focus (simp only [lk, Nat.reduceEqDiff, reduceIte, e1, e2, e4, e5, e6]; (try rfl); done)); (focus (simp only [lk, Nat.reduceEqDiff, reduceIte, e1, e2, e4, e5, e6]; (try rfl); done)); (focus rfl); intro bb hbb; cases bb <;> (simp only [decide_eq_true_eq, decide_eq_false_iff_not, bne_iff_ne, beq_iff_eq, ne_eq, bne_eq_false_iff_eq, beq_eq_false_iff_ne, Int.not_lt, Int.not_le, gt_iff_lt, ge_iff_le, Bool.not_eq_true] at hbb))
          | (apply q_eq; (focus (first | exact wN | (apply wG; (simp only [lk, Nat.reduceEqDiff, reduceIte, e1, e2, e4, e5, e6]; (try rfl); done)))); (focus (simp only [lk, Nat.reduceEqDiff, reduceIte, e1, e2, e4, e5, e6]; (try rfl); done)); (focus (simp only [lk, Nat.reduceEqDiff, reduceIte, e1, e2, e4, e5, e6]; (try rfl); done)); (focus rfl); intro bb hbb; cases bb <;> (try simp only [Bool.false_eq_true, if_false] at hbb))
          | (apply q_bin; (focus (first | exact wN | (apply wG; (simp only [lk, Nat.reduceEqDiff, reduceIte, e1, e2, e4, e5, e6]; (try rfl); done)))); (focus (simp only [lk, Nat.reduceEqDiff, reduceIte, e1, e2, e4, e5, e6]; (try rfl); done)); (focus (simp only [lk, Nat.reduceEqDiff, reduceIte, e1, e2, e4, e5, e6]; (try rfl); done)); (focus rfl))
          | (apply q_faddr; (focus (first | exact wN | (apply wG; (simp only [lk, Nat.reduceEqDiff, reduceIte, e1, e2, e4, e5, e6]; (try rfl); done)))); (focus (simp only [lk, Nat.reduceEqDiff, reduceIte, e1, e2, e4, e5, e6]; (try rfl); done)))
          | (apply q_load; (focus (first | exact wN | (apply wG; (simp only [lk, Nat.reduceEqDiff, reduceIte, e1, e2, e4, e5, e6]; (try rfl); done)))); (focus (simp only [lk, Nat.reduceEqDiff, reduceIte, e1, e2, e4, e5, e6]; (try rfl); done)); (focus (first | rfl | (simp only [Nat.mul_one, Nat.zero_add, hR.sl.len, *]; (try rfl); done))))
          | (apply q_len; (focus (first | exact wN | (apply wG; (simp only [lk, Nat.reduceEqDiff, reduceIte, e1, e2, e4, e5, e6]; (try rfl); done)))); (focus (simp only [lk, Nat.reduceEqDiff, reduceIte, e1, e2, e4, e5, e6]; (try rfl); done)); (focus (first | rfl | (simp only [Nat.mul_one, Nat.zero_add, hR.sl.len, *]; (try rfl); done))))
          | (apply q_iaddr; (focus (first | exact wN | (apply wG; (simp only [lk, Nat.reduceEqDiff, reduceIte, e1, e2, e4, e5, e6]; (try rfl); done)))); (focus (simp only [lk, Nat.reduceEqDiff, reduceIte, e1, e2, e4, e5, e6]; (try rfl); done)); (focus (simp only [lk, Nat.reduceEqDiff, reduceIte, e1, e2, e4, e5, e6]; (try rfl); done)); (focus (first | rfl | (simp only [Nat.mul_one, Nat.zero_add, hR.sl.len, *]; (try rfl); done))))
          | (apply q_max2; (focus (first | exact wN | (apply wG; (simp only [lk, Nat.reduceEqDiff, reduceIte, e1, e2, e4, e5, e6]; (try rfl); done)))); (focus (simp only [lk, Nat.reduceEqDiff, reduceIte, e1, e2, e4, e5, e6]; (try rfl); done)); (focus (simp only [lk, Nat.reduceEqDiff, reduceIte, e1, e2, e4, e5, e6]; (try rfl); done)))
          | (apply q_min2; (focus (first | exact wN | (apply wG; (simp only [lk, Nat.reduceEqDiff, reduceIte, e1, e2, e4, e5, e6]; (try rfl); done)))); (focus (simp only [lk, Nat.reduceEqDiff, reduceIte, e1, e2, e4, e5, e6]; (try rfl); done)); (focus (simp only [lk, Nat.reduceEqDiff, reduceIte, e1, e2, e4, e5, e6]; (try rfl); done)))
          | (apply q_not; (focus (first | exact wN | (apply wG; (simp only [lk, Nat.reduceEqDiff, reduceIte, e1, e2, e4, e5, e6]; (try rfl); done)))); (focus (simp only [lk, Nat.reduceEqDiff, reduceIte, e1, e2, e4, e5, e6]; (try rfl); done)))
          | (apply q_pickT; (focus (first | exact wN | (apply wG; (simp only [lk, Nat.reduceEqDiff, reduceIte, e1, e2, e4, e5, e6]; (try rfl); done)))); (focus (simp only [lk, Nat.reduceEqDiff, reduceIte, e1, e2, e4, e5, e6]; (try rfl); done)); (focus (simp only [lk, Nat.reduceEqDiff, reduceIte, e1, e2, e4, e5, e6]; (try rfl); done)))
          | (apply q_pickF; (focus (first | exact wN | (apply wG; (simp only [lk, Nat.reduceEqDiff, reduceIte, e1, e2, e4, e5, e6]; (try rfl); done)))); (focus (simp only [lk, Nat.reduceEqDiff, reduceIte, e1, e2, e4, e5, e6]; (try rfl); done)); (focus (simp only [lk, Nat.reduceEqDiff, reduceIte, e1, e2, e4, e5, e6]; (try rfl); done)))
          | (apply q_box; (focus (simp only [lk, Nat.reduceEqDiff, reduceIte, e1, e2, e4, e5, e6]; (try rfl); done)); (focus assumption); (focus (simp only [List.all_cons, List.all_nil, isC_int, isC_bool, isC_str, Bool.and_self, *]; done)); (focus rfl))
          | (apply q_loadN; (focus (first | exact wN | (apply wG; (simp only [lk, Nat.reduceEqDiff, reduceIte, e1, e2, e4, e5, e6]; (try rfl); done)))); (focus (simp only [lk, Nat.reduceEqDiff, reduceIte, e1, e2, e4, e5, e6]; (try rfl); done)); (focus rfl); (focus (simp only [List.drop_zero, List.drop_succ_cons, List.take_succ_cons, List.take_zero, List.take_nil]; (try rfl); done)))
          | (apply q_alloc; (focus (first | exact wN | (apply wG; (simp only [lk, Nat.reduceEqDiff, reduceIte, e1, e2, e4, e5, e6]; (try rfl); done)))); try simp only [n_empty, St.n_new, St.n_put, Nat.zero_add, Nat.reduceAdd])
          | (apply q_bslice0; (focus (first | exact wN | (apply wG; (simp only [lk, Nat.reduceEqDiff, reduceIte, e1, e2, e4, e5, e6]; (try rfl); done)))); try simp only [n_empty, St.n_new, St.n_put, Nat.zero_add, Nat.reduceAdd])
          | (apply q_bslice1; (focus (first | exact wN | (apply wG; (simp only [lk, Nat.reduceEqDiff, reduceIte, e1, e2, e4, e5, e6]; (try rfl); done)))); (focus (simp only [lk, Nat.reduceEqDiff, reduceIte, e1, e2, e4, e5, e6]; (try rfl); done)); (focus (first | rfl | assumption | (simp only [isC_int, isC_sref, isC_nils, isC_simm, *]; done))); try simp only [n_empty, St.n_new, St.n_put, Nat.zero_add, Nat.reduceAdd])
          | (apply q_store; (focus (simp only [lk, Nat.reduceEqDiff, reduceIte, e1, e2, e4, e5, e6]; (try rfl); done)); (focus (simp only [lk, Nat.reduceEqDiff, reduceIte, e1, e2, e4, e5, e6]; (try rfl); done)); (focus (first | exact cells_cell (by assumption) | (simp only [cells_agg, cells_int, cells_bool, cells_str, cells_nils, cells_zs, cells_simm, cells_sref, cells_pref, cells_mref, isC_int, isC_bool, isC_str, isC_nils, isC_zs, isC_simm, isC_sref, List.all_cons, List.all_nil, Bool.and_self, if_true, *]; (try rfl); done))); (focus (first | (simp only [St.get_put, St.get_new, St.n_put, St.n_new, n_empty, Nat.zero_add, Nat.reduceAdd, Nat.reduceEqDiff, reduceIte, *]; (try rfl); done))); (focus rfl); (focus rfl); try simp only [splice, List.set_cons_zero, List.set_cons_succ])
          | (apply q_faddrR; (focus (first | exact wN | (apply wG; (simp only [lk, Nat.reduceEqDiff, reduceIte, e1, e2, e4, e5, e6]; (try rfl); done)))); (focus (simp only [lk, Nat.reduceEqDiff, reduceIte, e1, e2, e4, e5, e6]; (try rfl); done)))
          | (apply q_loadR; (focus (first | exact wN | (apply wG; (simp only [lk, Nat.reduceEqDiff, reduceIte, e1, e2, e4, e5, e6]; (try rfl); done)))); (focus (simp only [lk, Nat.reduceEqDiff, reduceIte, e1, e2, e4, e5, e6]; (try rfl); done)); (focus (first | (simp only [St.get_put, St.get_new, St.n_put, St.n_new, n_empty, Nat.zero_add, Nat.reduceAdd, Nat.reduceEqDiff, reduceIte, *]; (try rfl); done))); (focus (first | rfl | (simp only [Nat.mul_one, Nat.zero_add, hR.sl.len, *]; (try rfl); done))))
          | (apply q_loadRN; (focus (first | exact wN | (apply wG; (simp only [lk, Nat.reduceEqDiff, reduceIte, e1, e2, e4, e5, e6]; (try rfl); done)))); (focus (simp only [lk, Nat.reduceEqDiff, reduceIte, e1, e2, e4, e5, e6]; (try rfl); done)); (focus (first | (simp only [St.get_put, St.get_new, St.n_put, St.n_new, n_empty, Nat.zero_add, Nat.reduceAdd, Nat.reduceEqDiff, reduceIte, *]; (try rfl); done))); (focus rfl); (focus (simp only [List.drop_zero, List.drop_succ_cons, List.take_succ_cons, List.take_zero, List.take_nil]; (try rfl); done)))
          | (apply q_ext; (focus (first | exact wN | (apply wG; (simp only [lk, Nat.reduceEqDiff, reduceIte, e1, e2, e4, e5, e6]; (try rfl); done)))); (focus (simp only [lk, Nat.reduceEqDiff, reduceIte, e1, e2, e4, e5, e6]; (try rfl); done)); (focus rfl))
          | (apply q_skip rfl; (focus (simp only [lk, Nat.reduceEqDiff, reduceIte, e1, e2, e4, e5, e6]; (try rfl); done)); (focus rfl); simp only [Env.put_some]))
      refine ⟨_, ?_, i + 1, rfl, ?_⟩
      · omega
      simp only [lk, sv1, sv2, sv3, Nat.reduceEqDiff, Nat.reduceAdd, Nat.reduceLeDiff, reduceIte, if_false, if_true, mkVal, unLV, List.map, optTmps, true_and, wrap_succ (i := i) (n := R.length) (by omega) hR.len, *]
      exact ⟨by omega, acc', by simp at hn4 ⊢; omega, by rw [St.get_put, if_neg (by omega)]; exact h4s0, by rw [St.get_put, if_pos rfl], by assumption, hacc'.put1⟩
    · have hkl : k < (R.getD i []).length := by omega
      obtain ⟨b1, b2⟩ := hb i hi'
      obtain ⟨b3, b4⟩ := b2 k hkl
      have hw : IntKind.i64.wrap (IntKind.i64.wrap (3 * (R.getD i []).getD k 0) + m) = 3 * (R.getD i []).getD k 0 + m := by
        have hw1 : IntKind.i64.wrap (3 * (R.getD i []).getD k 0) = 3 * (R.getD i []).getD k 0 := wrap_i64 _ (by omega) (by omega)
        rw [hw1]
        exact wrap_i64 _ (by omega) (by omega)
      rw [hw]
      refine q_append wN (xv := .sref j 0 k 1) (yv := .sref s2.n 0 1 1) (by simp only [lk, sv1, sv2, sv3, Nat.reduceEqDiff, Nat.reduceAdd, Nat.reduceLeDiff, reduceIte, if_false, if_true, mkVal, unLV, List.map, optTmps]) (by simp only [lk, sv1, sv2, sv3, Nat.reduceEqDiff, Nat.reduceAdd, Nat.reduceLeDiff, reduceIte, if_false, if_true, mkVal, unLV, List.map, optTmps]) rfl (rowOf_one (by rw [St.get_new, if_pos rfl])) (frzTry_closed rfl)
        (appendLV_mut (cs := ints (chg m ((R.getD i []).take k))) (by rw [St.get_new, if_neg (by omega)]; exact hcs) (by simp only [ints, chg, List.length_map, List.length_take]; omega) (by decide) (by omega)) ?_
      repeat' (first
          | (apply qc_block)
          | (apply qc_seq)
          | (apply qc_skip; try simp only [Thn, Blkd, reduceIte, Nat.reduceEqDiff])
          | (apply qc_exit; try simp only [Thn, Blkd, reduceIte, Nat.reduceEqDiff, Nat.succ_ne_self])
          | (apply qc_ret; try simp only [Thn, Blkd, reduceIte, Nat.reduceEqDiff])
          | (apply qc_region hm)
          | (apply q_nil; try simp only [Thn, Blkd, reduceIte, Nat.reduceEqDiff])
          | (apply qc_condT; (focus (simp only [lk, Nat.reduceEqDiff, reduceIte, e1, e2, e4, e5, e6, e8]; (try rfl); done)))
          | (apply qc_condF; (focus (simp only [lk, Nat.reduceEqDiff, reduceIte, e1, e2, e4, e5, e6, e8]; (try rfl); done)))
          | (apply q_mv; (focus (first | exact wN | (apply wG; (simp only [lk, Nat.reduceEqDiff, reduceIte, e1, e2, e4, e5, e6, e8]; (try rfl); done)))); (focus (simp only [lk, Nat.reduceEqDiff, reduceIte, e1, e2, e4, e5, e6, e8]; (try rfl); done)))
          | (apply q_cmp; (focus (first | exact wN | (apply wG; (simp only [lk, Nat.reduceEqDiff, reduceIte, e1, e2, e4, e5, e6, e8]; (try rfl); done)))); (focus (simp only [lk, Nat.reduceEqDiff, reduceIte, e1, e2, e4, e5, e6, e8]; (try rfl); done)); (focus (simp only [lk, Nat.reduceEqDiff, reduceIte, e1, e2, e4, e5, e6, e8]; (try rfl); done)); (focus rfl); intro bb hbb; cases bb <;> (simp only [decide_eq_true_eq, decide_eq_false_iff_not, bne_iff_ne, beq_iff_eq, ne_eq, bne_eq_false_iff_eq, beq_eq_false_iff_ne, Int.not_lt, Int.not_le, gt_iff_lt, ge_iff_le, Bool.not_eq_true] at hbb))
          | (apply q_eq; (focus (first | exact wN | (apply wG; (simp only [lk, Nat.reduceEqDiff, reduceIte, e1, e2, e4, e5, e6, e8]; (try rfl); done)))); (focus (simp only [lk, Nat.reduceEqDiff, reduceIte, e1, e2, e4, e5, e6, e8]; (try rfl); done)); (focus (simp only [lk, Nat.reduceEqDiff, reduceIte, e1, e2, e4, e5, e6, e8]; (try rfl); done)); (focus rfl); intro bb hbb; cases bb <;> (try simp only [Bool.false_eq_true, if_false] at hbb))
          | (apply q_bin; (focus (first | exact wN | (apply wG; (simp only [lk, Nat.reduceEqDiff, reduceIte, e1, e2, e4, e5, e6, e8]; (try rfl); done)))); (focus (simp only [lk, Nat.reduceEqDiff, reduceIte, e1, e2, e4, e5, e6, e8]; (try rfl); done)); (focus (simp only [lk, Nat.reduceEqDiff, reduceIte, e1, e2, e4, e5, e6, e8]; (try rfl); done)); (focus rfl))
          | (apply q_faddr; (focus (first | exact wN | (apply wG; (simp only [lk, Nat.reduceEqDiff, reduceIte, e1, e2, e4, e5, e6, e8]; (try rfl); done)))); (focus (simp only [lk, Nat.reduceEqDiff, reduceIte, e1, e2, e4, e5, e6, e8]; (try rfl); done)))
          | (apply q_load; (focus (first | exact wN | (apply wG; (simp only [lk, Nat.reduceEqDiff, reduceIte, e1, e2, e4, e5, e6, e8]; (try rfl); done)))); (focus (simp only [lk, Nat.reduceEqDiff, reduceIte, e1, e2, e4, e5, e6, e8]; (try rfl); done)); (focus (first | rfl | (simp only [Nat.mul_one, Nat.zero_add, hR.sl.len, *]; (try rfl); done))))
          | (apply q_len; (focus (first | exact wN | (apply wG; (simp only [lk, Nat.reduceEqDiff, reduceIte, e1, e2, e4, e5, e6, e8]; (try rfl); done)))); (focus (simp only [lk, Nat.reduceEqDiff, reduceIte, e1, e2, e4, e5, e6, e8]; (try rfl); done)); (focus (first | rfl | (simp only [Nat.mul_one, Nat.zero_add, hR.sl.len, *]; (try rfl); done))))
          | (apply q_iaddr; (focus (first | exact wN | (apply wG; (simp only [lk, Nat.reduceEqDiff, reduceIte, e1, e2, e4, e5, e6, e8]; (try rfl); done)))); (focus (simp only [lk, Nat.reduceEqDiff, reduceIte, e1, e2, e4, e5, e6, e8]; (try rfl); done)); (focus (simp only [lk, Nat.reduceEqDiff, reduceIte, e1, e2, e4, e5, e6, e8]; (try rfl); done)); (focus (first | rfl | (simp only [Nat.mul_one, Nat.zero_add, hR.sl.len, *]; (try rfl); done))))
          | (apply q_max2; (focus (first | exact wN | (apply wG; (simp only [lk, Nat.reduceEqDiff, reduceIte, e1, e2, e4, e5, e6, e8]; (try rfl); done)))); (focus (simp only [lk, Nat.reduceEqDiff, reduceIte, e1, e2, e4, e5, e6, e8]; (try rfl); done)); (focus (simp only [lk, Nat.reduceEqDiff, reduceIte, e1, e2, e4, e5, e6, e8]; (try rfl); done)))
          | (apply q_min2; (focus (first | exact wN | (apply wG; (simp only [lk, Nat.reduceEqDiff, reduceIte, e1, e2, e4, e5, e6, e8]; (try rfl); done)))); (focus (simp only [lk, Nat.reduceEqDiff, reduceIte, e1, e2, e4, e5, e6, e8]; (try rfl); done)); (focus (simp only [lk, Nat.reduceEqDiff, reduceIte, e1, e2, e4, e5, e6, e8]; (try rfl); done)))
          | (apply q_not; (focus (first | exact wN | (apply wG; (simp only [lk, Nat.reduceEqDiff, reduceIte, e1, e2, e4, e5, e6, e8]; (try rfl); done)))); (focus (simp only [lk, Nat.reduceEqDiff, reduceIte, e1, e2, e4, e5, e6, e8]; (try rfl); done)))
          | (apply q_pickT; (focus (first | exact wN | (apply wG; (simp only [lk, Nat.reduceEqDiff, reduceIte, e1, e2, e4, e5, e6, e8]; (try rfl); done)))); (focus (simp only [lk, Nat.reduceEqDiff, reduceIte, e1, e2, e4, e5, e6, e8]; (try rfl); done)); (focus (simp only [lk, Nat.reduceEqDiff, reduceIte, e1, e2, e4, e5, e6, e8]; (try rfl); done)))
          | (apply q_pickF; (focus (first | exact wN | (apply wG; (simp only [lk, Nat.reduceEqDiff, reduceIte, e1, e2, e4, e5, e6, e8]; (try rfl); done)))); (focus (simp only [lk, Nat.reduceEqDiff, reduceIte, e1, e2, e4, e5, e6, e8]; (try rfl); done)); (focus (simp only [lk, Nat.reduceEqDiff, reduceIte, e1, e2, e4, e5, e6, e8]; (try rfl); done)))
          | (apply q_box; (focus (simp only [lk, Nat.reduceEqDiff, reduceIte, e1, e2, e4, e5, e6, e8]; (try rfl); done)); (focus assumption); (focus (simp only [List.all_cons, List.all_nil, isC_int, isC_bool, isC_str, Bool.and_self, *]; done)); (focus rfl))
          | (apply q_loadN; (focus (first | exact wN | (apply wG; (simp only [lk, Nat.reduceEqDiff, reduceIte, e1, e2, e4, e5, e6, e8]; (try rfl); done)))); (focus (simp only [lk, Nat.reduceEqDiff, reduceIte, e1, e2, e4, e5, e6, e8]; (try rfl); done)); (focus rfl); (focus (simp only [List.drop_zero, List.drop_succ_cons, List.take_succ_cons, List.take_zero, List.take_nil]; (try rfl); done)))
          | (apply q_alloc; (focus (first | exact wN | (apply wG; (simp only [lk, Nat.reduceEqDiff, reduceIte, e1, e2, e4, e5, e6, e8]; (try rfl); done)))); try simp only [n_empty, St.n_new, St.n_put, Nat.zero_add, Nat.reduceAdd])
          | (apply q_bslice0; (focus (first | exact wN | (apply wG; (simp only [lk, Nat.reduceEqDiff, reduceIte, e1, e2, e4, e5, e6, e8]; (try rfl); done)))); try simp only [n_empty, St.n_new, St.n_put, Nat.zero_add, Nat.reduceAdd])
          | (apply q_bslice1; (focus (first | exact wN | (apply wG; (simp only [lk, Nat.reduceEqDiff, reduceIte, e1, e2, e4, e5, e6, e8]; (try rfl); done)))); (focus (simp only [lk, Nat.reduceEqDiff, reduceIte, e1, e2, e4, e5, e6, e8]; (try rfl); done)); (focus (first | rfl | assumption | (simp only [isC_int, isC_sref, isC_nils, isC_simm, *]; done))); try simp only [n_empty, St.n_new, St.n_put, Nat.zero_add, Nat.reduceAdd])
          | (apply q_store; (focus (simp only [lk, Nat.reduceEqDiff, reduceIte, e1, e2, e4, e5, e6, e8]; (try rfl); done)); (focus (simp only [lk, Nat.reduceEqDiff, reduceIte, e1, e2, e4, e5, e6, e8]; (try rfl); done)); (focus (first | exact cells_cell (by assumption) | (simp only [cells_agg, cells_int, cells_bool, cells_str, cells_nils, cells_zs, cells_simm, cells_sref, cells_pref, cells_mref, isC_int, isC_bool, isC_str, isC_nils, isC_zs, isC_simm, isC_sref, List.all_cons, List.all_nil, Bool.and_self, if_true, *]; (try rfl); done))); (focus (first | (simp only [St.get_put, St.get_new, St.n_put, St.n_new, n_empty, Nat.zero_add, Nat.reduceAdd, Nat.reduceEqDiff, reduceIte, *]; (try rfl); done))); (focus rfl); (focus rfl); try simp only [splice, List.set_cons_zero, List.set_cons_succ])
          | (apply q_faddrR; (focus (first | exact wN | (apply wG; (simp only [lk, Nat.reduceEqDiff, reduceIte, e1, e2, e4, e5, e6, e8]; (try rfl); done)))); (focus (simp only [lk, Nat.reduceEqDiff, reduceIte, e1, e2, e4, e5, e6, e8]; (try rfl); done)))
          | (apply q_loadR; (focus (first | exact wN | (apply wG; (simp only [lk, Nat.reduceEqDiff, reduceIte, e1, e2, e4, e5, e6, e8]; (try rfl); done)))); (focus (simp only [lk, Nat.reduceEqDiff, reduceIte, e1, e2, e4, e5, e6, e8]; (try rfl); done)); (focus (first | (simp only [St.get_put, St.get_new, St.n_put, St.n_new, n_empty, Nat.zero_add, Nat.reduceAdd, Nat.reduceEqDiff, reduceIte, *]; (try rfl); done))); (focus (first | rfl | (simp only [Nat.mul_one, Nat.zero_add, hR.sl.len, *]; (try rfl); done))))
          | (apply q_loadRN; (focus (first | exact wN | (apply wG; (simp only [lk, Nat.reduceEqDiff, reduceIte, e1, e2, e4, e5, e6, e8]; (try rfl); done)))); (focus (simp only [lk, Nat.reduceEqDiff, reduceIte, e1, e2, e4, e5, e6, e8]; (try rfl); done)); (focus (first | (simp only [St.get_put, St.get_new, St.n_put, St.n_new, n_empty, Nat.zero_add, Nat.reduceAdd, Nat.reduceEqDiff, reduceIte, *]; (try rfl); done))); (focus rfl); (focus (simp only [List.drop_zero, List.drop_succ_cons, List.take_succ_cons, List.take_zero, List.take_nil]; (try rfl); done)))
          | (apply q_ext; (focus (first | exact wN | (apply wG; (simp only [lk, Nat.reduceEqDiff, reduceIte, e1, e2, e4, e5, e6, e8]; (try rfl); done)))); (focus (simp only [lk, Nat.reduceEqDiff, reduceIte, e1, e2, e4, e5, e6, e8]; (try rfl); done)); (focus rfl))
          | (apply q_skip rfl; (focus (simp only [lk, Nat.reduceEqDiff, reduceIte, e1, e2, e4, e5, e6, e8]; (try rfl); done)); (focus rfl); simp only [Env.put_some]))
      refine ⟨_, ?_, k + 1, s2.n + 1, rfl, ?_⟩
      · omega
      simp only [lk, sv1, sv2, sv3, Nat.reduceEqDiff, Nat.reduceAdd, Nat.reduceLeDiff, reduceIte, if_false, if_true, mkVal, unLV, List.map, optTmps, true_and, wrap_succ (i := k) (n := (R.getD i []).length) (by omega) (hR.row i hi').len, St.n_new, St.n_put, *]
      refine ⟨by omega, by omega, by omega, fun id hid => ?_, ?_⟩
      · rw [St.get_new, St.n_put, St.n_new, if_neg (by omega), St.get_put, if_neg (by omega), St.get_new, if_neg (by omega)]
        exact hold id hid
      · rw [St.get_new, St.n_put, St.n_new, if_pos rfl, chg_take hkl]
end Go.Proofs.Ytmfpcofncfhklaa
