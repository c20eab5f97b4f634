/- Reading letters, and the least of a list. -/
import Derived.Test.YtmfpcofncfhklaaD
import Derived.Test.YtmfpcofncfhklaaPvQ
set_option linter.unusedSimpArgs false
set_option linter.unusedVariables false
namespace Go.Proofs.Ytmfpcofncfhklaa
open Go Go.Pv
open Classical

def stp (N : List (List Int)) (q : Nat) (a : Int) : Nat := ((N.getD q []).getD a.toNat 0).toNat
def runQ (N : List (List Int)) : List Int → Nat → Nat
  | [], q => q
  | a :: l, q => runQ N l (stp N q a)
def minR (N R : List (List Int)) : List Int → Nat → Int → Int
  | [], _, m => m
  | a :: l, q, m => minR N R l (stp N q a) (min m ((R.getD q []).getD a.toNat 0))

theorem ints_getA {l : List Int} {a : Int} (h0 : 0 ≤ a) (h1 : a < (l.length : Int)) : (ints l)[a.toNat]? = some (.int .i64 (l.getD a.toNat 0)) := ints_get (by omega)
theorem riaA {v : LV} {ls : List (List Int)} {vs : List LV} (h : IsRows v ls vs) {i : Nat} (hi : (i : Int) < (ls.length : Int)) {esz : Nat} {k : IntKind} {s : St} {a : Int} (h0 : 0 ≤ a) (hj : a < ((ls.getD i []).length : Int)) :
    iaLV esz (vs.getD i .top) (.int k a) s = some (.pimm (ints (ls.getD i [])) (a.toNat * esz), s) := iaI (h.row i (by omega)).sl h0 hj

theorem stp_lt {L S : Int} {N R : List (List Int)} (hp : PV L S N R) {q : Nat} (hq : q < N.length) {a : Int} (h0 : 0 ≤ a) (h1 : a < L) : ((stp N q a : Nat) : Int) = (N.getD q []).getD a.toNat 0 ∧ stp N q a < N.length := by
  obtain ⟨u1, u2, u3, u4⟩ := (hp.2 q hq).2.2 a.toNat (by omega)
  unfold stp
  omega

set_option maxHeartbeats 4000000 in
theorem read_ok {L S : Int} {nx pr w : LV} {N R : List (List Int)} {vN vR : List LV} (hN : IsRows nx N vN) (hR : IsRows pr R vR) (hp : PV L S N R) {l : List Int} (hw : IsInts w l) (hl : AllB l L) {c q : Nat} (hq : q < N.length) {s : St} (hs : s.get c = some (.cells .mut [.int .i64 (q : Int)])) :
    CallOk Try.prog [] (.fn (.func 31) [] [.pimm [.int .i64 L, .int .i64 S, nx, pr] 0, .pref c 0]) [w] s (fun v s' => v = .int .i64 (minR N R l q 20000) ∧ s'.n = s.n ∧ s'.get c = some (.cells .mut [.int .i64 (runQ N l q : Int)]) ∧ ∀ id, id ≠ c → s'.get id = s.get id) := by
  refine call_fn Try.func31 (by decide +kernel) c31 (Nat.le_of_ble_eq_true rfl) (CodeOk.mono (Q := fun o e s' => (o = .normal ∨ o = .jmp .ret) ∧ e.at 4 = .int .i64 (minR N R l q 20000) ∧ s'.n = s.n ∧ s'.get c = some (.cells .mut [.int .i64 (runQ N l q : Int)]) ∧ ∀ id, id ≠ c → s'.get id = s.get id) ?_ fun o e s' hh => ⟨hh.1, _, by simp [l31, resVal, resOne, hh.2.1], rfl, hh.2.2⟩)
  have h0 : (envOf ([] ++ [w] ++ [.pimm [.int .i64 L, .int .i64 S, nx, pr] 0, .pref c 0])).at 0 = w := by rw [envOf_at]; rfl
  have h1 : (envOf ([] ++ [w] ++ [.pimm [.int .i64 L, .int .i64 S, nx, pr] 0, .pref c 0])).at 1 = .pimm [.int .i64 L, .int .i64 S, nx, pr] 0 := by rw [envOf_at]; rfl
  have h2 : (envOf ([] ++ [w] ++ [.pimm [.int .i64 L, .int .i64 S, nx, pr] 0, .pref c 0])).at 2 = .pref c 0 := by rw [envOf_at]; rfl
  generalize envOf ([] ++ [w] ++ [.pimm [.int .i64 L, .int .i64 S, nx, pr] 0, .pref c 0]) = e at *
  refine Cd.out ?_
  unfold l31
  dsimp only
  repeat' (first
      | (apply qc_block)
      | (apply qc_seq)
      | (apply qc_skip; try simp only [Thn, Blkd, reduceIte, Nat.reduceEqDiff])
      | (apply qc_exit; try simp only [Thn, Blkd, reduceIte, Nat.reduceEqDiff, Nat.succ_ne_self])
      | (apply qc_ret; try simp only [Thn, Blkd, reduceIte, Nat.reduceEqDiff])
      | (apply qc_region hm)
      | (apply q_nil; try simp only [Thn, Blkd, reduceIte, Nat.reduceEqDiff])
      | (apply qc_condT; (focus (simp only [lk, Nat.reduceEqDiff, reduceIte, h0, h1, h2]; (try rfl); done)))
      | (apply qc_condF; (focus (simp only [lk, Nat.reduceEqDiff, reduceIte, h0, h1, h2]; (try rfl); done)))
      | (apply q_mv; (focus (first | exact wN | (apply wG; (simp only [lk, Nat.reduceEqDiff, reduceIte, h0, h1, h2]; (try rfl); done)))); (focus (simp only [lk, Nat.reduceEqDiff, reduceIte, h0, h1, h2]; (try rfl); done)))
      | (apply q_cmp; (focus (first | exact wN | (apply wG; (simp only [lk, Nat.reduceEqDiff, reduceIte, h0, h1, h2]; (try rfl); done)))); (focus (simp only [lk, Nat.reduceEqDiff, reduceIte, h0, h1, h2]; (try rfl); done)); (focus (simp only [lk, Nat.reduceEqDiff, reduceIte, h0, h1, h2]; (try rfl); done)); (focus rfl); intro bb hbb; cases bb <;> (simp only [decide_eq_true_eq, decide_eq_false_iff_not, bne_iff_ne, beq_iff_eq, ne_eq, bne_eq_false_iff_eq, beq_eq_false_iff_ne, Int.not_lt, Int.not_le, gt_iff_lt, ge_iff_le, Bool.not_eq_true] at hbb))
      | (apply q_eq; (focus (first | exact wN | (apply wG; (simp only [lk, Nat.reduceEqDiff, reduceIte, h0, h1, h2]; (try rfl); done)))); (focus (simp only [lk, Nat.reduceEqDiff, reduceIte, h0, h1, h2]; (try rfl); done)); (focus (simp only [lk, Nat.reduceEqDiff, reduceIte, h0, h1, h2]; (try rfl); done)); (focus rfl); intro bb hbb; cases bb <;> (try simp only [Bool.false_eq_true, if_false] at hbb))
      | (apply q_bin; (focus (first | exact wN | (apply wG; (simp only [lk, Nat.reduceEqDiff, reduceIte, h0, h1, h2]; (try rfl); done)))); (focus (simp only [lk, Nat.reduceEqDiff, reduceIte, h0, h1, h2]; (try rfl); done)); (focus (simp only [lk, Nat.reduceEqDiff, reduceIte, h0, h1, h2]; (try rfl); done)); (focus rfl))
      | (apply q_faddr; (focus (first | exact wN | (apply wG; (simp only [lk, Nat.reduceEqDiff, reduceIte, h0, h1, h2]; (try rfl); done)))); (focus (simp only [lk, Nat.reduceEqDiff, reduceIte, h0, h1, h2]; (try rfl); done)))
      | (apply q_load; (focus (first | exact wN | (apply wG; (simp only [lk, Nat.reduceEqDiff, reduceIte, h0, h1, h2]; (try rfl); done)))); (focus (simp only [lk, Nat.reduceEqDiff, reduceIte, h0, h1, h2]; (try rfl); done)); (focus (first | rfl | (simp only [Nat.mul_one, Nat.zero_add, hw.sl.len, *]; (try rfl); done))))
      | (apply q_len; (focus (first | exact wN | (apply wG; (simp only [lk, Nat.reduceEqDiff, reduceIte, h0, h1, h2]; (try rfl); done)))); (focus (simp only [lk, Nat.reduceEqDiff, reduceIte, h0, h1, h2]; (try rfl); done)); (focus (first | rfl | (simp only [Nat.mul_one, Nat.zero_add, hw.sl.len, *]; (try rfl); done))))
      | (apply q_iaddr; (focus (first | exact wN | (apply wG; (simp only [lk, Nat.reduceEqDiff, reduceIte, h0, h1, h2]; (try rfl); done)))); (focus (simp only [lk, Nat.reduceEqDiff, reduceIte, h0, h1, h2]; (try rfl); done)); (focus (simp only [lk, Nat.reduceEqDiff, reduceIte, h0, h1, h2]; (try rfl); done)); (focus (first | rfl | (simp only [Nat.mul_one, Nat.zero_add, hw.sl.len, *]; (try rfl); done))))
      | (apply q_max2; (focus (first | exact wN | (apply wG; (simp only [lk, Nat.reduceEqDiff, reduceIte, h0, h1, h2]; (try rfl); done)))); (focus (simp only [lk, Nat.reduceEqDiff, reduceIte, h0, h1, h2]; (try rfl); done)); (focus (simp only [lk, Nat.reduceEqDiff, reduceIte, h0, h1, h2]; (try rfl); done)))
      | (apply q_min2; (focus (first | exact wN | (apply wG; (simp only [lk, Nat.reduceEqDiff, reduceIte, h0, h1, h2]; (try rfl); done)))); (focus (simp only [lk, Nat.reduceEqDiff, reduceIte, h0, h1, h2]; (try rfl); done)); (focus (simp only [lk, Nat.reduceEqDiff, reduceIte, h0, h1, h2]; (try rfl); done)))
      | (apply q_not; (focus (first | exact wN | (apply wG; (simp only [lk, Nat.reduceEqDiff, reduceIte, h0, h1, h2]; (try rfl); done)))); (focus (simp only [lk, Nat.reduceEqDiff, reduceIte, h0, h1, h2]; (try rfl); done)))
      | (apply q_pickT; (focus (first | exact wN | (apply wG; (simp only [lk, Nat.reduceEqDiff, reduceIte, h0, h1, h2]; (try rfl); done)))); (focus (simp only [lk, Nat.reduceEqDiff, reduceIte, h0, h1, h2]; (try rfl); done)); (focus (simp only [lk, Nat.reduceEqDiff, reduceIte, h0, h1, h2]; (try rfl); done)))
      | (apply q_pickF; (focus (first | exact wN | (apply wG; (simp only [lk, Nat.reduceEqDiff, reduceIte, h0, h1, h2]; (try rfl); done)))); (focus (simp only [lk, Nat.reduceEqDiff, reduceIte, h0, h1, h2]; (try rfl); done)); (focus (simp only [lk, Nat.reduceEqDiff, reduceIte, h0, h1, h2]; (try rfl); done)))
      | (apply q_box; (focus (simp only [lk, Nat.reduceEqDiff, reduceIte, h0, h1, h2]; (try rfl); done)); (focus assumption); (focus (simp only [List.all_cons, List.all_nil, isC_int, isC_bool, isC_str, Bool.and_self, *]; done)); (focus rfl))
      | (apply q_loadN; (focus (first | exact wN | (apply wG; (simp only [lk, Nat.reduceEqDiff, reduceIte, h0, h1, h2]; (try rfl); done)))); (focus (simp only [lk, Nat.reduceEqDiff, reduceIte, h0, h1, h2]; (try rfl); done)); (focus rfl); (focus (simp only [List.drop_zero, List.drop_succ_cons, List.take_succ_cons, List.take_zero, List.take_nil]; (try rfl); done)))
      | (apply q_alloc; (focus (first | exact wN | (apply wG; (simp only [lk, Nat.reduceEqDiff, reduceIte, h0, h1, h2]; (try rfl); done)))); try simp only [n_empty, St.n_new, St.n_put, Nat.zero_add, Nat.reduceAdd])
      | (apply q_bslice0; (focus (first | exact wN | (apply wG; (simp only [lk, Nat.reduceEqDiff, reduceIte, h0, h1, h2]; (try rfl); done)))); try simp only [n_empty, St.n_new, St.n_put, Nat.zero_add, Nat.reduceAdd])
      | (apply q_bslice1; (focus (first | exact wN | (apply wG; (simp only [lk, Nat.reduceEqDiff, reduceIte, h0, h1, h2]; (try rfl); done)))); (focus (simp only [lk, Nat.reduceEqDiff, reduceIte, h0, h1, h2]; (try rfl); done)); (focus (first | rfl | assumption | (simp only [isC_int, isC_sref, isC_nils, isC_simm, *]; done))); try simp only [n_empty, St.n_new, St.n_put, Nat.zero_add, Nat.reduceAdd])
      | (apply q_store; (focus (simp only [lk, Nat.reduceEqDiff, reduceIte, h0, h1, h2]; (try rfl); done)); (focus (simp only [lk, Nat.reduceEqDiff, reduceIte, h0, h1, h2]; (try rfl); done)); (focus (first | exact cells_cell (by assumption) | (simp only [cells_agg, cells_int, cells_bool, cells_str, cells_nils, cells_zs, cells_simm, cells_sref, cells_pref, cells_mref, isC_int, isC_bool, isC_str, isC_nils, isC_zs, isC_simm, isC_sref, List.all_cons, List.all_nil, Bool.and_self, if_true, *]; (try rfl); done))); (focus (first | (simp only [St.get_put, St.get_new, St.n_put, St.n_new, n_empty, Nat.zero_add, Nat.reduceAdd, Nat.reduceEqDiff, reduceIte, *]; (try rfl); done))); (focus rfl); (focus rfl); try simp only [splice, List.set_cons_zero, List.set_cons_succ])
      | (apply q_faddrR; (focus (first | exact wN | (apply wG; (simp only [lk, Nat.reduceEqDiff, reduceIte, h0, h1, h2]; (try rfl); done)))); (focus (simp only [lk, Nat.reduceEqDiff, reduceIte, h0, h1, h2]; (try rfl); done)))
      | (apply q_loadR; (focus (first | exact wN | (apply wG; (simp only [lk, Nat.reduceEqDiff, reduceIte, h0, h1, h2]; (try rfl); done)))); (focus (simp only [lk, Nat.reduceEqDiff, reduceIte, h0, h1, h2]; (try rfl); done)); (focus (first | (simp only [St.get_put, St.get_new, St.n_put, St.n_new, n_empty, Nat.zero_add, Nat.reduceAdd, Nat.reduceEqDiff, reduceIte, *]; (try rfl); done))); (focus (first | rfl | (simp only [Nat.mul_one, Nat.zero_add, hw.sl.len, *]; (try rfl); done))))
      | (apply q_loadRN; (focus (first | exact wN | (apply wG; (simp only [lk, Nat.reduceEqDiff, reduceIte, h0, h1, h2]; (try rfl); done)))); (focus (simp only [lk, Nat.reduceEqDiff, reduceIte, h0, h1, h2]; (try rfl); done)); (focus (first | (simp only [St.get_put, St.get_new, St.n_put, St.n_new, n_empty, Nat.zero_add, Nat.reduceAdd, Nat.reduceEqDiff, reduceIte, *]; (try rfl); done))); (focus rfl); (focus (simp only [List.drop_zero, List.drop_succ_cons, List.take_succ_cons, List.take_zero, List.take_nil]; (try rfl); done)))
      | (apply q_ext; (focus (first | exact wN | (apply wG; (simp only [lk, Nat.reduceEqDiff, reduceIte, h0, h1, h2]; (try rfl); done)))); (focus (simp only [lk, Nat.reduceEqDiff, reduceIte, h0, h1, h2]; (try rfl); done)); (focus rfl))
      | (apply q_skip rfl; (focus (simp only [lk, Nat.reduceEqDiff, reduceIte, h0, h1, h2]; (try rfl); done)); (focus rfl); simp only [Env.put_some]))
  refine qc_loop (fun n e s2 => ∃ i q2 : Nat, ∃ m : Int, n = l.length - i ∧ i ≤ l.length ∧ q2 < N.length ∧ e.at 1 = .pimm [.int .i64 L, .int .i64 S, nx, pr] 0 ∧ e.at 2 = .pref c 0 ∧ e.at 5 = .int .i64 m ∧ e.at 8 = w ∧ e.at 9 = .int .i64 (l.length : Int) ∧ e.at 10 = .int .i64 (i : Int) ∧
      s2.n = s.n ∧ s2.get c = some (.cells .mut [.int .i64 (q2 : Int)]) ∧ (∀ id, id ≠ c → s2.get id = s.get id) ∧ minR N R (l.drop i) q2 m = minR N R l q 20000 ∧ runQ N (l.drop i) q2 = runQ N l q) l.length
    ⟨0, q, 20000, by simp, by simp, hq, by simp [h1], by simp [h2], by simp, by simp [h0], by simp, by simp, rfl, hs, fun _ _ => rfl, rfl, rfl⟩ ?_
  rintro n e s2 ⟨i, q2, m, rfl, hi, hq2, e1, e2, e5, e8, e9, e10, hsn, hsc, hold, hmin, hrun⟩
  by_cases hil : i < l.length
  · obtain ⟨ha0, ha1⟩ := hl i hil
    obtain ⟨r1, r2, r3⟩ := hp.2 q2 hq2
    have hRl : R.length = N.length := hp.1.2.2.2.2.1
    have x1 : (q2 : Int) < (N.length : Int) := by omega
    have x2 : (q2 : Int) < (R.length : Int) := by omega
    have x3 : l.getD i 0 < ((N.getD q2 []).length : Int) := by omega
    have x4 : l.getD i 0 < ((R.getD q2 []).length : Int) := by omega
    clear r1 r2 hRl
    obtain ⟨y1, y2⟩ := stp_lt hp hq2 ha0 ha1
    repeat' (first
        | (apply qc_block)
        | (apply qc_seq)
        | (apply qc_skip; try simp only [Thn, Blkd, reduceIte, Nat.reduceEqDiff])
        | (apply qc_exit; try simp only [Thn, Blkd, reduceIte, Nat.reduceEqDiff, Nat.succ_ne_self])
        | (apply qc_ret; try simp only [Thn, Blkd, reduceIte, Nat.reduceEqDiff])
        | (apply qc_region hm)
        | (apply q_nil; try simp only [Thn, Blkd, reduceIte, Nat.reduceEqDiff])
        | (apply qc_condT; (focus (simp only [lk, Nat.reduceEqDiff, reduceIte, e1, e2, e5, e8, e9, e10]; (try rfl); done)))
        | (apply qc_condF; (focus (simp only [lk, Nat.reduceEqDiff, reduceIte, e1, e2, e5, e8, e9, e10]; (try rfl); done)))
        | (apply q_mv; (focus (first | exact wN | (apply wG; (simp only [lk, Nat.reduceEqDiff, reduceIte, e1, e2, e5, e8, e9, e10]; (try rfl); done)))); (focus (simp only [lk, Nat.reduceEqDiff, reduceIte, e1, e2, e5, e8, e9, e10]; (try rfl); done)))
        | (apply q_cmp; (focus (first | exact wN | (apply wG; (simp only [lk, Nat.reduceEqDiff, reduceIte, e1, e2, e5, e8, e9, e10]; (try rfl); done)))); (focus (simp only [lk, Nat.reduceEqDiff, reduceIte, e1, e2, e5, e8, e9, e10]; (try rfl); done)); (focus (simp only [lk, Nat.reduceEqDiff, reduceIte, e1, e2, e5, e8, e9, e10]; (try rfl); done)); (focus rfl); intro bb hbb; cases bb <;> (simp only [decide_eq_true_eq, decide_eq_false_iff_not, bne_iff_ne, beq_iff_eq, ne_eq, bne_eq_false_iff_eq, beq_eq_false_iff_ne, Int.not_lt, Int.not_le, gt_iff_lt, ge_iff_le, Bool.not_eq_true] at hbb))
        | (apply q_eq; (focus (first | exact wN | (apply wG; (simp only [lk, Nat.reduceEqDiff, reduceIte, e1, e2, e5, e8, e9, e10]; (try rfl); done)))); (focus (simp only [lk, Nat.reduceEqDiff, reduceIte, e1, e2, e5, e8, e9, e10]; (try rfl); done)); (focus (simp only [lk, Nat.reduceEqDiff, reduceIte, e1, e2, e5, e8, e9, e10]; (try rfl); done)); (focus rfl); intro bb hbb; cases bb <;> (try simp only [Bool.false_eq_true, if_false] at hbb))
        | (apply q_bin; (focus (first | exact wN | (apply wG; (simp only [lk, Nat.reduceEqDiff, reduceIte, e1, e2, e5, e8, e9, e10]; (try rfl); done)))); (focus (simp only [lk, Nat.reduceEqDiff, reduceIte, e1, e2, e5, e8, e9, e10]; (try rfl); done)); (focus (simp only [lk, Nat.reduceEqDiff, reduceIte, e1, e2, e5, e8, e9, e10]; (try rfl); done)); (focus rfl))
        | (apply q_faddr; (focus (first | exact wN | (apply wG; (simp only [lk, Nat.reduceEqDiff, reduceIte, e1, e2, e5, e8, e9, e10]; (try rfl); done)))); (focus (simp only [lk, Nat.reduceEqDiff, reduceIte, e1, e2, e5, e8, e9, e10]; (try rfl); done)))
        | (apply q_load; (focus (first | exact wN | (apply wG; (simp only [lk, Nat.reduceEqDiff, reduceIte, e1, e2, e5, e8, e9, e10]; (try rfl); done)))); (focus (simp only [lk, Nat.reduceEqDiff, reduceIte, e1, e2, e5, e8, e9, e10]; (try rfl); done)); (focus (first | rfl | (simp only [Nat.mul_one, Nat.zero_add, hw.sl.len, iaN hw.sl, ints_get, iaN hN.sl, iaN hR.sl, hN.getI, hR.getI, riaA hN, riaA hR, ints_getA, *]; (try rfl); done))))
        | (apply q_len; (focus (first | exact wN | (apply wG; (simp only [lk, Nat.reduceEqDiff, reduceIte, e1, e2, e5, e8, e9, e10]; (try rfl); done)))); (focus (simp only [lk, Nat.reduceEqDiff, reduceIte, e1, e2, e5, e8, e9, e10]; (try rfl); done)); (focus (first | rfl | (simp only [Nat.mul_one, Nat.zero_add, hw.sl.len, iaN hw.sl, ints_get, iaN hN.sl, iaN hR.sl, hN.getI, hR.getI, riaA hN, riaA hR, ints_getA, *]; (try rfl); done))))
        | (apply q_iaddr; (focus (first | exact wN | (apply wG; (simp only [lk, Nat.reduceEqDiff, reduceIte, e1, e2, e5, e8, e9, e10]; (try rfl); done)))); (focus (simp only [lk, Nat.reduceEqDiff, reduceIte, e1, e2, e5, e8, e9, e10]; (try rfl); done)); (focus (simp only [lk, Nat.reduceEqDiff, reduceIte, e1, e2, e5, e8, e9, e10]; (try rfl); done)); (focus (first | rfl | (simp only [Nat.mul_one, Nat.zero_add, hw.sl.len, iaN hw.sl, ints_get, iaN hN.sl, iaN hR.sl, hN.getI, hR.getI, riaA hN, riaA hR, ints_getA, *]; (try rfl); done))))
        | (apply q_max2; (focus (first | exact wN | (apply wG; (simp only [lk, Nat.reduceEqDiff, reduceIte, e1, e2, e5, e8, e9, e10]; (try rfl); done)))); (focus (simp only [lk, Nat.reduceEqDiff, reduceIte, e1, e2, e5, e8, e9, e10]; (try rfl); done)); (focus (simp only [lk, Nat.reduceEqDiff, reduceIte, e1, e2, e5, e8, e9, e10]; (try rfl); done)))
        | (apply q_min2; (focus (first | exact wN | (apply wG; (simp only [lk, Nat.reduceEqDiff, reduceIte, e1, e2, e5, e8, e9, e10]; (try rfl); done)))); (focus (simp only [lk, Nat.reduceEqDiff, reduceIte, e1, e2, e5, e8, e9, e10]; (try rfl); done)); (focus (simp only [lk, Nat.reduceEqDiff, reduceIte, e1, e2, e5, e8, e9, e10]; (try rfl); done)))
        | (apply q_not; (focus (first | exact wN | (apply wG; (simp only [lk, Nat.reduceEqDiff, reduceIte, e1, e2, e5, e8, e9, e10]; (try rfl); done)))); (focus (simp only [lk, Nat.reduceEqDiff, reduceIte, e1, e2, e5, e8, e9, e10]; (try rfl); done)))
        | (apply q_pickT; (focus (first | exact wN | (apply wG; (simp only [lk, Nat.reduceEqDiff, reduceIte, e1, e2, e5, e8, e9, e10]; (try rfl); done)))); (focus (simp only [lk, Nat.reduceEqDiff, reduceIte, e1, e2, e5, e8, e9, e10]; (try rfl); done)); (focus (simp only [lk, Nat.reduceEqDiff, reduceIte, e1, e2, e5, e8, e9, e10]; (try rfl); done)))
        | (apply q_pickF; (focus (first | exact wN | (apply wG; (simp only [lk, Nat.reduceEqDiff, reduceIte, e1, e2, e5, e8, e9, e10]; (try rfl); done)))); (focus (simp only [lk, Nat.reduceEqDiff, reduceIte, e1, e2, e5, e8, e9, e10]; (try rfl); done)); (focus (simp only [lk, Nat.reduceEqDiff, reduceIte, e1, e2, e5, e8, e9, e10]; (try rfl); done)))
        | (apply q_box; (focus (simp only [lk, Nat.reduceEqDiff, reduceIte, e1, e2, e5, e8, e9, e10]; (try rfl); done)); (focus assumption); (focus (simp only [List.all_cons, List.all_nil, isC_int, isC_bool, isC_str, Bool.and_self, *]; done)); (focus rfl))
        | (apply q_loadN; (focus (first | exact wN | (apply wG; (simp only [lk, Nat.reduceEqDiff, reduceIte, e1, e2, e5, e8, e9, e10]; (try rfl); done)))); (focus (simp only [lk, Nat.reduceEqDiff, reduceIte, e1, e2, e5, e8, e9, e10]; (try rfl); done)); (focus rfl); (focus (simp only [List.drop_zero, List.drop_succ_cons, List.take_succ_cons, List.take_zero, List.take_nil]; (try rfl); done)))
        | (apply q_alloc; (focus (first | exact wN | (apply wG; (simp only [lk, Nat.reduceEqDiff, reduceIte, e1, e2, e5, e8, e9, e10]; (try rfl); done)))); try simp only [n_empty, St.n_new, St.n_put, Nat.zero_add, Nat.reduceAdd])
        | (apply q_bslice0; (focus (first | exact wN | (apply wG; (simp only [lk, Nat.reduceEqDiff, reduceIte, e1, e2, e5, e8, e9, e10]; (try rfl); done)))); try simp only [n_empty, St.n_new, St.n_put, Nat.zero_add, Nat.reduceAdd])
        | (apply q_bslice1; (focus (first | exact wN | (apply wG; (simp only [lk, Nat.reduceEqDiff, reduceIte, e1, e2, e5, e8, e9, e10]; (try rfl); done)))); (focus (simp only [lk, Nat.reduceEqDiff, reduceIte, e1, e2, e5, e8, e9, e10]; (try rfl); done)); (focus (first | rfl | assumption | (simp only [isC_int, isC_sref, isC_nils, isC_simm, *]; done))); try simp only [n_empty, St.n_new, St.n_put, Nat.zero_add, Nat.reduceAdd])
        | (apply q_store; (focus (simp only [lk, Nat.reduceEqDiff, reduceIte, e1, e2, e5, e8, e9, e10]; (try rfl); done)); (focus (simp only [lk, Nat.reduceEqDiff, reduceIte, e1, e2, e5, e8, e9, e10]; (try rfl); done)); (focus (first | exact cells_cell (by assumption) | (simp only [cells_agg, cells_int, cells_bool, cells_str, cells_nils, cells_zs, cells_simm, cells_sref, cells_pref, cells_mref, isC_int, isC_bool, isC_str, isC_nils, isC_zs, isC_simm, isC_sref, List.all_cons, List.all_nil, Bool.and_self, if_true, *]; (try rfl); done))); (focus (first | (simp only [St.get_put, St.get_new, St.n_put, St.n_new, n_empty, Nat.zero_add, Nat.reduceAdd, Nat.reduceEqDiff, reduceIte, *]; (try rfl); done))); (focus rfl); (focus rfl); try simp only [splice, List.set_cons_zero, List.set_cons_succ])
        | (apply q_faddrR; (focus (first | exact wN | (apply wG; (simp only [lk, Nat.reduceEqDiff, reduceIte, e1, e2, e5, e8, e9, e10]; (try rfl); done)))); (focus (simp only [lk, Nat.reduceEqDiff, reduceIte, e1, e2, e5, e8, e9, e10]; (try rfl); done)))
        | (apply q_loadR; (focus (first | exact wN | (apply wG; (simp only [lk, Nat.reduceEqDiff, reduceIte, e1, e2, e5, e8, e9, e10]; (try rfl); done)))); (focus (simp only [lk, Nat.reduceEqDiff, reduceIte, e1, e2, e5, e8, e9, e10]; (try rfl); done)); (focus (first | (simp only [St.get_put, St.get_new, St.n_put, St.n_new, n_empty, Nat.zero_add, Nat.reduceAdd, Nat.reduceEqDiff, reduceIte, *]; (try rfl); done))); (focus (first | rfl | (simp only [Nat.mul_one, Nat.zero_add, hw.sl.len, iaN hw.sl, ints_get, iaN hN.sl, iaN hR.sl, hN.getI, hR.getI, riaA hN, riaA hR, ints_getA, *]; (try rfl); done))))
        | (apply q_loadRN; (focus (first | exact wN | (apply wG; (simp only [lk, Nat.reduceEqDiff, reduceIte, e1, e2, e5, e8, e9, e10]; (try rfl); done)))); (focus (simp only [lk, Nat.reduceEqDiff, reduceIte, e1, e2, e5, e8, e9, e10]; (try rfl); done)); (focus (first | (simp only [St.get_put, St.get_new, St.n_put, St.n_new, n_empty, Nat.zero_add, Nat.reduceAdd, Nat.reduceEqDiff, reduceIte, *]; (try rfl); done))); (focus rfl); (focus (simp only [List.drop_zero, List.drop_succ_cons, List.take_succ_cons, List.take_zero, List.take_nil]; (try rfl); done)))
        | (apply q_ext; (focus (first | exact wN | (apply wG; (simp only [lk, Nat.reduceEqDiff, reduceIte, e1, e2, e5, e8, e9, e10]; (try rfl); done)))); (focus (simp only [lk, Nat.reduceEqDiff, reduceIte, e1, e2, e5, e8, e9, e10]; (try rfl); done)); (focus rfl))
        | (apply q_skip rfl; (focus (simp only [lk, Nat.reduceEqDiff, reduceIte, e1, e2, e5, e8, e9, e10]; (try rfl); done)); (focus rfl); simp only [Env.put_some]))
    · omega
    · refine ⟨_, ?_, i + 1, stp N q2 (l.getD i 0), min m ((R.getD q2 []).getD (l.getD i 0).toNat 0), rfl, ?_⟩
      · omega
      have hd : l.drop i = l.getD i 0 :: l.drop (i + 1) := by
        rw [List.drop_eq_getElem_cons hil]; simp [List.getD_eq_getElem?_getD, hil]
      rw [hd] at hmin hrun
      simp only [minR, runQ] at hmin hrun
      simp only [lk, sv1, sv2, sv3, Nat.reduceEqDiff, Nat.reduceAdd, Nat.reduceLeDiff, reduceIte, if_false, if_true, mkVal, unLV, List.map, optTmps, true_and, wrap_succ (i := i) (n := l.length) (by omega) hw.len, St.n_put, e1, e2, e5, e8, e9, e10]
      refine ⟨by omega, y2, hsn, ?_, fun id hid => ?_, hmin, hrun⟩
      · rw [St.get_put, if_pos rfl, y1]
      · rw [St.get_put, if_neg hid]; exact hold id hid
  · repeat' (first
        | (apply qc_block)
        | (apply qc_seq)
        | (apply qc_skip; try simp only [Thn, Blkd, reduceIte, Nat.reduceEqDiff])
        | (apply qc_exit; try simp only [Thn, Blkd, reduceIte, Nat.reduceEqDiff, Nat.succ_ne_self])
        | (apply qc_ret; try simp only [Thn, Blkd, reduceIte, Nat.reduceEqDiff])
        | (apply qc_region hm)
        | (apply q_nil; try simp only [Thn, Blkd, reduceIte, Nat.reduceEqDiff])
        | (apply qc_condT; (focus (simp only [lk, Nat.reduceEqDiff, reduceIte, e1, e2, e5, e8, e9, e10]; (try rfl); done)))
        | (apply qc_condF; (focus (simp only [lk, Nat.reduceEqDiff, reduceIte, e1, e2, e5, e8, e9, e10]; (try rfl); done)))
        | (apply q_mv; (focus (first | exact wN | (apply wG; (simp only [lk, Nat.reduceEqDiff, reduceIte, e1, e2, e5, e8, e9, e10]; (try rfl); done)))); (focus (simp only [lk, Nat.reduceEqDiff, reduceIte, e1, e2, e5, e8, e9, e10]; (try rfl); done)))
        | (apply q_cmp; (focus (first | exact wN | (apply wG; (simp only [lk, Nat.reduceEqDiff, reduceIte, e1, e2, e5, e8, e9, e10]; (try rfl); done)))); (focus (simp only [lk, Nat.reduceEqDiff, reduceIte, e1, e2, e5, e8, e9, e10]; (try rfl); done)); (focus (simp only [lk, Nat.reduceEqDiff, reduceIte, e1, e2, e5, e8, e9, e10]; (try rfl); done)); (focus rfl); intro bb hbb; cases bb <;> (simp only [decide_eq_true_eq, decide_eq_false_iff_not, bne_iff_ne, beq_iff_eq, ne_eq, bne_eq_false_iff_eq, beq_eq_false_iff_ne, Int.not_lt, Int.not_le, gt_iff_lt, ge_iff_le, Bool.not_eq_true] at hbb))
        | (apply q_eq; (focus (first | exact wN | (apply wG; (simp only [lk, Nat.reduceEqDiff, reduceIte, e1, e2, e5, e8, e9, e10]; (try rfl); done)))); (focus (simp only [lk, Nat.reduceEqDiff, reduceIte, e1, e2, e5, e8, e9, e10]; (try rfl); done)); (focus (simp only [lk, Nat.reduceEqDiff, reduceIte, e1, e2, e5, e8, e9, e10]; (try rfl); done)); (focus rfl); intro bb hbb; cases bb <;> (try simp only [Bool.false_eq_true, if_false] at hbb))
        | (apply q_bin; (focus (first | exact wN | (apply wG; (simp only [lk, Nat.reduceEqDiff, reduceIte, e1, e2, e5, e8, e9, e10]; (try rfl); done)))); (focus (simp only [lk, Nat.reduceEqDiff, reduceIte, e1, e2, e5, e8, e9, e10]; (try rfl); done)); (focus (simp only [lk, Nat.reduceEqDiff, reduceIte, e1, e2, e5, e8, e9, e10]; (try rfl); done)); (focus rfl))
        | (apply q_faddr; (focus (first | exact wN | (apply wG; (simp only [lk, Nat.reduceEqDiff, reduceIte, e1, e2, e5, e8, e9, e10]; (try rfl); done)))); (focus (simp only [lk, Nat.reduceEqDiff, reduceIte, e1, e2, e5, e8, e9, e10]; (try rfl); done)))
        | (apply q_load; (focus (first | exact wN | (apply wG; (simp only [lk, Nat.reduceEqDiff, reduceIte, e1, e2, e5, e8, e9, e10]; (try rfl); done)))); (focus (simp only [lk, Nat.reduceEqDiff, reduceIte, e1, e2, e5, e8, e9, e10]; (try rfl); done)); (focus (first | rfl | (simp only [Nat.mul_one, Nat.zero_add, hw.sl.len, *]; (try rfl); done))))
        | (apply q_len; (focus (first | exact wN | (apply wG; (simp only [lk, Nat.reduceEqDiff, reduceIte, e1, e2, e5, e8, e9, e10]; (try rfl); done)))); (focus (simp only [lk, Nat.reduceEqDiff, reduceIte, e1, e2, e5, e8, e9, e10]; (try rfl); done)); (focus (first | rfl | (simp only [Nat.mul_one, Nat.zero_add, hw.sl.len, *]; (try rfl); done))))
        | (apply q_iaddr; (focus (first | exact wN | (apply wG; (simp only [lk, Nat.reduceEqDiff, reduceIte, e1, e2, e5, e8, e9, e10]; (try rfl); done)))); (focus (simp only [lk, Nat.reduceEqDiff, reduceIte, e1, e2, e5, e8, e9, e10]; (try rfl); done)); (focus (simp only [lk, Nat.reduceEqDiff, reduceIte, e1, e2, e5, e8, e9, e10]; (try rfl); done)); (focus (first | rfl | (simp only [Nat.mul_one, Nat.zero_add, hw.sl.len, *]; (try rfl); done))))
        | (apply q_max2; (focus (first | exact wN | (apply wG; (simp only [lk, Nat.reduceEqDiff, reduceIte, e1, e2, e5, e8, e9, e10]; (try rfl); done)))); (focus (simp only [lk, Nat.reduceEqDiff, reduceIte, e1, e2, e5, e8, e9, e10]; (try rfl); done)); (focus (simp only [lk, Nat.reduceEqDiff, reduceIte, e1, e2, e5, e8, e9, e10]; (try rfl); done)))
        | (apply q_min2; (focus (first | exact wN | (apply wG; (simp only [lk, Nat.reduceEqDiff, reduceIte, e1, e2, e5, e8, e9, e10]; (try rfl); done)))); (focus (simp only [lk, Nat.reduceEqDiff, reduceIte, e1, e2, e5, e8, e9, e10]; (try rfl); done)); (focus (simp only [lk, Nat.reduceEqDiff, reduceIte, e1, e2, e5, e8, e9, e10]; (try rfl); done)))
        | (apply q_not; (focus (first | exact wN | (apply wG; (simp only [lk, Nat.reduceEqDiff, reduceIte, e1, e2, e5, e8, e9, e10]; (try rfl); done)))); (focus (simp only [lk, Nat.reduceEqDiff, reduceIte, e1, e2, e5, e8, e9, e10]; (try rfl); done)))
        | (apply q_pickT; (focus (first | exact wN | (apply wG; (simp only [lk, Nat.reduceEqDiff, reduceIte, e1, e2, e5, e8, e9, e10]; (try rfl); done)))); (focus (simp only [lk, Nat.reduceEqDiff, reduceIte, e1, e2, e5, e8, e9, e10]; (try rfl); done)); (focus (simp only [lk, Nat.reduceEqDiff, reduceIte, e1, e2, e5, e8, e9, e10]; (try rfl); done)))
        | (apply q_pickF; (focus (first | exact wN | (apply wG; (simp only [lk, Nat.reduceEqDiff, reduceIte, e1, e2, e5, e8, e9, e10]; (try rfl); done)))); (focus (simp only [lk, Nat.reduceEqDiff, reduceIte, e1, e2, e5, e8, e9, e10]; (try rfl); done)); (focus (simp only [lk, Nat.reduceEqDiff, reduceIte, e1, e2, e5, e8, e9, e10]; (try rfl); done)))
        | (apply q_box; (focus (simp only [lk, Nat.reduceEqDiff, reduceIte, e1, e2, e5, e8, e9, e10]; (try rfl); done)); (focus assumption); (focus (simp only [List.all_cons, List.all_nil, isC_int, isC_bool, isC_str, Bool.and_self, *]; done)); (focus rfl))
        | (apply q_loadN; (focus (first | exact wN | (apply wG; (simp only [lk, Nat.reduceEqDiff, reduceIte, e1, e2, e5, e8, e9, e10]; (try rfl); done)))); (focus (simp only [lk, Nat.reduceEqDiff, reduceIte, e1, e2, e5, e8, e9, e10]; (try rfl); done)); (focus rfl); (focus (simp only [List.drop_zero, List.drop_succ_cons, List.take_succ_cons, List.take_zero, List.take_nil]; (try rfl); done)))
        | (apply q_alloc; (focus (first | exact wN | (apply wG; (simp only [lk, Nat.reduceEqDiff, reduceIte, e1, e2, e5, e8, e9, e10]; (try rfl); done)))); try simp only [n_empty, St.n_new, St.n_put, Nat.zero_add, Nat.reduceAdd])
        | (apply q_bslice0; (focus (first | exact wN | (apply wG; (simp only [lk, Nat.reduceEqDiff, reduceIte, e1, e2, e5, e8, e9, e10]; (try rfl); done)))); try simp only [n_empty, St.n_new, St.n_put, Nat.zero_add, Nat.reduceAdd])
        | (apply q_bslice1; (focus (first | exact wN | (apply wG; (simp only [lk, Nat.reduceEqDiff, reduceIte, e1, e2, e5, e8, e9, e10]; (try rfl); done)))); (focus (simp only [lk, Nat.reduceEqDiff, reduceIte, e1, e2, e5, e8, e9, e10]; (try rfl); done)); (focus (first | rfl | assumption | (simp only [isC_int, isC_sref, isC_nils, isC_simm, *]; done))); try simp only [n_empty, St.n_new, St.n_put, Nat.zero_add, Nat.reduceAdd])
        | (apply q_store; (focus (simp only [lk, Nat.reduceEqDiff, reduceIte, e1, e2, e5, e8, e9, e10]; (try rfl); done)); (focus (simp only [lk, Nat.reduceEqDiff, reduceIte, e1, e2, e5, e8, e9, e10]; (try rfl); done)); (focus (first | exact cells_cell (by assumption) | (simp only [cells_agg, cells_int, cells_bool, cells_str, cells_nils, cells_zs, cells_simm, cells_sref, cells_pref, cells_mref, isC_int, isC_bool, isC_str, isC_nils, isC_zs, isC_simm, isC_sref, List.all_cons, List.all_nil, Bool.and_self, if_true, *]; (try rfl); done))); (focus (first | (simp only [St.get_put, St.get_new, St.n_put, St.n_new, n_empty, Nat.zero_add, Nat.reduceAdd, Nat.reduceEqDiff, reduceIte, *]; (try rfl); done))); (focus rfl); (focus rfl); try simp only [splice, List.set_cons_zero, List.set_cons_succ])
        | (apply q_faddrR; (focus (first | exact wN | (apply wG; (simp only [lk, Nat.reduceEqDiff, reduceIte, e1, e2, e5, e8, e9, e10]; (try rfl); done)))); (focus (simp only [lk, Nat.reduceEqDiff, reduceIte, e1, e2, e5, e8, e9, e10]; (try rfl); done)))
        | (apply q_loadR; (focus (first | exact wN | (apply wG; (simp only [lk, Nat.reduceEqDiff, reduceIte, e1, e2, e5, e8, e9, e10]; (try rfl); done)))); (focus (simp only [lk, Nat.reduceEqDiff, reduceIte, e1, e2, e5, e8, e9, e10]; (try rfl); done)); (focus (first | (simp only [St.get_put, St.get_new, St.n_put, St.n_new, n_empty, Nat.zero_add, Nat.reduceAdd, Nat.reduceEqDiff, reduceIte, *]; (try rfl); done))); (focus (first | rfl | (simp only [Nat.mul_one, Nat.zero_add, hw.sl.len, *]; (try rfl); done))))
        | (apply q_loadRN; (focus (first | exact wN | (apply wG; (simp only [lk, Nat.reduceEqDiff, reduceIte, e1, e2, e5, e8, e9, e10]; (try rfl); done)))); (focus (simp only [lk, Nat.reduceEqDiff, reduceIte, e1, e2, e5, e8, e9, e10]; (try rfl); done)); (focus (first | (simp only [St.get_put, St.get_new, St.n_put, St.n_new, n_empty, Nat.zero_add, Nat.reduceAdd, Nat.reduceEqDiff, reduceIte, *]; (try rfl); done))); (focus rfl); (focus (simp only [List.drop_zero, List.drop_succ_cons, List.take_succ_cons, List.take_zero, List.take_nil]; (try rfl); done)))
        | (apply q_ext; (focus (first | exact wN | (apply wG; (simp only [lk, Nat.reduceEqDiff, reduceIte, e1, e2, e5, e8, e9, e10]; (try rfl); done)))); (focus (simp only [lk, Nat.reduceEqDiff, reduceIte, e1, e2, e5, e8, e9, e10]; (try rfl); done)); (focus rfl))
        | (apply q_skip rfl; (focus (simp only [lk, Nat.reduceEqDiff, reduceIte, e1, e2, e5, e8, e9, e10]; (try rfl); done)); (focus rfl); simp only [Env.put_some]))
    · obtain rfl : i = l.length := by omega
      rw [List.drop_length] at hmin hrun
      simp only [minR, runQ] at hmin hrun
      refine ⟨.inr trivial, ?_, hsn, by rw [hsc, hrun], hold⟩
      simp only [lk, sv1, sv2, sv3, Nat.reduceEqDiff, Nat.reduceAdd, Nat.reduceLeDiff, reduceIte, if_false, if_true, mkVal, unLV, List.map, optTmps, hmin]
    · omega

def mn (l : List Int) : Int := (l.drop 1).foldl min (l.getD 0 0)

set_option maxHeartbeats 4000000 in
theorem min_ok {v : LV} {l : List Int} (hv : IsInts v l) (hl : 1 ≤ l.length) : PO 32 [v] (.int .i64 (mn l)) := by
  refine q_fn (t := 2) hm Try.func32 (by decide +kernel) c32 (Nat.le_of_ble_eq_true rfl) (by simp [LV.closed.closedAll, hv.closed]) rfl rfl ?_
  have h0 : (envOf [v]).at 0 = v := by rw [envOf_at]; rfl
  generalize envOf [v] = e at *
  have hl0 : ((0 : Nat) : Int) < (l.length : Int) := by omega
  have i0 : iaLV 1 v (.int .i64 0) St.empty = some (.pimm (ints l) 0, St.empty) := by simpa using iaN hv.sl (esz := 1) (k := .i64) (s := St.empty) hl0
  have g0 : (ints l)[0]? = some (.int .i64 (l.getD 0 0)) := ints_get hl0
  unfold l32
  dsimp only
  repeat' (first
      | (apply qc_block)
      | (apply qc_seq)
      | (apply qc_skip; try simp only [Thn, Blkd, reduceIte, Nat.reduceEqDiff])
      | (apply qc_exit; try simp only [Thn, Blkd, reduceIte, Nat.reduceEqDiff, Nat.succ_ne_self])
      | (apply qc_ret; try simp only [Thn, Blkd, reduceIte, Nat.reduceEqDiff])
      | (apply qc_region hm)
      | (apply q_nil; try simp only [Thn, Blkd, reduceIte, Nat.reduceEqDiff])
      | (apply qc_condT; (focus (simp only [lk, Nat.reduceEqDiff, reduceIte, h0]; (try rfl); done)))
      | (apply qc_condF; (focus (simp only [lk, Nat.reduceEqDiff, reduceIte, h0]; (try rfl); done)))
      | (apply q_mv; (focus (first | exact wN | (apply wG; (simp only [lk, Nat.reduceEqDiff, reduceIte, h0]; (try rfl); done)))); (focus (simp only [lk, Nat.reduceEqDiff, reduceIte, h0]; (try rfl); done)))
      | (apply q_cmp; (focus (first | exact wN | (apply wG; (simp only [lk, Nat.reduceEqDiff, reduceIte, h0]; (try rfl); done)))); (focus (simp only [lk, Nat.reduceEqDiff, reduceIte, h0]; (try rfl); done)); (focus (simp only [lk, Nat.reduceEqDiff, reduceIte, h0]; (try rfl); done)); (focus rfl); intro bb hbb; cases bb <;> (simp only [decide_eq_true_eq, decide_eq_false_iff_not, bne_iff_ne, beq_iff_eq, ne_eq, bne_eq_false_iff_eq, beq_eq_false_iff_ne, Int.not_lt, Int.not_le, gt_iff_lt, ge_iff_le, Bool.not_eq_true] at hbb))
      | (apply q_eq; (focus (first | exact wN | (apply wG; (simp only [lk, Nat.reduceEqDiff, reduceIte, h0]; (try rfl); done)))); (focus (simp only [lk, Nat.reduceEqDiff, reduceIte, h0]; (try rfl); done)); (focus (simp only [lk, Nat.reduceEqDiff, reduceIte, h0]; (try rfl); done)); (focus rfl); intro bb hbb; cases bb <;> (try simp only [Bool.false_eq_true, if_false] at hbb))
      | (apply q_bin; (focus (first | exact wN | (apply wG; (simp only [lk, Nat.reduceEqDiff, reduceIte, h0]; (try rfl); done)))); (focus (simp only [lk, Nat.reduceEqDiff, reduceIte, h0]; (try rfl); done)); (focus (simp only [lk, Nat.reduceEqDiff, reduceIte, h0]; (try rfl); done)); (focus rfl))
      | (apply q_faddr; (focus (first | exact wN | (apply wG; (simp only [lk, Nat.reduceEqDiff, reduceIte, h0]; (try rfl); done)))); (focus (simp only [lk, Nat.reduceEqDiff, reduceIte, h0]; (try rfl); done)))
      | (apply q_load; (focus (first | exact wN | (apply wG; (simp only [lk, Nat.reduceEqDiff, reduceIte, h0]; (try rfl); done)))); (focus (simp only [lk, Nat.reduceEqDiff, reduceIte, h0]; (try rfl); done)); (focus (first | rfl | (simp only [Nat.mul_one, Nat.zero_add, hv.sl.len, i0, g0, *]; (try rfl); done))))
      | (apply q_len; (focus (first | exact wN | (apply wG; (simp only [lk, Nat.reduceEqDiff, reduceIte, h0]; (try rfl); done)))); (focus (simp only [lk, Nat.reduceEqDiff, reduceIte, h0]; (try rfl); done)); (focus (first | rfl | (simp only [Nat.mul_one, Nat.zero_add, hv.sl.len, i0, g0, *]; (try rfl); done))))
      | (apply q_iaddr; (focus (first | exact wN | (apply wG; (simp only [lk, Nat.reduceEqDiff, reduceIte, h0]; (try rfl); done)))); (focus (simp only [lk, Nat.reduceEqDiff, reduceIte, h0]; (try rfl); done)); (focus (simp only [lk, Nat.reduceEqDiff, reduceIte, h0]; (try rfl); done)); (focus (first | rfl | (simp only [Nat.mul_one, Nat.zero_add, hv.sl.len, i0, g0, *]; (try rfl); done))))
      | (apply q_max2; (focus (first | exact wN | (apply wG; (simp only [lk, Nat.reduceEqDiff, reduceIte, h0]; (try rfl); done)))); (focus (simp only [lk, Nat.reduceEqDiff, reduceIte, h0]; (try rfl); done)); (focus (simp only [lk, Nat.reduceEqDiff, reduceIte, h0]; (try rfl); done)))
      | (apply q_min2; (focus (first | exact wN | (apply wG; (simp only [lk, Nat.reduceEqDiff, reduceIte, h0]; (try rfl); done)))); (focus (simp only [lk, Nat.reduceEqDiff, reduceIte, h0]; (try rfl); done)); (focus (simp only [lk, Nat.reduceEqDiff, reduceIte, h0]; (try rfl); done)))
      | (apply q_not; (focus (first | exact wN | (apply wG; (simp only [lk, Nat.reduceEqDiff, reduceIte, h0]; (try rfl); done)))); (focus (simp only [lk, Nat.reduceEqDiff, reduceIte, h0]; (try rfl); done)))
      | (apply q_pickT; (focus (first | exact wN | (apply wG; (simp only [lk, Nat.reduceEqDiff, reduceIte, h0]; (try rfl); done)))); (focus (simp only [lk, Nat.reduceEqDiff, reduceIte, h0]; (try rfl); done)); (focus (simp only [lk, Nat.reduceEqDiff, reduceIte, h0]; (try rfl); done)))
      | (apply q_pickF; (focus (first | exact wN | (apply wG; (simp only [lk, Nat.reduceEqDiff, reduceIte, h0]; (try rfl); done)))); (focus (simp only [lk, Nat.reduceEqDiff, reduceIte, h0]; (try rfl); done)); (focus (simp only [lk, Nat.reduceEqDiff, reduceIte, h0]; (try rfl); done)))
      | (apply q_box; (focus (simp only [lk, Nat.reduceEqDiff, reduceIte, h0]; (try rfl); done)); (focus assumption); (focus (simp only [List.all_cons, List.all_nil, isC_int, isC_bool, isC_str, Bool.and_self, *]; done)); (focus rfl))
      | (apply q_loadN; (focus (first | exact wN | (apply wG; (simp only [lk, Nat.reduceEqDiff, reduceIte, h0]; (try rfl); done)))); (focus (simp only [lk, Nat.reduceEqDiff, reduceIte, h0]; (try rfl); done)); (focus rfl); (focus (simp only [List.drop_zero, List.drop_succ_cons, List.take_succ_cons, List.take_zero, List.take_nil]; (try rfl); done)))
      | (apply q_alloc; (focus (first | exact wN | (apply wG; (simp only [lk, Nat.reduceEqDiff, reduceIte, h0]; (try rfl); done)))); try simp only [n_empty, St.n_new, St.n_put, Nat.zero_add, Nat.reduceAdd])
      | (apply q_bslice0; (focus (first | exact wN | (apply wG; (simp only [lk, Nat.reduceEqDiff, reduceIte, h0]; (try rfl); done)))); try simp only [n_empty, St.n_new, St.n_put, Nat.zero_add, Nat.reduceAdd])
      | (apply q_bslice1; (focus (first | exact wN | (apply wG; (simp only [lk, Nat.reduceEqDiff, reduceIte, h0]; (try rfl); done)))); (focus (simp only [lk, Nat.reduceEqDiff, reduceIte, h0]; (try rfl); done)); (focus (first | rfl | assumption | (simp only [isC_int, isC_sref, isC_nils, isC_simm, *]; done))); try simp only [n_empty, St.n_new, St.n_put, Nat.zero_add, Nat.reduceAdd])
      | (apply q_store; (focus (simp only [lk, Nat.reduceEqDiff, reduceIte, h0]; (try rfl); done)); (focus (simp only [lk, Nat.reduceEqDiff, reduceIte, h0]; (try rfl); done)); (focus (first | exact cells_cell (by assumption) | (simp only [cells_agg, cells_int, cells_bool, cells_str, cells_nils, cells_zs, cells_simm, cells_sref, cells_pref, cells_mref, isC_int, isC_bool, isC_str, isC_nils, isC_zs, isC_simm, isC_sref, List.all_cons, List.all_nil, Bool.and_self, if_true, *]; (try rfl); done))); (focus (first | (simp only [St.get_put, St.get_new, St.n_put, St.n_new, n_empty, Nat.zero_add, Nat.reduceAdd, Nat.reduceEqDiff, reduceIte, *]; (try rfl); done))); (focus rfl); (focus rfl); try simp only [splice, List.set_cons_zero, List.set_cons_succ])
      | (apply q_faddrR; (focus (first | exact wN | (apply wG; (simp only [lk, Nat.reduceEqDiff, reduceIte, h0]; (try rfl); done)))); (focus (simp only [lk, Nat.reduceEqDiff, reduceIte, h0]; (try rfl); done)))
      | (apply q_loadR; (focus (first | exact wN | (apply wG; (simp only [lk, Nat.reduceEqDiff, reduceIte, h0]; (try rfl); done)))); (focus (simp only [lk, Nat.reduceEqDiff, reduceIte, h0]; (try rfl); done)); (focus (first | (simp only [St.get_put, St.get_new, St.n_put, St.n_new, n_empty, Nat.zero_add, Nat.reduceAdd, Nat.reduceEqDiff, reduceIte, *]; (try rfl); done))); (focus (first | rfl | (simp only [Nat.mul_one, Nat.zero_add, hv.sl.len, i0, g0, *]; (try rfl); done))))
      | (apply q_loadRN; (focus (first | exact wN | (apply wG; (simp only [lk, Nat.reduceEqDiff, reduceIte, h0]; (try rfl); done)))); (focus (simp only [lk, Nat.reduceEqDiff, reduceIte, h0]; (try rfl); done)); (focus (first | (simp only [St.get_put, St.get_new, St.n_put, St.n_new, n_empty, Nat.zero_add, Nat.reduceAdd, Nat.reduceEqDiff, reduceIte, *]; (try rfl); done))); (focus rfl); (focus (simp only [List.drop_zero, List.drop_succ_cons, List.take_succ_cons, List.take_zero, List.take_nil]; (try rfl); done)))
      | (apply q_ext; (focus (first | exact wN | (apply wG; (simp only [lk, Nat.reduceEqDiff, reduceIte, h0]; (try rfl); done)))); (focus (simp only [lk, Nat.reduceEqDiff, reduceIte, h0]; (try rfl); done)); (focus rfl))
      | (apply q_skip rfl; (focus (simp only [lk, Nat.reduceEqDiff, reduceIte, h0]; (try rfl); done)); (focus rfl); simp only [Env.put_some]))
  · refine qc_loop (fun n e s => s = St.empty ∧ ∃ i : Nat, ∃ m : Int, n = l.length - i ∧ i ≤ l.length ∧ e.at 0 = v ∧ e.at 3 = .int .i64 m ∧ e.at 4 = .int .i64 (i : Int) ∧ (l.drop i).foldl min m = mn l) (l.length - 1) ⟨rfl, 1, l.getD 0 0, rfl, hl, by simp [h0], by simp, by simp, rfl⟩ ?_
    rintro n e s ⟨rfl, i, m, rfl, hi, e0, e3, e4, hmn⟩
    repeat' (first
        | (apply qc_block)
        | (apply qc_seq)
        | (apply qc_skip; try simp only [Thn, Blkd, reduceIte, Nat.reduceEqDiff])
        | (apply qc_exit; try simp only [Thn, Blkd, reduceIte, Nat.reduceEqDiff, Nat.succ_ne_self])
        | (apply qc_ret; try simp only [Thn, Blkd, reduceIte, Nat.reduceEqDiff])
        | (apply qc_region hm)
        | (apply q_nil; try simp only [Thn, Blkd, reduceIte, Nat.reduceEqDiff])
        | (apply qc_condT; (focus (simp only [lk, Nat.reduceEqDiff, reduceIte, e0, e3, e4]; (try rfl); done)))
        | (apply qc_condF; (focus (simp only [lk, Nat.reduceEqDiff, reduceIte, e0, e3, e4]; (try rfl); done)))
        | (apply q_mv; (focus (first | exact wN | (apply wG; (simp only [lk, Nat.reduceEqDiff, reduceIte, e0, e3, e4]; (try rfl); done)))); (focus (simp only [lk, Nat.reduceEqDiff, reduceIte, e0, e3, e4]; (try rfl); done)))
        | (apply q_cmp; (focus (first | exact wN | (apply wG; (simp only [lk, Nat.reduceEqDiff, reduceIte, e0, e3, e4]; (try rfl); done)))); (focus (simp only [lk, Nat.reduceEqDiff, reduceIte, e0, e3, e4]; (try rfl); done)); (focus (simp only [lk, Nat.reduceEqDiff, reduceIte, e0, e3, e4]; (try rfl); done)); (focus rfl); intro bb hbb; cases bb <;> (simp only [decide_eq_true_eq, decide_eq_false_iff_not, bne_iff_ne, beq_iff_eq, ne_eq, bne_eq_false_iff_eq, beq_eq_false_iff_ne, Int.not_lt, Int.not_le, gt_iff_lt, ge_iff_le, Bool.not_eq_true] at hbb))
        | (apply q_eq; (focus (first | exact wN | (apply wG; (simp only [lk, Nat.reduceEqDiff, reduceIte, e0, e3, e4]; (try rfl); done)))); (focus (simp only [lk, Nat.reduceEqDiff, reduceIte, e0, e3, e4]; (try rfl); done)); (focus (simp only [lk, Nat.reduceEqDiff, reduceIte, e0, e3, e4]; (try rfl); done)); (focus rfl); intro bb hbb; cases bb <;> (try simp only [Bool.false_eq_true, if_false] at hbb))
        | (apply q_bin; (focus (first | exact wN | (apply wG; (simp only [lk, Nat.reduceEqDiff, reduceIte, e0, e3, e4]; (try rfl); done)))); (focus (simp only [lk, Nat.reduceEqDiff, reduceIte, e0, e3, e4]; (try rfl); done)); (focus (simp only [lk, Nat.reduceEqDiff, reduceIte, e0, e3, e4]; (try rfl); done)); (focus rfl))
        | (apply q_faddr; (focus (first | exact wN | (apply wG; (simp only [lk, Nat.reduceEqDiff, reduceIte, e0, e3, e4]; (try rfl); done)))); (focus (simp only [lk, Nat.reduceEqDiff, reduceIte, e0, e3, e4]; (try rfl); done)))
        | (apply q_load; (focus (first | exact wN | (apply wG; (simp only [lk, Nat.reduceEqDiff, reduceIte, e0, e3, e4]; (try rfl); done)))); (focus (simp only [lk, Nat.reduceEqDiff, reduceIte, e0, e3, e4]; (try rfl); done)); (focus (first | rfl | (simp only [Nat.mul_one, Nat.zero_add, hv.sl.len, iaN hv.sl, ints_get, *]; (try rfl); done))))
        | (apply q_len; (focus (first | exact wN | (apply wG; (simp only [lk, Nat.reduceEqDiff, reduceIte, e0, e3, e4]; (try rfl); done)))); (focus (simp only [lk, Nat.reduceEqDiff, reduceIte, e0, e3, e4]; (try rfl); done)); (focus (first | rfl | (simp only [Nat.mul_one, Nat.zero_add, hv.sl.len, iaN hv.sl, ints_get, *]; (try rfl); done))))
        | (apply q_iaddr; (focus (first | exact wN | (apply wG; (simp only [lk, Nat.reduceEqDiff, reduceIte, e0, e3, e4]; (try rfl); done)))); (focus (simp only [lk, Nat.reduceEqDiff, reduceIte, e0, e3, e4]; (try rfl); done)); (focus (simp only [lk, Nat.reduceEqDiff, reduceIte, e0, e3, e4]; (try rfl); done)); (focus (first | rfl | (simp only [Nat.mul_one, Nat.zero_add, hv.sl.len, iaN hv.sl, ints_get, *]; (try rfl); done))))
        | (apply q_max2; (focus (first | exact wN | (apply wG; (simp only [lk, Nat.reduceEqDiff, reduceIte, e0, e3, e4]; (try rfl); done)))); (focus (simp only [lk, Nat.reduceEqDiff, reduceIte, e0, e3, e4]; (try rfl); done)); (focus (simp only [lk, Nat.reduceEqDiff, reduceIte, e0, e3, e4]; (try rfl); done)))
        | (apply q_min2; (focus (first | exact wN | (apply wG; (simp only [lk, Nat.reduceEqDiff, reduceIte, e0, e3, e4]; (try rfl); done)))); (focus (simp only [lk, Nat.reduceEqDiff, reduceIte, e0, e3, e4]; (try rfl); done)); (focus (simp only [lk, Nat.reduceEqDiff, reduceIte, e0, e3, e4]; (try rfl); done)))
        | (apply q_not; (focus (first | exact wN | (apply wG; (simp only [lk, Nat.reduceEqDiff, reduceIte, e0, e3, e4]; (try rfl); done)))); (focus (simp only [lk, Nat.reduceEqDiff, reduceIte, e0, e3, e4]; (try rfl); done)))
        | (apply q_pickT; (focus (first | exact wN | (apply wG; (simp only [lk, Nat.reduceEqDiff, reduceIte, e0, e3, e4]; (try rfl); done)))); (focus (simp only [lk, Nat.reduceEqDiff, reduceIte, e0, e3, e4]; (try rfl); done)); (focus (simp only [lk, Nat.reduceEqDiff, reduceIte, e0, e3, e4]; (try rfl); done)))
        | (apply q_pickF; (focus (first | exact wN | (apply wG; (simp only [lk, Nat.reduceEqDiff, reduceIte, e0, e3, e4]; (try rfl); done)))); (focus (simp only [lk, Nat.reduceEqDiff, reduceIte, e0, e3, e4]; (try rfl); done)); (focus (simp only [lk, Nat.reduceEqDiff, reduceIte, e0, e3, e4]; (try rfl); done)))
        | (apply q_box; (focus (simp only [lk, Nat.reduceEqDiff, reduceIte, e0, e3, e4]; (try rfl); done)); (focus assumption); (focus (simp only [List.all_cons, List.all_nil, isC_int, isC_bool, isC_str, Bool.and_self, *]; done)); (focus rfl))
        | (apply q_loadN; (focus (first | exact wN | (apply wG; (simp only [lk, Nat.reduceEqDiff, reduceIte, e0, e3, e4]; (try rfl); done)))); (focus (simp only [lk, Nat.reduceEqDiff, reduceIte, e0, e3, e4]; (try rfl); done)); (focus rfl); (focus (simp only [List.drop_zero, List.drop_succ_cons, List.take_succ_cons, List.take_zero, List.take_nil]; (try rfl); done)))
        | (apply q_alloc; (focus (first | exact wN | (apply wG; (simp only [lk, Nat.reduceEqDiff, reduceIte, e0, e3, e4]; (try rfl); done)))); try simp only [n_empty, St.n_new, St.n_put, Nat.zero_add, Nat.reduceAdd])
        | (apply q_bslice0; (focus (first | exact wN | (apply wG; (simp only [lk, Nat.reduceEqDiff, reduceIte, e0, e3, e4]; (try rfl); done)))); try simp only [n_empty, St.n_new, St.n_put, Nat.zero_add, Nat.reduceAdd])
        | (apply q_bslice1; (focus (first | exact wN | (apply wG; (simp only [lk, Nat.reduceEqDiff, reduceIte, e0, e3, e4]; (try rfl); done)))); (focus (simp only [lk, Nat.reduceEqDiff, reduceIte, e0, e3, e4]; (try rfl); done)); (focus (first | rfl | assumption | (simp only [isC_int, isC_sref, isC_nils, isC_simm, *]; done))); try simp only [n_empty, St.n_new, St.n_put, Nat.zero_add, Nat.reduceAdd])
        | (apply q_store; (focus (simp only [lk, Nat.reduceEqDiff, reduceIte, e0, e3, e4]; (try rfl); done)); (focus (simp only [lk, Nat.reduceEqDiff, reduceIte, e0, e3, e4]; (try rfl); done)); (focus (first | exact cells_cell (by assumption) | (simp only [cells_agg, cells_int, cells_bool, cells_str, cells_nils, cells_zs, cells_simm, cells_sref, cells_pref, cells_mref, isC_int, isC_bool, isC_str, isC_nils, isC_zs, isC_simm, isC_sref, List.all_cons, List.all_nil, Bool.and_self, if_true, *]; (try rfl); done))); (focus (first | (simp only [St.get_put, St.get_new, St.n_put, St.n_new, n_empty, Nat.zero_add, Nat.reduceAdd, Nat.reduceEqDiff, reduceIte, *]; (try rfl); done))); (focus rfl); (focus rfl); try simp only [splice, List.set_cons_zero, List.set_cons_succ])
        | (apply q_faddrR; (focus (first | exact wN | (apply wG; (simp only [lk, Nat.reduceEqDiff, reduceIte, e0, e3, e4]; (try rfl); done)))); (focus (simp only [lk, Nat.reduceEqDiff, reduceIte, e0, e3, e4]; (try rfl); done)))
        | (apply q_loadR; (focus (first | exact wN | (apply wG; (simp only [lk, Nat.reduceEqDiff, reduceIte, e0, e3, e4]; (try rfl); done)))); (focus (simp only [lk, Nat.reduceEqDiff, reduceIte, e0, e3, e4]; (try rfl); done)); (focus (first | (simp only [St.get_put, St.get_new, St.n_put, St.n_new, n_empty, Nat.zero_add, Nat.reduceAdd, Nat.reduceEqDiff, reduceIte, *]; (try rfl); done))); (focus (first | rfl | (simp only [Nat.mul_one, Nat.zero_add, hv.sl.len, iaN hv.sl, ints_get, *]; (try rfl); done))))
        | (apply q_loadRN; (focus (first | exact wN | (apply wG; (simp only [lk, Nat.reduceEqDiff, reduceIte, e0, e3, e4]; (try rfl); done)))); (focus (simp only [lk, Nat.reduceEqDiff, reduceIte, e0, e3, e4]; (try rfl); done)); (focus (first | (simp only [St.get_put, St.get_new, St.n_put, St.n_new, n_empty, Nat.zero_add, Nat.reduceAdd, Nat.reduceEqDiff, reduceIte, *]; (try rfl); done))); (focus rfl); (focus (simp only [List.drop_zero, List.drop_succ_cons, List.take_succ_cons, List.take_zero, List.take_nil]; (try rfl); done)))
        | (apply q_ext; (focus (first | exact wN | (apply wG; (simp only [lk, Nat.reduceEqDiff, reduceIte, e0, e3, e4]; (try rfl); done)))); (focus (simp only [lk, Nat.reduceEqDiff, reduceIte, e0, e3, e4]; (try rfl); done)); (focus rfl))
        | (apply q_skip rfl; (focus (simp only [lk, Nat.reduceEqDiff, reduceIte, e0, e3, e4]; (try rfl); done)); (focus rfl); simp only [Env.put_some]))
    · refine ⟨.inr trivial, ?_⟩
      obtain rfl : i = l.length := by omega
      rw [List.drop_length] at hmn
      simp only [lk, sv1, sv2, sv3, Nat.reduceEqDiff, Nat.reduceAdd, Nat.reduceLeDiff, reduceIte, if_false, if_true, mkVal, unLV, List.map, optTmps]
      rw [← hmn]; rfl
    · refine ⟨_, ?_, trivial, i + 1, min m (l.getD i 0), rfl, ?_⟩
      · omega
      have hil : i < l.length := by omega
      have hd : l.drop i = l.getD i 0 :: l.drop (i + 1) := by
        rw [List.drop_eq_getElem_cons hil]; simp [List.getD_eq_getElem?_getD, hil]
      rw [hd, List.foldl_cons] at hmn
      simp only [lk, sv1, sv2, sv3, Nat.reduceEqDiff, Nat.reduceAdd, Nat.reduceLeDiff, reduceIte, if_false, if_true, mkVal, unLV, List.map, optTmps, true_and, wrap_succ (i := i) (n := l.length) (by omega) hv.len, e0]
      exact ⟨by omega, hmn⟩
  all_goals omega
end Go.Proofs.Ytmfpcofncfhklaa
