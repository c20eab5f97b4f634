/- accept.Check's small functions: element, divisor, slices.Index and slices.Contains. -/
import Derived.Test.YthcllhhldknkmaaGreatDoorRemn
import Derived.Test.YthcllhhldknkmaaGreatDoorLita
import Derived.Test.YthcllhhldknkmaaGreatDoorSufl
import Derived.Test.YthcllhhldknkmaaGreatDoorChkl
set_option linter.unusedSimpArgs false
set_option linter.unusedVariables false
namespace Go.Proofs.YthcllhhldknkmaaGreatDoor
open Go Go.Pv
open Classical
theorem elem_ok {pv qv : LV} {P Q : List Int} (hP : IsInts pv P) (hQ : IsInts qv Q) (h1 : 1 ≤ Q.length) {i : Nat} (hi : i ≤ 100000000) (hpl : P.length ≤ 100000000) (hql : Q.length ≤ 100000000) : PO 37 [pv, qv, .int .i64 (i : Int)] (.int .i64 (lett P Q i)) := by
  have hc1 := hP.sl.cell
  have hc2 := hQ.sl.cell
  have hPl := hP.sl.len
  have hQl := hQ.sl.len
  refine q_fn (t := 6) hm Tryz.func37 (by decide +kernel) c37 (Nat.le_of_ble_eq_true rfl) (by simp [LV.closed.closedAll, hP.closed, hQ.closed]; rfl) rfl rfl ?_
  have e0 : (envOf [pv, qv, .int .i64 (i : Int)]).at 0 = pv := by rw [envOf_at]; rfl
  have e1 : (envOf [pv, qv, .int .i64 (i : Int)]).at 1 = qv := by rw [envOf_at]; rfl
  have e2 : (envOf [pv, qv, .int .i64 (i : Int)]).at 2 = .int .i64 (i : Int) := by rw [envOf_at]; rfl
  generalize envOf [pv, qv, .int .i64 (i : Int)] = e at *
  unfold l37
  dsimp only
  by_cases hil : i < P.length
  · have hiI : (i : Int) < (P.length : Int) := by omega
    repeat' (first | refine gA (And.intro @hPl (And.intro (@iaN _ _ _ hP.sl) @ints_get)) ?_ | (refine gB (And.intro @hPl (And.intro (@iaN _ _ _ hP.sl) @ints_get)) ?_; intro bb hbb; cases bb <;> (try simp only [hbs, if_false, reduceCtorEq] at hbb)) | apply qc_seq | fail)
    all_goals first
      | (exfalso; omega)
      | skip
    refine ⟨.inr trivial, ?_⟩
    simp only [lk, sv1, sv2, sv3, Nat.reduceEqDiff, Nat.reduceAdd, Nat.reduceLeDiff, reduceIte, if_false, if_true, mkVal, unLV, List.map, optTmps, lett, if_pos hil]
  · have hw : IntKind.i64.wrap ((i : Int) - (P.length : Int)) = ((i - P.length : Nat) : Int) := by rw [wrap_i64 _ (by omega) (by omega)]; omega
    have hrem := rem_nat (i - P.length) (m := Q.length) (by omega)
    have hlt : (i - P.length) % Q.length < Q.length := Nat.mod_lt _ (by omega)
    have hiI : (((i - P.length) % Q.length : Nat) : Int) < (Q.length : Int) := by omega
    have hlett : lett P Q i = Q.getD ((i - P.length) % Q.length) 0 := by simp only [lett, if_neg hil]
    rw [hlett]
    generalize (i - P.length) % Q.length = k at *
    repeat' (first | refine gA (And.intro @hPl (And.intro @hQl (And.intro @hw (And.intro @hrem (And.intro (@iaN _ _ _ hQ.sl) @ints_get))))) ?_ | (refine gB (And.intro @hPl (And.intro @hQl (And.intro @hw (And.intro @hrem (And.intro (@iaN _ _ _ hQ.sl) @ints_get))))) ?_; intro bb hbb; cases bb <;> (try simp only [hbs, if_false, reduceCtorEq] at hbb)) | apply qc_seq | fail)
    all_goals first
      | (exfalso; omega)
      | skip
    refine ⟨.inr trivial, ?_⟩
    simp only [lk, sv1, sv2, sv3, Nat.reduceEqDiff, Nat.reduceAdd, Nat.reduceLeDiff, reduceIte, if_false, if_true, mkVal, unLV, List.map, optTmps]
theorem div_ok {a b : Nat} (ha : a ≤ 100000000) (hb : b ≤ 100000000) : PO 39 [.int .i64 (a : Int), .int .i64 (b : Int)] (.int .i64 (Nat.gcd a b : Int)) := by
  refine q_fn (t := 4) hm Tryz.func39 (by decide +kernel) c39 (Nat.le_of_ble_eq_true rfl) rfl rfl rfl ?_
  have e0 : (envOf [LV.int .i64 (a : Int), .int .i64 (b : Int)]).at 0 = .int .i64 (a : Int) := by rw [envOf_at]; rfl
  have e1 : (envOf [LV.int .i64 (a : Int), .int .i64 (b : Int)]).at 1 = .int .i64 (b : Int) := by rw [envOf_at]; rfl
  generalize envOf [LV.int .i64 (a : Int), .int .i64 (b : Int)] = e at *
  unfold l39
  dsimp only
  repeat' (first | refine gA trivial ?_ | (refine gB trivial ?_; intro bb hbb; cases bb <;> (try simp only [hbs, if_false, reduceCtorEq] at hbb)) | apply qc_seq | fail)
  refine qc_loop (fun m e s => ∃ x y : Nat, m = y ∧ x ≤ 100000000 ∧ y ≤ 100000000 ∧ Nat.gcd x y = Nat.gcd a b ∧ e.at 0 = .int .i64 (x : Int) ∧ e.at 1 = .int .i64 (y : Int)) _ ⟨a, b, rfl, ha, hb, rfl, ef, ef⟩ ?_
  clear e0 e1
  clear e
  rintro m e s ⟨x, y, rfl, hx, hy, hg, e0, e1⟩
  by_cases hy0 : 0 < m
  · have hrem := rem_nat x (m := m) hy0
    have hlt : x % m < m := Nat.mod_lt _ hy0
    have hg2 : Nat.gcd m (x % m) = Nat.gcd a b := by rw [← hg, Nat.gcd_comm x m, Nat.gcd_rec m x, Nat.gcd_comm]
    generalize x % m = r at *
    repeat' (first | refine gA @hrem ?_ | (refine gB @hrem ?_; intro bb hbb; cases bb <;> (try simp only [hbs, if_false, reduceCtorEq] at hbb)) | apply qc_seq | fail)
    all_goals first
      | (exfalso; omega)
      | skip
    refine ⟨r, hlt, m, r, rfl, hy, by omega, hg2, ?_⟩
    simp only [lk, sv1, sv2, sv3, Nat.reduceEqDiff, Nat.reduceAdd, Nat.reduceLeDiff, reduceIte, if_false, if_true, mkVal, unLV, List.map, optTmps, and_self]
  · obtain rfl : m = 0 := by omega
    rw [Nat.gcd_zero_right] at hg
    repeat' (first | refine gA trivial ?_ | (refine gB trivial ?_; intro bb hbb; cases bb <;> (try simp only [hbs, if_false, reduceCtorEq] at hbb)) | apply qc_seq | fail)
    all_goals first
      | (exfalso; omega)
      | skip
    refine ⟨.inr trivial, ?_⟩
    simp only [lk, sv1, sv2, sv3, Nat.reduceEqDiff, Nat.reduceAdd, Nat.reduceLeDiff, reduceIte, if_false, if_true, mkVal, unLV, List.map, optTmps, e0, hg]
theorem index_ok {v : LV} {l : List Int} (hv : IsInts v l) (z : Int) : PE 76 [v, .int .i64 z] (fun r => ∃ k : Int, r = .int .i64 k ∧ (0 ≤ k ↔ z ∈ l)) := by
  have hc1 := hv.sl.cell
  have hvl := hv.sl.len
  refine q_fnEx (t := 4) hm Tryz.func76 (by decide +kernel) c76 (Nat.le_of_ble_eq_true rfl) (by simp [LV.closed.closedAll, hv.closed]; rfl) rfl ?_
  have e0 : (envOf [v, .int .i64 z]).at 0 = v := by rw [envOf_at]; rfl
  have e1 : (envOf [v, .int .i64 z]).at 1 = .int .i64 z := by rw [envOf_at]; rfl
  generalize envOf [v, .int .i64 z] = e at *
  unfold l76
  dsimp only
  repeat' (first | refine gA @hvl ?_ | (refine gB @hvl ?_; intro bb hbb; cases bb <;> (try simp only [hbs, if_false, reduceCtorEq] at hbb)) | apply qc_seq | fail)
  refine qc_loop (fun m e s => ∃ i : Nat, m = l.length - i ∧ i ≤ l.length ∧ (∀ j, j < i → l.getD j 0 ≠ z) ∧ e.at 0 = v ∧ e.at 1 = .int .i64 z ∧ e.at 7 = .int .i64 (l.length : Int) ∧ e.at 8 = .int .i64 (i : Int)) _ ⟨0, rfl, by omega, fun j hj => absurd hj (Nat.not_lt_zero _), ef, ef, ef, by simp only [lk, sv1, sv2, sv3, Nat.reduceEqDiff, Nat.reduceAdd, Nat.reduceLeDiff, reduceIte, if_false, if_true, mkVal, unLV, List.map, optTmps]; rfl⟩ ?_
  clear e0 e1
  clear e
  rintro m e s ⟨i, rfl, hi, hno, e0, e1, e7, e8⟩
  by_cases hil : i < l.length
  · have hiI : (i : Int) < (l.length : Int) := by omega
    have hw := wrap_succ hiI hv.len
    repeat' (first | refine gA (And.intro (@iaN _ _ _ hv.sl) @ints_get) ?_ | (refine gB (And.intro (@iaN _ _ _ hv.sl) @ints_get) ?_; intro bb hbb; cases bb <;> (try simp only [hbs, if_false, reduceCtorEq] at hbb)) | apply qc_seq | fail)
    all_goals first
      | (exfalso; omega)
      | (refine ⟨.inr trivial, .int .i64 (i : Int), _, by simp only [lk, sv1, sv2, sv3, Nat.reduceEqDiff, Nat.reduceAdd, Nat.reduceLeDiff, reduceIte, if_false, if_true, mkVal, unLV, List.map, optTmps]; exact frzD_closed rfl, rfl, (i : Int), rfl, ⟨fun _ => ?_, fun _ => by omega⟩⟩
         have h9 : l.getD i 0 = z := by omega
         rw [← h9]
         exact List.getD_mem hil)
      | skip
    refine ⟨l.length - (i + 1), by omega, i + 1, rfl, by omega, fun j hj => ?_, ?_⟩
    · rcases Nat.lt_succ_iff_lt_or_eq.1 hj with h | rfl
      · exact hno j h
      · omega
    · simp only [lk, sv1, sv2, sv3, Nat.reduceEqDiff, Nat.reduceAdd, Nat.reduceLeDiff, reduceIte, if_false, if_true, mkVal, unLV, List.map, optTmps, hw, e0, e1, e7, and_self]
  · obtain rfl : i = l.length := by omega
    repeat' (first | refine gA trivial ?_ | (refine gB trivial ?_; intro bb hbb; cases bb <;> (try simp only [hbs, if_false, reduceCtorEq] at hbb)) | apply qc_seq | fail)
    all_goals first
      | (exfalso; omega)
      | skip
    refine ⟨.inr trivial, .int .i64 (-1), _, by simp only [lk, sv1, sv2, sv3, Nat.reduceEqDiff, Nat.reduceAdd, Nat.reduceLeDiff, reduceIte, if_false, if_true, mkVal, unLV, List.map, optTmps]; exact frzD_closed rfl, rfl, -1, rfl, ⟨fun h => absurd h (by decide), fun hz => ?_⟩⟩
    obtain ⟨j, hj⟩ := List.mem_iff_getElem?.1 hz
    have h1 := (List.getElem?_eq_some_iff.1 hj).1
    refine absurd ?_ (hno j h1)
    rw [List.getD_eq_getElem?_getD, hj]; rfl
theorem contains_ok {v : LV} {l : List Int} (hv : IsInts v l) (z : Int) : PO 38 [v, .int .i64 z] (.bool (decide (z ∈ l))) := by
  have hc1 := hv.sl.cell
  have hix := index_ok hv z
  refine q_fn (t := 4) hm Tryz.func38 (by decide +kernel) c38 (Nat.le_of_ble_eq_true rfl) (by simp [LV.closed.closedAll, hv.closed]; rfl) rfl rfl ?_
  have e0 : (envOf [v, .int .i64 z]).at 0 = v := by rw [envOf_at]; rfl
  have e1 : (envOf [v, .int .i64 z]).at 1 = .int .i64 z := by rw [envOf_at]; rfl
  generalize envOf [v, .int .i64 z] = e at *
  unfold l38
  dsimp only
  repeat' (first | refine gA trivial ?_ | (refine gB trivial ?_; intro bb hbb; cases bb <;> (try simp only [hbs, if_false, reduceCtorEq] at hbb)) | apply qc_seq | fail)
  refine q_pureEx hG0 hix wN (by simp only [List.map, lk, sv1, sv2, sv3, Nat.reduceEqDiff, Nat.reduceAdd, Nat.reduceLeDiff, reduceIte, if_false, if_true, mkVal, unLV, List.map, optTmps]) (fun r hr hrc => ⟨trivial, ?_⟩)
  obtain ⟨k, rfl, hk⟩ := hr
  simp only [Env.put_some]
  repeat' (first | refine gA trivial ?_ | (refine gB trivial ?_; intro bb hbb; cases bb <;> (try simp only [hbs, if_false, reduceCtorEq] at hbb)) | apply qc_seq | fail)
  all_goals
    refine ⟨.inr trivial, ?_⟩
    simp only [lk, sv1, sv2, sv3, Nat.reduceEqDiff, Nat.reduceAdd, Nat.reduceLeDiff, reduceIte, if_false, if_true, mkVal, unLV, List.map, optTmps]
    first
      | exact bool_t (hk.1 (by omega))
      | exact bool_f fun h => absurd (hk.2 h) (by omega)
end Go.Proofs.YthcllhhldknkmaaGreatDoor
