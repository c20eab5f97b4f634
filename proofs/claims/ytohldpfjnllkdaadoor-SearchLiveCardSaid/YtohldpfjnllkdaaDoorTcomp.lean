/- slices.Compact at moves that are different. -/
import Derived.Test.YtohldpfjnllkdaaDoorTsort
set_option linter.unusedSimpArgs false
set_option linter.unusedVariables false
namespace Go.Proofs.YtohldpfjnllkdaaDoor
open Go Go.Pv
open Classical
theorem loadN_movesR {ms : Moves} {k j : Nat} (h : k < ms.length) {s : St} {m : Md} (hs : s.get j = some (.cells m (mcells ms))) : loadLV (some 2) (.pref j (k * 2)) s = some (.agg [.int .i64 (ms.getD k (0, false)).1, .bool (ms.getD k (0, false)).2]) := by
  have h1 := mcells_pair h
  have h2 : k * 2 + 2 ≤ (mcells ms).length := by rw [mcells_length]; omega
  simp only [loadLV, hs, mkVal]
  rw [if_pos h2, h1]
theorem meq_false {a b : Int × Bool} (h : a ≠ b) : eqLV (.struct [(0, (1, .int)), (1, (1, .bool))]) (.agg [.int .i64 a.1, .bool a.2]) (.agg [.int .i64 b.1, .bool b.2]) = some false := by
  obtain ⟨x, p⟩ := a
  obtain ⟨y, q⟩ := b
  by_cases h1 : x = y
  · subst h1
    have h2 : ¬ p = q := fun h2 => h (by rw [h2])
    cases p <;> cases q <;> simp_all [eqLV, eqLV.eqFields, scEq]
  · have h2 : (x == y) = false := by simpa using h1
    simp [eqLV, eqLV.eqFields, scEq, h2]
set_option maxHeartbeats 4000000 in
theorem tcomp_ok {s : St} {j : Nat} {ms : Moves} {m : Md} (hs : s.get j = some (.cells m (mcells ms))) (hl2 : ms.length ≤ 1048576) (hd : ∀ k, 0 < k → k < ms.length → ms.getD k (0, false) ≠ ms.getD (k - 1) (0, false)) :
    CallOk Tryd.prog GL (.fn (.func 71) [] []) [.sref j 0 ms.length 2] s (fun r s' => r = .sref j 0 ms.length 2 ∧ s' = s) := by
  refine call_fn (first := []) (caps := []) Tryd.func71 (by decide +kernel) c71 (Nat.le_of_ble_eq_true rfl) (CodeOk.mono (Q := fun o e s' => (o = .normal ∨ o = .jmp .ret) ∧ e.at 2 = .sref j 0 ms.length 2 ∧ s' = s) ?_ fun o e s' hh => by
    obtain ⟨h1, h2, h3⟩ := hh
    exact ⟨h1, .sref j 0 ms.length 2, by simp [l71, resVal, resOne, h2], rfl, h3⟩)
  have e0 : (envOf ([] ++ [.sref j 0 ms.length 2] ++ [])).at 0 = .sref j 0 ms.length 2 := by rw [envOf_at]; rfl
  generalize envOf ([] ++ [.sref j 0 ms.length 2] ++ []) = e at *
  refine Cd.out ?_
  unfold l71
  dsimp only
  have hsl : slLen (.sref j 0 ms.length 2) = some ms.length := rfl
  repeat' (first | refine gA @hsl ?_ | (refine gB @hsl ?_; intro bb hbb; cases bb <;> (try simp only [hbs, if_false, reduceCtorEq] at hbb)) | apply qc_seq | fail)
  rotate_left
  · exact ⟨.inr trivial, ef, trivial⟩
  refine qc_loop (fun m e s1 => s1 = s ∧ ∃ k : Nat, m = ms.length - k ∧ 0 < k ∧ k ≤ ms.length ∧ e.at 0 = .sref j 0 ms.length 2 ∧ e.at 3 = .int .i64 (k : Int)) _
    ⟨rfl, 1, rfl, by omega, by omega, ef, by simp only [lk, sv1, sv2, sv3, Nat.reduceEqDiff, Nat.reduceAdd, Nat.reduceLeDiff, reduceIte, if_false, if_true, mkVal, unLV, List.map, optTmps]; rfl⟩ ?_
  clear e0 hbb
  clear e
  rintro mm e s1 ⟨rfl, k, rfl, hk0, hk, e0, e3⟩
  by_cases hkl : k < ms.length
  · have hkI : (k : Int) < (ms.length : Int) := by omega
    have hkI1 : ((k - 1 : Nat) : Int) < (ms.length : Int) := by omega
    have hw : IntKind.i64.wrap ((k : Int) + 1) = ((k + 1 : Nat) : Int) := by rw [wrap_i64 _ (by omega) (by omega)]; rfl
    have hw1 : IntKind.i64.wrap ((k : Int) - 1) = ((k - 1 : Nat) : Int) := by rw [wrap_i64 _ (by omega) (by omega)]; omega
    have hl1 := loadN_movesR hkl hs
    have hl3 := loadN_movesR (k := k - 1) (by omega) hs
    have hq := meq_false (hd k hk0 hkl)
    have hi1 : iaLV 2 (.sref j 0 ms.length 2) (.int .i64 (k : Int)) s1 = some (.pref j (k * 2), s1) := by rw [iaS hkI, Nat.zero_add]
    have hi2 : iaLV 2 (.sref j 0 ms.length 2) (.int .i64 ((k - 1 : Nat) : Int)) s1 = some (.pref j ((k - 1) * 2), s1) := by rw [iaS hkI1, Nat.zero_add]
    repeat' (first | refine gA (And.intro @hsl (And.intro @hw1 (And.intro @hi1 (And.intro @hi2 (And.intro @hl1 (And.intro @hl3 @hq)))))) ?_ | (refine gB (And.intro @hsl (And.intro @hw1 (And.intro @hi1 (And.intro @hi2 (And.intro @hl1 (And.intro @hl3 @hq)))))) ?_; intro bb hbb; cases bb <;> (try simp only [hbs, if_false, reduceCtorEq] at hbb)) | apply qc_seq | fail)
    · exfalso; omega
    refine ⟨ms.length - (k + 1), by omega, trivial, k + 1, rfl, by omega, by omega, ?_⟩
    simp only [lk, sv1, sv2, sv3, Nat.reduceEqDiff, Nat.reduceAdd, Nat.reduceLeDiff, reduceIte, if_false, if_true, mkVal, unLV, List.map, optTmps, hw, e0, and_self]
  · repeat' (first | refine gA @hsl ?_ | (refine gB @hsl ?_; intro bb hbb; cases bb <;> (try simp only [hbs, if_false, reduceCtorEq] at hbb)) | apply qc_seq | fail)
    · exact ⟨.inr trivial, ef, trivial⟩
    · exfalso; omega
theorem tcomp_nil : PureOk Tryd.prog GL (.fn (.func 71) [] []) [.nils] .nils :=
  pure_ev tab0 (n := 20000) (by decide +kernel)
end Go.Proofs.YtohldpfjnllkdaaDoor
