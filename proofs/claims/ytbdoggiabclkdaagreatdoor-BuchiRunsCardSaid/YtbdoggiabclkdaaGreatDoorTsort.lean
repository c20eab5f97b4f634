/- slices.SortFunc at moves. -/
import Derived.Test.YtbdoggiabclkdaaGreatDoorLays
import Derived.Test.YtbdoggiabclkdaaGreatDoorHead
import Derived.Test.YtbdoggiabclkdaaGreatDoorTiter
import Derived.Test.YtbdoggiabclkdaaGreatDoorPvSort
set_option linter.unusedSimpArgs false
set_option linter.unusedVariables false
section
set_option linter.unusedSimpArgs false
set_option linter.unusedVariables false
set_option maxRecDepth 100000
namespace Go.Proofs.YtbdoggiabclkdaaGreatDoor
open Go Go.Shelf Go.RowKit Go.Lib Go.Sort
open Go.Pv
open Classical
theorem cmp_eq (x y : Int × Bool) : mcmp x y = (if Lib.compareInt x.1 y.1 ≠ 0 ∨ x.2 = y.2 then Lib.compareInt x.1 y.1 else if y.2 = true then -1 else 1) := by
  unfold mcmp Lib.compareInt
  by_cases h1 : x.1 < y.1
  · simp [h1]
  · by_cases h2 : y.1 < x.1
    · simp [h1, h2]
    · simp [h1, h2]
set_option maxHeartbeats 1000000 in
theorem cmp_calls (x y : Int × Bool) (W : World) : Calls Tryz.prog 28 #[.agg #[.int .i64 x.1, .bool x.2], .agg #[.int .i64 y.1, .bool y.2]] W fun e w' => e = .returned (.int .i64 (mcmp x y)) ∧ ∃ q os', w' = grow (W.drewN q) os' := by
  have hcon := fun W' => AnyG.cmp_Compare_int cmpInt x.1 y.1 W'
  change ∀ W', Calls Tryz.prog 47 _ _ _ at hcon
  obtain ⟨R, hR⟩ : ∃ R, R = mcmp x y := ⟨_, rfl⟩
  rw [← hR]
  rw [cmp_eq] at hR
  obtain ⟨a, b⟩ := x
  obtain ⟨c, d⟩ := y
  simp only at hcon hR ⊢
  generalize Lib.compareInt a c = r at hcon hR ⊢
  cases b <;> cases d
  all_goals
    go_enter Tryz.func28, Tryz.ntmps28
    go_wp2_with (go_at_call 47; refine (hcon _).mono ?_; rintro e w' ⟨rfl, rfl⟩)
    all_goals
      go_ret
      refine ⟨by rw [hR]; simp [*], 0, _, by rw [alloc_eq_grow, alloc_eq_grow, grow_grow]; rfl⟩
theorem lt_iff (x y : Int × Bool) : ltOf mcmp x y = decide (mlt x y) := by
  unfold ltOf
  by_cases h : mlt x y
  · rw [decide_eq_true h]
    exact decide_eq_true ((mcmp_lt x y).2 h)
  · rw [decide_eq_false h]
    exact decide_eq_false fun h' => h ((mcmp_lt x y).1 h')
theorem swo_m : SWO (ltOf mcmp) where
  irrefl x := by
    rw [lt_iff]
    refine decide_eq_false fun h => ?_
    rcases h with h | ⟨_, h1, h2⟩
    · omega
    · rw [h1] at h2; cases h2
  trans x y z h1 h2 := by
    rw [lt_iff] at *
    have k1 := of_decide_eq_true h1
    have k2 := of_decide_eq_true h2
    refine decide_eq_true ?_
    unfold mlt at *
    rcases k1 with k1 | ⟨a, b, c⟩ <;> rcases k2 with k2 | ⟨d, e, f⟩
    · exact .inl (by omega)
    · exact .inl (by omega)
    · exact .inl (by omega)
    · rw [c] at e; cases e
  ntrans x y z h1 h2 := by
    rw [lt_iff] at *
    have k1 := of_decide_eq_false h1
    have k2 := of_decide_eq_false h2
    refine decide_eq_false fun h => ?_
    unfold mlt at *
    obtain ⟨a, p⟩ := x
    obtain ⟨b, q⟩ := y
    obtain ⟨c, r⟩ := z
    simp only [not_or, not_and, Int.not_lt] at *
    cases p <;> cases q <;> cases r <;> simp at * <;> omega
theorem tsort_ok {s : St} {j : Nat} {ms : List (Int × Bool)} (hs : s.get j = some (.cells .mut (mcells ms))) (hl1 : 1 ≤ ms.length) (hl2 : ms.length ≤ 1048576) :
    CallOk Tryz.prog GL (.fn (.func 45) [] []) [.sref j 0 ms.length 2, .fn (.func 28) [] []] s (fun _ s' => ∃ ms', ms'.Perm ms ∧ (∀ a b, a < b → b < ms'.length → ¬ mlt (ms'.getD b (0, false)) (ms'.getD a (0, false))) ∧ s' = s.put j (.cells .mut (mcells ms'))) := by
  have eg : ∀ args w, (callFunc 28 args).run Tryz.prog w = .ok (.enter 28 args) w := enters_of Tryz.func28 (by kernel_rfl) rfl
  refine CallOk.mono (call_sort (lt := ltOf mcmp) Tryz.func45 (by decide +kernel) (body := (Tryz.f45.body).getD default) (by kernel_rfl) ?_ hs hl1 hl2) ?_
  · intro blk off cap d w hH hb hz
    exact AnyQ.slices_SortFunc sortMv 2 Tryz.isAgg45 Tryz.sizeOf45 encM (fun _ => rfl) (fun x v hv => by simp [encM] at hv; rcases hv with rfl | rfl <;> rfl) mcmp swo_m 28 #[] blk off cap d w eg (fun _ _ _ _ x y => cmp_calls x y _) hH hb hz
  · rintro r s' ⟨ms', h1, h2, h3⟩
    refine ⟨ms', h1, fun a b hab hb hm => ?_, h3⟩
    have := h2 a b hab hb
    rw [lt_iff] at this
    exact of_decide_eq_false this hm
noncomputable def TG : Nat → Option LFunc := tabOf Tryz.prog GL refs
theorem tabG : Tab Tryz.prog GL TG [] := tabOf_tab (by decide +kernel) (by decide +kernel)
theorem tsort_nil : PureOk Tryz.prog GL (.fn (.func 45) [] []) [.nils, .fn (.func 28) [] []] (.tup []) :=
  pure_ev (ow := false) tabG (n := 20000) (by decide +kernel)
end Go.Proofs.YtbdoggiabclkdaaGreatDoor
end
section
set_option linter.unusedSimpArgs false
set_option linter.unusedVariables false
namespace Go.Proofs.YtbdoggiabclkdaaGreatDoor
open Go Go.Pv
open Classical
theorem loadN_movesR {ms : Moves} {k j : Nat} (h : k < ms.length) {s : St} {m : Md} (hs : s.get j = some (.cells m (mcells ms))) : loadLV (some 2) (.pref j (k * 2)) s = some (.agg [.int .i64 (ms.getD k (0, false)).1, .bool (ms.getD k (0, false)).2]) := by
  have h1 := mcells_pair h
  have h2 : k * 2 + 2 ≤ (mcells ms).length := by rw [mcells_length]; omega
  simp only [loadLV, hs, mkVal]
  rw [if_pos h2, h1]
theorem meq_false {a b : Int × Bool} (h : a ≠ b) : eqLV (.struct [(0, (1, .int)), (1, (1, .bool))]) (.agg [.int .i64 a.1, .bool a.2]) (.agg [.int .i64 b.1, .bool b.2]) = some false := by
  obtain ⟨x, p⟩ := a
  obtain ⟨y, q⟩ := b
  by_cases h1 : x = y
  · subst h1
    have h2 : ¬ p = q := fun h2 => h (by rw [h2])
    cases p <;> cases q <;> simp_all [eqLV, eqLV.eqFields, scEq]
  · have h2 : (x == y) = false := by simpa using h1
    simp [eqLV, eqLV.eqFields, scEq, h2]
theorem tcomp_nil : PureOk Tryz.prog GL (.fn (.func 46) [] []) [.nils] .nils :=
  pure_ev (ow := false) tabG (n := 20000) (by decide +kernel)
end Go.Proofs.YtbdoggiabclkdaaGreatDoor
end
