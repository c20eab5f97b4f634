/- A word is accepted by the least priority that comes again and again. -/
import Derived.Test.YtmfpcofncfhklaaLim
set_option linter.unusedSimpArgs false
set_option linter.unusedVariables false
namespace Go.Proofs.Ytmfpcofncfhklaa
open Go Go.Pv
open Classical

theorem fnd_get {q : Nat} : ∀ {qs : List Nat} {i j : Nat}, fnd q qs i = some j → ∃ d, j = i + d ∧ qs[d]? = some q := by
  intro qs
  induction qs with
  | nil => intro i j h; cases h
  | cons x r ih =>
    intro i j h
    simp only [fnd] at h
    split at h
    · rename_i hx; cases h; subst hx; exact ⟨0, rfl, rfl⟩
    · obtain ⟨d, h1, h2⟩ := ih h
      exact ⟨d + 1, by omega, by simpa using h2⟩

theorem foldl_min_spec : ∀ (l : List Int) (a : Int), l.foldl min a ≤ a ∧ (∀ x ∈ l, l.foldl min a ≤ x) ∧ (l.foldl min a = a ∨ l.foldl min a ∈ l) := by
  intro l
  induction l with
  | nil => intro a; exact ⟨Int.le_refl _, fun x hx => absurd hx List.not_mem_nil, .inl rfl⟩
  | cons b l ih =>
    intro a
    obtain ⟨h1, h2, h3⟩ := ih (min a b)
    simp only [List.foldl_cons]
    refine ⟨by omega, fun x hx => ?_, ?_⟩
    · rcases List.mem_cons.1 hx with rfl | hx
      · omega
      · exact h2 x hx
    · rcases h3 with h3 | h3
      · rw [h3]
        by_cases h : a ≤ b
        · exact .inl (by omega)
        · exact .inr (by rw [show min a b = b by omega]; exact List.mem_cons_self)
      · exact .inr (List.mem_cons_of_mem _ h3)
theorem mn_spec {l : List Int} (h : 0 < l.length) : (∀ x ∈ l, mn l ≤ x) ∧ mn l ∈ l := by
  match l, h with
  | a :: l, _ =>
    obtain ⟨h1, h2, h3⟩ := foldl_min_spec l a
    have e : mn (a :: l) = l.foldl min a := by simp [mn]
    rw [e]
    refine ⟨fun x hx => ?_, ?_⟩
    · rcases List.mem_cons.1 hx with rfl | hx
      · exact h1
      · exact h2 x hx
    · rcases h3 with h3 | h3
      · rw [h3]; exact List.mem_cons_self
      · exact List.mem_cons_of_mem _ h3

/-- The states round by round. -/
def itr (nxt : Nat → Nat) (q : Nat) : Nat → Nat
  | 0 => q
  | k + 1 => nxt (itr nxt q k)

theorem itr_per {nxt : Nat → Nat} {q j p : Nat} (h : itr nxt q (j + p) = itr nxt q j) : ∀ t, itr nxt q (j + t + p) = itr nxt q (j + t)
  | 0 => h
  | t + 1 => by
    have := itr_per h t
    rw [show j + (t + 1) + p = (j + t + p) + 1 by omega, show j + (t + 1) = (j + t) + 1 by omega]
    simp only [itr, this]
theorem itr_mul {nxt : Nat → Nat} {q j p : Nat} (h : itr nxt q (j + p) = itr nxt q j) (t : Nat) : ∀ c, itr nxt q (j + t + c * p) = itr nxt q (j + t)
  | 0 => by simp
  | c + 1 => by
    have := itr_mul h t c
    rw [show j + t + (c + 1) * p = (j + (t + c * p)) + p by rw [Nat.add_mul]; omega, itr_per h, show j + (t + c * p) = j + t + c * p by omega, this]

theorem wv_lim {nxt : Nat → Nat} {lst : Nat → Int} {n q0 : Nat} (hnx : ∀ y, y < n → nxt y < n) (hq0 : q0 < n) : ∀ (f k : Nat), k + f = n + 1 → ((List.range k).map (itr nxt q0)).Nodup → (∀ i, itr nxt q0 i < n) →
    ∃ m, IsLim m (fun i => lst (itr nxt q0 i)) ∧ wv nxt lst f ((List.range k).map (itr nxt q0)) (itr nxt q0 k) = decide (m.tmod 2 = 0) := by
  intro f
  induction f with
  | zero =>
    intro k hk hd ha
    have := pigeon n _ hd (fun x hx => by obtain ⟨i, _, rfl⟩ := List.mem_map.1 hx; exact ha i)
    simp at this
    omega
  | succ f ih =>
    intro k hk hd ha
    simp only [wv]
    cases hf : fnd (itr nxt q0 k) ((List.range k).map (itr nxt q0)) 0 with
    | some j =>
      obtain ⟨d, hd1, hd2⟩ := fnd_get hf
      rw [Nat.zero_add] at hd1
      subst hd1
      have hjk : j < k := by have := (fnd_some hf).2; simpa using this
      have hjq : itr nxt q0 j = itr nxt q0 k := by simpa [hjk] using hd2
      have hper : itr nxt q0 (j + (k - j)) = itr nxt q0 j := by rw [show j + (k - j) = k by omega, hjq]
      have hlen : 0 < ((((List.range k).map (itr nxt q0)).map lst).drop j).length := by simp; omega
      obtain ⟨m1, m2⟩ := mn_spec hlen
      have hget : ∀ t, t < k - j → lst (itr nxt q0 (j + t)) ∈ ((((List.range k).map (itr nxt q0)).map lst).drop j) := fun t ht => by
        refine List.mem_iff_getElem?.2 ⟨t, ?_⟩
        simp [show j + t < k by omega]
      refine ⟨_, ⟨fun T => ?_, j, fun i hi => ?_⟩, rfl⟩
      · obtain ⟨t, ht⟩ := List.mem_iff_getElem?.1 m2
        have htl : t < k - j := by
          have := (List.getElem?_eq_some_iff.1 ht).1
          simpa using this
        have hv : lst (itr nxt q0 (j + t)) = mn ((((List.range k).map (itr nxt q0)).map lst).drop j) := by
          simpa [show j + t < k by omega] using ht
        refine ⟨j + t + T * (k - j), ?_, ?_⟩
        · have : T * 1 ≤ T * (k - j) := Nat.mul_le_mul_left _ (by omega)
          omega
        · show lst (itr nxt q0 (j + t + T * (k - j))) = _
          rw [itr_mul hper, hv]
      · have hmod : (i - j) % (k - j) < k - j := Nat.mod_lt _ (by omega)
        have hi2 : i = j + (i - j) % (k - j) + (i - j) / (k - j) * (k - j) := by
          have := Nat.div_add_mod (i - j) (k - j)
          rw [Nat.mul_comm] at this
          omega
        show _ ≤ lst (itr nxt q0 i)
        rw [hi2, itr_mul hper]
        exact m1 _ (hget _ hmod)
    | none =>
      have hr : (List.range k).map (itr nxt q0) ++ [itr nxt q0 k] = (List.range (k + 1)).map (itr nxt q0) := by rw [List.range_succ, List.map_append]; rfl
      simp only [hr]
      refine ih (k + 1) (by omega) ?_ ha
      rw [← hr]
      exact List.nodup_append.2 ⟨hd, by simp, fun a ha' b hb => by
        rintro rfl
        rcases List.mem_singleton.1 hb with rfl
        exact fnd_none hf ha'⟩
end Go.Proofs.Ytmfpcofncfhklaa
