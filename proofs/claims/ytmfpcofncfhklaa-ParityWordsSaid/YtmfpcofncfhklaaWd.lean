/- The normal lasso of a word, plainly. -/
import Derived.Test.YtmfpcofncfhklaaWc
import Derived.Test.YtmfpcofncfhklaaLim
set_option linter.unusedSimpArgs false
set_option linter.unusedVariables false
namespace Go.Proofs.Ytmfpcofncfhklaa
open Go Go.Pv
open Classical

def rot (l : List Int) (k : Nat) : List Int := l.drop k ++ l.take k
theorem rot_len {l : List Int} {k : Nat} (h : k ≤ l.length) : (rot l k).length = l.length := by simp [rot]; omega
theorem rot_mem {l : List Int} {k : Nat} {x : Int} (h : x ∈ rot l k) : x ∈ l := by
  rcases List.mem_append.1 h with h | h
  · exact List.mem_of_mem_drop h
  · exact List.mem_of_mem_take h
theorem rot_get {l : List Int} {k j : Nat} (hk : k < l.length) (hj : j < l.length) : (rot l k).getD j 0 = l.getD ((j + k) % l.length) 0 := by
  simp only [rot, List.getD_eq_getElem?_getD]
  by_cases h : j < l.length - k
  · rw [List.getElem?_append_left (by simpa using h), List.getElem?_drop, Nat.mod_eq_of_lt (by omega), Nat.add_comm]
  · have e : (j + k) % l.length = j - (l.length - k) := by
      rw [Nat.mod_eq_sub_mod (by omega), Nat.mod_eq_of_lt (by omega)]; omega
    rw [List.getElem?_append_right (by simp; omega), e, List.length_drop, List.getElem?_take, if_pos (by omega)]

/-- How far the loop has been turned back. -/
def NInv (sl lp : List Int) (w : Nat → Int) (keep back : Nat) : Prop :=
  keep ≤ sl.length ∧ back < lp.length ∧ (∀ i, i < keep → w i = sl.getD i 0) ∧ ∀ i, keep ≤ i → w i = lp.getD ((i - keep + (lp.length - back)) % lp.length) 0

theorem per_mul {l : List Int} {n : Nat} (h : Per l n) : ∀ (c j : Nat), j + c * n < l.length → l.getD (j + c * n) 0 = l.getD j 0 := by
  intro c
  induction c with
  | zero => intro j _; simp
  | succ c ih =>
    intro j hj
    have e : j + (c + 1) * n = n + (j + c * n) := by rw [Nat.add_mul]; omega
    rw [e] at hj ⊢
    rw [h.2.2.2 (j + c * n) (by omega)]
    exact ih j (by omega)
theorem per_mod {l : List Int} {n : Nat} (h : Per l n) {j : Nat} (hj : j < l.length) : l.getD j 0 = l.getD (j % n) 0 := by
  have e := Nat.mod_add_div j n
  have := per_mul h (j / n) (j % n) (by rw [Nat.mul_comm, e]; exact hj)
  rw [Nat.mul_comm, e] at this
  exact this

theorem ninv_init {sl ll : List Int} {n : Nat} (h : Per ll n) : NInv sl (ll.take n) (lett sl ll) sl.length 0 := by
  have hl : (ll.take n).length = n := by have := h.2.1; simp; omega
  have hn := h.1
  refine ⟨Nat.le_refl _, by omega, fun i hi => by simp [lett, hi], fun i hi => ?_⟩
  rw [hl, Nat.sub_zero, Nat.add_mod_right]
  have h1 : (i - sl.length) % ll.length < ll.length := Nat.mod_lt _ (by have := h.2.1; omega)
  simp only [lett]
  rw [if_neg (by omega), per_mod h h1, Nat.mod_mod_of_dvd _ (Nat.dvd_of_mod_eq_zero h.2.2.1)]
  have h2 : (i - sl.length) % n < n := Nat.mod_lt _ (by omega)
  simp [List.getD_eq_getElem?_getD, List.getElem?_take, h2]

theorem ninv_step {sl lp : List Int} {w : Nat → Int} {keep back : Nat} (h : NInv sl lp w keep back) (hk : 0 < keep) (he : sl.getD (keep - 1) 0 = lp.getD (lp.length - 1 - back) 0) : NInv sl lp w (keep - 1) ((back + 1) % lp.length) := by
  obtain ⟨h1, h2, h3, h4⟩ := h
  refine ⟨by omega, Nat.mod_lt _ (by omega), fun i hi => h3 i (by omega), fun i hi => ?_⟩
  by_cases hlast : i = keep - 1
  · subst hlast
    rw [h3 _ (by omega), he, Nat.sub_self, Nat.zero_add]
    congr 1
    by_cases hb : back + 1 < lp.length
    · rw [Nat.mod_eq_of_lt hb, Nat.mod_eq_of_lt (by omega)]; omega
    · have e : back + 1 = lp.length := by omega
      rw [e, Nat.mod_self, Nat.sub_zero, Nat.mod_self]; omega
  · rw [h4 i (by omega)]
    congr 1
    by_cases hb : back + 1 < lp.length
    · rw [Nat.mod_eq_of_lt hb]
      congr 1
      omega
    · have e : back + 1 = lp.length := by omega
      rw [e, Nat.mod_self, Nat.sub_zero]
      have e2 : i - (keep - 1) + lp.length = i - keep + (lp.length - back) + lp.length := by omega
      rw [e2, Nat.add_mod_right]

theorem ninv_lett {sl lp : List Int} {w : Nat → Int} {keep back : Nat} (h : NInv sl lp w keep back) : ∀ i, lett (sl.take keep) (rot lp ((lp.length - back) % lp.length)) i = w i := by
  obtain ⟨h1, h2, h3, h4⟩ := h
  intro i
  have hk : (lp.length - back) % lp.length < lp.length := Nat.mod_lt _ (by omega)
  have hl : (sl.take keep).length = keep := by simp; omega
  simp only [lett, hl, rot_len (Nat.le_of_lt hk)]
  by_cases hi : i < keep
  · rw [if_pos hi, h3 i hi]
    simp [List.getD_eq_getElem?_getD, List.getElem?_take, hi]
  · rw [if_neg hi, rot_get hk (Nat.mod_lt _ (by omega)), h4 i (by omega)]
    congr 1
    rw [← Nat.add_mod]
end Go.Proofs.Ytmfpcofncfhklaa
