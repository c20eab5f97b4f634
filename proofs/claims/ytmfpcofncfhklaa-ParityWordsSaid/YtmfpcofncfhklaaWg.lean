/- The law of words, plainly. -/
import Derived.Test.YtmfpcofncfhklaaWf
import Derived.Test.YtmfpcofncfhklaaLim3
set_option linter.unusedSimpArgs false
set_option linter.unusedVariables false
namespace Go.Proofs.Ytmfpcofncfhklaa
open Go Go.Pv
open Classical

theorem longl_get {ll : List Int} {j : Nat} (hj : j < ll.length) : (ll.drop 1 ++ [ll.getD 0 0]).getD j 0 = ll.getD ((j + 1) % ll.length) 0 := by
  simp only [List.getD_eq_getElem?_getD]
  by_cases h : j + 1 < ll.length
  · rw [List.getElem?_append_left (by simp; omega), List.getElem?_drop, Nat.mod_eq_of_lt h, Nat.add_comm]
  · have e : j + 1 = ll.length := by omega
    rw [List.getElem?_append_right (by simp; omega), e, Nat.mod_self]
    have : j - (ll.drop 1).length = 0 := by simp; omega
    rw [this]
    rfl
theorem longl_len {ll : List Int} (h : 1 ≤ ll.length) : (ll.drop 1 ++ [ll.getD 0 0]).length = ll.length := by simp; omega
theorem lett_long {sl ll : List Int} (h : 1 ≤ ll.length) (i : Nat) : lett (sl ++ [ll.getD 0 0]) (ll.drop 1 ++ [ll.getD 0 0]) i = lett sl ll i := by
  simp only [lett, longl_len h, List.length_append, List.length_cons, List.length_nil, Nat.zero_add]
  by_cases h1 : i < sl.length
  · rw [if_pos (by omega), if_pos h1]
    simp only [List.getD_eq_getElem?_getD]
    rw [List.getElem?_append_left h1]
  · by_cases h2 : i < sl.length + 1
    · have e : i = sl.length := by omega
      subst e
      rw [if_pos h2, if_neg h1, Nat.sub_self, Nat.zero_mod]
      simp
    · rw [if_neg h2, if_neg h1, longl_get (Nat.mod_lt _ (by omega)), Nat.mod_add_mod]
      congr 2
      omega
theorem allB_of {l : List Int} {m : Int} (h : ∀ x ∈ l, 0 ≤ x ∧ x < m) : AllB l m := fun j hj => h _ (getD_mem hj)
theorem fm_sub {sl ll sl' ll' : List Int} {L : Int} (h : Fm sl ll ∧ AllB sl L ∧ AllB ll L) (h1 : sl'.length ≤ sl.length) (h2 : 1 ≤ ll'.length) (h3 : ll'.length ≤ ll.length) (h4 : ∀ x ∈ sl', x ∈ sl) (h5 : ∀ x ∈ ll', x ∈ ll) : Fm sl' ll' ∧ AllB sl' L ∧ AllB ll' L := by
  obtain ⟨⟨a1, a2, a3, a4, a5⟩, b1, b2⟩ := h
  exact ⟨⟨by omega, h2, by omega, allB_of fun x hx => a4.mem x (h4 x hx), allB_of fun x hx => a5.mem x (h5 x hx)⟩, allB_of fun x hx => b1.mem x (h4 x hx), allB_of fun x hx => b2.mem x (h5 x hx)⟩
/-- The answer for a word. -/
def Vw (N R : List (List Int)) (sl ll : List Int) (q : Nat) : Bool := wv (runQ N ll) (fun q => minR N R ll q 20000) (N.length + 1) [] (runQ N sl q)
theorem vw_same {L S : Int} {N R : List (List Int)} (hp : PV L S N R) {sl ll sl' ll' : List Int} (h : Fm sl ll ∧ AllB sl L ∧ AllB ll L) (h' : Fm sl' ll' ∧ AllB sl' L ∧ AllB ll' L) (he : ∀ i, lett sl' ll' i = lett sl ll i) : Vw N R sl' ll' S.toNat = Vw N R sl ll S.toNat :=
  (lasso_same hp h.2.1.mem h.2.2.mem h.1.2.1 h'.2.1.mem h'.2.2.mem h'.1.2.1 fun i => (he i).symm).symm
theorem vw_before (N R : List (List Int)) (x : Int) (sl ll : List Int) (q : Nat) : Vw N R (x :: sl) ll q = Vw N R sl ll (stp N q x) := rfl
theorem pv_next {L S : Int} {N R : List (List Int)} (hp : PV L S N R) {x : Int} (h0 : 0 ≤ x) (h1 : x < L) : PV L ((N.getD S.toNat []).getD x.toNat 0) N R := by
  obtain ⟨⟨p1, p2, p3, p4, p5, p6, p7⟩, hr⟩ := hp
  have hs := hr S.toNat (by omega)
  have := hs.2.2 x.toNat (by omega)
  exact ⟨⟨p1, p2, p3, p4, p5, this.1, this.2.1⟩, hr⟩
theorem read_word {L S : Int} {nx pr st lo : LV} {N R : List (List Int)} {vN vR : List LV} {sl ll : List Int} (hN : IsRows nx N vN) (hR : IsRows pr R vR) (hS : IsInts st sl) (hL : IsInts lo ll) (hp : PV L S N R) (h : Fm sl ll ∧ AllB sl L ∧ AllB ll L) :
    PO 12 [.agg [.int .i64 L, .int .i64 S, nx, pr], .agg [st, lo]] (.bool (Vw N R sl ll S.toNat)) := by
  have := word_ok (L := L) (S := S) hN hR hS hL
  rw [decide_eq_true ⟨hp, h⟩, Bool.true_and] at this
  exact this
end Go.Proofs.Ytmfpcofncfhklaa
