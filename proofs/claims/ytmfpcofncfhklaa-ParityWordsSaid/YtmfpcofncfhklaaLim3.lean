/- A word is accepted by the least priority that comes again and again, whichever lasso it is written as. -/
import Derived.Test.YtmfpcofncfhklaaLim2
set_option linter.unusedSimpArgs false
set_option linter.unusedVariables false
namespace Go.Proofs.Ytmfpcofncfhklaa
open Go Go.Pv
open Classical

theorem stAt_lt {L S : Int} {N R : List (List Int)} (hp : PV L S N R) {w : Nat → Int} (hw : ∀ i, 0 ≤ w i ∧ w i < L) {q : Nat} (hq : q < N.length) : ∀ i, stAt N w q i < N.length
  | 0 => hq
  | i + 1 => (stp_lt hp (stAt_lt hp hw hq i) (hw i).1 (hw i).2).2
theorem prAt_le {L S : Int} {N R : List (List Int)} (hp : PV L S N R) {w : Nat → Int} (hw : ∀ i, 0 ≤ w i ∧ w i < L) {q : Nat} (hq : q < N.length) (i : Nat) : prAt N R w q i ≤ 20000 := by
  have h := hw i
  have := ((hp.2 _ (stAt_lt hp hw hq i)).2.2 (w i).toNat (by omega)).2.2.2
  exact this

theorem lasso_lim {L S : Int} {N R : List (List Int)} (hp : PV L S N R) {sl ll : List Int} (hS : ∀ a ∈ sl, 0 ≤ a ∧ a < L) (hL : ∀ a ∈ ll, 0 ≤ a ∧ a < L) (hl : 1 ≤ ll.length) :
    ∃ m, IsLim m (prAt N R (lett sl ll) S.toNat) ∧ wv (runQ N ll) (fun q => minR N R ll q 20000) (N.length + 1) [] (runQ N sl S.toNat) = decide (m.tmod 2 = 0) := by
  have hSn : S.toNat < N.length := by have := hp.1.2.2.2.2.2; omega
  have hq0 : runQ N sl S.toNat < N.length := runQ_lt hp hSn hS
  have hnx : ∀ y, y < N.length → runQ N ll y < N.length := fun y hy => runQ_lt hp hy hL
  have hit : ∀ i, itr (runQ N ll) (runQ N sl S.toNat) i < N.length := fun i => by
    induction i with
    | zero => exact hq0
    | succ i ih => exact hnx _ ih
  obtain ⟨m, hm, hv⟩ := wv_lim (lst := fun q => minR N R ll q 20000) hnx hq0 (N.length + 1) 0 (by omega) (by simp) hit
  refine ⟨m, ?_, by simpa [itr] using hv⟩
  generalize hq : runQ N sl S.toNat = q0 at *
  let w' : Nat → Int := fun i => ll.getD (i % ll.length) 0
  have hw' : ∀ i, 0 ≤ w' i ∧ w' i < L := fun i => hL _ (getD_mem (Nat.mod_lt _ (by omega)))
  have hwr : ∀ k j, j < ll.length → w' (k * ll.length + j) = ll.getD j 0 := fun k j hj => by
    show ll.getD ((k * ll.length + j) % ll.length) 0 = _
    rw [Nat.add_comm, Nat.add_mul_mod_self_right, Nat.mod_eq_of_lt hj]
  have hst : ∀ k, stAt N w' q0 (k * ll.length) = itr (runQ N ll) q0 k := by
    intro k
    induction k with
    | zero => simp [stAt, itr]
    | succ k ih =>
      rw [Nat.add_mul, Nat.one_mul, stAt_add, ih, itr]
      exact (runQ_stAt N ll _ _ (fun i hi => hwr k i hi)).symm
  have hround : ∀ k, (∀ t, t < ll.length → minR N R ll (itr (runQ N ll) q0 k) 20000 ≤ prAt N R w' q0 (k * ll.length + t)) ∧ ∃ t, t < ll.length ∧ minR N R ll (itr (runQ N ll) q0 k) 20000 = prAt N R w' q0 (k * ll.length + t) := by
    intro k
    obtain ⟨h1, h2, h3⟩ := minR_prAt N R ll (itr (runQ N ll) q0 k) 20000 (fun j => w' (k * ll.length + j)) (fun i hi => hwr k i hi)
    have he : ∀ t, prAt N R w' q0 (k * ll.length + t) = prAt N R (fun j => w' (k * ll.length + j)) (itr (runQ N ll) q0 k) t := fun t => by rw [prAt_add, hst]
    refine ⟨fun t ht => by rw [he]; exact h2 t ht, ?_⟩
    rcases h3 with h3 | ⟨i, hi, h3⟩
    · have a := h2 0 (by omega)
      have b := prAt_le hp hw' hq0 (k * ll.length + 0)
      rw [he] at b
      exact ⟨0, by omega, by rw [he]; omega⟩
    · exact ⟨i, hi, by rw [he]; exact h3⟩
  have hlim : IsLim m (prAt N R w' q0) := by
    obtain ⟨h1, T, h2⟩ := hm
    refine ⟨fun U => ?_, T * ll.length, fun i hi => ?_⟩
    · obtain ⟨k, hk, e⟩ := h1 U
      obtain ⟨t, ht, f⟩ := (hround k).2
      refine ⟨k * ll.length + t, ?_, by rw [← f]; exact e⟩
      have : k * 1 ≤ k * ll.length := Nat.mul_le_mul_left _ hl
      omega
    · have hk : T ≤ i / ll.length := (Nat.le_div_iff_mul_le (by omega)).2 hi
      have a := h2 _ hk
      have b := (hround (i / ll.length)).1 (i % ll.length) (Nat.mod_lt _ (by omega))
      have e : i / ll.length * ll.length + i % ll.length = i := by rw [Nat.mul_comm]; exact Nat.div_add_mod i ll.length
      rw [e] at b
      exact Int.le_trans a b
  refine IsLim.shift sl.length ?_
  have he : (fun i => prAt N R (lett sl ll) S.toNat (i + sl.length)) = prAt N R w' q0 := by
    funext i
    rw [Nat.add_comm i, prAt_add]
    have h1 : stAt N (lett sl ll) S.toNat sl.length = q0 := by
      rw [← hq]
      exact (runQ_stAt N sl _ _ (fun i hi => by simp [lett, hi])).symm
    have h2 : (fun j => lett sl ll (sl.length + j)) = w' := by
      funext j
      simp only [lett, w']
      rw [if_neg (by omega), Nat.add_sub_cancel_left]
    rw [h1, h2]
  rw [he]
  exact hlim

/-- Two lassos of a word. -/
theorem lasso_same {L S : Int} {N R : List (List Int)} (hp : PV L S N R) {sl ll sl' ll' : List Int} (hS : ∀ a ∈ sl, 0 ≤ a ∧ a < L) (hL : ∀ a ∈ ll, 0 ≤ a ∧ a < L) (hl : 1 ≤ ll.length) (hS' : ∀ a ∈ sl', 0 ≤ a ∧ a < L) (hL' : ∀ a ∈ ll', 0 ≤ a ∧ a < L) (hl' : 1 ≤ ll'.length)
    (h : ∀ i, lett sl ll i = lett sl' ll' i) :
    wv (runQ N ll) (fun q => minR N R ll q 20000) (N.length + 1) [] (runQ N sl S.toNat) = wv (runQ N ll') (fun q => minR N R ll' q 20000) (N.length + 1) [] (runQ N sl' S.toNat) := by
  obtain ⟨m, h1, h2⟩ := lasso_lim hp hS hL hl
  obtain ⟨m', k1, k2⟩ := lasso_lim hp hS' hL' hl'
  have he : lett sl ll = lett sl' ll' := funext h
  rw [he] at h1
  rw [h2, k2, h1.unique k1]
end Go.Proofs.Ytmfpcofncfhklaa
