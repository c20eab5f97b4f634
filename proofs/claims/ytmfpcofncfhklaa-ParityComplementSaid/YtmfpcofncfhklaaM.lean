/- One more on each priority: the plain law. -/
import Derived.Test.YtmfpcofncfhklaaMn
import Derived.Test.YtmfpcofncfhklaaL
set_option linter.unusedSimpArgs false
set_option linter.unusedVariables false
namespace Go.Proofs.Ytmfpcofncfhklaa
open Go Go.Pv
open Classical

theorem getD_map_inc {l : List Int} {k : Nat} (h : k < l.length) : (inc l).getD k 0 = l.getD k 0 + 1 := by
  simp [inc, List.getD_eq_getElem?_getD, h]
theorem getD_rows_inc {R : List (List Int)} {i : Nat} (h : i < R.length) : (R.map (inc)).getD i [] = inc (R.getD i []) := by
  simp [List.getD_eq_getElem?_getD, h]

theorem minR_inc {L S : Int} {N R : List (List Int)} (hp : PV L S N R) : ∀ {l : List Int} {q : Nat} {x : Int}, q < N.length → (∀ a ∈ l, 0 ≤ a ∧ a < L) → minR N (R.map (inc)) l q (x + 1) = minR N R l q x + 1 := by
  intro l
  induction l with
  | nil => intro q x _ _; rfl
  | cons a l ih =>
    intro q x hq h
    have ha := h a (by simp)
    have hR : R.length = N.length := hp.1.2.2.2.2.1
    obtain ⟨r1, r2, r3⟩ := hp.2 q hq
    have hk : a.toNat < (R.getD q []).length := by omega
    simp only [minR]
    rw [getD_rows_inc (by omega), getD_map_inc hk]
    have hmin : min (x + 1) ((R.getD q []).getD a.toNat 0 + 1) = min x ((R.getD q []).getD a.toNat 0) + 1 := by omega
    rw [hmin]
    exact ih (stp_lt hp hq ha.1 ha.2).2 (fun b hb => h b (by simp [hb]))

theorem minR_inc0 {L S : Int} {N R : List (List Int)} (hp : PV L S N R) (hle : AllLe19 R) {l : List Int} (hl : 1 ≤ l.length) {q : Nat} (hq : q < N.length) (h : ∀ a ∈ l, 0 ≤ a ∧ a < L) :
    minR N (R.map (inc)) l q 20000 = minR N R l q 20000 + 1 := by
  match l, hl with
  | a :: l, _ =>
    have ha := h a (by simp)
    have hR : R.length = N.length := hp.1.2.2.2.2.1
    obtain ⟨r1, r2, r3⟩ := hp.2 q hq
    have hk : a.toNat < (R.getD q []).length := by omega
    obtain ⟨u1, u2, u3, u4⟩ := r3 a.toNat (by omega)
    have hx := hle q (by omega) a.toNat hk
    simp only [minR]
    rw [getD_rows_inc (by omega), getD_map_inc hk]
    have e1 : min 20000 ((R.getD q []).getD a.toNat 0 + 1) = (R.getD q []).getD a.toNat 0 + 1 := by omega
    have e2 : min 20000 ((R.getD q []).getD a.toNat 0) = (R.getD q []).getD a.toNat 0 := by omega
    rw [e1, e2]
    exact minR_inc hp (stp_lt hp hq ha.1 ha.2).2 (fun b hb => h b (by simp [hb]))

theorem wv_inc {nxt : Nat → Nat} {lst lst' : Nat → Int} {n : Nat} (hnx : ∀ y, y < n → nxt y < n) (hl : ∀ y, y < n → lst' y = lst y + 1 ∧ 0 ≤ lst y) :
    ∀ (f : Nat) (qs : List Nat) (q : Nat), qs.length + f = n + 1 → q < n → qs.Nodup → (∀ x ∈ qs, x < n) → wv nxt lst' f qs q = !wv nxt lst f qs q := by
  intro f
  induction f with
  | zero => intro qs q h _ hd ha; have := pigeon _ _ hd ha; omega
  | succ f ih =>
    intro qs q h hq hd ha
    simp only [wv]
    cases hf : fnd q qs 0 with
    | some j =>
      obtain ⟨-, hj⟩ := fnd_some hf
      have hmap : (qs.map lst').drop j = ((qs.map lst).drop j).map fun x => x + 1 := by
        rw [← List.map_drop, ← List.map_drop, List.map_map]
        exact List.map_congr_left fun y hy => (hl y (ha y (List.mem_of_mem_drop hy))).1
      have hnn : 0 ≤ mn ((qs.map lst).drop j) := mn_nonneg fun x hx => by
        obtain ⟨y, hy, rfl⟩ := List.mem_map.1 (List.mem_of_mem_drop hx)
        exact (hl y (ha y hy)).2
      have hmn : mn ((qs.map lst').drop j) = mn ((qs.map lst).drop j) + 1 := by
        rw [hmap]
        exact mn_map (g := fun x => x + 1) (fun a b => by omega) (by simp; omega)
      simp only [hmn]
      generalize mn ((qs.map lst).drop j) = x at *
      rw [Int.tmod_eq_emod_of_nonneg (by omega), Int.tmod_eq_emod_of_nonneg hnn]
      by_cases h1 : x % 2 = 0 <;> simp only [h1] <;> simp <;> omega
    | none =>
      refine ih _ _ (by simp; omega) (hnx q hq) ?_ ?_
      · exact List.nodup_append.2 ⟨hd, by simp, fun a ha' b hb => by
          rintro rfl
          rcases List.mem_singleton.1 hb with rfl
          exact fnd_none hf ha'⟩
      · intro x hx
        rcases List.mem_append.1 hx with h | h
        · exact ha x h
        · rcases List.mem_singleton.1 h with rfl; exact hq

theorem pv_inc {L S : Int} {N R : List (List Int)} (hp : PV L S N R) (hle : AllLe19 R) : PV L S N (R.map (inc)) := by
  obtain ⟨⟨a1, a2, a3, a4, a5, a6, a7⟩, hr⟩ := hp
  refine ⟨⟨a1, a2, a3, a4, by simpa using a5, a6, a7⟩, fun i hi => ?_⟩
  obtain ⟨r1, r2, r3⟩ := hr i hi
  rw [RowOk, getD_rows_inc (by omega)]
  refine ⟨r1, by simpa [inc] using r2, fun k hk => ?_⟩
  obtain ⟨u1, u2, u3, u4⟩ := r3 k hk
  have hx := hle i (by omega) k (by omega)
  unfold Ent
  rw [getD_rows_inc (by omega), getD_map_inc (by omega)]
  omega

theorem words_inc {L S : Int} {N R : List (List Int)} {sl ll : List Int} (hp : PV L S N R) (hle : AllLe19 R) (hw : Fm sl ll ∧ AllB sl L ∧ AllB ll L) :
    wv (runQ N ll) (fun q => minR N (R.map (inc)) ll q 20000) (N.length + 1) [] (runQ N sl S.toNat) = !wv (runQ N ll) (fun q => minR N R ll q 20000) (N.length + 1) [] (runQ N sl S.toNat) := by
  have hSn : S.toNat < N.length := by have := hp.1.2.2.2.2.2; omega
  refine wv_inc (n := N.length) (fun y hy => runQ_lt hp hy hw.2.2.mem) (fun y hy => ⟨minR_inc0 hp hle hw.1.2.1 hy hw.2.2.mem, (minR_rng hp hy hw.2.2.mem (by omega) (by omega)).1⟩) _ _ _ (by simp) (runQ_lt hp hSn hw.2.1.mem) List.nodup_nil (fun x hx => by cases hx)
end Go.Proofs.Ytmfpcofncfhklaa
