/- search.Live's mark. -/
import Derived.Test.YtohldpfjnllkdaaDoorTlaw
set_option linter.unusedSimpArgs false
set_option linter.unusedVariables false
namespace Go.Proofs.YtohldpfjnllkdaaDoor
open Go Go.Pv Go.Aut Go.Tarjan
open Classical
structure MK (n : Nat) (s : St) (f : Nat → Bool) (list : List Nat) (lv : LV) : Prop where
  g0 : s.get 0 = some (.cells .mut (bcells n f))
  g1 : s.get 1 = some (.cells .mut [.sref 0 0 n 1])
  g3 : s.get 3 = some (.cells .mut [lv])
  n4 : 4 ≤ s.n
  sl : SkC s lv 1 (nints list) list.length
  low : ∀ id, uses lv id → 4 ≤ id
theorem MK.keep {n : Nat} {s s' : St} {f : Nat → Bool} {list : List Nat} {lv : LV} (h : MK n s f list lv) (hn : s.n ≤ s'.n) (hs : ∀ id, id < 4 ∨ uses lv id → id ≠ 2 → s'.get id = s.get id) : MK n s' f list lv :=
  ⟨by rw [hs 0 (.inl (by omega)) (by omega)]; exact h.g0, by rw [hs 1 (.inl (by omega)) (by omega)]; exact h.g1, by rw [hs 3 (.inl (by omega)) (by omega)]; exact h.g3, by have := h.n4; omega, h.sl.mono hn fun id hu => hs id (.inr hu) (by have := h.low id hu; omega), h.low⟩
set_option maxHeartbeats 4000000 in
theorem mark_ok {n : Nat} {s : St} {f : Nat → Bool} {list : List Nat} {lv : LV} (h : MK n s f list lv) {q : Nat} (hq : q < n) (hb : list.length ≤ 1000000) :
    CallOk Tryd.prog GL (.fn (.func 35) [] [.pref 1 0, .pref 3 0]) [.int .i64 (q : Int)] s (fun _ s' => ∃ lv', MK n s' (fun j => if j = q then true else f j) (if f q = true then list else list ++ [q]) lv' ∧ s.n ≤ s'.n ∧ (∀ id, 4 ≤ id → id < s.n → ¬ uses lv id → s'.get id = s.get id) ∧ s'.get 2 = s.get 2 ∧ ∀ id, uses lv' id → uses lv id ∨ s.n ≤ id) := by
  refine call_fn (first := []) (caps := [.pref 1 0, .pref 3 0]) Tryd.func35 (by decide +kernel) c35 (Nat.le_of_ble_eq_true rfl) (CodeOk.mono (Q := fun o e s' => (o = .normal ∨ o = .jmp .ret) ∧ ∃ lv', MK n s' (fun j => if j = q then true else f j) (if f q = true then list else list ++ [q]) lv' ∧ s.n ≤ s'.n ∧ (∀ id, 4 ≤ id → id < s.n → ¬ uses lv id → s'.get id = s.get id) ∧ s'.get 2 = s.get 2 ∧ ∀ id, uses lv' id → uses lv id ∨ s.n ≤ id) ?_ fun o e s' hh => by
    exact ⟨hh.1, .tup [], by simp [l35, resVal], hh.2⟩)
  have e0 : (envOf ([] ++ [.int .i64 (q : Int)] ++ [.pref 1 0, .pref 3 0])).at 0 = .int .i64 (q : Int) := by rw [envOf_at]; rfl
  have e1 : (envOf ([] ++ [.int .i64 (q : Int)] ++ [.pref 1 0, .pref 3 0])).at 1 = .pref 1 0 := by rw [envOf_at]; rfl
  have e2 : (envOf ([] ++ [.int .i64 (q : Int)] ++ [.pref 1 0, .pref 3 0])).at 2 = .pref 3 0 := by rw [envOf_at]; rfl
  generalize envOf ([] ++ [.int .i64 (q : Int)] ++ [.pref 1 0, .pref 3 0]) = e at *
  refine Cd.out ?_
  unfold l35
  dsimp only
  have g0 := h.g0
  have g1 := h.g1
  have g3 := h.g3
  have n4 := h.n4
  have hqI : (q : Int) < (n : Int) := by omega
  have gq : (bcells n f)[q]? = some (.bool (f q)) := bcells_get hq
  cases hfq : f q with
  | false =>
    rw [hfq] at gq
    repeat' (first | refine gA (And.intro @iaS @gq) ?_ | (refine gB (And.intro @iaS @gq) ?_; intro bb hbb; cases bb <;> (try simp only [hbs, if_false, reduceCtorEq] at hbb)) | apply qc_seq | fail)
    refine q_storeB (i := 0) (q := q) (n := n) (b := true) (f := f) (f' := fun j => if j = q then true else f j) (by simp only [lk, sv1, sv2, sv3, Nat.reduceEqDiff, Nat.reduceAdd, Nat.reduceLeDiff, reduceIte, if_false, if_true, mkVal, unLV, List.map, optTmps, Nat.zero_add, Nat.mul_one]) ef g0 hq (fun j => rfl) (fun s2 n2 h2 o2 => ?_)
    have k3 : s2.get 3 = some (.cells .mut [lv]) := by rw [o2 _ (by omega)]; exact g3
    have k1 : s2.get 1 = some (.cells .mut [.sref 0 0 n 1]) := by rw [o2 _ (by omega)]; exact g1
    have hsl := h.sl.mono (s' := s2) (by omega) fun id hu => o2 id (by have := h.low id hu; omega)
    repeat' (first | refine gA trivial ?_ | (refine gB trivial ?_; intro bb hbb; cases bb <;> (try simp only [hbs, if_false, reduceCtorEq] at hbb)) | apply qc_seq | fail)
    refine q_appC (n := list.length) (esz := 1) (xv := .int .i64 (q : Int)) (yv := lv) (vs := [.int .i64 (q : Int)]) ef rfl rfl rfl rfl ef hsl (by decide) (by omega) (fun s3 j3 a1 a2 a3 a4 => ?_)
    have hlow := h.low
    have k33 : s3.get 3 = some (.cells .mut [lv]) := by rw [a4 3 (by omega) fun hu => by have := hlow _ hu; omega]; exact k3
    repeat' (first | refine gA trivial ?_ | (refine gB trivial ?_; intro bb hbb; cases bb <;> (try simp only [hbs, if_false, reduceCtorEq] at hbb)) | apply qc_seq | fail)
    have hk : ∀ id, id ≠ 0 → id ≠ 3 → id < s.n → ¬ uses lv id → (s3.put 3 (.cells .mut [.sref j3 0 (list.length + 1) 1])).get id = s.get id := fun id c1 c2 c3 c4 => by rw [St.get_put, if_neg c2, a4 id (by omega) c4, o2 id c1]
    have hnl : ∀ id, id < 4 → ¬ uses lv id := fun id hid hu => by have := hlow _ hu; omega
    refine ⟨.inl trivial, .sref j3 0 (list.length + 1) 1, ⟨?_, ?_, by rw [St.get_put, if_pos rfl], by rw [St.n_put]; omega, ?_, fun id hu => by have := uses_sref.1 hu; omega⟩, by rw [St.n_put]; omega, fun id c1 c2 c3 => hk id (by omega) (by omega) c2 c3, hk 2 (by omega) (by omega) (by omega) (hnl 2 (by omega)), fun id hu => .inr (by have := uses_sref.1 hu; omega)⟩
    · rw [St.get_put, if_neg (by omega), a4 0 (by omega) (hnl 0 (by omega))]; exact h2
    · rw [hk 1 (by omega) (by omega) (by omega) (hnl 1 (by omega))]; exact g1
    · rw [if_neg (by simp)]
      have e1 : nints (list ++ [q]) = nints list ++ [.int .i64 (q : Int)] := by simp [nints]
      rw [e1, List.length_append]
      exact a2.mono (Nat.le_refl _) fun id hu => by rw [St.get_put, if_neg (by have := uses_sref.1 hu; omega)]
  | true =>
    rw [hfq] at gq
    repeat' (first | refine gA (And.intro @iaS @gq) ?_ | (refine gB (And.intro @iaS @gq) ?_; intro bb hbb; cases bb <;> (try simp only [hbs, if_false, reduceCtorEq] at hbb)) | apply qc_seq | fail)
    have hf : (fun j => if j = q then true else f j) = f := funext fun j => by
      by_cases hj : j = q
      · rw [if_pos hj, hj, hfq]
      · rw [if_neg hj]
    rw [hf]
    exact ⟨.inl trivial, lv, h, Nat.le_refl _, fun _ _ _ _ => trivial, trivial, fun _ hu => .inl hu⟩
end Go.Proofs.YtohldpfjnllkdaaDoor
