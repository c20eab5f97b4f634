/- Runs of both, and of either: plain. -/
import Derived.Test.YtbdoggiabclkdaaGreatDoorPboth
import Derived.Test.YtbdoggiabclkdaaGreatDoorBsteps
import Derived.Test.YtbdoggiabclkdaaGreatDoorBeither
set_option linter.unusedSimpArgs false
set_option linter.unusedVariables false
namespace Go.Proofs.YtbdoggiabclkdaaGreatDoor
open Go Go.Pv
open Classical
theorem start_nat {B : Bu} (hok : Vb B) {z : Int} (hz : z ∈ B.start) : (z.toNat : Int) = z ∧ z.toNat < B.next.length := by
  obtain ⟨i, hi⟩ := List.mem_iff_getElem?.1 hz
  obtain ⟨h1, h2⟩ := List.getElem?_eq_some_iff.1 hi
  have := hok.2.2.2.1 i h1
  have hg : B.start.getD i 0 = z := by rw [List.getD_eq_getElem?_getD, hi]; rfl
  rw [hg] at this
  omega
theorem R_num {l : List Nat} {p : Nat} (h : p ∈ l) : l.getD (numN l p) 0 = p := by rw [List.getD_eq_getElem?_getD, numN_get h]; rfl
theorem auto_row {g : Grf} {C : Bu} (hT : AutoR g C) {p a : Nat} (hp : p ∈ g.R) (ha : (a : Int) < g.L) : (∀ x, x ∈ rowM C (numN g.R p) a ↔ x ∈ g.ren (g.mv p a)) := by
  have h1 := ((hT.row _ (numN_lt hp)).2 a ha).1
  rw [R_num hp] at h1
  exact h1
theorem pc_nat {m x y t : Nat} (hy : y < m) (ht : t < 2) : pcode m x y t / 2 / m = x ∧ pcode m x y t / 2 % m = y ∧ pcode m x y t % 2 = t := by
  obtain ⟨h1, h2, h3⟩ := pcode_parts (x := x) hy ht
  unfold px at h1
  unfold py at h2
  unfold pt at h3
  omega
theorem start_lt {B : Bu} (ok : Vb B) : B.start.Pairwise (fun a b => a < b ∧ 0 ≤ a ∧ 0 ≤ b) := by
  rw [List.pairwise_iff_getElem]
  intro i j hi hj hij
  have h1 := sok_lt ok.2.2.2.1 i j hij hj
  have p1 := (ok.2.2.2.1 i hi).1
  have p2 := (ok.2.2.2.1 j hj).1
  have ei : B.start.getD i 0 = B.start[i] := by simp [List.getD_eq_getElem?_getD, hi]
  have ej : B.start.getD j 0 = B.start[j] := by simp [List.getD_eq_getElem?_getD, hj]
  rw [ei] at p1 h1
  rw [ej] at p2 h1
  exact ⟨h1, p1, p2⟩
theorem stP_nd {A B : Bu} (okA : Vb A) (okB : Vb B) : (stP A B).Nodup := by
  rw [List.nodup_iff_pairwise_ne, stP, List.pairwise_flatMap]
  have hrB : ∀ y ∈ B.start, y.toNat < B.next.length := fun y hy => (start_nat okB hy).2
  constructor
  · intro x hx
    rw [List.pairwise_map]
    refine (start_lt okB).imp_of_mem fun {a b} ha hb h he => ?_
    have e1 := pc_nat (m := B.next.length) (x := x.toNat) (t := 0) (hrB a ha) (by decide)
    have e2 := pc_nat (m := B.next.length) (x := x.toNat) (t := 0) (hrB b hb) (by decide)
    rw [he] at e1
    have := e1.2.1.symm.trans e2.2.1
    omega
  · refine (start_lt okA).imp fun {a b} h p hp q hq he => ?_
    obtain ⟨y, hy, rfl⟩ := List.mem_map.1 hp
    obtain ⟨z, hz, rfl⟩ := List.mem_map.1 hq
    have e1 := pc_nat (m := B.next.length) (x := a.toNat) (t := 0) (hrB y hy) (by decide)
    have e2 := pc_nat (m := B.next.length) (x := b.toNat) (t := 0) (hrB z hz) (by decide)
    rw [he] at e1
    have := e1.1.symm.trans e2.1
    omega
theorem gr_num {g : Grf} (hnd : g.st.Nodup) {k p : Nat} (hk : g.st[k]? = some p) : numN g.R p = k := by
  have hpre := s0_pre g g.st.length
  rw [List.take_length] at hpre
  have h1 : ∀ (l ps : List Nat), (ps ++ l).Nodup → addsN ps l = ps ++ l := by
    intro l
    induction l with
    | nil => intro ps _; simp [addsN]
    | cons p l ih =>
      intro ps h
      have hp : p ∉ ps := fun hp => by
        rw [List.nodup_append] at h
        exact h.2.2 p hp p (by simp) rfl
      have h1 : addN ps p = ps ++ [p] := by unfold addN; rw [if_neg hp]
      show addsN (addN ps p) l = _
      rw [h1, ih _ (by simpa using h)]
      simp
  rw [h1 g.st [] (by simpa using hnd), List.nil_append] at hpre
  have hm := List.mem_of_getElem? hk
  rw [numN_pre hpre hm]
  have h2 := numN_get hm
  obtain ⟨a1, a2⟩ := List.getElem?_eq_some_iff.1 hk
  obtain ⟨b1, b2⟩ := List.getElem?_eq_some_iff.1 h2
  exact nd_inj hnd b1 a1 (b2.trans a2.symm)
theorem vb_auto {g : Grf} {C : Bu} {most : Int} (hok : GrfOk g most) (hnd : g.st.Nodup) (hT : AutoR g C) : Vb C := by
  obtain ⟨_, hlt, hcl⟩ := gr_ok hok
  have hlen := gr_len hok (Pre.refl g.R)
  have hN := hok.N3
  have hm3 := hok.m3
  refine ⟨by rw [hT.L]; exact hok.L1, by rw [hT.L]; exact hok.L2, by rw [hT.len]; omega, fun k hk => ?_, fun i hi => ?_⟩
  · rw [hT.st, List.length_map] at hk
    have e : ∀ k, k < g.st.length → C.start.getD k 0 = (k : Int) ∧ k < g.R.length := fun k hk => by
      have hg : g.st[k]? = some g.st[k] := List.getElem?_eq_getElem hk
      have hn := gr_num hnd hg
      have h1 := numN_lt (st_in _ (List.getElem_mem hk))
      rw [hn] at h1
      refine ⟨?_, h1⟩
      rw [hT.st]
      simp [List.getD_eq_getElem?_getD, hk, hn]
    rw [(e k hk).1, hT.len]
    have := (e k hk).2
    refine ⟨by omega, by omega, fun h0 => ?_⟩
    rw [(e (k - 1) (by omega)).1]
    omega
  · rw [hT.len] at hi ⊢
    obtain ⟨p, hp⟩ : ∃ p, g.R[i]? = some p := ⟨_, List.getElem?_eq_getElem hi⟩
    have hpm := List.mem_of_getElem? hp
    have hgd : g.R.getD i 0 = p := by rw [List.getD_eq_getElem?_getD, hp]; rfl
    obtain ⟨h1, h2⟩ := hT.row i hi
    rw [hT.L]
    refine ⟨h1, fun a ha => ?_⟩
    have haL : (a : Int) < g.L := by omega
    obtain ⟨h3, h4⟩ := h2 a haL
    rw [hgd] at h3
    intro k hk
    have hgk : ((C.next.getD i []).getD a []).getD k (0, false) = ((C.next.getD i []).getD a [])[k] := getD_lt' hk
    obtain ⟨x, hx, hxe⟩ := List.mem_map.1 ((h3 _).1 (List.getElem_mem hk))
    have hxR : x.1 ∈ g.R := hcl p hpm _ (List.mem_flatMap.2 ⟨a, List.mem_range.2 (by omega), List.mem_map.2 ⟨x, hx, rfl⟩⟩)
    have hnl := numN_lt hxR
    refine ⟨?_, ?_, fun h0 => h4 (k - 1) k (by omega) hk⟩
    · rw [hgk, ← hxe]; show (0 : Int) ≤ ((numN _ _ : Nat) : Int); omega
    · rw [hgk, ← hxe]; show ((numN _ _ : Nat) : Int) < _; omega
theorem vb_both {A B C : Bu} (okA : Vb A) (okB : Vb B) (hL : A.L = B.L) {most : Int} (hN : ((A.next.length * B.next.length * 2 : Nat) : Int) ≤ most) (hm : most ≤ 3000) (hT : AutoR (grB A B) C) : Vb C :=
  vb_auto (grB_ok okA okB hL hN hm) (stP_nd okA okB) hT
structure PRn (A B C : Bu) (f' fA fB : Nat → Bool) : Prop where
  out : ∀ q, f' q = true → ∃ p, p ∈ (grB A B).R ∧ q = numN (grB A B).R p ∧ fA (p / 2 / B.next.length) = true ∧ fB (p / 2 % B.next.length) = true
  back : ∀ x y, fA x = true → fB y = true → ∃ p, p ∈ (grB A B).R ∧ f' (numN (grB A B).R p) = true ∧ p / 2 / B.next.length = x ∧ p / 2 % B.next.length = y
theorem prn_step {A B C : Bu} (okA : Vb A) (okB : Vb B) (hL : A.L = B.L) {most : Int} (hg : GrfOk (grB A B) most) (hT : AutoR (grB A B) C) {f' fA fB : Nat → Bool} (h : PRn A B C f' fA fB) {a : Nat} (ha : (a : Int) < A.L) : PRn A B C (StpS C f' a) (StpS A fA a) (StpS B fB a) := by
  obtain ⟨hnd, hlt, hcl⟩ := gr_ok hg
  have hin : ∀ p, p ∈ (grB A B).R → ∀ m ∈ (grB A B).mv p a, m.1 ∈ (grB A B).R := fun p hp m hm => hcl p hp _ (List.mem_flatMap.2 ⟨a, List.mem_range.2 (by show a < A.L.toNat; omega), List.mem_map.2 ⟨m, hm, rfl⟩⟩)
  have hrow : ∀ p, p ∈ (grB A B).R → ∀ x, x ∈ rowM C (numN (grB A B).R p) a ↔ x ∈ (grB A B).ren ((grB A B).mv p a) := fun p hp => auto_row hT hp ha
  have hpi : ∀ p, p ∈ (grB A B).R → p / 2 / B.next.length < A.next.length ∧ p / 2 % B.next.length < B.next.length ∧ p % 2 < 2 := fun p hp => pidx (hlt p hp)
  refine ⟨fun q hq => ?_, fun x y hx hy => ?_⟩
  · rw [StpS, decide_eq_true_eq] at hq
    obtain ⟨i, m, h1, h2, h3, rfl⟩ := hq
    obtain ⟨p, hp, rfl, hfA, hfB⟩ := h.out i h2
    obtain ⟨m0, h5, rfl⟩ := List.mem_map.1 ((hrow p hp m).1 h3)
    obtain ⟨mx, hmx, h6⟩ := List.mem_flatMap.1 h5
    obtain ⟨my, hmy, rfl⟩ := List.mem_map.1 h6
    have r1 := mv_rng okA (hpi p hp).1 hmx
    have r2 := mv_rng okB (hpi p hp).2.1 hmy
    have hc := pc_nat (m := B.next.length) (x := mx.1.toNat) (y := my.1.toNat) (t := tn (p % 2) mx.2 my.2 % 2) (by omega) (Nat.mod_lt _ (by decide))
    refine ⟨_, hin p hp _ h5, by simp, ?_, ?_⟩
    · show StpS A fA a (pcode B.next.length mx.1.toNat my.1.toNat (tn (p % 2) mx.2 my.2 % 2) / 2 / B.next.length) = true
      rw [hc.1, StpS, decide_eq_true_eq]
      exact ⟨_, mx, (hpi p hp).1, hfA, hmx, rfl⟩
    · show StpS B fB a (pcode B.next.length mx.1.toNat my.1.toNat (tn (p % 2) mx.2 my.2 % 2) / 2 % B.next.length) = true
      rw [hc.2.1, StpS, decide_eq_true_eq]
      exact ⟨_, my, (hpi p hp).2.1, hfB, hmy, rfl⟩
  · rw [StpS, decide_eq_true_eq] at hx hy
    obtain ⟨x0, mx, a1, a2, a3, rfl⟩ := hx
    obtain ⟨y0, my, b1, b2, b3, rfl⟩ := hy
    obtain ⟨p, hp, hf, rfl, rfl⟩ := h.back x0 y0 a2 b2
    have r1 := mv_rng okA a1 a3
    have r2 := mv_rng okB b1 b3
    have hc := pc_nat (m := B.next.length) (x := mx.1.toNat) (y := my.1.toNat) (t := tn (p % 2) mx.2 my.2 % 2) (by omega) (Nat.mod_lt _ (by decide))
    have hm0 : pstep B.next.length (p % 2) mx my ∈ (grB A B).mv p a := List.mem_flatMap.2 ⟨mx, a3, List.mem_map.2 ⟨my, b3, rfl⟩⟩
    refine ⟨(pstep B.next.length (p % 2) mx my).1, hin p hp _ hm0, ?_, hc.1, hc.2.1⟩
    rw [StpS, decide_eq_true_eq]
    exact ⟨numN (grB A B).R p, _, by rw [hT.len]; exact numN_lt hp, hf, (hrow p hp _).2 (List.mem_map.2 ⟨_, hm0, rfl⟩), by simp⟩
theorem prn_run {A B C : Bu} (okA : Vb A) (okB : Vb B) (hL : A.L = B.L) {most : Int} (hg : GrfOk (grB A B) most) (hT : AutoR (grB A B) C) : ∀ (l : List Int) (f' fA fB : Nat → Bool), (∀ z ∈ l, 0 ≤ z ∧ z < A.L) → PRn A B C f' fA fB → PRn A B C (rnB C f' l) (rnB A fA l) (rnB B fB l) := by
  intro l
  induction l with
  | nil => intro f' fA fB _ h; exact h
  | cons z l ih =>
    intro f' fA fB hl h
    have hz := hl z (by simp)
    exact ih _ _ _ (fun y hy => hl y (by simp [hy])) (prn_step okA okB hL hg hT h (by omega))
theorem prn_start {A B C : Bu} (okA : Vb A) (okB : Vb B) (hT : AutoR (grB A B) C) : PRn A B C (stF C) (stF A) (stF B) := by
  have hst : ∀ {B : Bu}, Vb B → ∀ z ∈ B.start, 0 ≤ z ∧ z < B.next.length := fun {B} ok z hz => by
    obtain ⟨j, hj⟩ := List.mem_iff_getElem?.1 hz
    exact st_rng ok hj
  refine ⟨fun q hq => ?_, fun x y hx hy => ?_⟩
  · rw [stF, decide_eq_true_eq, hT.st] at hq
    obtain ⟨z, hz, rfl⟩ := hq
    obtain ⟨p, hp, rfl⟩ := List.mem_map.1 hz
    have hpR := st_in p hp
    obtain ⟨x, hx, h2⟩ := List.mem_flatMap.1 hp
    obtain ⟨y, hy, rfl⟩ := List.mem_map.1 h2
    have r2 := hst okB y hy
    have hc := pc_nat (m := B.next.length) (x := x.toNat) (y := y.toNat) (t := 0) (by omega) (by decide)
    refine ⟨_, hpR, by simp, ?_, ?_⟩
    · rw [hc.1, stF, decide_eq_true_eq]; exact ⟨x, hx, rfl⟩
    · rw [hc.2.1, stF, decide_eq_true_eq]; exact ⟨y, hy, rfl⟩
  · rw [stF, decide_eq_true_eq] at hx hy
    obtain ⟨x, hx, rfl⟩ := hx
    obtain ⟨y, hy, rfl⟩ := hy
    have r2 := hst okB y hy
    have hc := pc_nat (m := B.next.length) (x := x.toNat) (y := y.toNat) (t := 0) (by omega) (by decide)
    have hp : pcode B.next.length x.toNat y.toNat 0 ∈ (grB A B).st := List.mem_flatMap.2 ⟨x, hx, List.mem_map.2 ⟨y, hy, rfl⟩⟩
    refine ⟨_, st_in _ hp, ?_, hc.1, hc.2.1⟩
    rw [stF, decide_eq_true_eq, hT.st]
    exact ⟨_, List.mem_map.2 ⟨_, hp, rfl⟩, by simp⟩
theorem stF_lt {B : Bu} (ok : Vb B) : ∀ q, stF B q = true → q < B.next.length := by
  intro q hq
  rw [stF, decide_eq_true_eq] at hq
  obtain ⟨z, hz, rfl⟩ := hq
  obtain ⟨j, hj⟩ := List.mem_iff_getElem?.1 hz
  have := st_rng ok hj
  omega
theorem both_alive {A B C : Bu} (okA : Vb A) (okB : Vb B) (hL : A.L = B.L) {most : Int} (hg : GrfOk (grB A B) most) (hT : AutoR (grB A B) C) {l : List Int} (hl : ∀ z ∈ l, 0 ≤ z ∧ z < A.L) : Alive C l ↔ Alive A l ∧ Alive B l := by
  have h := prn_run okA okB hL hg hT l _ _ _ hl (prn_start okA okB hT)
  obtain ⟨hnd, hlt, hcl⟩ := gr_ok hg
  constructor
  · rintro ⟨q, h1, h2⟩
    obtain ⟨p, hp, rfl, h3, h4⟩ := h.out q h2
    have := pidx (hlt p hp)
    exact ⟨⟨_, this.1, h3⟩, ⟨_, this.2.1, h4⟩⟩
  · rintro ⟨⟨x, h1, h2⟩, ⟨y, h3, h4⟩⟩
    obtain ⟨p, hp, h5, _⟩ := h.back x y h2 h4
    exact ⟨_, by rw [hT.len]; exact numN_lt hp, h5⟩
theorem ei_row {A B : Bu} (q a : Nat) : rowM (eiB A B) q a = if q < A.next.length then rowM A q a else shM A.next.length (rowM B (q - A.next.length) a) := by
  unfold rowM eiB
  simp only
  by_cases h : q < A.next.length
  · rw [if_pos h, List.getD_eq_getElem?_getD (l := A.next ++ _), List.getElem?_append_left h, ← List.getD_eq_getElem?_getD]
  · rw [if_neg h, List.getD_eq_getElem?_getD (l := A.next ++ _), List.getElem?_append_right (by omega)]
    unfold shN
    rw [List.getElem?_map]
    cases hb : B.next[q - A.next.length]? with
    | none => simp [List.getD_eq_getElem?_getD, hb, shM]
    | some row =>
      simp only [Option.map_some, Option.getD_some, List.getD_eq_getElem?_getD, hb, List.getElem?_map]
      cases row[a]? <;> simp [shM]
theorem vb_ei {A B : Bu} (okA : Vb A) (okB : Vb B) (hL : A.L = B.L) (hs : A.next.length + B.next.length ≤ 3000) : Vb (eiB A B) := by
  have hlen : (eiB A B).next.length = A.next.length + B.next.length := by simp [eiB]
  refine ⟨okA.1, okA.2.1, by rw [hlen]; exact hs, fun k hk => ?_, fun i hi => ?_⟩
  · rw [hlen]
    have e1 : ∀ k, k < A.start.length → (eiB A B).start.getD k 0 = A.start.getD k 0 := fun k hk => by
      unfold eiB
      simp only
      rw [List.getD_eq_getElem?_getD, List.getElem?_append_left hk, ← List.getD_eq_getElem?_getD]
    have e2 : ∀ k, k < B.start.length → (eiB A B).start.getD (A.start.length + k) 0 = B.start.getD k 0 + (A.next.length : Int) := fun k hk => by
      unfold eiB
      simp only
      rw [List.getD_eq_getElem?_getD, List.getElem?_append_right (by omega), Nat.add_sub_cancel_left]
      simp [shS, List.getD_eq_getElem?_getD, hk]
    have hk' : k < A.start.length + B.start.length := by simpa [eiB] using hk
    by_cases h : k < A.start.length
    · have h1 := okA.2.2.2.1 k h
      rw [e1 k h]
      refine ⟨h1.1, by omega, fun h0 => ?_⟩
      rw [e1 (k - 1) (by omega)]
      exact h1.2.2 h0
    · obtain ⟨j, rfl⟩ : ∃ j, k = A.start.length + j := ⟨k - A.start.length, by omega⟩
      have hj : j < B.start.length := by omega
      have h1 := okB.2.2.2.1 j hj
      rw [e2 j hj]
      refine ⟨by omega, by omega, fun h0 => ?_⟩
      by_cases hj0 : j = 0
      · subst hj0
        have h2 := okA.2.2.2.1 (A.start.length - 1) (by omega)
        rw [show A.start.length + 0 - 1 = A.start.length - 1 by omega, e1 _ (by omega)]
        omega
      · rw [show A.start.length + j - 1 = A.start.length + (j - 1) by omega, e2 _ (by omega)]
        have := h1.2.2 (by omega)
        omega
  · have hi' : i < A.next.length + B.next.length := by rw [hlen] at hi; exact hi
    rw [hlen]
    have hLe : (eiB A B).L = A.L := rfl
    rw [hLe]
    by_cases h : i < A.next.length
    · have e : (eiB A B).next.getD i [] = A.next.getD i [] := by
        unfold eiB
        simp only
        rw [List.getD_eq_getElem?_getD, List.getElem?_append_left h, ← List.getD_eq_getElem?_getD]
      rw [e]
      obtain ⟨h1, h2⟩ := okA.2.2.2.2 i h
      refine ⟨h1, fun a ha k hk => ?_⟩
      have := h2 a ha k hk
      exact ⟨this.1, by omega, this.2.2⟩
    · have hb : i - A.next.length < B.next.length := by omega
      have e : (eiB A B).next.getD i [] = (B.next.getD (i - A.next.length) []).map (shM A.next.length) := by
        unfold eiB
        simp only
        rw [List.getD_eq_getElem?_getD, List.getElem?_append_right (by omega)]
        simp [shN, List.getD_eq_getElem?_getD, hb]
      rw [e]
      obtain ⟨h1, h2⟩ := okB.2.2.2.2 _ hb
      refine ⟨by rw [List.length_map, hL]; exact h1, fun a ha k hk => ?_⟩
      have ha' : a < (B.next.getD (i - A.next.length) []).length := by simpa using ha
      have e3 : ((B.next.getD (i - A.next.length) []).map (shM A.next.length)).getD a [] = shM A.next.length ((B.next.getD (i - A.next.length) []).getD a []) := by
        rw [List.getD_eq_getElem?_getD, List.getElem?_map, List.getElem?_eq_getElem ha', List.getD_eq_getElem?_getD (l := B.next.getD _ []), List.getElem?_eq_getElem ha']; rfl
      rw [e3] at hk ⊢
      rw [shM_length] at hk
      have hm := h2 a ha'
      generalize (B.next.getD (i - A.next.length) []).getD a [] = ms at *
      have e4 : ∀ k, k < ms.length → (shM A.next.length ms).getD k (0, false) = ((ms.getD k (0, false)).1 + (A.next.length : Int), (ms.getD k (0, false)).2) := fun k hk => by
        simp [shM, List.getD_eq_getElem?_getD, hk]
      have h3 := hm k hk
      rw [e4 k hk]
      refine ⟨by simp only; omega, by simp only; omega, fun h0 => ?_⟩
      rw [e4 (k - 1) (by omega)]
      rcases h3.2.2 h0 with h4 | ⟨h4, h5, h6⟩
      · exact .inl (by simp only; omega)
      · exact .inr ⟨by simp only; omega, h5, h6⟩
structure EIr (A B : Bu) (f' fA fB : Nat → Bool) : Prop where
  eq : ∀ q, f' q = true ↔ (q < A.next.length ∧ fA q = true) ∨ (A.next.length ≤ q ∧ fB (q - A.next.length) = true)
  lA : ∀ q, fA q = true → q < A.next.length
  lB : ∀ q, fB q = true → q < B.next.length
theorem ei_step {A B : Bu} (okA : Vb A) (okB : Vb B) {f' fA fB : Nat → Bool} (h : EIr A B f' fA fB) (a : Nat) : EIr A B (StpS (eiB A B) f' a) (StpS A fA a) (StpS B fB a) := by
  have hlen : (eiB A B).next.length = A.next.length + B.next.length := by simp [eiB]
  refine ⟨fun q => ?_, fun q hq => ?_, fun q hq => ?_⟩
  · simp only [StpS, decide_eq_true_eq]
    constructor
    · rintro ⟨p, m, h1, h2, h3, rfl⟩
      rw [ei_row] at h3
      rcases (h.eq p).1 h2 with ⟨h4, h5⟩ | ⟨h4, h5⟩
      · rw [if_pos h4] at h3
        have := mv_rng okA h4 h3
        exact .inl ⟨by omega, p, m, h4, h5, h3, rfl⟩
      · rw [if_neg (by omega)] at h3
        obtain ⟨m0, h6, rfl⟩ := List.mem_map.1 h3
        have := mv_rng okB (h.lB _ h5) h6
        refine .inr ⟨by simp only; omega, _, m0, h.lB _ h5, h5, h6, ?_⟩
        simp only
        omega
    · rintro (⟨h0, p, m, h1, h2, h3, rfl⟩ | ⟨h0, p, m, h1, h2, h3, h4⟩)
      · exact ⟨p, m, by omega, (h.eq p).2 (.inl ⟨h1, h2⟩), by rw [ei_row, if_pos h1]; exact h3, rfl⟩
      · have := mv_rng okB h1 h3
        refine ⟨p + A.next.length, (m.1 + (A.next.length : Int), m.2), by omega, (h.eq _).2 (.inr ⟨by omega, by rw [Nat.add_sub_cancel]; exact h2⟩), ?_, ?_⟩
        · rw [ei_row, if_neg (by omega), Nat.add_sub_cancel]
          exact List.mem_map.2 ⟨m, h3, rfl⟩
        · simp only
          omega
  · rw [StpS, decide_eq_true_eq] at hq; exact stp_lt okA hq
  · rw [StpS, decide_eq_true_eq] at hq; exact stp_lt okB hq
theorem ei_run {A B : Bu} (okA : Vb A) (okB : Vb B) : ∀ (l : List Int) (f' fA fB : Nat → Bool), EIr A B f' fA fB → EIr A B (rnB (eiB A B) f' l) (rnB A fA l) (rnB B fB l) := by
  intro l
  induction l with
  | nil => intro f' fA fB h; exact h
  | cons z l ih => intro f' fA fB h; exact ih _ _ _ (ei_step okA okB h _)
theorem ei_alive {A B : Bu} (okA : Vb A) (okB : Vb B) (l : List Int) : Alive (eiB A B) l ↔ Alive A l ∨ Alive B l := by
  have hlen : (eiB A B).next.length = A.next.length + B.next.length := by simp [eiB]
  have h0 : EIr A B (stF (eiB A B)) (stF A) (stF B) := by
    refine ⟨fun q => ?_, stF_lt okA, stF_lt okB⟩
    have hA := stF_lt okA
    have hB := stF_lt okB
    simp only [stF, decide_eq_true_eq] at hA hB ⊢
    constructor
    · rintro ⟨z, hz, rfl⟩
      rcases List.mem_append.1 (show z ∈ A.start ++ shS A.next.length B.start from hz) with hz | hz
      · exact .inl ⟨hA _ ⟨z, hz, rfl⟩, z, hz, rfl⟩
      · obtain ⟨y, hy, rfl⟩ := List.mem_map.1 hz
        obtain ⟨j, hj⟩ := List.mem_iff_getElem?.1 hy
        have := st_rng okB hj
        exact .inr ⟨by omega, y, hy, by omega⟩
    · rintro (⟨_, z, hz, rfl⟩ | ⟨h1, z, hz, h2⟩)
      · exact ⟨z, List.mem_append_left _ hz, rfl⟩
      · obtain ⟨j, hj⟩ := List.mem_iff_getElem?.1 hz
        have := st_rng okB hj
        exact ⟨z + (A.next.length : Int), List.mem_append_right _ (List.mem_map.2 ⟨z, hz, rfl⟩), by omega⟩
  have h := ei_run okA okB l _ _ _ h0
  constructor
  · rintro ⟨q, h1, h2⟩
    rcases (h.eq q).1 h2 with ⟨h3, h4⟩ | ⟨h3, h4⟩
    · exact .inl ⟨q, h3, h4⟩
    · exact .inr ⟨_, h.lB _ h4, h4⟩
  · rintro (⟨q, h1, h2⟩ | ⟨q, h1, h2⟩)
    · exact ⟨q, by omega, (h.eq q).2 (.inl ⟨h1, h2⟩)⟩
    · exact ⟨q + A.next.length, by omega, (h.eq _).2 (.inr ⟨by omega, by rw [Nat.add_sub_cancel]; exact h2⟩)⟩
end Go.Proofs.YtbdoggiabclkdaaGreatDoor
