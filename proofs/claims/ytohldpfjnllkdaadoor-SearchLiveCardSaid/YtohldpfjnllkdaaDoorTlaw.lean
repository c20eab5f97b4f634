/- What is live, and that trimming keeps it: plain. -/
import Derived.Test.YtohldpfjnllkdaaDoorTauto
import Derived.Test.YtohldpfjnllkdaaDoorSfind
set_option linter.unusedSimpArgs false
set_option linter.unusedVariables false
namespace Go.Proofs.YtohldpfjnllkdaaDoor
open Go Go.Pv Go.Aut Go.Tarjan
open Classical
theorem nd_inj {α : Type} {l : List α} (h : l.Nodup) {i j : Nat} (hi : i < l.length) (hj : j < l.length) (e : l[i] = l[j]) : i = j := by
  rw [List.nodup_iff_pairwise_ne, List.pairwise_iff_getElem] at h
  rcases Nat.lt_trichotomy i j with h1 | h1 | h1
  · exact absurd e (h i j hi hj h1)
  · exact h1
  · exact absurd e.symm (h j i hj hi h1)
theorem getD_lt' {α : Type} {l : List α} {k : Nat} {d : α} (h : k < l.length) : l.getD k d = l[k] := by simp [List.getD_eq_getElem?_getD, h]
theorem mem_nxB {B : Bu} (hok : Vb B) {q p : Nat} : p ∈ nxB B q ↔ ∃ a g, (p, g) ∈ bmv B q a := by
  constructor
  · intro h
    obtain ⟨x, hx, rfl⟩ := List.mem_map.1 h
    obtain ⟨_, _, g, hg⟩ := Fnd.mem_sucs.1 hx
    exact ⟨_, g, hg⟩
  · rintro ⟨a, g, h⟩
    exact List.mem_map.2 ⟨(p, (q : Int), a), Fnd.mem_sucs.2 ⟨blet hok _ _ _ h, rfl, g, h⟩, rfl⟩
theorem rch_lw {B : Bu} (hok : Vb B) {q p : Nat} (h : Rch (nxB B) q p) : ∃ l, Fnd.LW (bmv B) q l p := by
  induction h with
  | refl u => exact ⟨[], .nil u⟩
  | head e _ ih =>
    obtain ⟨l, hl⟩ := ih
    obtain ⟨a, g, hm⟩ := (mem_nxB hok).1 e
    exact ⟨a :: l, .cons hm hl⟩
theorem lw_rch' {B : Bu} (hok : Vb B) {q p : Nat} {l : List Nat} (h : Fnd.LW (bmv B) q l p) : Rch (nxB B) q p := by
  induction h with
  | nil => exact .refl _
  | cons e _ ih => exact .head ((mem_nxB hok).2 ⟨_, _, e⟩) ih
def Ht (B : Bu) (u : Nat) : Prop := ∃ a v, (v, true) ∈ bmv B u a ∧ Rch (nxB B) v u
def Lvs (B : Bu) (q : Nat) : Prop := ∃ u, Rch (nxB B) q u ∧ Ht B u
def HasL (B : Bu) : Prop := ∃ q ∈ stN B, Lvs B q
theorem lvs_step {B : Bu} (hok : Vb B) (q : Nat) : Lvs B q ↔ ∃ a p g, (p, g) ∈ bmv B q a ∧ Lvs B p := by
  constructor
  · rintro ⟨u, hr, ht⟩
    cases hr with
    | refl =>
      obtain ⟨a, v, h1, h2⟩ := ht
      exact ⟨a, v, true, h1, q, h2, a, v, h1, h2⟩
    | head e k =>
      obtain ⟨a, g, hm⟩ := (mem_nxB hok).1 e
      exact ⟨a, _, g, hm, u, k, ht⟩
  · rintro ⟨a, p, g, hm, u, h1, h2⟩
    exact ⟨u, .head ((mem_nxB hok).2 ⟨a, g, hm⟩) h1, h2⟩
theorem find_iff {B : Bu} (hok : Vb B) {S L : List Nat} {ok : Bool} (h : FindR B S L ok) : ok = true ↔ HasL B := by
  obtain ⟨hRok, hRcl, hRfr⟩ := sall_ok hok (stN_lt hok)
  constructor
  · intro hk
    rcases h with ⟨_, k, a, c, x, m, l, h1, h2, h3, h4, h5, h6, h7⟩ | ⟨h, _⟩
    · obtain ⟨_, q, hq, hw⟩ := h5.walk hRok h1
      have hmm : (m.1.toNat, m.2) ∈ bmv B x.1 a := by
        simp only [bmv]
        exact List.mem_map_of_mem (List.mem_of_getElem? h2)
      rw [h3.1] at hmm
      exact ⟨q, hq, x.1, lw_rch' hok hw, a, _, hmm, h3.2.1⟩
    · rw [h] at hk; cases hk
  · rintro ⟨q, hq, u, h1, a, v, h2, h3⟩
    rcases h with ⟨h, _⟩ | ⟨_, _, _, hno⟩
    · exact h
    · exfalso
      obtain ⟨l, hl⟩ := rch_lw hok h1
      have hx := Fnd.reach_all (n := 0) (from_ := []) (blet hok) hRcl hl (hRfr q hq)
      obtain ⟨e, he, hex⟩ := List.mem_map.1 hx
      obtain ⟨k, hk⟩ := List.mem_iff_getElem?.1 he
      have h2' := h2
      simp only [bmv] at h2
      obtain ⟨m, hm, hme⟩ := List.mem_map.1 h2
      obtain ⟨c, hc⟩ := List.mem_iff_getElem?.1 hm
      have h5 : m.1.toNat = v ∧ m.2 = true := by simpa using hme
      refine hno k a c e m (.inl (List.getElem?_eq_some_iff.1 hk).1) hk (by rw [hex]; exact hc) ⟨h5.2, ?_, ?_⟩
      · rw [h5.1, hex]; exact h3
      · rw [h5.1, hex]; exact .one ((mem_nxB hok).2 ⟨a, true, h2'⟩)
theorem trim_row {B C : Bu} (hok : Vb B) (hT : TrimR B C) {p a : Nat} (hp : p ∈ trimR B) (ha : (a : Int) < B.L) : ((C.next.getD (numN (trimR B) p) []).getD a []).Perm (renM (trimR B) (rowM B p a)) := by
  have h1 := (hT.row _ (numN_lt hp)).2 a ha
  have h2 : (trimR B).getD (numN (trimR B) p) 0 = p := by rw [List.getD_eq_getElem?_getD, numN_get hp]; rfl
  rw [h2] at h1
  exact h1.1
theorem trim_mv {B C : Bu} (hok : Vb B) (hT : TrimR B C) {p a j : Nat} {g : Bool} (hp : p ∈ trimR B) : (j, g) ∈ bmv C (numN (trimR B) p) a ↔ ∃ q, q ∈ trimR B ∧ j = numN (trimR B) q ∧ (q, g) ∈ bmv B p a := by
  obtain ⟨hnd, hlt, hcl⟩ := trim_ok hok
  by_cases ha : (a : Int) < B.L
  · have hperm := trim_row hok hT hp ha
    simp only [bmv, List.mem_map]
    constructor
    · rintro ⟨m, hm, hme⟩
      have hm' := hperm.mem_iff.1 hm
      obtain ⟨x, hx, rfl⟩ := List.mem_map.1 hm'
      have e : numN (trimR B) x.1.toNat = j ∧ x.2 = g := by simpa using hme
      refine ⟨x.1.toNat, hcl p hp _ (List.mem_flatMap.2 ⟨a, List.mem_range.2 (by omega), List.mem_map.2 ⟨x, hx, rfl⟩⟩), e.1.symm, x, hx, by rw [e.2]⟩
    · rintro ⟨q, hq, rfl, x, hx, hxe⟩
      have e : x.1.toNat = q ∧ x.2 = g := by simpa using hxe
      refine ⟨((numN (trimR B) x.1.toNat : Int), x.2), hperm.mem_iff.2 (List.mem_map.2 ⟨x, hx, rfl⟩), ?_⟩
      rw [e.1, e.2]
      simp
  · have h1 := (hT.row _ (numN_lt hp)).1
    have h2 := (hok.2.2.2.2 p (hlt p hp)).1
    have e1 : (C.next.getD (numN (trimR B) p) []).getD a [] = [] := by rw [List.getD_eq_getElem?_getD, List.getElem?_eq_none (by omega)]; rfl
    have e2 : (B.next.getD p []).getD a [] = [] := by rw [List.getD_eq_getElem?_getD, List.getElem?_eq_none (by omega)]; rfl
    simp only [bmv, e1, e2, List.map_nil, List.not_mem_nil, false_iff]
    rintro ⟨q, _, _, h⟩
    exact h
theorem stN_in {B C : Bu} (hok : Vb B) (hT : TrimR B C) : ∀ p ∈ stN B, p ∈ trimR B := fun p hp => by
  have := stT_pre B B.start.length
  rw [List.take_length] at this
  exact this.mem (addsN_mem hp)
theorem addsN_nodup {B : Bu} (hok : Vb B) {ps l : List Nat} : (ps ++ l).Nodup → addsN ps l = ps ++ l := by
  clear hok
  induction l generalizing ps with
  | nil => intro _; simp [addsN]
  | cons p l ih =>
    intro h
    have hp : p ∉ ps := fun hp => by
      rw [List.nodup_append] at h
      exact h.2.2 p hp p (by simp) rfl
    have h1 : addN ps p = ps ++ [p] := by unfold addN; rw [if_neg hp]
    show addsN (addN ps p) l = _
    rw [h1, ih (by simpa using h)]
    simp
theorem sok_lt {n : Nat} {st : List Int} (h : SOK n st) : ∀ i j, i < j → j < st.length → st.getD i 0 < st.getD j 0 := by
  intro i j hij
  induction j with
  | zero => omega
  | succ j ih =>
    intro hj
    have h1 := (h (j + 1) hj).2.2 (by omega)
    rw [Nat.add_sub_cancel] at h1
    by_cases he : i = j
    · rw [he]; exact h1
    · have := ih (by omega) (by omega)
      omega
theorem stN_nd {B : Bu} (hok : Vb B) : (stN B).Nodup := by
  rw [List.nodup_iff_pairwise_ne, stN, List.pairwise_map, List.pairwise_iff_getElem]
  intro i j hi hj hij he
  have h1 := sok_lt hok.2.2.2.1 i j hij hj
  have p1 := (hok.2.2.2.1 i hi).1
  have ei : B.start.getD i 0 = B.start[i] := by simp [List.getD_eq_getElem?_getD, hi]
  have ej : B.start.getD j 0 = B.start[j] := by simp [List.getD_eq_getElem?_getD, hj]
  rw [ei] at p1
  rw [ei, ej] at h1
  omega
theorem num_start {B : Bu} (hok : Vb B) {k : Nat} (hk : k < B.start.length) : numN (trimR B) (B.start.getD k 0).toNat = k := by
  have hpre := stT_pre B B.start.length
  rw [List.take_length] at hpre
  have hnd := stN_nd hok
  have h1 : addsN [] (B.start.map Int.toNat) = stN B := by
    rw [addsN_nodup hok (B := B) (by simpa [stN] using hnd)]; rfl
  rw [h1] at hpre
  have hg : (stN B)[k]? = some (B.start.getD k 0).toNat := by
    simp [stN, List.getD_eq_getElem?_getD, hk]
  have hm := List.mem_of_getElem? hg
  rw [numN_pre hpre hm]
  have h2 := numN_get hm
  obtain ⟨a1, a2⟩ := List.getElem?_eq_some_iff.1 hg
  obtain ⟨b1, b2⟩ := List.getElem?_eq_some_iff.1 h2
  exact nd_inj hnd b1 a1 (b2.trans a2.symm)
theorem mlt_tri {x y : Int × Bool} (h : x ≠ y) (hn : ¬ mlt y x) : mlt x y := by
  obtain ⟨x1, x2⟩ := x
  obtain ⟨y1, y2⟩ := y
  unfold mlt at *
  simp only at *
  by_cases h1 : x1 < y1
  · exact .inl h1
  · by_cases h2 : y1 < x1
    · exact absurd (.inl h2) hn
    · have h3 : x1 = y1 := by omega
      subst h3
      cases x2 <;> cases y2 <;> simp at *
theorem vb_trim {B C : Bu} (hok : Vb B) (hT : TrimR B C) : Vb C := by
  obtain ⟨hnd, hlt, hcl⟩ := trim_ok hok
  have hlen := ai_len hok (Pre.refl (trimR B))
  have hn3 := hok.2.2.1
  refine ⟨by rw [hT.L]; exact hok.1, by rw [hT.L]; exact hok.2.1, by rw [hT.len]; omega, fun k hk => ?_, fun i hi => ?_⟩
  · rw [hT.st, List.length_map] at hk
    have e : ∀ k, k < B.start.length → C.start.getD k 0 = (k : Int) := fun k hk => by
      have : C.start.getD k 0 = (numN (trimR B) (B.start.getD k 0).toNat : Int) := by
        rw [hT.st]; simp [List.getD_eq_getElem?_getD, hk]
      rw [this, num_start hok hk]
    have hin : (B.start.getD k 0).toNat ∈ trimR B := stN_in hok hT _ (List.mem_map.2 ⟨B.start.getD k 0, by simp [List.getD_eq_getElem?_getD, hk], rfl⟩)
    have h1 := numN_lt hin
    rw [num_start hok hk] at h1
    rw [e k hk, hT.len]
    refine ⟨by omega, by omega, fun h0 => ?_⟩
    rw [e (k - 1) (by omega)]
    omega
  · rw [hT.len] at hi ⊢
    obtain ⟨p, hp⟩ : ∃ p, (trimR B)[i]? = some p := ⟨_, List.getElem?_eq_getElem hi⟩
    have hpm := List.mem_of_getElem? hp
    have hgd : (trimR B).getD i 0 = p := by rw [List.getD_eq_getElem?_getD, hp]; rfl
    obtain ⟨h1, h2⟩ := hT.row i hi
    rw [hT.L]
    refine ⟨h1, fun a ha => ?_⟩
    have haL : (a : Int) < B.L := by omega
    obtain ⟨h3, h4⟩ := h2 a haL
    rw [hgd] at h3
    have hrow := hok.2.2.2.2 p (hlt p hpm)
    have ha' : a < (B.next.getD p []).length := by have := hrow.1; omega
    have hmo : MOK B.next.length (rowM B p a) := hrow.2 a ha'
    have hinR : ∀ x ∈ rowM B p a, x.1.toNat ∈ trimR B := fun x hx =>
      hcl p hpm _ (List.mem_flatMap.2 ⟨a, List.mem_range.2 (by omega), List.mem_map.2 ⟨x, hx, rfl⟩⟩)
    have hnd' := h3.symm.nodup (renM_nodup (B := B) hmo hinR)
    intro k hk
    have hmem := h3.mem_iff.1 (List.getElem_mem hk)
    obtain ⟨x, hx, hxe⟩ := List.mem_map.1 hmem
    have hgk : ((C.next.getD i []).getD a []).getD k (0, false) = ((C.next.getD i []).getD a [])[k] := getD_lt' hk
    have hnl := numN_lt (hinR x hx)
    refine ⟨?_, ?_, fun h0 => ?_⟩
    · rw [hgk, ← hxe]; show (0 : Int) ≤ ((numN _ _ : Nat) : Int); omega
    · rw [hgk, ← hxe]; show ((numN _ _ : Nat) : Int) < _; omega
    · refine mlt_tri (fun he => ?_) (h4 (k - 1) k (by omega) hk)
      have hk1 : k - 1 < ((C.next.getD i []).getD a []).length := by omega
      have hgk1 : ((C.next.getD i []).getD a []).getD (k - 1) (0, false) = ((C.next.getD i []).getD a [])[k - 1] := getD_lt' hk1
      rw [hgk, hgk1] at he
      have := nd_inj hnd' hk hk1 he.symm
      omega
theorem trim_fwd {B C : Bu} (hok : Vb B) (hT : TrimR B C) {p q : Nat} (h : Rch (nxB B) p q) : p ∈ trimR B → q ∈ trimR B ∧ Rch (nxB C) (numN (trimR B) p) (numN (trimR B) q) := by
  have hokC := vb_trim hok hT
  obtain ⟨_, _, hcl⟩ := trim_ok hok
  induction h with
  | refl => exact fun hp => ⟨hp, .refl _⟩
  | head e _ ih =>
    intro hp
    obtain ⟨a, g, hm⟩ := (mem_nxB hok).1 e
    have haL := blet hok _ _ _ hm
    have hv := hcl _ hp _ (List.mem_flatMap.2 ⟨a, List.mem_range.2 haL, by
      simp only [bmv] at hm
      obtain ⟨x, hx, hxe⟩ := List.mem_map.1 hm
      exact List.mem_map.2 ⟨x, hx, by have := congrArg Prod.fst hxe; simpa using this⟩⟩)
    obtain ⟨h1, h2⟩ := ih hv
    exact ⟨h1, .head ((mem_nxB hokC).2 ⟨a, g, (trim_mv hok hT hp).2 ⟨_, hv, rfl, hm⟩⟩) h2⟩
theorem trim_bwd {B C : Bu} (hok : Vb B) (hT : TrimR B C) {i j : Nat} (h : Rch (nxB C) i j) : ∀ p, p ∈ trimR B → i = numN (trimR B) p → ∃ q, q ∈ trimR B ∧ j = numN (trimR B) q ∧ Rch (nxB B) p q := by
  have hokC := vb_trim hok hT
  induction h with
  | refl u => exact fun p hp e => ⟨p, hp, e, .refl _⟩
  | head e _ ih =>
    rintro p hp rfl
    obtain ⟨a, g, hm⟩ := (mem_nxB hokC).1 e
    obtain ⟨q, hq, hqe, hqm⟩ := (trim_mv hok hT hp).1 hm
    obtain ⟨r, hr, hre, hrr⟩ := ih q hq hqe
    exact ⟨r, hr, hre, .head ((mem_nxB hok).2 ⟨a, g, hqm⟩) hrr⟩
theorem trim_hasL {B C : Bu} (hok : Vb B) (hT : TrimR B C) : HasL C ↔ HasL B := by
  have hst : stN C = (stN B).map (numN (trimR B)) := by
    unfold stN
    rw [hT.st, List.map_map, List.map_map]
    exact List.map_congr_left fun z _ => by simp
  constructor
  · rintro ⟨i, hi, u, h1, a, v, h2, h3⟩
    rw [hst] at hi
    obtain ⟨p, hp, rfl⟩ := List.mem_map.1 hi
    have hpR := stN_in hok hT p hp
    obtain ⟨q, hq, rfl, hpq⟩ := trim_bwd hok hT h1 p hpR rfl
    obtain ⟨r, hr, rfl, hrm⟩ := (trim_mv hok hT hq).1 h2
    obtain ⟨q', hq', he, hrq⟩ := trim_bwd hok hT h3 r hr rfl
    have := numN_inj hq hq' he
    subst this
    exact ⟨p, hp, q, hpq, a, r, hrm, hrq⟩
  · rintro ⟨p, hp, u, h1, a, v, h2, h3⟩
    have hpR := stN_in hok hT p hp
    obtain ⟨hu, h4⟩ := trim_fwd hok hT h1 hpR
    have hv := (trim_fwd hok hT (.one ((mem_nxB hok).2 ⟨a, true, h2⟩)) hu).1
    obtain ⟨_, h5⟩ := trim_fwd hok hT h3 hv
    exact ⟨_, by rw [hst]; exact List.mem_map_of_mem hp, _, h4, a, _, (trim_mv hok hT hu).2 ⟨v, hv, rfl, h2⟩, h5⟩
end Go.Proofs.YtohldpfjnllkdaaDoor
