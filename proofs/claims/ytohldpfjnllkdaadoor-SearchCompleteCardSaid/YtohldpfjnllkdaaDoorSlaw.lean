/- What is found is accepted, and if something is accepted, something is found: plain. -/
import Derived.Test.YtohldpfjnllkdaaDoorSfind
import Derived.Test.YtohldpfjnllkdaaDoorAword
set_option linter.unusedSimpArgs false
set_option linter.unusedVariables false
namespace Go.Proofs.YtohldpfjnllkdaaDoor
open Go Go.Pv Go.Aut Go.Tarjan
open Classical
theorem zints_len (l : List Nat) : (zints l).length = l.length := by simp [zints]
theorem zints_getD (l : List Nat) (i : Nat) : (zints l).getD i 0 = ((l.getD i 0 : Nat) : Int) := by
  simp only [zints, List.getD_eq_getElem?_getD, List.getElem?_map]
  cases l[i]? <;> rfl
theorem lett_lw (S L : List Nat) (i : Nat) : (lett (zints S) (zints L) i).toNat = Fnd.lw S L i := by
  unfold lett Fnd.lw
  rw [zints_len, zints_len, zints_getD, zints_getD]
  split <;> simp
theorem hit_mv {B : Bu} {q a c : Nat} {m : Int × Bool} (h : (rowAt B q a)[c]? = some m) : (m.1.toNat, m.2) ∈ bmv B q a := by
  simp only [bmv]
  exact List.mem_map_of_mem (List.mem_of_getElem? h)
theorem find_acc {B : Bu} (hok : Vb B) {S L : List Nat} (h : FindR B S L true) (hn : B.next.length ≤ 40) : AW B (zints S) (zints L) := by
  have hbd := findR_bd hok h
  rcases h with ⟨_, k, a, c, x, m, l, h1, h2, h3, h4, h5, ⟨t, y, h6, h7, h8⟩, rfl⟩ | ⟨h, _⟩
  · obtain ⟨hRok, _, _⟩ := sall_ok hok (stN_lt hok)
    have hxn : x.1 < B.next.length := hRok.rng x (List.mem_of_getElem? h1)
    have hmm := hit_mv h2
    have hmn : m.1.toNat < B.next.length := bmv_lt hok _ _ hxn _ hmm
    obtain ⟨h9, _, _⟩ := sall_ok hok (from_ := [m.1.toNat]) (fun p hp => by rw [List.mem_singleton.1 hp]; exact hmn)
    obtain ⟨_, q, hq, hw⟩ := h5.walk hRok h1
    obtain ⟨_, q2, hq2, hw2⟩ := h8.walk h9 h6
    rw [List.mem_singleton.1 hq2, h7] at hw2
    have hm2 := h3.1
    rw [hm2] at hmm
    have hst : (q : Int) ∈ B.start := by
      obtain ⟨z, hz, rfl⟩ := List.mem_map.1 hq
      rw [(start_nat hok hz).1]; exact hz
    have hA := Fnd.acc_of_lasso (start := fun q => (q : Int) ∈ B.start) hst hw hmm hw2
    obtain ⟨b1, b2, b3, b4, b5⟩ := hbd
    have hL64 := hok.2.1
    have hall : ∀ (l : List Nat) (z : Int), (∀ x ∈ l, (x : Int) < z) → AllB (zints l) z := fun l z hz j hj => by
      rw [zints_len] at hj
      rw [zints_getD, List.getD_eq_getElem?_getD, List.getElem?_eq_getElem hj]
      have := hz _ (List.getElem_mem hj)
      simp only [Option.getD_some]
      omega
    refine ⟨hok, ⟨⟨?_, ?_, ?_, hall _ _ fun z hz => by have := b2 z hz; omega, hall _ _ fun z hz => by have := b4 z hz; omega⟩, hall _ _ fun z hz => by have := b2 z hz; omega, hall _ _ fun z hz => by have := b4 z hz; omega⟩, ?_⟩
    · rw [zints_len]
      rcases b1 with h | h
      · rw [h]; simp
      · omega
    · rw [zints_len]; simp
    · rw [zints_len]; omega
    · have : (fun i => (lett (zints S) (zints (a :: l)) i).toNat) = Fnd.lw S (a :: l) := funext fun i => lett_lw S (a :: l) i
      rw [this]
      exact hA
  · cases h
theorem lw_rch {B : Bu} (hok : Vb B) {q p : Nat} {l : List Nat} (h : Fnd.LW (bmv B) q l p) : Rch (nxB B) q p := by
  induction h with
  | nil => exact .refl _
  | @cons q r p a g l e _ ih =>
    refine .head ?_ ih
    exact List.mem_map.2 ⟨(r, (q : Int), a), Fnd.mem_sucs.2 ⟨blet hok _ _ _ e, rfl, g, e⟩, rfl⟩
theorem find_complete {B : Bu} (hok : Vb B) {S L : List Nat} {ok : Bool} (h : FindR B S L ok) {w : Nat → Nat} (hA : BAcc B w) : ok = true := by
  rcases h with ⟨h, _⟩ | ⟨_, _, _, hno⟩
  · exact h
  · exfalso
    obtain ⟨q, l, x, a, y, l', h1, h2, h3, h4⟩ := Fnd.acc_loop (n := B.next.length) (fun q hq => by have := (start_nat hok hq).2; simpa using this) (fun q a hq => bmv_lt hok q a hq) hA
    obtain ⟨hRok, hRcl, hRfr⟩ := sall_ok hok (stN_lt hok)
    have hqs : q ∈ stN B := List.mem_map.2 ⟨(q : Int), h1, by simp⟩
    have hx := Fnd.reach_all (n := 0) (from_ := []) (blet hok) hRcl h2 (hRfr q hqs)
    obtain ⟨e, he, hex⟩ := List.mem_map.1 hx
    obtain ⟨k, hk⟩ := List.mem_iff_getElem?.1 he
    have h3' := h3
    simp only [bmv] at h3
    obtain ⟨m, hm, hme⟩ := List.mem_map.1 h3
    obtain ⟨c, hc⟩ := List.mem_iff_getElem?.1 hm
    have h5 : m.1.toNat = y ∧ m.2 = true := by simpa using hme
    refine hno k a c e m (.inl (List.getElem?_eq_some_iff.1 hk).1) hk (by rw [hex]; exact hc) ⟨h5.2, ?_, ?_⟩
    · rw [h5.1, hex]; exact lw_rch hok h4
    · rw [h5.1, hex]; exact lw_rch hok (.cons h3' (.nil _))
end Go.Proofs.YtohldpfjnllkdaaDoor
