/- What a run is, computed: plain. -/
import Derived.Test.YthcllhhldknkmaaGreatDoorChkl
set_option linter.unusedSimpArgs false
set_option linter.unusedVariables false
namespace Go.Proofs.YthcllhhldknkmaaGreatDoor
open Go Go.Pv Go.Aut Go.Bfs
open Classical
theorem Turned.uniq {B : Bu} {ls : List Nat} {bk : Nat} {ps : List Pl} {x y x' y' : Pl} {ok ok' : Bool} (h : Turned B ls bk ps x y ok) (k : Turned B ls bk ps x' y' ok') : x = x' ∧ y = y' ∧ ok = ok' := by
  rcases h with ⟨rfl, i, j, m, a1, a2, a3, a4, a5⟩ | ⟨rfl, a1, a2, a3⟩ <;> rcases k with ⟨rfl, i', j', m', b1, b2, b3, b4, b5⟩ | ⟨rfl, b1, b2, b3⟩
  · have h1 : ¬ (i' < i ∨ i' = i ∧ j' < j) := fun hh => a5 i' j' x' m' hh b1 b2 b3
    have h2 : ¬ (i < i' ∨ i = i' ∧ j < j') := fun hh => b5 i j x m hh a1 a2 a3
    have e1 : i = i' := by omega
    have e2 : j = j' := by omega
    subst e1
    subst e2
    rw [a1] at b1
    cases b1
    rw [a2] at b2
    cases b2
    exact ⟨rfl, a4.trans b4.symm, rfl⟩
  · exact absurd a3 (b3 i j x m a1 a2)
  · exact absurd b3 (a3 i' j' x' m' b1 b2)
  · exact ⟨a1.trans b1.symm, a2.trans b2.symm, rfl⟩
def RunD (B : Bu) (ls : List Nat) (bk : Nat) (P Q : List Nat) (ok : Bool) : Prop :=
  ∃ x y, Turned B ls bk ((srun B ls bk (firsts B)).map (·.1)) x y ok ∧ (ok = true → P = wayS (srun B ls bk (firsts B)) x ∧ Q = x.2 :: wayS (srun B ls bk [y]) x) ∧ (ok = false → P = [] ∧ Q = [])
theorem RunD.uniq {B : Bu} {ls : List Nat} {bk : Nat} {P Q P' Q' : List Nat} {ok ok' : Bool} (h : RunD B ls bk P Q ok) (k : RunD B ls bk P' Q' ok') : P = P' ∧ Q = Q' ∧ ok = ok' := by
  obtain ⟨x, y, h1, h2, h3⟩ := h
  obtain ⟨x', y', k1, k2, k3⟩ := k
  obtain ⟨rfl, rfl, rfl⟩ := h1.uniq k1
  cases ok with
  | true => exact ⟨(h2 rfl).1.trans (k2 rfl).1.symm, (h2 rfl).2.trans (k2 rfl).2.symm, rfl⟩
  | false => exact ⟨(h3 rfl).1.trans (k3 rfl).1.symm, (h3 rfl).2.trans (k3 rfl).2.symm, rfl⟩
theorem turned_in {B : Bu} {ls : List Nat} {bk : Nat} (hok : Vb B) (hbk : bk < ls.length) (hlet : ∀ i, i < ls.length → (ls.getD i 0 : Int) < B.L) {x y : Pl}
    (h : Turned B ls bk ((srun B ls bk (firsts B)).map (·.1)) x y true) : x ∈ (srun B ls bk (firsts B)).map (·.1) ∧ InT B ls x ∧ InT B ls y ∧ (∃ m, m ∈ bms B ls x ∧ m.2 = true ∧ y = (tkOf B ls bk).after x (nat2 m)) ∧ x ∈ (srun B ls bk [y]).map (·.1) := by
  have hpos : 0 < ls.length := by omega
  obtain ⟨h1, h2, h3⟩ := srun_ok hok hbk hlet (firsts_in hok hpos)
  rcases h with ⟨_, i, k, m, hi, hk, hh, hy, _⟩ | ⟨h, _⟩
  · have hx := List.mem_of_getElem? hi
    have hxi : InT B ls x := by
      obtain ⟨z, hz, rfl⟩ := List.mem_map.1 hx
      exact h1.rng z hz
    have hm := List.mem_of_getElem? hk
    have hyi : InT B ls y := by
      refine inT_succ hok hbk hlet hxi _ (Tk.mem_succ.2 ⟨nat2 m, ?_, hy.symm⟩)
      rw [moves_map]
      exact List.mem_map_of_mem hm
    obtain ⟨k1, k2, k3⟩ := srun_ok (from_ := [y]) hok hbk hlet (fun p hp => by rw [List.mem_singleton.1 hp]; exact hyi)
    obtain ⟨g, a, ha⟩ := hh
    rw [← hy] at ha
    exact ⟨hx, hxi, hyi, ⟨m, hm, g, hy⟩, (found_iff k1 k2 k3 x).2 ⟨y, List.mem_singleton.2 rfl, a, ha⟩⟩
  · cases h
theorem wayS_len {B : Bu} {ls : List Nat} {bk : Nat} (hok : Vb B) (hbk : bk < ls.length) (hlet : ∀ i, i < ls.length → (ls.getD i 0 : Int) < B.L) {from_ : List Pl} (hin : ∀ p ∈ from_, InT B ls p) {x : Pl} (hx : x ∈ (srun B ls bk from_).map (·.1)) :
    (wayS (srun B ls bk from_) x).length ≤ ls.length * B.next.length := by
  obtain ⟨h1, _, _⟩ := srun_ok hok hbk hlet hin
  obtain ⟨l, e, _, hl, _⟩ := wayS_ok h1 hx
  have := inT_len h1.nd fun x hx => by obtain ⟨y, hy, rfl⟩ := List.mem_map.1 hx; exact h1.rng y hy
  rw [List.length_map] at this
  rw [e, List.length_map]
  omega
theorem RunD.ck {B : Bu} {S L : List Int} {ls : List Nat} {bk : Nat} (hok : Vb B) (hbk : bk < ls.length) (hbig : ls.length ≤ 200) (hlet : ∀ i, i < ls.length → (ls.getD i 0 : Int) < B.L) (hfm : Fm S L ∧ AllB S B.L ∧ AllB L B.L)
    (hw : ∀ i, ((tkOf B ls bk).word i : Int) = lett S L i) {P Q : List Nat} {ok : Bool} (h : RunD B ls bk P Q ok) :
    (ok = true → CK B S L (zints P) (zints Q)) ∧ (ok = false → P = [] ∧ Q = [] ∧ ¬ AW B S L) ∧ P.length ≤ 600000 ∧ Q.length ≤ 600001 := by
  obtain ⟨x, y, h1, h2, h3⟩ := h
  have hpos : 0 < ls.length := by omega
  have hNb : ls.length * B.next.length ≤ 600000 := by
    have : ls.length * B.next.length ≤ 200 * 3000 := Nat.mul_le_mul hbig hok.2.2.1
    omega
  cases ok with
  | true =>
    obtain ⟨rfl, rfl⟩ := h2 rfl
    obtain ⟨a1, a2, a3, ⟨m, a4, a5, a6⟩, a7⟩ := turned_in hok hbk hlet h1
    obtain ⟨k1, _, _⟩ := srun_ok hok hbk hlet (firsts_in hok hpos)
    obtain ⟨g1, _, _⟩ := srun_ok (from_ := [y]) hok hbk hlet (fun p hp => by rw [List.mem_singleton.1 hp]; exact a3)
    have b1 := wayS_len hok hbk hlet (firsts_in hok hpos) a1
    have b2 := wayS_len hok hbk hlet (from_ := [y]) (fun p hp => by rw [List.mem_singleton.1 hp]; exact a3) a7
    obtain ⟨l1, e1, w1, _, _⟩ := wayS_ok k1 a1
    obtain ⟨l2, e2, w2, _, _⟩ := wayS_ok g1 a7
    refine ⟨fun _ => ?_, (fun h => by cases h), by omega, by rw [List.length_cons]; omega⟩
    rw [e1, e2]
    exact run_ck hok hbk hlet hfm hw a2 a4 a5 a6 w1 w2
  | false =>
    obtain ⟨rfl, rfl⟩ := h3 rfl
    refine ⟨(fun h => by cases h), fun _ => ⟨rfl, rfl, fun hA => ?_⟩, by simp, by simp⟩
    have h4 := turned_iff hok hpos hbk hlet h1
    have h5 : (tkOf B ls bk).word = fun i => (lett S L i).toNat := funext fun i => by rw [← hw i]; rfl
    rw [h5] at h4
    exact Bool.false_ne_true (h4.2 hA.2.2)
end Go.Proofs.YthcllhhldknkmaaGreatDoor
