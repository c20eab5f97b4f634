/- Runs found, words accepted, paths that are runs: plain. -/
import Derived.Test.YthcllhhldknkmaaGreatDoorRunl
import Derived.Test.YthcllhhldknkmaaGreatDoorNewtrack
set_option linter.unusedSimpArgs false
set_option linter.unusedVariables false
namespace Go.Proofs.YthcllhhldknkmaaGreatDoor
open Go Go.Pv Go.Aut Go.Bfs
open Classical
def RunA (B : Bu) (S L : List Int) (P Q : List Nat) (ok : Bool) : Prop :=
  (¬ (Vb B ∧ Fm S L ∧ AllB S B.L ∧ AllB L B.L) ∧ P = [] ∧ Q = [] ∧ ok = false) ∨
  ((Vb B ∧ Fm S L ∧ AllB S B.L ∧ AllB L B.L) ∧ ∃ sl' ll' ls, Nrm S L sl' ll' ∧ ls = (sl' ++ ll').map Int.toNat ∧ sl'.length < ls.length ∧ ls.length ≤ 200 ∧ (∀ i, i < ls.length → (ls.getD i 0 : Int) < B.L) ∧ (∀ i, ((tkOf B ls sl'.length).word i : Int) = lett S L i) ∧ RunD B ls sl'.length P Q ok)
theorem RunA.facts {B : Bu} {S L : List Int} {P Q : List Nat} {ok : Bool} (h : RunA B S L P Q ok) : ok = decide (AW B S L) ∧ ok = decide (CK B S L (zints P) (zints Q)) ∧ (ok = false → P = [] ∧ Q = []) ∧ P.length ≤ 600000 ∧ Q.length ≤ 600001 := by
  rcases h with ⟨h1, rfl, rfl, rfl⟩ | ⟨⟨hv, hfm⟩, sl', ll', ls, hn, hls, hbk, hbig, hlet, hw, hD⟩
  · exact ⟨(decide_eq_false fun h => h1 ⟨h.1, h.2.1⟩).symm, (decide_eq_false fun h => absurd h.q1 (by simp [zints])).symm, fun _ => ⟨rfl, rfl⟩, by simp, by simp⟩
  · obtain ⟨a, b, c, d⟩ := hD.ck hv hbk hbig hlet hfm hw
    cases ok with
    | true =>
      have hc := a rfl
      exact ⟨(decide_eq_true (ck_acc hc)).symm, (decide_eq_true hc).symm, (fun h => by cases h), c, d⟩
    | false =>
      obtain ⟨e1, e2, e3⟩ := b rfl
      exact ⟨(decide_eq_false e3).symm, (decide_eq_false fun h => e3 (ck_acc h)).symm, fun _ => ⟨e1, e2⟩, c, d⟩
theorem RunA.same {B : Bu} {S L S' L' : List Int} {P Q P' Q' : List Nat} {ok ok' : Bool} (h : RunA B S L P Q ok) (k : RunA B S' L' P' Q' ok') (hr : Vb B ∧ Fm S L ∧ AllB S B.L ∧ AllB L B.L) (hr' : Vb B ∧ Fm S' L' ∧ AllB S' B.L ∧ AllB L' B.L) {a b : List Int} (hs : Nrm S L a b) (hs' : Nrm S' L' a b) : P = P' ∧ Q = Q' ∧ ok = ok' := by
  rcases h with ⟨h1, _⟩ | ⟨_, sl', ll', ls, hn, hls, _, _, _, _, hD⟩
  · exact absurd hr h1
  rcases k with ⟨k1, _⟩ | ⟨_, tl', ml', ms, kn, kls, _, _, _, _, kD⟩
  · exact absurd hr' k1
  obtain ⟨rfl, rfl⟩ := hn.uniq hs
  obtain ⟨rfl, rfl⟩ := kn.uniq hs'
  subst hls
  subst kls
  exact hD.uniq kD
end Go.Proofs.YthcllhhldknkmaaGreatDoor
