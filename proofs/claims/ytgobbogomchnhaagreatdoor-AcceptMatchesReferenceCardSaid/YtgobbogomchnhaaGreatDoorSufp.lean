/- The letters after the first one: plain. -/
import Derived.Test.YtgobbogomchnhaaGreatDoorWod
import Derived.Test.YtgobbogomchnhaaGreatDoorNewtrack
import Derived.Test.YtgobbogomchnhaaGreatDoorSuf
set_option linter.unusedSimpArgs false
set_option linter.unusedVariables false
section
set_option linter.unusedSimpArgs false
set_option linter.unusedVariables false
namespace Go.Proofs.YtgobbogomchnhaaGreatDoor
open Go Go.Pv
open Classical
theorem _root_.List.getD_mem {l:List Int} {j:Nat} (h:j<l.length):l.getD j 0∈l:=by
 rw [List.getD_eq_getElem?_getD,List.getElem?_eq_getElem h]
 exact List.getElem_mem h
theorem AllB.mem {l:List Int} {m:Int} (h:AllB l m) {x:Int} (hx:x∈l):0≤x∧x<m:=by
 obtain ⟨i,hi⟩:=List.mem_iff_getElem?.1 hx
 have:=h i (List.getElem?_eq_some_iff.1 hi).1
 rwa [List.getD_eq_getElem?_getD,hi] at this
theorem AllB.of {l:List Int} {m:Int} (h:∀ x∈l,0≤x∧x<m):AllB l m:=fun j hj=>h _ (List.getD_mem hj)
theorem Fm.sub {S L S' L':List Int} (h:Fm S L) (g1:S'.length≤S.length) (g2:1≤L'.length) (g3:L'.length≤L.length) (g4:∀ x∈S',x∈S∨x∈L) (g5:∀ x∈L',x∈L):Fm S' L' :=
 ⟨Nat.le_trans g1 h.1,g2,Nat.le_trans g3 h.2.2.1,AllB.of fun x hx=>by
  rcases g4 x hx with k | k
  ·exact h.2.2.2.1.mem k
  ·exact h.2.2.2.2.mem k,AllB.of fun x hx=>h.2.2.2.2.mem (g5 x hx)⟩
end Go.Proofs.YtgobbogomchnhaaGreatDoor
end
section
set_option linter.unusedSimpArgs false
set_option linter.unusedVariables false
namespace Go.Proofs.YtgobbogomchnhaaGreatDoor
open Go Go.Pv Go.Aut
open Classical
theorem getD_in {α:Type} {l:List α} {k:Nat} {d:α} (h:k<l.length):l.getD k d∈l:=by
 rw [List.getD_eq_getElem?_getD,List.getElem?_eq_getElem h]
 exact List.getElem_mem h
def mvs (B:Bu) (p a:Int):Moves:=(B.next.getD p.toNat []).getD a.toNat []
end Go.Proofs.YtgobbogomchnhaaGreatDoor
end
