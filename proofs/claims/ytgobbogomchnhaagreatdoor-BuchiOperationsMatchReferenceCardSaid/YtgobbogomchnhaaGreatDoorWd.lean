/- What a found turn says of the word: plain. -/
import Derived.Test.YtgobbogomchnhaaGreatDoorTurn
set_option linter.unusedSimpArgs false
set_option linter.unusedVariables false
namespace Go.Proofs.YtgobbogomchnhaaGreatDoor
open Go Go.Pv Go.Aut Go.Bfs
open Classical
theorem start_nat {B:Bu} (hok:Vb B) {z:Int} (hz:z∈B.start):(z.toNat:Int)=z∧z.toNat<B.next.length:=by
 obtain ⟨i,hi⟩:=List.mem_iff_getElem?.1 hz
 obtain ⟨h1,h2⟩:=List.getElem?_eq_some_iff.1 hi
 have:=hok.2.2.2.1 i h1
 have hg:B.start.getD i 0=z:=by rw [List.getD_eq_getElem?_getD,hi];rfl
 rw [hg] at this
 omega
end Go.Proofs.YtgobbogomchnhaaGreatDoor
