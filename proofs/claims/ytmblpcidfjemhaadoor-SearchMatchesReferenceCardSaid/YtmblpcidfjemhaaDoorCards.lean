/-
  DERIVED. GIVEN WITH THE SEED: THE CARDS: each row of YtmblpcidfjemhaaDoorRows.lean that lists a variable, with what it lists TIED to the program's text (the seventh form; the later family's looks); each row that meets fmt, with fmt's text TOLD by the authors' own Lean function (tested against real Go, not proved from fmt's source: count such statements apart). THE CARD IS WHAT COUNTS. Prove the row's statement (the work); the ties are given (YtmblpcidfjemhaaDoorTie.lean); close each card by the builder's one call (the guide's Derived/Test/ToyasCard.lean, 'card_holds'). Laid BY PROGRAM, IN A SANDBOX (cutbox-door.mjs). By AI agents, Wed Nov 11 2026. No macro, syntax, notation, axiom, sorry.
-/
import Derived.Test.YtmblpcidfjemhaaDoorRows
import GoSem.ClaimSeven
namespace Go.Proofs.YtmblpcidfjemhaaDoor
namespace Rows

/-- THE TIED CARD OF 'foresightlaw15.SearchMatchesReference'. -/
def searchMatchesReferenceCard : Claim7 := { stood := { row := searchMatchesReferenceRow, standIns := [], harness := (true, "6e463c9b79271157aaaaae318cd6a40601c5f7bf18b8051b22792aa0369c1275"), looks := false }, kinds := [], alts := [], laidByText := true, laidKinds := [.data], laidTests := true, laidLooks := .later }
def SearchMatchesReferenceCardSaid : Prop := Claim7.holds Tryd.pinned (.plain (OpenSpec.ofChange searchMatchesReferenceSpec)) searchMatchesReferenceCard

/-- THE SECOND FORM's CARD OF 'foresightlaw15.SearchMatchesReference'. -/
def searchMatchesReferenceUptoCard : Claim7 := { stood := { row := searchMatchesReferenceUptoRow, standIns := [], harness := (true, "6e463c9b79271157aaaaae318cd6a40601c5f7bf18b8051b22792aa0369c1275"), looks := false }, kinds := [], alts := [], laidByText := true, laidKinds := [.data], laidTests := true, laidLooks := .later }
def SearchMatchesReferenceUptoCardSaid : Prop := Claim7.holds Tryd.pinned (.plain (OpenSpec.upto searchMatchesReferenceSpec)) searchMatchesReferenceUptoCard
end Rows
end Go.Proofs.YtmblpcidfjemhaaDoor
