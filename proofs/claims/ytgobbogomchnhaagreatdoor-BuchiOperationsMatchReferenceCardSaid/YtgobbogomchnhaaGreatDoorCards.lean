/-
  DERIVED. GIVEN WITH THE SEED: THE CARDS: each row of YtgobbogomchnhaaGreatDoorRows.lean that lists a variable, with what it lists TIED to the program's text (the seventh form; the later family's looks); each row that meets fmt, with fmt's text TOLD by the authors' own Lean function (tested against real Go, not proved from fmt's source: count such statements apart). THE CARD IS WHAT COUNTS. Prove the row's statement (the work); the ties are given (YtgobbogomchnhaaGreatDoorTie.lean); close each card by the builder's one call (the guide's Derived/Test/ToyasCard.lean, 'card_holds'). Laid BY PROGRAM, IN A SANDBOX (cutbox-door.mjs). By AI agents, Wed Nov 11 2026. No macro, syntax, notation, axiom, sorry.
-/
import Derived.Test.YtgobbogomchnhaaGreatDoorRows
import GoSem.ClaimSeven
namespace Go.Proofs.YtgobbogomchnhaaGreatDoor
namespace Rows

/-- THE TIED CARD OF 'foresightlaw13.BuchiOperationsMatchReference'. -/
def buchiOperationsMatchReferenceCard : Claim7 := { stood := { row := buchiOperationsMatchReferenceRow, standIns := [], harness := (true, "efd383d4bd976fd76d855c2173f687e2aff9a7a842c5f079cadd446ac97231c4"), looks := false }, kinds := [], alts := [], laidByText := true, laidKinds := [.data, .data, .data], laidTests := true, laidLooks := .later }
def BuchiOperationsMatchReferenceCardSaid : Prop := Claim7.holds Tryz.pinned (.plain (OpenSpec.ofChange buchiOperationsMatchReferenceSpec)) buchiOperationsMatchReferenceCard

/-- THE TIED CARD OF 'foresightlaw14.AcceptMatchesReference'. -/
def acceptMatchesReferenceCard : Claim7 := { stood := { row := acceptMatchesReferenceRow, standIns := [], harness := (true, "efd383d4bd976fd76d855c2173f687e2aff9a7a842c5f079cadd446ac97231c4"), looks := false }, kinds := [], alts := [], laidByText := true, laidKinds := [.data, .data, .data], laidTests := true, laidLooks := .later }
def AcceptMatchesReferenceCardSaid : Prop := Claim7.holds Tryz.pinned (.plain (OpenSpec.ofChange acceptMatchesReferenceSpec)) acceptMatchesReferenceCard

/-- THE SECOND FORM's CARD OF 'foresightlaw13.BuchiOperationsMatchReference'. -/
def buchiOperationsMatchReferenceUptoCard : Claim7 := { stood := { row := buchiOperationsMatchReferenceUptoRow, standIns := [], harness := (true, "efd383d4bd976fd76d855c2173f687e2aff9a7a842c5f079cadd446ac97231c4"), looks := false }, kinds := [], alts := [], laidByText := true, laidKinds := [.data, .data, .data], laidTests := true, laidLooks := .later }
def BuchiOperationsMatchReferenceUptoCardSaid : Prop := Claim7.holds Tryz.pinned (.plain (OpenSpec.upto buchiOperationsMatchReferenceSpec)) buchiOperationsMatchReferenceUptoCard

/-- THE SECOND FORM's CARD OF 'foresightlaw14.AcceptMatchesReference'. -/
def acceptMatchesReferenceUptoCard : Claim7 := { stood := { row := acceptMatchesReferenceUptoRow, standIns := [], harness := (true, "efd383d4bd976fd76d855c2173f687e2aff9a7a842c5f079cadd446ac97231c4"), looks := false }, kinds := [], alts := [], laidByText := true, laidKinds := [.data, .data, .data], laidTests := true, laidLooks := .later }
def AcceptMatchesReferenceUptoCardSaid : Prop := Claim7.holds Tryz.pinned (.plain (OpenSpec.upto acceptMatchesReferenceSpec)) acceptMatchesReferenceUptoCard
end Rows
end Go.Proofs.YtgobbogomchnhaaGreatDoor
