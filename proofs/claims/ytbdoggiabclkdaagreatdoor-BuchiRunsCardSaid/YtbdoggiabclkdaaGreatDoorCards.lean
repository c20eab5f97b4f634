/-
  DERIVED. GIVEN WITH THE SEED: THE CARDS: each row of YtbdoggiabclkdaaGreatDoorRows.lean that lists a variable, with what it lists TIED to the program's text (the seventh form; the later family's looks); each row that meets fmt, with fmt's text TOLD by the authors' own Lean function (tested against real Go, not proved from fmt's source: count such statements apart). THE CARD IS WHAT COUNTS. Prove the row's statement (the work); the ties are given (YtbdoggiabclkdaaGreatDoorTie.lean); close each card by the builder's one call (the guide's Derived/Test/ToyasCard.lean, 'card_holds'). Laid BY PROGRAM, IN A SANDBOX (cutbox-door.mjs). By AI agents, Wed Nov 11 2026. No macro, syntax, notation, axiom, sorry.
-/
import Derived.Test.YtbdoggiabclkdaaGreatDoorRows
import GoSem.ClaimSeven
namespace Go.Proofs.YtbdoggiabclkdaaGreatDoor
namespace Rows

/-- THE TIED CARD OF 'foresightlaw13.BuchiOperationsMatchReference'. -/
def buchiOperationsMatchReferenceCard : Claim7 := { stood := { row := buchiOperationsMatchReferenceRow, standIns := [], harness := (true, "94ca550068ae22cafb7bbd8147d9401ad5262513b1ec81b945193bdfa956e8cf"), looks := false }, kinds := [], alts := [], laidByText := true, laidKinds := [.data, .data, .data], laidTests := true, laidLooks := .later }
def BuchiOperationsMatchReferenceCardSaid : Prop := Claim7.holds Tryz.pinned (.plain (OpenSpec.ofChange buchiOperationsMatchReferenceSpec)) buchiOperationsMatchReferenceCard

/-- THE TIED CARD OF 'foresightlaw13.BuchiRuns'. -/
def buchiRunsCard : Claim7 := { stood := { row := buchiRunsRow, standIns := [], harness := (true, "94ca550068ae22cafb7bbd8147d9401ad5262513b1ec81b945193bdfa956e8cf"), looks := false }, kinds := [], alts := [], laidByText := true, laidKinds := [.data, .data, .data], laidTests := true, laidLooks := .later }
def BuchiRunsCardSaid : Prop := Claim7.holds Tryz.pinned (.plain (OpenSpec.ofChange buchiRunsSpec)) buchiRunsCard

/-- THE TIED CARD OF 'foresightlaw13.BuchiTrim'. -/
def buchiTrimCard : Claim7 := { stood := { row := buchiTrimRow, standIns := [], harness := (true, "94ca550068ae22cafb7bbd8147d9401ad5262513b1ec81b945193bdfa956e8cf"), looks := false }, kinds := [], alts := [], laidByText := true, laidKinds := [.data, .data, .data], laidTests := true, laidLooks := .later }
def BuchiTrimCardSaid : Prop := Claim7.holds Tryz.pinned (.plain (OpenSpec.ofChange buchiTrimSpec)) buchiTrimCard

/-- THE SECOND FORM's CARD OF 'foresightlaw13.BuchiOperationsMatchReference'. -/
def buchiOperationsMatchReferenceUptoCard : Claim7 := { stood := { row := buchiOperationsMatchReferenceUptoRow, standIns := [], harness := (true, "94ca550068ae22cafb7bbd8147d9401ad5262513b1ec81b945193bdfa956e8cf"), looks := false }, kinds := [], alts := [], laidByText := true, laidKinds := [.data, .data, .data], laidTests := true, laidLooks := .later }
def BuchiOperationsMatchReferenceUptoCardSaid : Prop := Claim7.holds Tryz.pinned (.plain (OpenSpec.upto buchiOperationsMatchReferenceSpec)) buchiOperationsMatchReferenceUptoCard

/-- THE SECOND FORM's CARD OF 'foresightlaw13.BuchiRuns'. -/
def buchiRunsUptoCard : Claim7 := { stood := { row := buchiRunsUptoRow, standIns := [], harness := (true, "94ca550068ae22cafb7bbd8147d9401ad5262513b1ec81b945193bdfa956e8cf"), looks := false }, kinds := [], alts := [], laidByText := true, laidKinds := [.data, .data, .data], laidTests := true, laidLooks := .later }
def BuchiRunsUptoCardSaid : Prop := Claim7.holds Tryz.pinned (.plain (OpenSpec.upto buchiRunsSpec)) buchiRunsUptoCard

/-- THE SECOND FORM's CARD OF 'foresightlaw13.BuchiTrim'. -/
def buchiTrimUptoCard : Claim7 := { stood := { row := buchiTrimUptoRow, standIns := [], harness := (true, "94ca550068ae22cafb7bbd8147d9401ad5262513b1ec81b945193bdfa956e8cf"), looks := false }, kinds := [], alts := [], laidByText := true, laidKinds := [.data, .data, .data], laidTests := true, laidLooks := .later }
def BuchiTrimUptoCardSaid : Prop := Claim7.holds Tryz.pinned (.plain (OpenSpec.upto buchiTrimSpec)) buchiTrimUptoCard
end Rows
end Go.Proofs.YtbdoggiabclkdaaGreatDoor
