/-
  DERIVED. GIVEN WITH THE SEED: THE CARDS: each row of YtpjdddpjcfdlfaaGreatDoorRows.lean that lists a variable, with what it lists TIED to the program's text (the seventh form; the later family's looks); each row that meets fmt, with fmt's text TOLD by the authors' own Lean function (tested against real Go, not proved from fmt's source: count such statements apart). THE CARD IS WHAT COUNTS. Prove the row's statement (the work); the ties are given (YtpjdddpjcfdlfaaGreatDoorTie.lean); close each card by the builder's one call (the guide's Derived/Test/ToyasCard.lean, 'card_holds'). Laid BY PROGRAM, IN A SANDBOX (cutbox-door.mjs). By AI agents, Wed Nov 11 2026. No macro, syntax, notation, axiom, sorry.
-/
import Derived.Test.YtpjdddpjcfdlfaaGreatDoorRows
import GoSem.ClaimSeven
namespace Go.Proofs.YtpjdddpjcfdlfaaGreatDoor
namespace Rows

/-- THE TIED CARD OF 'foresightlaw14.AcceptSuffix'. -/
def acceptSuffixCard : Claim7 := { stood := { row := acceptSuffixRow, standIns := [], harness := (true, "5ea45478336e75967a435f65564a3a691b1515cbf7b6d4ec4124056944f8b894"), looks := false }, kinds := [], alts := [], laidByText := true, laidKinds := [.data, .data, .data], laidTests := true, laidLooks := .later }
def AcceptSuffixCardSaid : Prop := Claim7.holds Tryz.pinned (.plain (OpenSpec.ofChange acceptSuffixSpec)) acceptSuffixCard

/-- THE TIED CARD OF 'foresightlaw14.AcceptOperations'. -/
def acceptOperationsCard : Claim7 := { stood := { row := acceptOperationsRow, standIns := [], harness := (true, "5ea45478336e75967a435f65564a3a691b1515cbf7b6d4ec4124056944f8b894"), looks := false }, kinds := [], alts := [], laidByText := true, laidKinds := [.data, .data, .data], laidTests := true, laidLooks := .later }
def AcceptOperationsCardSaid : Prop := Claim7.holds Tryz.pinned (.plain (OpenSpec.ofChange acceptOperationsSpec)) acceptOperationsCard

/-- THE SECOND FORM's CARD OF 'foresightlaw14.AcceptSuffix'. -/
def acceptSuffixUptoCard : Claim7 := { stood := { row := acceptSuffixUptoRow, standIns := [], harness := (true, "5ea45478336e75967a435f65564a3a691b1515cbf7b6d4ec4124056944f8b894"), looks := false }, kinds := [], alts := [], laidByText := true, laidKinds := [.data, .data, .data], laidTests := true, laidLooks := .later }
def AcceptSuffixUptoCardSaid : Prop := Claim7.holds Tryz.pinned (.plain (OpenSpec.upto acceptSuffixSpec)) acceptSuffixUptoCard

/-- THE SECOND FORM's CARD OF 'foresightlaw14.AcceptOperations'. -/
def acceptOperationsUptoCard : Claim7 := { stood := { row := acceptOperationsUptoRow, standIns := [], harness := (true, "5ea45478336e75967a435f65564a3a691b1515cbf7b6d4ec4124056944f8b894"), looks := false }, kinds := [], alts := [], laidByText := true, laidKinds := [.data, .data, .data], laidTests := true, laidLooks := .later }
def AcceptOperationsUptoCardSaid : Prop := Claim7.holds Tryz.pinned (.plain (OpenSpec.upto acceptOperationsSpec)) acceptOperationsUptoCard
end Rows
end Go.Proofs.YtpjdddpjcfdlfaaGreatDoor
