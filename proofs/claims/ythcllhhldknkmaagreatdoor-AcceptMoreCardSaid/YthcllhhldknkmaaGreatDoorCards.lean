/-
  DERIVED. GIVEN WITH THE SEED: THE CARDS: each row of YthcllhhldknkmaaGreatDoorRows.lean that lists a variable, with what it lists TIED to the program's text (the seventh form; the later family's looks); each row that meets fmt, with fmt's text TOLD by the authors' own Lean function (tested against real Go, not proved from fmt's source: count such statements apart). THE CARD IS WHAT COUNTS. Prove the row's statement (the work); the ties are given (YthcllhhldknkmaaGreatDoorTie.lean); close each card by the builder's one call (the guide's Derived/Test/ToyasCard.lean, 'card_holds'). Laid BY PROGRAM, IN A SANDBOX (cutbox-door.mjs). By AI agents, Wed Nov 11 2026. No macro, syntax, notation, axiom, sorry.
-/
import Derived.Test.YthcllhhldknkmaaGreatDoorRows
import GoSem.ClaimSeven
namespace Go.Proofs.YthcllhhldknkmaaGreatDoor
namespace Rows

/-- THE TIED CARD OF 'foresightlaw14.AcceptRuns'. -/
def acceptRunsCard : Claim7 := { stood := { row := acceptRunsRow, standIns := [], harness := (true, "358c77da8099a6f4074115a09e617ff2ae4cfcae6ec98d592dc1018a8231a931"), looks := false }, kinds := [], alts := [], laidByText := true, laidKinds := [.data, .data, .data], laidTests := true, laidLooks := .later }
def AcceptRunsCardSaid : Prop := Claim7.holds Tryz.pinned (.plain (OpenSpec.ofChange acceptRunsSpec)) acceptRunsCard

/-- THE TIED CARD OF 'foresightlaw14.AcceptMore'. -/
def acceptMoreCard : Claim7 := { stood := { row := acceptMoreRow, standIns := [], harness := (true, "358c77da8099a6f4074115a09e617ff2ae4cfcae6ec98d592dc1018a8231a931"), looks := false }, kinds := [], alts := [], laidByText := true, laidKinds := [.data, .data, .data], laidTests := true, laidLooks := .later }
def AcceptMoreCardSaid : Prop := Claim7.holds Tryz.pinned (.plain (OpenSpec.ofChange acceptMoreSpec)) acceptMoreCard

/-- THE TIED CARD OF 'foresightlaw14.AcceptWords'. -/
def acceptWordsCard : Claim7 := { stood := { row := acceptWordsRow, standIns := [], harness := (true, "358c77da8099a6f4074115a09e617ff2ae4cfcae6ec98d592dc1018a8231a931"), looks := false }, kinds := [], alts := [], laidByText := true, laidKinds := [.data, .data, .data], laidTests := true, laidLooks := .later }
def AcceptWordsCardSaid : Prop := Claim7.holds Tryz.pinned (.plain (OpenSpec.ofChange acceptWordsSpec)) acceptWordsCard

/-- THE TIED CARD OF 'foresightlaw14.AcceptOperations'. -/
def acceptOperationsCard : Claim7 := { stood := { row := acceptOperationsRow, standIns := [], harness := (true, "358c77da8099a6f4074115a09e617ff2ae4cfcae6ec98d592dc1018a8231a931"), looks := false }, kinds := [], alts := [], laidByText := true, laidKinds := [.data, .data, .data], laidTests := true, laidLooks := .later }
def AcceptOperationsCardSaid : Prop := Claim7.holds Tryz.pinned (.plain (OpenSpec.ofChange acceptOperationsSpec)) acceptOperationsCard

/-- THE SECOND FORM's CARD OF 'foresightlaw14.AcceptRuns'. -/
def acceptRunsUptoCard : Claim7 := { stood := { row := acceptRunsUptoRow, standIns := [], harness := (true, "358c77da8099a6f4074115a09e617ff2ae4cfcae6ec98d592dc1018a8231a931"), looks := false }, kinds := [], alts := [], laidByText := true, laidKinds := [.data, .data, .data], laidTests := true, laidLooks := .later }
def AcceptRunsUptoCardSaid : Prop := Claim7.holds Tryz.pinned (.plain (OpenSpec.upto acceptRunsSpec)) acceptRunsUptoCard

/-- THE SECOND FORM's CARD OF 'foresightlaw14.AcceptMore'. -/
def acceptMoreUptoCard : Claim7 := { stood := { row := acceptMoreUptoRow, standIns := [], harness := (true, "358c77da8099a6f4074115a09e617ff2ae4cfcae6ec98d592dc1018a8231a931"), looks := false }, kinds := [], alts := [], laidByText := true, laidKinds := [.data, .data, .data], laidTests := true, laidLooks := .later }
def AcceptMoreUptoCardSaid : Prop := Claim7.holds Tryz.pinned (.plain (OpenSpec.upto acceptMoreSpec)) acceptMoreUptoCard

/-- THE SECOND FORM's CARD OF 'foresightlaw14.AcceptWords'. -/
def acceptWordsUptoCard : Claim7 := { stood := { row := acceptWordsUptoRow, standIns := [], harness := (true, "358c77da8099a6f4074115a09e617ff2ae4cfcae6ec98d592dc1018a8231a931"), looks := false }, kinds := [], alts := [], laidByText := true, laidKinds := [.data, .data, .data], laidTests := true, laidLooks := .later }
def AcceptWordsUptoCardSaid : Prop := Claim7.holds Tryz.pinned (.plain (OpenSpec.upto acceptWordsSpec)) acceptWordsUptoCard

/-- THE SECOND FORM's CARD OF 'foresightlaw14.AcceptOperations'. -/
def acceptOperationsUptoCard : Claim7 := { stood := { row := acceptOperationsUptoRow, standIns := [], harness := (true, "358c77da8099a6f4074115a09e617ff2ae4cfcae6ec98d592dc1018a8231a931"), looks := false }, kinds := [], alts := [], laidByText := true, laidKinds := [.data, .data, .data], laidTests := true, laidLooks := .later }
def AcceptOperationsUptoCardSaid : Prop := Claim7.holds Tryz.pinned (.plain (OpenSpec.upto acceptOperationsSpec)) acceptOperationsUptoCard
end Rows
end Go.Proofs.YthcllhhldknkmaaGreatDoor
