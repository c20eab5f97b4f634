/-
  DERIVED. GIVEN WITH THE SEED: THE CARDS: each row of YtohldpfjnllkdaaDoorRows.lean that lists a variable, with what it lists TIED to the program's text (the seventh form; the later family's looks); each row that meets fmt, with fmt's text TOLD by the authors' own Lean function (tested against real Go, not proved from fmt's source: count such statements apart). THE CARD IS WHAT COUNTS. Prove the row's statement (the work); the ties are given (YtohldpfjnllkdaaDoorTie.lean); close each card by the builder's one call (the guide's Derived/Test/ToyasCard.lean, 'card_holds'). Laid BY PROGRAM, IN A SANDBOX (cutbox-door.mjs). By AI agents, Wed Nov 11 2026. No macro, syntax, notation, axiom, sorry.
-/
import Derived.Test.YtohldpfjnllkdaaDoorRows
import GoSem.ClaimSeven
namespace Go.Proofs.YtohldpfjnllkdaaDoor
namespace Rows

/-- THE TIED CARD OF 'foresightlaw15.SearchMatchesReference'. -/
def searchMatchesReferenceCard : Claim7 := { stood := { row := searchMatchesReferenceRow, standIns := [], harness := (true, "689f34157b74b628739e170bc42a1a5347a6455907484efbde84d89cda07b4a7"), looks := false }, kinds := [], alts := [], laidByText := true, laidKinds := [.data], laidTests := true, laidLooks := .later }
def SearchMatchesReferenceCardSaid : Prop := Claim7.holds Tryd.pinned (.plain (OpenSpec.ofChange searchMatchesReferenceSpec)) searchMatchesReferenceCard

/-- THE TIED CARD OF 'foresightlaw15.SearchSound'. -/
def searchSoundCard : Claim7 := { stood := { row := searchSoundRow, standIns := [], harness := (true, "689f34157b74b628739e170bc42a1a5347a6455907484efbde84d89cda07b4a7"), looks := false }, kinds := [], alts := [], laidByText := true, laidKinds := [.data], laidTests := true, laidLooks := .later }
def SearchSoundCardSaid : Prop := Claim7.holds Tryd.pinned (.plain (OpenSpec.ofChange searchSoundSpec)) searchSoundCard

/-- THE TIED CARD OF 'foresightlaw15.SearchComplete'. -/
def searchCompleteCard : Claim7 := { stood := { row := searchCompleteRow, standIns := [], harness := (true, "689f34157b74b628739e170bc42a1a5347a6455907484efbde84d89cda07b4a7"), looks := false }, kinds := [], alts := [], laidByText := true, laidKinds := [.data], laidTests := true, laidLooks := .later }
def SearchCompleteCardSaid : Prop := Claim7.holds Tryd.pinned (.plain (OpenSpec.ofChange searchCompleteSpec)) searchCompleteCard

/-- THE TIED CARD OF 'foresightlaw15.SearchDiffer'. -/
def searchDifferCard : Claim7 := { stood := { row := searchDifferRow, standIns := [], harness := (true, "689f34157b74b628739e170bc42a1a5347a6455907484efbde84d89cda07b4a7"), looks := false }, kinds := [], alts := [], laidByText := true, laidKinds := [.data], laidTests := true, laidLooks := .later }
def SearchDifferCardSaid : Prop := Claim7.holds Tryd.pinned (.plain (OpenSpec.ofChange searchDifferSpec)) searchDifferCard

/-- THE TIED CARD OF 'foresightlaw15.SearchLive'. -/
def searchLiveCard : Claim7 := { stood := { row := searchLiveRow, standIns := [], harness := (true, "689f34157b74b628739e170bc42a1a5347a6455907484efbde84d89cda07b4a7"), looks := false }, kinds := [], alts := [], laidByText := true, laidKinds := [.data], laidTests := true, laidLooks := .later }
def SearchLiveCardSaid : Prop := Claim7.holds Tryd.pinned (.plain (OpenSpec.ofChange searchLiveSpec)) searchLiveCard

/-- THE SECOND FORM's CARD OF 'foresightlaw15.SearchMatchesReference'. -/
def searchMatchesReferenceUptoCard : Claim7 := { stood := { row := searchMatchesReferenceUptoRow, standIns := [], harness := (true, "689f34157b74b628739e170bc42a1a5347a6455907484efbde84d89cda07b4a7"), looks := false }, kinds := [], alts := [], laidByText := true, laidKinds := [.data], laidTests := true, laidLooks := .later }
def SearchMatchesReferenceUptoCardSaid : Prop := Claim7.holds Tryd.pinned (.plain (OpenSpec.upto searchMatchesReferenceSpec)) searchMatchesReferenceUptoCard

/-- THE SECOND FORM's CARD OF 'foresightlaw15.SearchSound'. -/
def searchSoundUptoCard : Claim7 := { stood := { row := searchSoundUptoRow, standIns := [], harness := (true, "689f34157b74b628739e170bc42a1a5347a6455907484efbde84d89cda07b4a7"), looks := false }, kinds := [], alts := [], laidByText := true, laidKinds := [.data], laidTests := true, laidLooks := .later }
def SearchSoundUptoCardSaid : Prop := Claim7.holds Tryd.pinned (.plain (OpenSpec.upto searchSoundSpec)) searchSoundUptoCard

/-- THE SECOND FORM's CARD OF 'foresightlaw15.SearchComplete'. -/
def searchCompleteUptoCard : Claim7 := { stood := { row := searchCompleteUptoRow, standIns := [], harness := (true, "689f34157b74b628739e170bc42a1a5347a6455907484efbde84d89cda07b4a7"), looks := false }, kinds := [], alts := [], laidByText := true, laidKinds := [.data], laidTests := true, laidLooks := .later }
def SearchCompleteUptoCardSaid : Prop := Claim7.holds Tryd.pinned (.plain (OpenSpec.upto searchCompleteSpec)) searchCompleteUptoCard

/-- THE SECOND FORM's CARD OF 'foresightlaw15.SearchDiffer'. -/
def searchDifferUptoCard : Claim7 := { stood := { row := searchDifferUptoRow, standIns := [], harness := (true, "689f34157b74b628739e170bc42a1a5347a6455907484efbde84d89cda07b4a7"), looks := false }, kinds := [], alts := [], laidByText := true, laidKinds := [.data], laidTests := true, laidLooks := .later }
def SearchDifferUptoCardSaid : Prop := Claim7.holds Tryd.pinned (.plain (OpenSpec.upto searchDifferSpec)) searchDifferUptoCard

/-- THE SECOND FORM's CARD OF 'foresightlaw15.SearchLive'. -/
def searchLiveUptoCard : Claim7 := { stood := { row := searchLiveUptoRow, standIns := [], harness := (true, "689f34157b74b628739e170bc42a1a5347a6455907484efbde84d89cda07b4a7"), looks := false }, kinds := [], alts := [], laidByText := true, laidKinds := [.data], laidTests := true, laidLooks := .later }
def SearchLiveUptoCardSaid : Prop := Claim7.holds Tryd.pinned (.plain (OpenSpec.upto searchLiveSpec)) searchLiveUptoCard
end Rows
end Go.Proofs.YtohldpfjnllkdaaDoor
