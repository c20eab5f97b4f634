/-
  NARROWER THAN 'FOR EVERY INPUT', by the rows' own cells (each row's printed sentence says how): SearchMatchesReference: laid · SearchSound: laid · SearchComplete: laid · SearchDiffer: laid · SearchLive: laid.
  DERIVED. THE GIVEN ROWS OF THIS SEAT. 5 by the template 'for every input the law returns true; each argument reads behind the call as it read before'; 0 by the template 'total and deterministic' (their statements: YtohldpfjnllkdaaDoorTotals.lean).
  GIVEN WITH THE SEED: the statements are not yours to turn. If you find one false, say at which input.
  Laid BY PROGRAM, IN A SANDBOX (cutbox-rows.mjs): the forced cells as the released guide's own fill.sh prints them over the translation 77c265226c29229b… (all of the seat's roots in one cut). By AI agents, Wed Nov 11 2026. No macro, syntax, notation, axiom, sorry.
-/
import Derived.Test.YtohldpfjnllkdaaDoorChecked
import GoSem.Claim
import GoSem.ClaimJoined
import GoSem.ClaimMapViews
import Derived.JoinedTies
import Derived.KernelRfl
namespace Go.Proofs.YtohldpfjnllkdaaDoor
/- THE CELL 'sum', in the pinned program and in every row, IS THE sha256 OF THE DUMP (.gsa) THAT YtohldpfjnllkdaaDoorProg.lean LOADS. Nothing in Lean hashes anything: it is a label: what it is worth is what the hold of that sum in a sandbox is worth. -/
noncomputable def Tryd.pinned : Pinned := { name := "ytohldpfjnllkdaadoor", sum := "77c265226c29229bcbac7e915328b4c319997f778dfde4fa86b34ce569dc6f34", checked := Tryd.checked }
namespace Rows
def none {H : Type} : Left H := { results := [], args := [] }

/- WHAT THE LISTED PACKAGE-LEVEL VARIABLES READ AS WHEN THE CALL BEGINS. Each datum BY PROGRAM (the guide's laid-datum.mjs) off the statement by which the dump's own 'gosem.cut.vars' lays the variable. In a bare row this is a premise. The card (YtohldpfjnllkdaaDoorCards.lean) ties it to the program's text. -/
def laid_foresight_formula_forms {H : Type} : DataW H := .agg [.agg [.lit (.int .i64 0), .lit (.int .i64 0), .lit (.int .i64 0), .lit (.int .i64 0), .lit (.bool false), .lit (.bool false), .lit (.bool false), .lit (.bool false)], .agg [.lit (.int .i64 0), .lit (.int .i64 0), .lit (.int .i64 0), .lit (.int .i64 0), .lit (.bool false), .lit (.bool false), .lit (.bool false), .lit (.bool true)], .agg [.lit (.int .i64 0), .lit (.int .i64 0), .lit (.int .i64 0), .lit (.int .i64 0), .lit (.bool false), .lit (.bool false), .lit (.bool false), .lit (.bool true)], .agg [.lit (.int .i64 0), .lit (.int .i64 0), .lit (.int .i64 3), .lit (.int .i64 0), .lit (.bool true), .lit (.bool false), .lit (.bool false), .lit (.bool true)], .agg [.lit (.int .i64 1), .lit (.int .i64 1), .lit (.int .i64 0), .lit (.int .i64 0), .lit (.bool false), .lit (.bool false), .lit (.bool false), .lit (.bool true)], .agg [.lit (.int .i64 2), .lit (.int .i64 1099511627776), .lit (.int .i64 0), .lit (.int .i64 0), .lit (.bool false), .lit (.bool false), .lit (.bool false), .lit (.bool true)], .agg [.lit (.int .i64 2), .lit (.int .i64 1099511627776), .lit (.int .i64 0), .lit (.int .i64 0), .lit (.bool false), .lit (.bool false), .lit (.bool false), .lit (.bool true)], .agg [.lit (.int .i64 2), .lit (.int .i64 2), .lit (.int .i64 0), .lit (.int .i64 0), .lit (.bool false), .lit (.bool false), .lit (.bool false), .lit (.bool false)], .agg [.lit (.int .i64 1), .lit (.int .i64 1), .lit (.int .i64 0), .lit (.int .i64 0), .lit (.bool false), .lit (.bool false), .lit (.bool true), .lit (.bool true)], .agg [.lit (.int .i64 2), .lit (.int .i64 2), .lit (.int .i64 0), .lit (.int .i64 0), .lit (.bool false), .lit (.bool false), .lit (.bool true), .lit (.bool true)], .agg [.lit (.int .i64 2), .lit (.int .i64 2), .lit (.int .i64 0), .lit (.int .i64 0), .lit (.bool false), .lit (.bool false), .lit (.bool true), .lit (.bool true)], .agg [.lit (.int .i64 1), .lit (.int .i64 1), .lit (.int .i64 0), .lit (.int .i64 0), .lit (.bool false), .lit (.bool false), .lit (.bool true), .lit (.bool false)], .agg [.lit (.int .i64 1), .lit (.int .i64 1), .lit (.int .i64 0), .lit (.int .i64 0), .lit (.bool false), .lit (.bool false), .lit (.bool true), .lit (.bool false)], .agg [.lit (.int .i64 1), .lit (.int .i64 1), .lit (.int .i64 0), .lit (.int .i64 9), .lit (.bool false), .lit (.bool false), .lit (.bool true), .lit (.bool false)], .agg [.lit (.int .i64 1), .lit (.int .i64 1), .lit (.int .i64 0), .lit (.int .i64 9), .lit (.bool false), .lit (.bool false), .lit (.bool true), .lit (.bool false)], .agg [.lit (.int .i64 1), .lit (.int .i64 1), .lit (.int .i64 1), .lit (.int .i64 0), .lit (.bool false), .lit (.bool true), .lit (.bool false), .lit (.bool true)], .agg [.lit (.int .i64 2), .lit (.int .i64 2), .lit (.int .i64 1), .lit (.int .i64 0), .lit (.bool false), .lit (.bool true), .lit (.bool false), .lit (.bool true)], .agg [.lit (.int .i64 2), .lit (.int .i64 2), .lit (.int .i64 1), .lit (.int .i64 0), .lit (.bool false), .lit (.bool true), .lit (.bool false), .lit (.bool true)], .agg [.lit (.int .i64 1), .lit (.int .i64 1), .lit (.int .i64 0), .lit (.int .i64 0), .lit (.bool false), .lit (.bool true), .lit (.bool false), .lit (.bool false)], .agg [.lit (.int .i64 1), .lit (.int .i64 1), .lit (.int .i64 0), .lit (.int .i64 0), .lit (.bool false), .lit (.bool true), .lit (.bool false), .lit (.bool false)]]

/-- 'foresightlaw15.SearchMatchesReference': WHATEVER THE INPUT: true; the input reads as it did. -/
def searchMatchesReferenceSpec : ChangeSpec := { name := "searchMatchesReference", fn := fun _ => fun
  | [d1, d2, d3] => { results := [.lit (.bool true)], args := [d1, d2, d3] }
  | _ => none }
def searchMatchesReferenceRow : OpenClaim := { program := "ytohldpfjnllkdaadoor", sum := "77c265226c29229bcbac7e915328b4c319997f778dfde4fa86b34ce569dc6f34", func := "foresight/foresightlaw15.SearchMatchesReference", spec := "searchMatchesReference", unfollowed := true, recurses := true, named := ["foresight/formula.forms"], plainKeys := false, apart := false, laid := [("foresight/formula.forms", laid_foresight_formula_forms)] }
def SearchMatchesReferenceSaid : Prop := searchMatchesReferenceRow.holds Tryd.pinned (OpenSpec.ofChange searchMatchesReferenceSpec)

/-- ITS FALSE NEIGHBOUR: 'it returns false'. Refute it at one input. -/
def searchMatchesReferenceWrong : ChangeSpec := { name := "searchMatchesReference", fn := fun _ => fun
  | [d1, d2, d3] => { results := [.lit (.bool false)], args := [d1, d2, d3] }
  | _ => none }
def SearchMatchesReferenceWrongFalsely : Prop := searchMatchesReferenceRow.holds Tryd.pinned (OpenSpec.ofChange searchMatchesReferenceWrong)

/-- 'foresightlaw15.SearchSound': WHATEVER THE INPUT: true; the input reads as it did. -/
def searchSoundSpec : ChangeSpec := { name := "searchSound", fn := fun _ => fun
  | [d] => { results := [.lit (.bool true)], args := [d] }
  | _ => none }
def searchSoundRow : OpenClaim := { program := "ytohldpfjnllkdaadoor", sum := "77c265226c29229bcbac7e915328b4c319997f778dfde4fa86b34ce569dc6f34", func := "foresight/foresightlaw15.SearchSound", spec := "searchSound", unfollowed := true, recurses := true, named := ["foresight/formula.forms"], plainKeys := false, apart := false, laid := [("foresight/formula.forms", laid_foresight_formula_forms)] }
def SearchSoundSaid : Prop := searchSoundRow.holds Tryd.pinned (OpenSpec.ofChange searchSoundSpec)

/-- ITS FALSE NEIGHBOUR: 'it returns false'. Refute it at one input. -/
def searchSoundWrong : ChangeSpec := { name := "searchSound", fn := fun _ => fun
  | [d] => { results := [.lit (.bool false)], args := [d] }
  | _ => none }
def SearchSoundWrongFalsely : Prop := searchSoundRow.holds Tryd.pinned (OpenSpec.ofChange searchSoundWrong)

/-- 'foresightlaw15.SearchComplete': WHATEVER THE INPUT: true; the input reads as it did. -/
def searchCompleteSpec : ChangeSpec := { name := "searchComplete", fn := fun _ => fun
  | [d1, d2] => { results := [.lit (.bool true)], args := [d1, d2] }
  | _ => none }
def searchCompleteRow : OpenClaim := { program := "ytohldpfjnllkdaadoor", sum := "77c265226c29229bcbac7e915328b4c319997f778dfde4fa86b34ce569dc6f34", func := "foresight/foresightlaw15.SearchComplete", spec := "searchComplete", unfollowed := true, recurses := true, named := ["foresight/formula.forms"], plainKeys := false, apart := false, laid := [("foresight/formula.forms", laid_foresight_formula_forms)] }
def SearchCompleteSaid : Prop := searchCompleteRow.holds Tryd.pinned (OpenSpec.ofChange searchCompleteSpec)

/-- ITS FALSE NEIGHBOUR: 'it returns false'. Refute it at one input. -/
def searchCompleteWrong : ChangeSpec := { name := "searchComplete", fn := fun _ => fun
  | [d1, d2] => { results := [.lit (.bool false)], args := [d1, d2] }
  | _ => none }
def SearchCompleteWrongFalsely : Prop := searchCompleteRow.holds Tryd.pinned (OpenSpec.ofChange searchCompleteWrong)

/-- 'foresightlaw15.SearchDiffer': WHATEVER THE INPUT: true; the input reads as it did. -/
def searchDifferSpec : ChangeSpec := { name := "searchDiffer", fn := fun _ => fun
  | [d1, d2, d3] => { results := [.lit (.bool true)], args := [d1, d2, d3] }
  | _ => none }
def searchDifferRow : OpenClaim := { program := "ytohldpfjnllkdaadoor", sum := "77c265226c29229bcbac7e915328b4c319997f778dfde4fa86b34ce569dc6f34", func := "foresight/foresightlaw15.SearchDiffer", spec := "searchDiffer", unfollowed := true, recurses := true, named := ["foresight/formula.forms"], plainKeys := false, apart := false, laid := [("foresight/formula.forms", laid_foresight_formula_forms)] }
def SearchDifferSaid : Prop := searchDifferRow.holds Tryd.pinned (OpenSpec.ofChange searchDifferSpec)

/-- ITS FALSE NEIGHBOUR: 'it returns false'. Refute it at one input. -/
def searchDifferWrong : ChangeSpec := { name := "searchDiffer", fn := fun _ => fun
  | [d1, d2, d3] => { results := [.lit (.bool false)], args := [d1, d2, d3] }
  | _ => none }
def SearchDifferWrongFalsely : Prop := searchDifferRow.holds Tryd.pinned (OpenSpec.ofChange searchDifferWrong)

/-- 'foresightlaw15.SearchLive': WHATEVER THE INPUT: true; the input reads as it did. -/
def searchLiveSpec : ChangeSpec := { name := "searchLive", fn := fun _ => fun
  | [d] => { results := [.lit (.bool true)], args := [d] }
  | _ => none }
def searchLiveRow : OpenClaim := { program := "ytohldpfjnllkdaadoor", sum := "77c265226c29229bcbac7e915328b4c319997f778dfde4fa86b34ce569dc6f34", func := "foresight/foresightlaw15.SearchLive", spec := "searchLive", unfollowed := true, recurses := true, named := ["foresight/formula.forms"], plainKeys := false, apart := false, laid := [("foresight/formula.forms", laid_foresight_formula_forms)] }
def SearchLiveSaid : Prop := searchLiveRow.holds Tryd.pinned (OpenSpec.ofChange searchLiveSpec)

/-- ITS FALSE NEIGHBOUR: 'it returns false'. Refute it at one input. -/
def searchLiveWrong : ChangeSpec := { name := "searchLive", fn := fun _ => fun
  | [d] => { results := [.lit (.bool false)], args := [d] }
  | _ => none }
def SearchLiveWrongFalsely : Prop := searchLiveRow.holds Tryd.pinned (OpenSpec.ofChange searchLiveWrong)

/- THE SECOND FORM. 'bulk': how many values and letters a reading holds, each counted each time it is reached (what is shared counts as often as it is met; a slice's spare places count too). A statement '..UptoSaid' is the law's where the arguments, and the package variables that the reading takes, are together of bulk at most 1048576: NARROWER than '..Said'. Prove '..Said' where nothing that the law and all that it calls make is longer than what came in: it says more and counts as full. Else prove '..UptoSaid'. A law counts once. -/
mutual
def uptoBulk {H : Type} : DataW H → Nat
  | .lit (.string bytes) => bytes.length + 1
  | .lit _ => 1
  | .nil => 1
  | .ptr d => uptoBulk d + 1
  | .slice elems spare => uptoBulkAll elems + uptoBulkAll spare + 1
  | .agg parts => uptoBulkAll parts + 1
  | .iface _ d => uptoBulk d + 1
  | .map entries => uptoBulkEntries entries + 1
  | .held _ => 1
def uptoBulkAll {H : Type} : List (DataW H) → Nat
  | [] => 0
  | d :: r => uptoBulk d + uptoBulkAll r
def uptoBulkEntries {H : Type} : List (Lit × DataW H) → Nat
  | [] => 0
  | x :: r => uptoBulkEntry x + uptoBulkEntries r
def uptoBulkEntry {H : Type} : Lit × DataW H → Nat
  | (.string bytes, d) => bytes.length + uptoBulk d + 1
  | (_, d) => uptoBulk d + 1
 end
def uptoSmall : (H : Type) → List (DataW H) → Bool := fun _ ds => decide (uptoBulkAll ds ≤ 1048576)
def OpenSpec.upto (s : _root_.Go.ChangeSpec) : _root_.Go.OpenSpec := { _root_.Go.OpenSpec.ofChange s with cond := some uptoSmall }

/-- 'foresightlaw15.SearchMatchesReference', WHERE WHAT IT READS IS OF BULK AT MOST 1048576: true; the input reads as it did. -/
def searchMatchesReferenceUptoRow : OpenClaim := { program := "ytohldpfjnllkdaadoor", sum := "77c265226c29229bcbac7e915328b4c319997f778dfde4fa86b34ce569dc6f34", func := "foresight/foresightlaw15.SearchMatchesReference", spec := "searchMatchesReference", unfollowed := true, recurses := true, named := ["foresight/formula.forms"], plainKeys := false, apart := false, laid := [("foresight/formula.forms", laid_foresight_formula_forms)], narrowed := true }
def SearchMatchesReferenceUptoSaid : Prop := searchMatchesReferenceUptoRow.holds Tryd.pinned (OpenSpec.upto searchMatchesReferenceSpec)

/-- 'foresightlaw15.SearchSound', WHERE WHAT IT READS IS OF BULK AT MOST 1048576: true; the input reads as it did. -/
def searchSoundUptoRow : OpenClaim := { program := "ytohldpfjnllkdaadoor", sum := "77c265226c29229bcbac7e915328b4c319997f778dfde4fa86b34ce569dc6f34", func := "foresight/foresightlaw15.SearchSound", spec := "searchSound", unfollowed := true, recurses := true, named := ["foresight/formula.forms"], plainKeys := false, apart := false, laid := [("foresight/formula.forms", laid_foresight_formula_forms)], narrowed := true }
def SearchSoundUptoSaid : Prop := searchSoundUptoRow.holds Tryd.pinned (OpenSpec.upto searchSoundSpec)

/-- 'foresightlaw15.SearchComplete', WHERE WHAT IT READS IS OF BULK AT MOST 1048576: true; the input reads as it did. -/
def searchCompleteUptoRow : OpenClaim := { program := "ytohldpfjnllkdaadoor", sum := "77c265226c29229bcbac7e915328b4c319997f778dfde4fa86b34ce569dc6f34", func := "foresight/foresightlaw15.SearchComplete", spec := "searchComplete", unfollowed := true, recurses := true, named := ["foresight/formula.forms"], plainKeys := false, apart := false, laid := [("foresight/formula.forms", laid_foresight_formula_forms)], narrowed := true }
def SearchCompleteUptoSaid : Prop := searchCompleteUptoRow.holds Tryd.pinned (OpenSpec.upto searchCompleteSpec)

/-- 'foresightlaw15.SearchDiffer', WHERE WHAT IT READS IS OF BULK AT MOST 1048576: true; the input reads as it did. -/
def searchDifferUptoRow : OpenClaim := { program := "ytohldpfjnllkdaadoor", sum := "77c265226c29229bcbac7e915328b4c319997f778dfde4fa86b34ce569dc6f34", func := "foresight/foresightlaw15.SearchDiffer", spec := "searchDiffer", unfollowed := true, recurses := true, named := ["foresight/formula.forms"], plainKeys := false, apart := false, laid := [("foresight/formula.forms", laid_foresight_formula_forms)], narrowed := true }
def SearchDifferUptoSaid : Prop := searchDifferUptoRow.holds Tryd.pinned (OpenSpec.upto searchDifferSpec)

/-- 'foresightlaw15.SearchLive', WHERE WHAT IT READS IS OF BULK AT MOST 1048576: true; the input reads as it did. -/
def searchLiveUptoRow : OpenClaim := { program := "ytohldpfjnllkdaadoor", sum := "77c265226c29229bcbac7e915328b4c319997f778dfde4fa86b34ce569dc6f34", func := "foresight/foresightlaw15.SearchLive", spec := "searchLive", unfollowed := true, recurses := true, named := ["foresight/formula.forms"], plainKeys := false, apart := false, laid := [("foresight/formula.forms", laid_foresight_formula_forms)], narrowed := true }
def SearchLiveUptoSaid : Prop := searchLiveUptoRow.holds Tryd.pinned (OpenSpec.upto searchLiveSpec)

end Rows
end Go.Proofs.YtohldpfjnllkdaaDoor
