/- SearchMatchesReference: the law lifted. -/
import Derived.Test.YtmblpcidfjemhaaDoorRows
import Derived.Test.YtmblpcidfjemhaaDoorLsmat
import Derived.ProofKit
import Derived.JoinedOf
import Derived.LaidMore
import Derived.SevenTiedAt
import Derived.Stop.Joined
import Derived.Test.YtmblpcidfjemhaaDoorCsmb
set_option linter.unusedSimpArgs false
set_option linter.unusedVariables false
section
namespace Go.Proofs.YtmblpcidfjemhaaDoor
open Go Go.ChangeShapes Go.WideShapes Go.ChangeAt Go.RowKit Go.Pv
set_option maxRecDepth 100000
theorem ownK:ownKnob Tryd.prog.godebug=none:=by kernel_rfl
theorem laidK:laidOutB Tryd.prog=true:=by kernel_rfl
def laidL : List (String × DataW Unit) := [("foresight/formula.forms", Rows.laid_foresight_formula_forms)]
theorem laidNames:(laidL.all fun x=>x.2.handleName?.isNone)=true:=by kernel_rfl
theorem laidG:globLV Tryd.prog 9 laidL=some GL:=by kernel_rfl
theorem hts:∀ t∈Tryd.f3.params.toList,Tryd.prog.readableRec t=true∧t<Tryd.prog.types.size:=by
  have h:(Tryd.f3.params.toList.all fun t=>Tryd.prog.readableRec t && decide (t<Tryd.prog.types.size))=true:=by kernel_rfl
  intro t ht
  have:=List.all_eq_true.1 h t ht
  simpa using this
theorem hrow:∀ t∈Tryd.f3.params.toList,(rowTy Tryd.prog 9 t).isSome=true:=by
  have h:(Tryd.f3.params.toList.all fun t=>(rowTy Tryd.prog 9 t).isSome)=true:=by kernel_rfl
  intro t ht
  exact List.all_eq_true.1 h t ht
theorem door_met (os:Os) (args:Array Value):laidMetH Tryd.prog laidL ((World.doorLaid Tryd.prog 2000 os).forCall (fun _ _=>0) ⟨#[],args,[]⟩).memory:=by
  rw [MakeChecks.laidMetH_plain _ _ _ laidNames]
  exact laidMet_of_run' 8 (by kernel_rfl) (by kernel_rfl)
theorem lifted (os:Os) (started:os.Started) (H:Type) (enc:TypeId × Value→H) :
    ReturnsInHanded {} Tryd.checked os 3 .any (fun w args=>(Rows.searchMatchesReferenceSpec.pre enc Tryd.prog Tryd.f3 [] false w args∧laidMetH Tryd.prog laidL w)∧sizedMet enc Tryd.prog Tryd.f3 (OpenSpec.ofChange Rows.searchMatchesReferenceSpec) false w args)
      (Rows.searchMatchesReferenceSpec.post enc Tryd.prog Tryd.f3 false true false false):=by
  refine returnsInHanded_of_change_and (C:=Tryd.checked) (X:=fun w _=>laidMetH Tryd.prog laidL w) (fun _ _ _ hh h=>h.of_heap hh) ownK started (by kernel_rfl) Tryd.func3
    (ChangeSpec.witness_shaped (enc:=enc) (C:=Tryd.checked) (os:=os) (X:=fun w _=>laidMetH Tryd.prog laidL w) false (World.doorLaid Tryd.prog 2000 os) #[.agg #[.int .i64 0, .slice none 0 0, .slice none 0 0], .agg #[.int .i64 0, .slice none 0 0, .slice none 0 0], .int .u8 0] 8 rfl (World.shaped_of_RefB (by kernel_rfl) (by kernel_rfl)) (by kernel_rfl) (by kernel_rfl) (by kernel_rfl) (door_met os _)) ?_
  intro W base args ds gs before hval hW _ _ hL _
  refine law_contractG (G:=GL) (n:=9) (tb:=4) (globs_met laidNames laidG hL) rfl (fun ds h=>?_) (by kernel_rfl) Tryd.underlying4 laidK hts hrow lawSmat hval hW
  rw [Tryd.params3] at h
  match ds,h with
  | [_,_,_],_=>rfl
end Go.Proofs.YtmblpcidfjemhaaDoor
end
section
namespace Go.Proofs.YtmblpcidfjemhaaDoor
open Go Go.ChangeShapes Go.WideShapes Go.ChangeAt Go.RowKit Go.Pv
set_option maxRecDepth 100000
theorem named_is:Tryd.pinned.checked.prog.funcNamed Rows.searchMatchesReferenceRow.func=some 3:=by kernel_rfl
theorem row_holds:Rows.SearchMatchesReferenceSaid:=
  OpenClaim.holds_of_wide 3 Tryd.f3 rfl rfl rfl rfl rfl rfl rfl ⟨rfl,rfl,rfl,rfl,rfl⟩ rfl rfl rfl rfl rfl named_is Tryd.func3 joined_is
    (of_decide_eq_true (by kernel_rfl)) (by unfold Func.isWrapper;first | (rw [if_pos (by decide +kernel)];kernel_rfl) | (rw [if_neg (by decide +kernel)];exact ⟨rfl,rfl⟩))
    (fun os started H enc _=>lifted os started H enc)
end Go.Proofs.YtmblpcidfjemhaaDoor
end
