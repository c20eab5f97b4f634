/- BuchiOperationsMatchReference: the law lifted. -/
import Derived.Test.YtgobbogomchnhaaGreatDoorRows
import Derived.Test.YtgobbogomchnhaaGreatDoorLbop
import Derived.ProofKit
import Derived.JoinedOf
import Derived.LaidMore
import Derived.SevenTiedAt
import Derived.Stop.Joined
set_option linter.unusedSimpArgs false
set_option linter.unusedVariables false
namespace Go.Proofs.YtgobbogomchnhaaGreatDoor
open Go Go.ChangeShapes Go.WideShapes Go.ChangeAt Go.RowKit Go.Pv
set_option maxRecDepth 100000
theorem ownK:ownKnob Tryz.prog.godebug=none:=by kernel_rfl
theorem laidK:laidOutB Tryz.prog=true:=by kernel_rfl
def laidL : List (String × DataW Unit) := [("math/bits.deBruijn32tab", Rows.laid_math_bits_deBruijn32tab), ("foresight/signal.keys", Rows.laid_foresight_signal_keys), ("foresight/formula.forms", Rows.laid_foresight_formula_forms)]
theorem laidNames:(laidL.all fun x=>x.2.handleName?.isNone)=true:=by kernel_rfl
theorem laidG:globLV Tryz.prog 9 laidL=some GL:=by kernel_rfl
theorem hts:∀ t∈Tryz.f3.params.toList,Tryz.prog.readableRec t=true∧t<Tryz.prog.types.size:=by
  have h:(Tryz.f3.params.toList.all fun t=>Tryz.prog.readableRec t && decide (t<Tryz.prog.types.size))=true:=by kernel_rfl
  intro t ht
  have:=List.all_eq_true.1 h t ht
  simpa using this
theorem hrow:∀ t∈Tryz.f3.params.toList,(rowTy Tryz.prog 9 t).isSome=true:=by
  have h:(Tryz.f3.params.toList.all fun t=>(rowTy Tryz.prog 9 t).isSome)=true:=by kernel_rfl
  intro t ht
  exact List.all_eq_true.1 h t ht
theorem door_met (os:Os) (args:Array Value):laidMetH Tryz.prog laidL ((World.doorLaid Tryz.prog 2000 os).forCall (fun _ _=>0) ⟨#[],args,[]⟩).memory:=by
  rw [MakeChecks.laidMetH_plain _ _ _ laidNames]
  exact laidMet_of_run' 8 (by kernel_rfl) (by kernel_rfl)
theorem lifted (os:Os) (started:os.Started) (H:Type) (enc:TypeId × Value→H) :
    ReturnsInHanded {} Tryz.checked os 3 .any (fun w args=>(Rows.buchiOperationsMatchReferenceSpec.pre enc Tryz.prog Tryz.f3 [] false w args∧laidMetH Tryz.prog laidL w)∧sizedMet enc Tryz.prog Tryz.f3 (OpenSpec.ofChange Rows.buchiOperationsMatchReferenceSpec) false w args)
      (Rows.buchiOperationsMatchReferenceSpec.post enc Tryz.prog Tryz.f3 false true false false):=by
  refine returnsInHanded_of_change_and (C:=Tryz.checked) (X:=fun w _=>laidMetH Tryz.prog laidL w) (fun _ _ _ hh h=>h.of_heap hh) ownK started (by kernel_rfl) Tryz.func3
    (ChangeSpec.witness_shaped (enc:=enc) (C:=Tryz.checked) (os:=os) (X:=fun w _=>laidMetH Tryz.prog laidL w) false (World.doorLaid Tryz.prog 2000 os) #[.agg #[.int .i64 0, .slice none 0 0, .slice none 0 0], .agg #[.int .i64 0, .slice none 0 0, .slice none 0 0], .int .i64 0] 8 rfl (World.shaped_of_RefB (by kernel_rfl) (by kernel_rfl)) (by kernel_rfl) (by kernel_rfl) (by kernel_rfl) (door_met os _)) ?_
  intro W base args ds gs before hval hW _ _ hL _
  refine law_contractG (G:=GL) (n:=9) (tb:=4) (globs_met laidNames laidG hL) rfl (fun ds h=>?_) (by kernel_rfl) Tryz.underlying4 laidK hts hrow lawBop hval hW
  rw [Tryz.params3] at h
  match ds,h with
  | [_,_,_],_=>rfl
end Go.Proofs.YtgobbogomchnhaaGreatDoor
