/- slices.Sort of numbers in memory, of none, too. -/
import Derived.Test.YtkbiecjdcjfhaaaTbase
import Derived.Test.YtkbiecjdcjfhaaaLaysn
import Derived.Test.YtkbiecjdcjfhaaaPvSorI
import Derived.Test.YtkbiecjdcjfhaaaPvCall
set_option linter.unusedSimpArgs false
set_option linter.unusedVariables false
namespace Go.Proofs.Ytkbiecjdcjfhaaa
open Go Go.Pv Go.Sort Go.RowKit
open Classical
noncomputable def TG:Nat→Option LFunc:=tabOf Try.prog GL []
theorem tabG:Tab Try.prog GL TG []:=tabOf_tab (by decide +kernel) (by decide +kernel)
theorem sortNil:PureOk Try.prog GL (.fn (.func 68) [] []) [.nils] (.tup []) :=
  pure_ev (ow:=false) tabG (n:=20000) (by decide +kernel)
def srt (l:List Int):List Int:=l.mergeSort fun x y=>decide (x≤y)
theorem sortS {s:St} {v:LV} {l:List Int} (hS:SkC s v 1 (ints l) l.length) (hl:l.length≤1000000):CallOk Try.prog GL (.fn (.func 68) [] []) [v] s (fun r s'=>SkC s' v 1 (ints (srt l)) l.length∧s'.n=s.n∧∀ id,¬ uses v id→s'.get id=s.get id):=by
  have hsl:(srt l).length=l.length:=List.length_mergeSort l
  obtain ⟨hc,⟨rfl,h0⟩ | ⟨j,rfl,h1,h2,h3⟩⟩:=hS
  · have hl0:l=[]:=List.length_eq_zero_iff.1 h0
    subst hl0
    exact pure_call hG0 sortNil ⟨⟨by simp [srt], .inl ⟨rfl,rfl⟩⟩,rfl,fun id _=>rfl⟩
  · refine CallOk.mono (SorI.call_sort (rest:=[]) Try.func68 (by decide +kernel) (body:=(Try.f68.body).getD default) (by kernel_rfl) (fun blk off cap zs w hH hb hz=>AnyG.slices_Sort_int sortI blk off cap zs w hH hb hz) (by rw [List.append_nil];exact h3) h1 (by omega)) ?_
    rintro r' s' rfl
    refine ⟨⟨by simp [hsl], .inr ⟨j,rfl,h1,by simpa using h2,by rw [St.get_put,if_pos rfl,List.append_nil];rfl⟩⟩,rfl,fun id hid=>by rw [St.get_put,if_neg fun e=>hid (uses_sref.2 e)]⟩
end Go.Proofs.Ytkbiecjdcjfhaaa
