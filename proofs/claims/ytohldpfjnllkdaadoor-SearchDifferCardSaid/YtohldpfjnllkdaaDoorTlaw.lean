/- What is live, and that trimming keeps it: plain. -/
import Derived.Test.YtohldpfjnllkdaaDoorTauto
import Derived.Test.YtohldpfjnllkdaaDoorSfind
set_option linter.unusedSimpArgs false
set_option linter.unusedVariables false
namespace Go.Proofs.YtohldpfjnllkdaaDoor
open Go Go.Pv Go.Aut Go.Tarjan
open Classical
theorem nd_inj {α:Type} {l:List α} (h:l.Nodup) {i j:Nat} (hi:i<l.length) (hj:j<l.length) (e:l[i]=l[j]):i=j:=by
  rw [List.nodup_iff_pairwise_ne,List.pairwise_iff_getElem] at h
  rcases Nat.lt_trichotomy i j with h1 | h1 | h1
  · exact absurd e (h i j hi hj h1)
  · exact h1
  · exact absurd e.symm (h j i hj hi h1)
theorem getD_lt' {α:Type} {l:List α} {k:Nat} {d:α} (h:k<l.length):l.getD k d=l[k]:=by simp [List.getD_eq_getElem?_getD,h]
theorem sok_lt {n:Nat} {st:List Int} (h:SOK n st):∀ i j,i<j→j<st.length→st.getD i 0<st.getD j 0:=by
  intro i j hij
  induction j with
  | zero=>omega
  | succ j ih=>
    intro hj
    have h1:=(h (j+1) hj).2.2 (by omega)
    rw [Nat.add_sub_cancel] at h1
    by_cases he:i=j
    · rw [he];exact h1
    · have:=ih (by omega) (by omega)
      omega
end Go.Proofs.YtohldpfjnllkdaaDoor
