/- The word package: equal, period. -/
import Derived.Test.YtkbiecjdcjfhaaaWoa
set_option linter.unusedSimpArgs false
set_option linter.unusedVariables false
namespace Go.Proofs.Ytkbiecjdcjfhaaa
open Go Go.Pv
open Classical
def Per (l:List Int) (n:Nat):Prop:=1≤n∧n≤l.length∧l.length % n=0∧∀ i,i+n<l.length→l.getD (n+i) 0=l.getD i 0
def PerM (l:List Int) (n:Nat):Prop:=Per l n∧∀ m,m<n→¬ Per l m
theorem PerM.uniq {l:List Int} {n m:Nat} (h:PerM l n) (k:PerM l m):n=m:=by
  rcases Nat.lt_trichotomy n m with hh | hh | hh
  · exact absurd h.1 (k.2 n hh)
  · exact hh
  · exact absurd k.1 (h.2 m hh)
end Go.Proofs.Ytkbiecjdcjfhaaa
