/- The word package: the normal lasso. -/
import Derived.Test.YtkbiecjdcjfhaaaWoc
set_option linter.unusedSimpArgs false
set_option linter.unusedVariables false
namespace Go.Proofs.Ytkbiecjdcjfhaaa
open Go Go.Pv
open Classical
def rot (l:List Int) (k:Nat):List Int:=l.drop k++l.take k
def nb (sl lp:List Int):Nat→Nat→Nat × Nat
  | 0,back=>(0,back)
  | k+1,back=>if sl.getD k 0=lp.getD (lp.length - 1 - back) 0 then nb sl lp k ((back+1) % lp.length) else (k+1,back)
def Nrm (sl ll sl' ll':List Int):Prop:=∃ n,PerM ll n∧sl'=sl.take (nb sl (ll.take n) sl.length 0).1∧ll'=rot (ll.take n) (((ll.take n).length - (nb sl (ll.take n) sl.length 0).2) % (ll.take n).length)
theorem Nrm.uniq {sl ll a b a' b':List Int} (h:Nrm sl ll a b) (k:Nrm sl ll a' b'):a=a'∧b=b':=by
  obtain ⟨n,h1,h2,h3⟩:=h
  obtain ⟨m,k1,k2,k3⟩:=k
  obtain rfl:=h1.uniq k1
  exact ⟨h2.trans k2.symm,h3.trans k3.symm⟩
end Go.Proofs.Ytkbiecjdcjfhaaa
