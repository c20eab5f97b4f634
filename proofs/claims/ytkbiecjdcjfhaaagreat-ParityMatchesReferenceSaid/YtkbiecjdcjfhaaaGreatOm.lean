/- Short names: a number goal; laws of lists. -/
set_option linter.unusedSimpArgs false
set_option linter.unusedVariables false
set_option maxRecDepth 100000
set_option maxHeartbeats 16000000
namespace Go
universe u
theorem om {p:Prop}(h:p:=by omega):p:=h
theorem gD {α:Type u}{l:List α}{i:Nat}{a:α} : l.getD i a=l[i]?.getD a:=List.getD_eq_getElem?_getD
theorem gE {α:Type u}{l:List α}{i:Nat}(h:i<l.length):l[i]? = some l[i]:=List.getElem?_eq_getElem h
theorem gF {α:Type u}{l:Array α}{i:Nat}{a:α} : l.getD i a=l[i]?.getD a:=Array.getD_eq_getD_getElem?
end Go
