/- The document's comparisons: rows of numbers, moves, automata. -/
import Derived.Test.YthcllhhldknkmaaGreatDoorValid
set_option linter.unusedSimpArgs false
set_option linter.unusedVariables false
namespace Go.Proofs.YthcllhhldknkmaaGreatDoor
open Go Go.Pv
open Classical
theorem beq_is (a b:Int × Bool):eqLV (.struct [(0,(1, .int)),(1,(1, .bool))]) (.agg [.int .i64 a.1, .bool a.2]) (.agg [.int .i64 b.1, .bool b.2])=some (decide (a=b)):=by
  obtain ⟨x,p⟩:=a
  obtain ⟨y,q⟩:=b
  by_cases h:x=y
  · subst h
    cases p<;>cases q<;>simp [eqLV,eqLV.eqFields,scEq]
  · have hx:(x == y)=false:=by simpa using h
    simp [eqLV,eqLV.eqFields,scEq,hx,h]
theorem Bu.ext {A B:Bu} (h1:A.L=B.L) (h2:A.start=B.start) (h3:A.next=B.next):A=B:=by
  obtain ⟨a,b,c⟩:=A
  obtain ⟨d,e,f⟩:=B
  simp only at h1 h2 h3
  rw [h1,h2,h3]
end Go.Proofs.YthcllhhldknkmaaGreatDoor
