/- Numbering a graph, plainly: what buchi.automaton makes of any states. -/
import Derived.Test.YthcllhhldknkmaaGreatDoorTnum
set_option linter.unusedSimpArgs false
set_option linter.unusedVariables false
namespace Go.Proofs.YthcllhhldknkmaaGreatDoor
open Go Go.Pv Go.Bfs
open Classical
structure Grf where
  L:Int
  st:List Nat
  N:Nat
  mv:Nat→Nat→List (Nat × Bool)
def Grf.sa (g:Grf) (p a:Nat):List Nat:=(g.mv p a).map (·.1)
def Grf.suc (g:Grf) (p:Nat):List Nat:=(List.range g.L.toNat).flatMap (g.sa p)
def Grf.s0 (g:Grf):List Nat:=addsN [] g.st
def Grf.R (g:Grf):List Nat:=runN g.suc (g.N+1) 0 g.s0
structure GrfOk (g:Grf) (most:Int):Prop where
  L1:1≤g.L
  L2:g.L≤64
  N3:(g.N:Int)≤most
  m3:most≤3000
  stN:∀ p∈g.st,p<g.N
  stl:g.st.length≤1000000
  mvN:∀ p a,p<g.N→∀ m∈g.mv p a,m.1<g.N
  mvl:∀ p a,p<g.N→(g.mv p a).length≤1000000
def Grf.ren (g:Grf) (ms:List (Nat × Bool)):Moves:=ms.map fun m=>((numN g.R m.1:Int),m.2)
def SSt (ms:Moves):Prop:=∀ i j,i<j→j<ms.length→mlt (ms.getD i (0,false)) (ms.getD j (0,false))
structure AutoR (g:Grf) (C:Bu):Prop where
  L:C.L=g.L
  st:C.start=g.st.map fun p=>(numN g.R p:Int)
  len:C.next.length=g.R.length
  row:∀ n,n<g.R.length→((C.next.getD n []).length:Int)=g.L∧∀ a:Nat,(a:Int)<g.L→(∀ x,x∈(C.next.getD n []).getD a []↔x∈g.ren (g.mv (g.R.getD n 0) a))∧SSt ((C.next.getD n []).getD a [])
theorem mlt_tri' {x y:Int × Bool} (h:x≠y) (hn:¬ mlt y x):mlt x y:=by
  obtain ⟨a,p⟩:=x
  obtain ⟨b,q⟩:=y
  unfold mlt at *
  simp only [not_or,not_and] at *
  by_cases e:a=b
  · subst e
    cases p<;>cases q<;>simp at *
  · exact .inl (by omega)
theorem mlt_trans {x y z:Int × Bool} (h:mlt x y) (k:mlt y z):mlt x z:=by
  unfold mlt at *
  rcases h with h | ⟨a,b,c⟩<;>rcases k with k | ⟨d,e,f⟩
  · exact .inl (by omega)
  · exact .inl (by omega)
  · exact .inl (by omega)
  · rw [c] at e;cases e
def dd (ms:Moves):Nat→Moves
  | 0=>[]
  | i+1=>if 0<i∧ms.getD i (0,false)=ms.getD (i - 1) (0,false) then dd ms i else dd ms i++[ms.getD i (0,false)]
end Go.Proofs.YthcllhhldknkmaaGreatDoor
