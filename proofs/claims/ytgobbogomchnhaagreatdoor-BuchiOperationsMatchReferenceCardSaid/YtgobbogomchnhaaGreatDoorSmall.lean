/- accept's small functions. -/
import Derived.Test.YtgobbogomchnhaaGreatDoorNumber
import Derived.Test.YtgobbogomchnhaaGreatDoorValid
set_option linter.unusedSimpArgs false
set_option linter.unusedVariables false
section
set_option linter.unusedSimpArgs false
set_option linter.unusedVariables false
namespace Go.Proofs.YtgobbogomchnhaaGreatDoor
open Go Go.Pv Go.Aut Go.Bfs
open Classical
def zints (l:List Nat):List Int:=l.map fun (i:Nat)=>(i:Int)
@[simp] theorem zints_length (l:List Nat):(zints l).length=l.length:=by simp [zints]
structure IsTk (v:LV) (B:Bu) (ls:List Nat) (bk:Nat) (sv nv lv:LV):Prop where
 eq:v = .agg [.int .i64 B.L,sv,nv,lv, .int .i64 (bk:Int)]
 st:IsInts sv B.start
 nx:IsNext nv B.next
 lt:IsInts lv (zints ls)
 ok:Vb B
 pos:0<ls.length
 bk:bk<ls.length
 big:ls.length≤200
 let':∀ i,i<ls.length→(ls.getD i 0:Int)<B.L
theorem IsTk.closed {v:LV} {B:Bu} {ls:List Nat} {bk:Nat} {sv nv lv:LV} (h:IsTk v B ls bk sv nv lv):v.closed=true:=by
 rw [h.eq];simp [LV.closed,LV.closed.closedAll,h.st.closed,h.nx.closed,h.lt.closed]
end Go.Proofs.YtgobbogomchnhaaGreatDoor
end
section
set_option linter.unusedSimpArgs false
set_option linter.unusedVariables false
namespace Go.Proofs.YtgobbogomchnhaaGreatDoor
open Go Go.Pv Go.Aut Go.Bfs
open Classical
structure IsPls (v:LV) (ps:List Pl):Prop where
 sl:Sl v (pcells ps) ps.length
 len:ps.length≤1000000
structure FO (s:St) (M:Nat) (pv bv:LV) (acc:Ac Pl):Prop where
 m1:M<s.n
 gM:s.get M=some (.map (pent (acc.map (·.1)) 0))
 sp:SkC s pv 2 (pcells (acc.map (·.1))) acc.length
 sb:SkC s bv 1 (ints (acc.map (·.2))) acc.length
end Go.Proofs.YtgobbogomchnhaaGreatDoor
end
