/- The package variables that the rows list, as plain cells. -/
import Derived.Test.YtkbiecjdcjfhaaaPvChain
set_option linter.unusedSimpArgs false
set_option linter.unusedVariables false
namespace Go.Proofs.Ytkbiecjdcjfhaaa
open Go Go.Pv
def GL:Globs:=[]
def jA (d:Nat) (x:LOp):LOper:=⟨some d,x,none,[],false⟩
def jB (d:Nat) (x:LOp):LOper:=⟨some d,x,none,[],true⟩
def jC (d:Nat) (x:LOp) (k:Nat):LOper:=⟨some d,x,some (k,false),[],false⟩
def jD (d:Nat) (x:LOp) (k:Nat):LOper:=⟨some d,x,some (k,true),[],false⟩
def jE (d:Nat) (x:LOp) (k:Nat):LOper:=⟨some d,x,some (k,true),[],true⟩
def jF (d:Nat) (x:LOp) (k:Nat):LOper:=⟨some d,x,some (k,false),[],true⟩
def jG (n x y:Nat):LOper:=⟨none, .store n (.t x) (.t y),none,[],false⟩
def jH (n x y:Nat):LOper:=⟨none, .store n (.t x) (.t y),none,[],true⟩
def qM (x:Nat):LOp:=.mv (.t x)
def qL (x:Nat):LOp:=.load none (.t x)
def qN (x y:Nat):LOp:=.load (some x) (.t y)
def qF (x y:Nat):LOp:=.faddr x (.t y)
def qS (x:Nat):LOp:=.lenSl (.t x)
def qI (x y z:Nat):LOp:=.iaddr x (.t y) (.t z)
def qA (x:Nat) (y:Int):LOp:=.bin .add (.t x) (.c (.int .i64 y))
def qB (x y:Nat):LOp:=.bin .lss (.t x) (.t y)
def qC (x:Int):LOp:=.mv (.c (.int .i64 x))
def qK (x:Bool):LOp:=.mv (.c (.bool x))
def qO (x:Nat):LOp:=.box true (.t x)
def qP (x y:Nat):LOp:=.pick (.t x) (.c (.bool true)) (.t y)
def qG (f x:Nat):LOp:=.call (.c (.fn (.func f) [] [])) [(.t x)]
def qm (d x:Nat):LOper:=⟨some d, .mv (.t x),none,[],false⟩
def ql (d x:Nat):LOper:=⟨some d, .load none (.t x),none,[],false⟩
end Go.Proofs.Ytkbiecjdcjfhaaa
