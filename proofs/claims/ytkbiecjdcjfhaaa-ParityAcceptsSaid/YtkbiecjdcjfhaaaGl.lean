/- The package variables that the rows list, as plain cells. -/
import Derived.Test.YtkbiecjdcjfhaaaPvChain
set_option linter.unusedSimpArgs false
set_option linter.unusedVariables false
set_option maxRecDepth 100000
set_option maxHeartbeats 16000000
namespace Go.Proofs.Ytkbiecjdcjfhaaa
open Go Go.Pv
def GL:bG:=[]
def jA (d:Nat) (x:aR):bx:=⟨some d,x,none,[],false⟩
def jB (d:Nat) (x:aR):bx:=⟨some d,x,none,[],true⟩
def jC (d:Nat) (x:aR) (k:Nat):bx:=⟨some d,x,some (k,false),[],false⟩
def jD (d:Nat) (x:aR) (k:Nat):bx:=⟨some d,x,some (k,true),[],false⟩
def jE (d:Nat) (x:aR) (k:Nat):bx:=⟨some d,x,some (k,true),[],true⟩
def jF (d:Nat) (x:aR) (k:Nat):bx:=⟨some d,x,some (k,false),[],true⟩
def jG (n x y:Nat):bx:=⟨none, .store n (.t x) (.t y),none,[],false⟩
def jH (n x y:Nat):bx:=⟨none, .store n (.t x) (.t y),none,[],true⟩
def qM (x:Nat):aR:=.mv (.t x)
def qL (x:Nat):aR:=.load none (.t x)
def qN (x y:Nat):aR:=.load (some x) (.t y)
def qF (x y:Nat):aR:=.rQ x (.t y)
def qS (x:Nat):aR:=.xY (.t x)
def qI (x y z:Nat):aR:=.vI x (.t y) (.t z)
def qA (x:Nat) (y:Int):aR:=.bin .add (.t x) (.c (.int .i64 y))
def qB (x y:Nat):aR:=.bin .lss (.t x) (.t y)
def qC (x:Int):aR:=.mv (.c (.int .i64 x))
def qK (x:Bool):aR:=.mv (.c (.bool x))
def qO (x:Nat):aR:=.box true (.t x)
def qP (x y:Nat):aR:=.pick (.t x) (.c (.bool true)) (.t y)
def qG (f x:Nat):aR:=.call (.c (.fn (.func f) [] [])) [(.t x)]
def qm (d x:Nat):bx:=⟨some d, .mv (.t x),none,[],false⟩
def ql (d x:Nat):bx:=⟨some d, .load none (.t x),none,[],false⟩
end Go.Proofs.Ytkbiecjdcjfhaaa
