/- The package variables that the rows list, as plain cells. -/
import Derived.Test.YtkbiecjdcjfhaaaGreatPvChain
set_option linter.unusedSimpArgs false
set_option linter.unusedVariables false
set_option maxRecDepth 100000
set_option maxHeartbeats 16000000
namespace Go.Proofs.YtkbiecjdcjfhaaaGreat
open Go Go.Pv
def GL:bP:=[]
def jA (d:Nat) (x:bq):bC:=⟨some d,x,none,[],false⟩
def jB (d:Nat) (x:bq):bC:=⟨some d,x,none,[],true⟩
def jC (d:Nat) (x:bq) (k:Nat):bC:=⟨some d,x,some (k,false),[],false⟩
def jD (d:Nat) (x:bq) (k:Nat):bC:=⟨some d,x,some (k,true),[],false⟩
def jE (d:Nat) (x:bq) (k:Nat):bC:=⟨some d,x,some (k,true),[],true⟩
def jF (d:Nat) (x:bq) (k:Nat):bC:=⟨some d,x,some (k,false),[],true⟩
def jG (n x y:Nat):bC:=⟨none, .store n (.t x) (.t y),none,[],false⟩
def jH (n x y:Nat):bC:=⟨none, .store n (.t x) (.t y),none,[],true⟩
def qM (x:Nat):bq:=.mv (.t x)
def qL (x:Nat):bq:=.load none (.t x)
def qN (x y:Nat):bq:=.load (some x) (.t y)
def qF (x y:Nat):bq:=.sY x (.t y)
def qS (x:Nat):bq:=.yL (.t x)
def qI (x y z:Nat):bq:=.wj x (.t y) (.t z)
def qA (x:Nat) (y:Int):bq:=.bin .add (.t x) (.c (.int .i64 y))
def qB (x y:Nat):bq:=.bin .lss (.t x) (.t y)
def qC (x:Int):bq:=.mv (.c (.int .i64 x))
def qK (x:Bool):bq:=.mv (.c (.bool x))
def qO (x:Nat):bq:=.box true (.t x)
def qP (x y:Nat):bq:=.pick (.t x) (.c (.bool true)) (.t y)
def qV (x y:Nat):bq:=.pick (.t x) (.t y) (.c (.bool false))
def qU (x:Nat) (y:Int):bq:=.bin .gtr (.t x) (.c (.int .i64 y))
def qW (x:Nat) (y:Int):bq:=.bin .lss (.t x) (.c (.int .i64 y))
def qH (x:Nat) (y:Int):bq:=.bin .eql (.t x) (.c (.int .i64 y))
def qJ (m n x y:Nat):bq:=.append m n (.t x) (.t y)
def qT (x:Nat):bq:=.un .not (.t x)
def qD (x y:Nat):bq:=.ext (.t x) y
def qX   : bq:=.mv (.c .aq)
def qY (x:Nat):bq:=.vD (.t x)
def qG (f x:Nat):bq:=.call (.c (.fn (.func f) [] [])) [(.t x)]
def qm (d x:Nat):bC:=⟨some d, .mv (.t x),none,[],false⟩
def ql (d x:Nat):bC:=⟨some d, .load none (.t x),none,[],false⟩
def qR (l:List bC) (k:bx):bx:=.seq (.region l) k
end Go.Proofs.YtkbiecjdcjfhaaaGreat
