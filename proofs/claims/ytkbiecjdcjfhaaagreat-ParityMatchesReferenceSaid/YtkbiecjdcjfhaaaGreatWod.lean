/- The word package: the normal lasso. -/
import Derived.Test.YtkbiecjdcjfhaaaGreatWoa
set_option linter.unusedSimpArgs false
set_option linter.unusedVariables false
set_option maxRecDepth 100000
set_option maxHeartbeats 16000000
namespace Go.Proofs.YtkbiecjdcjfhaaaGreat
open Go Go.Pv
open Classical
def nb (sl a:List Int):Nat->Nat->Nat × Nat
 | 0,back=>(0,back)
 | k+1,back=>if sl.getD k 0=a.getD (a.length - 1 - back) 0 then nb sl a k ((back+1) % a.length) else (k+1,back)
end Go.Proofs.YtkbiecjdcjfhaaaGreat
