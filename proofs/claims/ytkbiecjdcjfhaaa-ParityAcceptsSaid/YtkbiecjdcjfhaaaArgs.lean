/- An automaton and a lasso as arguments. -/
import Derived.Test.YtkbiecjdcjfhaaaWod
import Derived.Test.YtkbiecjdcjfhaaaValid
set_option linter.unusedSimpArgs false
set_option linter.unusedVariables false
set_option maxRecDepth 100000
set_option maxHeartbeats 16000000
namespace Go.Proofs.Ytkbiecjdcjfhaaa
open Go Go.Pv
open Classical
theorem rowB:lW Try.prog 9 25=some [.int .i64, .sl [.int .i64], .sl [.sl [.sl [.int .i64, .bool]]]]:=by kernel_rfl
theorem rowL:lW Try.prog 9 27=some [.sl [.int .i64], .sl [.int .i64]]:=by kernel_rfl
theorem argB {v:LV}(h:y6 Try.prog 9 25 v):∃ B d e,zW v B d e/\cF B.L:=by
 obtain⟨row,j,h1,h2,h3⟩:=h;rw[rowB]at h1;cases h1;rw[Try.underlying25]at h3;cases h2 with | cons a h2=>cases h2 with | cons b h2=>cases h2 with | cons c h2=>
 cases h2;obtain⟨L,rfl,f⟩:=Pd a;obtain⟨st,g⟩:=uY b;obtain⟨nx,i⟩:=K5 c;exact⟨⟨L,st,nx⟩,_,_,⟨h3,g,i⟩,f⟩
theorem argL {v:LV}(h:y6 Try.prog 9 27 v):∃ st lo sl c,v = .agg [st,lo]/\aM st sl/\aM lo c:=by
 obtain⟨row,f,h1,h2,h3⟩:=h;rw[rowL]at h1;cases h1;rw[Try.underlying27]at h3;cases h2 with | cons a h2=>cases h2 with | cons b h2=>
 cases h2;obtain⟨sl,d⟩:=uY a;obtain⟨c,e⟩:=uY b;exact⟨_,_,sl,c,h3,d,e⟩
end Go.Proofs.Ytkbiecjdcjfhaaa
