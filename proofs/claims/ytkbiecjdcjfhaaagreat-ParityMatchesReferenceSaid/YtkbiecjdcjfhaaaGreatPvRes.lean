/- What a call answers may be taken by value. -/
import Derived.Test.YtkbiecjdcjfhaaaGreatPvCall
set_option linter.unusedSimpArgs false
set_option linter.unusedVariables false
set_option maxRecDepth 100000
set_option maxHeartbeats 16000000
namespace Go.Pv
open Go Go.RowKit
theorem zQ {P:Program}{G:bP}{f:LV}{args:List LV}{s:St}{Q:LV->St->Prop}(h:aM P G f args s (λv s'=>∃ r a,cY bp v s'=some (r,a)/\Q r a)):aM P G f args s Q:=by
 intro b d e g w i j c cs k l m n;obtain⟨lv,s1,o,p,q,v,⟨r,s2,t,u⟩,x,y,hx,z,A⟩:=h b d e g w i j c cs k l m n;obtain⟨B,C,D,E,f2⟩:=zy bp lv s1 r s2 p v t y A;exact⟨r,s2,o,B,q,v,u,x,C,hx.trans D,z.trans (Kept.CI f2),E⟩
end Go.Pv
