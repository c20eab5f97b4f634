/- What all the walks of this seat begin with. -/
import Derived.Test.YtkbiecjdcjfhaaaLita
import Derived.Test.YtkbiecjdcjfhaaaPvQ
set_option linter.unusedSimpArgs false
set_option linter.unusedVariables false
set_option maxRecDepth 100000
set_option maxHeartbeats 16000000
namespace Go.Proofs.Ytkbiecjdcjfhaaa
open Go Go.Pv
open Classical
theorem hm:Try.prog.follows .mixedOrders=true:=by decide +kernel
abbrev PO (k:Nat) (args:List LV) (r:LV):Prop:=eB Try.prog GL (.fn (.func k) [] []) args r
abbrev PE (k:Nat) (args:List LV) (R:LV->Prop):Prop:=qj Try.prog GL (.fn (.func k) [] []) args R
theorem ez:∀ x∈GL,LV.closed.aq x.2=true:=by decide +kernel
theorem hY {p:Prop} [Decidable p] (h:p):LV.bool true=LV.bool (decide p):=by rw[decide_eq_true h]
theorem b8 {p:Prop} [Decidable p] (h:¬ p):LV.bool false=LV.bool (decide p):=by rw[decide_eq_false h]
def cmpOp:BinOp->Bool
 | .lss | .leq | .gtr | .geq | .eql | .neq=>true
 | _=>false
theorem Ni {P:Program}{G:bG}{K:Env->St->Prop}{l:List bx}{e:Env}{s:St}{d:Nat}{g:Option (Nat × Bool)}{fl:Bool}{op:BinOp}{x y:bz}{a b v:LV}(i:cmpOp op=false) (c:aE g e=some true) (hx:x.ev e=a) (f:y.ev e=b) (h:iA op a b=some v) (k:W P G K l (Tr.set e d v) s):W P G K (⟨some d, .bin op x y,g,[],fl⟩::l) e s:=Il c hx f h k
theorem MB {P:Program}{G:bG}{K:Env->St->Prop}{l:List bx}{e:Env}{s:St}{d:Nat}{g:Option (Nat × Bool)}{fl:Bool}{x:bz}{b:ByteArray}(a:aE g e=some true) (hx:x.ev e = .str b) (k:W P G K l (Tr.set e d (.int .i64 (b.size:Int))) s):W P G K (⟨some d, .xX x,g,[],fl⟩::l) e s:=
 q_op a (by cases fl<;>rfl) (by simp[aR.run,hx]) k
theorem MC {P:Program}{G:bG}{K:Env->St->Prop}{l:List bx}{e:Env}{s:St}{d:Nat}{g:Option (Nat × Bool)}{fl:Bool}{x i:bz}{b:ByteArray}{v:LV}{j:Nat}(a:aE g e=some true) (hx:x.ev e = .str b) (hi:i.ev e=v) (c:idxOf b.size v=some j) (k:W P G K l (Tr.set e d (.int .u8 ((b.data.getD j 0).toNat:Int))) s):W P G K (⟨some d, .pU x i,g,[],fl⟩::l) e s:=
 q_op a (by cases fl<;>rfl) (by simp[aR.run,hx,hi,c]) k
theorem sJ {P:Program}{G:bG}{r:Bool}{n:Nat}{c:bp}{s:St}{Q:Out->Env->St->Prop}{v0:LV}(h:∀ e:Env,e.at 0=v0->Cd P G r n c e s Q):Cd P G r n c (eV [v0]) s Q:=h _ (by rw[bM];rfl)
theorem pF {P:Program}{G:bG}{r:Bool}{n:Nat}{c:bp}{s:St}{Q:Out->Env->St->Prop}{v0 a:LV}(h:∀ e:Env,e.at 0=v0->e.at 1=a->Cd P G r n c e s Q):Cd P G r n c (eV [v0,a]) s Q:=h _ (by rw[bM];rfl) (by rw[bM];rfl)
theorem ev3 {P:Program}{G:bG}{r:Bool}{n:Nat}{c:bp}{s:St}{Q:Out->Env->St->Prop}{v0 a b:LV}(h:∀ e:Env,e.at 0=v0->e.at 1=a->e.at 2=b->Cd P G r n c e s Q):Cd P G r n c (eV [v0,a,b]) s Q:=h _ (by rw[bM];rfl) (by rw[bM];rfl) (by rw[bM];rfl)
theorem ev4 {P:Program}{G:bG}{r:Bool}{n:Nat}{c:bp}{s:St}{Q:Out->Env->St->Prop}{v0 a b v3:LV}(h:∀ e:Env,e.at 0=v0->e.at 1=a->e.at 2=b->e.at 3=v3->Cd P G r n c e s Q):Cd P G r n c (eV [v0,a,b,v3]) s Q:=h _ (by rw[bM];rfl) (by rw[bM];rfl) (by rw[bM];rfl) (by rw[bM];rfl)
theorem ev5 {P:Program}{G:bG}{r:Bool}{n:Nat}{c:bp}{s:St}{Q:Out->Env->St->Prop}{v0 a b v3 v4:LV}(h:∀ e:Env,e.at 0=v0->e.at 1=a->e.at 2=b->e.at 3=v3->e.at 4=v4->Cd P G r n c e s Q):Cd P G r n c (eV [v0,a,b,v3,v4]) s Q:=h _ (by rw[bM];rfl) (by rw[bM];rfl) (by rw[bM];rfl) (by rw[bM];rfl) (by rw[bM];rfl)
theorem ev6 {P:Program}{G:bG}{r:Bool}{n:Nat}{c:bp}{s:St}{Q:Out->Env->St->Prop}{v0 a b v3 v4 v5:LV}(h:∀ e:Env,e.at 0=v0->e.at 1=a->e.at 2=b->e.at 3=v3->e.at 4=v4->e.at 5=v5->Cd P G r n c e s Q):Cd P G r n c (eV [v0,a,b,v3,v4,v5]) s Q:=h _ (by rw[bM];rfl) (by rw[bM];rfl) (by rw[bM];rfl) (by rw[bM];rfl) (by rw[bM];rfl) (by rw[bM];rfl)
theorem ev7 {P:Program}{G:bG}{r:Bool}{n:Nat}{c:bp}{s:St}{Q:Out->Env->St->Prop}{v0 a b v3 v4 v5 d:LV}(h:∀ e:Env,e.at 0=v0->e.at 1=a->e.at 2=b->e.at 3=v3->e.at 4=v4->e.at 5=v5->e.at 6=d->Cd P G r n c e s Q):Cd P G r n c (eV [v0,a,b,v3,v4,v5,d]) s Q:=h _ (by rw[bM];rfl) (by rw[bM];rfl) (by rw[bM];rfl) (by rw[bM];rfl) (by rw[bM];rfl) (by rw[bM];rfl) (by rw[bM];rfl)
structure Bx (q:Prop):Prop where
  out:q
theorem gA {X p q:Prop}(x:X) (k:q) (h:X->Bx q->p:=by
 intro hx k;repeat1' (first
  | apply Dy
  | (first | apply lX | apply Ib | apply Ie | apply Ic | apply Dt | apply Ds | apply Dr | apply M8 | apply M9)
  | apply ig hm | apply Du
  | ((first | apply Ia | apply Ig | apply Na | apply Nf);try simp only[zi,CK,reduceIte,Nat.reduceEqDiff,Nat.succ_ne_self])
  | (apply Dw;(focus (simp only[lk,Nat.reduceEqDiff,reduceIte,Bool.not_true,Bool.not_false];(all_goals first | (apply rA;assumption) | rfl)))) | (apply Dx;(focus (simp only[lk,Nat.reduceEqDiff,reduceIte,Bool.not_true,Bool.not_false];(all_goals first | (apply rA;assumption) | rfl))))
  | ((first | apply u_skip | apply HL);(focus (simp only[lk,Nat.reduceEqDiff,reduceIte,Bool.not_true,Bool.not_false];(all_goals first | (apply rA;assumption) | rfl)));(focus rfl)) | ((first | apply HK | apply C6);(focus (simp only[lk,Nat.reduceEqDiff,reduceIte,Bool.not_true,Bool.not_false];(all_goals first | (apply rA;assumption) | rfl))))
  | ((first | apply ZU | apply HO | apply z8 | apply HN | apply MA | apply Ub | apply Uc | apply Zs | apply Mx | apply HM | apply u_conv | apply C7 | apply Ud | apply MD | apply My | apply Mz | apply HJ | apply Ik | apply Zu | apply MB | apply MC | apply Ni)<;>(first
    | exact wN | (apply wG;(simp only[lk,Nat.reduceEqDiff,reduceIte,Bool.not_true,Bool.not_false];(all_goals first | (apply rA;assumption) | rfl))) | (show W _ _ _ _ _ _)
    | ((first | apply XV | apply UM | apply rA);(simp only[lk,Nat.reduceEqDiff,reduceIte,Bool.not_true,Bool.not_false];(all_goals first | (apply rA;assumption) | rfl))) | (apply n_I;(first | (simp only[u1,eq_self,Nat.reduceAdd,Nat.reduceEqDiff,reduceIte,hx, *];(try rfl);done) | rfl))
    | (apply Jk;(first | rfl | (simp only[u3,u4,if_true,eq_self,reduceIte, *];(try rfl);done))) | (apply E0;(first | assumption | (simp only[u5,eq_self, *];done)))
    | (apply fa_I;simp only[qy,Nat.zero_add,Nat.reduceAdd];rfl)
    | (apply Nx;simp only[Ax];(try rfl);done) | (apply Mm;(first | assumption | (simp only[u1,eq_self,Nat.reduceAdd,Nat.reduceEqDiff,reduceIte,hx, *];(try rfl);done) | rfl)) | exact NW | exact NV
    | (apply D1;(first | rfl | (simp only[u1,eq_self,Nat.reduceAdd,Nat.reduceEqDiff,reduceIte,hx, *];(try rfl);done))) | (apply AS rfl;simp only[u2,hx];(try rfl);done)
    | (apply xW;(focus (simp only[u1,eq_self,Nat.reduceAdd,Nat.reduceEqDiff,reduceIte,hx, *];(try rfl);done));(focus (first | rfl | (simp only[u1,eq_self,Nat.reduceAdd,Nat.reduceEqDiff,reduceIte,hx, *];(try rfl);done)))) | (apply AR;(focus (simp only[u1,eq_self,Nat.reduceAdd,Nat.reduceEqDiff,reduceIte,hx, *];(try rfl);done));(focus rfl);(focus (simp only[u2,hx];(try rfl);done)))
    | (apply Ad;(focus (first | rfl | (simp only[u3,u4,if_true,eq_self,reduceIte, *];(try rfl);done)));(focus (simp only[u1,eq_self,Nat.reduceAdd,Nat.reduceEqDiff,reduceIte,hx, *];(try rfl);done));(focus rfl);(focus rfl);(focus (simp only[splice,List.set_cons_zero,List.set_cons_succ];(try rfl);done)))
    | assumption | rfl | (simp only[u1,eq_self,Nat.reduceAdd,Nat.reduceEqDiff,reduceIte,hx, *];(try rfl);done)))
  | fail)
 exact k.out):p:=h x ⟨k⟩
theorem gB {X p:Prop}{a:Bool}{F:Bool->Prop}(x:X) (k:∀ b,a=b->F b) (h:X->(∀ b,a=b->F b)->p:=by
 intro hx k;(first | ((first | apply Zx | apply Zy | apply Zz | apply ZA | apply ZB | apply Zt | apply q_eq)<;>(first
  | exact wN | (apply wG;(simp only[lk,Nat.reduceEqDiff,reduceIte,Bool.not_true,Bool.not_false];(all_goals first | (apply rA;assumption) | rfl))) | exact k | (apply XV;(simp only[lk,Nat.reduceEqDiff,reduceIte,Bool.not_true,Bool.not_false];(all_goals first | (apply rA;assumption) | rfl))) | assumption | rfl | (simp only[u1,eq_self,Nat.reduceAdd,Nat.reduceEqDiff,reduceIte,hx, *];(try rfl);done))) | fail)):p:=h x k
theorem ef {p:Prop}(h:p:=by
 simp only[svq,Nat.reduceEqDiff,Nat.reduceAdd,Nat.reduceLeDiff,reduceIte,aT,eH,List.map,bC];all_goals first
  | assumption
  | rfl
  | (simp only[*];(try rfl);done)):p:=h
theorem aG:(∀ (p:Prop) [Decidable p],(decide p=true)=p)/\(∀ (p:Prop) [Decidable p],(decide p=false)=¬ p)/\(∀ a b:Int,((a != b)=true)=(a≠b))/\(∀ a b:Int,((a == b)=true)=(a=b))/\(∀ a b:Int,((a != b)=false)=(a=b))/\(∀ a b:Int,((a == b)=false)=(a≠b))/\(∀ a b:Int,(¬ a<b)=(b<=a))/\(∀ a b:Int,(¬ a<=b)=(b<a))/\(∀ a b:Int,(a > b)=(b<a))/\(∀ a b:Int,(a ≥ b)=(b<=a))/\(∀ b:Bool,(¬ b=true)=(b=false))/\((false=true)=False)/\((true=false)=False)/\(∀ (α:Type) (a b:α),(if False then a else b)=b) :=
 ⟨λp _=>propext decide_eq_true_iff,λp _=>propext decide_eq_false_iff_not,λa b=>propext bne_iff_ne,λa b=>propext beq_iff_eq,λa b=>propext (by simp),λa b=>propext (by simp),λa b=>propext Int.not_lt,λa b=>propext Int.not_le,λa b=>rfl,λa b=>rfl,λb=>propext (by simp),propext (by simp),propext (by simp),λ_ _ _=>if_neg id⟩
end Go.Proofs.Ytkbiecjdcjfhaaa
