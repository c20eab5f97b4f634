/- What all the walks of this seat begin with. -/
import Derived.Test.YtkbiecjdcjfhaaaGreatLita
import Derived.Test.YtkbiecjdcjfhaaaGreatPvQ
set_option linter.unusedSimpArgs false
set_option linter.unusedVariables false
set_option maxRecDepth 100000
set_option maxHeartbeats 16000000
namespace Go.Proofs.YtkbiecjdcjfhaaaGreat
open Go Go.Pv
open Classical
theorem hm:Tryz.prog.follows .mixedOrders=true:=by decide +kernel
abbrev PO (k:Nat) (args:List LV) (r:LV):Prop:=fu Tryz.prog GL (.fn (.func k) [] []) args r
abbrev PE (k:Nat) (args:List LV) (R:LV->Prop):Prop:=ny Tryz.prog GL (.fn (.func k) [] []) args R
theorem ff:∀ x∈GL,LV.closed.au x.2=true:=by decide +kernel
theorem gK {p:Prop} [Decidable p] (h:p):LV.bool true=LV.bool (decide p):=by rw[decide_eq_true h]
theorem cg {p:Prop} [Decidable p] (h:¬ p):LV.bool false=LV.bool (decide p):=by rw[decide_eq_false h]
def cmpOp:BinOp->Bool
 | .lss | .leq | .gtr | .geq | .eql | .neq=>true
 | _=>false
theorem O4 {P:Program}{G:bP}{K:Env->St->Prop}{l:List bC}{e:Env}{s:St}{d:Nat}{g:Option (Nat × Bool)}{fl:Bool}{op:BinOp}{x y:bF}{a b v:LV}(i:cmpOp op=false) (c:aK g e=some true) (hx:x.ev e=a) (f:y.ev e=b) (h:kr op a b=some v) (k:W P G K l (Tr.set e d v) s):W P G K (⟨some d, .bin op x y,g,[],fl⟩::l) e s:=q_bin c hx f h k
theorem Oi {P:Program}{G:bP}{K:Env->St->Prop}{l:List bC}{e:Env}{s:St}{d:Nat}{g:Option (Nat × Bool)}{fl:Bool}{x:bF}{b:ByteArray}(a:aK g e=some true) (hx:x.ev e = .str b) (k:W P G K l (Tr.set e d (.int .i64 (b.size:Int))) s):W P G K (⟨some d, .yK x,g,[],fl⟩::l) e s:=
 q_op a (by cases fl<;>rfl) (by simp[bq.run,hx]) k
theorem Oj {P:Program}{G:bP}{K:Env->St->Prop}{l:List bC}{e:Env}{s:St}{d:Nat}{g:Option (Nat × Bool)}{fl:Bool}{x i:bF}{b:ByteArray}{v:LV}{j:Nat}(a:aK g e=some true) (hx:x.ev e = .str b) (c:i.ev e=v) (f:idxOf b.size v=some j) (k:W P G K l (Tr.set e d (.int .u8 ((b.data.getD j 0).toNat:Int))) s):W P G K (⟨some d, .qq x i,g,[],fl⟩::l) e s:=
 q_op a (by cases fl<;>rfl) (by simp[bq.run,hx,c,f]) k
theorem pg {P:Program}{G:bP}{r:Bool}{n:Nat}{c:bx}{s:St}{Q:Out->Env->St->Prop}{v0:LV}(h:∀ e:Env,e.at 0=v0->Cd P G r n c e s Q):Cd P G r n c (fm [v0]) s Q:=h _ (by rw[bS];rfl)
theorem mH {P:Program}{G:bP}{r:Bool}{n:Nat}{c:bx}{s:St}{Q:Out->Env->St->Prop}{v0 a:LV}(h:∀ e:Env,e.at 0=v0->e.at 1=a->Cd P G r n c e s Q):Cd P G r n c (fm [v0,a]) s Q:=h _ (by rw[bS];rfl) (by rw[bS];rfl)
theorem ev3 {P:Program}{G:bP}{r:Bool}{n:Nat}{c:bx}{s:St}{Q:Out->Env->St->Prop}{v0 a b:LV}(h:∀ e:Env,e.at 0=v0->e.at 1=a->e.at 2=b->Cd P G r n c e s Q):Cd P G r n c (fm [v0,a,b]) s Q:=h _ (by rw[bS];rfl) (by rw[bS];rfl) (by rw[bS];rfl)
theorem ev4 {P:Program}{G:bP}{r:Bool}{n:Nat}{c:bx}{s:St}{Q:Out->Env->St->Prop}{v0 a b v3:LV}(h:∀ e:Env,e.at 0=v0->e.at 1=a->e.at 2=b->e.at 3=v3->Cd P G r n c e s Q):Cd P G r n c (fm [v0,a,b,v3]) s Q:=h _ (by rw[bS];rfl) (by rw[bS];rfl) (by rw[bS];rfl) (by rw[bS];rfl)
theorem ev5 {P:Program}{G:bP}{r:Bool}{n:Nat}{c:bx}{s:St}{Q:Out->Env->St->Prop}{v0 a b v3 v4:LV}(h:∀ e:Env,e.at 0=v0->e.at 1=a->e.at 2=b->e.at 3=v3->e.at 4=v4->Cd P G r n c e s Q):Cd P G r n c (fm [v0,a,b,v3,v4]) s Q:=h _ (by rw[bS];rfl) (by rw[bS];rfl) (by rw[bS];rfl) (by rw[bS];rfl) (by rw[bS];rfl)
theorem ev6 {P:Program}{G:bP}{r:Bool}{n:Nat}{c:bx}{s:St}{Q:Out->Env->St->Prop}{v0 a b v3 v4 v5:LV}(h:∀ e:Env,e.at 0=v0->e.at 1=a->e.at 2=b->e.at 3=v3->e.at 4=v4->e.at 5=v5->Cd P G r n c e s Q):Cd P G r n c (fm [v0,a,b,v3,v4,v5]) s Q:=h _ (by rw[bS];rfl) (by rw[bS];rfl) (by rw[bS];rfl) (by rw[bS];rfl) (by rw[bS];rfl) (by rw[bS];rfl)
theorem ev7 {P:Program}{G:bP}{r:Bool}{n:Nat}{c:bx}{s:St}{Q:Out->Env->St->Prop}{v0 a b v3 v4 v5 d:LV}(h:∀ e:Env,e.at 0=v0->e.at 1=a->e.at 2=b->e.at 3=v3->e.at 4=v4->e.at 5=v5->e.at 6=d->Cd P G r n c e s Q):Cd P G r n c (fm [v0,a,b,v3,v4,v5,d]) s Q:=h _ (by rw[bS];rfl) (by rw[bS];rfl) (by rw[bS];rfl) (by rw[bS];rfl) (by rw[bS];rfl) (by rw[bS];rfl) (by rw[bS];rfl)
structure Bx (q:Prop):Prop where
  out:q
theorem gA {X p q:Prop}(x:X) (k:q) (h:X->Bx q->p:=by
 intro hx k;repeat1' (first
  | apply ED
  | (first | apply mN | apply JN | apply JP | apply JO | apply Ey | apply Ex | apply Ew | apply OU | apply OV)
  | apply iC hm | apply Ez
  | ((first | apply JM | apply JQ | apply OW | apply Wv);try simp only[Cg,Dz,reduceIte,Nat.reduceEqDiff,Nat.succ_ne_self])
  | (apply EB;(focus (simp only[lk,Nat.reduceEqDiff,reduceIte,Bool.not_true,Bool.not_false];(all_goals first | (apply sN;assumption) | rfl)))) | (apply EC;(focus (simp only[lk,Nat.reduceEqDiff,reduceIte,Bool.not_true,Bool.not_false];(all_goals first | (apply sN;assumption) | rfl))))
  | ((first | apply u_skip | apply Js);(focus (simp only[lk,Nat.reduceEqDiff,reduceIte,Bool.not_true,Bool.not_false];(all_goals first | (apply sN;assumption) | rfl)));(focus rfl)) | ((first | apply Jr | apply DZ);(focus (simp only[lk,Nat.reduceEqDiff,reduceIte,Bool.not_true,Bool.not_false];(all_goals first | (apply sN;assumption) | rfl))))
  | ((first | apply q_mv | apply Jv | apply A8 | apply Ju | apply Oh | apply VX | apply VY | apply u_un | apply Od | apply Jt | apply u_conv | apply D0 | apply VZ | apply Ol | apply Oe | apply Og | apply Jq | apply JT | apply u_mm | apply Oi | apply Oj | apply O4)<;>(first
    | with_reducible exact wN | (apply wG;(simp only[lk,Nat.reduceEqDiff,reduceIte,Bool.not_true,Bool.not_false];(all_goals first | (apply sN;assumption) | rfl))) | (show W _ _ _ _ _ _)
    | ((first | apply ev_I | apply WA | apply sN);(simp only[lk,Nat.reduceEqDiff,reduceIte,Bool.not_true,Bool.not_false];(all_goals first | (apply sN;assumption) | rfl))) | (apply n_I;(first | (simp only[u1,eq_self,Nat.reduceAdd,Nat.reduceEqDiff,reduceIte,hx, *];(try rfl);done) | rfl))
    | (apply K3;(first | rfl | (simp only[u3,u4,if_true,eq_self,reduceIte, *];(try rfl);done))) | (apply Gh;(first | assumption | (simp only[u5,eq_self, *];done)))
    | (apply fa_I;simp only[rT,Nat.zero_add,Nat.reduceAdd];rfl)
    | (apply Pj;simp only[Br];(try rfl);done) | (apply N7;(first | assumption | (simp only[u1,eq_self,Nat.reduceAdd,Nat.reduceEqDiff,reduceIte,hx, *];(try rfl);done) | rfl)) | exact PR | exact PN
    | (apply iX;(first | rfl | (simp only[u1,eq_self,Nat.reduceAdd,Nat.reduceEqDiff,reduceIte,hx, *];(try rfl);done))) | (apply rM rfl;simp only[u2,hx];(try rfl);done)
    | (apply iW;(focus (simp only[u1,eq_self,Nat.reduceAdd,Nat.reduceEqDiff,reduceIte,hx, *];(try rfl);done));(focus (first | rfl | (simp only[u1,eq_self,Nat.reduceAdd,Nat.reduceEqDiff,reduceIte,hx, *];(try rfl);done)))) | (apply BG;(focus (simp only[u1,eq_self,Nat.reduceAdd,Nat.reduceEqDiff,reduceIte,hx, *];(try rfl);done));(focus rfl);(focus (simp only[u2,hx];(try rfl);done)))
    | (apply Ba;(focus (first | rfl | (simp only[u3,u4,if_true,eq_self,reduceIte, *];(try rfl);done)));(focus (simp only[u1,eq_self,Nat.reduceAdd,Nat.reduceEqDiff,reduceIte,hx, *];(try rfl);done));(focus rfl);(focus rfl);(focus (simp only[splice,List.set_cons_zero,List.set_cons_succ];(try rfl);done)))
    | assumption | rfl | (simp only[u1,eq_self,Nat.reduceAdd,Nat.reduceEqDiff,reduceIte,hx, *];(try rfl);done)))
  | fail)
 exact k.out):p:=h x ⟨k⟩
theorem gB {X p:Prop}{a:Bool}{F:Bool->Prop}(x:X) (k:∀ b,a=b->F b) (h:X->(∀ b,a=b->F b)->p:=by
 intro hx k;(first | ((first | apply u_lss | apply u_leq | apply u_gtr | apply u_geq | apply u_eql | apply u_neq | apply q_eq)<;>(first
  | with_reducible exact wN | (apply wG;(simp only[lk,Nat.reduceEqDiff,reduceIte,Bool.not_true,Bool.not_false];(all_goals first | (apply sN;assumption) | rfl))) | exact k | (apply ev_I;(simp only[lk,Nat.reduceEqDiff,reduceIte,Bool.not_true,Bool.not_false];(all_goals first | (apply sN;assumption) | rfl))) | assumption | rfl | (simp only[u1,eq_self,Nat.reduceAdd,Nat.reduceEqDiff,reduceIte,hx, *];(try rfl);done))) | fail)):p:=h x k
theorem ef {p:Prop}(h:p:=by
 simp only[u6,Nat.reduceEqDiff,Nat.reduceAdd,Nat.reduceLeDiff,reduceIte,bG,iI,List.map,cu];all_goals first
  | assumption
  | rfl
  | (simp only[*];(try rfl);done)):p:=h
theorem DO:(∀ (p:Prop) [Decidable p],(decide p=true)=p)/\(∀ (p:Prop) [Decidable p],(decide p=false)=¬ p)/\(∀ a b:Int,((a != b)=true)=(a≠b))/\(∀ a b:Int,((a == b)=true)=(a=b))/\(∀ a b:Int,((a != b)=false)=(a=b))/\(∀ a b:Int,((a == b)=false)=(a≠b))/\(∀ a b:Int,(¬ a<b)=(b<=a))/\(∀ a b:Int,(¬ a<=b)=(b<a))/\(∀ a b:Int,(a > b)=(b<a))/\(∀ a b:Int,(a ≥ b)=(b<=a))/\(∀ b:Bool,(¬ b=true)=(b=false))/\((false=true)=False)/\((true=false)=False)/\(∀ (α:Type) (a b:α),(if False then a else b)=b) :=
 ⟨λp _=>propext decide_eq_true_iff,λp _=>propext decide_eq_false_iff_not,λa b=>propext bne_iff_ne,λa b=>propext beq_iff_eq,λa b=>propext (by simp),λa b=>propext (by simp),λa b=>propext Int.not_lt,λa b=>propext Int.not_le,λa b=>rfl,λa b=>rfl,λb=>propext (by simp),propext (by simp),propext (by simp),λ_ _ _=>if_neg id⟩
structure Bq (c A d B:Prop):Prop where
  l:c->A
  r:d->B
structure Bi (c A:Prop):Prop where
  l:c->A
theorem Xv {a:Bool}{F:Bool->Prop}{c d:Prop}(h1:(a=false)=c) (h2:(a=true)=d) (k:Bq c (F false) d (F true)):∀ b,a=b->F b:=by
 intro b e;cases b with
 | false=>exact k.l (h1 ▸ e)
 | true=>exact k.r (h2 ▸ e)
theorem Xu {c A d B:Prop}(n:¬ c) (k:Bi d B):Bq c A d B:=⟨λh=>(n h).elim,k.l⟩
theorem Xt {c A d B:Prop}(n:¬ d) (k:Bi c A):Bq c A d B:=⟨k.l,λh=>(n h).elim⟩
theorem Xx {X p q:Prop}(x:X) (k:q) (h:X->Bx q->p:=by
 intro hx k;refine gB @hx ?_;apply Xv;focus ((try simp only[DO,if_false,reduceCtorEq]);exact rfl)
 focus ((try simp only[DO,if_false,reduceCtorEq]);exact rfl)
 (first
  | exact Xu (λa=>by first | (exfalso;omega) | exact a.elim | fail) k.out
  | exact Xt (λa=>by first | (exfalso;omega) | exact a.elim | fail) k.out
  | exact k.out
  | fail)):p:=h x ⟨k⟩
theorem Xw {X p q:Prop}(x:X) (k:q) (h:X->Bx q->p:=by
 intro hx k;refine gB @hx ?_;apply Xv;focus ((try simp only[DO,if_false,reduceCtorEq]);exact rfl)
 focus ((try simp only[DO,if_false,reduceCtorEq]);exact rfl)
 (first
  | exact Xu (λa=>a.elim) k.out
  | exact Xt (λa=>a.elim) k.out
  | exact k.out
  | fail)):p:=h x ⟨k⟩
theorem aH {X p q:Prop}(x:X) (k:q) (h:X->Bx q->p:=by
 intro hx k;(first | exact gA @hx k.out | exact Xx @hx k.out | exact kE k.out | fail)):p:=h x ⟨k⟩
theorem aV {X p q:Prop}(x:X) (k:q) (h:X->Bx q->p:=by
 intro hx k;(first | exact gA @hx k.out | exact Xw @hx k.out | exact kE k.out | fail)):p:=h x ⟨k⟩
theorem dg {X p q:Prop}(x:X) (k:q) (h:X->Bx q->p:=by
 intro hx k;(first | exact gA @hx k.out | exact Xw @hx k.out | fail)):p:=h x ⟨k⟩
theorem dx {K:Env->St->Prop}{l:List bC}{e:Env}{s:St}{g:Option (Nat × Bool)}{fl:Bool}{d kk:Nat}{jT:List (Nat × Option (Nat × Bool) × bq)}{a:List bF}{vs:List LV}{r:LV}(b:PO kk vs r) (h:W Tryz.prog GL K l (Tr.set e d r) s) (f:aK g e=some true:=by
 (first | exact wN | (apply wG;exact ef))) (i:a.map (·.ev e)=vs:=by
 exact ef) (j:dG jT (e.put (some d) r) s:=by
 (first | trivial | (simp only[dG,aK,bq.run,Env.aB,Env.cp,u6,Nat.reduceEqDiff,Nat.reduceAdd,Nat.reduceLeDiff,reduceIte,bG,iI,List.map,cu,beq_self_eq_true,reduceCtorEq,false_or,true_and,and_true,Option.some.injEq, *];done))):W Tryz.prog GL K (⟨some d, .call (.c (.fn (.func kk) [] [])) a,g,jT,fl⟩::l) e s:=tq ff b f i j h
theorem bQ {k:Nat}(h:(k:Int)+1<=9223372036854775807):IntKind.i64.wrap ((k:Int)+1)=((k+1:Nat):Int):=by rw[wrap_i64 _ om om];rfl
theorem lG:maxLen=9223372036854775807:=by decide
theorem aj {a b:Prop}(x:a) (y:b):a/\b:=⟨x,y⟩
theorem ah {c A d B:Prop}(l:c->A) (r:d->B):Bq c A d B:=⟨l,r⟩
theorem af {c A:Prop}(l:c->A):Bi c A:=⟨l⟩
theorem bw {a b:Nat}(h:Nat.ble a b=true:=by rfl):a<=b:=Nat.le_of_ble_eq_true h
theorem br {p:Prop}(h:p:=by decide +kernel):p:=h
end Go.Proofs.YtkbiecjdcjfhaaaGreat
