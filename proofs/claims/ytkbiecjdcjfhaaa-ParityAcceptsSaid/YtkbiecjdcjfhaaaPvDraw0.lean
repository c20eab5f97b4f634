/- Drawn regions: what the static checks say; how a run depends on the environment and the small heap. -/
import Derived.Test.YtkbiecjdcjfhaaaPvChain
set_option linter.unusedSimpArgs false
set_option linter.unusedVariables false
set_option maxRecDepth 100000
set_option maxHeartbeats 16000000
section
namespace Go.Pv
open Go Go.RowKit
section congr
variable {e e':Env}{s:St}
theorem bz.congr {x:bz}(h:∀ t∈x.tmps,e.at t=e'.at t):x.ev e=x.ev e':=by
 cases x with
 | t i=>exact h i (by simp[bz.tmps])
 | c v=>rfl
theorem jg {x:Option bz}(h:∀ t∈bC x,e.at t=e'.at t):x.map (·.ev e)=x.map (·.ev e'):=by
 cases x with
 | none=>rfl
 | some x=>simp only[Option.map_some];rw[bz.congr h]
theorem si {l:List bz}(h:∀ t∈l.flatMap (·.tmps),e.at t=e'.at t):l.map (·.ev e)=l.map (·.ev e') :=
 List.map_congr_left λx hx=>bz.congr λt c=>h t (List.mem_flatMap.2 ⟨x,hx,c⟩)
theorem vt {l:List (Nat × Nat × bz)}(h:∀ t∈l.flatMap (λq=>q.2.2.tmps),e.at t=e'.at t):bB e l=bB e' l:=
 List.map_congr_left λx hx=>by rw[bz.congr λt c=>h t (List.mem_flatMap.2 ⟨x,hx,c⟩)]
theorem nq (lo:aR) (h:∀ t∈lo.tmps,e.at t=e'.at t):lo.run e s=lo.run e' s:=by
 cases lo<;>simp only[aR.tmps,List.mem_append]at h<;>try (rfl;done)
 case box i x=>cases i<;>simp only[aR.run,bz.congr h]
 case pick a b c=>simp only[aR.run,bz.congr (x:=a) λt g=>h t (.inl (.inl g)),bz.congr (x:=b) λt g=>h t (.inl (.inr g)),bz.congr (x:=c) λt g=>h t (.inr g)]
 case build z ps=>simp only[aR.run,vt h]
 case bt a b z ps=>simp only[aR.run,vt h]
 case mJ m xs=>simp only[aR.run,si h]
 case su f a b=>simp only[aR.run,si (l:=a) λt g=>h t (.inl g),si (l:=b) λt g=>h t (.inr g)]
 case slice z x a b=>simp only[aR.run,bz.congr (x:=x) λt g=>h t (.inl (.inl g)),jg (x:=a) λt g=>h t (.inl (.inr g)),jg (x:=b) λt g=>h t (.inr g)]
 case pI x a b=>simp only[aR.run,bz.congr (x:=x) λt g=>h t (.inl (.inl g)),jg (x:=a) λt g=>h t (.inl (.inr g)),jg (x:=b) λt g=>h t (.inr g)]
 case ni z k x a b=>simp only[aR.run,bz.congr (x:=x) λt g=>h t (.inl (.inl g)),jg (x:=a) λt g=>h t (.inl (.inr g)),jg (x:=b) λt g=>h t (.inr g)]
 case uH x a b d=>simp only[aR.run,bz.congr (x:=x) λt g=>h t (.inl (.inl (.inl g))),bz.congr (x:=a) λt g=>h t (.inl (.inl (.inr g))),bz.congr (x:=b) λt g=>h t (.inl (.inr g)),bz.congr (x:=d) λt g=>h t (.inr g)]
 case lQ kd a b d=>simp only[aR.run,bz.congr (x:=a) λt g=>h t (.inl (.inl g)),bz.congr (x:=b) λt g=>h t (.inl (.inr g)),bz.congr (x:=d) λt g=>h t (.inr g)]
 case iq x=>
  cases x with
  | none=>rfl
  | some x=>simp only[aR.run,bz.congr (x:=x) h]
 all_goals first
  | (simp only[aR.run,bz.congr h];done)
  | (rename_i a b;simp only[aR.run,bz.congr (x:=a) λt g=>h t (.inl g),bz.congr (x:=b) λt g=>h t (.inr g)];done)
theorem rD {g:Option (Nat × Bool)}(h:∀ d c,g=some (d,c)->e.at d=e'.at d):aE g e=aE g e':=by
 cases g with
 | none=>rfl
 | some p=>simp only[aE,h p.1 p.2 rfl]
end congr
section pure
variable {e:Env}{s s1 s':St}{v:LV}
theorem uM {lo:aR}(hl:gX lo=true) (h:lo.run e s=some (v,s1)):s1=s:=by
 cases lo<;>(try (cases hl;done))<;>simp only[aR.run]at h<;>
  repeat' (first | (cases h;rfl) | (cases h;done) | (obtain⟨_,_,h⟩:=bind_some h) | (split at h))
theorem Kl {lo:aR}(hl:gX lo=true) (d:kF lo=false) (h:lo.run e s=some (v,s)):lo.run e s'=some (v,s'):=by
 cases lo<;>(try (cases hl;done))<;>(try (cases d;done))<;>simp only[aR.run]at h ⊢;all_goals repeat' (first | (cases h;rfl) | (cases h;done) | (rename_i c;cases h;exact if_pos c) | (rename_i c _ _;cases h;exact if_pos c) | (rename_i c _ _ _;cases h;exact if_pos c) | (obtain⟨u,f,h⟩:=bind_some h;simp only[f,Option.bind_eq_bind,Option.bind_some]) | (split at h))
theorem E6 {lo:aR}(hl:jw lo=true) (hs:dA true lo e=true) (h:lo.run e s=some (v,s1)):s1=s/\∀ s',lo.run e s'=some (v,s'):=by
 cases lo<;>(try (cases hl;done));rename_i d x;cases d
 ·cases hl
 ·simp only[dA,Bool.not_true,Bool.false_or]at hs;have f:∀ s:St,cK aY (x.ev e) s=some (x.ev e,s):=λs=>by unfold aY;simp[cK,hs]
  simp only[aR.run,f]at h ⊢;simp only[Option.bind_eq_bind,Option.bind_some]at h ⊢;cases c:cells? (x.ev e) with
  | none=>rw[c]at h;cases h
  | some cs=>
    rw[c]at h;simp only[Option.bind_some]at h ⊢;split at h
    ·cases h
    ·rename_i h0;cases h;exact⟨rfl,λs'=>by rw[if_neg h0]⟩
theorem JJ {lo:aR}(hl:lu lo=true) (h:lo.run e s=some (v,s1)):∃ cs,s1=s.new (.cells .mut cs):=by
 cases lo<;>(try (cases hl;done))
 case box c x=>
  cases c
  ·simp only[aR.run]at h;obtain⟨cs,_,h⟩:=bind_some h;cases h;exact⟨_,rfl⟩
  ·cases hl
 case alloc z=>cases h;exact⟨_,rfl⟩
 case bt=>
  simp only[aR.run]at h;obtain⟨cs,_,h⟩:=bind_some h;cases h;exact⟨_,rfl⟩
 case ct=>
  simp only[aR.run]at h;split at h
  ·split at h
   ·cases h;exact⟨_,rfl⟩
   ·cases h
  ·cases h
end pure
section oH
variable {ops:Array Oper}
theorem LI (acc:List Nat) (b:Nat):∀ (l:List Nat) (x:Nat),(l.foldl (λs j=>s ||| 2 ^ j ||| acc.getD j 0) x).testBit b=true->x.testBit b=true∨∃ j∈l,j=b∨(acc.getD j 0).testBit b=true:=by
 intro l;induction l with
 | nil=>intro x h;exact .inl h
 | cons j l ih=>
   intro x h;rw[List.foldl_cons]at h;rcases ih _ h with h | ⟨c,d,h⟩
   ·simp only[Nat.testBit_or,Nat.testBit_two_pow,Bool.or_eq_true,decide_eq_true_eq]at h;rcases h with (h | h) | h
    ·exact .inl h
    ·exact .inr ⟨j,by simp, .inl h⟩
    ·exact .inr ⟨j,by simp, .inr h⟩
   ·exact .inr ⟨c,List.mem_cons_of_mem _ d,h⟩
theorem LH:∀ (os:List Oper) (acc:List Nat),(∀ i,i<acc.length->(dU os acc).getD i 0=acc.getD i 0) /\
 ∀ k o,os[k]? = some o->∀ b,((dU os acc).getD (acc.length+k) 0).testBit b=true->∃ j∈ff o,j=b∨(j<acc.length+k/\((dU os acc).getD j 0).testBit b=true):=by
 intro os;induction os with
 | nil=>intro acc;exact⟨λi _=>rfl,λk o h=>by simp at h⟩
 | cons o os ih=>
   intro acc;simp only[dU];obtain⟨h1,h2⟩:=ih (acc++[(ff o).foldl (λs j=>s ||| 2 ^ j ||| acc.getD j 0) 0]);have d:∀ i,i<acc.length->(acc++[(ff o).foldl (λs j=>s ||| 2 ^ j ||| acc.getD j 0) 0]).getD i 0=acc.getD i 0:=λi f=>by
    simp[gD,List.getElem?_append_left f]
   refine⟨λi f=>by rw[h1 i (by simp;omega),d i f],λk l ho b c=>?_⟩;cases k with
   | zero=>
     obtain rfl:o=l:=by simpa using ho
     rw[Nat.add_zero,h1 _ (by simp)]at c;have:(acc++[(ff o).foldl (λs j=>s ||| 2 ^ j ||| acc.getD j 0) 0]).getD acc.length 0=(ff o).foldl (λs j=>s ||| 2 ^ j ||| acc.getD j 0) 0:=by simp[gD]
     rw[this]at c;rcases LI acc b _ _ c with c | ⟨j,g,c⟩
     ·simp at c
     ·refine⟨j,g,?_⟩;rcases c with rfl | c
      ·exact .inl rfl
      ·have m:j<acc.length:=by
        by_cases n:j<acc.length
        ·exact n
        ·rw[gD,List.getElem?_eq_none om]at c;simp at c
       exact .inr ⟨by omega,by rw[h1 j (by simp;omega),d j m];exact c⟩
   | succ k=>
     have:=h2 k l (by simpa using ho) b (by simpa[Nat.add_assoc,Nat.add_comm 1 k] using c);obtain⟨j,g,p⟩:=this;refine⟨j,g,p.imp id (λh=>⟨by have:=h.1;simp at this;omega,h.2⟩)⟩
theorem yV {L:Nat->Prop}(m:∀ k,L k->∀ o,ops[k]? = some o->∀ d∈ff o,L d):∀ (i:Nat) (o:Oper),ops[i]? = some o->(∀ d∈ff o,L d)->∀ b,((dU ops.toList []).getD i 0).testBit b=true->L b:=by
 intro i;induction i using Nat.strongRecOn with
 | ind i ih=>
   intro o ho g b n;obtain⟨j,l,h⟩:=(LH ops.toList []).2 i o (by simpa using ho) b (by simpa using n);rcases h with rfl | ⟨p,h⟩
   ·exact g _ l
   ·have q:j<i:=by simpa using p
    have c:∃ f,ops[j]? = some f:=by
     have:i<ops.size:=(Array.getElem?_eq_some_iff.1 ho).1;exact⟨ops[j],by simp⟩
    obtain⟨f,c⟩:=c;exact ih j q f c (m j (g j l) f c) b h
end oH
theorem Hf {ops:Array Oper}{c:List Nat}{base:List mX}{late:mX->Bool} : ∀ (l pre:List mX),w5 ops c base late pre l=true->∀ p x r,l=p++x::r->uc ops c base late (pre++p) x r=true:=by
 intro l;induction l with
 | nil=>intro pre h p x r e;simp at e
 | cons y l ih=>
   intro pre h p x r e;simp only[w5,Bool.and_eq_true]at h;cases p with
   | nil=>
     simp only[List.nil_append,List.cons.injEq]at e;obtain⟨rfl,rfl⟩:=e;simpa using h.1
   | cons z p=>
     simp only[List.cons_append,List.cons.injEq]at e;obtain⟨rfl,rfl⟩:=e;have:=ih (pre++[y]) h.2 p x r rfl;simpa using this
structure vZ (c:Ctx) (ops:Array Oper) (base:List mX) (late:mX->Bool):Prop where
  at_:∀ x∈base,ops[x.1]? = some x.2.1/\dM c ops x.2.1=some x.2.2
  len:base.length=ops.size
  nd:(base.map (·.1)).Nodup
  all:∀ i,i<ops.size->∃ x∈base,x.1=i
  deps:∀ p x r,base=p++x::r->∀ d∈ff x.2.1,∃ y∈p,y.1=d
  wait:∀ p x r,base=p++x::r->cn late x=false->∀ y∈r,cn late y=true->∃ d∈ff y.2.1,∀ z∈p,z.1≠d
  reads:∀ x∈base,∀ y∈base,∀ d,y.2.2.dst=some d->d∈cA ops x->(y.1≠x.1/\((dU ops.toList []).getD x.1 0).testBit y.1=true)∨(late y=true/\(y.1=x.1∨((dU ops.toList []).getD y.1 0).testBit x.1=true))
  dst:∀ x∈base,∀ y∈base,∀ d,x.2.2.dst=some d->y.2.2.dst=some d->x.1=y.1
  later:∀ p x r,base=p++x::r->∀ y∈p,∀ d,x.2.2.dst=some d->d∈cA ops y->late x=true/\((dU ops.toList []).getD x.1 0).testBit y.1=true
  Z8:∀ x∈base,kF x.2.2.op=true->∃ d,x.2.2.dst=some d
  makes:∀ x∈base,lu x.2.2.op=true->Op.makes x.2.1.op=true
  Z9:∀ x,late x=true->gX x.2.2.op=true
theorem yI {c:Ctx}{ops:Array Oper}{ls:List (List bx)}(h:uf c ops=some ls) :
 ∃ (late:mX->Bool) (u:List Nat),u.Nodup/\(∀ i∈u,i<ops.size)/\(∃ base,vZ c ops base late)/\∀ t∈exts (dU ops.toList []) u.length u,∃ base,vZ c ops base late/\drawn (dU ops.toList []) [] base∈ls/\(base.filter λx=>!cn late x).map (·.1)=t/\∀ x∈base,(x.1∈u↔cn late x=false):=by
 unfold uf at h;dsimp only at h;split at h
 ·cases h
 ·rename_i all X;split at h
  ·rename_i D;obtain⟨hl,Y⟩:=iK X;have B:∀ (j:Nat) (x:mX),all[j]? = some x->x.1=j/\ops[j]? = some x.2.1/\dM c ops x.2.1=some x.2.2:=by
    intro j x hx;have m:=(List.getElem?_eq_some_iff.1 hx).1;obtain⟨y,g,f⟩:=Y j (by rw[<- hl];exact m);rw[hx]at g;cases g;have A:(List.range ops.size)[j]=j:=by simp
    rw[A]at f;obtain⟨o,ho,f⟩:=bind_some f;obtain⟨lo,D,f⟩:=bind_some f;cases f;exact⟨rfl,ho,D⟩
   obtain⟨KW,Z⟩:=iK h;have R:all.map (·.1)=List.range ops.size:=by
    apply List.ext_getElem?;intro j;rw[List.getElem?_map];cases hx:all[j]? with
    | none=>
      have h1:=List.getElem?_eq_none_iff.1 hx;rw[hl,List.length_range]at h1;rw[List.getElem?_eq_none (by simpa using h1)];rfl
    | some x=>
      have h1:=(List.getElem?_eq_some_iff.1 hx).1;rw[hl,List.length_range]at h1;rw[List.getElem?_range h1,Option.map_some,(B j x hx).1]
   have T:∀ t∈exts (dU ops.toList []) ((all.filter λx=>!cn (iN ops (dU ops.toList []) all) x).map (·.1)).length ((all.filter λx=>!cn (iN ops (dU ops.toList []) all) x).map (·.1)),∃ base,vZ c ops base (iN ops (dU ops.toList []) all)/\drawn (dU ops.toList []) [] base∈ls/\(base.filter λx=>!cn (iN ops (dU ops.toList []) all) x).map (·.1)=t/\∀ x∈base,(x.1∈(all.filter λx=>!cn (iN ops (dU ops.toList []) all) x).map (·.1)↔cn (iN ops (dU ops.toList []) all) x=false):=by
    intro t E;obtain⟨j,m,he⟩:=List.getElem_of_mem E;obtain⟨l,Fp,f⟩:=Z j m;rw[he]at f;unfold Jh at f;split at f
    ·cases f
    ·rename_i base F;split at f
     ·rename_i hc;obtain⟨h1,h2,h3,h5,h4⟩:=hc;cases f;obtain⟨qw,H⟩:=iK F;have U:∀ x∈base,∃ j:Nat,all[j]? = some x:=by
       intro x hx;obtain⟨j,m,rfl⟩:=List.getElem_of_mem hx;obtain⟨y,g,f⟩:=H j (by rw[<- qw];exact m);have:base[j]=y:=by simpa[m] using g
       rw[this];exact⟨_,f⟩
      have I9:∀ x∈base,ops[x.1]? = some x.2.1/\dM c ops x.2.1=some x.2.2:=by
       intro x hx;obtain⟨j,m⟩:=U x hx;obtain⟨k1,k2,k3⟩:=B j x m;rw[k1];exact⟨k2,k3⟩
      have q:∀ p x r,base=p++x::r->uc ops (dU ops.toList []) base (iN ops (dU ops.toList []) all) p x r=true:=λp x r e=>by
       have:=Hf base [] h4 p x r e;simpa using this
      have C:∀ x∈base,∃ p r,base=p++x::r:=λx hx=>List.append_of_mem hx;simp only[uc,Bool.and_eq_true]at q;refine⟨base,⟨I9,h1,h2,?_,?_,?_,?_,?_,?_,?_,?_,?_⟩,List.mem_of_getElem? Fp,h5,λx hx=>?_⟩
      ·intro i I;have:=List.all_eq_true.1 h3 i (by simpa using I);simp only[List.contains_eq_mem,List.mem_map,decide_eq_true_eq]at this;exact this
      ·intro p x r e d n;obtain⟨⟨⟨⟨⟨⟨a1,a2⟩,a3⟩,a4⟩,a5⟩,a6⟩,a7⟩:=q p x r e;have:=List.all_eq_true.1 a1 d n;simpa using this
      ·intro p x r e uX y g J;obtain⟨⟨⟨⟨⟨⟨a1,a2⟩,a3⟩,a4⟩,a5⟩,a6⟩,a7⟩:=q p x r e;rw[uX,Bool.false_or]at a2;have:=List.all_eq_true.1 a2 y g;rw[J]at this;simp only[Bool.not_true,Bool.false_or,List.any_eq_true,Bool.not_eq_true',List.contains_eq_mem,List.mem_map,decide_eq_false_iff_not,not_exists,not_and]at this;obtain⟨d,n,hz⟩:=this;exact⟨d,n,λz L=>hz z L⟩
      ·intro x hx y g d n A;obtain⟨p,r,e⟩:=C x hx;obtain⟨⟨⟨⟨⟨⟨a1,a2⟩,a3⟩,a4⟩,a5⟩,a6⟩,a7⟩:=q p x r e;have:=List.all_eq_true.1 a3 y g;rw[n]at this;simpa[A] using this
      ·intro x hx y g d n wA;obtain⟨p,r,e⟩:=C x hx;obtain⟨⟨⟨⟨⟨⟨a1,a2⟩,a3⟩,a4⟩,a5⟩,a6⟩,a7⟩:=q p x r e;have:=List.all_eq_true.1 a4 y g;rw[wA]at this;simpa[n] using this
      ·intro p x r e y g d n A;obtain⟨⟨⟨⟨⟨⟨a1,a2⟩,a3⟩,a4⟩,a5⟩,a6⟩,a7⟩:=q p x r e;have:=List.all_eq_true.1 a5 y g;rw[n]at this;simpa[A] using this
      ·intro x hx hl;obtain⟨p,r,e⟩:=C x hx;obtain⟨⟨⟨⟨⟨⟨a1,a2⟩,a3⟩,a4⟩,a5⟩,a6⟩,a7⟩:=q p x r e;rw[hl]at a6;simpa[Option.isSome_iff_exists] using a6
      ·intro x hx hl;obtain⟨p,r,e⟩:=C x hx;obtain⟨⟨⟨⟨⟨⟨a1,a2⟩,a3⟩,a4⟩,a5⟩,a6⟩,a7⟩:=q p x r e;rw[hl]at a7;simpa using a7
      ·intro x hx;unfold iN at hx;rw[Bool.and_eq_true]at hx;exact hx.1
      ·obtain⟨j,m⟩:=U x hx;have M:x∈all:=List.mem_of_getElem? m;constructor
       ·intro hm;obtain⟨y,g,UQ⟩:=List.mem_map.1 hm;obtain⟨N,O⟩:=List.mem_filter.1 g;obtain⟨V,Q⟩:=List.mem_iff_getElem?.1 N;have e1:=(B j x m).1;have e2:=(B V y Q).1;have:j=V:=by omega
        subst this;rw[m]at Q;cases Q;simpa using O
       ·intro f;exact List.mem_map.2 ⟨x,List.mem_filter.2 ⟨M,by simp[f]⟩,rfl⟩
     ·cases f
   refine⟨iN ops (dU ops.toList []) all,(all.filter λx=>!cn (iN ops (dU ops.toList []) all) x).map (·.1),?_,?_,?_,T⟩
   ·have hs:(List.map (·.1) (all.filter λx=>!cn (iN ops (dU ops.toList []) all) x)).Sublist (all.map (·.1)):=List.filter_sublist.map _;rw[R]at hs;exact hs.nodup List.nodup_range
   ·intro i I;obtain⟨x,hx,rfl⟩:=List.mem_map.1 I;have hm:x.1∈all.map (·.1):=List.mem_map_of_mem (List.mem_filter.1 hx).1;rw[R]at hm;simpa using hm
   ·cases hx:exts (dU ops.toList []) ((all.filter λx=>!cn (iN ops (dU ops.toList []) all) x).map (·.1)).length ((all.filter λx=>!cn (iN ops (dU ops.toList []) all) x).map (·.1)) with
    | nil=>have:=D.2;rw[hx]at this;cases this
    | cons t r=>
      obtain⟨base,K,_⟩:=T t (by rw[hx];simp);exact⟨base,K⟩
  ·cases h
def qo (e:Env) (lo:bx) (v:LV):Prop:=∀ d,lo.dst=some d->e.at d=v
def POk (d:Nat->Option Nat) (μ:Mu) (e:Env) (s:St) (x:mX):Prop:=
 (aE x.2.2.guard e=some false/\qo e x.2.2 (.cy [])) ∨
 (aE x.2.2.guard e=some true/\lu x.2.2.op=false/\(gX x.2.2.op=true∨(jw x.2.2.op=true/\dA true x.2.2.op e=true))/\∃ v,qo e x.2.2 v/\x.2.2.op.run e s=some (v,s)) ∨
 (aE x.2.2.guard e=some true/\lu x.2.2.op=true/\∃ c cs v,d x.1=some c.n/\x.2.2.op.run e c=some (v,c.new (.cells .mut cs))/\qo e x.2.2 v/\μ c.n=none/\s.get c.n=some (.cells .mut cs))
section
variable {P:Program}{G:bG}{refs:List Nat}{nt:Nat}{ops:Array Oper}{base:List mX}{late:mX->Bool}{w0:Bs}{δ:Nat->Prop}{μs μ:Mu}{HE ι:Io}{ss s:St}{ws w:World}{e:Env}{a:Act}{b:Frame}{k:List Item}{cs:List Frame}
theorem POk.congr {c p:Nat->Option Nat}{q:Mu}{e':Env}{s':St}{x:mX}(h:POk c μ e s x) (m:∀ t∈cA ops x,e'.at t=e.at t) (B:∀ d,x.2.2.dst=some d->e'.at d=e.at d)
 (C:∀ id,c x.1=some id->p x.1=some id) (hs:∀ id,c x.1=some id->μ id=none->s'.get id=s.get id) (hm:∀ id,c x.1=some id->μ id=none->q id=none)
 (D:kF x.2.2.op=true->aE x.2.2.guard e'=some true->∀ v,qo e' x.2.2 v->x.2.2.op.run e s=some (v,s)->x.2.2.op.run e' s'=some (v,s')):POk p q e' s' x:=by
 have i:aE x.2.2.guard e'=aE x.2.2.guard e:=rD λd r E=>m d (by simp[cA,E]);have u:∀ s,x.2.2.op.run e' s=x.2.2.op.run e s:=λs=>nq _ λt n=>m t (by simp[cA,n]);have j:∀ v,qo e x.2.2 v->qo e' x.2.2 v:=λv h d z=>(B d z).trans (h d z);rcases h with⟨h1,h2⟩ | ⟨h1,h2,h3,v,l,f⟩ | ⟨h1,h2,F,cs,v,h3,l,f,h6,H⟩
 ·exact .inl ⟨i.trans h1,j _ h2⟩
 ·refine .inr (.inl ⟨i.trans h1,h2,?_,v,j _ l,?_⟩)
  ·refine h3.imp id (λh=>⟨h.1,?_⟩);have g:=h.2;cases A:x.2.2.op<;>rw[A]at g<;>try rfl
   rename_i I y;cases I
   ·rfl
   ·have:y.ev e'=y.ev e:=bz.congr λt n=>m t (by simp[cA,A,aR.tmps,n]);simpa[dA,this] using g
  ·by_cases hl:kF x.2.2.op=true
   ·exact D hl (i.trans h1) v (j _ l) f
   ·rw[u];rcases h3 with h3 | ⟨h3,o⟩
    ·exact Kl h3 (by simpa using hl) f
    ·exact (E6 h3 o f).2 s'
 ·exact .inr (.inr ⟨i.trans h1,h2,F,cs,v,C _ h3,by rw[u];exact l,j _ f,hm _ h3 h6,by rw[hs _ h3 h6];exact H⟩)
structure Mf (P:Program) (G:bG) (nt:Nat) (ops:Array Oper) (base:List mX) (late:mX->Bool) (w0:Bs) (δ:Nat->Prop) (μs:Mu) (HE:Io) (ss:St) (ws:World)
    (b9 pre rest:List mX) (aN:Array Bool) (pid:Nat->Option Nat) (μ:Mu) (ι:Io) (e:Env) (s:St) (w:World) (a:Act):Prop where
  now:CF P G w0 μ ι δ s w
  size:a.tmps.size=nt
  re:∀ t,(∀ x∈b9,x.2.2.dst≠some t)->Rv μ ι w (e.at t) (a.tmps.getD t undef)
  pok:∀ x∈b9,POk pid μ e s x
  Nv:∀ i j id,pid i=some id->pid j=some id->i=j
  LQ:∀ i id,pid i=some id->id<s.n/\ss.n<=id
  flt:∀ x∈b9,cn late x=true
  Wl:aN.size=ops.size
  zw:∀ x∈base,(aN.getD x.1 false=true↔x ∉ b9/\x ∉ rest)
  cls:∀ k,aN.getD k false=true->∀ o,ops[k]? = some o->∀ d∈ff o,aN.getD d false=true
  base:base=pre++rest
  sub:∀ x∈b9,x∈pre
  nd:b9.Nodup
  ext:Ext μs HE δ ws μ ι δ w
  kept:Kept μs ss μ s
theorem key_inj (K:vZ ⟨P,G,refs,nt⟩ ops base late) {x y:mX}(hx:x∈base) (c:y∈base) (h:x.1=y.1):x=y:=by
 obtain⟨h1,h2⟩:=K.at_ x hx;obtain⟨h3,d⟩:=K.at_ y c;rw[h]at h1;have ho:x.2.1=y.2.1:=Option.some.inj (h1.symm.trans h3);rw[ho]at h2;have hl:x.2.2=y.2.2:=Option.some.inj (h2.symm.trans d);exact Prod.ext h (Prod.ext ho hl)
theorem Qd:∀ {l:List (Nat × Option (Nat × Bool) × aR)}{e:Env}{s:St},cH l e s->∀ q∈l,aE q.2.1 e=some false∨(aE q.2.1 e=some true/\q.2.2.run e s=some (e.at q.1,s)):=by
 intro l;induction l with
 | nil=>intro e s _ q c;exact absurd c (List.not_mem_nil)
 | cons p l ih=>
   intro e s h q c;obtain⟨h1,h2⟩:=h;rcases List.mem_cons.1 c with rfl | c
   ·exact h1
   ·exact ih h2 q c
theorem E1 {c:List Nat}{pre:List mX}{x y:mX}{e':Env}{s':St}(g:cH (vW c pre x) e' s') (hx:(gX x.2.2.op || jw x.2.2.op)=false) (i:y∈pre) (hl:kF y.2.2.op=true)
 (f:∃ d,y.2.2.dst=some d) (j:lu x.2.2.op=true∨(c.getD x.1 0).testBit y.1=false) (l:aE y.2.2.guard e'=some true) {v:LV}(m:qo e' y.2.2 v):y.2.2.op.run e' s'=some (v,s'):=by
 obtain⟨d,f⟩:=f;have hm:(d,y.2.2.guard,y.2.2.op)∈vW c pre x:=by
  unfold vW;rw[hx];simp only[Bool.false_eq_true,if_false];refine List.mem_filterMap.2 ⟨y,i,?_⟩;have:(kF y.2.2.op && (lu x.2.2.op || !(c.getD x.1 0).testBit y.1))=true:=by
   rw[hl,Bool.true_and];rcases j with h | h<;>rw[h]<;>simp
  rw[if_pos this,f];rfl
 rcases Qd g _ hm with h | ⟨_,h⟩
 ·rw[l]at h;cases h
 ·simp only at h;rw[m d f]at h;exact h
theorem Mf.Py (K:vZ ⟨P,G,refs,nt⟩ ops base late) {T:Env->St->Prop} : ∀ (rest:List mX) (u pre:List mX) (B:Array Bool) (m:Nat->Option Nat) (e:Env) (s:St),
 Mf P G nt ops base late w0 δ μs HE ss ws u pre rest B m μ ι e s w a->dy P G (drawn (dU ops.toList []) pre rest) e s T ->
 ∃ fR E q p e' s',Mf P G nt ops base late w0 δ μs HE ss ws fR E q B p μ ι e' s' w a/\dy P G (drawn (dU ops.toList []) E q) e' s' T /\
   (q=[]∨∃ x r,q=x::r/\cn late x=false)/\fR.length+q.length=u.length+rest.length/\(q.filter λx=>!cn late x)=(rest.filter λx=>!cn late x):=by
 intro rest;induction rest with
 | nil=>intro u pre B m e s S h;exact⟨u,pre,[],m,e,s,S,h, .inl rfl,rfl,rfl⟩
 | cons x rest ih=>
   intro u pre B m e s S h;cases A:cn late x with
   | false=>exact⟨u,pre,x::rest,m,e,s,S,h, .inr ⟨x,rest,rfl,A⟩,rfl,rfl⟩
   | true=>
     have L:wT x.2.2.op=true:=by
      unfold cn at A;rw[Bool.and_eq_true]at A;exact A.1
     have fG:late x=false:=by
      unfold cn at A;rw[Bool.and_eq_true]at A;simpa using A.2
     have M:x∈base:=by rw[S.base];simp
     have U:∀ y∈pre,y∈base:=λy c=>by rw[S.base];exact List.mem_append_left _ c
     have gK:(pre++x::rest).Nodup:=by
      have:=K.nd;rw[S.base]at this;exact List.Pairwise.of_map (·.1) (λa b h e=>h (by rw[e])) this
     have Z:x ∉ pre:=λh=>(List.nodup_append.1 gK).2.2 x h x (by simp) rfl;have Ol:x ∉ rest:=(List.nodup_cons.1 (List.nodup_append.1 gK).2.1).1;have yj:∀ y∈pre,∀ d,x.2.2.dst=some d->d ∉ cA ops y:=λy c d o I=>by
      have:=(K.later pre x rest S.base y c d o I).1;rw[fG]at this;cases this
     have Ts:∀ v t,x.2.2.dst≠some t->(e.put x.2.2.dst v).at t=e.at t:=λv t l=>by
      cases o:x.2.2.dst with
      | none=>rfl
      | some d=>rw[o]at l;rw[Env.au,Env.qg,if_neg (λh=>l (by rw[h]))]
     have N:∀ v,∀ y∈u,∀ t∈cA ops y,(e.put x.2.2.dst v).at t=e.at t:=λv y c t l=>Ts v t λo=>yj y (S.sub y c) t o l;have go:∀ (v:LV) (s':St) (p:Nat->Option Nat),(s'=s/\p=m)∨(∃ J,s'=s.new J/\p=λi=>if i=x.1 then some s.n else m i) ->
      (∀ y∈u,kF y.2.2.op=true->aE y.2.2.guard (e.put x.2.2.dst v)=some true->∀ v',qo (e.put x.2.2.dst v) y.2.2 v'->y.2.2.op.run e s=some (v',s)->y.2.2.op.run (e.put x.2.2.dst v) s'=some (v',s')) ->
      POk p μ (e.put x.2.2.dst v) s' x ->
      Mf P G nt ops base late w0 δ μs HE ss ws (x::u) (pre++[x]) rest B p μ ι (e.put x.2.2.dst v) s' w a:=by
      intro v s' p hs dS hx;have F:∀ t,x.2.2.dst≠some t->(e.put x.2.2.dst v).at t=e.at t:=λt l=>by
       cases o:x.2.2.dst with
       | none=>rfl
       | some d=>rw[o]at l;rw[Env.au,Env.qg,if_neg (λh=>l (by rw[h]))]
      have C:Inv (rq P G) w0 μ ι δ s' w/\Kept μ s μ s':=by
       rcases hs with⟨rfl,_⟩ | ⟨J,rfl,_⟩
       ·exact⟨S.now.inv,Kept.refl _ _⟩
       ·exact⟨S.now.inv.RU J,by simp,λid V _=>by rw[St.az,if_neg om],λ_ _ h=>h⟩
      have wm:∀ y∈u,∀ id,m y.1=some id->p y.1=some id/\s'.get id=s.get id:=by
       intro y c id V;have dH:y.1≠x.1:=λh=>Z ((key_inj K (U y (S.sub y c)) M h) ▸ S.sub y c);rcases hs with⟨rfl,rfl⟩ | ⟨J,rfl,rfl⟩
       ·exact⟨V,rfl⟩
       ·exact⟨by simp only[if_neg dH];exact V,by rw[St.az,if_neg (by have:=(S.LQ _ _ V).1;omega)]⟩
      refine⟨⟨C.1,S.now.Pz,S.now.own⟩,S.size,λt l=>?_,λy c=>?_,?_,?_,?_,S.Wl,λy c=>?_,S.cls,by rw[S.base];simp,?_,?_,S.ext,S.kept.trans C.2⟩
      ·rw[F t (l x (by simp))];exact S.re t λy c=>l y (List.mem_cons_of_mem _ c)
      ·rcases List.mem_cons.1 c with rfl | c
       ·exact hx
       ·refine (S.pok y c).congr (ops:=ops) (λt l=>F t λo=>yj y (S.sub y c) t o l) (λd o=>F d λwA=>?_) (λid h=>(wm y c id h).1) (λid h _=>(wm y c id h).2) (λ_ _ h=>h) (dS y c);exact Z ((key_inj K (U y (S.sub y c)) M (K.dst y (U y (S.sub y c)) x M d o wA)) ▸ S.sub y c)
      ·rcases hs with⟨_,rfl⟩ | ⟨J,_,rfl⟩
       ·exact S.Nv
       ·intro i j id z O;dsimp only at z O;split at z<;>split at O
        ·omega
        ·cases z;have:=(S.LQ _ _ O).1;omega
        ·cases O;have:=(S.LQ _ _ z).1;omega
        ·exact S.Nv i j id z O
      ·rcases hs with⟨rfl,rfl⟩ | ⟨J,rfl,rfl⟩
       ·exact S.LQ
       ·intro i id z;dsimp only at z;split at z
        ·cases z;exact⟨by simp,S.kept.n⟩
        ·have:=S.LQ i id z;exact⟨by simp;omega,this.2⟩
      ·intro y c;rcases List.mem_cons.1 c with rfl | c
       ·exact A
       ·exact S.flt y c
      ·rw[S.zw y c];simp only[List.mem_cons,not_or];constructor
       ·rintro⟨h1,h2,h3⟩;exact⟨⟨h2,h1⟩,h3⟩
       ·rintro⟨⟨h2,h1⟩,h3⟩;exact⟨h1,h2,h3⟩
      ·intro y c;rcases List.mem_cons.1 c with rfl | c
       ·simp
       ·exact List.mem_append_left _ (S.sub y c)
      ·exact List.nodup_cons.2 ⟨λh=>Z (S.sub x h),S.nd⟩
     have AZ:∀ t∈cA ops x,x.2.2.dst≠some t:=λt l o=>by
      rcases K.reads x M x M t o l with h | h
      ·exact h.1 rfl
      ·rw[fG]at h;cases h.1
     have F:∀ v t,t∈cA ops x->(e.put x.2.2.dst v).at t=e.at t:=λv t l=>by
      cases o:x.2.2.dst with
      | none=>rfl
      | some d=>rw[Env.au,Env.qg,if_neg (λh=>AZ t l (by rw[o,h]))]
     have jy:∀ v,aE x.2.2.guard (e.put x.2.2.dst v)=aE x.2.2.guard e:=λv=>rD λd want hg=>F v d (by simp[cA,hg]);have vL:∀ v s,x.2.2.op.run (e.put x.2.2.dst v) s=x.2.2.op.run e s:=λv s=>nq _ λt l=>F v t (by simp[cA,l]);have CW:∀ v,qo (e.put x.2.2.dst v) x.2.2 v:=λv d o=>by rw[o];simp
     have cx:jv x.2.2.op=false:=by
      cases hc:jv x.2.2.op with
      | false=>rfl
      | true=>
        exfalso;rcases jM hc with⟨f,as,hh⟩ | ⟨f,hh⟩ | ⟨n,f,g,hh⟩<;>rw[hh]at L<;>cases L
     have done:∀ p v s',Mf P G nt ops base late w0 δ μs HE ss ws (x::u) (pre++[x]) rest B p μ ι (e.put x.2.2.dst v) s' w a->dy P G (drawn (dU ops.toList []) (pre++[x]) rest) (e.put x.2.2.dst v) s' T ->
      ∃ fR E q p e' s',Mf P G nt ops base late w0 δ μs HE ss ws fR E q B p μ ι e' s' w a/\dy P G (drawn (dU ops.toList []) E q) e' s' T /\
      (q=[]∨∃ x r,q=x::r/\cn late x=false)/\fR.length+q.length=u.length+(x::rest).length/\(q.filter λx=>!cn late x)=((x::rest).filter λx=>!cn late x):=by
      intro p v s' S' h';obtain⟨fR,E,q,p,e',s',r1,r2,r3,r4,r5⟩:=ih (x::u) (pre++[x]) B p _ s' S' h';exact⟨fR,E,q,p,e',s',r1,r2,r3,by rw[r4];simp;omega,by rw[r5,List.filter_cons_of_neg (by simp[A])]⟩
     simp only[drawn,dy]at h;split at h
     ·exact h.elim
     ·rename_i X;exact done m (.cy []) s (go (.cy []) s m (.inl ⟨rfl,rfl⟩) (λy c hl H v' hv I=>by
       rw[<- I];exact nq _ λt l=>N _ y c t (by simp[cA,l])) (.inl ⟨(jy _).trans X,CW _⟩)) h
     ·rename_i X;obtain⟨v,s',Q,dO,oS,kJ⟩:=xM h cx;have hrd:∀ y∈u,∀ s,y.2.2.op.run (e.put x.2.2.dst v) s=y.2.2.op.run e s:=λy c s=>nq _ λt l=>N v y c t (by simp[cA,l]);cases D:lu x.2.2.op with
      | true=>
        obtain⟨cs,rfl⟩:=JJ D Q;refine done _ v _ (go v _ _ (.inr ⟨_,rfl,rfl⟩) (λy c hl H v' hv I=>?_) (.inr (.inr ⟨(jy v).trans X,D,s,cs,v,if_pos rfl,by rw[vL];exact Q,CW v,?_,by rw[St.az,if_pos rfl]⟩))) kJ
        ·exact E1 oS (by cases Y:x.2.2.op<;>rw[Y]at D<;>first | (cases D;done) | rfl | (rename_i im _;cases im<;>first | rfl | cases D)) (S.sub y c) hl (K.Z8 y (U y (S.sub y c)) hl) (.inl D) H hv
        ·exact S.now.inv.mu_n
      | false=>
        have R:gX x.2.2.op=true∨jw x.2.2.op=true:=by
         unfold wT at L;rw[D,Bool.or_false,Bool.or_eq_true]at L;exact L
        have QF:s'=s:=by
         rcases R with hl | hl
         ·exact uM hl Q
         ·exact (E6 hl dO Q).1
        subst QF;refine done _ v _ (go v s' m (.inl ⟨rfl,rfl⟩) (λy c hl H v' hv I=>by rw[hrd y c];exact I) (.inr (.inl ⟨(jy v).trans X,D,?_,v,CW v,by rw[vL];exact Q⟩))) kJ;refine R.imp id λhb=>⟨hb,?_⟩;cases Y:x.2.2.op<;>try rfl
        rename_i im y;cases im
        ·rfl
        ·have:y.ev (e.put x.2.2.dst v)=y.ev e:=bz.congr λt l=>F v t (by simp[cA,Y,aR.tmps,l]);rw[Y]at dO;simpa[dA,this] using dO
end
theorem vo (a:Act) (d:Option Nat) (x:Value) (t:Nat) (h:d≠some t):(a.put d x).tmps.getD t undef=a.tmps.getD t undef:=by
 cases d with
 | none=>rfl
 | some d=>
   have dH:d≠t:=λe=>h (by rw[e]);simp[Act.put,gF,dH]
theorem vp (a:Act) (d:Nat) (x:Value) (h:d<a.tmps.size):(a.put (some d) x).tmps.getD d undef=x:=by
 simp[Act.put,gF,h]
theorem ov (e:Env) (d:Option Nat) (v:LV) (t:Nat) (h:d≠some t):(e.put d v).at t=e.at t:=by
 cases d with
 | none=>rfl
 | some d=>rw[Env.au,Env.qg,if_neg (λe=>h (by rw[e]))]
theorem sC (l:Array Bool) (i j:Nat) (hi:i<l.size):(l.setIfInBounds i true).getD j false=if j=i then true else l.getD j false:=by
 by_cases h:j=i
 ·subst h;simp[gF,hi]
 ·have c:i≠j:=Ne.symm h;simp[gF,h,c]
section
variable {P:Program}{G:bG}{refs:List Nat}{nt:Nat}{ops:Array Oper}{base:List mX}{late:mX->Bool}{w0:Bs}{δ:Nat->Prop}{μs μ:Mu}{HE ι:Io}{ss s:St}{ws w:World}{e:Env}{a:Act}{b:Frame}{k:List Item}{cs:List Frame}
theorem mem_reads {x:mX}{t:Nat}(h:.tmp t∈x.2.1.op.operands.toList):t∈cA ops x:=by
 unfold cA Oper.looksAt;refine List.mem_append_left _ (List.mem_append_left _ (List.mem_append_left _ ?_));exact List.mem_filterMap.2 ⟨.tmp t,h,rfl⟩
theorem Dp (K:vZ ⟨P,G,refs,nt⟩ ops base late) {c:Array Bool}(n:c.size=ops.size) (o:∃ y∈base,c.getD y.1 false=false):Region.ready .any ops c≠[]:=by
 obtain⟨y,g,p⟩:=o;cases d:base.find? (λx=>!c.getD x.1 false) with
 | none=>
   have:=List.find?_eq_none.1 d y g;simp[p]at this
 | some x=>
   obtain⟨h1,as,q,h2,h3⟩:=List.find?_eq_some_iff_append.1 d;have r:x∈base:=by rw[h2];simp
   obtain⟨l,_⟩:=K.at_ x r;have m:x.1<ops.size:=(Array.getElem?_eq_some_iff.1 l).1;intro t;have:x.1∈Region.ready .any ops c:=by
    unfold Region.ready;refine List.mem_filter.2 ⟨by simpa using m,?_⟩;have u:c.getD x.1 true=false:=by
     have f:x.1<c.size:=by rw[n];exact m
     simp only[gF,Array.getElem?_eq_getElem f,Option.getD_some,Bool.not_eq_eq_eq_not,Bool.not_true]at h1 ⊢;exact h1
    rw[u,l];simp only[Bool.not_false,Bool.true_and,Option.map_some,Option.getD_some,Array.all_eq_true'];intro h i;cases A:Region.binds .any h with
    | false=>simp
    | true=>
      obtain⟨z,B,j⟩:=K.deps as x q h2 h.on (List.mem_filterMap.2 ⟨h,by simpa using i,by simp[A]⟩);have:=h3 z B;rw[j]at this;simpa using this
   rw[t]at this;exact absurd this (List.not_mem_nil)
theorem go_succ (m t:Nat) (c:Array Bool):Region.linearise.go .any ops (m+1) t c []=(match (Region.ready .any ops c)[t % (Region.ready .any ops c).length]? with
 | some i=>Region.linearise.go .any ops m (t / (Region.ready .any ops c).length) (c.setIfInBounds i true) [i]
 | none=>[].reverse):=by
 rw[Region.linearise.go];rfl
theorem Ao {g:Array Bool}(q:g.size=ops.size) {i:Nat}(h:i∈Region.ready .any ops g):i<ops.size/\g.getD i false=false/\∀ o,ops[i]? = some o->∀ d∈ff o,g.getD d false=true:=by
 unfold Region.ready at h;obtain⟨r,j⟩:=List.mem_filter.1 h;have m:i<ops.size:=by simpa using r
 have t:i<g.size:=by rw[q];exact m
 simp only[Bool.and_eq_true]at j;obtain⟨j,f⟩:=j;refine⟨m,?_,λo ho d u=>?_⟩
 ·simp only[gF,Array.getElem?_eq_getElem t,Option.getD_some,Bool.not_eq_true']at j ⊢;exact j
 ·obtain⟨n,l,c⟩:=List.mem_filterMap.1 u;rw[ho]at f;simp only[Option.map_some,Option.getD_some,Array.all_eq_true']at f;have:=f n (by simpa using l);cases p:Region.binds .any n with
  | false=>rw[p]at c;simp at c
  | true=>rw[p]at c this;simp at c this;rw[<- c];simpa using this
theorem yC {c:Array Bool}{i:Nat}(hi:i<c.size) {l:List Nat}(d:l.Nodup):(l.filter λj=>!(c.setIfInBounds i true).getD j false)=(l.filter λj=>!c.getD j false).erase i:=by
 rw[List.Nodup.erase_eq_filter (List.Pairwise.filter _ d),List.filter_filter];refine List.filter_congr λj _=>?_;rw[sC c i j hi];by_cases h:j=i
 ·subst h;simp
 ·simp[h]
theorem cover (K:vZ ⟨P,G,refs,nt⟩ ops base late) {f:List Nat}(Q:f.Nodup) (R:∀ i∈f,i<ops.size):∀ (m t:Nat) (c:Array Bool),c.size=ops.size->(∀ k,c.getD k false=true->∀ o,ops[k]? = some o->∀ d∈ff o,c.getD d false=true) ->
 ((List.range ops.size).filter λj=>!c.getD j false).length=m ->
 ((Region.linearise.go .any ops m t c []).filter λi=>f.contains i)∈exts (dU ops.toList []) (f.filter λj=>!c.getD j false).length (f.filter λj=>!c.getD j false):=by
 intro m;induction m with
 | zero=>
   intro t c g z hm;have h0:(f.filter λj=>!c.getD j false)=[]:=by
    rw[List.filter_eq_nil_iff];intro j l A;have:j∈(List.range ops.size).filter λj=>!c.getD j false:=List.mem_filter.2 ⟨by simpa using R j l,A⟩;rw[List.length_eq_zero_iff.1 hm]at this;exact absurd this (List.not_mem_nil)
   rw[h0];simp[Region.linearise.go,exts]
 | succ m ih=>
   intro t c g z hm;have T:∃ y∈base,c.getD y.1 false=false:=by
    cases H:(List.range ops.size).filter λj=>!c.getD j false with
    | nil=>rw[H]at hm;simp at hm
    | cons j r=>
      have l:j∈(List.range ops.size).filter λj=>!c.getD j false:=by rw[H];simp
      obtain⟨U,V⟩:=List.mem_filter.1 l;obtain⟨x,hx,rfl⟩:=K.all j (by simpa using U);exact⟨x,hx,by simpa using V⟩
   have dH:=Dp K g T;have p:0<(Region.ready .any ops c).length:=List.length_pos_iff.2 dH;rw[go_succ];cases I:(Region.ready .any ops c)[t % (Region.ready .any ops c).length]? with
   | none=>
     have:=Nat.mod_lt t p;rw[List.getElem?_eq_none_iff]at I;omega
   | some i=>
     dsimp only;rw[linearise_go_acc,List.reverse_singleton,List.singleton_append];generalize t / (Region.ready .any ops c).length=X;obtain⟨B,J,M⟩:=Ao g (List.mem_of_getElem? I);have C:i<c.size:=by rw[g];exact B
     have Y:∀ k,(c.setIfInBounds i true).getD k false=true->∀ o,ops[k]? = some o->∀ d∈ff o,(c.setIfInBounds i true).getD d false=true:=by
      intro k D o ho d N;rw[sC c i _ C]at D ⊢;split
      ·rfl
      ·split at D
       ·rename_i Z;subst Z;exact M o ho d N
       ·exact z k D o ho d N
     have sE:((List.range ops.size).filter λj=>!(c.setIfInBounds i true).getD j false).length=m:=by
      rw[yC C List.nodup_range,List.length_erase_of_mem (List.mem_filter.2 ⟨by simpa using B,by simp[J]⟩),hm];rfl
     have q:=ih X (c.setIfInBounds i true) (by simp[g]) Y sE;rw[yC C Q]at q;by_cases u:i∈f
     ·have E:i∈f.filter λj=>!c.getD j false:=List.mem_filter.2 ⟨u,by simp[J]⟩;rw[List.filter_cons_of_pos (by simpa using u)];obtain⟨n,O⟩:∃ n,(f.filter λj=>!c.getD j false).length=n+1:=⟨_,(Nat.succ_pred_eq_of_pos (List.length_pos_of_mem E)).symm⟩;rw[List.length_erase_of_mem E,O,Nat.add_sub_cancel]at q;rw[O];simp only[exts,List.mem_flatMap];refine⟨i,List.mem_filter.2 ⟨E,?_⟩,List.mem_map.2 ⟨_,q,rfl⟩⟩;rw[List.all_eq_true];intro j l;by_cases F:j=i
      ·simp[F]
      ·have GU:c.getD j false=false:=by simpa using (List.mem_filter.1 l).2
       cases A:((dU ops.toList []).getD i 0).testBit j with
       | false=>simp
       | true=>
         obtain⟨o,ho⟩:∃ o,ops[i]? = some o:=⟨ops[i],by simp[B]⟩;have:=yV (L:=λj=>c.getD j false=true) z i o ho (M o ho) j A;rw[GU]at this;cases this
     ·rw[List.filter_cons_of_neg (by simpa using u)];have U1:i ∉ f.filter λj=>!c.getD j false:=λh=>u (List.mem_filter.1 h).1;rw[List.erase_of_not_mem U1]at q;exact q
theorem Ru (K:vZ ⟨P,G,refs,nt⟩ ops base late) {nfI:Nat->Bool}(hnf:∀ x∈base,nfI x.1 = !cn late x) {KK:Env->St->Prop} : ∀ (m t:Nat) (F pre rest:List mX) (B:Array Bool) (D:Nat->Option Nat) (μ:Mu) (ι:Io) (e:Env) (s:St) (w:World) (a:Act),
 Mf P G nt ops base late w0 δ μs HE ss ws F pre rest B D μ ι e s w a->m=F.length+rest.length->((Region.linearise.go .any ops m t B []).filter nfI)=(rest.filter λx=>!cn late x).map (·.1)->dy P G (drawn (dU ops.toList []) pre rest) e s KK ->
 (rest=[]∨∃ x r,rest=x::r/\cn late x=false) ->
 ∃ e' s' l A u O,KK e' s'/\Steps P (lone (b.atR a (.inRegion ops (Region.linearise.go .any ops m t B [])::k)) cs w) (lone (b.atR O (.inRegion ops []::k)) cs u) /\
   Fr P G w0 l A δ s' u nt e' O/\Ext μs HE δ ws l A δ u/\Kept μs ss l s'/\O.defers=a.defers:=by
 intro m;induction m with
 | zero=>
   intro t F pre rest B D μ ι e s w a S hm H kJ pV;have hp:F=[]:=List.length_eq_zero_iff.1 om;have X:rest=[]:=List.length_eq_zero_iff.1 om;subst hp;subst X;exact⟨e,s,μ,ι,w,a,kJ,by simp only[Region.linearise.go,List.reverse_nil];exact .refl _ _,⟨S.now,λt=>S.re t (λx hx=>absurd hx (List.not_mem_nil)),S.size⟩,S.ext,S.kept,rfl⟩
 | succ m ih =>
   intro t F pre rest B D μ ι e s w a S hm H kJ pV;have gK:base.Nodup:=List.Pairwise.of_map (·.1) (λa b h e=>h (by rw[e])) K.nd;have x7:∀ y∈F,y∈base:=λy c=>by rw[S.base];exact List.mem_append_left _ (S.sub y c)
   have Oy:∀ y∈rest,y∈base:=λy c=>by rw[S.base];exact List.mem_append_right _ c
   have dH:Region.ready .any ops B≠[]:=by
    refine Dp K S.Wl ?_;have:∃ y,y∈F∨y∈rest:=by
     cases F with
     | cons y p=>exact⟨y, .inl (by simp)⟩
     | nil=>
       cases rest with
       | cons y r=>exact⟨y, .inr (by simp)⟩
       | nil=>simp at hm
    obtain⟨y,c⟩:=this;have hyb:y∈base:=c.elim (x7 y) (Oy y);refine⟨y,hyb,?_⟩;cases hl:B.getD y.1 false with
    | false=>rfl
    | true=>
      obtain⟨h1,h2⟩:=(S.zw y hyb).1 hl;exact absurd c (λh=>h.elim h1 h2)
   rw[go_succ]at H ⊢;have hlen:0<(Region.ready .any ops B).length:=List.length_pos_iff.2 dH;cases hi:(Region.ready .any ops B)[t % (Region.ready .any ops B).length]? with
   | none=>
     have:=Nat.mod_lt t hlen;rw[List.getElem?_eq_none_iff]at hi;omega
   | some i=>
     rw[hi]at H;dsimp only at H ⊢;rw[linearise_go_acc,List.reverse_singleton,List.singleton_append]at H ⊢;generalize t / (Region.ready .any ops B).length=Q at H ⊢;obtain⟨Cj,cM,Xp⟩:=Ao S.Wl (List.mem_of_getElem? hi);have GV:i<B.size:=by rw[S.Wl];exact Cj
     obtain⟨x,J,rfl⟩:=K.all i Cj;obtain⟨V,Fv⟩:=K.at_ x J;obtain⟨To,O5,hdlt,gL⟩:=gn Fv;have A6:∀ d∈ff x.2.1,B.getD d false=true:=Xp x.2.1 V;have hanc:∀ j,((dU ops.toList []).getD x.1 0).testBit j=true->B.getD j false=true:=yV (L:=λj=>B.getD j false=true) S.cls x.1 x.2.1 V A6;have S5:∀ y∈F,((dU ops.toList []).getD x.1 0).testBit y.1=false:=λy c=>by
      cases hb:((dU ops.toList []).getD x.1 0).testBit y.1 with
      | false=>rfl
      | true=>exact absurd c ((S.zw y (x7 y c)).1 (hanc y.1 hb)).1
     have fG:∀ y∈F,late y=false:=λy c=>by
      have:=S.flt y c;unfold cn at this;rw[Bool.and_eq_true]at this;simpa using this.2
     have YC:∀ t∈cA ops x,Rv μ ι w (e.at t) (a.tmps.getD t undef):=λt M=>S.re t λy c C=>by
      rcases K.reads x J y (x7 y c) t C M with h | h
      ·have:=h.2;rw[S5 y c]at this;cases this
      ·have:=h.1;rw[fG y c]at this;cases this
     have bU:Ho μ ι w ⟨P,G,refs,nt⟩ e a x.2.1:=Re.ho rfl rfl S.now λt M=>YC t (mem_reads M);have Cf:∀ j,(B.setIfInBounds x.1 true).getD j false=if j=x.1 then true else B.getD j false:=λj=>sC B x.1 j GV
     have I7:∀ k,(B.setIfInBounds x.1 true).getD k false=true->∀ o,ops[k]? = some o->∀ d∈ff o,(B.setIfInBounds x.1 true).getD d false=true:=by
      intro k E o ho d C;rw[Cf]at E ⊢;split
      ·rfl
      ·split at E
       ·rename_i Ch;subst Ch;rw[V]at ho;cases ho;exact A6 d C
       ·exact S.cls k E o ho d C
     by_cases SI:x∈F
     · -- done here already
      rw[List.filter_cons_of_neg (by rw[hnf x J,S.flt x SI];simp)]at H;obtain⟨p1,p2,rfl⟩:=List.append_of_mem SI;have S7:=S.nd;have Ei:x ∉ p1++p2:=by
       obtain⟨h1,h2,h3⟩:=List.nodup_append.1 S7;intro h;rcases List.mem_append.1 h with h | h
       ·exact h3 x h x (by simp) rfl
       ·exact (List.nodup_cons.1 h2).1 h
      have IS:∀ y∈p1++p2,y∈p1++x::p2:=λy c=>by
       rcases List.mem_append.1 c with h | h
       ·exact List.mem_append_left _ h
       ·exact List.mem_append_right _ (List.mem_cons_of_mem _ h)
      have Ol:x ∉ rest:=λh=>by
       rw[S.base]at gK;exact (List.nodup_append.1 gK).2.2 x (S.sub x SI) x h rfl
      have mk : ∀ (l : Mu) (A : Io) (u : World) (val : Value) (v : LV), Inv (rq P G) w0 l A δ s u -> Ext μ ι δ w l A δ u -> qo e x.2.2 v -> Rv l A u v val ->
       (∀ y∈p1++p2,∀ id,D y.1=some id->μ id=none->l id=none)->Kept μs ss l s ->
       Mf P G nt ops base late w0 δ μs HE ss ws (p1++p2) pre rest (B.setIfInBounds x.1 true) D l A e s u (a.put x.2.1.dst val):=by
       intro l A u val v R hx Y U B7 E;refine⟨S.now.ext R hx,by rw[Act.xG];exact S.size,λt M=>?_,λy c=>?_,S.Nv,S.LQ,λy c=>S.flt y (IS y c),by simp[S.Wl],λy c=>?_,I7,S.base,λy c=>S.sub y (IS y c),?_,S.ext.trans hx,E⟩
       ·by_cases C:x.2.1.dst=some t
        ·rw[C,vp _ _ _ (by rw[S.size];exact hdlt t C),Y t (by rw[O5,C])];exact U
        ·rw[vo _ _ _ _ C];refine (S.re t λy c=>?_).ext hx;rcases List.mem_append.1 c with h | h
         ·exact M y (List.mem_append_left _ h)
         ·rcases List.mem_cons.1 h with rfl | h
          ·rw[O5];exact C
          ·exact M y (List.mem_append_right _ h)
       ·exact (S.pok y (IS y c)).congr (ops:=ops) (λ_ _=>rfl) (λ_ _=>rfl) (λ_ h=>h) (λ_ _ _=>rfl) (B7 y c) (λ_ _ v _ h=>h)
       ·rw[Cf];by_cases UQ:y=x
        ·subst UQ;simp[Ei,Ol]
        ·have:y.1≠x.1:=λh=>UQ (key_inj K c J h);rw[if_neg this,S.zw y c];simp[UQ]
       ·obtain⟨h1,h2,h3⟩:=List.nodup_append.1 S7;exact List.nodup_append.2 ⟨h1,(List.nodup_cons.1 h2).2,λy c z hz=>h3 y c z (List.mem_cons_of_mem _ hz)⟩
      have sE:m=(p1++p2).length+rest.length:=by simp at hm ⊢;omega
      have YQ:∀ {tt:Bool},aE x.2.2.guard e=some tt->Region.wanted x.2.1 (yielded ops a.tmps)=tt:=λh=>nZ Fv h λd want hg=>YC d (by simp[cA,hg]);have fin:∀ (l:Mu) (A:Io) (u:World) (val:Value) (v:LV),Inv (rq P G) w0 l A δ s u->Ext μ ι δ w l A δ u->qo e x.2.2 v->Rv l A u v val ->
       (∀ y∈p1++p2,∀ id,D y.1=some id->μ id=none->l id=none)->Kept μs ss l s ->
       step P (lone (b.atR a (.inRegion ops (x.1::Region.linearise.go .any ops m Q (B.setIfInBounds x.1 true) [])::k)) cs w) = .next (lone (b.atR (a.put x.2.1.dst val) (.inRegion ops (Region.linearise.go .any ops m Q (B.setIfInBounds x.1 true) [])::k)) cs u) ->
       ∃ e' s' l A u O,KK e' s'/\Steps P (lone (b.atR a (.inRegion ops (x.1::Region.linearise.go .any ops m Q (B.setIfInBounds x.1 true) [])::k)) cs w) (lone (b.atR O (.inRegion ops []::k)) cs u) /\
         Fr P G w0 l A δ s' u nt e' O/\Ext μs HE δ ws l A δ u/\Kept μs ss l s'/\O.defers=a.defers:=by
       intro l A u val v R hx Y U B7 E dO;obtain⟨e',s',Mg,xe,w2,a2,q,hs,r1,r2,r3,r4⟩:=ih Q (p1++p2) pre rest (B.setIfInBounds x.1 true) D l A e s u _ (mk l A u val v R hx Y U B7 E) sE H kJ pV;exact⟨e',s',Mg,xe,w2,a2,q, .head dO hs,r1,r2,r3,r4.trans (Act.lY _ _ _)⟩
      rcases S.pok x SI with⟨Z,Y⟩ | ⟨Z,W3,hl,v,Y,bK⟩ | ⟨Z,bV,s0,cs0,v,wm,bK,Y,YK,QG⟩
      ·refine fin μ ι w undef (.cy []) S.now.inv (Ext.refl _ _ _ _) Y xA (λ_ _ _ _ h=>h) S.kept ?_;have:=stepR_op_skip (P:=P) (b:=b) (a:=a) (k:=k) (cs:=cs) (w:=w) (ops:=ops) (i:=x.1) (rest:=Region.linearise.go .any ops m Q (B.setIfInBounds x.1 true) []) (by rw[V];simpa using YQ Z);rw[V]at this;exact this
      ·obtain⟨val,u,l,A,hex,R,hx,U,E⟩:=DJ To bU S.now.inv bK;exact fin l A u val v R hx Y U (λy c id aO hm=>E.free id (S.LQ _ _ aO).1 hm) (S.kept.trans E) (ie V (YQ Z) (pR To) hex)
      ·obtain⟨cs',arr,T,val,hs',Ow,h1,h2,h3,h4⟩:=Ak (K.makes x J bV) bV To bU bK;have Fw:cs0=cs':=by
        have:=congrArg (λs=>St.get s s0.n) hs';simpa using this
       subst Fw;obtain⟨I',x1,CR,cm,GJ⟩:=S.now.inv.UI T arr cs0 h1 h3 h2;obtain⟨I2,x2⟩:=I'.place s0.n (S.LQ _ _ wm).1 YK ⟨w.heap.size,0,arr.size⟩ _ QG S.now.inv.hB cm CR (λ_ j b' p' _ _ hm e=>GJ j p' hm e);refine fin _ ι _ val v I2 (x1.trans x2) Y (h4 _ _ _ (by simp[Mu.jT])) (λy c id aO hm=>Mu.pG (λhe=>?_) hm) ⟨S.kept.n,S.kept.get,λid aO hm=>Mu.pG (λhe=>?_) (S.kept.free id aO hm)⟩
        (ie V (YQ Z) (pR To) (.inl Ow))
       ·subst he;have:=S.Nv _ _ _ aO wm;exact Ei (key_inj K (x7 y (IS y c)) J this ▸ c)
       ·have:=(S.LQ _ _ wm).2;omega
     · -- its C9
      have Wy:x∈rest:=by
       by_cases h:x∈rest
       ·exact h
       ·have:=(S.zw x J).2 ⟨SI,h⟩;rw[cM]at this;cases this
      rcases pV with rfl | ⟨y,r,rfl,N⟩
      ·exact absurd Wy (List.not_mem_nil)
      ·have hxf:cn late x=false:=by
        rcases List.mem_cons.1 Wy with h | h
        ·rw[h];exact N
        ·cases YT:cn late x with
         | false=>rfl
         | true=>
           obtain⟨d,C,hz⟩:=K.wait pre y r S.base N x h YT;have tR:=A6 d C;have hdlt':d<ops.size:=by
            rw[<- S.Wl];apply Classical.byContradiction;intro hn;simp[gF,hn]at tR
           obtain⟨z,hzb,hzd⟩:=K.all d hdlt';rw[<- hzd]at tR;have h2:=((S.zw z hzb).1 tR).2;have h3:z∈pre:=by
            have:=hzb;rw[S.base]at this;exact (List.mem_append.1 this).resolve_right h2
           exact absurd hzd (hz z h3)
       rw[List.filter_cons_of_pos (by rw[hnf x J,hxf];rfl),List.filter_cons_of_pos (by rw[N];rfl),List.map_cons]at H;have hxy:x=y:=key_inj K J (Oy y (by simp)) (List.cons.inj H).1;replace H:=(List.cons.inj H).2;subst hxy;have Xv:(pre++x::r).Nodup:=by rw[<- S.base];exact gK
       have Eh:x ∉ pre:=λh=>(List.nodup_append.1 Xv).2.2 x h x (by simp) rfl;have yj:∀ y∈F,∀ d,x.2.2.dst=some d->d ∉ cA ops y:=λy c d C X=>by
        have:=(K.later pre x r S.base y (S.sub y c) d C X).2;rw[S5 y c]at this;cases this
       have YQ:∀ {tt:Bool},aE x.2.2.guard e=some tt->Region.wanted x.2.1 (yielded ops a.tmps)=tt:=λh=>nZ Fv h λd want hg=>YC d (by simp[cA,hg]);have hlb:((gX x.2.2.op || jw x.2.2.op)=false/\lu x.2.2.op=false)∨gX x.2.2.op=true:=by
        unfold cn at N;rw[Bool.and_eq_false_iff]at N;rcases N with N | N
        ·unfold wT at N;rw[Bool.or_eq_false_iff]at N;exact .inl N
        ·exact .inr (K.Z9 x (by simpa using N))
       have mk:∀ (l:Mu) (A:Io) (s':St) (u:World) (val:Value) (v:LV),Inv (rq P G) w0 l A δ s' u->Ext μ ι δ w l A δ u->Rv l A u v val->Kept μ s l s'->(s'=s∨((gX x.2.2.op || jw x.2.2.op)=false/\cH (vW (dU ops.toList []) pre x) (e.put x.2.2.dst v) s')) ->
        Mf P G nt ops base late w0 δ μs HE ss ws F (pre++[x]) r (B.setIfInBounds x.1 true) D l A (e.put x.2.2.dst v) s' u (a.put x.2.1.dst val):=by
        intro l A s' u val v R hx U E oS;have hpd:∀ y∈F,∀ d,y.2.2.dst=some d->x.2.2.dst≠some d:=λy c d C wA =>
         Eh ((key_inj K (x7 y c) J (K.dst y (x7 y c) x J d C wA)) ▸ S.sub y c)
        refine⟨S.now.ext R hx,by rw[Act.xG];exact S.size,λt M=>?_,λy c=>?_,S.Nv,λi id h=>?_,S.flt,by simp[S.Wl],λy c=>?_,I7,by rw[S.base];simp,λy c=>List.mem_append_left _ (S.sub y c),S.nd,S.ext.trans hx,S.kept.trans E⟩
        ·rw[<- O5];by_cases C:x.2.2.dst=some t
         ·rw[C,vp _ _ _ (by rw[S.size];exact hdlt t (by rw[<- O5];exact C)),Env.au,Env.qg,if_pos rfl];exact U
         ·rw[vo _ _ _ _ C,ov _ _ _ _ C];exact (S.re t M).ext hx
        ·refine (S.pok y c).congr (ops:=ops) (λt M=>ov _ _ _ _ λC=>yj y c t C M) (λd C=>ov _ _ _ _ (hpd y c d C)) (λ_ h=>h) (λid h hm=>E.get id (S.LQ _ _ h).1 hm) (λid h hm=>E.free id (S.LQ _ _ h).1 hm) (λhl hwy v' hv' X=>?_);rcases oS with rfl | oS
         ·rw[<- X];exact nq _ λt M=>ov _ _ _ _ λC=>yj y c t C (by simp[cA,M])
         ·exact E1 oS.2 oS.1 (S.sub y c) hl (K.Z8 y (x7 y c) hl) (.inr (S5 y c)) hwy hv'
        ·have:=S.LQ i id h;have:=E.n;omega
        ·rw[Cf];by_cases UQ:y=x
         ·subst UQ;have:y ∉ r:=(List.nodup_cons.1 (List.nodup_append.1 Xv).2.1).1;simp[SI,this]
         ·have:y.1≠x.1:=λh=>UQ (key_inj K c J h);rw[if_neg this,S.zw y c];simp[UQ]
       have fin:∀ (l:Mu) (A:Io) (s':St) (u:World) (val:Value) (v:LV),Inv (rq P G) w0 l A δ s' u->Ext μ ι δ w l A δ u->Rv l A u v val->Kept μ s l s'->(s'=s∨((gX x.2.2.op || jw x.2.2.op)=false/\cH (vW (dU ops.toList []) pre x) (e.put x.2.2.dst v) s')) ->
        dy P G (drawn (dU ops.toList []) (pre++[x]) r) (e.put x.2.2.dst v) s' KK ->
        Steps P (lone (b.atR a (.inRegion ops (x.1::Region.linearise.go .any ops m Q (B.setIfInBounds x.1 true) [])::k)) cs w) (lone (b.atR (a.put x.2.1.dst val) (.inRegion ops (Region.linearise.go .any ops m Q (B.setIfInBounds x.1 true) [])::k)) cs u) ->
        ∃ e' s' l A u O,KK e' s'/\Steps P (lone (b.atR a (.inRegion ops (x.1::Region.linearise.go .any ops m Q (B.setIfInBounds x.1 true) [])::k)) cs w) (lone (b.atR O (.inRegion ops []::k)) cs u) /\
          Fr P G w0 l A δ s' u nt e' O/\Ext μs HE δ ws l A δ u/\Kept μs ss l s'/\O.defers=a.defers:=by
        intro l A s' u val v R hx U E oS Xr dO;obtain⟨fR,xH,iG,kZ,e',BD,S',yu,WS,mo,hfl'⟩:=Mf.Py K r F (pre++[x]) (B.setIfInBounds x.1 true) D _ s' (mk l A s' u val v R hx U E oS) Xr;obtain⟨e2,s2,Mg,xe,w2,a2,q,hs,r1,r2,r3,r4⟩:=ih Q fR xH iG (B.setIfInBounds x.1 true) kZ l A e' BD u _ S' (by rw[mo];simp at hm;omega) (by rw[hfl'];exact H) yu WS;exact⟨e2,s2,Mg,xe,w2,a2,q,Steps.trans dO hs,r1,r2,r3,r4.trans (Act.lY _ _ _)⟩
       simp only[drawn,dy]at kJ;split at kJ
       ·exact kJ.elim
       ·rename_i Z;refine fin μ ι s w undef (.cy []) S.now.inv (Ext.refl _ _ _ _) xA (Kept.refl _ _) (.inl rfl) kJ (.one ?_);have:=stepR_op_skip (P:=P) (b:=b) (a:=a) (k:=k) (cs:=cs) (w:=w) (ops:=ops) (i:=x.1) (rest:=Region.linearise.go .any ops m Q (B.setIfInBounds x.1 true) []) (by rw[V];simpa using YQ Z);rw[V]at this;exact this
       ·rename_i Z;have hcx':dM ⟨P,G,refs,nt⟩ ops x.2.1=some x.2.2:=Fv;have I:pe P G true x.2.2.op e s (λv s'=>cH (vW (dU ops.toList []) pre x) (e.put x.2.2.dst v) s'/\dy P G (drawn (dU ops.toList []) (pre++[x]) r) (e.put x.2.2.dst v) s' KK):=kJ;have GJ:jw x.2.2.op=false:=by
         rcases hlb with h | h
         ·exact (Bool.or_eq_false_iff.1 h.1).2
         ·cases lH:x.2.2.op<;>rw[lH]at h<;>first | rfl | cases h
        have hgo':pe P G x.2.2.fl x.2.2.op e s (λv s'=>(gX x.2.2.op=true->s'=s)/\cH (vW (dU ops.toList []) pre x) (e.put x.2.2.dst v) s'/\dy P G (drawn (dU ops.toList []) (pre++[x]) r) (e.put x.2.2.dst v) s' KK):=by
         cases cx:jv x.2.2.op with
         | true=>
           rcases jM cx with⟨f,as,Tq⟩ | ⟨f,Tq⟩ | ⟨n,f,g,Tq⟩
           ·rw[Tq]at I ⊢;exact aJ.mono I λv s' h=>⟨(λh=>by cases h),h⟩
           ·rw[Tq]at I ⊢;simp only[pe]at I ⊢;exact jq.mono I λv s' h=>⟨(λh'=>by cases h'),h⟩
           ·rw[Tq]at I ⊢;simp only[pe]at I ⊢;exact oV.mono I λv s' h=>⟨(λh'=>by cases h'),h⟩
         | false=>
           rw[wP cx]at I ⊢;cases X:x.2.2.op.run e s with
           | none=>rw[X]at I;exact I.elim
           | some p=>
             rw[X]at I;refine⟨?_,(λhl=>uM hl X),I.2⟩;cases lH:x.2.2.op<;>try rfl
             rename_i im y;have:=GJ;cases im
             ·rfl
             ·rw[lH]at this;cases this
        obtain⟨v,s1,pg,jS,w1,val,⟨QL,oS,Xr⟩,dO,R,hx,E,U⟩:=Ir (b:=b) (k:=k) (cs:=cs) (rest:=Region.linearise.go .any ops m Q (B.setIfInBounds x.1 true) []) rfl V hcx' S.now bU (YQ Z) hgo';exact fin pg jS s1 w1 val v R hx U E (hlb.elim (λh=>.inr ⟨h.1,oS⟩) λh=>.inl (QL h)) Xr dO
theorem EV {c:Ctx}{x:Code}{l:List bx}(h:bh c x = .region l):∃ id ops d,x = .region id ops d/\oB c ops d=some [l]:=by
 cases x<;>simp only[bh,reduceCtorEq]at h
 ·split at h
  ·rename_i f;cases h;exact⟨_,_,_,rfl,f⟩
  ·cases h
  ·cases h
 ·split at h<;>cases h
 ·split at h<;>(try cases h);split at h<;>cases h
theorem Lw {c:Ctx}{x:Code}{ls:List (List bx)}(h:bh c x = .alts ls):∃ id ops d,x = .region id ops d/\oB c ops d=some ls:=by
 cases x<;>simp only[bh,reduceCtorEq]at h
 ·split at h
  ·cases h
  ·rename_i f;cases h;exact⟨_,_,_,rfl,f⟩
  ·cases h
 ·split at h<;>cases h
 ·split at h<;>(try cases h);split at h<;>cases h
theorem AA (O:P.follows .mixedOrders=true) {rd:Bool}{M:bp}{ls:List (List bx)}{Q:Out->Env->St->Prop}(R:∀ {c:Ctx}{x:Code},bh c x=M->∃ id ops d,x = .region id ops d/\oB c ops d=some ls) (h:∀ l∈ls,dy P G l e s (Q .normal)):aQ P G rd nt M e s Q:=by
 rintro c ⟨refs,T⟩ w0 μ ι δ w b a k cs hb m;obtain⟨id,ops,d,rfl,n⟩:=R T;cases d with
 | false=>
   change (ops.toList.mapM (dM ⟨P,G,refs,nt⟩ ops)).map (λl=>[l])=some ls at n;obtain⟨l,U,rfl⟩:=Option.map_eq_some_iff.1 n;replace n:=U;replace h:=h l (by simp);obtain⟨hl,V⟩:=iK n;obtain⟨e',s',A,B,C,D,q,hs,E,hx,g,F⟩:=Hs (b:=b) (k:=k) (cs:=cs) (refs:=refs) ops l 0 e s μ ι w a (λj X=>by
    have N:j<ops.toList.length:=by rw[<- hl];exact X
    obtain⟨lo,h1,h2⟩:=V j N;refine⟨ops.toList[j],lo,?_,h1,h2⟩;have Y:j<ops.size:=by simpa using N
    simp[Y]) m h
   refine⟨.normal,e',s',A,B,δ,C,D,q,?_,E,by rw[F];exact rB.one hx g⟩;have n:(List.range l.length).map (0 + ·)=List.range ops.size:=by
    have:l.length=ops.size:=by rw[hl];simp
    rw[this];simp
   rw[n]at hs;exact Steps.head stepR_region (Steps.trans hs (.one stepR_region_end))
 | true=>
   change uf ⟨P,G,refs,nt⟩ ops=some ls at n;obtain⟨late,H,Z,p,⟨I,K0⟩,bY⟩:=yI n;have f:∀ j,(Array.replicate ops.size false).getD j false=false:=λj=>by simp only[gF,Array.getElem?_replicate];split<;>rfl
   have o:=cover K0 Z p ops.size (w.tape w.drawn (.order b.fn id)) (Array.replicate ops.size false) (by simp) (λk g=>by rw[f]at g;cases g) (by
    have:(List.range ops.size).filter (λj=>!(Array.replicate ops.size false).getD j false)=List.range ops.size:=List.filter_eq_self.2 λj _=>by rw[f];rfl
    rw[this,List.length_range])
   have J:(H.filter λj=>!(Array.replicate ops.size false).getD j false)=H:=List.filter_eq_self.2 λj _=>by rw[f];rfl
   rw[J]at o;obtain⟨base,K,cJ,L,jZ⟩:=bY _ o;replace h:=h _ cJ;have z:=cR.drew w;have S0:Mf P G nt ops base late w0 δ μ ι s w [] [] base (Array.replicate ops.size false) (λ_=>none) μ ι e s { w with drawn:=w.drawn+1 } a:=by
    refine⟨m.now.ext (m.now.inv.same z) (m.now.inv.eU z),m.size,λt _=>(m.re t).ext (m.now.inv.eU z),λx hx=>absurd hx (List.not_mem_nil),λi j id h=>by (cases h),λi id h=>by (cases h),λx hx=>absurd hx (List.not_mem_nil),by simp,λx hx=>?_,λk g=>?_,rfl,λx hx=>absurd hx (List.not_mem_nil),List.nodup_nil,m.now.inv.eU z,Kept.refl _ _⟩
    ·rw[f];simp[hx]
    ·rw[f]at g;cases g
   obtain⟨fR,xH,iG,kZ,e1,s1,S1,r,WR,U8,u⟩:=Mf.Py K base [] [] _ _ e s S0 h;obtain⟨e',s',A,B,C,D,q,hs,E,hx,g,F⟩:=Ru (b:=b) (k:=k) (cs:=cs) K (nfI:=λi=>H.contains i) (λx hx=>by
    have:=jZ x hx;cases y:cn late x with
    | false=>rw[y]at this;simpa using this
    | true=>rw[y]at this;simpa using this) ops.size (w.tape w.drawn (.order b.fn id)) fR xH iG _ kZ μ ι e1 s1 _ a S1 (by rw[U8,K.len];simp) (by rw[u];exact L.symm) r WR
   refine⟨.normal,e',s',A,B,δ,C,D,q,?_,E,by rw[F];exact rB.one hx g⟩;refine Steps.head stepR_region_draw ?_;have:Region.schedule (P.follows .mixedOrders) ops (w.tape w.drawn (.order b.fn id))=Region.linearise.go .any ops ops.size (w.tape w.drawn (.order b.fn id)) (Array.replicate ops.size false) []:=by
    simp only[Region.schedule,O,Bool.true_or,if_true,Region.linearise]
   rw[this];exact Steps.trans hs (.one stepR_region_end)
theorem Az (c:P.follows .mixedOrders=true) {rd:Bool}{l:List bx}{Q:Out->Env->St->Prop}(h:dy P G l e s (Q .normal)):aQ P G rd nt (.region l) e s Q:=
 AA c EV λf d=>by rw[List.mem_singleton.1 d];exact h
theorem R5 (c:P.follows .mixedOrders=true) {rd:Bool}{ls:List (List bx)}{Q:Out->Env->St->Prop}(h:∀ l∈ls,dy P G l e s (Q .normal)):aQ P G rd nt (.alts ls) e s Q:=
 AA c Lw h
end
end Go.Pv
end
