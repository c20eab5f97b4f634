/- Drawn regions: what the static checks say; how a run depends on the environment and the small heap. -/
import Derived.Test.YtkbiecjdcjfhaaaGreatPvChain
set_option linter.unusedSimpArgs false
set_option linter.unusedVariables false
set_option maxRecDepth 100000
set_option maxHeartbeats 16000000
section
namespace Go.Pv
open Go Go.RowKit
section congr
variable {e e':Env}{s:St}
theorem bF.congr {x:bF}(h:∀ t∈x.tmps,e.at t=e'.at t):x.ev e=x.ev e':=by
 cases x with
 | t i=>exact h i (by simp[bF.tmps])
 | c v=>rfl
theorem jq {x:Option bF}(h:∀ t∈cu x,e.at t=e'.at t):x.map (·.ev e)=x.map (·.ev e'):=by
 cases x with
 | none=>rfl
 | some x=>simp only[Option.map_some];rw[bF.congr h]
theorem tw {l:List bF}(h:∀ t∈l.flatMap (·.tmps),e.at t=e'.at t):l.map (·.ev e)=l.map (·.ev e') :=
 List.map_congr_left λx hx=>bF.congr λt c=>h t (List.mem_flatMap.2 ⟨x,hx,c⟩)
theorem vV {l:List (Nat × Nat × bF)}(h:∀ t∈l.flatMap (λq=>q.2.2.tmps),e.at t=e'.at t):bt e l=bt e' l:=
 List.map_congr_left λx hx=>by rw[bF.congr λt c=>h t (List.mem_flatMap.2 ⟨x,hx,c⟩)]
theorem nG (i:bq) (h:∀ t∈i.tmps,e.at t=e'.at t):i.run e s=i.run e' s:=by
 cases i<;>simp only[bq.tmps,List.mem_append]at h<;>try (rfl;done)
 case box j x=>cases j<;>simp only[bq.run,bF.congr h]
 case pick a b c=>simp only[bq.run,bF.congr (x:=a) λt g=>h t (.inl (.inl g)),bF.congr (x:=b) λt g=>h t (.inl (.inr g)),bF.congr (x:=c) λt g=>h t (.inr g)]
 case build z ps=>simp only[bq.run,vV h]
 case bu a b z ps=>simp only[bq.run,vV h]
 case ju m xs=>simp only[bq.run,tw h]
 case uk f a b=>simp only[bq.run,tw (l:=a) λt g=>h t (.inl g),tw (l:=b) λt g=>h t (.inr g)]
 case slice z x a b=>simp only[bq.run,bF.congr (x:=x) λt g=>h t (.inl (.inl g)),jq (x:=a) λt g=>h t (.inl (.inr g)),jq (x:=b) λt g=>h t (.inr g)]
 case pW x a b=>simp only[bq.run,bF.congr (x:=x) λt g=>h t (.inl (.inl g)),jq (x:=a) λt g=>h t (.inl (.inr g)),jq (x:=b) λt g=>h t (.inr g)]
 case nE z k x a b=>simp only[bq.run,bF.congr (x:=x) λt g=>h t (.inl (.inl g)),jq (x:=a) λt g=>h t (.inl (.inr g)),jq (x:=b) λt g=>h t (.inr g)]
 case vr x a b d=>simp only[bq.run,bF.congr (x:=x) λt g=>h t (.inl (.inl (.inl g))),bF.congr (x:=a) λt g=>h t (.inl (.inl (.inr g))),bF.congr (x:=b) λt g=>h t (.inl (.inr g)),bF.congr (x:=d) λt g=>h t (.inr g)]
 case mZ kd a b d=>simp only[bq.run,bF.congr (x:=a) λt g=>h t (.inl (.inl g)),bF.congr (x:=b) λt g=>h t (.inl (.inr g)),bF.congr (x:=d) λt g=>h t (.inr g)]
 case iT x=>
  cases x with
  | none=>rfl
  | some x=>simp only[bq.run,bF.congr (x:=x) h]
 all_goals first
  | (simp only[bq.run,bF.congr h];done)
  | (rename_i a b;simp only[bq.run,bF.congr (x:=a) λt g=>h t (.inl g),bF.congr (x:=b) λt g=>h t (.inr g)];done)
theorem sQ {g:Option (Nat × Bool)}(h:∀ d c,g=some (d,c)->e.at d=e'.at d):aK g e=aK g e':=by
 cases g with
 | none=>rfl
 | some p=>simp only[aK,h p.1 p.2 rfl]
end congr
section pure
variable {e:Env}{s s1 s':St}{v:LV}
theorem vF {c:bq}(hl:iy c=true) (h:c.run e s=some (v,s1)):s1=s:=by
 cases c<;>(try (cases hl;done))<;>simp only[bq.run]at h<;>
  repeat' (first | (cases h;rfl) | (cases h;done) | (obtain⟨_,_,h⟩:=bind_some h) | (split at h))
theorem L6 {c:bq}(hl:iy c=true) (f:kT c=false) (h:c.run e s=some (v,s)):c.run e s'=some (v,s'):=by
 cases c<;>(try (cases hl;done))<;>(try (cases f;done))<;>simp only[bq.run]at h ⊢;all_goals repeat' (first | (cases h;rfl) | (cases h;done) | (rename_i d;cases h;exact if_pos d) | (rename_i d _ _;cases h;exact if_pos d) | (rename_i d _ _ _;cases h;exact if_pos d) | (obtain⟨u,g,h⟩:=bind_some h;simp only[g,Option.bind_eq_bind,Option.bind_some]) | (split at h))
theorem Gl {c:bq}(hl:jO c=true) (hs:dP true c e=true) (h:c.run e s=some (v,s1)):s1=s/\∀ s',c.run e s'=some (v,s'):=by
 cases c<;>(try (cases hl;done));rename_i f x;cases f
 ·cases hl
 ·simp only[dP,Bool.not_true,Bool.false_or]at hs;have g:∀ s:St,cY bp (x.ev e) s=some (x.ev e,s):=λs=>by unfold bp;simp[cY,hs]
  simp only[bq.run,g]at h ⊢;simp only[Option.bind_eq_bind,Option.bind_some]at h ⊢;cases d:cells? (x.ev e) with
  | none=>rw[d]at h;cases h
  | some cs=>
    rw[d]at h;simp only[Option.bind_some]at h ⊢;split at h
    ·cases h
    ·rename_i h0;cases h;exact⟨rfl,λs'=>by rw[if_neg h0]⟩
theorem Lx {c:bq}(hl:lX c=true) (h:c.run e s=some (v,s1)):∃ cs,s1=s.new (.cells .mut cs):=by
 cases c<;>(try (cases hl;done))
 case box d x=>
  cases d
  ·simp only[bq.run]at h;obtain⟨cs,_,h⟩:=bind_some h;cases h;exact⟨_,rfl⟩
  ·cases hl
 case alloc z=>cases h;exact⟨_,rfl⟩
 case bu=>
  simp only[bq.run]at h;obtain⟨cs,_,h⟩:=bind_some h;cases h;exact⟨_,rfl⟩
 case cH=>
  simp only[bq.run]at h;split at h
  ·split at h
   ·cases h;exact⟨_,rfl⟩
   ·cases h
  ·cases h
end pure
section jf
variable {ops:Array Oper}
theorem Np (acc:List Nat) (b:Nat):∀ (l:List Nat) (x:Nat),(l.foldl (λs j=>s ||| 2 ^ j ||| acc.getD j 0) x).testBit b=true->x.testBit b=true∨∃ j∈l,j=b∨(acc.getD j 0).testBit b=true:=by
 intro l;induction l with
 | nil=>intro x h;exact .inl h
 | cons j l ih=>
   intro x h;rw[List.foldl_cons]at h;rcases ih _ h with h | ⟨c,d,h⟩
   ·simp only[Nat.testBit_or,Nat.testBit_two_pow,Bool.or_eq_true,decide_eq_true_eq]at h;rcases h with (h | h) | h
    ·exact .inl h
    ·exact .inr ⟨j,by simp, .inl h⟩
    ·exact .inr ⟨j,by simp, .inr h⟩
   ·exact .inr ⟨c,List.mem_cons_of_mem _ d,h⟩
theorem Nn:∀ (os:List Oper) (acc:List Nat),(∀ i,i<acc.length->(ew os acc).getD i 0=acc.getD i 0) /\
 ∀ k o,os[k]? = some o->∀ b,((ew os acc).getD (acc.length+k) 0).testBit b=true->∃ j∈fL o,j=b∨(j<acc.length+k/\((ew os acc).getD j 0).testBit b=true):=by
 intro os;induction os with
 | nil=>intro acc;exact⟨λi _=>rfl,λk o h=>by simp at h⟩
 | cons o os ih=>
   intro acc;simp only[ew];obtain⟨h1,h2⟩:=ih (acc++[(fL o).foldl (λs j=>s ||| 2 ^ j ||| acc.getD j 0) 0]);have d:∀ i,i<acc.length->(acc++[(fL o).foldl (λs j=>s ||| 2 ^ j ||| acc.getD j 0) 0]).getD i 0=acc.getD i 0:=λi f=>by
    simp[gD,List.getElem?_append_left f]
   refine⟨λi f=>by rw[h1 i (by simp;omega),d i f],λk l ho b c=>?_⟩;cases k with
   | zero=>
     obtain rfl:o=l:=by simpa using ho
     rw[Nat.add_zero,h1 _ (by simp)]at c;have:(acc++[(fL o).foldl (λs j=>s ||| 2 ^ j ||| acc.getD j 0) 0]).getD acc.length 0=(fL o).foldl (λs j=>s ||| 2 ^ j ||| acc.getD j 0) 0:=by simp[gD]
     rw[this]at c;rcases Np acc b _ _ c with c | ⟨j,g,c⟩
     ·simp at c
     ·refine⟨j,g,?_⟩;rcases c with rfl | c
      ·exact .inl rfl
      ·have m:j<acc.length:=by
        by_cases n:j<acc.length
        ·exact n
        ·rw[gD,List.getElem?_eq_none om]at c;simp at c
       exact .inr ⟨by omega,by rw[h1 j (by simp;omega),d j m];exact c⟩
   | succ k=>
     have:=h2 k l (by simpa using ho) b (by simpa[Nat.add_assoc,Nat.add_comm 1 k] using c);obtain⟨j,g,p⟩:=this;refine⟨j,g,p.imp id (λh=>⟨by have:=h.1;simp at this;omega,h.2⟩)⟩
theorem zW {L:Nat->Prop}(m:∀ k,L k->∀ o,ops[k]? = some o->∀ d∈fL o,L d):∀ (i:Nat) (o:Oper),ops[i]? = some o->(∀ d∈fL o,L d)->∀ b,((ew ops.toList []).getD i 0).testBit b=true->L b:=by
 intro i;induction i using Nat.strongRecOn with
 | ind i ih=>
   intro o ho g b n;obtain⟨j,l,h⟩:=(Nn ops.toList []).2 i o (by simpa using ho) b (by simpa using n);rcases h with rfl | ⟨p,h⟩
   ·exact g _ l
   ·have q:j<i:=by simpa using p
    have c:∃ f,ops[j]? = some f:=by
     have:i<ops.size:=(Array.getElem?_eq_some_iff.1 ho).1;exact⟨ops[j],by simp⟩
    obtain⟨f,c⟩:=c;exact ih j q f c (m j (g j l) f c) b h
end jf
theorem IU {ops:Array Oper}{jf:List Nat}{base:List nA}{late:nA->Bool} : ∀ (l pre:List nA),xN ops jf base late pre l=true->∀ p x r,l=p++x::r->uN ops jf base late (pre++p) x r=true:=by
 intro l;induction l with
 | nil=>intro pre h p x r e;simp at e
 | cons y l ih=>
   intro pre h p x r e;simp only[xN,Bool.and_eq_true]at h;cases p with
   | nil=>
     simp only[List.nil_append,List.cons.injEq]at e;obtain⟨rfl,rfl⟩:=e;simpa using h.1
   | cons z p=>
     simp only[List.cons_append,List.cons.injEq]at e;obtain⟨rfl,rfl⟩:=e;have:=ih (pre++[y]) h.2 p x r rfl;simpa using this
structure wQ (c:Ctx) (ops:Array Oper) (base:List nA) (late:nA->Bool):Prop where
  at_:∀ x∈base,ops[x.1]? = some x.2.1/\dZ c ops x.2.1=some x.2.2
  len:base.length=ops.size
  nd:(base.map (·.1)).Nodup
  all:∀ i,i<ops.size->∃ x∈base,x.1=i
  deps:∀ p x r,base=p++x::r->∀ d∈fL x.2.1,∃ y∈p,y.1=d
  wait:∀ p x r,base=p++x::r->cA late x=false->∀ y∈r,cA late y=true->∃ d∈fL y.2.1,∀ z∈p,z.1≠d
  reads:∀ x∈base,∀ y∈base,∀ d,y.2.2.dst=some d->d∈cN ops x->(y.1≠x.1/\((ew ops.toList []).getD x.1 0).testBit y.1=true)∨(late y=true/\(y.1=x.1∨((ew ops.toList []).getD y.1 0).testBit x.1=true))
  dst:∀ x∈base,∀ y∈base,∀ d,x.2.2.dst=some d->y.2.2.dst=some d->x.1=y.1
  later:∀ p x r,base=p++x::r->∀ y∈p,∀ d,x.2.2.dst=some d->d∈cN ops y->late x=true/\((ew ops.toList []).getD x.1 0).testBit y.1=true
  ldst:∀ x∈base,kT x.2.2.op=true->∃ d,x.2.2.dst=some d
  makes:∀ x∈base,lX x.2.2.op=true->Op.makes x.2.1.op=true
  lateL:∀ x,late x=true->iy x.2.2.op=true
theorem zG {c:Ctx}{ops:Array Oper}{ls:List (List bC)}(h:uR c ops=some ls) :
 ∃ (late:nA->Bool) (u:List Nat),u.Nodup/\(∀ i∈u,i<ops.size)/\(∃ base,wQ c ops base late)/\∀ t∈exts (ew ops.toList []) u.length u,∃ base,wQ c ops base late/\drawn (ew ops.toList []) [] base∈ls/\(base.filter λx=>!cA late x).map (·.1)=t/\∀ x∈base,(x.1∈u↔cA late x=false):=by
 unfold uR at h;dsimp only at h;split at h
 ·cases h
 ·rename_i all V;split at h
  ·rename_i D;obtain⟨hl,X⟩:=iU V;have B:∀ (j:Nat) (x:nA),all[j]? = some x->x.1=j/\ops[j]? = some x.2.1/\dZ c ops x.2.1=some x.2.2:=by
    intro j x hx;have m:=(List.getElem?_eq_some_iff.1 hx).1;obtain⟨y,g,f⟩:=X j (by rw[<- hl];exact m);rw[hx]at g;cases g;have A:(List.range ops.size)[j]=j:=by simp
    rw[A]at f;obtain⟨o,ho,f⟩:=bind_some f;obtain⟨lo,D,f⟩:=bind_some f;cases f;exact⟨rfl,ho,D⟩
   obtain⟨xE,Y⟩:=iU h;have R:all.map (·.1)=List.range ops.size:=by
    apply List.ext_getElem?;intro j;rw[List.getElem?_map];cases hx:all[j]? with
    | none=>
      have h1:=List.getElem?_eq_none_iff.1 hx;rw[hl,List.length_range]at h1;rw[List.getElem?_eq_none (by simpa using h1)];rfl
    | some x=>
      have h1:=(List.getElem?_eq_some_iff.1 hx).1;rw[hl,List.length_range]at h1;rw[List.getElem?_range h1,Option.map_some,(B j x hx).1]
   have S:∀ t∈exts (ew ops.toList []) ((all.filter λx=>!cA (iY ops (ew ops.toList []) all) x).map (·.1)).length ((all.filter λx=>!cA (iY ops (ew ops.toList []) all) x).map (·.1)),∃ base,wQ c ops base (iY ops (ew ops.toList []) all)/\drawn (ew ops.toList []) [] base∈ls/\(base.filter λx=>!cA (iY ops (ew ops.toList []) all) x).map (·.1)=t/\∀ x∈base,(x.1∈(all.filter λx=>!cA (iY ops (ew ops.toList []) all) x).map (·.1)↔cA (iY ops (ew ops.toList []) all) x=false):=by
    intro t E;obtain⟨j,m,Z⟩:=List.getElem_of_mem E;obtain⟨l,KH,f⟩:=Y j m;rw[Z]at f;unfold KY at f;split at f
    ·cases f
    ·rename_i base F;split at f
     ·rename_i hc;obtain⟨h1,h2,h3,h5,h4⟩:=hc;cases f;obtain⟨pI,H⟩:=iU F;have T:∀ x∈base,∃ j:Nat,all[j]? = some x:=by
       intro x hx;obtain⟨j,m,rfl⟩:=List.getElem_of_mem hx;obtain⟨y,g,f⟩:=H j (by rw[<- pI];exact m);have:base[j]=y:=by simpa[m] using g
       rw[this];exact⟨_,f⟩
      have AR:∀ x∈base,ops[x.1]? = some x.2.1/\dZ c ops x.2.1=some x.2.2:=by
       intro x hx;obtain⟨j,m⟩:=T x hx;obtain⟨k1,k2,k3⟩:=B j x m;rw[k1];exact⟨k2,k3⟩
      have q:∀ p x r,base=p++x::r->uN ops (ew ops.toList []) base (iY ops (ew ops.toList []) all) p x r=true:=λp x r e=>by
       have:=IU base [] h4 p x r e;simpa using this
      have C:∀ x∈base,∃ p r,base=p++x::r:=λx hx=>List.append_of_mem hx;simp only[uN,Bool.and_eq_true]at q;refine⟨base,⟨AR,h1,h2,?_,?_,?_,?_,?_,?_,?_,?_,?_⟩,List.mem_of_getElem? KH,h5,λx hx=>?_⟩
      ·intro i I;have:=List.all_eq_true.1 h3 i (by simpa using I);simp only[List.contains_eq_mem,List.mem_map,decide_eq_true_eq]at this;exact this
      ·intro p x r e d n;obtain⟨⟨⟨⟨⟨⟨a1,a2⟩,a3⟩,a4⟩,a5⟩,a6⟩,a7⟩:=q p x r e;have:=List.all_eq_true.1 a1 d n;simpa using this
      ·intro p x r e sK y g J;obtain⟨⟨⟨⟨⟨⟨a1,a2⟩,a3⟩,a4⟩,a5⟩,a6⟩,a7⟩:=q p x r e;rw[sK,Bool.false_or]at a2;have:=List.all_eq_true.1 a2 y g;rw[J]at this;simp only[Bool.not_true,Bool.false_or,List.any_eq_true,Bool.not_eq_true',List.contains_eq_mem,List.mem_map,decide_eq_false_iff_not,not_exists,not_and]at this;obtain⟨d,n,hz⟩:=this;exact⟨d,n,λz L=>hz z L⟩
      ·intro x hx y g d n A;obtain⟨p,r,e⟩:=C x hx;obtain⟨⟨⟨⟨⟨⟨a1,a2⟩,a3⟩,a4⟩,a5⟩,a6⟩,a7⟩:=q p x r e;have:=List.all_eq_true.1 a3 y g;rw[n]at this;simpa[A] using this
      ·intro x hx y g d n w5;obtain⟨p,r,e⟩:=C x hx;obtain⟨⟨⟨⟨⟨⟨a1,a2⟩,a3⟩,a4⟩,a5⟩,a6⟩,a7⟩:=q p x r e;have:=List.all_eq_true.1 a4 y g;rw[w5]at this;simpa[n] using this
      ·intro p x r e y g d n A;obtain⟨⟨⟨⟨⟨⟨a1,a2⟩,a3⟩,a4⟩,a5⟩,a6⟩,a7⟩:=q p x r e;have:=List.all_eq_true.1 a5 y g;rw[n]at this;simpa[A] using this
      ·intro x hx hl;obtain⟨p,r,e⟩:=C x hx;obtain⟨⟨⟨⟨⟨⟨a1,a2⟩,a3⟩,a4⟩,a5⟩,a6⟩,a7⟩:=q p x r e;rw[hl]at a6;simpa[Option.isSome_iff_exists] using a6
      ·intro x hx hl;obtain⟨p,r,e⟩:=C x hx;obtain⟨⟨⟨⟨⟨⟨a1,a2⟩,a3⟩,a4⟩,a5⟩,a6⟩,a7⟩:=q p x r e;rw[hl]at a7;simpa using a7
      ·intro x hx;unfold iY at hx;rw[Bool.and_eq_true]at hx;exact hx.1
      ·obtain⟨j,m⟩:=T x hx;have M:x∈all:=List.mem_of_getElem? m;constructor
       ·intro hm;obtain⟨y,g,Uz⟩:=List.mem_map.1 hm;obtain⟨N,O⟩:=List.mem_filter.1 g;obtain⟨U,Q⟩:=List.mem_iff_getElem?.1 N;have e1:=(B j x m).1;have e2:=(B U y Q).1;have:j=U:=by omega
        subst this;rw[m]at Q;cases Q;simpa using O
       ·intro f;exact List.mem_map.2 ⟨x,List.mem_filter.2 ⟨M,by simp[f]⟩,rfl⟩
     ·cases f
   refine⟨iY ops (ew ops.toList []) all,(all.filter λx=>!cA (iY ops (ew ops.toList []) all) x).map (·.1),?_,?_,?_,S⟩
   ·have hs:(List.map (·.1) (all.filter λx=>!cA (iY ops (ew ops.toList []) all) x)).Sublist (all.map (·.1)):=List.filter_sublist.map _;rw[R]at hs;exact hs.nodup List.nodup_range
   ·intro i I;obtain⟨x,hx,rfl⟩:=List.mem_map.1 I;have hm:x.1∈all.map (·.1):=List.mem_map_of_mem (List.mem_filter.1 hx).1;rw[R]at hm;simpa using hm
   ·cases hx:exts (ew ops.toList []) ((all.filter λx=>!cA (iY ops (ew ops.toList []) all) x).map (·.1)).length ((all.filter λx=>!cA (iY ops (ew ops.toList []) all) x).map (·.1)) with
    | nil=>have:=D.2;rw[hx]at this;cases this
    | cons t r=>
      obtain⟨base,K,_⟩:=S t (by rw[hx];simp);exact⟨base,K⟩
  ·cases h
def rF (e:Env) (c:bC) (v:LV):Prop:=∀ d,c.dst=some d->e.at d=v
def POk (d:Nat->Option Nat) (μ:Mu) (e:Env) (s:St) (x:nA):Prop:=
 (aK x.2.2.guard e=some false/\rF e x.2.2 (.cE [])) ∨
 (aK x.2.2.guard e=some true/\lX x.2.2.op=false/\(iy x.2.2.op=true∨(jO x.2.2.op=true/\dP true x.2.2.op e=true))/\∃ v,rF e x.2.2 v/\x.2.2.op.run e s=some (v,s)) ∨
 (aK x.2.2.guard e=some true/\lX x.2.2.op=true/\∃ c cs v,d x.1=some c.n/\x.2.2.op.run e c=some (v,c.new (.cells .mut cs))/\rF e x.2.2 v/\μ c.n=none/\s.get c.n=some (.cells .mut cs))
section
variable {P:Program}{G:bP}{refs:List Nat}{nt:Nat}{ops:Array Oper}{base:List nA}{late:nA->Bool}{w0:Bs}{δ:Nat->Prop}{μs μ:Mu}{Jm ι:Io}{ss s:St}{ws w:World}{e:Env}{a:Act}{b:Frame}{k:List Item}{cs:List Frame}
theorem POk.congr {c p:Nat->Option Nat}{q:Mu}{e':Env}{s':St}{x:nA}(h:POk c μ e s x) (m:∀ t∈cN ops x,e'.at t=e.at t) (B:∀ d,x.2.2.dst=some d->e'.at d=e.at d)
 (C:∀ id,c x.1=some id->p x.1=some id) (hs:∀ id,c x.1=some id->μ id=none->s'.get id=s.get id) (hm:∀ id,c x.1=some id->μ id=none->q id=none)
 (D:kT x.2.2.op=true->aK x.2.2.guard e'=some true->∀ v,rF e' x.2.2 v->x.2.2.op.run e s=some (v,s)->x.2.2.op.run e' s'=some (v,s')):POk p q e' s' x:=by
 have i:aK x.2.2.guard e'=aK x.2.2.guard e:=sQ λd r E=>m d (by simp[cN,E]);have u:∀ s,x.2.2.op.run e' s=x.2.2.op.run e s:=λs=>nG _ λt n=>m t (by simp[cN,n]);have j:∀ v,rF e x.2.2 v->rF e' x.2.2 v:=λv h d z=>(B d z).trans (h d z);rcases h with⟨h1,h2⟩ | ⟨h1,h2,h3,v,l,f⟩ | ⟨h1,h2,F,cs,v,h3,l,f,h6,H⟩
 ·exact .inl ⟨i.trans h1,j _ h2⟩
 ·refine .inr (.inl ⟨i.trans h1,h2,?_,v,j _ l,?_⟩)
  ·refine h3.imp id (λh=>⟨h.1,?_⟩);have g:=h.2;cases A:x.2.2.op<;>rw[A]at g<;>try rfl
   rename_i I y;cases I
   ·rfl
   ·have:y.ev e'=y.ev e:=bF.congr λt n=>m t (by simp[cN,A,bq.tmps,n]);simpa[dP,this] using g
  ·by_cases hl:kT x.2.2.op=true
   ·exact D hl (i.trans h1) v (j _ l) f
   ·rw[u];rcases h3 with h3 | ⟨h3,o⟩
    ·exact L6 h3 (by simpa using hl) f
    ·exact (Gl h3 o f).2 s'
 ·exact .inr (.inr ⟨i.trans h1,h2,F,cs,v,C _ h3,by rw[u];exact l,j _ f,hm _ h3 h6,by rw[hs _ h3 h6];exact H⟩)
structure NZ (P:Program) (G:bP) (nt:Nat) (ops:Array Oper) (base:List nA) (late:nA->Bool) (w0:Bs) (δ:Nat->Prop) (μs:Mu) (Jm:Io) (ss:St) (ws:World)
    (cv pre rest:List nA) (aT:Array Bool) (pid:Nat->Option Nat) (μ:Mu) (ι:Io) (e:Env) (s:St) (w:World) (a:Act):Prop where
  now:Du P G w0 μ ι δ s w
  size:a.tmps.size=nt
  re:∀ t,(∀ x∈cv,x.2.2.dst≠some t)->Rv μ ι w (e.at t) (a.tmps.getD t undef)
  pok:∀ x∈cv,POk pid μ e s x
  Ph:∀ i j id,pid i=some id->pid j=some id->i=j
  Nv:∀ i id,pid i=some id->id<s.n/\ss.n<=id
  flt:∀ x∈cv,cA late x=true
  Yl:aT.size=ops.size
  u7:∀ x∈base,(aT.getD x.1 false=true↔x ∉ cv/\x ∉ rest)
  cls:∀ k,aT.getD k false=true->∀ o,ops[k]? = some o->∀ d∈fL o,aT.getD d false=true
  base:base=pre++rest
  sub:∀ x∈cv,x∈pre
  nd:cv.Nodup
  ext:Ext μs Jm δ ws μ ι δ w
  kept:Kept μs ss μ s
theorem key_inj (K:wQ ⟨P,G,refs,nt⟩ ops base late) {x y:nA}(hx:x∈base) (c:y∈base) (h:x.1=y.1):x=y:=by
 obtain⟨h1,h2⟩:=K.at_ x hx;obtain⟨h3,d⟩:=K.at_ y c;rw[h]at h1;have ho:x.2.1=y.2.1:=Option.some.inj (h1.symm.trans h3);rw[ho]at h2;have hl:x.2.2=y.2.2:=Option.some.inj (h2.symm.trans d);exact Prod.ext h (Prod.ext ho hl)
theorem Sc:∀ {l:List (Nat × Option (Nat × Bool) × bq)}{e:Env}{s:St},dG l e s->∀ q∈l,aK q.2.1 e=some false∨(aK q.2.1 e=some true/\q.2.2.run e s=some (e.at q.1,s)):=by
 intro l;induction l with
 | nil=>intro e s _ q c;exact absurd c (List.not_mem_nil)
 | cons p l ih=>
   intro e s h q c;obtain⟨h1,h2⟩:=h;rcases List.mem_cons.1 c with rfl | c
   ·exact h1
   ·exact ih h2 q c
theorem Gi {jf:List Nat}{pre:List nA}{x y:nA}{e':Env}{s':St}(f:dG (wM jf pre x) e' s') (hx:(iy x.2.2.op || jO x.2.2.op)=false) (g:y∈pre) (hl:kT y.2.2.op=true)
 (c:∃ d,y.2.2.dst=some d) (i:lX x.2.2.op=true∨(jf.getD x.1 0).testBit y.1=false) (j:aK y.2.2.guard e'=some true) {v:LV}(l:rF e' y.2.2 v):y.2.2.op.run e' s'=some (v,s'):=by
 obtain⟨d,c⟩:=c;have hm:(d,y.2.2.guard,y.2.2.op)∈wM jf pre x:=by
  unfold wM;rw[hx];simp only[Bool.false_eq_true,if_false];refine List.mem_filterMap.2 ⟨y,g,?_⟩;have:(kT y.2.2.op && (lX x.2.2.op || !(jf.getD x.1 0).testBit y.1))=true:=by
   rw[hl,Bool.true_and];rcases i with h | h<;>rw[h]<;>simp
  rw[if_pos this,c];rfl
 rcases Sc f _ hm with h | ⟨_,h⟩
 ·rw[j]at h;cases h
 ·simp only at h;rw[l d c]at h;exact h
theorem NZ.RF (K:wQ ⟨P,G,refs,nt⟩ ops base late) {R:Env->St->Prop} : ∀ (rest:List nA) (u pre:List nA) (B:Array Bool) (m:Nat->Option Nat) (e:Env) (s:St),
 NZ P G nt ops base late w0 δ μs Jm ss ws u pre rest B m μ ι e s w a->dL P G (drawn (ew ops.toList []) pre rest) e s R ->
 ∃ gm E q p e' s',NZ P G nt ops base late w0 δ μs Jm ss ws gm E q B p μ ι e' s' w a/\dL P G (drawn (ew ops.toList []) E q) e' s' R /\
   (q=[]∨∃ x r,q=x::r/\cA late x=false)/\gm.length+q.length=u.length+rest.length/\(q.filter λx=>!cA late x)=(rest.filter λx=>!cA late x):=by
 intro rest;induction rest with
 | nil=>intro u pre B m e s S h;exact⟨u,pre,[],m,e,s,S,h, .inl rfl,rfl,rfl⟩
 | cons x rest ih=>
   intro u pre B m e s S h;cases A:cA late x with
   | false=>exact⟨u,pre,x::rest,m,e,s,S,h, .inr ⟨x,rest,rfl,A⟩,rfl,rfl⟩
   | true=>
     have L:xA x.2.2.op=true:=by
      unfold cA at A;rw[Bool.and_eq_true]at A;exact A.1
     have fH:late x=false:=by
      unfold cA at A;rw[Bool.and_eq_true]at A;simpa using A.2
     have M:x∈base:=by rw[S.base];simp
     have T:∀ y∈pre,y∈base:=λy c=>by rw[S.base];exact List.mem_append_left _ c
     have fM:(pre++x::rest).Nodup:=by
      have:=K.nd;rw[S.base]at this;exact List.Pairwise.of_map (·.1) (λa b h e=>h (by rw[e])) this
     have Y:x ∉ pre:=λh=>(List.nodup_append.1 fM).2.2 x h x (by simp) rfl;have Qs:x ∉ rest:=(List.nodup_cons.1 (List.nodup_append.1 fM).2.1).1;have zb:∀ y∈pre,∀ d,x.2.2.dst=some d->d ∉ cN ops y:=λy c d o I=>by
      have:=(K.later pre x rest S.base y c d o I).1;rw[fH]at this;cases this
     have Vm:∀ v t,x.2.2.dst≠some t->(e.put x.2.2.dst v).at t=e.at t:=λv t l=>by
      cases o:x.2.2.dst with
      | none=>rfl
      | some d=>rw[o]at l;rw[Env.aB,Env.rC,if_neg (λh=>l (by rw[h]))]
     have N:∀ v,∀ y∈u,∀ t∈cN ops y,(e.put x.2.2.dst v).at t=e.at t:=λv y c t l=>Vm v t λo=>zb y (S.sub y c) t o l;have go:∀ (v:LV) (s':St) (p:Nat->Option Nat),(s'=s/\p=m)∨(∃ J,s'=s.new J/\p=λi=>if i=x.1 then some s.n else m i) ->
      (∀ y∈u,kT y.2.2.op=true->aK y.2.2.guard (e.put x.2.2.dst v)=some true->∀ v',rF (e.put x.2.2.dst v) y.2.2 v'->y.2.2.op.run e s=some (v',s)->y.2.2.op.run (e.put x.2.2.dst v) s'=some (v',s')) ->
      POk p μ (e.put x.2.2.dst v) s' x ->
      NZ P G nt ops base late w0 δ μs Jm ss ws (x::u) (pre++[x]) rest B p μ ι (e.put x.2.2.dst v) s' w a:=by
      intro v s' p hs kG hx;have F:∀ t,x.2.2.dst≠some t->(e.put x.2.2.dst v).at t=e.at t:=λt l=>by
       cases o:x.2.2.dst with
       | none=>rfl
       | some d=>rw[o]at l;rw[Env.aB,Env.rC,if_neg (λh=>l (by rw[h]))]
      have C:Inv (sM P G) w0 μ ι δ s' w/\Kept μ s μ s':=by
       rcases hs with⟨rfl,_⟩ | ⟨J,rfl,_⟩
       ·exact⟨S.now.inv,Kept.refl _ _⟩
       ·exact⟨S.now.inv.TY J,by simp,λid U _=>by rw[St.aA,if_neg om],λ_ _ h=>h⟩
      have Mw:∀ y∈u,∀ id,m y.1=some id->p y.1=some id/\s'.get id=s.get id:=by
       intro y c id U;have dB:y.1≠x.1:=λh=>Y ((key_inj K (T y (S.sub y c)) M h) ▸ S.sub y c);rcases hs with⟨rfl,rfl⟩ | ⟨J,rfl,rfl⟩
       ·exact⟨U,rfl⟩
       ·exact⟨by simp only[if_neg dB];exact U,by rw[St.aA,if_neg (by have:=(S.Nv _ _ U).1;omega)]⟩
      refine⟨⟨C.1,S.now.RJ,S.now.own⟩,S.size,λt l=>?_,λy c=>?_,?_,?_,?_,S.Yl,λy c=>?_,S.cls,by rw[S.base];simp,?_,?_,S.ext,S.kept.trans C.2⟩
      ·rw[F t (l x (by simp))];exact S.re t λy c=>l y (List.mem_cons_of_mem _ c)
      ·rcases List.mem_cons.1 c with rfl | c
       ·exact hx
       ·refine (S.pok y c).congr (ops:=ops) (λt l=>F t λo=>zb y (S.sub y c) t o l) (λd o=>F d λw5=>?_) (λid h=>(Mw y c id h).1) (λid h _=>(Mw y c id h).2) (λ_ _ h=>h) (kG y c);exact Y ((key_inj K (T y (S.sub y c)) M (K.dst y (T y (S.sub y c)) x M d o w5)) ▸ S.sub y c)
      ·rcases hs with⟨_,rfl⟩ | ⟨J,_,rfl⟩
       ·exact S.Ph
       ·intro i j id z O;dsimp only at z O;split at z<;>split at O
        ·omega
        ·cases z;have:=(S.Nv _ _ O).1;omega
        ·cases O;have:=(S.Nv _ _ z).1;omega
        ·exact S.Ph i j id z O
      ·rcases hs with⟨rfl,rfl⟩ | ⟨J,rfl,rfl⟩
       ·exact S.Nv
       ·intro i id z;dsimp only at z;split at z
        ·cases z;exact⟨by simp,S.kept.n⟩
        ·have:=S.Nv i id z;exact⟨by simp;omega,this.2⟩
      ·intro y c;rcases List.mem_cons.1 c with rfl | c
       ·exact A
       ·exact S.flt y c
      ·rw[S.u7 y c];simp only[List.mem_cons,not_or];constructor
       ·rintro⟨h1,h2,h3⟩;exact⟨⟨h2,h1⟩,h3⟩
       ·rintro⟨⟨h2,h1⟩,h3⟩;exact⟨h1,h2,h3⟩
      ·intro y c;rcases List.mem_cons.1 c with rfl | c
       ·simp
       ·exact List.mem_append_left _ (S.sub y c)
      ·exact List.nodup_cons.2 ⟨λh=>Y (S.sub x h),S.nd⟩
     have uC:∀ t∈cN ops x,x.2.2.dst≠some t:=λt l o=>by
      rcases K.reads x M x M t o l with h | h
      ·exact h.1 rfl
      ·rw[fH]at h;cases h.1
     have F:∀ v t,t∈cN ops x->(e.put x.2.2.dst v).at t=e.at t:=λv t l=>by
      cases o:x.2.2.dst with
      | none=>rfl
      | some d=>rw[Env.aB,Env.rC,if_neg (λh=>uC t l (by rw[o,h]))]
     have Z:∀ v,aK x.2.2.guard (e.put x.2.2.dst v)=aK x.2.2.guard e:=λv=>sQ λd want hg=>F v d (by simp[cN,hg]);have BM:∀ v s,x.2.2.op.run (e.put x.2.2.dst v) s=x.2.2.op.run e s:=λv s=>nG _ λt l=>F v t (by simp[cN,l]);have DN:∀ v,rF (e.put x.2.2.dst v) x.2.2 v:=λv d o=>by rw[o];simp
     have bV:jN x.2.2.op=false:=by
      cases hc:jN x.2.2.op with
      | false=>rfl
      | true=>
        exfalso;rcases kj hc with⟨f,as,hh⟩ | ⟨f,hh⟩ | ⟨n,f,g,hh⟩<;>rw[hh]at L<;>cases L
     have done:∀ p v s',NZ P G nt ops base late w0 δ μs Jm ss ws (x::u) (pre++[x]) rest B p μ ι (e.put x.2.2.dst v) s' w a->dL P G (drawn (ew ops.toList []) (pre++[x]) rest) (e.put x.2.2.dst v) s' R ->
      ∃ gm E q p e' s',NZ P G nt ops base late w0 δ μs Jm ss ws gm E q B p μ ι e' s' w a/\dL P G (drawn (ew ops.toList []) E q) e' s' R /\
      (q=[]∨∃ x r,q=x::r/\cA late x=false)/\gm.length+q.length=u.length+(x::rest).length/\(q.filter λx=>!cA late x)=((x::rest).filter λx=>!cA late x):=by
      intro p v s' S' h';obtain⟨gm,E,q,p,e',s',r1,r2,r3,r4,r5⟩:=ih (x::u) (pre++[x]) B p _ s' S' h';exact⟨gm,E,q,p,e',s',r1,r2,r3,by rw[r4];simp;omega,by rw[r5,List.filter_cons_of_neg (by simp[A])]⟩
     simp only[drawn,dL]at h;split at h
     ·exact h.elim
     ·rename_i V;exact done m (.cE []) s (go (.cE []) s m (.inl ⟨rfl,rfl⟩) (λy c hl H v' hv I=>by
       rw[<- I];exact nG _ λt l=>N _ y c t (by simp[cN,l])) (.inl ⟨(Z _).trans V,DN _⟩)) h
     ·rename_i V;obtain⟨v,s',Q,gV,mV,oJ⟩:=yw h bV;have hrd:∀ y∈u,∀ s,y.2.2.op.run (e.put x.2.2.dst v) s=y.2.2.op.run e s:=λy c s=>nG _ λt l=>N v y c t (by simp[cN,l]);cases D:lX x.2.2.op with
      | true=>
        obtain⟨cs,rfl⟩:=Lx D Q;refine done _ v _ (go v _ _ (.inr ⟨_,rfl,rfl⟩) (λy c hl H v' hv I=>?_) (.inr (.inr ⟨(Z v).trans V,D,s,cs,v,if_pos rfl,by rw[BM];exact Q,DN v,?_,by rw[St.aA,if_pos rfl]⟩))) oJ
        ·exact Gi mV (by cases X:x.2.2.op<;>rw[X]at D<;>first | (cases D;done) | rfl | (rename_i im _;cases im<;>first | rfl | cases D)) (S.sub y c) hl (K.ldst y (T y (S.sub y c)) hl) (.inl D) H hv
        ·exact S.now.inv.mu_n
      | false=>
        have FG:iy x.2.2.op=true∨jO x.2.2.op=true:=by
         unfold xA at L;rw[D,Bool.or_false,Bool.or_eq_true]at L;exact L
        have WN:s'=s:=by
         rcases FG with hl | hl
         ·exact vF hl Q
         ·exact (Gl hl gV Q).1
        subst WN;refine done _ v _ (go v s' m (.inl ⟨rfl,rfl⟩) (λy c hl H v' hv I=>by rw[hrd y c];exact I) (.inr (.inl ⟨(Z v).trans V,D,?_,v,DN v,by rw[BM];exact Q⟩))) oJ;refine FG.imp id λhb=>⟨hb,?_⟩;cases X:x.2.2.op<;>try rfl
        rename_i im y;cases im
        ·rfl
        ·have:y.ev (e.put x.2.2.dst v)=y.ev e:=bF.congr λt l=>F v t (by simp[cN,X,bq.tmps,l]);rw[X]at gV;simpa[dP,this] using gV
end
theorem vS (a:Act) (d:Option Nat) (x:Value) (t:Nat) (h:d≠some t):(a.put d x).tmps.getD t undef=a.tmps.getD t undef:=by
 cases d with
 | none=>rfl
 | some d=>
   have dB:d≠t:=λe=>h (by rw[e]);simp[Act.put,gF,dB]
theorem vT (a:Act) (d:Nat) (x:Value) (h:d<a.tmps.size):(a.put (some d) x).tmps.getD d undef=x:=by
 simp[Act.put,gF,h]
theorem oN (e:Env) (d:Option Nat) (v:LV) (t:Nat) (h:d≠some t):(e.put d v).at t=e.at t:=by
 cases d with
 | none=>rfl
 | some d=>rw[Env.aB,Env.rC,if_neg (λe=>h (by rw[e]))]
theorem tD (l:Array Bool) (i j:Nat) (c:i<l.size):(l.setIfInBounds i true).getD j false=if j=i then true else l.getD j false:=by
 by_cases h:j=i
 ·subst h;simp[gF,c]
 ·have d:i≠j:=Ne.symm h;simp[gF,h,d]
section
variable {P:Program}{G:bP}{refs:List Nat}{nt:Nat}{ops:Array Oper}{base:List nA}{late:nA->Bool}{w0:Bs}{δ:Nat->Prop}{μs μ:Mu}{Jm ι:Io}{ss s:St}{ws w:World}{e:Env}{a:Act}{b:Frame}{k:List Item}{cs:List Frame}
theorem mem_reads {x:nA}{t:Nat}(h:.tmp t∈x.2.1.op.operands.toList):t∈cN ops x:=by
 unfold cN Oper.looksAt;refine List.mem_append_left _ (List.mem_append_left _ (List.mem_append_left _ ?_));exact List.mem_filterMap.2 ⟨.tmp t,h,rfl⟩
theorem Em (K:wQ ⟨P,G,refs,nt⟩ ops base late) {c:Array Bool}(n:c.size=ops.size) (o:∃ y∈base,c.getD y.1 false=false):Region.ready .any ops c≠[]:=by
 obtain⟨y,g,p⟩:=o;cases d:base.find? (λx=>!c.getD x.1 false) with
 | none=>
   have:=List.find?_eq_none.1 d y g;simp[p]at this
 | some x=>
   obtain⟨h1,as,q,h2,h3⟩:=List.find?_eq_some_iff_append.1 d;have r:x∈base:=by rw[h2];simp
   obtain⟨l,_⟩:=K.at_ x r;have m:x.1<ops.size:=(Array.getElem?_eq_some_iff.1 l).1;intro t;have:x.1∈Region.ready .any ops c:=by
    unfold Region.ready;refine List.mem_filter.2 ⟨by simpa using m,?_⟩;have u:c.getD x.1 true=false:=by
     have f:x.1<c.size:=by rw[n];exact m
     simp only[gF,Array.getElem?_eq_getElem f,Option.getD_some,Bool.not_eq_eq_eq_not,Bool.not_true]at h1 ⊢;exact h1
    rw[u,l];simp only[Bool.not_false,Bool.true_and,Option.map_some,Option.getD_some,Array.all_eq_true'];intro h i;cases A:Region.binds .any h with
    | false=>simp
    | true=>
      obtain⟨z,B,j⟩:=K.deps as x q h2 h.on (List.mem_filterMap.2 ⟨h,by simpa using i,by simp[A]⟩);have:=h3 z B;rw[j]at this;simpa using this
   rw[t]at this;exact absurd this (List.not_mem_nil)
theorem go_succ (m t:Nat) (c:Array Bool):Region.linearise.go .any ops (m+1) t c []=(match (Region.ready .any ops c)[t % (Region.ready .any ops c).length]? with
 | some i=>Region.linearise.go .any ops m (t / (Region.ready .any ops c).length) (c.setIfInBounds i true) [i]
 | none=>[].reverse):=by
 rw[Region.linearise.go];rfl
theorem Bm {g:Array Bool}(r:g.size=ops.size) {i:Nat}(h:i∈Region.ready .any ops g):i<ops.size/\g.getD i false=false/\∀ o,ops[i]? = some o->∀ d∈fL o,g.getD d false=true:=by
 unfold Region.ready at h;obtain⟨l,j⟩:=List.mem_filter.1 h;have n:i<ops.size:=by simpa using l
 have t:i<g.size:=by rw[r];exact n
 simp only[Bool.and_eq_true]at j;obtain⟨j,f⟩:=j;refine⟨n,?_,λo ho d u=>?_⟩
 ·simp only[gF,Array.getElem?_eq_getElem t,Option.getD_some,Bool.not_eq_true']at j ⊢;exact j
 ·obtain⟨p,m,c⟩:=List.mem_filterMap.1 u;rw[ho]at f;simp only[Option.map_some,Option.getD_some,Array.all_eq_true']at f;have:=f p (by simpa using m);cases q:Region.binds .any p with
  | false=>rw[q]at c;simp at c
  | true=>rw[q]at c this;simp at c this;rw[<- c];simpa using this
theorem zA {c:Array Bool}{i:Nat}(d:i<c.size) {l:List Nat}(f:l.Nodup):(l.filter λj=>!(c.setIfInBounds i true).getD j false)=(l.filter λj=>!c.getD j false).erase i:=by
 rw[List.Nodup.erase_eq_filter (List.Pairwise.filter _ f),List.filter_filter];refine List.filter_congr λj _=>?_;rw[tD c i j d];by_cases h:j=i
 ·subst h;simp
 ·simp[h]
theorem cover (K:wQ ⟨P,G,refs,nt⟩ ops base late) {f:List Nat}(Q:f.Nodup) (R:∀ i∈f,i<ops.size):∀ (m t:Nat) (c:Array Bool),c.size=ops.size->(∀ k,c.getD k false=true->∀ o,ops[k]? = some o->∀ d∈fL o,c.getD d false=true) ->
 ((List.range ops.size).filter λj=>!c.getD j false).length=m ->
 ((Region.linearise.go .any ops m t c []).filter λi=>f.contains i)∈exts (ew ops.toList []) (f.filter λj=>!c.getD j false).length (f.filter λj=>!c.getD j false):=by
 intro m;induction m with
 | zero=>
   intro t c g z hm;have h0:(f.filter λj=>!c.getD j false)=[]:=by
    rw[List.filter_eq_nil_iff];intro j l A;have:j∈(List.range ops.size).filter λj=>!c.getD j false:=List.mem_filter.2 ⟨by simpa using R j l,A⟩;rw[List.length_eq_zero_iff.1 hm]at this;exact absurd this (List.not_mem_nil)
   rw[h0];simp[Region.linearise.go,exts]
 | succ m ih=>
   intro t c g z hm;have S:∃ y∈base,c.getD y.1 false=false:=by
    cases H:(List.range ops.size).filter λj=>!c.getD j false with
    | nil=>rw[H]at hm;simp at hm
    | cons j r=>
      have l:j∈(List.range ops.size).filter λj=>!c.getD j false:=by rw[H];simp
      obtain⟨T,U⟩:=List.mem_filter.1 l;obtain⟨x,hx,rfl⟩:=K.all j (by simpa using T);exact⟨x,hx,by simpa using U⟩
   have dB:=Em K g S;have p:0<(Region.ready .any ops c).length:=List.length_pos_iff.2 dB;rw[go_succ];cases I:(Region.ready .any ops c)[t % (Region.ready .any ops c).length]? with
   | none=>
     have:=Nat.mod_lt t p;rw[List.getElem?_eq_none_iff]at I;omega
   | some i=>
     dsimp only;rw[linearise_go_acc,List.reverse_singleton,List.singleton_append];generalize t / (Region.ready .any ops c).length=V;obtain⟨B,J,M⟩:=Bm g (List.mem_of_getElem? I);have C:i<c.size:=by rw[g];exact B
     have X:∀ k,(c.setIfInBounds i true).getD k false=true->∀ o,ops[k]? = some o->∀ d∈fL o,(c.setIfInBounds i true).getD d false=true:=by
      intro k D o ho d N;rw[tD c i _ C]at D ⊢;split
      ·rfl
      ·split at D
       ·rename_i Y;subst Y;exact M o ho d N
       ·exact z k D o ho d N
     have Z:((List.range ops.size).filter λj=>!(c.setIfInBounds i true).getD j false).length=m:=by
      rw[zA C List.nodup_range,List.length_erase_of_mem (List.mem_filter.2 ⟨by simpa using B,by simp[J]⟩),hm];rfl
     have q:=ih V (c.setIfInBounds i true) (by simp[g]) X Z;rw[zA C Q]at q;by_cases u:i∈f
     ·have E:i∈f.filter λj=>!c.getD j false:=List.mem_filter.2 ⟨u,by simp[J]⟩;rw[List.filter_cons_of_pos (by simpa using u)];obtain⟨n,O⟩:∃ n,(f.filter λj=>!c.getD j false).length=n+1:=⟨_,(Nat.succ_pred_eq_of_pos (List.length_pos_of_mem E)).symm⟩;rw[List.length_erase_of_mem E,O,Nat.add_sub_cancel]at q;rw[O];simp only[exts,List.mem_flatMap];refine⟨i,List.mem_filter.2 ⟨E,?_⟩,List.mem_map.2 ⟨_,q,rfl⟩⟩;rw[List.all_eq_true];intro j l;by_cases F:j=i
      ·simp[F]
      ·have zc:c.getD j false=false:=by simpa using (List.mem_filter.1 l).2
       cases A:((ew ops.toList []).getD i 0).testBit j with
       | false=>simp
       | true=>
         obtain⟨o,ho⟩:∃ o,ops[i]? = some o:=⟨ops[i],by simp[B]⟩;have:=zW (L:=λj=>c.getD j false=true) z i o ho (M o ho) j A;rw[zc]at this;cases this
     ·rw[List.filter_cons_of_neg (by simpa using u)];have Zk:i ∉ f.filter λj=>!c.getD j false:=λh=>u (List.mem_filter.1 h).1;rw[List.erase_of_not_mem Zk]at q;exact q
theorem Tq (K:wQ ⟨P,G,refs,nt⟩ ops base late) {nfI:Nat->Bool}(Zl:∀ x∈base,nfI x.1 = !cA late x) {KK:Env->St->Prop} : ∀ (m t:Nat) (F pre rest:List nA) (B:Array Bool) (D:Nat->Option Nat) (μ:Mu) (ι:Io) (e:Env) (s:St) (w:World) (a:Act),
 NZ P G nt ops base late w0 δ μs Jm ss ws F pre rest B D μ ι e s w a->m=F.length+rest.length->((Region.linearise.go .any ops m t B []).filter nfI)=(rest.filter λx=>!cA late x).map (·.1)->dL P G (drawn (ew ops.toList []) pre rest) e s KK ->
 (rest=[]∨∃ x r,rest=x::r/\cA late x=false) ->
 ∃ e' s' l A u R,KK e' s'/\Steps P (lone (b.atR a (.inRegion ops (Region.linearise.go .any ops m t B [])::k)) cs w) (lone (b.atR R (.inRegion ops []::k)) cs u) /\
   Fr P G w0 l A δ s' u nt e' R/\Ext μs Jm δ ws l A δ u/\Kept μs ss l s'/\R.defers=a.defers:=by
 intro m;induction m with
 | zero=>
   intro t F pre rest B D μ ι e s w a S hm H oJ uD;have hp:F=[]:=List.length_eq_zero_iff.1 om;have Z:rest=[]:=List.length_eq_zero_iff.1 om;subst hp;subst Z;exact⟨e,s,μ,ι,w,a,oJ,by simp only[Region.linearise.go,List.reverse_nil];exact .refl _ _,⟨S.now,λt=>S.re t (λx hx=>absurd hx (List.not_mem_nil)),S.size⟩,S.ext,S.kept,rfl⟩
 | succ m ih =>
   intro t F pre rest B D μ ι e s w a S hm H oJ uD;have fM:base.Nodup:=List.Pairwise.of_map (·.1) (λa b h e=>h (by rw[e])) K.nd;have yQ:∀ y∈F,y∈base:=λy c=>by rw[S.base];exact List.mem_append_left _ (S.sub y c)
   have QG:∀ y∈rest,y∈base:=λy c=>by rw[S.base];exact List.mem_append_right _ c
   have dB:Region.ready .any ops B≠[]:=by
    refine Em K S.Yl ?_;have:∃ y,y∈F∨y∈rest:=by
     cases F with
     | cons y p=>exact⟨y, .inl (by simp)⟩
     | nil=>
       cases rest with
       | cons y r=>exact⟨y, .inr (by simp)⟩
       | nil=>simp at hm
    obtain⟨y,c⟩:=this;have hyb:y∈base:=c.elim (yQ y) (QG y);refine⟨y,hyb,?_⟩;cases hl:B.getD y.1 false with
    | false=>rfl
    | true=>
      obtain⟨h1,h2⟩:=(S.u7 y hyb).1 hl;exact absurd c (λh=>h.elim h1 h2)
   rw[go_succ]at H ⊢;have hlen:0<(Region.ready .any ops B).length:=List.length_pos_iff.2 dB;cases hi:(Region.ready .any ops B)[t % (Region.ready .any ops B).length]? with
   | none=>
     have:=Nat.mod_lt t hlen;rw[List.getElem?_eq_none_iff]at hi;omega
   | some i=>
     rw[hi]at H;dsimp only at H ⊢;rw[linearise_go_acc,List.reverse_singleton,List.singleton_append]at H ⊢;generalize t / (Region.ready .any ops B).length=U at H ⊢;obtain⟨De,cy,ZR⟩:=Bm S.Yl (List.mem_of_getElem? hi);have Iv:i<B.size:=by rw[S.Yl];exact De
     obtain⟨x,N,rfl⟩:=K.all i De;obtain⟨Y,GQ⟩:=K.at_ x N;obtain⟨Vh,Ri,hdlt,kW⟩:=gR GQ;have BY:∀ d∈fL x.2.1,B.getD d false=true:=ZR x.2.1 Y;have hanc:∀ j,((ew ops.toList []).getD x.1 0).testBit j=true->B.getD j false=true:=zW (L:=λj=>B.getD j false=true) S.cls x.1 x.2.1 Y BY;have Zi:∀ y∈F,((ew ops.toList []).getD x.1 0).testBit y.1=false:=λy c=>by
      cases hb:((ew ops.toList []).getD x.1 0).testBit y.1 with
      | false=>rfl
      | true=>exact absurd c ((S.u7 y (yQ y c)).1 (hanc y.1 hb)).1
     have fH:∀ y∈F,late y=false:=λy c=>by
      have:=S.flt y c;unfold cA at this;rw[Bool.and_eq_true]at this;simpa using this.2
     have WU:∀ t∈cN ops x,Rv μ ι w (e.at t) (a.tmps.getD t undef):=λt O=>S.re t λy c C=>by
      rcases K.reads x N y (yQ y c) t C O with h | h
      ·have:=h.2;rw[Zi y c]at this;cases this
      ·have:=h.1;rw[fH y c]at this;cases this
     have b9:Ho μ ι w ⟨P,G,refs,nt⟩ e a x.2.1:=Re.ho rfl rfl S.now λt O=>WU t (mem_reads O);have Da:∀ j,(B.setIfInBounds x.1 true).getD j false=if j=x.1 then true else B.getD j false:=λj=>tD B x.1 j Iv
     have KM:∀ k,(B.setIfInBounds x.1 true).getD k false=true->∀ o,ops[k]? = some o->∀ d∈fL o,(B.setIfInBounds x.1 true).getD d false=true:=by
      intro k E o ho d C;rw[Da]at E ⊢;split
      ·rfl
      ·split at E
       ·rename_i Dd;subst Dd;rw[Y]at ho;cases ho;exact BY d C
       ·exact S.cls k E o ho d C
     by_cases Mm:x∈F
     · -- 
      rw[List.filter_cons_of_neg (by rw[Zl x N,S.flt x Mm];simp)]at H;obtain⟨p1,p2,rfl⟩:=List.append_of_mem Mm;have US:=S.nd;have BK:x ∉ p1++p2:=by
       obtain⟨h1,h2,h3⟩:=List.nodup_append.1 US;intro h;rcases List.mem_append.1 h with h | h
       ·exact h3 x h x (by simp) rfl
       ·exact (List.nodup_cons.1 h2).1 h
      have Ky:∀ y∈p1++p2,y∈p1++x::p2:=λy c=>by
       rcases List.mem_append.1 c with h | h
       ·exact List.mem_append_left _ h
       ·exact List.mem_append_right _ (List.mem_cons_of_mem _ h)
      have Qs:x ∉ rest:=λh=>by
       rw[S.base]at fM;exact (List.nodup_append.1 fM).2.2 x (S.sub x Mm) x h rfl
      have mk : ∀ (l : Mu) (A : Io) (u : World) (val : Value) (v : LV), Inv (sM P G) w0 l A δ s u -> Ext μ ι δ w l A δ u -> rF e x.2.2 v -> Rv l A u v val ->
       (∀ y∈p1++p2,∀ id,D y.1=some id->μ id=none->l id=none)->Kept μs ss l s ->
       NZ P G nt ops base late w0 δ μs Jm ss ws (p1++p2) pre rest (B.setIfInBounds x.1 true) D l A e s u (a.put x.2.1.dst val):=by
       intro l A u val v V hx DN X GD E;refine⟨S.now.ext V hx,by rw[Act.yl];exact S.size,λt O=>?_,λy c=>?_,S.Ph,S.Nv,λy c=>S.flt y (Ky y c),by simp[S.Yl],λy c=>?_,KM,S.base,λy c=>S.sub y (Ky y c),?_,S.ext.trans hx,E⟩
       ·by_cases C:x.2.1.dst=some t
        ·rw[C,vT _ _ _ (by rw[S.size];exact hdlt t C),DN t (by rw[Ri,C])];exact X
        ·rw[vS _ _ _ _ C];refine (S.re t λy c=>?_).ext hx;rcases List.mem_append.1 c with h | h
         ·exact O y (List.mem_append_left _ h)
         ·rcases List.mem_cons.1 h with rfl | h
          ·rw[Ri];exact C
          ·exact O y (List.mem_append_right _ h)
       ·exact (S.pok y (Ky y c)).congr (ops:=ops) (λ_ _=>rfl) (λ_ _=>rfl) (λ_ h=>h) (λ_ _ _=>rfl) (GD y c) (λ_ _ v _ h=>h)
       ·rw[Da];by_cases Uz:y=x
        ·subst Uz;simp[BK,Qs]
        ·have:y.1≠x.1:=λh=>Uz (key_inj K c N h);rw[if_neg this,S.u7 y c];simp[Uz]
       ·obtain⟨h1,h2,h3⟩:=List.nodup_append.1 US;exact List.nodup_append.2 ⟨h1,(List.nodup_cons.1 h2).2,λy c z hz=>h3 y c z (List.mem_cons_of_mem _ hz)⟩
      have Ad:m=(p1++p2).length+rest.length:=by simp at hm ⊢;omega
      have I:∀ {tt:Bool},aK x.2.2.guard e=some tt->Region.wanted x.2.1 (yielded ops a.tmps)=tt:=λh=>ot GQ h λd want hg=>WU d (by simp[cN,hg]);have J:∀ (l:Mu) (A:Io) (u:World) (val:Value) (v:LV),Inv (sM P G) w0 l A δ s u->Ext μ ι δ w l A δ u->rF e x.2.2 v->Rv l A u v val ->
       (∀ y∈p1++p2,∀ id,D y.1=some id->μ id=none->l id=none)->Kept μs ss l s ->
       step P (lone (b.atR a (.inRegion ops (x.1::Region.linearise.go .any ops m U (B.setIfInBounds x.1 true) [])::k)) cs w) = .next (lone (b.atR (a.put x.2.1.dst val) (.inRegion ops (Region.linearise.go .any ops m U (B.setIfInBounds x.1 true) [])::k)) cs u) ->
       ∃ e' s' l A u R,KK e' s'/\Steps P (lone (b.atR a (.inRegion ops (x.1::Region.linearise.go .any ops m U (B.setIfInBounds x.1 true) [])::k)) cs w) (lone (b.atR R (.inRegion ops []::k)) cs u) /\
         Fr P G w0 l A δ s' u nt e' R/\Ext μs Jm δ ws l A δ u/\Kept μs ss l s'/\R.defers=a.defers:=by
       intro l A u val v V hx DN X GD E gV;obtain⟨e',s',N0,wR,w2,a2,q,hs,r1,r2,r3,r4⟩:=ih U (p1++p2) pre rest (B.setIfInBounds x.1 true) D l A e s u _ (mk l A u val v V hx DN X GD E) Ad H oJ uD;exact⟨e',s',N0,wR,w2,a2,q, .head gV hs,r1,r2,r3,r4.trans (Act.mO _ _ _)⟩
      rcases S.pok x Mm with⟨hw,DN⟩ | ⟨hw,Zh,hl,v,DN,bL⟩ | ⟨hw,ct,s0,cs0,v,Mw,bL,DN,QO,SD⟩
      ·refine J μ ι w undef (.cE []) S.now.inv (Ext.refl _ _ _ _) DN x7 (λ_ _ _ _ h=>h) S.kept ?_;have:=stepR_op_skip (P:=P) (b:=b) (a:=a) (k:=k) (cs:=cs) (w:=w) (ops:=ops) (i:=x.1) (rest:=Region.linearise.go .any ops m U (B.setIfInBounds x.1 true) []) (by rw[Y];simpa using I hw);rw[Y]at this;exact this
      ·obtain⟨val,u,l,A,hex,V,hx,X,E⟩:=EM Vh b9 S.now.inv bL;exact J l A u val v V hx DN X (λy c id aS hm=>E.free id (S.Nv _ _ aS).1 hm) (S.kept.trans E) (iB Y (I hw) (qg Vh) hex)
      ·obtain⟨cs',arr,T,val,hs',C1,h1,h2,h3,h4⟩:=Bg (K.makes x N ct) ct Vh b9 bL;have KL:cs0=cs':=by
        have:=congrArg (λs=>St.get s s0.n) hs';simpa using this
       subst KL;obtain⟨I',x1,vi,dH,GH⟩:=S.now.inv.Wu T arr cs0 h1 h3 h2;obtain⟨I2,x2⟩:=I'.place s0.n (S.Nv _ _ Mw).1 QO ⟨w.heap.size,0,arr.size⟩ _ SD S.now.inv.hB dH vi (λ_ j b' p' _ _ hm e=>GH j p' hm e);refine J _ ι _ val v I2 (x1.trans x2) DN (h4 _ _ _ (by simp[Mu.nB])) (λy c id aS hm=>Mu.pS (λhe=>?_) hm) ⟨S.kept.n,S.kept.get,λid aS hm=>Mu.pS (λhe=>?_) (S.kept.free id aS hm)⟩
        (iB Y (I hw) (qg Vh) (.inl C1))
       ·subst he;have:=S.Ph _ _ _ aS Mw;exact BK (key_inj K (yQ y (Ky y c)) N this ▸ c)
       ·have:=(S.Nv _ _ Mw).2;omega
     · -- 
      have Nz:x∈rest:=by
       by_cases h:x∈rest
       ·exact h
       ·have:=(S.u7 x N).2 ⟨Mm,h⟩;rw[cy]at this;cases this
      rcases uD with rfl | ⟨y,r,rfl,Q⟩
      ·exact absurd Nz (List.not_mem_nil)
      ·have hxf:cA late x=false:=by
        rcases List.mem_cons.1 Nz with h | h
        ·rw[h];exact Q
        ·cases hfx:cA late x with
         | false=>rfl
         | true=>
           obtain⟨d,C,hz⟩:=K.wait pre y r S.base Q x h hfx;have Ix:=BY d C;have hdlt':d<ops.size:=by
            rw[<- S.Yl];apply Classical.byContradiction;intro hn;simp[gF,hn]at Ix
           obtain⟨z,hzb,hzd⟩:=K.all d hdlt';rw[<- hzd]at Ix;have h2:=((S.u7 z hzb).1 Ix).2;have h3:z∈pre:=by
            have:=hzb;rw[S.base]at this;exact (List.mem_append.1 this).resolve_right h2
           exact absurd hzd (hz z h3)
       rw[List.filter_cons_of_pos (by rw[Zl x N,hxf];rfl),List.filter_cons_of_pos (by rw[Q];rfl),List.map_cons]at H;have hxy:x=y:=key_inj K N (QG y (by simp)) (List.cons.inj H).1;replace H:=(List.cons.inj H).2;subst hxy;have hbn:(pre++x::r).Nodup:=by rw[<- S.base];exact fM
       have Fo:x ∉ pre:=λh=>(List.nodup_append.1 hbn).2.2 x h x (by simp) rfl;have zb:∀ y∈F,∀ d,x.2.2.dst=some d->d ∉ cN ops y:=λy c d C Z=>by
        have:=(K.later pre x r S.base y (S.sub y c) d C Z).2;rw[Zi y c]at this;cases this
       have I:∀ {tt:Bool},aK x.2.2.guard e=some tt->Region.wanted x.2.1 (yielded ops a.tmps)=tt:=λh=>ot GQ h λd want hg=>WU d (by simp[cN,hg]);have FG:((iy x.2.2.op || jO x.2.2.op)=false/\lX x.2.2.op=false)∨iy x.2.2.op=true:=by
        unfold cA at Q;rw[Bool.and_eq_false_iff]at Q;rcases Q with Q | Q
        ·unfold xA at Q;rw[Bool.or_eq_false_iff]at Q;exact .inl Q
        ·exact .inr (K.lateL x (by simpa using Q))
       have mk:∀ (l:Mu) (A:Io) (s':St) (u:World) (val:Value) (v:LV),Inv (sM P G) w0 l A δ s' u->Ext μ ι δ w l A δ u->Rv l A u v val->Kept μ s l s'->(s'=s∨((iy x.2.2.op || jO x.2.2.op)=false/\dG (wM (ew ops.toList []) pre x) (e.put x.2.2.dst v) s')) ->
        NZ P G nt ops base late w0 δ μs Jm ss ws F (pre++[x]) r (B.setIfInBounds x.1 true) D l A (e.put x.2.2.dst v) s' u (a.put x.2.1.dst val):=by
        intro l A s' u val v V hx X E mV;have hpd:∀ y∈F,∀ d,y.2.2.dst=some d->x.2.2.dst≠some d:=λy c d C w5 =>
         Fo ((key_inj K (yQ y c) N (K.dst y (yQ y c) x N d C w5)) ▸ S.sub y c)
        refine⟨S.now.ext V hx,by rw[Act.yl];exact S.size,λt O=>?_,λy c=>?_,S.Ph,λi id h=>?_,S.flt,by simp[S.Yl],λy c=>?_,KM,by rw[S.base];simp,λy c=>List.mem_append_left _ (S.sub y c),S.nd,S.ext.trans hx,S.kept.trans E⟩
        ·rw[<- Ri];by_cases C:x.2.2.dst=some t
         ·rw[C,vT _ _ _ (by rw[S.size];exact hdlt t (by rw[<- Ri];exact C)),Env.aB,Env.rC,if_pos rfl];exact X
         ·rw[vS _ _ _ _ C,oN _ _ _ _ C];exact (S.re t O).ext hx
        ·refine (S.pok y c).congr (ops:=ops) (λt O=>oN _ _ _ _ λC=>zb y c t C O) (λd C=>oN _ _ _ _ (hpd y c d C)) (λ_ h=>h) (λid h hm=>E.get id (S.Nv _ _ h).1 hm) (λid h hm=>E.free id (S.Nv _ _ h).1 hm) (λhl hwy v' hv' Z=>?_);rcases mV with rfl | mV
         ·rw[<- Z];exact nG _ λt O=>oN _ _ _ _ λC=>zb y c t C (by simp[cN,O])
         ·exact Gi mV.2 mV.1 (S.sub y c) hl (K.ldst y (yQ y c) hl) (.inr (Zi y c)) hwy hv'
        ·have:=S.Nv i id h;have:=E.n;omega
        ·rw[Da];by_cases Uz:y=x
         ·subst Uz;have:y ∉ r:=(List.nodup_cons.1 (List.nodup_append.1 hbn).2.1).1;simp[Mm,this]
         ·have:y.1≠x.1:=λh=>Uz (key_inj K c N h);rw[if_neg this,S.u7 y c];simp[Uz]
       have J:∀ (l:Mu) (A:Io) (s':St) (u:World) (val:Value) (v:LV),Inv (sM P G) w0 l A δ s' u->Ext μ ι δ w l A δ u->Rv l A u v val->Kept μ s l s'->(s'=s∨((iy x.2.2.op || jO x.2.2.op)=false/\dG (wM (ew ops.toList []) pre x) (e.put x.2.2.dst v) s')) ->
        dL P G (drawn (ew ops.toList []) (pre++[x]) r) (e.put x.2.2.dst v) s' KK ->
        Steps P (lone (b.atR a (.inRegion ops (x.1::Region.linearise.go .any ops m U (B.setIfInBounds x.1 true) [])::k)) cs w) (lone (b.atR (a.put x.2.1.dst val) (.inRegion ops (Region.linearise.go .any ops m U (B.setIfInBounds x.1 true) [])::k)) cs u) ->
        ∃ e' s' l A u R,KK e' s'/\Steps P (lone (b.atR a (.inRegion ops (x.1::Region.linearise.go .any ops m U (B.setIfInBounds x.1 true) [])::k)) cs w) (lone (b.atR R (.inRegion ops []::k)) cs u) /\
          Fr P G w0 l A δ s' u nt e' R/\Ext μs Jm δ ws l A δ u/\Kept μs ss l s'/\R.defers=a.defers:=by
        intro l A s' u val v V hx X E mV ZW gV;obtain⟨gm,yo,iR,lS,e',lD,S',Iy,Y7,mc,hfl'⟩:=NZ.RF K r F (pre++[x]) (B.setIfInBounds x.1 true) D _ s' (mk l A s' u val v V hx X E mV) ZW;obtain⟨e2,s2,N0,wR,w2,a2,q,hs,r1,r2,r3,r4⟩:=ih U gm yo iR (B.setIfInBounds x.1 true) lS l A e' lD u _ S' (by rw[mc];simp at hm;omega) (by rw[hfl'];exact H) Iy Y7;exact⟨e2,s2,N0,wR,w2,a2,q,Steps.trans gV hs,r1,r2,r3,r4.trans (Act.mO _ _ _)⟩
       simp only[drawn,dL]at oJ;split at oJ
       ·exact oJ.elim
       ·rename_i hw;refine J μ ι s w undef (.cE []) S.now.inv (Ext.refl _ _ _ _) x7 (Kept.refl _ _) (.inl rfl) oJ (.one ?_);have:=stepR_op_skip (P:=P) (b:=b) (a:=a) (k:=k) (cs:=cs) (w:=w) (ops:=ops) (i:=x.1) (rest:=Region.linearise.go .any ops m U (B.setIfInBounds x.1 true) []) (by rw[Y];simpa using I hw);rw[Y]at this;exact this
       ·rename_i hw;have hcx':dZ ⟨P,G,refs,nt⟩ ops x.2.1=some x.2.2:=GQ;have M:pJ P G true x.2.2.op e s (λv s'=>dG (wM (ew ops.toList []) pre x) (e.put x.2.2.dst v) s'/\dL P G (drawn (ew ops.toList []) (pre++[x]) r) (e.put x.2.2.dst v) s' KK):=oJ;have GH:jO x.2.2.op=false:=by
         rcases FG with h | h
         ·exact (Bool.or_eq_false_iff.1 h.1).2
         ·cases mC:x.2.2.op<;>rw[mC]at h<;>first | rfl | cases h
        have hgo':pJ P G x.2.2.fl x.2.2.op e s (λv s'=>(iy x.2.2.op=true->s'=s)/\dG (wM (ew ops.toList []) pre x) (e.put x.2.2.dst v) s'/\dL P G (drawn (ew ops.toList []) (pre++[x]) r) (e.put x.2.2.dst v) s' KK):=by
         cases bV:jN x.2.2.op with
         | true=>
           rcases kj bV with⟨f,as,ZZ⟩ | ⟨f,ZZ⟩ | ⟨n,f,g,ZZ⟩
           ·rw[ZZ]at M ⊢;exact aM.mono M λv s' h=>⟨(λh=>by cases h),h⟩
           ·rw[ZZ]at M ⊢;simp only[pJ]at M ⊢;exact jJ.mono M λv s' h=>⟨(λh'=>by cases h'),h⟩
           ·rw[ZZ]at M ⊢;simp only[pJ]at M ⊢;exact pE.mono M λv s' h=>⟨(λh'=>by cases h'),h⟩
         | false=>
           rw[xq bV]at M ⊢;cases Z:x.2.2.op.run e s with
           | none=>rw[Z]at M;exact M.elim
           | some p=>
             rw[Z]at M;refine⟨?_,(λhl=>vF hl Z),M.2⟩;cases mC:x.2.2.op<;>try rfl
             rename_i im y;have:=GH;cases im
             ·rfl
             ·rw[mC]at this;cases this
        obtain⟨v,s1,oX,jL,w1,val,⟨SL,mV,ZW⟩,gV,V,hx,E,X⟩:=JZ (b:=b) (k:=k) (cs:=cs) (rest:=Region.linearise.go .any ops m U (B.setIfInBounds x.1 true) []) rfl Y hcx' S.now b9 (I hw) hgo';exact J oX jL s1 w1 val v V hx X E (FG.elim (λh=>.inr ⟨h.1,mV⟩) λh=>.inl (SL h)) ZW gV
theorem Ga {c:Ctx}{x:Code}{l:List bC}(h:bA c x = .region l):∃ id ops d,x = .region id ops d/\oQ c ops d=some [l]:=by
 cases x<;>simp only[bA,reduceCtorEq]at h
 ·split at h
  ·rename_i f;cases h;exact⟨_,_,_,rfl,f⟩
  ·cases h
  ·cases h
 ·split at h<;>cases h
 ·split at h<;>(try cases h);split at h<;>cases h
theorem M8 {c:Ctx}{x:Code}{ls:List (List bC)}(h:bA c x = .alts ls):∃ id ops d,x = .region id ops d/\oQ c ops d=some ls:=by
 cases x<;>simp only[bA,reduceCtorEq]at h
 ·split at h
  ·cases h
  ·rename_i f;cases h;exact⟨_,_,_,rfl,f⟩
  ·cases h
 ·split at h<;>cases h
 ·split at h<;>(try cases h);split at h<;>cases h
theorem Bw (O:P.follows .mixedOrders=true) {rd:Bool}{M:bx}{ls:List (List bC)}{Q:Out->Env->St->Prop}(R:∀ {c:Ctx}{x:Code},bA c x=M->∃ id ops d,x = .region id ops d/\oQ c ops d=some ls) (h:∀ l∈ls,dL P G l e s (Q .normal)):aX P G rd nt M e s Q:=by
 rintro c ⟨refs,S⟩ w0 μ ι δ w b a k cs hb m;obtain⟨id,ops,d,rfl,n⟩:=R S;cases d with
 | false=>
   change (ops.toList.mapM (dZ ⟨P,G,refs,nt⟩ ops)).map (λl=>[l])=some ls at n;obtain⟨l,T,rfl⟩:=Option.map_eq_some_iff.1 n;replace n:=T;replace h:=h l (by simp);obtain⟨hl,U⟩:=iU n;obtain⟨e',s',A,B,C,D,q,hs,E,hx,g,F⟩:=I8 (b:=b) (k:=k) (cs:=cs) (refs:=refs) ops l 0 e s μ ι w a (λj V=>by
    have N:j<ops.toList.length:=by rw[<- hl];exact V
    obtain⟨X,h1,h2⟩:=U j N;refine⟨ops.toList[j],X,?_,h1,h2⟩;have Y:j<ops.size:=by simpa using N
    simp[Y]) m h
   refine⟨.normal,e',s',A,B,δ,C,D,q,?_,E,by rw[F];exact sO.one hx g⟩;have n:(List.range l.length).map (0 + ·)=List.range ops.size:=by
    have:l.length=ops.size:=by rw[hl];simp
    rw[this];simp
   rw[n]at hs;exact Steps.head stepR_region (Steps.trans hs (.one stepR_region_end))
 | true=>
   change uR ⟨P,G,refs,nt⟩ ops=some ls at n;obtain⟨late,H,Z,p,⟨I,K0⟩,dD⟩:=zG n;have f:∀ j,(Array.replicate ops.size false).getD j false=false:=λj=>by simp only[gF,Array.getElem?_replicate];split<;>rfl
   have o:=cover K0 Z p ops.size (w.tape w.drawn (.order b.fn id)) (Array.replicate ops.size false) (by simp) (λk g=>by rw[f]at g;cases g) (by
    have:(List.range ops.size).filter (λj=>!(Array.replicate ops.size false).getD j false)=List.range ops.size:=List.filter_eq_self.2 λj _=>by rw[f];rfl
    rw[this,List.length_range])
   have J:(H.filter λj=>!(Array.replicate ops.size false).getD j false)=H:=List.filter_eq_self.2 λj _=>by rw[f];rfl
   rw[J]at o;obtain⟨base,K,gb,L,kH⟩:=dD _ o;replace h:=h _ gb;have z:=cZ.drew w;have S0:NZ P G nt ops base late w0 δ μ ι s w [] [] base (Array.replicate ops.size false) (λ_=>none) μ ι e s { w with drawn:=w.drawn+1 } a:=by
    refine⟨m.now.ext (m.now.inv.same z) (m.now.inv.fk z),m.size,λt _=>(m.re t).ext (m.now.inv.fk z),λx hx=>absurd hx (List.not_mem_nil),λi j id h=>by (cases h),λi id h=>by (cases h),λx hx=>absurd hx (List.not_mem_nil),by simp,λx hx=>?_,λk g=>?_,rfl,λx hx=>absurd hx (List.not_mem_nil),List.nodup_nil,m.now.inv.fk z,Kept.refl _ _⟩
    ·rw[f];simp[hx]
    ·rw[f]at g;cases g
   obtain⟨gm,yo,iR,lS,e1,s1,S1,r,Y6,y9,u⟩:=NZ.RF K base [] [] _ _ e s S0 h;obtain⟨e',s',A,B,C,D,q,hs,E,hx,g,F⟩:=Tq (b:=b) (k:=k) (cs:=cs) K (nfI:=λi=>H.contains i) (λx hx=>by
    have:=kH x hx;cases y:cA late x with
    | false=>rw[y]at this;simpa using this
    | true=>rw[y]at this;simpa using this) ops.size (w.tape w.drawn (.order b.fn id)) gm yo iR _ lS μ ι e1 s1 _ a S1 (by rw[y9,K.len];simp) (by rw[u];exact L.symm) r Y6
   refine⟨.normal,e',s',A,B,δ,C,D,q,?_,E,by rw[F];exact sO.one hx g⟩;refine Steps.head stepR_region_draw ?_;have:Region.schedule (P.follows .mixedOrders) ops (w.tape w.drawn (.order b.fn id))=Region.linearise.go .any ops ops.size (w.tape w.drawn (.order b.fn id)) (Array.replicate ops.size false) []:=by
    simp only[Region.schedule,O,Bool.true_or,if_true,Region.linearise]
   rw[this];exact Steps.trans hs (.one stepR_region_end)
theorem Bv (c:P.follows .mixedOrders=true) {rd:Bool}{l:List bC}{Q:Out->Env->St->Prop}(h:dL P G l e s (Q .normal)):aX P G rd nt (.region l) e s Q:=
 Bw c Ga λf d=>by rw[List.mem_singleton.1 d];exact h
theorem T5 (c:P.follows .mixedOrders=true) {rd:Bool}{ls:List (List bC)}{Q:Out->Env->St->Prop}(h:∀ l∈ls,dL P G l e s (Q .normal)):aX P G rd nt (.alts ls) e s Q:=
 Bw c M8 h
end
end Go.Pv
end
