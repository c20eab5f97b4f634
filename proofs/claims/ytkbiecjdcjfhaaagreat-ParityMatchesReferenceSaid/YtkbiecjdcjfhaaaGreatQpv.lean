/- parity.Valid. -/
import Derived.Test.YtkbiecjdcjfhaaaGreatWoa
import Derived.Test.YtkbiecjdcjfhaaaGreatTbase
set_option linter.unusedSimpArgs false
set_option linter.unusedVariables false
set_option maxRecDepth 100000
set_option maxHeartbeats 16000000
section
namespace Go.Proofs.YtkbiecjdcjfhaaaGreat
open Go Go.Pv
open Classical
def Ent (N R:List (List Int)) (i k:Nat):Prop:=0<=(N.getD i []).getD k 0/\(N.getD i []).getD k 0<(N.length:Int)/\0<=(R.getD i []).getD k 0/\(R.getD i []).getD k 0<=20000
def Ss (N R:List (List Int)) (L:Int) (i:Nat):Prop:=((N.getD i []).length:Int)=L/\((R.getD i []).length:Int)=L/\∀ k:Nat,(k:Int)<L->Ent N R i k
def PV (L S:Int) (N R:List (List Int)):Prop:=(1<=L/\L<=64/\1<=N.length/\N.length<=3000/\R.length=N.length/\0<=S/\S<N.length)/\∀ i,i<N.length->Ss N R L i
theorem vB {L S:Int}{d pr:LV}{N R:List (List Int)}{m v:List LV}(a:bN d N m) (b:bN pr R v):PO 11 [.agg [.int .i64 L, .int .i64 S,d,pr]] (.bool (decide (PV L S N R))):=by
 have w:(LV.agg [.int .i64 L, .int .i64 S,d,pr]).closed=true:=by simp[LV.closed,LV.closed.au,a.closed,b.closed]
 have B:=a.sl.cell;have C:=b.sl.cell;refine gO (t:=2) hm Tryz.func11 br c11 bw (by simp[LV.closed.au,w]) rfl rfl ?_;refine pg λe h0=>?_;unfold l11;dsimp only[jA,jB,jC,jF,qM,qL,qF,qS,qI,qA,qB,qC,qK,qO,qP,qU,qW,qm,ql,qR];repeat' (first|refine aH (aj @a.sl.len @b.sl.len) ?_|(first|apply ah|apply af)<;>intro o)
 all_goals first
  | (refine⟨.inr trivial,?_⟩;simp only[lk,Nat.reduceEqDiff,if_false,if_true];refine cg λh=>?_;have:=h.1;omega)
  | skip
 refine aN (λn e s=>s=St.empty/\∃ i:Nat,n=N.length - i/\i<=N.length/\e.at 1 = .aY [.int .i64 L, .int .i64 S,d,pr] 0/\e.at 3 = .int .i64 (N.length:Int)/\e.at 46=d/\e.at 47 = .int .i64 (N.length:Int)/\e.at 48 = .int .i64 (i:Int)/\∀ j,j<i->Ss N R L j) N.length ⟨rfl,0,by simp,by simp,by simp,by simp,by simp,by simp,by simp,λj c=>absurd c (Nat.not_lt_zero _)⟩ ?_;rintro n e s ⟨rfl,i,rfl,D,p,q,f,g,l,r⟩;repeat' (first|refine aH (aj @a.sl.len (aj @b.sl.len (aj (@cU _ _ _ a.sl) (aj (@cU _ _ _ b.sl) (aj @a.mo (aj @a.wU (aj @b.mo @b.wU))))))) ?_|(first|apply ah|apply af)<;>intro o)
 ·refine⟨.inr trivial,?_⟩;simp only[lk,Nat.reduceEqDiff,if_false,if_true];exact gK ⟨by omega,λj c=>r j om⟩
 ·rename_i E F;refine aN (λn e s=>s=St.empty/\∃ k:Nat,n=L.toNat - k/\(k:Int)<=L/\e.at 1 = .aY [.int .i64 L, .int .i64 S,d,pr] 0/\e.at 3 = .int .i64 (N.length:Int)/\e.at 4 = .int .i64 (i:Int)/\e.at 46=d/\e.at 47 = .int .i64 (N.length:Int)/\e.at 48 = .int .i64 (i:Int)/\e.at 69=m.getD i .top/\e.at 70 = .int .i64 L/\e.at 71 = .int .i64 (k:Int)/\∀ j,j<k->Ent N R i j) L.toNat
   ⟨rfl,0,by simp,by omega,by simp[p],by simp[q],by simp,by simp[f],by simp[g],by simp[l],by simp,by simp only[lk,Nat.reduceEqDiff,if_false,if_true, *],by simp,λj c=>absurd c (Nat.not_lt_zero _)⟩ ?_
  rintro n e s ⟨rfl,k,rfl,G,p,q,H,f,g,l,x,y,z,u⟩;repeat' (first|refine aH (aj @a.sl.len (aj @b.sl.len (aj (@cU _ _ _ a.sl) (aj (@cU _ _ _ b.sl) (aj @a.mo (aj @a.wU (aj @a.ria (aj @b.mo (aj @b.wU (aj @b.ria @bB)))))))))) ?_|(first|apply ah|apply af)<;>intro o)
  ·refine⟨_,?_,trivial,i+1,rfl,?_⟩
   ·omega
   simp only[lk,Nat.reduceEqDiff,if_false,if_true,true_and,ez (i:=i) (n:=N.length) om a.len, *];refine⟨by omega,λj c=>?_⟩;rcases Nat.lt_succ_iff_lt_or_eq.1 c with h | rfl
   ·exact r j h
   ·exact⟨by assumption,by assumption,λA I=>u A om⟩
  ·refine⟨_,?_,trivial,k+1,rfl,?_⟩
   ·omega
   simp only[lk,Nat.reduceEqDiff,if_false,if_true,true_and,ez (i:=k) (n:=64) om (by decide), *];refine⟨by omega,λj c=>?_⟩;rcases Nat.lt_succ_iff_lt_or_eq.1 c with h | rfl
   ·exact u j h
   ·exact⟨by assumption,by assumption,by assumption,by assumption⟩
  all_goals
   refine⟨.inr trivial,?_⟩;simp only[lk,Nat.reduceEqDiff,if_false,if_true];refine cg λh=>?_;obtain⟨u1,u2,u3,u4⟩:=(h.2 i om).2.2 k om;omega
 ·refine⟨.inr trivial,?_⟩;simp only[lk,Nat.reduceEqDiff,if_false,if_true];refine cg λh=>?_;have:=(h.2 i om).2.1;omega
 ·refine⟨.inr trivial,?_⟩;simp only[lk,Nat.reduceEqDiff,if_false,if_true];refine cg λh=>?_;have:=(h.2 i om).1;omega
def DC (N:List (List Int)) (q:Nat) (a:Int):Nat:=((N.getD q []).getD a.toNat 0).toNat
def cj (N:List (List Int)):List Int->Nat->Nat
 | [],q=>q
 | a::l,q=>cj N l (DC N q a)
def eT (N R:List (List Int)):List Int->Nat->Int->Int
 | [],_,m=>m
 | a::l,q,m=>eT N R l (DC N q a) (min m ((R.getD q []).getD a.toNat 0))
theorem nP {l:List Int}{a:Int}(h0:0<=a) (h1:a<(l.length:Int)):(ints l)[a.toNat]? = some (.int .i64 (l.getD a.toNat 0)):=bB om
theorem LC {v:LV}{ls:List (List Int)}{vs:List LV}(h:bN v ls vs) {i:Nat}(c:(i:Int)<(ls.length:Int)) {aZ:Nat}{k:IntKind}{s:St}{a:Int}(h0:0<=a) (b:a<((ls.getD i []).length:Int)) :
 yO aZ (vs.getD i .top) (.int k a) s=some (.aY (ints (ls.getD i [])) (a.toNat*aZ),s):=iaI (h.row i om).sl h0 b
theorem Cn {L S:Int}{N R:List (List Int)}(b:PV L S N R) {q:Nat}(c:q<N.length) {a:Int}(h0:0<=a) (h1:a<L):((DC N q a:Nat):Int)=(N.getD q []).getD a.toNat 0/\DC N q a<N.length:=by
 obtain⟨u1,u2,u3,u4⟩:=(b.2 q c).2.2 a.toNat om;unfold DC;omega
theorem JJ {L S:Int}{j pr w:LV}{N R:List (List Int)}{B C:List LV}(k:bN j N B) (p:bN pr R C) (r:PV L S N R) {l:List Int}(g:aP w l) (hl:lB l L) {c q:Nat}(D:q<N.length) {s:St}(hs:s.get c=some (.cells .mut [.int .i64 (q:Int)])) :
 aM Tryz.prog GL (.fn (.func 34) [] [.aY [.int .i64 L, .int .i64 S,j,pr] 0, .aO c 0]) [w] s (λv s'=>v = .int .i64 (eT N R l q 20000)/\s'.n=s.n/\s'.get c=some (.cells .mut [.int .i64 (cj N l q:Int)])/\∀ id,id≠c->s'.get id=s.get id):=by
 refine bM (first:=[]) (caps:=[.aY [.int .i64 L, .int .i64 S,j,pr] 0, .aO c 0]) Tryz.func34 br c34 bw (aX.mono (Q:=λo e s'=>(o = .normal∨o = .jmp .ret)/\e.at 4 = .int .i64 (eT N R l q 20000)/\s'.n=s.n/\s'.get c=some (.cells .mut [.int .i64 (cj N l q:Int)])/\∀ id,id≠c->s'.get id=s.get id) ?_ λo e s' t=>⟨t.1,_,by simp[l34,aW,bD,t.2.1],rfl,t.2.2⟩);refine Cd.out (ev3 λe h0 h1 h2=>?_);unfold l34;dsimp only[jA,jG,qF,qS,qI,qA,qB,qC,qm,ql,qR];repeat' (first|refine aV @g.sl.len ?_|(first|apply ah|apply af)<;>intro y)
 refine aN (λn e s2=>∃ i a:Nat,∃ m:Int,n=l.length - i/\i<=l.length/\a<N.length/\e.at 1 = .aY [.int .i64 L, .int .i64 S,j,pr] 0/\e.at 2 = .aO c 0/\e.at 5 = .int .i64 m/\e.at 8=w/\e.at 9 = .int .i64 (l.length:Int)/\e.at 10 = .int .i64 (i:Int) /\
  s2.n=s.n/\s2.get c=some (.cells .mut [.int .i64 (a:Int)])/\(∀ id,id≠c->s2.get id=s.get id)/\eT N R (l.drop i) a m=eT N R l q 20000/\cj N (l.drop i) a=cj N l q) l.length
  ⟨0,q,20000,by simp,by simp,D,by simp[h1],by simp[h2],by simp,by simp,by simp,by simp,rfl,hs,λ_ _=>rfl,rfl,rfl⟩ ?_
 rintro n e s2 ⟨i,a,m,rfl,V,h,E,F,G,H,I,J,z,K,b,d,f⟩;by_cases u:i<l.length
 ·obtain⟨x,M⟩:=hl i u;obtain⟨r1,r2,r3⟩:=r.2 a h;have O:R.length=N.length:=r.1.2.2.2.2.1;have X:(a:Int)<(N.length:Int):=by omega
  have Y:(a:Int)<(R.length:Int):=by omega
  have Z:l.getD i 0<((N.getD a []).length:Int):=by omega
  have x4:l.getD i 0<((R.getD a []).length:Int):=by omega
  clear r1 r2 O;obtain⟨P,T⟩:=Cn r h x M;repeat' (first|refine aV (aj @g.sl.len (aj (@cU _ _ _ g.sl) (aj @bB (aj (@cU _ _ _ k.sl) (aj (@cU _ _ _ p.sl) (aj @k.mo (aj @p.mo (aj (@LC _ _ _ k) (aj (@LC _ _ _ p) @nP))))))))) ?_|(first|apply ah|apply af)<;>intro y)
  ·exfalso;omega
  ·refine⟨_,?_,i+1,DC N a (l.getD i 0),min m ((R.getD a []).getD (l.getD i 0).toNat 0),rfl,?_⟩
   ·omega
   have U:l.drop i=l.getD i 0::l.drop (i+1):=by
    rw[List.drop_eq_getElem_cons u];simp[gD,u]
   rw[U]at d f;simp only[eT,cj]at d f;simp only[lk,Nat.reduceEqDiff,if_false,if_true,true_and,ez (i:=i) (n:=l.length) om g.len,St.eo,E,F,G,H,I,J];refine⟨by omega,T,z,?_,λid A=>?_,d,f⟩
   ·rw[St.az,if_pos rfl,P]
   ·rw[St.az,if_neg A];exact b id A
 ·repeat' (first|refine aV @g.sl.len ?_|(first|apply ah|apply af)<;>intro y)
  ·obtain rfl:i=l.length:=by omega
   rw[List.drop_length]at d f;simp only[eT,cj]at d f;refine⟨.inr trivial,?_,z,by rw[K,f],b⟩;simp only[lk,Nat.reduceEqDiff,if_false,if_true,d]
  ·omega
def mn (l:List Int):Int:=(l.drop 1).foldl min (l.getD 0 0)
theorem Yh {v:LV}{l:List Int}(a:aP v l) (hl:1<=l.length):PO 35 [v] (.int .i64 (mn l)):=by
 refine gO (t:=2) hm Tryz.func35 br c35 bw (by simp[LV.closed.au,a.closed]) rfl rfl ?_;refine pg λe h0=>?_;have c:((0:Nat):Int)<(l.length:Int):=by omega
 have f:yO 1 v (.int .i64 0) St.empty=some (.aY (ints l) 0,St.empty):=by simpa using cU a.sl (aZ:=1) (k:=.i64) (s:=St.empty) c
 have g0:(ints l)[0]? = some (.int .i64 (l.getD 0 0)):=bB c;unfold l35;dsimp only[jA,qS,qI,qA,qB,qC,qW,qm,ql,qR];repeat' (first|refine aV (aj @a.sl.len (aj @f @g0)) ?_|(first|apply ah|apply af)<;>intro g)
 ·refine aN (λn e s=>s=St.empty/\∃ i:Nat,∃ m:Int,n=l.length - i/\i<=l.length/\e.at 0=v/\e.at 3 = .int .i64 m/\e.at 4 = .int .i64 (i:Int)/\(l.drop i).foldl min m=mn l) (l.length - 1) ⟨rfl,1,l.getD 0 0,rfl,hl,by simp[h0],by simp,by simp,rfl⟩ ?_;rintro n e s ⟨rfl,i,m,rfl,o,h,p,q,b⟩;repeat' (first|refine aV (aj @a.sl.len (aj (@cU _ _ _ a.sl) @bB)) ?_|(first|apply ah|apply af)<;>intro g)
  ·refine⟨.inr trivial,?_⟩;obtain rfl:i=l.length:=by omega
   rw[List.drop_length]at b;simp only[lk,Nat.reduceEqDiff,if_false,if_true];rw[<- b];rfl
  ·refine⟨_,?_,trivial,i+1,min m (l.getD i 0),rfl,?_⟩
   ·omega
   have d:i<l.length:=by omega
   have j:l.drop i=l.getD i 0::l.drop (i+1):=by
    rw[List.drop_eq_getElem_cons d];simp[gD,d]
   rw[j,List.foldl_cons]at b;simp only[lk,Nat.reduceEqDiff,if_false,if_true,true_and,ez (i:=i) (n:=l.length) om a.len,h];exact⟨by omega,b⟩
 all_goals omega
def GY (q:Nat):List Nat->Nat->Option Nat
 | [],_=>none
 | x::r,i=>if x=q then some i else GY q r (i+1)
def NU:Nat->List Nat->List (LV × LV)
 | _,[]=>[]
 | i,x::r=>(.int .i64 (x:Int), .int .i64 (i:Int))::NU (i+1) r
theorem L0 (q:Nat):∀ (qs:List Nat) (i k:Nat),iE (.int .i64) (.int .i64 (q:Int)) (NU i qs) k=some ((GY q qs i).map λj=>(k+(j - i),LV.int .i64 (j:Int))):=by
 intro qs;induction qs with
 | nil=>intro i k;rfl
 | cons x r ih=>
   intro i k;by_cases h:x=q
   ·subst h;simp[NU,iE,m8,uq,GY]
   ·have dB:((q:Int) == (x:Int))=false:=by simpa using λc:(q:Int)=(x:Int)=>h om
    simp only[NU,iE,m8,uq,if_true,dB,GY,h,if_false,ih];have a:∀ (r:List Nat) (i j:Nat),GY q r i=some j->i<=j:=by
     intro r;induction r with
     | nil=>intro i j h;cases h
     | cons y r ih => intro i j h; simp only[GY]at h; split at h; · cases h; exact Nat.le_refl _
                      ·have:=ih _ _ h;omega
    cases b:GY q r (i+1) with
    | none=>rfl
    | some j=>
      have:=a _ _ _ b;simp only[Option.map_some,Option.some.injEq,Prod.mk.injEq,and_true];omega
theorem RZ (q:Nat):∀ (qs:List Nat) (i:Nat),NU i qs++[(.int .i64 (q:Int), .int .i64 ((i+qs.length:Nat):Int))]=NU i (qs++[q]):=by
 intro qs;induction qs with
 | nil=>intro i;simp[NU]
 | cons x r ih=>intro i;simp only[List.cons_append,NU,List.length_cons,<- ih (i+1)];simp[Nat.add_assoc,Nat.add_comm 1]
theorem FX {q:Nat} : ∀ {qs:List Nat}{i j:Nat},GY q qs i=some j->i<=j/\j<i+qs.length:=by
 intro qs;induction qs with
 | nil=>intro i j h;cases h
 | cons x r ih=>
   intro i j h;simp only[GY]at h;split at h
   ·cases h;simp
   ·have:=ih h;simp;omega
theorem FY {q:Nat} : ∀ {qs:List Nat}{i:Nat},GY q qs i=none->q ∉ qs:=by
 intro qs;induction qs with
 | nil=>intro i _ h;cases h
 | cons x r ih=>
   intro i h hm;simp only[GY]at h;split at h
   ·cases h
   ·rename_i dB;rcases List.mem_cons.1 hm with rfl | hm
    ·exact dB rfl
    ·exact ih h hm
theorem HM:∀ (n:Nat) (qs:List Nat),qs.Nodup->(∀ x∈qs,x<n)->qs.length<=n:=by
 intro n;induction n with
 | zero=>intro qs _ h;cases qs with | nil=>simp | cons x r=>exact absurd (h x (by simp)) (Nat.not_lt_zero _)
 | succ n ih=>
   intro qs a h;have h1:=ih (qs.erase n) (a.erase n) (λx hx=>by
    have h2:=h x (List.mem_of_mem_erase hx);have h3:x≠n:=λb=>by subst b;exact (a.not_mem_erase) hx
    omega)
   rw[List.length_erase]at h1;split at h1<;>omega
def wv (dV:Nat->Nat) (u7:Nat->Int):Nat->List Nat->Nat->Bool
 | 0,_,_=>false
 | f+1,qs,q=>
   match GY q qs 0 with
   | some j=>decide ((mn ((qs.map u7).drop j)).tmod 2=0)
   | none=>wv dV u7 f (qs++[q]) (dV q)
theorem xm {L S:Int}{N R:List (List Int)}(d:PV L S N R):∀ {l:List Int}{q:Nat},q<N.length->(∀ a∈l,0<=a/\a<L)->cj N l q<N.length:=by
 intro l;induction l with
 | nil=>intro q c _;exact c
 | cons a l ih=>intro q c h;exact ih (Cn d c (h a (by simp)).1 (h a (by simp)).2).2 (λb e=>h b (by simp[e]))
theorem lB.mem {l:List Int}{m:Int}(h:lB l m):∀ a∈l,0<=a/\a<m:=λa c=>by
 obtain⟨j,b,rfl⟩:=List.getElem_of_mem c;have:=h j b;rwa[gD,gE b,Option.getD_some]at this
def A4 (ls:List Int) (s:St) (acc:LV):Prop:=
 (ls=[]/\acc = .aq)∨(0<ls.length/\∃ j,1<j/\j<s.n/\acc = .aE j 0 ls.length 1/\s.get j=some (.cells .mut (ints ls)))
theorem A4.len {ls:List Int}{s:St}{acc:LV}(h:A4 ls s acc):ji acc=some ls.length:=by
 rcases h with⟨rfl,rfl⟩ | ⟨_,j,_,_,rfl,_⟩<;>rfl
theorem A4.cell {ls:List Int}{s:St}{acc:LV}(h:A4 ls s acc):bf acc=true:=by
 rcases h with⟨rfl,rfl⟩ | ⟨_,j,_,_,rfl,_⟩<;>rfl
theorem A4.mono {ls:List Int}{s s':St}{acc:LV}(h:A4 ls s acc) (c:s.n<=s'.n) (a:∀ id,1<id->id<s.n->s'.get id=s.get id):A4 ls s' acc:=by
 rcases h with h | ⟨h0,j,h1,h2,h3,b⟩
 ·exact .inl h
 ·exact .inr ⟨h0,j,h1,by omega,h3,by rw[a j h1 h2];exact b⟩
theorem Gv {x:Int}{ls:List Int}{s:St}{acc:LV}(h:A4 ls s acc) (h1:1<s.n) (hl:ls.length<=2 ^ 20) :
 ∃ c a,bT 1 8 acc [.int .i64 x] 1 s=some (c,a)/\A4 (ls++[x]) a c/\s.n<a.n/\a.get 0=s.get 0/\a.get 1=s.get 1:=by
 rcases h with⟨rfl,rfl⟩ | ⟨h0,j,d,e,rfl,b⟩
 ·exact⟨_,_,A1 om, .inr ⟨by simp,s.n,by omega,by simp,rfl,by rw[St.aA,if_pos rfl];rfl⟩,by simp,by rw[St.aA,if_neg om],by rw[St.aA,if_neg om]⟩
 ·refine⟨_,_,Dr b (by simp) (by decide) hl, .inr ⟨by simp,s.n,by omega,by simp,by simp,by rw[St.aA,St.eo,if_pos rfl];simp[ints]⟩,by simp,?_,?_⟩
  ·rw[St.aA,St.eo,if_neg om,St.az,if_neg om]
  ·rw[St.aA,St.eo,if_neg om,St.az,if_neg om]
theorem MR {s:St}{j off len:Nat}{cs:List LV}(h:s.get j=some (.cells .mut cs)) (hl:off+len=cs.length) (a:LV.closed.au cs=true):cY bp (.aE j off len 1) s=some (.aF (cs.drop off) len,s.put j (.cells .app cs)):=by
 have:cY bp (.aE j off len 1) s=cY (38+1+1) (.aE j off len 1) s:=rfl;rw[this];unfold cY;simp only[LV.closed,Bool.false_eq_true,if_false,h,Nat.mul_one,hl,Nat.le_refl,if_true,ie a,Option.bind_eq_bind,Option.bind_some,Option.some.injEq,Prod.mk.injEq,and_true];rw[List.take_of_length_le (by simp;omega)]
theorem EU {L S:Int}{N R:List (List Int)}(d:PV L S N R):∀ {l:List Int}{q:Nat}{m:Int},q<N.length->(∀ a∈l,0<=a/\a<L)->0<=m->m<=20000->0<=eT N R l q m/\eT N R l q m<=20000:=by
 intro l;induction l with
 | nil=>intro q m c _ h0 h1;exact⟨h0,h1⟩
 | cons a l ih=>
   intro q m c h h0 h1;have e:=h a (by simp);obtain⟨u1,u2,u3,u4⟩:=(d.2 q c).2.2 a.toNat om;exact ih (Cn d c e.1 e.2).2 (λb f=>h b (by simp[f])) om om
theorem Tf {L S:Int}{r pr st w:LV}{N R:List (List Int)}{vN vR:List LV}{sl ll:List Int}(z:bN r N vN) (A:bN pr R vR) (F:aP st sl) (G:aP w ll) :
 PO 13 [.agg [.int .i64 L, .int .i64 S,r,pr], .agg [st,w]] (.bool (decide (PV L S N R/\Fm sl ll/\lB sl L/\lB ll L) && wv (cj N ll) (λq=>eT N R ll q 20000) (N.length+1) [] (cj N sl S.toNat))):=by
 have bV:(LV.agg [.int .i64 L, .int .i64 S,r,pr]).closed=true:=by simp[LV.closed,LV.closed.au,z.closed,A.closed]
 have fA:(LV.agg [st,w]).closed=true:=by simp[LV.closed,LV.closed.au,F.closed,G.closed]
 have q5:=z.sl.cell;have wB:=A.sl.cell;have Vi:=F.sl.cell;have hc4:=G.sl.cell;refine gO (t:=4) hm Tryz.func13 br c13 bw (by simp[LV.closed.au,bV,fA]) rfl rfl ?_;refine mH λe h0 h1=>?_;unfold l13;dsimp only[jA,jC,jG,qL,qN,qF,qS,qK,qO,qP,qH,qJ,qT,qD,qX,qG,qm,ql,qR];repeat' (first|refine aV trivial ?_|(first|apply ah|apply af)<;>intro d)
 refine cO ff (vB (L:=L) (S:=S) z A) (by first | exact wN | (apply wG;(simp only[lk,Nat.reduceEqDiff,reduceIte,h0,h1];(try rfl);done))) ef (λJ d=>⟨by first | trivial | (simp only[dG,aK,bq.run,Env.aB,Env.cp,u6,Nat.reduceEqDiff,Nat.reduceAdd,Nat.reduceLeDiff,reduceIte,bG,iI,List.map,cu,beq_self_eq_true,reduceCtorEq,false_or,true_and,and_true,Option.some.injEq, *];done),?_⟩);simp only[Env.aB];cases J<;>simp only[decide_eq_true_eq,decide_eq_false_iff_not]at d
 ·repeat' (first|refine aV trivial ?_|(first|apply ah|apply af)<;>intro d)
  refine⟨.inr trivial,?_⟩;simp only[lk,dM,Nat.reduceEqDiff,if_false,if_true];rw[decide_eq_false (λh=>d h.1)];rfl
 repeat' (first|refine aV trivial ?_|(first|apply ah|apply af)<;>intro d)
 have g:=d;refine cO ff (K8 F G L) (by first | exact wN | (apply wG;(simp only[lk,Nat.reduceEqDiff,reduceIte];(try rfl);done))) ef (λJ d=>⟨by first | trivial | (simp only[dG,aK,bq.run,Env.aB,Env.cp,u6,Nat.reduceEqDiff,Nat.reduceAdd,Nat.reduceLeDiff,reduceIte,bG,iI,List.map,cu,beq_self_eq_true,reduceCtorEq,false_or,true_and,and_true,Option.some.injEq, *];done),?_⟩);simp only[Env.aB];cases J<;>simp only[decide_eq_true_eq,decide_eq_false_iff_not]at d
 ·repeat' (first|refine aV trivial ?_|(first|apply ah|apply af)<;>intro d)
  refine⟨.inr trivial,?_⟩;simp only[lk,dM,Nat.reduceEqDiff,if_false,if_true];rw[decide_eq_false (λh=>d h.2)];rfl
 have u:=d;repeat' (first|refine aV trivial ?_|(first|apply ah|apply af)<;>intro d)
 have K:((S.toNat:Nat):Int)=S:=Int.toNat_of_nonneg g.1.2.2.2.2.2.1;have B:S.toNat<N.length:=by have:=g.1.2.2.2.2.2.2;omega
 refine bK wN (fv:=.fn (.func 34) [] [.aY [.int .i64 L, .int .i64 S,r,pr] 0, .aO 0 0]) (vs:=[st]) ef ef ?_;refine aM.mono (JJ z A g F u.2.1 (c:=0) (q:=S.toNat) B (by rw[St.az,if_pos rfl,K])) λv s1 M=>?_;obtain⟨rfl,Z,lI,-⟩:=M;have O:s1.n=1:=Z;clear Z;refine⟨trivial,?_⟩;simp only[Env.aB];repeat' (first|refine aV trivial ?_|(first|apply ah|apply af)<;>intro d)
 refine iw (v:=.aR 1) (s':=s1.new (.map [])) (by simp only[bq.run,O]) ?_;repeat' (first|refine aV trivial ?_|(first|apply ah|apply af)<;>intro d)
 have P:cj N sl S.toNat<N.length:=xm g B u.2.1.mem;have hNl:N.length<=3000:=g.1.2.2.2.1;generalize hT:wv (cj N ll) (λq=>eT N R ll q 20000) (N.length+1) [] (cj N sl S.toNat)=T;refine aN (λn e s=>∃ (qs:List Nat) (q:Nat) (acc:LV),qs.length+n=N.length+1/\q<N.length/\qs.Nodup/\(∀ x∈qs,x<N.length)/\e.at 3 = .aY [st,w] 0/\e.at 5 = .aO 0 0/\e.at 6 = .fn (.func 34) [] [.aY [.int .i64 L, .int .i64 S,r,pr] 0, .aO 0 0]/\e.at 7=acc/\e.at 8 = .aR 1 /\
  1<s.n/\s.get 0=some (.cells .mut [.int .i64 (q:Int)])/\s.get 1=some (.map (NU 0 qs))/\A4 (qs.map λq=>eT N R ll q 20000) s acc /\
  wv (cj N ll) (λq=>eT N R ll q 20000) n qs q=T) (N.length+1)
  ⟨[],cj N sl S.toNat, .aq,by simp,P,List.nodup_nil,λx hx=>(by cases hx),by simp,by simp,by simp,by simp,by simp,by simp[O],by rw[St.aA,if_neg om];exact lI,by rw[St.aA,if_pos O.symm];rfl, .inl ⟨rfl,rfl⟩,hT⟩ ?_
 rintro n e s ⟨qs,q,acc,hlen,Q,fM,U,e3,e5,e6,e7,e8,hn,sy,V,H,i⟩;have hpig:=HM _ _ fM U;obtain⟨f,rfl⟩:∃ f,n=f+1:=⟨n - 1,by omega⟩;have k:=H.len;have hac:=H.cell;repeat' (first|refine aV @k ?_|(first|apply ah|apply af)<;>intro d)
 have o:=L0 q qs 0 0;simp only[wv]at i;cases I:GY q qs 0 with
 | some j=>
   rw[I]at o i;simp only[Option.map_some]at o i;obtain⟨-,hj⟩:=FX I;refine iw (v:=.cE [.int .i64 (j:Int), .bool true]) (s':=s) (by simp only[bq.run,ki,beq_self_eq_true,lk,dM,rH,Nat.reduceEqDiff,if_false,if_true,V,o]) ?_;repeat' (first|refine aV @k ?_|(first|apply ah|apply af)<;>intro d)
   have C:(qs.map λq=>eT N R ll q 20000).length=qs.length:=by simp
   generalize SL:(qs.map λq=>eT N R ll q 20000)=ls at *;have nS:∀ x∈ls,bU x:=λx hx=>by
    rw[<- SL]at hx;obtain⟨y,hy,rfl⟩:=List.mem_map.1 hx;have:=EU g (l:=ll) (m:=20000) (U y hy) u.2.2.mem om om;constructor<;>omega
   rcases H with⟨h1,-⟩ | ⟨h1,id,hid1,hid2,rfl,D⟩
   ·rw[h1]at C;simp at C;omega
   have zc:(j:Int)<=(ls.length:Int):=by omega
   refine iw (v:=.aE id j (ls.length - j) 1) (s':=s) (by simp only[bq.run,lk,dM,rH,Nat.reduceEqDiff,if_false,if_true,mB,Option.map_none,Int.natCast_nonneg,true_and,zc,Int.toNat_natCast]) ?_;have je:(3001:Nat)<=maxLen:=by decide
   have hjn:j<ls.length:=by omega
   have W4:aP (.aF ((ints ls).drop j) (ls.length - j)) (ls.drop j):=by
    refine⟨?_,by simp;omega,λx hx=>nS x (List.mem_of_mem_drop hx)⟩;have:ints (ls.drop j)=(ints ls).drop j:=by simp[ints,List.map_drop]
    rw[this,List.length_drop];exact .aF _ _
   refine bK wN (fv:=.fn (.func 35) [] []) (vs:=[.aE id j (ls.length - j) 1]) ef ef ?_;refine n9 (args':=[.aF ((ints ls).drop j) (ls.length - j)]) (s':=s.put id (.cells .app (ints ls))) (by
    have uE:j+(ls.length - j)=(ints ls).length:=by rw[wh];omega
    simp[cY.cM,MR D uE (bI _)]) ?_
   refine iD ff (Yh W4 (by simp;omega)) ⟨trivial,?_⟩;simp only[Env.aB];repeat' (first|refine aV @k ?_|(first|apply ah|apply af)<;>intro d)
   all_goals
    refine⟨.inr trivial,?_⟩;simp only[lk,Nat.reduceEqDiff,if_false,if_true];rw[decide_eq_true ⟨g,u⟩,Bool.true_and,<- i];first | exact gK d | exact cg d
 | none=>
   rw[I]at o i;simp only[Option.map_none]at o i;refine iw (v:=.cE [.int .i64 0, .bool false]) (s':=s) (by simp only[bq.run,ki,beq_self_eq_true,lk,rH,Nat.reduceEqDiff,if_false,if_true,V,o]) ?_;repeat' (first|refine aV @k ?_|(first|apply ah|apply af)<;>intro d)
   have FI:iE (.int .i64) (.int .i64 (q:Int)) (NU 0 qs) 0=some none:=o;refine XX (v:=eC) (s':=s.put 1 (.map (NU 0 (qs++[q])))) (by simp only[bq.run,ki,beq_self_eq_true,lk,rH,Nat.reduceEqDiff,if_false,if_true,V,FI];rw[<- RZ];simp) ?_;repeat' (first|refine aV @k ?_|(first|apply ah|apply af)<;>intro d)
   refine bK wN (fv:=.fn (.func 34) [] [.aY [.int .i64 L, .int .i64 S,r,pr] 0, .aO 0 0]) (vs:=[w]) ef ef ?_;refine aM.mono (JJ z A g G u.2.2 (c:=0) (q:=q) Q (by rw[St.az,if_neg om];exact sy)) λv s2 M=>?_;obtain⟨rfl,jk,Ag,WX⟩:=M;have hn2':s2.n=s.n:=jk;clear jk;refine⟨trivial,?_⟩;simp only[Env.aB];repeat' (first|refine aV @k ?_|(first|apply ah|apply af)<;>intro d)
   have E:s2.get 1=some (.map (NU 0 (qs++[q]))):=by rw[WX 1 om,St.az,if_pos rfl]
   obtain⟨VR,s4,oK,p,od,X,Y⟩:=Gv (x:=eT N R ll q 20000) (s:=s2.new (.cells .mut [.int .i64 (eT N R ll q 20000)])) (H.mono (by simp;omega) (λid h1 h2=>by rw[St.aA,if_neg om,WX id om,St.az,if_neg om])) (by simp;omega) (by simp;omega);refine LH wN (v:=.int .i64 (eT N R ll q 20000)) ef rfl ?_;refine eD wN (xv:=acc) (yv:=.aE s2.n 0 1 1) ef ef rfl (Lz (by rw[St.aA,if_pos rfl])) (AU rfl) oK ?_;repeat' (first|refine aV @k ?_|(first|apply ah|apply af)<;>intro d)
   refine⟨f,by omega,qs++[q],cj N ll q,VR,by simp;omega,xm g Q u.2.2.mem,?_,?_,?_⟩
   ·exact List.nodup_append.2 ⟨fM,by simp,λa ha b hb=>by
     rintro rfl;rcases List.mem_singleton.1 hb with rfl
     exact FY I ha⟩
   ·intro x hx;rcases List.mem_append.1 hx with h | h
    ·exact U x h
    ·rcases List.mem_singleton.1 h with rfl;exact Q
   simp only[lk,Nat.reduceEqDiff,if_false,if_true,true_and,e3,e5,e6,e7,e8];simp only[St.fW]at od;refine⟨by omega,?_,?_,by rw[List.map_append];exact p,i⟩
   ·rw[X,St.aA,if_neg om];exact Ag
   ·rw[Y,St.aA,if_neg om];exact E
end Go.Proofs.YtkbiecjdcjfhaaaGreat
end
