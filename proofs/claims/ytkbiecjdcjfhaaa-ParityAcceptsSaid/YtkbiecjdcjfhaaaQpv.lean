/- parity.Valid. -/
import Derived.Test.YtkbiecjdcjfhaaaWoa
import Derived.Test.YtkbiecjdcjfhaaaTbase
set_option linter.unusedSimpArgs false
set_option linter.unusedVariables false
set_option maxRecDepth 100000
set_option maxHeartbeats 16000000
section
namespace Go.Proofs.Ytkbiecjdcjfhaaa
open Go Go.Pv
open Classical
def Ent (N R:List (List Int)) (i k:Nat):Prop:=0<=(N.getD i []).getD k 0/\(N.getD i []).getD k 0<(N.length:Int)/\0<=(R.getD i []).getD k 0/\(R.getD i []).getD k 0<=20000
def Qt (N R:List (List Int)) (L:Int) (i:Nat):Prop:=((N.getD i []).length:Int)=L/\((R.getD i []).length:Int)=L/\∀ k:Nat,(k:Int)<L->Ent N R i k
def PV (L S:Int) (N R:List (List Int)):Prop:=(1<=L/\L<=64/\1<=N.length/\N.length<=3000/\R.length=N.length/\0<=S/\S<N.length)/\∀ i,i<N.length->Qt N R L i
theorem Au {L S:Int}{nx pr:LV}{N R:List (List Int)}{o v:List LV}(a:dF nx N o) (b:dF pr R v):PO 8 [.agg [.int .i64 L, .int .i64 S,nx,pr]] (.bool (decide (PV L S N R))):=by
 have w:(LV.agg [.int .i64 L, .int .i64 S,nx,pr]).closed=true:=by simp[LV.closed,LV.closed.aq,a.closed,b.closed]
 have B:=a.sl.cell;have C:=b.sl.cell;refine lK (t:=2) hm Try.func8 (by decide +kernel) c8 (Nat.le_of_ble_eq_true rfl) (by simp[LV.closed.aq,w]) rfl rfl ?_;refine sJ λe h0=>?_;unfold l8;dsimp only[jA,jB,jC,jF,qM,qL,qF,qS,qI,qA,qB,qC,qK,qO,qP,qm,ql];repeat' (first | refine gA (And.intro @a.sl.len @b.sl.len) ?_ | (refine gB (And.intro @a.sl.len @b.sl.len) ?_;intro f c;cases f<;>(try simp only[aG]at c)<;>(try first | omega | exact c.elim)) | apply aA | fail)
 all_goals first
  | (refine⟨.inr trivial,?_⟩;simp only[lk,Nat.reduceEqDiff,if_false,if_true];refine b8 λh=>?_;have:=h.1;omega)
  | skip
 refine aS (λn e s=>s=St.empty/\∃ i:Nat,n=N.length - i/\i<=N.length/\e.at 1 = .aX [.int .i64 L, .int .i64 S,nx,pr] 0/\e.at 3 = .int .i64 (N.length:Int)/\e.at 46=nx/\e.at 47 = .int .i64 (N.length:Int)/\e.at 48 = .int .i64 (i:Int)/\∀ j,j<i->Qt N R L j) N.length ⟨rfl,0,by simp,by simp,by simp,by simp,by simp,by simp,by simp,λj d=>absurd d (Nat.not_lt_zero _)⟩ ?_;rintro n e s ⟨rfl,i,rfl,D,p,q,g,l,m,r⟩;repeat' (first | refine gA (And.intro @a.sl.len (And.intro @b.sl.len (And.intro (@cw _ _ _ a.sl) (And.intro (@cw _ _ _ b.sl) (And.intro @a.tV (And.intro @a.Dj (And.intro @b.tV @b.Dj))))))) ?_ | (refine gB (And.intro @a.sl.len (And.intro @b.sl.len (And.intro (@cw _ _ _ a.sl) (And.intro (@cw _ _ _ b.sl) (And.intro @a.tV (And.intro @a.Dj (And.intro @b.tV @b.Dj))))))) ?_;intro f c;cases f<;>(try simp only[aG]at c)<;>(try first | omega | exact c.elim)) | apply aA | fail)
 ·refine⟨.inr trivial,?_⟩;simp only[lk,Nat.reduceEqDiff,if_false,if_true];exact hY ⟨by omega,λj d=>r j om⟩
 ·rename_i E F;refine aS (λn e s=>s=St.empty/\∃ k:Nat,n=L.toNat - k/\(k:Int)<=L/\e.at 1 = .aX [.int .i64 L, .int .i64 S,nx,pr] 0/\e.at 3 = .int .i64 (N.length:Int)/\e.at 4 = .int .i64 (i:Int)/\e.at 46=nx/\e.at 47 = .int .i64 (N.length:Int)/\e.at 48 = .int .i64 (i:Int)/\e.at 69=o.getD i .top/\e.at 70 = .int .i64 L/\e.at 71 = .int .i64 (k:Int)/\∀ j,j<k->Ent N R i j) L.toNat
   ⟨rfl,0,by simp,by omega,by simp[p],by simp[q],by simp,by simp[g],by simp[l],by simp[m],by simp,by simp only[lk,Nat.reduceEqDiff,if_false,if_true, *],by simp,λj d=>absurd d (Nat.not_lt_zero _)⟩ ?_
  rintro n e s ⟨rfl,k,rfl,G,p,q,H,g,l,m,x,y,z,u⟩;repeat' (first | refine gA (And.intro @a.sl.len (And.intro @b.sl.len (And.intro (@cw _ _ _ a.sl) (And.intro (@cw _ _ _ b.sl) (And.intro @a.tV (And.intro @a.Dj (And.intro @a.ria (And.intro @b.tV (And.intro @b.Dj (And.intro @b.ria @bu)))))))))) ?_ | (refine gB (And.intro @a.sl.len (And.intro @b.sl.len (And.intro (@cw _ _ _ a.sl) (And.intro (@cw _ _ _ b.sl) (And.intro @a.tV (And.intro @a.Dj (And.intro @a.ria (And.intro @b.tV (And.intro @b.Dj (And.intro @b.ria @bu)))))))))) ?_;intro f c;cases f<;>(try simp only[aG]at c)<;>(try first | omega | exact c.elim)) | apply aA | fail)
  ·refine⟨_,?_,trivial,i+1,rfl,?_⟩
   ·omega
   simp only[lk,Nat.reduceEqDiff,if_false,if_true,true_and,dI (i:=i) (n:=N.length) om a.len, *];refine⟨by omega,λj d=>?_⟩;rcases Nat.lt_succ_iff_lt_or_eq.1 d with h | rfl
   ·exact r j h
   ·exact⟨by assumption,by assumption,λA I=>u A om⟩
  ·refine⟨_,?_,trivial,k+1,rfl,?_⟩
   ·omega
   simp only[lk,Nat.reduceEqDiff,if_false,if_true,true_and,dI (i:=k) (n:=64) om (by decide), *];refine⟨by omega,λj d=>?_⟩;rcases Nat.lt_succ_iff_lt_or_eq.1 d with h | rfl
   ·exact u j h
   ·exact⟨by assumption,by assumption,by assumption,by assumption⟩
  all_goals
   refine⟨.inr trivial,?_⟩;simp only[lk,Nat.reduceEqDiff,if_false,if_true];refine b8 λh=>?_;obtain⟨u1,u2,u3,u4⟩:=(h.2 i om).2.2 k om;omega
 ·refine⟨.inr trivial,?_⟩;simp only[lk,Nat.reduceEqDiff,if_false,if_true];refine b8 λh=>?_;have:=(h.2 i om).2.1;omega
 ·refine⟨.inr trivial,?_⟩;simp only[lk,Nat.reduceEqDiff,if_false,if_true];refine b8 λh=>?_;have:=(h.2 i om).1;omega
def LN (N:List (List Int)) (q:Nat) (a:Int):Nat:=((N.getD q []).getD a.toNat 0).toNat
def gO (N:List (List Int)):List Int->Nat->Nat
 | [],q=>q
 | a::l,q=>gO N l (LN N q a)
def iW (N R:List (List Int)):List Int->Nat->Int->Int
 | [],_,m=>m
 | a::l,q,m=>iW N R l (LN N q a) (min m ((R.getD q []).getD a.toNat 0))
theorem AV {l:List Int}{a:Int}(h0:0<=a) (h1:a<(l.length:Int)):(ints l)[a.toNat]? = some (.int .i64 (l.getD a.toNat 0)):=bu om
theorem RD {v:LV}{ls:List (List Int)}{vs:List LV}(h:dF v ls vs) {i:Nat}(hi:(i:Int)<(ls.length:Int)) {aU:Nat}{k:IntKind}{s:St}{a:Int}(h0:0<=a) (b:a<((ls.getD i []).length:Int)) :
 mM aU (vs.getD i .top) (.int k a) s=some (.aX (ints (ls.getD i [])) (a.toNat*aU),s):=iaI (h.row i om).sl h0 b
theorem Bv {L S:Int}{N R:List (List Int)}(b:PV L S N R) {q:Nat}(c:q<N.length) {a:Int}(h0:0<=a) (h1:a<L):((LN N q a:Nat):Int)=(N.getD q []).getD a.toNat 0/\LN N q a<N.length:=by
 obtain⟨u1,u2,u3,u4⟩:=(b.2 q c).2.2 a.toNat om;unfold LN;omega
theorem H7 {L S:Int}{nx pr w:LV}{N R:List (List Int)}{C D:List LV}(f:dF nx N C) (g:dF pr R D) (t:PV L S N R) {l:List Int}(b:aM w l) (hl:kO l L) {c q:Nat}(E:q<N.length) {s:St}(hs:s.get c=some (.cells .mut [.int .i64 (q:Int)])) :
 aJ Try.prog GL (.fn (.func 23) [] [.aX [.int .i64 L, .int .i64 S,nx,pr] 0, .aH c 0]) [w] s (λv s'=>v = .int .i64 (iW N R l q 20000)/\s'.n=s.n/\s'.get c=some (.cells .mut [.int .i64 (gO N l q:Int)])/\∀ id,id≠c->s'.get id=s.get id):=by
 refine bL (first:=[]) (caps:=[.aX [.int .i64 L, .int .i64 S,nx,pr] 0, .aH c 0]) Try.func23 (by decide +kernel) c23 (Nat.le_of_ble_eq_true rfl) (aQ.mono (Q:=λo e s'=>(o = .normal∨o = .jmp .ret)/\e.at 4 = .int .i64 (iW N R l q 20000)/\s'.n=s.n/\s'.get c=some (.cells .mut [.int .i64 (gO N l q:Int)])/\∀ id,id≠c->s'.get id=s.get id) ?_ λo e s' u=>⟨u.1,_,by simp[l23,br,bO,u.2.1],rfl,u.2.2⟩);refine Cd.out (ev3 λe h0 h1 h2=>?_);unfold l23;dsimp only[jA,jG,qF,qS,qI,qA,qB,qC,qm,ql];repeat' (first | refine gA @b.sl.len ?_ | (refine gB @b.sl.len ?_;rintro (_|_) k<;>try simp only[aG,reduceCtorEq]at k) | apply aA | fail)
 refine aS (λn e r=>∃ i a:Nat,∃ m:Int,n=l.length - i/\i<=l.length/\a<N.length/\e.at 1 = .aX [.int .i64 L, .int .i64 S,nx,pr] 0/\e.at 2 = .aH c 0/\e.at 5 = .int .i64 m/\e.at 8=w/\e.at 9 = .int .i64 (l.length:Int)/\e.at 10 = .int .i64 (i:Int) /\
  r.n=s.n/\r.get c=some (.cells .mut [.int .i64 (a:Int)])/\(∀ id,id≠c->r.get id=s.get id)/\iW N R (l.drop i) a m=iW N R l q 20000/\gO N (l.drop i) a=gO N l q) l.length
  ⟨0,q,20000,by simp,by simp,E,by simp[h1],by simp[h2],by simp,by simp,by simp,by simp,rfl,hs,λ_ _=>rfl,rfl,rfl⟩ ?_
 rintro n e r ⟨i,a,m,rfl,X,p,F,G,H,I,J,K,A,M,d,h,j⟩;by_cases x:i<l.length
 ·obtain⟨y,O⟩:=hl i x;obtain⟨r1,r2,r3⟩:=t.2 a p;have P:R.length=N.length:=t.1.2.2.2.2.1;have Y:(a:Int)<(N.length:Int):=by omega
  have Z:(a:Int)<(R.length:Int):=by omega
  have x3:l.getD i 0<((N.getD a []).length:Int):=by omega
  have x4:l.getD i 0<((R.getD a []).length:Int):=by omega
  clear r1 r2 P;obtain⟨T,U⟩:=Bv t p y O;repeat' (first | refine gA (And.intro @b.sl.len (And.intro (@cw _ _ _ b.sl) (And.intro @bu (And.intro (@cw _ _ _ f.sl) (And.intro (@cw _ _ _ g.sl) (And.intro @f.tV (And.intro @g.tV (And.intro (@RD _ _ _ f) (And.intro (@RD _ _ _ g) @AV))))))))) ?_ | (refine gB (And.intro @b.sl.len (And.intro (@cw _ _ _ b.sl) (And.intro @bu (And.intro (@cw _ _ _ f.sl) (And.intro (@cw _ _ _ g.sl) (And.intro @f.tV (And.intro @g.tV (And.intro (@RD _ _ _ f) (And.intro (@RD _ _ _ g) @AV))))))))) ?_;intro z k;cases z<;>(try simp only[aG]at k)) | apply aA | fail)
  ·exfalso;omega
  ·refine⟨_,?_,i+1,LN N a (l.getD i 0),min m ((R.getD a []).getD (l.getD i 0).toNat 0),rfl,?_⟩
   ·omega
   have V:l.drop i=l.getD i 0::l.drop (i+1):=by
    rw[List.drop_eq_getElem_cons x];simp[gD,x]
   rw[V]at h j;simp only[iW,gO]at h j;simp only[lk,Nat.reduceEqDiff,if_false,if_true,true_and,dI (i:=i) (n:=l.length) om b.len,St.dP,F,G,H,I,J,K];refine⟨by omega,U,A,?_,λid B=>?_,h,j⟩
   ·rw[St.ah,if_pos rfl,T]
   ·rw[St.ah,if_neg B];exact d id B
 ·repeat' (first | refine gA @b.sl.len ?_ | (refine gB @b.sl.len ?_;intro z k;cases z<;>(try simp only[aG]at k)) | apply aA | fail)
  ·obtain rfl:i=l.length:=by omega
   rw[List.drop_length]at h j;simp only[iW,gO]at h j;refine⟨.inr trivial,?_,A,by rw[M,j],d⟩;simp only[lk,Nat.reduceEqDiff,if_false,if_true,h]
  ·omega
def mn (l:List Int):Int:=(l.drop 1).foldl min (l.getD 0 0)
theorem Wi {v:LV}{l:List Int}(a:aM v l) (hl:1<=l.length):PO 24 [v] (.int .i64 (mn l)):=by
 refine lK (t:=2) hm Try.func24 (by decide +kernel) c24 (Nat.le_of_ble_eq_true rfl) (by simp[LV.closed.aq,a.closed]) rfl rfl ?_;refine sJ λe h0=>?_;have f:((0:Nat):Int)<(l.length:Int):=by omega
 have g:mM 1 v (.int .i64 0) St.empty=some (.aX (ints l) 0,St.empty):=by simpa using cw a.sl (aU:=1) (k:=.i64) (s:=St.empty) f
 have g0:(ints l)[0]? = some (.int .i64 (l.getD 0 0)):=bu f;unfold l24;dsimp only[jA,qS,qI,qA,qB,qC,qm,ql];repeat' (first | refine gA (And.intro @a.sl.len (And.intro @g @g0)) ?_ | (refine gB (And.intro @a.sl.len (And.intro @g @g0)) ?_;intro c d;cases c<;>(try simp only[aG]at d)) | apply aA | fail)
 ·refine aS (λn e s=>s=St.empty/\∃ i:Nat,∃ m:Int,n=l.length - i/\i<=l.length/\e.at 0=v/\e.at 3 = .int .i64 m/\e.at 4 = .int .i64 (i:Int)/\(l.drop i).foldl min m=mn l) (l.length - 1) ⟨rfl,1,l.getD 0 0,rfl,hl,by simp[h0],by simp,by simp,rfl⟩ ?_;rintro n e s ⟨rfl,i,m,rfl,p,j,q,r,b⟩;repeat' (first | refine gA (And.intro @a.sl.len (And.intro (@cw _ _ _ a.sl) @bu)) ?_ | (refine gB (And.intro @a.sl.len (And.intro (@cw _ _ _ a.sl) @bu)) ?_;intro c d;cases c<;>(try simp only[aG]at d)) | apply aA | fail)
  ·refine⟨.inr trivial,?_⟩;obtain rfl:i=l.length:=by omega
   rw[List.drop_length]at b;simp only[lk,Nat.reduceEqDiff,if_false,if_true];rw[<- b];rfl
  ·refine⟨_,?_,trivial,i+1,min m (l.getD i 0),rfl,?_⟩
   ·omega
   have h:i<l.length:=by omega
   have o:l.drop i=l.getD i 0::l.drop (i+1):=by
    rw[List.drop_eq_getElem_cons h];simp[gD,h]
   rw[o,List.foldl_cons]at b;simp only[lk,Nat.reduceEqDiff,if_false,if_true,true_and,dI (i:=i) (n:=l.length) om a.len,j];exact⟨by omega,b⟩
 all_goals omega
def FA (q:Nat):List Nat->Nat->Option Nat
 | [],_=>none
 | x::r,i=>if x=q then some i else FA q r (i+1)
def iY:Nat->List Nat->List (LV × LV)
 | _,[]=>[]
 | i,x::r=>(.int .i64 (x:Int), .int .i64 (i:Int))::iY (i+1) r
theorem Ki (q:Nat):∀ (qs:List Nat) (i k:Nat),fu (.int .i64) (.int .i64 (q:Int)) (iY i qs) k=some ((FA q qs i).map λj=>(k+(j - i),LV.int .i64 (j:Int))):=by
 intro qs;induction qs with
 | nil=>intro i k;rfl
 | cons x r ih=>
   intro i k;by_cases h:x=q
   ·subst h;simp[iY,fu,iM,tC,FA]
   ·have dH:((q:Int) == (x:Int))=false:=by simpa using λc:(q:Int)=(x:Int)=>h om
    simp only[iY,fu,iM,tC,if_true,dH,FA,h,if_false,ih];have a:∀ (r:List Nat) (i j:Nat),FA q r i=some j->i<=j:=by
     intro r;induction r with
     | nil=>intro i j h;cases h
     | cons y r ih => intro i j h; simp only[FA]at h; split at h; · cases h; exact Nat.le_refl _
                      ·have:=ih _ _ h;omega
    cases b:FA q r (i+1) with
    | none=>rfl
    | some j=>
      have:=a _ _ _ b;simp only[Option.map_some,Option.some.injEq,Prod.mk.injEq,and_true];omega
theorem P3 (q:Nat):∀ (qs:List Nat) (i:Nat),iY i qs++[(.int .i64 (q:Int), .int .i64 ((i+qs.length:Nat):Int))]=iY i (qs++[q]):=by
 intro qs;induction qs with
 | nil=>intro i;simp[iY]
 | cons x r ih=>intro i;simp only[List.cons_append,iY,List.length_cons,<- ih (i+1)];simp[Nat.add_assoc,Nat.add_comm 1]
theorem EI {q:Nat} : ∀ {qs:List Nat}{i j:Nat},FA q qs i=some j->i<=j/\j<i+qs.length:=by
 intro qs;induction qs with
 | nil=>intro i j h;cases h
 | cons x r ih=>
   intro i j h;simp only[FA]at h;split at h
   ·cases h;simp
   ·have:=ih h;simp;omega
theorem EJ {q:Nat} : ∀ {qs:List Nat}{i:Nat},FA q qs i=none->q ∉ qs:=by
 intro qs;induction qs with
 | nil=>intro i _ h;cases h
 | cons x r ih=>
   intro i h hm;simp only[FA]at h;split at h
   ·cases h
   ·rename_i dH;rcases List.mem_cons.1 hm with rfl | hm
    ·exact dH rfl
    ·exact ih h hm
theorem Nw:∀ (n:Nat) (qs:List Nat),qs.Nodup->(∀ x∈qs,x<n)->qs.length<=n:=by
 intro n;induction n with
 | zero=>intro qs _ h;cases qs with | nil=>simp | cons x r=>exact absurd (h x (by simp)) (Nat.not_lt_zero _)
 | succ n ih=>
   intro qs a h;have h1:=ih (qs.erase n) (a.erase n) (λx hx=>by
    have h2:=h x (List.mem_of_mem_erase hx);have h3:x≠n:=λb=>by subst b;exact (a.not_mem_erase) hx
    omega)
   rw[List.length_erase]at h1;split at h1<;>omega
def wv (fS:Nat->Nat) (zw:Nat->Int):Nat->List Nat->Nat->Bool
 | 0,_,_=>false
 | f+1,qs,q=>
   match FA q qs 0 with
   | some j=>decide ((mn ((qs.map zw).drop j)).tmod 2=0)
   | none=>wv fS zw f (qs++[q]) (fS q)
theorem wM {L S:Int}{N R:List (List Int)}(d:PV L S N R):∀ {l:List Int}{q:Nat},q<N.length->(∀ a∈l,0<=a/\a<L)->gO N l q<N.length:=by
 intro l;induction l with
 | nil=>intro q c _;exact c
 | cons a l ih=>intro q c h;exact ih (Bv d c (h a (by simp)).1 (h a (by simp)).2).2 (λb e=>h b (by simp[e]))
theorem kO.mem {l:List Int}{m:Int}(h:kO l m):∀ a∈l,0<=a/\a<m:=λa c=>by
 obtain⟨j,b,rfl⟩:=List.getElem_of_mem c;have:=h j b;rwa[gD,gE b,Option.getD_some]at this
def zX (ls:List Int) (s:St) (acc:LV):Prop:=
 (ls=[]/\acc = .aj)∨(0<ls.length/\∃ j,1<j/\j<s.n/\acc = .aD j 0 ls.length 1/\s.get j=some (.cells .mut (ints ls)))
theorem zX.len {ls:List Int}{s:St}{acc:LV}(h:zX ls s acc):fm acc=some ls.length:=by
 rcases h with⟨rfl,rfl⟩ | ⟨_,j,_,_,rfl,_⟩<;>rfl
theorem zX.cell {ls:List Int}{s:St}{acc:LV}(h:zX ls s acc):aV acc=true:=by
 rcases h with⟨rfl,rfl⟩ | ⟨_,j,_,_,rfl,_⟩<;>rfl
theorem zX.mono {ls:List Int}{s s':St}{acc:LV}(h:zX ls s acc) (c:s.n<=s'.n) (a:∀ id,1<id->id<s.n->s'.get id=s.get id):zX ls s' acc:=by
 rcases h with h | ⟨h0,j,h1,h2,h3,b⟩
 ·exact .inl h
 ·exact .inr ⟨h0,j,h1,by omega,h3,by rw[a j h1 h2];exact b⟩
theorem Fe {x:Int}{ls:List Int}{s:St}{acc:LV}(h:zX ls s acc) (h1:1<s.n) (hl:ls.length<=2 ^ 20) :
 ∃ c a,bF 1 8 acc [.int .i64 x] 1 s=some (c,a)/\zX (ls++[x]) a c/\s.n<a.n/\a.get 0=s.get 0/\a.get 1=s.get 1:=by
 rcases h with⟨rfl,rfl⟩ | ⟨h0,j,d,e,rfl,b⟩
 ·exact⟨_,_,rS om, .inr ⟨by simp,s.n,by omega,by simp,rfl,by rw[St.az,if_pos rfl];rfl⟩,by simp,by rw[St.az,if_neg om],by rw[St.az,if_neg om]⟩
 ·refine⟨_,_,Cx b (by simp) (by decide) hl, .inr ⟨by simp,s.n,by omega,by simp,by simp,by rw[St.az,St.dP,if_pos rfl];simp[ints]⟩,by simp,?_,?_⟩
  ·rw[St.az,St.dP,if_neg om,St.ah,if_neg om]
  ·rw[St.az,St.dP,if_neg om,St.ah,if_neg om]
theorem Lc {s:St}{j off len:Nat}{cs:List LV}(h:s.get j=some (.cells .mut cs)) (hl:off+len=cs.length) (a:LV.closed.aq cs=true):cK aY (.aD j off len 1) s=some (.aB (cs.drop off) len,s.put j (.cells .app cs)):=by
 have:cK aY (.aD j off len 1) s=cK (38+1+1) (.aD j off len 1) s:=rfl;rw[this];unfold cK;simp only[LV.closed,Bool.false_eq_true,if_false,h,Nat.mul_one,hl,Nat.le_refl,if_true,dg a,Option.bind_eq_bind,Option.bind_some,Option.some.injEq,Prod.mk.injEq,and_true];rw[List.take_of_length_le (by simp;omega)]
theorem NY {L S:Int}{N R:List (List Int)}(d:PV L S N R):∀ {l:List Int}{q:Nat}{m:Int},q<N.length->(∀ a∈l,0<=a/\a<L)->0<=m->m<=20000->0<=iW N R l q m/\iW N R l q m<=20000:=by
 intro l;induction l with
 | nil=>intro q m c _ h0 h1;exact⟨h0,h1⟩
 | cons a l ih=>
   intro q m c h h0 h1;have e:=h a (by simp);obtain⟨u1,u2,u3,u4⟩:=(d.2 q c).2.2 a.toNat om;exact ih (Bv d c e.1 e.2).2 (λb f=>h b (by simp[f])) om om
theorem Ri {L S:Int}{nx pr st lo:LV}{N R:List (List Int)}{vN vR:List LV}{sl g:List Int}(w:dF nx N vN) (z:dF pr R vR) (F:aM st sl) (G:aM lo g) :
 PO 9 [.agg [.int .i64 L, .int .i64 S,nx,pr], .agg [st,lo]] (.bool (decide (PV L S N R/\Fm sl g/\kO sl L/\kO g L) && wv (gO N g) (λq=>iW N R g q 20000) (N.length+1) [] (gO N sl S.toNat))):=by
 have cx:(LV.agg [.int .i64 L, .int .i64 S,nx,pr]).closed=true:=by simp[LV.closed,LV.closed.aq,w.closed,z.closed]
 have sG:(LV.agg [st,lo]).closed=true:=by simp[LV.closed,LV.closed.aq,F.closed,G.closed]
 have mZ:=w.sl.cell;have uD:=z.sl.cell;have Ez:=F.sl.cell;have Xt:=G.sl.cell;refine lK (t:=4) hm Try.func9 (by decide +kernel) c9 (Nat.le_of_ble_eq_true rfl) (by simp[LV.closed.aq,cx,sG]) rfl rfl ?_;refine pF λe h0 h1=>?_;unfold l9;dsimp only[jA,jC,jG,qL,qN,qF,qS,qK,qO,qP,qG,qm,ql];repeat' (first | refine gA trivial ?_ | (refine gB trivial ?_;rintro (_|_) d<;>try simp only[aG,reduceCtorEq]at d) | apply aA | fail)
 refine dN ez (Au (L:=L) (S:=S) w z) (by first | exact wN | (apply wG;(simp only[lk,Nat.reduceEqDiff,reduceIte,h0,h1];(try rfl);done))) (by simp only[List.map,lk,Nat.reduceEqDiff,reduceIte];try rfl) (λA d=>⟨by first | trivial | (simp only[cH,aE,aR.run,Env.au,Env.bI,svq,Nat.reduceEqDiff,Nat.reduceAdd,Nat.reduceLeDiff,reduceIte,aT,eH,List.map,bC,beq_self_eq_true,reduceCtorEq,false_or,true_and,and_true,Option.some.injEq, *];done),?_⟩);simp only[Env.au];cases A<;>simp only[decide_eq_true_eq,decide_eq_false_iff_not]at d
 ·repeat' (first | refine gA trivial ?_ | (refine gB trivial ?_;rintro (_|_) d<;>try simp only[aG,reduceCtorEq]at d) | apply aA | fail)
  refine⟨.inr trivial,?_⟩;simp only[lk,dJ,Nat.reduceEqDiff,if_false,if_true];rw[decide_eq_false (λh=>d h.1)];rfl
 repeat' (first | refine gA trivial ?_ | (refine gB trivial ?_;rintro (_|_) d<;>try simp only[aG,reduceCtorEq]at d) | apply aA | fail)
 have k:=d;refine dN ez (zZ F G L) (by first | exact wN | (apply wG;(simp only[lk,Nat.reduceEqDiff,reduceIte];(try rfl);done))) (by simp only[List.map,lk,Nat.reduceEqDiff,reduceIte];try rfl) (λA d=>⟨by first | trivial | (simp only[cH,aE,aR.run,Env.au,Env.bI,svq,Nat.reduceEqDiff,Nat.reduceAdd,Nat.reduceLeDiff,reduceIte,aT,eH,List.map,bC,beq_self_eq_true,reduceCtorEq,false_or,true_and,and_true,Option.some.injEq, *];done),?_⟩);simp only[Env.au];cases A<;>simp only[decide_eq_true_eq,decide_eq_false_iff_not]at d
 ·repeat' (first | refine gA trivial ?_ | (refine gB trivial ?_;rintro (_|_) d<;>try simp only[aG,reduceCtorEq]at d) | apply aA | fail)
  refine⟨.inr trivial,?_⟩;simp only[lk,dJ,Nat.reduceEqDiff,if_false,if_true];rw[decide_eq_false (λh=>d h.2)];rfl
 have u:=d;repeat' (first | refine gA trivial ?_ | (refine gB trivial ?_;rintro (_|_) d<;>try simp only[aG,reduceCtorEq]at d) | apply aA | fail)
 have K:((S.toNat:Nat):Int)=S:=Int.toNat_of_nonneg k.1.2.2.2.2.2.1;have B:S.toNat<N.length:=by have:=k.1.2.2.2.2.2.2;omega
 refine bH wN (fv:=.fn (.func 23) [] [.aX [.int .i64 L, .int .i64 S,nx,pr] 0, .aH 0 0]) (vs:=[st]) ef ef ?_;refine aJ.mono (H7 w z k F u.2.1 (c:=0) (q:=S.toNat) B (by rw[St.ah,if_pos rfl,K])) λv Y M=>?_;obtain⟨rfl,Z,nU,-⟩:=M;have O:Y.n=1:=Z;clear Z;refine⟨trivial,?_⟩;simp only[Env.au];repeat' (first | refine gA trivial ?_ | (refine gB trivial ?_;rintro (_|_) d<;>try simp only[aG,reduceCtorEq]at d) | apply aA | fail)
 refine eN (v:=.aI 1) (s':=Y.new (.map [])) (by simp only[aR.run,O]) ?_;repeat' (first | refine gA trivial ?_ | (refine gB trivial ?_;rintro (_|_) d<;>try simp only[aG,reduceCtorEq]at d) | apply aA | fail)
 have yc:gO N sl S.toNat<N.length:=wM k B u.2.1.mem;have hNl:N.length<=3000:=k.1.2.2.2.1;generalize hT:wv (gO N g) (λq=>iW N R g q 20000) (N.length+1) [] (gO N sl S.toNat)=T;refine aS (λn e s=>∃ (qs:List Nat) (q:Nat) (acc:LV),qs.length+n=N.length+1/\q<N.length/\qs.Nodup/\(∀ x∈qs,x<N.length)/\e.at 3 = .aX [st,lo] 0/\e.at 5 = .aH 0 0/\e.at 6 = .fn (.func 23) [] [.aX [.int .i64 L, .int .i64 S,nx,pr] 0, .aH 0 0]/\e.at 7=acc/\e.at 8 = .aI 1 /\
  1<s.n/\s.get 0=some (.cells .mut [.int .i64 (q:Int)])/\s.get 1=some (.map (iY 0 qs))/\zX (qs.map λq=>iW N R g q 20000) s acc /\
  wv (gO N g) (λq=>iW N R g q 20000) n qs q=T) (N.length+1)
  ⟨[],gO N sl S.toNat, .aj,by simp,yc,List.nodup_nil,λx hx=>(by cases hx),by simp,by simp,by simp,by simp,by simp,by simp[O],by rw[St.az,if_neg om];exact nU,by rw[St.az,if_pos O.symm];rfl, .inl ⟨rfl,rfl⟩,hT⟩ ?_
 rintro n e s ⟨qs,q,acc,hlen,P,gK,Q,e3,e5,e6,e7,e8,hn,CQ,U,H,o⟩;have hpig:=Nw _ _ gK Q;obtain⟨f,rfl⟩:∃ f,n=f+1:=⟨n - 1,by omega⟩;have i:=H.len;have hac:=H.cell;repeat' (first | refine gA @i ?_ | (refine gB @i ?_;rintro (_|_) d<;>try simp only[aG,reduceCtorEq]at d) | apply aA | fail)
 have p:=Ki q qs 0 0;simp only[wv]at o;cases I:FA q qs 0 with
 | some j=>
   rw[I]at p o;simp only[Option.map_some]at p o;obtain⟨-,hj⟩:=EI I;refine eN (v:=.cy [.int .i64 (j:Int), .bool true]) (s':=s) (by simp only[aR.run,iu,beq_self_eq_true,lk,dJ,gW,Nat.reduceEqDiff,if_false,if_true,U,p]) ?_;repeat' (first | refine gA @i ?_ | (refine gB @i ?_;rintro (_|_) d<;>try simp only[aG,reduceCtorEq]at d) | apply aA | fail)
   have C:(qs.map λq=>iW N R g q 20000).length=qs.length:=by simp
   generalize QL:(qs.map λq=>iW N R g q 20000)=ls at *;have o6:∀ x∈ls,cF x:=λx hx=>by
    rw[<- QL]at hx;obtain⟨y,hy,rfl⟩:=List.mem_map.1 hx;have:=NY k (l:=g) (m:=20000) (Q y hy) u.2.2.mem om om;constructor<;>omega
   rcases H with⟨h1,-⟩ | ⟨h1,id,hid1,hid2,rfl,D⟩
   ·rw[h1]at C;simp at C;omega
   have GU:(j:Int)<=(ls.length:Int):=by omega
   refine eN (v:=.aD id j (ls.length - j) 1) (s':=s) (by simp only[aR.run,lk,dJ,gW,Nat.reduceEqDiff,if_false,if_true,fM,Option.map_none,Int.natCast_nonneg,true_and,GU,Int.toNat_natCast]) ?_;have tN:(3001:Nat)<=maxLen:=by decide
   have QO:j<ls.length:=by omega
   have U4:aM (.aB ((ints ls).drop j) (ls.length - j)) (ls.drop j):=by
    refine⟨?_,by simp;omega,λx hx=>o6 x (List.mem_of_mem_drop hx)⟩;have:ints (ls.drop j)=(ints ls).drop j:=by simp[ints,List.map_drop]
    rw[this,List.length_drop];exact .aB _ _
   refine bH wN (fv:=.fn (.func 24) [] []) (vs:=[.aD id j (ls.length - j) 1]) ef ef ?_;refine nM (args':=[.aB ((ints ls).drop j) (ls.length - j)]) (s':=s.put id (.cells .app (ints ls))) (by
    have tL:j+(ls.length - j)=(ints ls).length:=by rw[fT];omega
    simp[cK.cu,Lc D tL (bD _)]) ?_
   refine ij ez (Wi U4 (by simp;omega)) ⟨trivial,?_⟩;simp only[Env.au];repeat' (first | refine gA @i ?_ | (refine gB @i ?_;intro A d;cases A<;>(try simp only[aG]at d)) | apply aA | fail)
   all_goals
    refine⟨.inr trivial,?_⟩;simp only[lk,Nat.reduceEqDiff,if_false,if_true];rw[decide_eq_true ⟨k,u⟩,Bool.true_and,<- o];first | exact hY d | exact b8 d
 | none=>
   rw[I]at p o;simp only[Option.map_none]at p o;refine eN (v:=.cy [.int .i64 0, .bool false]) (s':=s) (by simp only[aR.run,iu,beq_self_eq_true,lk,gW,Nat.reduceEqDiff,if_false,if_true,U,p]) ?_;repeat' (first | refine gA @i ?_ | (refine gB @i ?_;rintro (_|_) d<;>try simp only[aG,reduceCtorEq]at d) | apply aA | fail)
   have Ci:fu (.int .i64) (.int .i64 (q:Int)) (iY 0 qs) 0=some none:=p;refine V3 (v:=dY) (s':=s.put 1 (.map (iY 0 (qs++[q])))) (by simp only[aR.run,iu,beq_self_eq_true,lk,gW,Nat.reduceEqDiff,if_false,if_true,U,Ci];rw[<- P3];simp) ?_;repeat' (first | refine gA @i ?_ | (refine gB @i ?_;rintro (_|_) d<;>try simp only[aG,reduceCtorEq]at d) | apply aA | fail)
   refine bH wN (fv:=.fn (.func 23) [] [.aX [.int .i64 L, .int .i64 S,nx,pr] 0, .aH 0 0]) (vs:=[lo]) ef ef ?_;refine aJ.mono (H7 w z k G u.2.2 (c:=0) (q:=q) P (by rw[St.ah,if_neg om];exact CQ)) λv J M=>?_;obtain⟨rfl,jY,G0,fL⟩:=M;have hn2':J.n=s.n:=jY;clear jY;refine⟨trivial,?_⟩;simp only[Env.au];repeat' (first | refine gA @i ?_ | (refine gB @i ?_;rintro (_|_) d<;>try simp only[aG,reduceCtorEq]at d) | apply aA | fail)
   have E:J.get 1=some (.map (iY 0 (qs++[q]))):=by rw[fL 1 om,St.ah,if_pos rfl]
   obtain⟨T6,s4,p0,r,qv,V,X⟩:=Fe (x:=iW N R g q 20000) (s:=J.new (.cells .mut [.int .i64 (iW N R g q 20000)])) (H.mono (by simp;omega) (λid h1 h2=>by rw[St.az,if_neg om,fL id om,St.ah,if_neg om])) (by simp;omega) (by simp;omega);refine Ar wN (v:=.int .i64 (iW N R g q 20000)) ef rfl ?_;refine eO wN (xv:=acc) (yv:=.aD J.n 0 1 1) ef ef rfl (Am (by rw[St.az,if_pos rfl])) (mS rfl) p0 ?_;repeat' (first | refine gA @i ?_ | (refine gB @i ?_;rintro (_|_) d<;>try simp only[aG,reduceCtorEq]at d) | apply aA | fail)
   refine⟨f,by omega,qs++[q],gO N g q,T6,by simp;omega,wM k P u.2.2.mem,?_,?_,?_⟩
   ·exact List.nodup_append.2 ⟨gK,by simp,λa ha b hb=>by
     rintro rfl;rcases List.mem_singleton.1 hb with rfl
     exact EJ I ha⟩
   ·intro x hx;rcases List.mem_append.1 hx with h | h
    ·exact Q x h
    ·rcases List.mem_singleton.1 h with rfl;exact P
   simp only[lk,Nat.reduceEqDiff,if_false,if_true,true_and,e3,e5,e6,e7,e8];simp only[St.dZ]at qv;refine⟨by omega,?_,?_,by rw[List.map_append];exact r,o⟩
   ·rw[V,St.az,if_neg om];exact G0
   ·rw[X,St.az,if_neg om];exact E
end Go.Proofs.Ytkbiecjdcjfhaaa
end
