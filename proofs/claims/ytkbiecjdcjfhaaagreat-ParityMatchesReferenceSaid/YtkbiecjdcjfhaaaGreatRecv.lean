/- record.Valid, record.Start. -/
import Derived.Test.YtkbiecjdcjfhaaaGreatBase
import Derived.Test.YtkbiecjdcjfhaaaGreatPvKM
set_option linter.unusedSimpArgs false
set_option linter.unusedVariables false
set_option maxRecDepth 100000
set_option maxHeartbeats 16000000
section
namespace Go.Proofs.YtkbiecjdcjfhaaaGreat
open Go Go.Pv
open Classical
def mL (r:List Int):Prop:=r.length<=6000/\(∀ x∈r,1<=x/\x<=(r.length:Int))/\r.Nodup
def w9 (r:List Int) (k:Nat):Prop:=(∀ x∈r.take k,1<=x/\x<=(r.length:Int))/\(r.take k).Nodup
theorem Bl {r:List Int}{k:Nat}{x:Int}(hx:r[k]? = some x):w9 r (k+1)↔w9 r k/\(1<=x/\x<=(r.length:Int))/\x ∉ r.take k:=by
 unfold w9;rw[List.take_add_one,hx];simp only[Option.toList_some,List.mem_append,List.mem_singleton,List.nodup_append,List.nodup_cons,List.not_mem_nil,not_false_eq_true,List.nodup_nil,and_true,true_and];constructor
 ·rintro⟨h1,h2,h3⟩;exact⟨⟨λy c=>h1 y (.inl c),h2⟩,h1 x (.inr rfl),λhm=>h3 x hm x rfl rfl⟩
 ·rintro⟨⟨h1,h2⟩,h3,d⟩;exact⟨λy c=>c.elim (h1 y) λe=>e ▸ h3,h2,λa f b g h=>d (by rw[<- g,<- h];exact f)⟩
theorem El {r:List Int}(hl:r.length<=6000):w9 r r.length↔mL r:=by
 unfold w9 mL;rw[List.take_length];exact⟨λh=>⟨hl,h⟩,λh=>h.2⟩
theorem xp {r:List Int}{k:Nat}(h:¬ w9 r k):¬ mL r:=λa=>h ⟨λx hx=>a.2.1 x (List.mem_of_mem_take hx),a.2.2.sublist (List.take_sublist _ _)⟩
theorem Ej {rv:LV}{r:List Int}(f:aP rv r):PO 76 [rv, .int .i64 (r.length:Int)] (.bool (decide (mL r))):=by
 have E:=f.closed;have o:=f.sl.len;have A:=f.len;have N:=lG;refine gO (t:=4) hm Tryz.func76 br c76 bw (by simp[LV.closed.au,LV.closed,E]) rfl rfl ?_;refine mH λe p u=>?_;unfold l76;dsimp only[jA,jC,qM,qL,qS,qI,qA,qB,qC,qK,qP,qU,qW,qm,ql,qR];by_cases O:6000<r.length
 ·have c:Bx (decide (mL r)=false):=⟨decide_eq_false λh=>by have:=h.1;omega⟩;generalize mL r=P at *;repeat' (first|refine aV @o ?_|(first|apply ah|apply af)<;>intro a)
  all_goals first | (exfalso;omega) | skip
  exact⟨.inr trivial,by rw[c.out];simp only[lk,Nat.reduceEqDiff,if_false,if_true]⟩
 ·have B : IntKind.i64.wrap ((r.length : Int) + 1) = ((r.length + 1 : Nat) : Int) := by rw[wrap_i64 _ om om]; rfl
  have F:r.length<=6000:=by omega
  repeat' (first|refine aV (aj @o @B) ?_|(first|apply ah|apply af)<;>intro a)
  all_goals first | (exfalso;first | omega | exact a.elim) | skip
  refine D1 (n:=r.length+1) wN bJ ef ef om ?_;repeat' (first|refine aV (aj @o @B) ?_|(first|apply ah|apply af)<;>intro a)
  refine aN (λm e s=>∃ k:Nat,m=r.length - k/\k<=r.length/\w9 r k/\s.get 0=some (.cells .mut (cJ (r.length+1) λj=>decide ((j:Int)∈r.take k)))/\e.at 0=rv/\e.at 1 = .int .i64 (r.length:Int)/\e.at 5 = .aE 0 0 (r.length+1) 1/\e.at 23=rv/\e.at 24 = .int .i64 (r.length:Int)/\e.at 25 = .int .i64 (k:Int)) _
   ⟨0,rfl,by omega,by simp[w9],by simp[bJ],ef,ef,ef,ef,ef,by simp only[lk,Nat.reduceEqDiff,if_false,if_true];rfl⟩ ?_
  clear p u;clear e;rintro m e s ⟨k,rfl,Q,d,hs,p,u,G,H,v,I⟩;by_cases J:k<r.length
  ·have K:(k:Int)<(r.length:Int):=by omega
   have L:=@bQ k om;have w:=bB K;have hx:r[k]? = some (r.getD k 0):=by rw[gD,gE J];rfl
   have g:=Bl hx;generalize r.getD k 0=x at *;by_cases y:1<=x/\x<=(r.length:Int)
   ·obtain⟨n,rfl⟩:∃ n:Nat,x=(n:Int):=⟨x.toNat,by omega⟩;have R:(n:Int)<((r.length+1:Nat):Int):=by omega
    have C:n<r.length+1:=by omega
    have l:(cJ (r.length+1) λj=>decide ((j:Int)∈r.take k))[n]? = some (.bool (decide ((n:Int)∈r.take k))):=iA C;have S:Bx (1<=(n:Int)/\(n:Int)<=(r.length:Int)):=⟨y⟩;have T:Bx (s.get 0=some (.cells .mut (cJ (r.length+1) λj=>decide ((j:Int)∈r.take k)))):=⟨hs⟩;have M:Bx (r[k]? = some (n:Int)):=⟨hx⟩;by_cases i:(n:Int)∈r.take k
    ·have c:Bx (decide (mL r)=false):=⟨decide_eq_false (xp (k:=k+1) λh=>(g.1 h).2.2 i)⟩;rw[decide_eq_true i]at l;clear g d i hx;repeat' (first|refine aV (aj (@cU _ _ _ f.sl) (aj @w (aj @eF @l))) ?_|(first|apply ah|apply af)<;>intro a)
     all_goals first | (exfalso;first | omega | exact a.elim) | skip
     exact⟨.inr trivial,by rw[c.out];simp only[lk,Nat.reduceEqDiff,if_false,if_true]⟩
    ·have z:Bx (w9 r (k+1)):=⟨g.2 ⟨d,y,i⟩⟩;rw[decide_eq_false i]at l;clear g d i hx;repeat' (first|refine aV (aj (@cU _ _ _ f.sl) (aj @w (aj @eF @l))) ?_|(first|apply ah|apply af)<;>intro a)
     all_goals first | (exfalso;first | omega | exact a.elim) | skip
     refine lR (q:=n) (b:=true) (f':=λj=>decide ((j:Int)∈r.take (k+1))) ef rfl hs C (λj=>?_) λs' h1 h2 h3=>?_
     ·rw[List.take_add_one,M.out];by_cases D:j=n
      ·subst D;simp
      ·have:¬ ((j:Int)=(n:Int)):=by omega
       simp[D,this]
     repeat' (first|refine aV trivial ?_|(first|apply ah|apply af)<;>intro a)
     refine⟨r.length - (k+1),by omega,k+1,rfl,by omega,z.out,h2,?_⟩;simp only[lk,Nat.reduceEqDiff,if_false,if_true,L,p,u,G,H,v,and_self]
   ·have c:Bx (decide (mL r)=false):=⟨decide_eq_false (xp (k:=k+1) λh=>y (g.1 h).2.1)⟩;clear g d hx;repeat' (first|refine aV (aj (@cU _ _ _ f.sl) @w) ?_|(first|apply ah|apply af)<;>intro a)
    all_goals first | (exfalso;first | omega | exact a.elim) | skip
    all_goals exact⟨.inr trivial,by rw[c.out];simp only[lk,Nat.reduceEqDiff,if_false,if_true]⟩
  ·have c:Bx (decide (mL r)=true):=⟨decide_eq_true ((El F).1 (by rw[show k=r.length by omega]at d;exact d))⟩;clear d;repeat' (first|refine aV trivial ?_|(first|apply ah|apply af)<;>intro a)
   all_goals first | (exfalso;first | omega | exact a.elim) | skip
   exact⟨.inr trivial,by rw[c.out];simp only[lk,Nat.reduceEqDiff,if_false,if_true]⟩
def lN (n:Nat):List Int:=(List.range n).map λi=>((i+1:Nat):Int)
theorem g8 (n:Nat):(lN n).length=n:=by simp[lN]
theorem Cw {n:Nat}(h:n<=6000):mL (lN n):=by
 refine⟨by rw[g8];exact h,λx hx=>?_,?_⟩
 ·obtain⟨i,a,rfl⟩:=List.mem_map.1 hx;have:=List.mem_range.1 a;rw[g8];omega
 ·unfold lN;rw[List.nodup_iff_pairwise_ne,List.pairwise_map];refine (List.nodup_iff_pairwise_ne.1 List.nodup_range).imp λdB b=>dB om
theorem Ek {n:Nat}(r:n<=6000):PE 22 [.int .i64 (n:Int)] (λv=>aP v (lN n)):=by
 have u:=lG;refine HF (t:=2) hm Tryz.func22 br c22 bw rfl rfl ?_;refine pg λe o=>?_;unfold l22;dsimp only[jA,jC,jG,qM,qS,qI,qA,qB,qC,qP,qU,qW,qX,qm,qR];repeat' (first|refine aV trivial ?_|(first|apply ah|apply af)<;>intro a)
 all_goals first | (exfalso;first | omega | exact a.elim) | skip
 refine Og (n:=n) wN bJ ef ef om ?_;repeat' (first|refine aV trivial ?_|(first|apply ah|apply af)<;>intro a)
 refine aN (λm e s=>∃ k:Nat,m=n - k/\k<=n/\s.get 0=some (.cells .mut (gG n λj=>if j<k then j+1 else 0))/\e.at 3 = .aE 0 0 n 1/\e.at 14 = .int .i64 (n:Int)/\e.at 15 = .int .i64 (k:Int)) _
  ⟨0,rfl,by omega,by simp[bJ],ef,ef,by simp only[lk,Nat.reduceEqDiff,if_false,if_true];rfl⟩ ?_
 clear o;clear e;rintro m e s ⟨k,rfl,w,hs,p,c,z⟩;by_cases d:k<n
 ·have A:(k:Int)<(n:Int):=by omega
  have l:=@bQ k om;repeat' (first|refine aV (aj @eF @l) ?_|(first|apply ah|apply af)<;>intro a)
  all_goals first | (exfalso;first | omega | exact a.elim) | skip
  refine OZ (v:=k) (y:=k+1) (f':=λj=>if j<k+1 then j+1 else 0) ef ef hs d (λj=>?_) λs' h1 h2 h3=>?_
  ·by_cases f:j=k
   ·subst f;simp
   ·by_cases b:j<k
    ·simp[f,b,show j<k+1 by omega]
    ·simp[f,b,show ¬ j<k+1 by omega]
  repeat' (first|refine aV trivial ?_|(first|apply ah|apply af)<;>intro a)
  refine⟨n - (k+1),by omega,k+1,rfl,by omega,h2,?_⟩;simp only[lk,Nat.reduceEqDiff,if_false,if_true,l,p,c,and_self]
 ·have q:k=n:=by omega
  subst q;repeat' (first|refine aV trivial ?_|(first|apply ah|apply af)<;>intro a)
  all_goals first | (exfalso;first | omega | exact a.elim) | skip
  have g:gG k (λj=>if j<k then j+1 else 0)=ints (lN k):=by
   rw[F3];unfold lN;congr 1;refine List.map_congr_left λi h=>?_;rw[if_pos (List.mem_range.1 h)]
  rw[g]at hs;refine⟨.inr trivial, .aF (ints (lN k)) k,_,by simp only[lk,Nat.reduceEqDiff,if_false,if_true];exact FU hs (by rw[wh,g8]) (bI _),?_,?_,?_,?_⟩
  ·simp[LV.closed,bI]
  ·rw[g8];exact .aF _ _
  ·rw[g8];omega
  ·intro x hx;obtain⟨i,h,rfl⟩:=List.mem_map.1 hx;have:=List.mem_range.1 h;unfold bU;constructor<;>omega
def MK (E:List (Int × LV)) (f:Int->Int):Prop:=∀ k,(eE E k).getD (.int .i64 0) = .int .i64 (f k)
theorem MK.nil:MK [] λ_=>0:=λk=>rfl
def Kh (L:List Int) (n:Nat) (m:Int) (f:Int->Int) (k:Int):Int:=if k∈L/\1<=k/\k<=(n:Int) then m else f k
theorem Kj {lv:LV}{L:List Int}(l:aP lv L) {n:Nat}{mv:Int}{jm M:Nat}{md:Md}{s:St}{E:List (Int × LV)}{f:Int->Int}(w:s.get jm=some (.cells md [.aR M])) (h:s.get M=some (.map (mG di E))) (c:MK E f) (u:jm≠M) :
 aM Tryz.prog GL (.fn (.func 99) [] [.aY [.int .i64 (n:Int)] 0, .aO jm 0]) [lv, .int .i64 mv] s (λ_ s'=>s'.n=s.n/\(∃ d,s'.get M=some (.map (mG di d))/\MK d (Kh L n mv f))/\∀ id,id≠M->s'.get id=s.get id):=by
 have I:=l.sl.len;have y:=l.len;have P:=lG;refine bM (first:=[]) (caps:=[.aY [.int .i64 (n:Int)] 0, .aO jm 0]) Tryz.func99 br c99 bw (aX.mono (Q:=λo e s'=>(o = .normal∨o = .jmp .ret)/\s'.n=s.n/\(∃ d,s'.get M=some (.map (mG di d))/\MK d (Kh L n mv f))/\∀ id,id≠M->s'.get id=s.get id) ?_ λo e s' z=>by
  exact⟨z.1, .cE [],by simp[l99,aW],z.2⟩)
 refine Cd.out (ev4 λe J p q r=>?_);unfold l99;dsimp only[jA,jD,qM,qL,qS,qI,qA,qB,qC,qV,qm,ql,qR];repeat' (first|refine aV @I ?_|(first|apply ah|apply af)<;>intro g)
 refine aN (λm e s1=>∃ k:Nat,m=L.length - k/\k<=L.length/\(s1.n=s.n/\(∃ d,s1.get M=some (.map (mG di d))/\MK d (Kh (L.take k) n mv f))/\∀ id,id≠M->s1.get id=s.get id)/\e.at 1 = .int .i64 mv/\e.at 2 = .aY [.int .i64 (n:Int)] 0/\e.at 3 = .aO jm 0/\e.at 8=lv/\e.at 9 = .int .i64 (L.length:Int)/\e.at 10 = .int .i64 (k:Int)) _
  ⟨0, rfl, by omega, ⟨rfl, ⟨E, h, by have : Kh (L.take 0) n mv f = f := by funext k; simp[Kh]
                                     rw[this];exact c⟩,λ_ _=>rfl⟩,ef,ef,ef,ef,ef,by simp only[lk,Nat.reduceEqDiff,if_false,if_true];rfl⟩ ?_
 clear J p q r h c E;clear e;rintro m e s1 ⟨k,rfl,R,⟨t,⟨E,h,c⟩,a⟩,p,q,r,A,B,S⟩;by_cases K:k<L.length
 ·have N:(k:Int)<(L.length:Int):=by omega
  have C:=@bQ k om;have D:=bB N;have T:s1.get jm=some (.cells md [.aR M]):=by rw[a _ u];exact w
  have F:L.take (k+1)=L.take k++[L.getD k 0]:=by rw[List.take_add_one,gD,gE K];rfl
  generalize L.getD k 0=x at *;have b:Bx (s1.n=s.n/\(∀ id,id≠M->s1.get id=s.get id)/\MK E (Kh (L.take k) n mv f)):=⟨t,a,c⟩;have G:Bx (L.take (k+1)=L.take k++[x]):=⟨F⟩;clear F t a c w;by_cases hx:1<=x/\x<=(n:Int)
  ·have v:=Bx.mk hx;repeat' (first|refine aV (aj (@cU _ _ _ l.sl) @D) ?_|(first|apply ah|apply af)<;>intro g)
   all_goals first | (exfalso;first | omega | exact g.elim) | skip
   refine CA Qc (M:=M) (k:=x) (vv:=.int .i64 mv) (L:=E) ef ef ef h ?_;repeat' (first|refine aV trivial ?_|(first|apply ah|apply af)<;>intro g)
   refine⟨L.length - (k+1),by omega,k+1,rfl,by omega,⟨b.out.1,⟨vO E x (.int .i64 mv),by rw[St.az,if_pos rfl],λj=>?_⟩,λid H=>by rw[St.az,if_neg H];exact b.out.2.1 id H⟩,?_⟩
   ·rw[Un,G.out];by_cases i:j=x
    ·subst i;simp[Kh,v.out]
    ·rw[if_neg i,b.out.2.2 j];simp[Kh,i]
   ·simp only[lk,Nat.reduceEqDiff,if_false,if_true,C,p,q,r,A,B,and_self]
  ·have v:=Bx.mk hx;repeat' (first|refine aV (aj (@cU _ _ _ l.sl) @D) ?_|(first|apply ah|apply af)<;>intro g)
   all_goals first | (exfalso;first | omega | exact g.elim) | skip
   all_goals
    refine⟨L.length - (k+1),by omega,k+1,rfl,by omega,⟨b.out.1,⟨E,h,λj=>?_⟩,b.out.2.1⟩,?_⟩
    ·rw[b.out.2.2 j,G.out];by_cases i:j=x
     ·subst i;simp[Kh,v.out]
     ·simp[Kh,i]
    ·simp only[lk,Nat.reduceEqDiff,if_false,if_true,C,p,q,r,A,B,and_self]
 ·have O:k=L.length:=by omega
  subst O;rw[List.take_length]at c;have b:=Bx.mk (And.intro t (And.intro a c));clear t a c;repeat' (first|refine aV trivial ?_|(first|apply ah|apply af)<;>intro g)
  all_goals first | (exfalso;first | omega | exact g.elim) | skip
  exact⟨.inl trivial,b.out.1,⟨E,h,b.out.2.2⟩,b.out.2.1⟩
def marks (bO bad:List Int) (n:Nat):Int->Int:=Kh bad n 2 (Kh bO n 1 λ_=>0)
theorem PI {b c:LV}{bO bad:List Int}(d:aP b bO) (g:aP c bad) {n:Nat}{s:St} :
 aM Tryz.prog GL (.fn (.func 77) [] []) [.agg [b,c], .int .i64 (n:Int)] s (λr s'=>∃ M E,r = .aR M/\s.n<=s'.n/\s.n<=M/\M<s'.n/\s'.get M=some (.map (mG di E))/\MK E (marks bO bad n)/\∀ id,id<s.n->s'.get id=s.get id):=by
 have A:=d.closed;have B:=g.closed;have C:=d.sl.cell;have D:=g.sl.cell;refine bM (first:=[]) (caps:=[]) Tryz.func77 br c77 bw (aX.mono (Q:=λo e s'=>(o = .normal∨o = .jmp .ret)/\∃ M E,e.at 4 = .aR M/\s.n<=s'.n/\s.n<=M/\M<s'.n/\s'.get M=some (.map (mG di E))/\MK E (marks bO bad n)/\∀ id,id<s.n->s'.get id=s.get id) ?_ λo e s' a=>by
  obtain⟨h1,M,E,h2,h3⟩:=a;exact⟨h1,_,by simp[l77,aW,bD,h2],M,E,rfl,h3⟩)
 refine Cd.out (mH λe F G=>?_);unfold l77;dsimp only[jA,jG,qF,qO,qm,ql,qR];repeat' (first|refine aV trivial ?_|(first|apply ah|apply af)<;>intro h)
 refine jM wN rfl ?_;repeat' (first|refine aV trivial ?_|(first|apply ah|apply af)<;>intro h)
 refine bK wN (fv:=.fn (.func 99) [] [.aY [.int .i64 (n:Int)] 0, .aO (s.n+1) 0]) (vs:=[b, .int .i64 1]) ef ef (aM.mono (Kj d (n:=n) (md:=.mut) (jm:=s.n+1) (M:=s.n) (E:=[]) (f:=λ_=>0) (by rw[St.az,if_pos rfl]) (by rw[St.az,if_neg om,St.aA,if_neg (by simp),St.aA,if_pos rfl];rfl) MK.nil om) λr s2 a=>⟨trivial,?_⟩);obtain⟨n2,⟨q,g2,t⟩,i⟩:=a;have u:s2.n=s.n+2:=by rw[n2];simp
 have j:s2.get (s.n+1)=some (.cells .mut [.aR s.n]):=by rw[i _ om,St.az,if_pos rfl]
 have m:∀ id,id<s.n->s2.get id=s.get id:=λid p=>by rw[i _ om,St.az,if_neg om,St.aA,if_neg (by simp;omega),St.aA,if_neg om]
 simp only[Env.aB];clear n2 i;repeat' (first|refine aV trivial ?_|(first|apply ah|apply af)<;>intro h)
 refine bK wN (fv:=.fn (.func 99) [] [.aY [.int .i64 (n:Int)] 0, .aO (s.n+1) 0]) (vs:=[c, .int .i64 2]) ef ef (aM.mono (Kj g (n:=n) (md:=.mut) (jm:=s.n+1) (M:=s.n) (E:=q) j g2 t om) λr k a=>⟨trivial,?_⟩);obtain⟨n3,⟨v,w,x⟩,l⟩:=a;have H:k.n=s.n+2:=by omega
 have y:k.get (s.n+1)=some (.cells .mut [.aR s.n]):=by rw[l _ om];exact j
 have z:∀ id,id<s.n->k.get id=s.get id:=λid p=>by rw[l _ om];exact m id p
 simp only[Env.aB];clear n3 l j g2 m u;repeat' (first|refine aV trivial ?_|(first|apply ah|apply af)<;>intro h)
 exact⟨.inr trivial,s.n,v,ef,by omega,by omega,by omega,w,x,z⟩
theorem Jd {jm M:Nat}{md:Md}{s:St}{E:List (Int × LV)}{f:Int->Int}(h:s.get jm=some (.cells md [.aR M])) (b:s.get M=some (.map (mG di E))) (c:MK E f) (x:Int) :
 aM Tryz.prog GL (.fn (.func 78) [] [.aO jm 0]) [.int .i64 x] s (λr s'=>s'=s/\r = .bool (decide (f x=2))):=by
 refine bM (first:=[]) (caps:=[.aO jm 0]) Tryz.func78 br c78 bw (aX.mono (Q:=λo e s'=>(o = .normal∨o = .jmp .ret)/\s'=s/\e.at 3 = .bool (decide (f x=2))) ?_ λo e s' d=>by
  obtain⟨h1,h2,h3⟩:=d;exact⟨h1,_,by simp[l78,aW,bD,h3],h2,rfl⟩)
 refine Cd.out (mH λe i j=>?_);unfold l78;dsimp only[jA,qK,qH,qm,ql,qR];have g:=c x;generalize f x=y at *;repeat' (first|refine aV trivial ?_|(first|apply ah|apply af)<;>intro a)
 refine yg Qc (M:=M) (k:=x) (L:=E) wN ef ef b ?_;rw[g];repeat' (first|refine aV trivial ?_|(first|apply ah|apply af)<;>intro a)
 ·exact⟨.inr trivial,trivial,by rw[decide_eq_false a];simp only[lk,Nat.reduceEqDiff,if_false,if_true]⟩
 ·exact⟨.inr trivial,trivial,by rw[decide_eq_true a];simp only[lk,Nat.reduceEqDiff,if_false,if_true]⟩
theorem VC {jm M:Nat}{md:Md}{s:St}{E:List (Int × LV)}{f:Int->Int}(h:s.get jm=some (.cells md [.aR M])) (b:s.get M=some (.map (mG di E))) (c:MK E f) (x:Int) :
 aM Tryz.prog GL (.fn (.func 79) [] [.aO jm 0]) [.int .i64 x] s (λr s'=>s'=s/\r = .bool (decide (f x=1))):=by
 refine bM (first:=[]) (caps:=[.aO jm 0]) Tryz.func79 br c79 bw (aX.mono (Q:=λo e s'=>(o = .normal∨o = .jmp .ret)/\s'=s/\e.at 3 = .bool (decide (f x=1))) ?_ λo e s' d=>by
  obtain⟨h1,h2,h3⟩:=d;exact⟨h1,_,by simp[l79,aW,bD,h3],h2,rfl⟩)
 refine Cd.out (mH λe i j=>?_);unfold l79;dsimp only[jA,qK,qH,qm,ql,qR];have g:=c x;generalize f x=y at *;repeat' (first|refine aV trivial ?_|(first|apply ah|apply af)<;>intro a)
 refine yg Qc (M:=M) (k:=x) (L:=E) wN ef ef b ?_;rw[g];repeat' (first|refine aV trivial ?_|(first|apply ah|apply af)<;>intro a)
 ·exact⟨.inr trivial,trivial,by rw[decide_eq_false a];simp only[lk,Nat.reduceEqDiff,if_false,if_true]⟩
 ·exact⟨.inr trivial,trivial,by rw[decide_eq_true a];simp only[lk,Nat.reduceEqDiff,if_false,if_true]⟩
theorem Pd {rv fv:LV}{r:List Int}(u:aP rv r) (hl:r.length<=1000000) {s:St}{p:Int->Bool}(B:∀ x,aM Tryz.prog GL fv [.int .i64 x] s (λb s'=>s'=s/\b = .bool (p x))) :
 aM Tryz.prog GL (.fn (.func 80) [] []) [rv,fv] s (λv s'=>s'=s/\v = .int .i64 (r.findIdx p:Int)):=by
 have w:=u.sl.len;have I:=lG;refine bM (first:=[]) (caps:=[]) Tryz.func80 br c80 bw (aX.mono (Q:=λo e s'=>(o = .normal∨o = .jmp .ret)/\s'=s/\e.at 4 = .int .i64 (r.findIdx p:Int)) ?_ λo e s' g=>by
  obtain⟨h1,h2,h3⟩:=g;exact⟨h1,_,by simp[l80,aW,bD,h3],h2,rfl⟩)
 refine Cd.out (mH λe h i=>?_);unfold l80;dsimp only[jA,qS,qI,qA,qB,qC,qm,ql,qR];repeat' (first|refine aV @w ?_|(first|apply ah|apply af)<;>intro c)
 refine aN (λm e s1=>∃ k:Nat,m=r.length - k/\k<=r.length/\s1=s/\(∀ j x,j<k->r[j]? = some x->p x=false)/\e.at 0=rv/\e.at 1=fv/\e.at 7=rv/\e.at 8 = .int .i64 (r.length:Int)/\e.at 9 = .int .i64 (k:Int)) _
  ⟨0,rfl,by omega,rfl,λj x a=>absurd a (Nat.not_lt_zero _),ef,ef,ef,ef,by simp only[lk,Nat.reduceEqDiff,if_false,if_true];rfl⟩ ?_
 clear h i;clear e;rintro m e s1 ⟨k,rfl,J,K,d,h,i,C,D,L⟩;subst s1;by_cases l:k<r.length
 ·have E:(k:Int)<(r.length:Int):=by omega
  have F:=@bQ k om;have G:=bB E;have hx:r[k]? = some (r.getD k 0):=by rw[gD,gE l];rfl
  generalize r.getD k 0=x at *;have y:=Bx.mk d;have A:=Bx.mk hx;clear d hx;repeat' (first|refine aV (aj (@cU _ _ _ u.sl) @G) ?_|(first|apply ah|apply af)<;>intro c)
  all_goals first | (exfalso;first | omega | exact c.elim) | skip
  refine bK wN (fv:=fv) (vs:=[.int .i64 x]) ef ef (aM.mono (B x) λb s2 g=>⟨trivial,?_⟩);obtain⟨h2,rfl⟩:=g;subst s2;simp only[Env.aB];cases f:p x with
  | true=>
    have n:Bx (r.findIdx p=k):=⟨by
     have h1:r[k]=x:=by have:=A.out;rw[gE l]at this;exact Option.some.inj this
     rw[List.findIdx_eq l];exact⟨by rw[h1];exact f,λj a=>y.out j _ a (gE _)⟩⟩
    clear f;repeat' (first|refine aV trivial ?_|(first|apply ah|apply af)<;>intro c)
    exact⟨.inr trivial,trivial,by rw[n.out];simp only[lk,Nat.reduceEqDiff,if_false,if_true]⟩
  | false=>
    have H:=Bx.mk f;clear f;repeat' (first|refine aV trivial ?_|(first|apply ah|apply af)<;>intro c)
    refine⟨r.length - (k+1),by omega,k+1,rfl,by omega,trivial,λj z a q=>?_,?_⟩
    ·by_cases t:j=k
     ·subst t;rw[A.out]at q;rw[<- Option.some.inj q];exact H.out
     ·exact y.out j z om q
    ·simp only[lk,Nat.reduceEqDiff,if_false,if_true,F,h,i,C,D,and_self]
 ·have n:Bx (r.findIdx p=r.length):=⟨List.findIdx_eq_length.2 λx hx=>by
   obtain⟨j,a⟩:=List.mem_iff_getElem?.1 hx;exact d j x (by have:=(List.getElem?_eq_some_iff.1 a).1;omega) a⟩
  clear d;repeat' (first|refine aV @w ?_|(first|apply ah|apply af)<;>intro c)
  all_goals first | (exfalso;first | omega | exact c.elim) | skip
  exact⟨.inr trivial,trivial,by rw[n.out];simp only[lk,Nat.reduceEqDiff,if_false,if_true]⟩
theorem uJ {s:St}{j len:Nat}{cs:List LV}{v:LV}(h:s.get j=some (.cells .mut cs)) (hl:cs.length=len) (a:LV.closed.au cs=true) (b:v.closed=true):cY bp (.cE [.aE j 0 len 1,v]) s=some (.cE [.aF cs len,v],s.put j (.cells .app cs)):=by
 have h1:=gQ 37 h hl a;have h2:cY 39 v (s.put j (.cells .app cs))=some (v,_):=jw b;show cY (39+1) _ s=_;unfold cY;simp[LV.closed,LV.closed.au,cY.cM,h1,h2]
def tj (f:Int->Int) (r:List Int):List Int:=r.filter (λx=>!decide (f x=2))++r.filter (λx=>decide (f x=2))
def nJ (f:Int->Int) (r:List Int):Nat:=if r.findIdx (λx=>decide (f x=1))<r.findIdx (λx=>decide (f x=2)) then 2*r.findIdx (λx=>decide (f x=1))+2 else if r.findIdx (λx=>decide (f x=2))<r.findIdx (λx=>decide (f x=1)) then 2*r.findIdx (λx=>decide (f x=2))+1 else 2*r.length+1
theorem lE (f:Int->Int) (r:List Int):(tj f r).Perm r:=by
 unfold tj;refine List.Perm.trans List.perm_append_comm ?_;have:=List.filter_append_perm (λx=>decide (f x=2)) r;exact this
theorem Cx {f:Int->Int}{r:List Int}(h:mL r):mL (tj f r):=by
 have a:=lE f r;exact⟨by rw[a.length_eq];exact h.1,λx hx=>by rw[a.length_eq];exact h.2.1 x (a.mem_iff.1 hx),a.nodup_iff.2 h.2.2⟩
theorem Bk (f:Int->Int) (r:List Int):1<=nJ f r/\nJ f r<=2*r.length+1:=by
 have h1:=List.findIdx_le_length (xs:=r) (p:=λx=>decide (f x=1));have h2:=List.findIdx_le_length (xs:=r) (p:=λx=>decide (f x=2));unfold nJ;split
 ·omega
 ·split<;>omega
theorem Hy {rv gv bv:LV}{r bO bad:List Int}(o:aP rv r) (K:mL r) (hg:aP gv bO) (hb:aP bv bad) :
 PE 53 [rv, .agg [gv,bv]] (λv=>∃ Q,v = .cE [Q, .int .i64 (nJ (marks bO bad r.length) r:Int)]/\aP Q (tj (marks bO bad r.length) r)):=by
 have qu:=o.closed;have L:=o.sl.len;have SP:=hg.closed;have Rn:=hb.closed;have lI:=hg.sl.cell;have fy:=hb.sl.cell;have BS:=K.1;have je:=lG;have hvalid:=Ej o;rw[decide_eq_true K]at hvalid;have gq:=λs=>PI hg hb (n:=r.length) (s:=s);generalize marks bO bad r.length=f at *;refine dS Tryz.func53 br c53 bw (by simp[LV.closed.au,LV.closed,qu,SP,Rn]) ?_;refine mH λe q e1=>?_;unfold l53;dsimp only[jA,jG,qN,qS,qI,qA,qB,qC,qO,qJ,qT,qX,qm,ql,qR];repeat' (first|refine aV @L ?_|(first|apply ah|apply af)<;>intro a)
 refine dx hvalid ?_;clear hvalid;repeat' (first|refine aV @L ?_|(first|apply ah|apply af)<;>intro a)
 refine bK wN (fv:=.fn (.func 77) [] []) (vs:=[.agg [gv,bv], .int .i64 (r.length:Int)]) ef ef (aM.mono (gq _) λv s2 g=>⟨trivial,?_⟩);obtain⟨M,E,rfl,-,-,hM,d,kM,-⟩:=g;simp only[Env.aB];repeat' (first|refine aV trivial ?_|(first|apply ah|apply af)<;>intro a)
 refine iw (v:=.aE (s2.n+1) 0 0 1) (s':=((s2.new (.cells .mut [.cm])).put s2.n (.cells .mut [.aR M])).new (.cells .mut [])) (by
  have h1:(r.length:Int)*8<=big:=by unfold big;omega
  have h2:(r.length:Int)<=big:=by unfold big;omega
  simp only[bq.run,lk,dM,rH,Nat.reduceEqDiff,if_false,if_true,List.map];rw[if_pos ⟨Int.le_refl _,by omega,h1,h2,trivial⟩];rfl) ?_
 have n4:(((s2.new (.cells .mut [.cm])).put s2.n (.cells .mut [.aR M])).new (.cells .mut [])).n=s2.n+2:=rfl;have g4:(((s2.new (.cells .mut [.cm])).put s2.n (.cells .mut [.aR M])).new (.cells .mut [])).get s2.n=some (.cells .mut [.aR M]):=by rw[St.aA,if_neg (by simp),St.az,if_pos rfl]
 have m4:(((s2.new (.cells .mut [.cm])).put s2.n (.cells .mut [.aR M])).new (.cells .mut [])).get M=some (.map (mG di E)):=by rw[St.aA,if_neg (by simp;omega),St.az,if_neg om,St.aA,if_neg om];exact d
 have a4:(((s2.new (.cells .mut [.cm])).put s2.n (.cells .mut [.aR M])).new (.cells .mut [])).get (s2.n+1)=some (.cells .mut (ints [])):=by rw[St.aA,if_pos (by simp)];rfl
 generalize ((s2.new (.cells .mut [.cm])).put s2.n (.cells .mut [.aR M])).new (.cells .mut [])=s4 at *;have hjM:M<s2.n:=hM;generalize s2.n=c at *;clear d gq;clear s2;repeat' (first|refine aV @L ?_|(first|apply ah|apply af)<;>intro a)
 refine aN (λm e s=>∃ (k:Nat) (j:Nat),m=r.length - k/\k<=r.length/\s.get c=some (.cells .mut [.aR M])/\s.get M=some (.map (mG di E))/\c<j/\j<s.n/\s.get j=some (.cells .mut (ints ((r.take k).filter λx=>!decide (f x=2))))/\e.at 0=rv/\e.at 6 = .int .i64 (r.length:Int)/\e.at 8 = .fn (.func 78) [] [.aO c 0]/\e.at 9 = .fn (.func 79) [] [.aO c 0]/\e.at 10 = .aE j 0 ((r.take k).filter λx=>!decide (f x=2)).length 1/\e.at 30=rv/\e.at 31 = .int .i64 (r.length:Int)/\e.at 32 = .int .i64 (k:Int)) _
  ⟨0,c+1,rfl,by omega,g4,m4,by omega,by omega,by simpa using a4,ef,ef,by simp only[List.map,lk,dM,Nat.reduceEqDiff,if_false,if_true,List.map],by simp only[List.map,lk,dM,Nat.reduceEqDiff,if_false,if_true,List.map],by simp only[lk,dM,rH,Nat.reduceEqDiff,if_false,if_true,List.map];simp,ef,ef,by simp only[lk,dM,Nat.reduceEqDiff,if_false,if_true,List.map];rfl⟩ ?_
 clear q e1 g4 m4 a4 n4;clear e s4;rintro m e s ⟨k,j,rfl,hk,gj,d,R,y,i,q,N,O,P,z,B,C,NW⟩;by_cases cG:k<r.length
 ·have iN:(k:Int)<(r.length:Int):=by omega
  have S:=@bQ k om;have T:=bB iN;have U:r.take (k+1)=r.take k++[r.getD k 0]:=by rw[List.take_add_one,gD,gE cG];rfl
  have sK:=List.length_filter_le (λx=>!decide (f x=2)) (r.take k);rw[List.length_take]at sK;generalize r.getD k 0=x at *;have V:=Bx.mk U;clear U;have h:=Jd gj d kM x;by_cases hx:f x=2
  ·rw[decide_eq_true hx]at h;have l:Bx ((r.take (k+1)).filter (λx=>!decide (f x=2))=(r.take k).filter (λx=>!decide (f x=2))):=⟨by rw[V.out,List.filter_append];simp[hx]⟩;clear hx;repeat' (first|refine aV (aj (@cU _ _ _ o.sl) @T) ?_|(first|apply ah|apply af)<;>intro a)
   all_goals first | (exfalso;first | omega | exact a.elim) | skip
   refine bK wN (fv:=.fn (.func 78) [] [.aO c 0]) (vs:=[.int .i64 x]) ef ef (aM.mono h λb s2 g=>⟨trivial,?_⟩);obtain⟨h2,rfl⟩:=g;subst s2;simp only[Env.aB];clear h;repeat' (first|refine aV trivial ?_|(first|apply ah|apply af)<;>intro a)
   refine⟨r.length - (k+1),by omega,k+1,j,rfl,by omega,gj,d,R,y,by rw[l.out];exact i,?_⟩;rw[l.out];simp only[lk,dM,Nat.reduceEqDiff,if_false,if_true,S,q,N,O,P,z,B,C,and_self]
  ·rw[decide_eq_false hx]at h;have l:Bx ((r.take (k+1)).filter (λx=>!decide (f x=2))=(r.take k).filter (λx=>!decide (f x=2))++[x]):=⟨by rw[V.out,List.filter_append];simp[hx]⟩;clear hx;repeat' (first|refine aV (aj (@cU _ _ _ o.sl) @T) ?_|(first|apply ah|apply af)<;>intro a)
   all_goals first | (exfalso;first | omega | exact a.elim) | skip
   refine bK wN (fv:=.fn (.func 78) [] [.aO c 0]) (vs:=[.int .i64 x]) ef ef (aM.mono h λb s2 g=>⟨trivial,?_⟩);obtain⟨h2,rfl⟩:=g;subst s2;simp only[Env.aB];clear h;generalize hLL:(r.take k).filter (λx=>!decide (f x=2))=D at *;repeat' (first|refine aV trivial ?_|(first|apply ah|apply af)<;>intro a)
   refine qb (n:=D.length) (aZ:=1) (xv:=.int .i64 x) (yv:=.aE j 0 D.length 1) (vs:=[.int .i64 x]) (cells:=ints D) ef rfl rfl rfl (kQ.closed rfl) ef ⟨by simp, .inr ⟨j,[],rfl,y,by rw[List.append_nil];exact i⟩⟩ (by decide) om (λX j3 a1 a2 a3 a4 a5 a6=>?_);have F:X.get c=some (.cells .mut [.aR M]):=by rw[a6 c om λG=>by have:=aI.1 G;omega];exact gj
   have H:X.get M=some (.map (mG di E)):=by rw[a6 M om λG=>by have:=aI.1 G;omega];exact d
   clear a4;repeat' (first|refine aV trivial ?_|(first|apply ah|apply af)<;>intro a)
   refine⟨r.length - (k+1),by omega,k+1,j3,rfl,by omega,F,H,by omega,a2,by rw[l.out,a3];simp[ints],?_⟩;rw[l.out];simp only[lk,dM,rH,Nat.reduceEqDiff,if_false,if_true,S,q,N,O,P,B,C,List.length_append,and_self]
 ·have rO:k=r.length:=by omega
  subst rO;rw[List.take_length]at i z;repeat' (first|refine aV @L ?_|(first|apply ah|apply af)<;>intro a)
  all_goals first | (exfalso;first | omega | exact a.elim) | skip
  have hAl:=List.length_filter_le (λx=>!decide (f x=2)) r;have Y:tj f r=(r.filter λx=>!decide (f x=2))++r.filter (λx=>decide (f x=2)):=rfl;have Z:=Cx (f:=f) K;have Rw:=(lE f r).length_eq;generalize (r.filter λx=>!decide (f x=2))=A at *;have NS:=Bx.mk Y;have xJ:=Bx.mk (And.intro Z Rw);clear Z Rw Y;refine aN (λm e s=>∃ (k:Nat) (j:Nat),m=r.length - k/\k<=r.length/\s.get c=some (.cells .mut [.aR M])/\s.get M=some (.map (mG di E))/\c<j/\j<s.n/\s.get j=some (.cells .mut (ints (A++(r.take k).filter λx=>decide (f x=2))))/\e.at 0=rv/\e.at 6 = .int .i64 (r.length:Int)/\e.at 8 = .fn (.func 78) [] [.aO c 0]/\e.at 9 = .fn (.func 79) [] [.aO c 0]/\e.at 10 = .aE j 0 (A++(r.take k).filter λx=>decide (f x=2)).length 1/\e.at 45=rv/\e.at 46 = .int .i64 (r.length:Int)/\e.at 47 = .int .i64 (k:Int)) _
   ⟨0,j,rfl,by omega,gj,d,R,y,by simpa using i,ef,ef,ef,ef,by simp only[lk,rH,Nat.reduceEqDiff,if_false,z];simp,ef,ef,by simp only[lk,Nat.reduceEqDiff,if_false,if_true];rfl⟩ ?_
  clear q N O P z B C NW i gj d R y cG hk a;clear e s j;rintro m e s ⟨k,j,rfl,hk,gj,d,R,y,i,q,N,O,P,z,e45,e46,e47⟩;by_cases cG:k<r.length
  ·have iN:(k:Int)<(r.length:Int):=by omega
   have S:=@bQ k om;have T:=bB iN;have U:r.take (k+1)=r.take k++[r.getD k 0]:=by rw[List.take_add_one,gD,gE cG];rfl
   have sK:=List.length_filter_le (λx=>decide (f x=2)) (r.take k);rw[List.length_take]at sK;generalize r.getD k 0=x at *;have V:=Bx.mk U;clear U;have h:=Jd gj d kM x;by_cases hx:f x=2
   ·rw[decide_eq_true hx]at h;have l:Bx ((A++(r.take (k+1)).filter (λx=>decide (f x=2)))=(A++(r.take k).filter (λx=>decide (f x=2)))++[x]):=⟨by rw[V.out,List.filter_append];simp[hx]⟩;clear hx;repeat' (first|refine aV (aj (@cU _ _ _ o.sl) @T) ?_|(first|apply ah|apply af)<;>intro a)
    all_goals first | (exfalso;first | omega | exact a.elim) | skip
    refine bK wN (fv:=.fn (.func 78) [] [.aO c 0]) (vs:=[.int .i64 x]) ef ef (aM.mono h λb s2 g=>⟨trivial,?_⟩);obtain⟨h2,rfl⟩:=g;subst s2;simp only[Env.aB];clear h;have hLl:(A++(r.take k).filter (λx=>decide (f x=2))).length<=12000:=by rw[List.length_append];omega
    generalize (A++(r.take k).filter (λx=>decide (f x=2)))=D at *;repeat' (first|refine aV trivial ?_|(first|apply ah|apply af)<;>intro a)
    refine qb (n:=D.length) (aZ:=1) (xv:=.int .i64 x) (yv:=.aE j 0 D.length 1) (vs:=[.int .i64 x]) (cells:=ints D) ef rfl rfl rfl (kQ.closed rfl) ef ⟨by simp, .inr ⟨j,[],rfl,y,by rw[List.append_nil];exact i⟩⟩ (by decide) om (λX j3 a1 a2 a3 a4 a5 a6=>?_);have F:X.get c=some (.cells .mut [.aR M]):=by rw[a6 c om λG=>by have:=aI.1 G;omega];exact gj
    have H:X.get M=some (.map (mG di E)):=by rw[a6 M om λG=>by have:=aI.1 G;omega];exact d
    clear a4;repeat' (first|refine aV trivial ?_|(first|apply ah|apply af)<;>intro a)
    refine⟨r.length - (k+1),by omega,k+1,j3,rfl,by omega,F,H,by omega,a2,by rw[l.out,a3];simp[ints],?_⟩;rw[l.out];simp only[lk,dM,rH,Nat.reduceEqDiff,if_false,if_true,S,q,N,O,P,e45,e46,List.length_append,and_self]
   ·rw[decide_eq_false hx]at h;have l:Bx ((A++(r.take (k+1)).filter (λx=>decide (f x=2)))=(A++(r.take k).filter (λx=>decide (f x=2)))):=⟨by rw[V.out,List.filter_append];simp[hx]⟩;clear hx;repeat' (first|refine aV (aj (@cU _ _ _ o.sl) @T) ?_|(first|apply ah|apply af)<;>intro a)
    all_goals first | (exfalso;first | omega | exact a.elim) | skip
    refine bK wN (fv:=.fn (.func 78) [] [.aO c 0]) (vs:=[.int .i64 x]) ef ef (aM.mono h λb s2 g=>⟨trivial,?_⟩);obtain⟨h2,rfl⟩:=g;subst s2;simp only[Env.aB];clear h;repeat' (first|refine aV trivial ?_|(first|apply ah|apply af)<;>intro a)
    refine⟨r.length - (k+1),by omega,k+1,j,rfl,by omega,gj,d,R,y,by rw[l.out];exact i,?_⟩;rw[l.out];simp only[lk,Nat.reduceEqDiff,if_false,if_true,S,q,N,O,P,z,e45,e46,and_self]
  ·have rO:k=r.length:=by omega
   subst rO;rw[List.take_length,<- NS.out]at i z;have BP:=Pd o om (s:=s) λx=>Jd gj d kM x;have Zd:=Pd o om (s:=s) λx=>VC gj d kM x;have fy:=List.findIdx_le_length (xs:=r) (p:=λx=>decide (f x=1));have lJ:=List.findIdx_le_length (xs:=r) (p:=λx=>decide (f x=2));have I:Bx (nJ f r=if r.findIdx (λx=>decide (f x=1))<r.findIdx (λx=>decide (f x=2)) then 2*r.findIdx (λx=>decide (f x=1))+2 else if r.findIdx (λx=>decide (f x=2))<r.findIdx (λx=>decide (f x=1)) then 2*r.findIdx (λx=>decide (f x=2))+1 else 2*r.length+1):=⟨rfl⟩;generalize nJ f r=pr at *;generalize r.findIdx (λx=>decide (f x=1))=kg at *;generalize r.findIdx (λx=>decide (f x=2))=kb at *;have iO:∀ (s':St) (v:LV),v = .cE [.aE j 0 (tj f r).length 1, .int .i64 (pr:Int)]->∃ J s',cY bp v s=some (J,s')/\J.closed=true/\∃ Q,J = .cE [Q, .int .i64 (pr:Int)]/\aP Q (tj f r):=by
    intro s' v K;subst K;refine⟨_,_,uJ i (by simp) (bI _) rfl,by simp[LV.closed,LV.closed.au,bI],_,rfl, .aF _ _,by rw[xJ.out.2];omega,λx hx=>?_⟩;have:=xJ.out.1.2.1 x hx;rw[xJ.out.2]at this;unfold bU;constructor<;>omega
   have hwg:IntKind.i64.wrap (2*(kg:Int))=2*(kg:Int):=wrap_i64 _ om om;have t:IntKind.i64.wrap (2*(kg:Int)+2)=2*(kg:Int)+2:=wrap_i64 _ om om;have hwb:IntKind.i64.wrap (2*(kb:Int))=2*(kb:Int):=wrap_i64 _ om om;have u:IntKind.i64.wrap (2*(kb:Int)+1)=2*(kb:Int)+1:=wrap_i64 _ om om;have DH:IntKind.i64.wrap (2*(r.length:Int))=2*(r.length:Int):=wrap_i64 _ om om;have w:IntKind.i64.wrap (2*(r.length:Int)+1)=2*(r.length:Int)+1:=wrap_i64 _ om om;have Q9:=Bx.mk iO;clear iO i xJ NS K;repeat' (first|refine aV @L ?_|(first|apply ah|apply af)<;>intro a)
   all_goals first | (exfalso;first | omega | exact a.elim) | skip
   refine bK wN (fv:=.fn (.func 80) [] []) (vs:=[rv, .fn (.func 78) [] [.aO c 0]]) ef ef (aM.mono BP λb s2 g=>⟨trivial,?_⟩);obtain⟨h2,rfl⟩:=g;subst s2;simp only[Env.aB];repeat' (first|refine aV @L ?_|(first|apply ah|apply af)<;>intro a)
   refine bK wN (fv:=.fn (.func 80) [] []) (vs:=[rv, .fn (.func 79) [] [.aO c 0]]) ef ef (aM.mono Zd λb s2 g=>⟨trivial,?_⟩);obtain⟨h2,rfl⟩:=g;subst s2;simp only[Env.aB];clear BP Zd;repeat' (first|refine aV (aj @hwg (aj @t (aj @hwb (aj @u (aj @DH @w))))) ?_|(first|apply ah|apply af)<;>intro a)
   ·refine⟨.inr trivial, .cE [.aE j 0 (tj f r).length 1, .int .i64 (pr:Int)],?_,Q9.out s _ rfl⟩;have DJ:(pr:Int)=2*(r.length:Int)+1:=by
     have:=I.out;rw[if_neg om,if_neg om]at this;omega
    rw[DJ];simp[aW,bD,DH,w]
   ·refine⟨.inr trivial, .cE [.aE j 0 (tj f r).length 1, .int .i64 (pr:Int)],?_,Q9.out s _ rfl⟩;have DJ:(pr:Int)=2*(kb:Int)+1:=by
     have:=I.out;rw[if_neg om,if_pos om]at this;omega
    rw[DJ];simp[aW,bD,hwb,u]
   ·refine⟨.inr trivial, .cE [.aE j 0 (tj f r).length 1, .int .i64 (pr:Int)],?_,Q9.out s _ rfl⟩;have DJ:(pr:Int)=2*(kg:Int)+2:=by
     have:=I.out;rw[if_pos om]at this;omega
    rw[DJ];simp[aW,bD,hwg,t]
end Go.Proofs.YtkbiecjdcjfhaaaGreat
end
