/- record.Valid, record.Start. -/
import Derived.Test.YtkbiecjdcjfhaaaBase
import Derived.Test.YtkbiecjdcjfhaaaPvKM
set_option linter.unusedSimpArgs false
set_option linter.unusedVariables false
set_option maxRecDepth 100000
set_option maxHeartbeats 16000000
section
namespace Go.Proofs.Ytkbiecjdcjfhaaa
open Go Go.Pv
open Classical
def sL (r:List Int):Prop:=r.length<=6000/\(∀ x∈r,1<=x/\x<=(r.length:Int))/\r.Nodup
def CD (r:List Int) (k:Nat):Prop:=(∀ x∈r.take k,1<=x/\x<=(r.length:Int))/\(r.take k).Nodup
theorem JK {r:List Int}{k:Nat}{x:Int}(hx:r[k]? = some x):CD r (k+1)↔CD r k/\(1<=x/\x<=(r.length:Int))/\x ∉ r.take k:=by
 unfold CD;rw[List.take_add_one,hx];simp only[Option.toList_some,List.mem_append,List.mem_singleton,List.nodup_append,List.nodup_cons,List.not_mem_nil,not_false_eq_true,List.nodup_nil,and_true,true_and];constructor
 ·rintro⟨h1,h2,h3⟩;exact⟨⟨λy c=>h1 y (.inl c),h2⟩,h1 x (.inr rfl),λhm=>h3 x hm x rfl rfl⟩
 ·rintro⟨⟨h1,h2⟩,h3,d⟩;exact⟨λy c=>c.elim (h1 y) λe=>e ▸ h3,h2,λa f b g h=>d (by rw[<- g,<- h];exact f)⟩
theorem M1 {r:List Int}(hl:r.length<=6000):CD r r.length↔sL r:=by
 unfold CD sL;rw[List.take_length];exact⟨λh=>⟨hl,h⟩,λh=>h.2⟩
theorem H6 {r:List Int}{k:Nat}(h:¬ CD r k):¬ sL r:=λa=>h ⟨λx hx=>a.2.1 x (List.mem_of_mem_take hx),a.2.2.sublist (List.take_sublist _ _)⟩
theorem Dl {rv:LV}{r:List Int}(d:aM rv r):PO 52 [rv, .int .i64 (r.length:Int)] (.bool (decide (sL r))):=by
 have F:=d.closed;have i:=d.sl.len;have C:=d.len;have O:maxLen=9223372036854775807:=by decide
 refine lK (t:=4) hm Try.func52 (by decide +kernel) c52 (Nat.le_of_ble_eq_true rfl) (by simp[LV.closed.aq,LV.closed,F]) rfl rfl ?_;refine pF λe y z=>?_;unfold l52;dsimp only[jA,jC,qM,qL,qS,qI,qA,qB,qC,qK,qP,qm,ql];by_cases P:6000<r.length
 ·have f:Bx (decide (sL r)=false):=⟨decide_eq_false λh=>by have:=h.1;omega⟩;generalize sL r=Q at *;repeat' (first | refine gA @i ?_ | (refine gB @i ?_;intro c a;cases c<;>(try simp only[aG]at a)) | apply aA | fail)
  all_goals first | (exfalso;omega) | skip
  exact⟨.inr trivial,by rw[f.out];simp only[lk,Nat.reduceEqDiff,if_false,if_true]⟩
 ·have w : IntKind.i64.wrap ((r.length : Int) + 1) = ((r.length + 1 : Nat) : Int) := by rw[wrap_i64 _ om om]; rfl
  have G:r.length<=6000:=by omega
  repeat' (first | refine gA (And.intro @i @w) ?_ | (refine gB (And.intro @i @w) ?_;intro c a;cases c<;>(try simp only[aG]at a)) | apply aA | fail)
  all_goals first | (exfalso;first | omega | exact a.elim) | skip
  refine Zw (n:=r.length+1) wN cj ef ef om ?_;repeat' (first | refine gA (And.intro @i @w) ?_ | (refine gB (And.intro @i @w) ?_;rintro (_|_) a<;>try simp only[aG,reduceCtorEq]at a) | apply aA | fail)
  refine aS (λm e s=>∃ k:Nat,m=r.length - k/\k<=r.length/\CD r k/\s.get 0=some (.cells .mut (ia (r.length+1) λj=>decide ((j:Int)∈r.take k)))/\e.at 0=rv/\e.at 1 = .int .i64 (r.length:Int)/\e.at 5 = .aD 0 0 (r.length+1) 1/\e.at 23=rv/\e.at 24 = .int .i64 (r.length:Int)/\e.at 25 = .int .i64 (k:Int)) _
   ⟨0,rfl,by omega,by simp[CD],by simp[cj],ef,ef,ef,ef,ef,by simp only[lk,Nat.reduceEqDiff,if_false,if_true];rfl⟩ ?_
  clear y z;clear e;rintro m e s ⟨k,rfl,R,g,hs,y,z,H,I,J,K⟩;by_cases L:k<r.length
  ·have M:(k:Int)<(r.length:Int):=by omega
   have N:IntKind.i64.wrap ((k:Int)+1)=((k+1:Nat):Int):=by rw[wrap_i64 _ om om];rfl
   have l:=bu M;have hx:r[k]? = some (r.getD k 0):=by rw[gD,gE L];rfl
   have o:=JK hx;generalize r.getD k 0=x at *;by_cases A:1<=x/\x<=(r.length:Int)
   ·obtain⟨n,rfl⟩:∃ n:Nat,x=(n:Int):=⟨x.toNat,by omega⟩;have T:(n:Int)<((r.length+1:Nat):Int):=by omega
    have D:n<r.length+1:=by omega
    have p:(ia (r.length+1) λj=>decide ((j:Int)∈r.take k))[n]? = some (.bool (decide ((n:Int)∈r.take k))):=oF D;have U:Bx (1<=(n:Int)/\(n:Int)<=(r.length:Int)):=⟨A⟩;have V:Bx (s.get 0=some (.cells .mut (ia (r.length+1) λj=>decide ((j:Int)∈r.take k)))):=⟨hs⟩;have v:Bx (r[k]? = some (n:Int)):=⟨hx⟩;by_cases u:(n:Int)∈r.take k
    ·have f:Bx (decide (sL r)=false):=⟨decide_eq_false (H6 (k:=k+1) λh=>(o.1 h).2.2 u)⟩;rw[decide_eq_true u]at p;clear o g u hx;repeat' (first | refine gA (And.intro (@cw _ _ _ d.sl) (And.intro @l (And.intro @cG @p))) ?_ | (refine gB (And.intro (@cw _ _ _ d.sl) (And.intro @l (And.intro @cG @p))) ?_;intro c a;cases c<;>(try simp only[aG]at a)) | apply aA | fail)
     all_goals first | (exfalso;first | omega | exact a.elim) | skip
     exact⟨.inr trivial,by rw[f.out];simp only[lk,Nat.reduceEqDiff,if_false,if_true]⟩
    ·have B:Bx (CD r (k+1)):=⟨o.2 ⟨g,A,u⟩⟩;rw[decide_eq_false u]at p;clear o g u hx;repeat' (first | refine gA (And.intro (@cw _ _ _ d.sl) (And.intro @l (And.intro @cG @p))) ?_ | (refine gB (And.intro (@cw _ _ _ d.sl) (And.intro @l (And.intro @cG @p))) ?_;intro c a;cases c<;>(try simp only[aG]at a)) | apply aA | fail)
     all_goals first | (exfalso;first | omega | exact a.elim) | skip
     refine Nc (q:=n) (b:=true) (f':=λj=>decide ((j:Int)∈r.take (k+1))) ef rfl hs D (λj=>?_) λs' h1 h2 h3=>?_
     ·rw[List.take_add_one,v.out];by_cases E:j=n
      ·subst E;simp
      ·have:¬ ((j:Int)=(n:Int)):=by omega
       simp[E,this]
     repeat' (first | refine gA trivial ?_ | (refine gB trivial ?_;rintro (_|_) a<;>try simp only[aG,reduceCtorEq]at a) | apply aA | fail)
     refine⟨r.length - (k+1),by omega,k+1,rfl,by omega,B.out,h2,?_⟩;simp only[lk,Nat.reduceEqDiff,if_false,if_true,N,y,z,H,I,J,and_self]
   ·have f:Bx (decide (sL r)=false):=⟨decide_eq_false (H6 (k:=k+1) λh=>A (o.1 h).2.1)⟩;clear o g hx;repeat' (first | refine gA (And.intro (@cw _ _ _ d.sl) @l) ?_ | (refine gB (And.intro (@cw _ _ _ d.sl) @l) ?_;intro c a;cases c<;>(try simp only[aG]at a)) | apply aA | fail)
    all_goals first | (exfalso;first | omega | exact a.elim) | skip
    all_goals exact⟨.inr trivial,by rw[f.out];simp only[lk,Nat.reduceEqDiff,if_false,if_true]⟩
  ·have f:Bx (decide (sL r)=true):=⟨decide_eq_true ((M1 G).1 (by rw[show k=r.length by omega]at g;exact g))⟩;clear g;repeat' (first | refine gA trivial ?_ | (refine gB trivial ?_;intro c a;cases c<;>(try simp only[aG]at a)) | apply aA | fail)
   all_goals first | (exfalso;first | omega | exact a.elim) | skip
   exact⟨.inr trivial,by rw[f.out];simp only[lk,Nat.reduceEqDiff,if_false,if_true]⟩
def oX (n:Nat):List Int:=(List.range n).map λi=>((i+1:Nat):Int)
theorem gP (n:Nat):(oX n).length=n:=by simp[oX]
theorem BF {n:Nat}(h:n<=6000):sL (oX n):=by
 refine⟨by rw[gP];exact h,λx hx=>?_,?_⟩
 ·obtain⟨i,a,rfl⟩:=List.mem_map.1 hx;have:=List.mem_range.1 a;rw[gP];omega
 ·unfold oX;rw[List.nodup_iff_pairwise_ne,List.pairwise_map];refine (List.nodup_iff_pairwise_ne.1 List.nodup_range).imp λdH b=>dH om
theorem Dm {n:Nat}(u:n<=6000):PE 18 [.int .i64 (n:Int)] (λv=>aM v (oX n)):=by
 have w:maxLen=9223372036854775807:=by decide
 refine n9 (t:=2) hm Try.func18 (by decide +kernel) c18 (Nat.le_of_ble_eq_true rfl) rfl rfl ?_;refine sJ λe l=>?_;unfold l18;dsimp only[jA,jC,jG,qM,qS,qI,qA,qB,qC,qP,qm];repeat' (first | refine gA trivial ?_ | (refine gB trivial ?_;intro b a;cases b<;>(try simp only[aG]at a)) | apply aA | fail)
 all_goals first | (exfalso;first | omega | exact a.elim) | skip
 refine Mz (n:=n) wN cj ef ef om ?_;repeat' (first | refine gA trivial ?_ | (refine gB trivial ?_;rintro (_|_) a<;>try simp only[aG,reduceCtorEq]at a) | apply aA | fail)
 refine aS (λm e s=>∃ k:Nat,m=n - k/\k<=n/\s.get 0=some (.cells .mut (ck n λj=>if j<k then j+1 else 0))/\e.at 3 = .aD 0 0 n 1/\e.at 14 = .int .i64 (n:Int)/\e.at 15 = .int .i64 (k:Int)) _
  ⟨0,rfl,by omega,by simp[cj],ef,ef,by simp only[lk,Nat.reduceEqDiff,if_false,if_true];rfl⟩ ?_
 clear l;clear e;rintro m e s ⟨k,rfl,z,hs,o,p,A⟩;by_cases q:k<n
 ·have B:(k:Int)<(n:Int):=by omega
  have d:IntKind.i64.wrap ((k:Int)+1)=((k+1:Nat):Int):=by rw[wrap_i64 _ om om];rfl
  repeat' (first | refine gA (And.intro @cG @d) ?_ | (refine gB (And.intro @cG @d) ?_;intro b a;cases b<;>(try simp only[aG]at a)) | apply aA | fail)
  all_goals first | (exfalso;first | omega | exact a.elim) | skip
  refine nw (v:=k) (y:=k+1) (f':=λj=>if j<k+1 then j+1 else 0) ef ef hs q (λj=>?_) λs' h1 h2 h3=>?_
  ·by_cases f:j=k
   ·subst f;simp
   ·by_cases h:j<k
    ·simp[f,h,show j<k+1 by omega]
    ·simp[f,h,show ¬ j<k+1 by omega]
  repeat' (first | refine gA trivial ?_ | (refine gB trivial ?_;rintro (_|_) a<;>try simp only[aG,reduceCtorEq]at a) | apply aA | fail)
  refine⟨n - (k+1),by omega,k+1,rfl,by omega,h2,?_⟩;simp only[lk,Nat.reduceEqDiff,if_false,if_true,d,o,p,and_self]
 ·have c:k=n:=by omega
  subst c;repeat' (first | refine gA trivial ?_ | (refine gB trivial ?_;intro b a;cases b<;>(try simp only[aG]at a)) | apply aA | fail)
  all_goals first | (exfalso;first | omega | exact a.elim) | skip
  have r:ck k (λj=>if j<k then j+1 else 0)=ints (oX k):=by
   rw[qc];unfold oX;congr 1;refine List.map_congr_left λi g=>?_;rw[if_pos (List.mem_range.1 g)]
  rw[r]at hs;refine⟨.inr trivial, .aB (ints (oX k)) k,_,by simp only[lk,Nat.reduceEqDiff,if_false,if_true];exact tW hs (by rw[fT,gP]) (bD _),?_,?_,?_,?_⟩
  ·simp[LV.closed,bD]
  ·rw[gP];exact .aB _ _
  ·rw[gP];omega
  ·intro x hx;obtain⟨i,g,rfl⟩:=List.mem_map.1 hx;have:=List.mem_range.1 g;unfold cF;constructor<;>omega
def MK (E:List (Int × LV)) (f:Int->Int):Prop:=∀ k,(ec E k).getD (.int .i64 0) = .int .i64 (f k)
theorem MK.nil:MK [] λ_=>0:=λk=>rfl
def Iz (L:List Int) (n:Nat) (m:Int) (f:Int->Int) (k:Int):Int:=if k∈L/\1<=k/\k<=(n:Int) then m else f k
theorem IA {lv:LV}{L:List Int}(i:aM lv L) {n:Nat}{mv:Int}{jm M:Nat}{md:Md}{s:St}{E:List (Int × LV)}{f:Int->Int}(A:s.get jm=some (.cells md [.aI M])) (l:s.get M=some (.map (mG cV E))) (d:MK E f) (y:jm≠M) :
 aJ Try.prog GL (.fn (.func 69) [] [.aX [.int .i64 (n:Int)] 0, .aH jm 0]) [lv, .int .i64 mv] s (λ_ s'=>s'.n=s.n/\(∃ g,s'.get M=some (.map (mG cV g))/\MK g (Iz L n mv f))/\∀ id,id≠M->s'.get id=s.get id):=by
 have B:=i.sl.len;have C:=i.len;have T:maxLen=9223372036854775807:=by decide
 refine bL (first:=[]) (caps:=[.aX [.int .i64 (n:Int)] 0, .aH jm 0]) Try.func69 (by decide +kernel) c69 (Nat.le_of_ble_eq_true rfl) (aQ.mono (Q:=λo e s'=>(o = .normal∨o = .jmp .ret)/\s'.n=s.n/\(∃ g,s'.get M=some (.map (mG cV g))/\MK g (Iz L n mv f))/\∀ id,id≠M->s'.get id=s.get id) ?_ λo e s' D=>by
  exact⟨D.1, .cy [],by simp[l69,br],D.2⟩)
 refine Cd.out (ev4 λe N r t u=>?_);unfold l69;dsimp only[jA,jD,qM,qL,qS,qI,qA,qB,qC,qm,ql];repeat' (first | refine gA @B ?_ | (refine gB @B ?_;rintro (_|_) b<;>try simp only[aG,reduceCtorEq]at b) | apply aA | fail)
 refine aS (λm e h=>∃ k:Nat,m=L.length - k/\k<=L.length/\(h.n=s.n/\(∃ g,h.get M=some (.map (mG cV g))/\MK g (Iz (L.take k) n mv f))/\∀ id,id≠M->h.get id=s.get id)/\e.at 1 = .int .i64 mv/\e.at 2 = .aX [.int .i64 (n:Int)] 0/\e.at 3 = .aH jm 0/\e.at 8=lv/\e.at 9 = .int .i64 (L.length:Int)/\e.at 10 = .int .i64 (k:Int)) _
  ⟨0, rfl, by omega, ⟨rfl, ⟨E, l, by have : Iz (L.take 0) n mv f = f := by funext k; simp[Iz]
                                     rw[this];exact d⟩,λ_ _=>rfl⟩,ef,ef,ef,ef,ef,by simp only[lk,Nat.reduceEqDiff,if_false,if_true];rfl⟩ ?_
 clear N r t u l d E;clear e;rintro m e h ⟨k,rfl,U,⟨v,⟨E,l,d⟩,a⟩,r,t,u,F,G,V⟩;by_cases O:k<L.length
 ·have P:(k:Int)<(L.length:Int):=by omega
  have H:IntKind.i64.wrap ((k:Int)+1)=((k+1:Nat):Int):=by rw[wrap_i64 _ om om];rfl
  have w:=bu P;have X:h.get jm=some (.cells md [.aI M]):=by rw[a _ y];exact A
  have I:L.take (k+1)=L.take k++[L.getD k 0]:=by rw[List.take_add_one,gD,gE O];rfl
  generalize L.getD k 0=x at *;have c:Bx (h.n=s.n/\(∀ id,id≠M->h.get id=s.get id)/\MK E (Iz (L.take k) n mv f)):=⟨v,a,d⟩;have J:Bx (L.take (k+1)=L.take k++[x]):=⟨I⟩;clear I v a d A;by_cases hx:1<=x/\x<=(n:Int)
  ·have z:=Bx.mk hx;repeat' (first | refine gA (And.intro (@cw _ _ _ i.sl) @w) ?_ | (refine gB (And.intro (@cw _ _ _ i.sl) @w) ?_;intro q b;cases q<;>(try simp only[aG]at b)) | apply aA | fail)
   all_goals first | (exfalso;first | omega | exact b.elim) | skip
   refine BI N9 (M:=M) (k:=x) (vv:=.int .i64 mv) (L:=E) ef (by simp only[lk,Nat.reduceEqDiff,if_false,if_true];rfl) ef l ?_;repeat' (first | refine gA trivial ?_ | (refine gB trivial ?_;rintro (_|_) b<;>try simp only[aG,reduceCtorEq]at b) | apply aA | fail)
   refine⟨L.length - (k+1),by omega,k+1,rfl,by omega,⟨c.out.1,⟨vj E x (.int .i64 mv),by rw[St.ah,if_pos rfl],λj=>?_⟩,λid K=>by rw[St.ah,if_neg K];exact c.out.2.1 id K⟩,?_⟩
   ·rw[Sv,J.out];by_cases p:j=x
    ·subst p;simp[Iz,z.out]
    ·rw[if_neg p,c.out.2.2 j];simp[Iz,p]
   ·simp only[lk,Nat.reduceEqDiff,if_false,if_true,H,r,t,u,F,G,and_self]
  ·have z:=Bx.mk hx;repeat' (first | refine gA (And.intro (@cw _ _ _ i.sl) @w) ?_ | (refine gB (And.intro (@cw _ _ _ i.sl) @w) ?_;intro q b;cases q<;>(try simp only[aG]at b)) | apply aA | fail)
   all_goals first | (exfalso;first | omega | exact b.elim) | skip
   all_goals
    refine⟨L.length - (k+1),by omega,k+1,rfl,by omega,⟨c.out.1,⟨E,l,λj=>?_⟩,c.out.2.1⟩,?_⟩
    ·rw[c.out.2.2 j,J.out];by_cases p:j=x
     ·subst p;simp[Iz,z.out]
     ·simp[Iz,p]
    ·simp only[lk,Nat.reduceEqDiff,if_false,if_true,H,r,t,u,F,G,and_self]
 ·have R:k=L.length:=by omega
  subst R;rw[List.take_length]at d;have c:=Bx.mk (And.intro v (And.intro a d));clear v a d;repeat' (first | refine gA trivial ?_ | (refine gB trivial ?_;intro q b;cases q<;>(try simp only[aG]at b)) | apply aA | fail)
  all_goals first | (exfalso;first | omega | exact b.elim) | skip
  exact⟨.inl trivial,c.out.1,⟨E,l,c.out.2.2⟩,c.out.2.1⟩
def marks (bX bad:List Int) (n:Nat):Int->Int:=Iz bad n 2 (Iz bX n 1 λ_=>0)
theorem NS {c d:LV}{bX bad:List Int}(g:aM c bX) (h:aM d bad) {n:Nat}{s:St} :
 aJ Try.prog GL (.fn (.func 53) [] []) [.agg [c,d], .int .i64 (n:Int)] s (λr s'=>∃ M E,r = .aI M/\s.n<=s'.n/\s.n<=M/\M<s'.n/\s'.get M=some (.map (mG cV E))/\MK E (marks bX bad n)/\∀ id,id<s.n->s'.get id=s.get id):=by
 have B:=g.closed;have C:=h.closed;have D:=g.sl.cell;have F:=h.sl.cell;refine bL (first:=[]) (caps:=[]) Try.func53 (by decide +kernel) c53 (Nat.le_of_ble_eq_true rfl) (aQ.mono (Q:=λo e s'=>(o = .normal∨o = .jmp .ret)/\∃ M E,e.at 4 = .aI M/\s.n<=s'.n/\s.n<=M/\M<s'.n/\s'.get M=some (.map (mG cV E))/\MK E (marks bX bad n)/\∀ id,id<s.n->s'.get id=s.get id) ?_ λo e s' b=>by
  obtain⟨h1,M,E,h2,h3⟩:=b;exact⟨h1,_,by simp[l53,br,bO,h2],M,E,rfl,h3⟩)
 refine Cd.out (pF λe G H=>?_);unfold l53;dsimp only[jA,jG,qF,qO,qm,ql];repeat' (first | refine gA trivial ?_ | (refine gB trivial ?_;rintro (_|_) a<;>try simp only[aG,reduceCtorEq]at a) | apply aA | fail)
 refine ju wN rfl ?_;repeat' (first | refine gA trivial ?_ | (refine gB trivial ?_;rintro (_|_) a<;>try simp only[aG,reduceCtorEq]at a) | apply aA | fail)
 refine bH wN (fv:=.fn (.func 69) [] [.aX [.int .i64 (n:Int)] 0, .aH (s.n+1) 0]) (vs:=[c, .int .i64 1]) ef (by simp only[List.map,lk,Nat.reduceEqDiff,if_false,if_true,List.map]) (aJ.mono (IA g (n:=n) (md:=.mut) (jm:=s.n+1) (M:=s.n) (E:=[]) (f:=λ_=>0) (by rw[St.ah,if_pos rfl]) (by rw[St.ah,if_neg om,St.az,if_neg (by simp),St.az,if_pos rfl];rfl) MK.nil om) λr i b=>⟨trivial,?_⟩);obtain⟨p,⟨u,g2,v⟩,j⟩:=b;have w:i.n=s.n+2:=by rw[p];simp
 have k:i.get (s.n+1)=some (.cells .mut [.aI s.n]):=by rw[j _ om,St.ah,if_pos rfl]
 have q:∀ id,id<s.n->i.get id=s.get id:=λid t=>by rw[j _ om,St.ah,if_neg om,St.az,if_neg (by simp;omega),St.az,if_neg om]
 simp only[Env.au];clear p j;repeat' (first | refine gA trivial ?_ | (refine gB trivial ?_;rintro (_|_) a<;>try simp only[aG,reduceCtorEq]at a) | apply aA | fail)
 refine bH wN (fv:=.fn (.func 69) [] [.aX [.int .i64 (n:Int)] 0, .aH (s.n+1) 0]) (vs:=[d, .int .i64 2]) ef (by simp only[List.map,lk,Nat.reduceEqDiff,if_false,if_true,List.map]) (aJ.mono (IA h (n:=n) (md:=.mut) (jm:=s.n+1) (M:=s.n) (E:=u) k g2 v om) λr l b=>⟨trivial,?_⟩);obtain⟨n3,⟨x,g3,y⟩,m⟩:=b;have I:l.n=s.n+2:=by omega
 have z:l.get (s.n+1)=some (.cells .mut [.aI s.n]):=by rw[m _ om];exact k
 have A:∀ id,id<s.n->l.get id=s.get id:=λid t=>by rw[m _ om];exact q id t
 simp only[Env.au];clear n3 m k g2 q w;repeat' (first | refine gA trivial ?_ | (refine gB trivial ?_;rintro (_|_) a<;>try simp only[aG,reduceCtorEq]at a) | apply aA | fail)
 exact⟨.inr trivial,s.n,x,ef,by omega,by omega,by omega,g3,y,A⟩
theorem Hw {jm M:Nat}{md:Md}{s:St}{E:List (Int × LV)}{f:Int->Int}(i:s.get jm=some (.cells md [.aI M])) (b:s.get M=some (.map (mG cV E))) (c:MK E f) (x:Int) :
 aJ Try.prog GL (.fn (.func 54) [] [.aH jm 0]) [.int .i64 x] s (λr s'=>s'=s/\r = .bool (decide (f x=2))):=by
 refine bL (first:=[]) (caps:=[.aH jm 0]) Try.func54 (by decide +kernel) c54 (Nat.le_of_ble_eq_true rfl) (aQ.mono (Q:=λo e s'=>(o = .normal∨o = .jmp .ret)/\s'=s/\e.at 3 = .bool (decide (f x=2))) ?_ λo e s' d=>by
  obtain⟨h1,h2,h3⟩:=d;exact⟨h1,_,by simp[l54,br,bO,h3],h2,rfl⟩)
 refine Cd.out (pF λe j l=>?_);unfold l54;dsimp only[jA,qK,qm,ql];have g:=c x;generalize f x=y at *;repeat' (first | refine gA trivial ?_ | (refine gB trivial ?_;rintro (_|_) a<;>try simp only[aG,reduceCtorEq]at a) | apply aA | fail)
 refine xE N9 (M:=M) (k:=x) (L:=E) wN ef (by simp only[lk,Nat.reduceEqDiff,if_false,if_true];rfl) b ?_;rw[g];repeat' (first | refine gA trivial ?_ | (refine gB trivial ?_;intro h a;cases h<;>(try simp only[aG]at a)) | apply aA | fail)
 ·exact⟨.inr trivial,trivial,by rw[decide_eq_false a];simp only[lk,Nat.reduceEqDiff,if_false,if_true]⟩
 ·exact⟨.inr trivial,trivial,by rw[decide_eq_true a];simp only[lk,Nat.reduceEqDiff,if_false,if_true]⟩
theorem TE {jm M:Nat}{md:Md}{s:St}{E:List (Int × LV)}{f:Int->Int}(i:s.get jm=some (.cells md [.aI M])) (b:s.get M=some (.map (mG cV E))) (c:MK E f) (x:Int) :
 aJ Try.prog GL (.fn (.func 55) [] [.aH jm 0]) [.int .i64 x] s (λr s'=>s'=s/\r = .bool (decide (f x=1))):=by
 refine bL (first:=[]) (caps:=[.aH jm 0]) Try.func55 (by decide +kernel) c55 (Nat.le_of_ble_eq_true rfl) (aQ.mono (Q:=λo e s'=>(o = .normal∨o = .jmp .ret)/\s'=s/\e.at 3 = .bool (decide (f x=1))) ?_ λo e s' d=>by
  obtain⟨h1,h2,h3⟩:=d;exact⟨h1,_,by simp[l55,br,bO,h3],h2,rfl⟩)
 refine Cd.out (pF λe j l=>?_);unfold l55;dsimp only[jA,qK,qm,ql];have g:=c x;generalize f x=y at *;repeat' (first | refine gA trivial ?_ | (refine gB trivial ?_;rintro (_|_) a<;>try simp only[aG,reduceCtorEq]at a) | apply aA | fail)
 refine xE N9 (M:=M) (k:=x) (L:=E) wN ef (by simp only[lk,Nat.reduceEqDiff,if_false,if_true];rfl) b ?_;rw[g];repeat' (first | refine gA trivial ?_ | (refine gB trivial ?_;intro h a;cases h<;>(try simp only[aG]at a)) | apply aA | fail)
 ·exact⟨.inr trivial,trivial,by rw[decide_eq_false a];simp only[lk,Nat.reduceEqDiff,if_false,if_true]⟩
 ·exact⟨.inr trivial,trivial,by rw[decide_eq_true a];simp only[lk,Nat.reduceEqDiff,if_false,if_true]⟩
theorem Nr {rv fv:LV}{r:List Int}(i:aM rv r) (hl:r.length<=1000000) {s:St}{p:Int->Bool}(E:∀ x,aJ Try.prog GL fv [.int .i64 x] s (λb s'=>s'=s/\b = .bool (p x))) :
 aJ Try.prog GL (.fn (.func 56) [] []) [rv,fv] s (λv s'=>s'=s/\v = .int .i64 (r.findIdx p:Int)):=by
 have g:=i.sl.len;have L:maxLen=9223372036854775807:=by decide
 refine bL (first:=[]) (caps:=[]) Try.func56 (by decide +kernel) c56 (Nat.le_of_ble_eq_true rfl) (aQ.mono (Q:=λo e s'=>(o = .normal∨o = .jmp .ret)/\s'=s/\e.at 4 = .int .i64 (r.findIdx p:Int)) ?_ λo e s' l=>by
  obtain⟨h1,h2,h3⟩:=l;exact⟨h1,_,by simp[l56,br,bO,h3],h2,rfl⟩)
 refine Cd.out (pF λe n q=>?_);unfold l56;dsimp only[jA,qS,qI,qA,qB,qC,qm,ql];repeat' (first | refine gA @g ?_ | (refine gB @g ?_;rintro (_|_) a<;>try simp only[aG,reduceCtorEq]at a) | apply aA | fail)
 refine aS (λm e t=>∃ k:Nat,m=r.length - k/\k<=r.length/\t=s/\(∀ j x,j<k->r[j]? = some x->p x=false)/\e.at 0=rv/\e.at 1=fv/\e.at 7=rv/\e.at 8 = .int .i64 (r.length:Int)/\e.at 9 = .int .i64 (k:Int)) _
  ⟨0,rfl,by omega,rfl,λj x f=>absurd f (Nat.not_lt_zero _),ef,ef,ef,ef,by simp only[lk,Nat.reduceEqDiff,if_false,if_true];rfl⟩ ?_
 clear n q;clear e;rintro m e t ⟨k,rfl,M,N,h,n,q,F,G,O⟩;subst t;by_cases u:k<r.length
 ·have H:(k:Int)<(r.length:Int):=by omega
  have I:IntKind.i64.wrap ((k:Int)+1)=((k+1:Nat):Int):=by rw[wrap_i64 _ om om];rfl
  have C:=bu H;have hx:r[k]? = some (r.getD k 0):=by rw[gD,gE u];rfl
  generalize r.getD k 0=x at *;have d:=Bx.mk h;have D:=Bx.mk hx;clear h hx;repeat' (first | refine gA (And.intro (@cw _ _ _ i.sl) @C) ?_ | (refine gB (And.intro (@cw _ _ _ i.sl) @C) ?_;intro w a;cases w<;>(try simp only[aG]at a)) | apply aA | fail)
  all_goals first | (exfalso;first | omega | exact a.elim) | skip
  refine bH wN (fv:=fv) (vs:=[.int .i64 x]) ef (by simp only[List.map,lk,Nat.reduceEqDiff,if_false,if_true,List.map]) (aJ.mono (E x) λb J l=>⟨trivial,?_⟩);obtain⟨h2,rfl⟩:=l;subst J;simp only[Env.au];cases c:p x with
  | true=>
    have y:Bx (r.findIdx p=k):=⟨by
     have h1:r[k]=x:=by have:=D.out;rw[gE u]at this;exact Option.some.inj this
     rw[List.findIdx_eq u];exact⟨by rw[h1];exact c,λj f=>d.out j _ f (gE _)⟩⟩
    clear c;repeat' (first | refine gA trivial ?_ | (refine gB trivial ?_;rintro (_|_) a<;>try simp only[aG,reduceCtorEq]at a) | apply aA | fail)
    exact⟨.inr trivial,trivial,by rw[y.out];simp only[lk,Nat.reduceEqDiff,if_false,if_true]⟩
  | false=>
    have A:=Bx.mk c;clear c;repeat' (first | refine gA trivial ?_ | (refine gB trivial ?_;rintro (_|_) a<;>try simp only[aG,reduceCtorEq]at a) | apply aA | fail)
    refine⟨r.length - (k+1),by omega,k+1,rfl,by omega,trivial,λj z f B=>?_,?_⟩
    ·by_cases K:j=k
     ·subst K;rw[D.out]at B;rw[<- Option.some.inj B];exact A.out
     ·exact d.out j z om B
    ·simp only[lk,Nat.reduceEqDiff,if_false,if_true,I,n,q,F,G,and_self]
 ·have y:Bx (r.findIdx p=r.length):=⟨List.findIdx_eq_length.2 λx hx=>by
   obtain⟨j,f⟩:=List.mem_iff_getElem?.1 hx;exact h j x (by have:=(List.getElem?_eq_some_iff.1 f).1;omega) f⟩
  clear h;repeat' (first | refine gA @g ?_ | (refine gB @g ?_;intro w a;cases w<;>(try simp only[aG]at a)) | apply aA | fail)
  all_goals first | (exfalso;first | omega | exact a.elim) | skip
  exact⟨.inr trivial,trivial,by rw[y.out];simp only[lk,Nat.reduceEqDiff,if_false,if_true]⟩
theorem Cr {s:St}{j len:Nat}{cs:List LV}{v:LV}(h:s.get j=some (.cells .mut cs)) (hl:cs.length=len) (a:LV.closed.aq cs=true) (b:v.closed=true):cK aY (.cy [.aD j 0 len 1,v]) s=some (.cy [.aB cs len,v],s.put j (.cells .app cs)):=by
 have h1:=kU 37 h hl a;have h2:cK 39 v (s.put j (.cells .app cs))=some (v,_):=g8 b;show cK (39+1) _ s=_;unfold cK;simp[LV.closed,LV.closed.aq,cK.cu,h1,h2]
def n6 (f:Int->Int) (r:List Int):List Int:=r.filter (λx=>!decide (f x=2))++r.filter (λx=>decide (f x=2))
def gu (f:Int->Int) (r:List Int):Nat:=if r.findIdx (λx=>decide (f x=1))<r.findIdx (λx=>decide (f x=2)) then 2*r.findIdx (λx=>decide (f x=1))+2 else if r.findIdx (λx=>decide (f x=2))<r.findIdx (λx=>decide (f x=1)) then 2*r.findIdx (λx=>decide (f x=2))+1 else 2*r.length+1
theorem je (f:Int->Int) (r:List Int):(n6 f r).Perm r:=by
 unfold n6;refine List.Perm.trans List.perm_append_comm ?_;have:=List.filter_append_perm (λx=>decide (f x=2)) r;exact this
theorem HZ {f:Int->Int}{r:List Int}(h:sL r):sL (n6 f r):=by
 have a:=je f r;exact⟨by rw[a.length_eq];exact h.1,λx hx=>by rw[a.length_eq];exact h.2.1 x (a.mem_iff.1 hx),a.nodup_iff.2 h.2.2⟩
theorem An (f:Int->Int) (r:List Int):1<=gu f r/\gu f r<=2*r.length+1:=by
 have h1:=List.findIdx_le_length (xs:=r) (p:=λx=>decide (f x=1));have h2:=List.findIdx_le_length (xs:=r) (p:=λx=>decide (f x=2));unfold gu;split
 ·omega
 ·split<;>omega
theorem FZ {rv gv bv:LV}{r bX bad:List Int}(g:aM rv r) (K:sL r) (hg:aM gv bX) (hb:aM bv bad) :
 PE 41 [rv, .agg [gv,bv]] (λv=>∃ P,v = .cy [P, .int .i64 (gu (marks bX bad r.length) r:Int)]/\aM P (n6 (marks bX bad r.length) r)):=by
 have rL:=g.closed;have o:=g.sl.len;have Xh:=hg.closed;have Vq:=hb.closed;have nU:=hg.sl.cell;have eE:=hb.sl.cell;have ze:=K.1;have tN:maxLen=9223372036854775807:=by decide
 have hvalid:=Dl g;rw[decide_eq_true K]at hvalid;have Ce:=λs=>NS hg hb (n:=r.length) (s:=s);generalize marks bX bad r.length=f at *;refine n8 Try.func41 (by decide +kernel) c41 (Nat.le_of_ble_eq_true rfl) (by simp[LV.closed.aq,LV.closed,rL,Xh,Vq]) ?_;refine pF λe u e1=>?_;unfold l41;dsimp only[jA,jG,qN,qS,qI,qA,qB,qC,qO,qm,ql];repeat' (first | refine gA @o ?_ | (refine gB @o ?_;rintro (_|_) a<;>try simp only[aG,reduceCtorEq]at a) | apply aA | fail)
 refine dR ez (hvalid) (by first | exact wN | (apply wG;(simp only[lk,Nat.reduceEqDiff,reduceIte,u,e1];(try rfl);done))) (by simp only[List.map,lk,Nat.reduceEqDiff,reduceIte];try rfl) (by first | trivial | (simp only[cH,aE,aR.run,Env.au,Env.bI,svq,Nat.reduceEqDiff,Nat.reduceAdd,Nat.reduceLeDiff,reduceIte,aT,eH,List.map,bC,beq_self_eq_true,reduceCtorEq,false_or,true_and,and_true,Option.some.injEq, *];done)) ?_;simp only[Env.au];clear hvalid;repeat' (first | refine gA @o ?_ | (refine gB @o ?_;rintro (_|_) a<;>try simp only[aG,reduceCtorEq]at a) | apply aA | fail)
 refine bH wN (fv:=.fn (.func 53) [] []) (vs:=[.agg [gv,bv], .int .i64 (r.length:Int)]) ef (by simp only[List.map,lk,dJ,Nat.reduceEqDiff,if_false,if_true,List.map]) (aJ.mono (Ce _) λv c h=>⟨trivial,?_⟩);obtain⟨M,E,rfl,-,-,hM,gM,kM,-⟩:=h;simp only[Env.au];repeat' (first | refine gA trivial ?_ | (refine gB trivial ?_;rintro (_|_) a<;>try simp only[aG,reduceCtorEq]at a) | apply aA | fail)
 refine eN (v:=.aD (c.n+1) 0 0 1) (s':=((c.new (.cells .mut [.bN])).put c.n (.cells .mut [.aI M])).new (.cells .mut [])) (by
  have h1:(r.length:Int)*8<=big:=by unfold big;omega
  have h2:(r.length:Int)<=big:=by unfold big;omega
  simp only[aR.run,lk,dJ,gW,Nat.reduceEqDiff,if_false,if_true,List.map];rw[if_pos ⟨Int.le_refl _,by omega,h1,h2,trivial⟩];rfl) ?_
 have n4:(((c.new (.cells .mut [.bN])).put c.n (.cells .mut [.aI M])).new (.cells .mut [])).n=c.n+2:=rfl;have g4:(((c.new (.cells .mut [.bN])).put c.n (.cells .mut [.aI M])).new (.cells .mut [])).get c.n=some (.cells .mut [.aI M]):=by rw[St.az,if_neg (by simp),St.ah,if_pos rfl]
 have m4:(((c.new (.cells .mut [.bN])).put c.n (.cells .mut [.aI M])).new (.cells .mut [])).get M=some (.map (mG cV E)):=by rw[St.az,if_neg (by simp;omega),St.ah,if_neg om,St.az,if_neg om];exact gM
 have a4:(((c.new (.cells .mut [.bN])).put c.n (.cells .mut [.aI M])).new (.cells .mut [])).get (c.n+1)=some (.cells .mut (ints [])):=by rw[St.az,if_pos (by simp)];rfl
 generalize ((c.new (.cells .mut [.bN])).put c.n (.cells .mut [.aI M])).new (.cells .mut [])=s4 at *;have hjM:M<c.n:=hM;generalize c.n=d at *;clear gM Ce;clear c;repeat' (first | refine gA @o ?_ | (refine gB @o ?_;rintro (_|_) a<;>try simp only[aG,reduceCtorEq]at a) | apply aA | fail)
 refine aS (λm e s=>∃ (k:Nat) (j:Nat),m=r.length - k/\k<=r.length/\s.get d=some (.cells .mut [.aI M])/\s.get M=some (.map (mG cV E))/\d<j/\j<s.n/\s.get j=some (.cells .mut (ints ((r.take k).filter λx=>!decide (f x=2))))/\e.at 0=rv/\e.at 6 = .int .i64 (r.length:Int)/\e.at 8 = .fn (.func 54) [] [.aH d 0]/\e.at 9 = .fn (.func 55) [] [.aH d 0]/\e.at 10 = .aD j 0 ((r.take k).filter λx=>!decide (f x=2)).length 1/\e.at 30=rv/\e.at 31 = .int .i64 (r.length:Int)/\e.at 32 = .int .i64 (k:Int)) _
  ⟨0,d+1,rfl,by omega,g4,m4,by omega,by omega,by simpa using a4,ef,ef,by simp only[List.map,lk,dJ,Nat.reduceEqDiff,if_false,if_true,List.map],by simp only[List.map,lk,dJ,Nat.reduceEqDiff,if_false,if_true,List.map],by simp only[lk,dJ,gW,Nat.reduceEqDiff,if_false,if_true,List.map];simp,ef,ef,by simp only[lk,dJ,Nat.reduceEqDiff,if_false,if_true,List.map];rfl⟩ ?_
 clear u e1 g4 m4 a4 n4;clear e s4;rintro m e s ⟨k,j,rfl,hk,gj,gM,Q,y,q,u,L,N,O,z,Q8,X3,Mb⟩;by_cases fB:k<r.length
 ·have uB:(k:Int)<(r.length:Int):=by omega
  have R:IntKind.i64.wrap ((k:Int)+1)=((k+1:Nat):Int):=by rw[wrap_i64 _ om om];rfl
  have w:=bu uB;have T:r.take (k+1)=r.take k++[r.getD k 0]:=by rw[List.take_add_one,gD,gE fB];rfl
  have uX:=List.length_filter_le (λx=>!decide (f x=2)) (r.take k);rw[List.length_take]at uX;generalize r.getD k 0=x at *;have U:=Bx.mk T;clear T;have i:=Hw gj gM kM x;by_cases hx:f x=2
  ·rw[decide_eq_true hx]at i;have t:Bx ((r.take (k+1)).filter (λx=>!decide (f x=2))=(r.take k).filter (λx=>!decide (f x=2))):=⟨by rw[U.out,List.filter_append];simp[hx]⟩;clear hx;repeat' (first | refine gA (And.intro (@cw _ _ _ g.sl) @w) ?_ | (refine gB (And.intro (@cw _ _ _ g.sl) @w) ?_;intro l a;cases l<;>(try simp only[aG]at a)) | apply aA | fail)
   all_goals first | (exfalso;first | omega | exact a.elim) | skip
   refine bH wN (fv:=.fn (.func 54) [] [.aH d 0]) (vs:=[.int .i64 x]) ef (by simp only[List.map,lk,Nat.reduceEqDiff,if_false,if_true,List.map]) (aJ.mono i λb c h=>⟨trivial,?_⟩);obtain⟨h2,rfl⟩:=h;subst c;simp only[Env.au];clear i;repeat' (first | refine gA trivial ?_ | (refine gB trivial ?_;rintro (_|_) a<;>try simp only[aG,reduceCtorEq]at a) | apply aA | fail)
   refine⟨r.length - (k+1),by omega,k+1,j,rfl,by omega,gj,gM,Q,y,by rw[t.out];exact q,?_⟩;rw[t.out];simp only[lk,dJ,Nat.reduceEqDiff,if_false,if_true,R,u,L,N,O,z,Q8,X3,and_self]
  ·rw[decide_eq_false hx]at i;have t:Bx ((r.take (k+1)).filter (λx=>!decide (f x=2))=(r.take k).filter (λx=>!decide (f x=2))++[x]):=⟨by rw[U.out,List.filter_append];simp[hx]⟩;clear hx;repeat' (first | refine gA (And.intro (@cw _ _ _ g.sl) @w) ?_ | (refine gB (And.intro (@cw _ _ _ g.sl) @w) ?_;intro l a;cases l<;>(try simp only[aG]at a)) | apply aA | fail)
   all_goals first | (exfalso;first | omega | exact a.elim) | skip
   refine bH wN (fv:=.fn (.func 54) [] [.aH d 0]) (vs:=[.int .i64 x]) ef (by simp only[List.map,lk,Nat.reduceEqDiff,if_false,if_true,List.map]) (aJ.mono i λb c h=>⟨trivial,?_⟩);obtain⟨h2,rfl⟩:=h;subst c;simp only[Env.au];clear i;generalize hLL:(r.take k).filter (λx=>!decide (f x=2))=B at *;repeat' (first | refine gA trivial ?_ | (refine gB trivial ?_;rintro (_|_) a<;>try simp only[aG,reduceCtorEq]at a) | apply aA | fail)
   refine uJ (n:=B.length) (aU:=1) (xv:=.int .i64 x) (yv:=.aD j 0 B.length 1) (vs:=[.int .i64 x]) (cells:=ints B) ef rfl rfl rfl (qi.closed rfl) ef ⟨by simp, .inr ⟨j,[],rfl,y,by rw[List.append_nil];exact q⟩⟩ (by decide) om (λV j3 a1 a2 a3 a4 a5 a6=>?_);have C:V.get d=some (.cells .mut [.aI M]):=by rw[a6 d om λD=>by have:=aC.1 D;omega];exact gj
   have F:V.get M=some (.map (mG cV E)):=by rw[a6 M om λD=>by have:=aC.1 D;omega];exact gM
   clear a4;repeat' (first | refine gA trivial ?_ | (refine gB trivial ?_;rintro (_|_) a<;>try simp only[aG,reduceCtorEq]at a) | apply aA | fail)
   refine⟨r.length - (k+1),by omega,k+1,j3,rfl,by omega,C,F,by omega,a2,by rw[t.out,a3];simp[ints],?_⟩;rw[t.out];simp only[lk,dJ,gW,Nat.reduceEqDiff,if_false,if_true,R,u,L,N,O,Q8,X3,List.length_append,and_self]
 ·have lU:k=r.length:=by omega
  subst lU;rw[List.take_length]at q z;repeat' (first | refine gA @o ?_ | (refine gB @o ?_;intro l a;cases l<;>(try simp only[aG]at a)) | apply aA | fail)
  all_goals first | (exfalso;first | omega | exact a.elim) | skip
  have hAl:=List.length_filter_le (λx=>!decide (f x=2)) r;have X:n6 f r=(r.filter λx=>!decide (f x=2))++r.filter (λx=>decide (f x=2)):=rfl;have Y:=HZ (f:=f) K;have Ph:=(je f r).length_eq;generalize (r.filter λx=>!decide (f x=2))=A at *;have Z:=Bx.mk X;have ED:=Bx.mk (And.intro Y Ph);clear Y Ph X;refine aS (λm e s=>∃ (k:Nat) (j:Nat),m=r.length - k/\k<=r.length/\s.get d=some (.cells .mut [.aI M])/\s.get M=some (.map (mG cV E))/\d<j/\j<s.n/\s.get j=some (.cells .mut (ints (A++(r.take k).filter λx=>decide (f x=2))))/\e.at 0=rv/\e.at 6 = .int .i64 (r.length:Int)/\e.at 8 = .fn (.func 54) [] [.aH d 0]/\e.at 9 = .fn (.func 55) [] [.aH d 0]/\e.at 10 = .aD j 0 (A++(r.take k).filter λx=>decide (f x=2)).length 1/\e.at 45=rv/\e.at 46 = .int .i64 (r.length:Int)/\e.at 47 = .int .i64 (k:Int)) _
   ⟨0,j,rfl,by omega,gj,gM,Q,y,by simpa using q,ef,ef,ef,ef,by simp only[lk,gW,Nat.reduceEqDiff,if_false,z];simp,ef,ef,by simp only[lk,Nat.reduceEqDiff,if_false,if_true];rfl⟩ ?_
  clear u L N O z Q8 X3 Mb q gj gM Q y fB hk a;clear e s j;rintro m e s ⟨k,j,rfl,hk,gj,gM,Q,y,q,u,L,N,O,z,e45,e46,e47⟩;by_cases fB:k<r.length
  ·have uB:(k:Int)<(r.length:Int):=by omega
   have R:IntKind.i64.wrap ((k:Int)+1)=((k+1:Nat):Int):=by rw[wrap_i64 _ om om];rfl
   have w:=bu uB;have T:r.take (k+1)=r.take k++[r.getD k 0]:=by rw[List.take_add_one,gD,gE fB];rfl
   have uX:=List.length_filter_le (λx=>decide (f x=2)) (r.take k);rw[List.length_take]at uX;generalize r.getD k 0=x at *;have U:=Bx.mk T;clear T;have i:=Hw gj gM kM x;by_cases hx:f x=2
   ·rw[decide_eq_true hx]at i;have t:Bx ((A++(r.take (k+1)).filter (λx=>decide (f x=2)))=(A++(r.take k).filter (λx=>decide (f x=2)))++[x]):=⟨by rw[U.out,List.filter_append];simp[hx]⟩;clear hx;repeat' (first | refine gA (And.intro (@cw _ _ _ g.sl) @w) ?_ | (refine gB (And.intro (@cw _ _ _ g.sl) @w) ?_;intro l a;cases l<;>(try simp only[aG]at a)) | apply aA | fail)
    all_goals first | (exfalso;first | omega | exact a.elim) | skip
    refine bH wN (fv:=.fn (.func 54) [] [.aH d 0]) (vs:=[.int .i64 x]) ef (by simp only[List.map,lk,Nat.reduceEqDiff,if_false,if_true,List.map]) (aJ.mono i λb c h=>⟨trivial,?_⟩);obtain⟨h2,rfl⟩:=h;subst c;simp only[Env.au];clear i;have hLl:(A++(r.take k).filter (λx=>decide (f x=2))).length<=12000:=by rw[List.length_append];omega
    generalize (A++(r.take k).filter (λx=>decide (f x=2)))=B at *;repeat' (first | refine gA trivial ?_ | (refine gB trivial ?_;rintro (_|_) a<;>try simp only[aG,reduceCtorEq]at a) | apply aA | fail)
    refine uJ (n:=B.length) (aU:=1) (xv:=.int .i64 x) (yv:=.aD j 0 B.length 1) (vs:=[.int .i64 x]) (cells:=ints B) ef rfl rfl rfl (qi.closed rfl) ef ⟨by simp, .inr ⟨j,[],rfl,y,by rw[List.append_nil];exact q⟩⟩ (by decide) om (λV j3 a1 a2 a3 a4 a5 a6=>?_);have C:V.get d=some (.cells .mut [.aI M]):=by rw[a6 d om λD=>by have:=aC.1 D;omega];exact gj
    have F:V.get M=some (.map (mG cV E)):=by rw[a6 M om λD=>by have:=aC.1 D;omega];exact gM
    clear a4;repeat' (first | refine gA trivial ?_ | (refine gB trivial ?_;rintro (_|_) a<;>try simp only[aG,reduceCtorEq]at a) | apply aA | fail)
    refine⟨r.length - (k+1),by omega,k+1,j3,rfl,by omega,C,F,by omega,a2,by rw[t.out,a3];simp[ints],?_⟩;rw[t.out];simp only[lk,dJ,gW,Nat.reduceEqDiff,if_false,if_true,R,u,L,N,O,e45,e46,List.length_append,and_self]
   ·rw[decide_eq_false hx]at i;have t:Bx ((A++(r.take (k+1)).filter (λx=>decide (f x=2)))=(A++(r.take k).filter (λx=>decide (f x=2)))):=⟨by rw[U.out,List.filter_append];simp[hx]⟩;clear hx;repeat' (first | refine gA (And.intro (@cw _ _ _ g.sl) @w) ?_ | (refine gB (And.intro (@cw _ _ _ g.sl) @w) ?_;intro l a;cases l<;>(try simp only[aG]at a)) | apply aA | fail)
    all_goals first | (exfalso;first | omega | exact a.elim) | skip
    refine bH wN (fv:=.fn (.func 54) [] [.aH d 0]) (vs:=[.int .i64 x]) ef (by simp only[List.map,lk,Nat.reduceEqDiff,if_false,if_true,List.map]) (aJ.mono i λb c h=>⟨trivial,?_⟩);obtain⟨h2,rfl⟩:=h;subst c;simp only[Env.au];clear i;repeat' (first | refine gA trivial ?_ | (refine gB trivial ?_;rintro (_|_) a<;>try simp only[aG,reduceCtorEq]at a) | apply aA | fail)
    refine⟨r.length - (k+1),by omega,k+1,j,rfl,by omega,gj,gM,Q,y,by rw[t.out];exact q,?_⟩;rw[t.out];simp only[lk,Nat.reduceEqDiff,if_false,if_true,R,u,L,N,O,z,e45,e46,and_self]
  ·have lU:k=r.length:=by omega
   subst lU;rw[List.take_length,<- Z.out]at q z;have CU:=Nr g om (s:=s) λx=>Hw gj gM kM x;have Fi:=Nr g om (s:=s) λx=>TE gj gM kM x;have eE:=List.findIdx_le_length (xs:=r) (p:=λx=>decide (f x=1));have kT:=List.findIdx_le_length (xs:=r) (p:=λx=>decide (f x=2));have G:Bx (gu f r=if r.findIdx (λx=>decide (f x=1))<r.findIdx (λx=>decide (f x=2)) then 2*r.findIdx (λx=>decide (f x=1))+2 else if r.findIdx (λx=>decide (f x=2))<r.findIdx (λx=>decide (f x=1)) then 2*r.findIdx (λx=>decide (f x=2))+1 else 2*r.length+1):=⟨rfl⟩;generalize gu f r=pr at *;generalize r.findIdx (λx=>decide (f x=1))=kg at *;generalize r.findIdx (λx=>decide (f x=2))=kb at *;have iD:∀ (s':St) (v:LV),v = .cy [.aD j 0 (n6 f r).length 1, .int .i64 (pr:Int)]->∃ H s',cK aY v s=some (H,s')/\H.closed=true/\∃ P,H = .cy [P, .int .i64 (pr:Int)]/\aM P (n6 f r):=by
    intro s' v K;subst K;refine⟨_,_,Cr q (by simp) (bD _) rfl,by simp[LV.closed,LV.closed.aq,bD],_,rfl, .aB _ _,by rw[ED.out.2];omega,λx hx=>?_⟩;have:=ED.out.1.2.1 x hx;rw[ED.out.2]at this;unfold cF;constructor<;>omega
   have I:IntKind.i64.wrap (2*(kg:Int))=2*(kg:Int):=wrap_i64 _ om om;have WB:IntKind.i64.wrap (2*(kg:Int)+2)=2*(kg:Int)+2:=wrap_i64 _ om om;have J:IntKind.i64.wrap (2*(kb:Int))=2*(kb:Int):=wrap_i64 _ om om;have WC:IntKind.i64.wrap (2*(kb:Int)+1)=2*(kb:Int)+1:=wrap_i64 _ om om;have On:IntKind.i64.wrap (2*(r.length:Int))=2*(r.length:Int):=wrap_i64 _ om om;have WA:IntKind.i64.wrap (2*(r.length:Int)+1)=2*(r.length:Int)+1:=wrap_i64 _ om om;have OX:=Bx.mk iD;clear iD q ED Z K;repeat' (first | refine gA @o ?_ | (refine gB @o ?_;intro l a;cases l<;>(try simp only[aG]at a)) | apply aA | fail)
   all_goals first | (exfalso;first | omega | exact a.elim) | skip
   refine bH wN (fv:=.fn (.func 56) [] []) (vs:=[rv, .fn (.func 54) [] [.aH d 0]]) ef (by simp only[List.map,lk,Nat.reduceEqDiff,if_false,if_true,List.map]) (aJ.mono CU λb c h=>⟨trivial,?_⟩);obtain⟨h2,rfl⟩:=h;subst c;simp only[Env.au];repeat' (first | refine gA @o ?_ | (refine gB @o ?_;rintro (_|_) a<;>try simp only[aG,reduceCtorEq]at a) | apply aA | fail)
   refine bH wN (fv:=.fn (.func 56) [] []) (vs:=[rv, .fn (.func 55) [] [.aH d 0]]) ef (by simp only[List.map,lk,Nat.reduceEqDiff,if_false,if_true,List.map]) (aJ.mono Fi λb c h=>⟨trivial,?_⟩);obtain⟨h2,rfl⟩:=h;subst c;simp only[Env.au];clear CU Fi;repeat' (first | refine gA (And.intro @I (And.intro @WB (And.intro @J (And.intro @WC (And.intro @On @WA))))) ?_ | (refine gB (And.intro @I (And.intro @WB (And.intro @J (And.intro @WC (And.intro @On @WA))))) ?_;intro l a;cases l<;>(try simp only[aG]at a)) | apply aA | fail)
   ·refine⟨.inr trivial, .cy [.aD j 0 (n6 f r).length 1, .int .i64 (pr:Int)],?_,OX.out s _ rfl⟩;have KH:(pr:Int)=2*(r.length:Int)+1:=by
     have:=G.out;rw[if_neg om,if_neg om]at this;omega
    rw[KH];simp[br,bO,On,WA]
   ·refine⟨.inr trivial, .cy [.aD j 0 (n6 f r).length 1, .int .i64 (pr:Int)],?_,OX.out s _ rfl⟩;have KH:(pr:Int)=2*(kb:Int)+1:=by
     have:=G.out;rw[if_neg om,if_pos om]at this;omega
    rw[KH];simp[br,bO,J,WC]
   ·refine⟨.inr trivial, .cy [.aD j 0 (n6 f r).length 1, .int .i64 (pr:Int)],?_,OX.out s _ rfl⟩;have KH:(pr:Int)=2*(kg:Int)+2:=by
     have:=G.out;rw[if_pos om]at this;omega
    rw[KH];simp[br,bO,I,WB]
def T8 (m:Nat) (r:Nat->Nat):Prop:=(∀ T,∃ i,T<=i/\r i=m)/\∃ T,∀ i,T<=i->m<=r i
def wE (r:List Int) (v:Int) (k:Nat):Prop:=∃ a c,r=a++v::c/\v ∉ a/\a.length=k
theorem RS {r:List Int}{v:Int}(h:v∈r):∃ k,wE r v k:=by
 obtain⟨a,c,rfl,b⟩:=List.eq_append_cons_of_mem h;exact⟨_,a,c,rfl,b,rfl⟩
theorem JS {r:List Int}{v:Int}{k:Nat}{f:Int->Int}(h:wE r v k) (d:f v≠2):∃ b,b<=k/\wE (n6 f r) v b/\(b=k->k+1<=r.findIdx (λx=>decide (f x=2))/\k+1<=r.length):=by
 obtain⟨a,c,rfl,g,rfl⟩:=h;refine⟨(a.filter λx=>!decide (f x=2)).length,List.length_filter_le _ _,⟨a.filter λx=>!decide (f x=2),(c.filter λx=>!decide (f x=2))++((a++v::c).filter λx=>decide (f x=2)),?_,λhm=>g (List.mem_filter.1 hm).1,rfl⟩,λe=>?_⟩
 ·have i:(!decide (f v=2))=true:=by simp[d]
  unfold n6;rw[List.filter_append,List.filter_cons_of_pos (p:=λx=>!decide (f x=2)) i];simp
 ·have j:∀ x∈a,f x≠2:=λx hx=>by
   have:=List.length_filter_eq_length_iff.1 e x hx;simpa using this
  refine⟨?_,by simp⟩;rw[List.findIdx_append];have h1:a.findIdx (λx=>decide (f x=2))=a.length:=List.findIdx_eq_length.2 λx hx=>by simp[j x hx]
  rw[if_neg om,List.findIdx_cons];simp only[d,decide_false,cond_false];omega
theorem JT {r:List Int}{v:Int}{k:Nat}{f:Int->Int}(h:wE r v k) (b:f v=1):r.findIdx (λx=>decide (f x=1))<=k:=by
 obtain⟨a,c,rfl,d,rfl⟩:=h;rw[List.findIdx_append];split
 ·omega
 ·rw[List.findIdx_cons];simp[b]
theorem Dn {r:List Int}{k:Nat}{f:Int->Int}(g:k+1<=r.findIdx (λx=>decide (f x=2))) (hl:k<r.length):(n6 f r).getD k 0=r.getD k 0/\f (r.getD k 0)≠2:=by
 have b:∀ j (a:j<k+1),f (r[j]'(by omega))≠2:=λj a e=>by
  have:=List.not_of_lt_findIdx (p:=λx=>decide (f x=2)) (xs:=r) (i:=j) om;simp[e]at this
 have c:(r.take (k+1)).filter (λx=>!decide (f x=2))=r.take (k+1):=List.filter_eq_self.2 λx hx=>by
  obtain⟨j,a,rfl⟩:=List.getElem_of_mem hx;rw[List.length_take]at a;rw[List.getElem_take];simp[b j om]
 have d:n6 f r=r.take (k+1)++((r.drop (k+1)).filter (λx=>!decide (f x=2))++r.filter (λx=>decide (f x=2))):=by
  unfold n6;rw[<- List.append_assoc];congr 1;conv=>lhs;rw[<- List.take_append_drop (k+1) r]
  rw[List.filter_append,c]
 constructor
 ·rw[d,gD,List.getElem?_append_left (by rw[List.length_take];omega),List.getElem?_take,if_pos om,<- gD]
 ·have:=b k om;rw[gD,gE hl];exact this
theorem jL (f:Int->Int) (r:List Int):(r.findIdx (λx=>decide (f x=1))<r.findIdx (λx=>decide (f x=2))/\gu f r=2*r.findIdx (λx=>decide (f x=1))+2)∨(r.findIdx (λx=>decide (f x=2))<r.findIdx (λx=>decide (f x=1))/\gu f r=2*r.findIdx (λx=>decide (f x=2))+1)∨(r.findIdx (λx=>decide (f x=2))=r.length/\r.findIdx (λx=>decide (f x=1))=r.length/\gu f r=2*r.length+1):=by
 have h1:=List.findIdx_le_length (xs:=r) (p:=λx=>decide (f x=1));have h2:=List.findIdx_le_length (xs:=r) (p:=λx=>decide (f x=2));unfold gu;by_cases a:r.findIdx (λx=>decide (f x=1))<r.findIdx (λx=>decide (f x=2))
 ·exact .inl ⟨a,if_pos a⟩
 ·by_cases b:r.findIdx (λx=>decide (f x=2))<r.findIdx (λx=>decide (f x=1))
  ·exact .inr (.inl ⟨b,by rw[if_neg a,if_pos b]⟩)
  ·suffices hx:r.findIdx (λx=>decide (f x=2))=r.length by
    exact .inr (.inr ⟨hx,by omega,by rw[if_neg a,if_neg b]⟩)
   rcases Nat.lt_or_ge (r.findIdx (λx=>decide (f x=2))) r.length with c | c
   ·have e:r.findIdx (λx=>decide (f x=1))=r.findIdx (λx=>decide (f x=2)):=by omega
    have g2:=List.findIdx_getElem (xs:=r) (p:=λx=>decide (f x=2)) (w:=c);have g1:=List.findIdx_getElem (xs:=r) (p:=λx=>decide (f x=1)) (w:=by omega);simp only[e,decide_eq_true_eq]at g1 g2;omega
   ·omega
theorem RG {n:Nat}{r:Nat->List Int}{f:Nat->Int->Int}(hl:∀ i,(r i).length=n) (hs:∀ i,r (i+1)=n6 (f i) (r i)) (H:∀ x∈r 0,1<=x/\x<=(n:Int)) (N:∀ v:Int,1<=v->v<=(n:Int)->v∈r 0) {m:Nat}(hm:T8 m λi=>gu (f i) (r i)) :
 m % 2=0↔∃ v:Int,1<=v/\v<=(n:Int)/\(∀ T,∃ i,T<=i/\f i v=1)/\∃ T,∀ i,T<=i->f i v≠2:=by
 have I:∀ i v,v∈r i↔v∈r 0:=by
  intro i;induction i with
  | zero=>intro v;rfl
  | succ i ih=>intro v;rw[hs i,(je _ _).mem_iff];exact ih v
 obtain⟨o,T0,t⟩:=hm;have o:∀ T,∃ i,T<=i/\gu (f i) (r i)=m:=o;have t:∀ i,T0<=i->m<=gu (f i) (r i):=t;constructor
 ·intro he;obtain⟨h,GX,Fj⟩:=o T0;have O:∃ k,m=2*k+2/\k<n:=by
   have:=hl h;have h2:=List.findIdx_le_length (xs:=r h) (p:=λx=>decide (f h x=2));rcases jL (f h) (r h) with⟨a,b⟩ | ⟨a,b⟩ | ⟨a,u,b⟩
   ·exact⟨(r h).findIdx (λx=>decide (f h x=1)),by omega,by omega⟩
   ·omega
   ·omega
  obtain⟨k,rfl,z⟩:=O;have A:∀ i,T0<=i->k+1<=(r i).findIdx (λx=>decide (f i x=2)):=λi d=>by
   have h1:=t i d;have:=hl i;rcases jL (f i) (r i) with⟨a,b⟩ | ⟨a,b⟩ | ⟨a,u,b⟩<;>omega
  have P:∀ j,(r (T0+j)).getD k 0=(r T0).getD k 0:=by
   intro j;induction j with
   | zero=>rfl
   | succ j ih=>
     rw[show T0+(j+1)=T0+j+1 from rfl,hs,(Dn (A _ om) (by rw[hl];exact z)).1];exact ih
  have J:∀ i,T0<=i->(r i).getD k 0=(r T0).getD k 0:=λi d=>by
   have:=P (i - T0);rwa[show T0+(i - T0)=i by omega]at this
  have K:(r T0).getD k 0∈r 0:=by
   rw[<- I T0,gD,gE (by rw[hl];exact z)];exact List.getElem_mem _
  refine⟨(r T0).getD k 0,(H _ K).1,(H _ K).2,λU=>?_,T0,λi d=>?_⟩
  ·obtain⟨i,d,q⟩:=o (max T0 U);have q:gu (f i) (r i)=2*k+2:=q;refine⟨i,by omega,?_⟩;have:=hl i;have iT:=A i om;rcases jL (f i) (r i) with⟨a,b⟩ | ⟨a,b⟩ | ⟨a,u,b⟩
   ·have e:(r i).findIdx (λx=>decide (f i x=1))=k:=by omega
    have g1:=List.findIdx_getElem (xs:=r i) (p:=λx=>decide (f i x=1)) (w:=by omega);simp only[e,decide_eq_true_eq]at g1;rw[<- J i om,gD,gE om];exact g1
   ·omega
   ·omega
  ·rw[<- J i d];exact (Dn (A i d) (by rw[hl];exact z)).2
 ·rintro⟨v,h1,h2,Q,T,R⟩;have V:∀ i,v∈r i:=λi=>(I i v).2 (N v h1 h2);have X:∀ b,(∃ c,c<=b/\∃ i,T<=i/\wE (r i) v c)->∃ c i,T<=i/\wE (r i) v c/\∀ l s,T<=s->wE (r s) v l->c<=l:=by
   intro b;induction b with
   | zero=>
     rintro⟨c,Y,i,d,B⟩;exact⟨c,i,d,B,λl s _ _=>by omega⟩
   | succ b ih=>
     rintro⟨c,Y,i,d,B⟩;by_cases hx:∃ c,c<=b/\∃ i,T<=i/\wE (r i) v c
     ·exact ih hx
     ·refine⟨c,i,d,B,λl s Z yu=>?_⟩;rcases Nat.lt_or_ge l c with e | e
      ·exact absurd ⟨l,by omega,s,Z,yu⟩ hx
      ·exact e
  obtain⟨L,uC⟩:=RS (V T);obtain⟨k,g,L7,CU,C⟩:=X L ⟨L,Nat.le_refl _,T,Nat.le_refl _,uC⟩;have D:∀ i,T<=i->wE (r i) v k->wE (r (i+1)) v k/\k+1<=(r i).findIdx (λx=>decide (f i x=2))/\k+1<=(r i).length:=λi d hp=>by
   obtain⟨k',h3,y,h5⟩:=JS hp (R i d);rw[<- hs i]at y;have:=C _ _ om y;have e:k'=k:=by omega
   subst e;exact⟨y,h5 rfl⟩
  have oe:∀ j,wE (r (g+j)) v k:=by
   intro j;induction j with
   | zero=>exact CU
   | succ j ih=>exact (D (g+j) om ih).1
  have E:∀ i,g<=i->wE (r i) v k:=λi d=>by
   have:=oe (i - g);rwa[show g+(i - g)=i by omega]at this
  have F:∀ i,g<=i->gu (f i) (r i)<=2*k+2->gu (f i) (r i) % 2=0:=λi d cm=>by
   have:=(D i om (E i d)).2;rcases jL (f i) (r i) with⟨a,b⟩ | ⟨a,b⟩ | ⟨a,u,b⟩<;>omega
  have G:∀ U,∃ i,U<=i/\gu (f i) (r i)<=2*k+2:=λU=>by
   obtain⟨i,d,Ex⟩:=Q (max U g);refine⟨i,by omega,?_⟩;have h3:=JT (E i om) Ex;have y:=(D i om (E i om)).2;rcases jL (f i) (r i) with⟨a,b⟩ | ⟨a,b⟩ | ⟨a,u,b⟩<;>omega
  have hmk:m<=2*k+2:=by
   obtain⟨i,d,M⟩:=G T0;have:m<=gu (f i) (r i):=t i d;omega
  obtain⟨i,d,q⟩:=o g;have q:gu (f i) (r i)=m:=q;have:=F i d om;omega
end Go.Proofs.Ytkbiecjdcjfhaaa
end
