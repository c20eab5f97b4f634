/- The document's records: In, Valid, Start. -/
import Derived.Test.YtkbiecjdcjfhaaaGreatRecv
import Derived.Test.YtkbiecjdcjfhaaaGreatTbase
import Derived.Test.YtkbiecjdcjfhaaaGreatPvQ
import Derived.Test.YtkbiecjdcjfhaaaGreatPvKM
set_option linter.unusedSimpArgs false
set_option linter.unusedVariables false
set_option maxRecDepth 100000
set_option maxHeartbeats 16000000
section
namespace Go.Proofs.YtkbiecjdcjfhaaaGreat
open Go Go.Pv
open Classical
theorem G6 {l:List Int}{i:Nat}(h:i<l.length):l.take (i+1)=l.take i++[l.getD i 0]:=by
 rw[List.take_add_one,gD,gE h];rfl
theorem fz_skc {s:St}{w:LV}{l:List Int}{n:Nat}(h:ek s w 1 (ints l) n) (hl:l.length=n) (c:n<=1000000) (a:∀ x∈l,bU x):∃ r s',cY bp w s=some (r,s')/\aP r l:=by
 have d:=lG;obtain⟨h0,⟨rfl,h1⟩ | ⟨j,rfl,h1,h2,h3⟩⟩:=h
 ·subst h1;have:l=[]:=List.length_eq_zero_iff.1 hl;subst this;exact⟨_,_,bk rfl, .nil,by simp,a⟩
 ·have b:cY bp (.aE j 0 n 1) s=some (.aF (ints l) n,s.put j (.cells .app (ints l))):=gQ (len:=n) 38 h3 (by simp[hl]) (bI _);refine⟨_,_,b,?_,?_,a⟩
  ·rw[<- hl];exact .aF _ _
  ·omega
theorem nI {v:LV}{l:List Int}(a:aP v l) (n:Int):PO 82 [v, .int .i64 n] (.bool (decide (n∈l))):=by
 have d:=a.sl.len;have w:=a.len;have y:=lG;refine gO (t:=4) hm Tryz.func82 br c82 bw (by simp[LV.closed.au,LV.closed,a.closed]) rfl rfl ?_;refine mH λe f g=>?_;unfold l82;dsimp only[jA,qS,qI,qA,qB,qC,qK,qm,ql,qR];repeat' (first|refine aG @d ?_|(first|apply ah|apply af)<;>intro b)
 refine aN (λm e s=>s=St.empty/\∃ i:Nat,m=l.length - i/\i<=l.length/\n ∉ l.take i/\e.at 0=v/\e.at 1 = .int .i64 n/\e.at 5 = .int .i64 (i:Int)) l.length ⟨rfl,0,rfl,Nat.zero_le _,by simp,ef,ef,by simp only[lk,Nat.reduceEqDiff,if_false,if_true];rfl⟩ ?_;clear f g;clear e;rintro m e s ⟨hs,i,rfl,z,c,f,g,A⟩;subst hs;by_cases j:i<l.length
 ·have k:(i:Int)<(l.length:Int):=by omega
  have o:=@bQ i om;have p:=bB k;have q:=Bx.mk (G6 j);have r:Bx (l.getD i 0∈l):=⟨by rw[gD,gE j];exact List.getElem_mem _⟩;generalize l.getD i 0=x at *;have u:=Bx.mk c;clear c;repeat' (first|refine aH (aj @d (aj (@cU _ _ _ a.sl) @p)) ?_|(first|apply ah|apply af)<;>intro b)
  ·refine⟨l.length - (i+1),by omega,trivial,i+1,rfl,by omega,?_,?_⟩
   ·rw[q.out];intro h;rcases List.mem_append.1 h with h | h
    ·exact u.out h
    ·exact b (List.mem_singleton.1 h).symm
   ·simp only[lk,Nat.reduceEqDiff,if_false,if_true,o,f,g,and_self]
  ·refine⟨.inr trivial,?_⟩;rw[decide_eq_true (show n∈l from by rw[<- b];exact r.out)];exact ef
 ·repeat' (first|refine aH @d ?_|(first|apply ah|apply af)<;>intro b)
  refine⟨.inr trivial,?_⟩;rw[show i=l.length by omega,List.take_length]at c;rw[decide_eq_false c];exact ef
theorem Eh {v:LV}{l:List Int}(a:aP v l) (n:Int):PO 63 [v, .int .i64 n] (.bool (decide (n∈l))):=by
 have d:=a.sl.len;have w:=a.len;have y:=lG;refine gO (t:=4) hm Tryz.func63 br c63 bw (by simp[LV.closed.au,LV.closed,a.closed]) rfl rfl ?_;refine mH λe f g=>?_;unfold l63;dsimp only[jA,qS,qI,qA,qB,qC,qK,qm,ql,qR];repeat' (first|refine aG @d ?_|(first|apply ah|apply af)<;>intro b)
 refine aN (λm e s=>s=St.empty/\∃ i:Nat,m=l.length - i/\i<=l.length/\n ∉ l.take i/\e.at 0=v/\e.at 1 = .int .i64 n/\e.at 5 = .int .i64 (i:Int)) l.length ⟨rfl,0,rfl,Nat.zero_le _,by simp,ef,ef,by simp only[lk,Nat.reduceEqDiff,if_false,if_true];rfl⟩ ?_;clear f g;clear e;rintro m e s ⟨hs,i,rfl,z,c,f,g,A⟩;subst hs;by_cases j:i<l.length
 ·have k:(i:Int)<(l.length:Int):=by omega
  have o:=@bQ i om;have p:=bB k;have q:=Bx.mk (G6 j);have r:Bx (l.getD i 0∈l):=⟨by rw[gD,gE j];exact List.getElem_mem _⟩;generalize l.getD i 0=x at *;have u:=Bx.mk c;clear c;repeat' (first|refine aH (aj @d (aj (@cU _ _ _ a.sl) @p)) ?_|(first|apply ah|apply af)<;>intro b)
  ·refine⟨l.length - (i+1),by omega,trivial,i+1,rfl,by omega,?_,?_⟩
   ·rw[q.out];intro h;rcases List.mem_append.1 h with h | h
    ·exact u.out h
    ·exact b (List.mem_singleton.1 h).symm
   ·simp only[lk,Nat.reduceEqDiff,if_false,if_true,o,f,g,and_self]
  ·refine⟨.inr trivial,?_⟩;rw[decide_eq_true (show n∈l from by rw[<- b];exact r.out)];exact ef
 ·repeat' (first|refine aH @d ?_|(first|apply ah|apply af)<;>intro b)
  refine⟨.inr trivial,?_⟩;rw[show i=l.length by omega,List.take_length]at c;rw[decide_eq_false c];exact ef
theorem Ep {rv:LV}{r:List Int}(f:aP rv r):PO 62 [rv, .int .i64 (r.length:Int)] (.bool (decide (mL r))):=by
 have E:=f.closed;have p:=f.sl.len;have z:=f.len;have N:=lG;refine gO (t:=4) hm Tryz.func62 br c62 bw (by simp[LV.closed.au,LV.closed,E]) rfl rfl ?_;refine mH λe u v=>?_;unfold l62;dsimp only[jA,jC,qM,qL,qS,qI,qA,qB,qC,qK,qP,qU,qW,qm,ql,qR];by_cases O:6000<r.length
 ·have a:Bx (decide (mL r)=false):=⟨decide_eq_false λh=>by have:=h.1;omega⟩;repeat' (first|refine aH @p ?_|(first|apply ah|apply af)<;>intro c)
  all_goals
   refine⟨.inr trivial,?_⟩;rw[a.out];exact ef
 ·have F:r.length<=6000:=by omega
  have A:IntKind.i64.wrap ((r.length:Int)+1)=((r.length+1:Nat):Int):=by rw[wrap_i64 _ om om];rfl
  repeat' (first|refine aH (aj @p @A) ?_|(first|apply ah|apply af)<;>intro c)
  refine D1 (n:=r.length+1) wN bJ ef ef om ?_;repeat' (first|refine aG (aj @p @A) ?_|(first|apply ah|apply af)<;>intro c)
  refine aN (λm e s=>∃ k:Nat,m=r.length - k/\k<=r.length/\w9 r k/\s.get 0=some (.cells .mut (cJ (r.length+1) λj=>decide ((j:Int)∈r.take k)))/\e.at 0=rv/\e.at 1 = .int .i64 (r.length:Int)/\e.at 5 = .aE 0 0 (r.length+1) 1/\e.at 6 = .int .i64 (k:Int)) _
   ⟨0,rfl,by omega,by simp[w9],by simp[bJ],ef,ef,ef,by simp only[lk,Nat.reduceEqDiff,if_false,if_true];rfl⟩ ?_
  clear u v;clear e;rintro m e s ⟨k,rfl,Q,d,hs,u,v,H,R⟩;by_cases I:k<r.length
  ·have J:(k:Int)<(r.length:Int):=by omega
   have L:=@bQ k om;have w:=bB J;have hx:r[k]? = some (r.getD k 0):=by rw[gD,gE I];rfl
   have g:=Bl hx;generalize r.getD k 0=x at *;by_cases B:1<=x/\x<=(r.length:Int)
   ·obtain⟨n,rfl⟩:∃ n:Nat,x=(n:Int):=⟨x.toNat,by omega⟩;have S:(n:Int)<((r.length+1:Nat):Int):=by omega
    have C:n<r.length+1:=by omega
    have o:(cJ (r.length+1) λj=>decide ((j:Int)∈r.take k))[n]? = some (.bool (decide ((n:Int)∈r.take k))):=iA C;have T:Bx (s.get 0=some (.cells .mut (cJ (r.length+1) λj=>decide ((j:Int)∈r.take k)))):=⟨hs⟩;have M:Bx (r[k]? = some (n:Int)):=⟨hx⟩;by_cases i:(n:Int)∈r.take k
    ·have a:Bx (decide (mL r)=false):=⟨decide_eq_false (xp (k:=k+1) λh=>(g.1 h).2.2 i)⟩;rw[decide_eq_true i]at o;clear g d i hx;repeat' (first|refine aH (aj (@cU _ _ _ f.sl) (aj @w (aj @eF @o))) ?_|(first|apply ah|apply af)<;>intro c)
     refine⟨.inr trivial,?_⟩;rw[a.out];exact ef
    ·have y:Bx (w9 r (k+1)):=⟨g.2 ⟨d,B,i⟩⟩;rw[decide_eq_false i]at o;clear g d i hx;repeat' (first|refine aH (aj (@cU _ _ _ f.sl) (aj @w (aj @eF @o))) ?_|(first|apply ah|apply af)<;>intro c)
     refine lR (q:=n) (b:=true) (f':=λj=>decide ((j:Int)∈r.take (k+1))) ef rfl hs C (λj=>?_) λs' h1 h2 h3=>?_
     ·rw[List.take_add_one,M.out];by_cases D:j=n
      ·subst D;simp
      ·have:¬ ((j:Int)=(n:Int)):=by omega
       simp[D,this]
     repeat' (first|refine aH trivial ?_|(first|apply ah|apply af)<;>intro c)
     refine⟨r.length - (k+1),by omega,k+1,rfl,by omega,y.out,h2,?_⟩;simp only[lk,Nat.reduceEqDiff,if_false,if_true,L,u,v,H,and_self]
   ·have a:Bx (decide (mL r)=false):=⟨decide_eq_false (xp (k:=k+1) λh=>B (g.1 h).2.1)⟩;clear g d hx;repeat' (first|refine aH (aj (@cU _ _ _ f.sl) @w) ?_|(first|apply ah|apply af)<;>intro c)
    all_goals
     refine⟨.inr trivial,?_⟩;rw[a.out];exact ef
  ·have a:Bx (decide (mL r)=true):=⟨decide_eq_true ((El F).1 (by rw[show k=r.length by omega]at d;exact d))⟩;clear d;repeat' (first|refine aH trivial ?_|(first|apply ah|apply af)<;>intro c)
   refine⟨.inr trivial,?_⟩;rw[a.out];exact ef
theorem Er {n:Nat}(g:n<=6000):PE 27 [.int .i64 (n:Int)] (λv=>aP v (lN n)):=by
 have u:=lG;refine dS Tryz.func27 br c27 bw rfl ?_;refine pg λe a=>?_;unfold l27;dsimp only[jA,jD,qM,qA,qC,qV,qJ,qX,qm,qR];repeat' (first|refine aG trivial ?_|(first|apply ah|apply af)<;>intro b)
 refine aN (λm e s=>∃ (k:Nat) (w:LV),m=n - k/\k<=n/\ek s w 1 (ints (lN k)) k/\e.at 0 = .int .i64 (n:Int)/\e.at 3=w/\e.at 4 = .int .i64 ((k+1:Nat):Int)) _
  ⟨0, .aq,rfl,by omega,ek.nil _ _,ef,ef,by simp only[lk,dM,Nat.reduceEqDiff,if_false,if_true];rfl⟩ ?_
 clear a;clear e;rintro m e s ⟨k,w,rfl,y,c,a,z,A⟩;have d:lN (k+1)=lN k++[((k+1:Nat):Int)]:=by
  unfold lN;rw[List.range_succ,List.map_append];rfl
 have i:=Bx.mk d;clear d;by_cases j:k<n
 ·have B:((k+1:Nat):Int)<=(n:Int):=by omega
  have C:(n:Int)<=6000:=by omega
  have f:IntKind.i64.wrap (((k+1:Nat):Int)+1)=((k+1+1:Nat):Int):=by rw[wrap_i64 _ om om];rfl
  repeat' (first|refine aG trivial ?_|(first|apply ah|apply af)<;>intro b)
  refine qc (n:=k) (aZ:=1) (xv:=.int .i64 ((k+1:Nat):Int)) (yv:=w) (vs:=[.int .i64 ((k+1:Nat):Int)]) ef rfl rfl rfl rfl ef c (by decide) om (λD o a1 a2 a3 a4=>?_);repeat' (first|refine aH @f ?_|(first|apply ah|apply af)<;>intro b)
  refine⟨n - (k+1),by omega,k+1, .aE o 0 (k+1) 1,rfl,by omega,?_,?_⟩
  ·rw[i.out];unfold ints;rw[List.map_append];exact a2
  ·simp only[lk,Nat.reduceEqDiff,if_false,if_true,f,a,and_self]
 ·have p:k=n:=by omega
  subst p;repeat' (first|refine aH trivial ?_|(first|apply ah|apply af)<;>intro b)
  have q:=fz_skc c (by simp[g8]) om (λx hx=>by
   have:=(Cw g).2.1 x hx;rw[g8]at this;constructor<;>omega)
  obtain⟨r,s',h1,h2⟩:=q;refine⟨.inr trivial,w,?_,r,s',h1,h2.closed,h2⟩;have t:∀ (e:Env) (s:St),e.at 2=w->aW l27.results e s=some w:=λe s h=>by simp[l27,aW,bD,h]
  exact t _ _ ef
section
variable {P:Program}{G:bP}{K:Env->St->Prop}{l:List bC}{e:Env}{s:St}{fl MZ:Bool}
theorem nK {a b bytes n:Nat}{x y:bF}{z yv:LV}{v:Int}{cells:List LV}(hx:x.ev e = .int .i64 v) (c:y.ev (Tr.set e a (.aE s.n 0 1 1))=yv) (hs:Sx s yv cells n) (d:(n+1)*bytes<=big)
 (h:∀ s' r,Sx s' r (cells++[.int .i64 v]) (n+1)->s.n<=s'.n->(∀ id,id<s.n->¬ aQ yv id->s'.get id=s.get id)->(∀ id,aQ r id->s.n<=id)->W P G K l (Tr.set (Tr.set e a (.aE s.n 0 1 1)) b r) s') :
 W P G K (⟨some a, .bu 1 1 [z] [(0,(1,x))],none,[],fl⟩::⟨some b, .append 1 bytes y (.t a),none,[],MZ⟩::l) e s:=
 HG (k:=1) (vs:=[.int .i64 v]) (by simp only[bt,List.map,hx,rep,aU];rfl) rfl rfl c hs d h
theorem XZ {b bytes n k:Nat}{x y:bF}{xv yv:LV}{vs cells:List LV}(hx:x.ev e=xv) (c:Sx s xv vs k) (d:LV.closed.au vs=true) (f:y.ev e=yv) (hs:Sx s yv cells n) (g:(n+k)*bytes<=big)
 (h:∀ s' r,Sx s' r (cells++vs) (n+k)->s.n<=s'.n->(∀ id,id<s.n->¬ aQ yv id->s'.get id=s.get id)->(∀ id,aQ r id->s.n<=id)->W P G K l (Tr.set e b r) s') :
 W P G K (⟨some b, .append 1 bytes y x,none,[],fl⟩::l) e s:=by
 have a:o8 xv=some k:=by obtain⟨h0,⟨rfl,rfl⟩ | ⟨j,rfl,_⟩⟩:=c<;>rfl
 obtain⟨r,s',i,m,o,p,q⟩:=hs.app (vs:=vs) c.1 g;exact eD rfl f hx a c.row (gw d) i (h s' r m o p q)
end
theorem fz_sx {s:St}{w:LV}{l:List Int}{n:Nat}(h:Sx s w (ints l) n) (c:n<=1000000) (a:∀ x∈l,bU x):∃ r s',cY bp w s=some (r,s')/\aP r l:=by
 have d:=lG;obtain⟨h0,⟨rfl,h1⟩ | ⟨j,rfl,h2,h3⟩⟩:=h
 ·subst h1;have:l=[]:=List.length_eq_zero_iff.1 (by simpa using h0);subst this;exact⟨_,_,bk rfl, .nil,by simp,a⟩
 ·have hl:l.length=n:=by simpa using h0
  have b:cY bp (.aE j 0 n 1) s=some (.aF (ints l) n,s.put j (.cells .app (ints l))):=gQ (len:=n) 38 h3 (by simp[hl]) (bI _);refine⟨_,_,b,?_,by omega,a⟩;rw[<- hl];exact .aF _ _
def OJ (n:Nat) (f:Int->Int) (l:List Int):Nat:=if l.findIdx (λx=>decide (f x=1))<l.findIdx (λx=>decide (f x=2)) then 2*l.findIdx (λx=>decide (f x=1))+2 else if l.findIdx (λx=>decide (f x=2))<l.findIdx (λx=>decide (f x=1)) then 2*l.findIdx (λx=>decide (f x=2))+1 else 2*n+1
theorem Tx (f:Int->Int) (l:List Int):OJ l.length f l=nJ f l:=rfl
theorem B4 (p:Int->Bool) (l:List Int) (x:Int):(l++[x]).findIdx p=if l.findIdx p<l.length then l.findIdx p else if p x=true then l.length else l.length+1:=by
 rw[List.findIdx_append];split
 ·rfl
 ·rw[List.findIdx_cons];cases p x<;>simp<;>omega
theorem OI (n:Nat) (f:Int->Int) (l:List Int) (x:Int) (h:l.length<n):OJ n f (l++[x])=if f x=2 then min (OJ n f l) (2*l.length+1) else if f x=1 then min (OJ n f l) (2*l.length+2) else OJ n f l:=by
 have h1:=List.findIdx_le_length (xs:=l) (p:=λx=>decide (f x=1));have h2:=List.findIdx_le_length (xs:=l) (p:=λx=>decide (f x=2));have dB:¬ (l.findIdx (λx=>decide (f x=1))=l.findIdx (λx=>decide (f x=2))/\l.findIdx (λx=>decide (f x=1))<l.length):=λ⟨e,hl⟩=>by
  have g1:=List.findIdx_getElem (xs:=l) (p:=λx=>decide (f x=1)) (w:=hl);have g2:=List.findIdx_getElem (xs:=l) (p:=λx=>decide (f x=2)) (w:=by omega);simp only[e,decide_eq_true_eq]at g1 g2;omega
 unfold OJ;rw[B4,B4];simp only[decide_eq_true_eq];by_cases a:f x=2
 ·have b:¬ f x=1:=by omega
  simp only[a,if_true];(repeat' split)<;>omega
 ·by_cases b:f x=1
  ·simp only[b,if_true];(repeat' split)<;>omega
  ·simp only[a,b,if_false];(repeat' split)<;>omega
theorem mkT {G Bd:List Int}{n:Nat}{v:Int}(h:1<=v/\v<=(n:Int)):marks G Bd n v=2↔v∈Bd:=by
 unfold marks Kh;by_cases a:v∈Bd
 ·simp[a,h.1,h.2]
 ·simp only[a,false_and,if_false,iff_false];split<;>omega
theorem mkO {G Bd:List Int}{n:Nat}{v:Int}(h:1<=v/\v<=(n:Int)) (a:v ∉ Bd):marks G Bd n v=1↔v∈G:=by
 unfold marks Kh;by_cases b:v∈G
 ·simp[a,b,h.1,h.2]
 ·simp[a,b]
theorem fz_sxT {s:St}{w:LV}{l:List Int}{n:Nat}{p:Int}(h:Sx s w (ints l) n) (b:n<=1000000) (a:∀ x∈l,bU x):∃ r s',cY bp (.cE [w, .int .i64 p]) s=some (.cE [r, .int .i64 p],s')/\aP r l:=by
 have c:=lG;obtain⟨h0,⟨rfl,h1⟩ | ⟨j,rfl,h2,h3⟩⟩:=h
 ·subst h1;have:l=[]:=List.length_eq_zero_iff.1 (by simpa using h0);subst this;exact⟨_,_,bk rfl, .nil,by simp,a⟩
 ·have hl:l.length=n:=by simpa using h0
  refine⟨_,_,uJ h3 (by simp[hl]) (bI _) rfl,?_,by omega,a⟩;rw[<- hl];exact .aF _ _
theorem HD {rv T U:LV}{r bO bad:List Int}(q:aP rv r) (I:mL r) (V:aP T bO) (A:aP U bad) :
 PE 30 [rv, .agg [T,U]] (λv=>∃ Ec,v = .cE [Ec, .int .i64 (nJ (marks bO bad r.length) r:Int)]/\aP Ec (tj (marks bO bad r.length) r)):=by
 have qu:=q.closed;have J:=q.sl.len;have SP:=V.closed;have Rn:=A.closed;have lI:=V.sl.cell;have fy:=A.sl.cell;have BS:=I.1;have je:=lG;have hvalid:=Ep q;rw[decide_eq_true I]at hvalid;have GN:=λv h=>mkT (G:=bO) (Bd:=bad) (n:=r.length) (v:=v) h;have ng:=λv h A=>mkO (G:=bO) (Bd:=bad) (n:=r.length) (v:=v) h A;generalize marks bO bad r.length=f at *;refine dS Tryz.func30 br c30 bw (by simp[LV.closed.au,LV.closed,qu,SP,Rn]) ?_;refine mH λe w e1=>?_;unfold P5;dsimp only[jA,jB,qM,qL,qF,qS,qI,qA,qB,qC,qO,qJ,qT,qX,qm,ql,qR];have y:IntKind.i64.wrap (2*(r.length:Int))=((2*r.length:Nat):Int):=by rw[wrap_i64 _ om om];omega
 have X:IntKind.i64.wrap (((2*r.length:Nat):Int)+1)=((2*r.length+1:Nat):Int):=by rw[wrap_i64 _ om om];omega
 repeat' (first|refine aG @J ?_|(first|apply ah|apply af)<;>intro c)
 refine dx hvalid ?_;clear hvalid;repeat' (first|refine aH (aj @J (aj @y @X)) ?_|(first|apply ah|apply af)<;>intro c)
 have NC:=Bx.mk I;clear I;refine aN (λm e s=>∃ (i:Nat) (k g:LV),m=r.length - i/\i<=r.length/\Sx s k (ints ((r.take i).filter λx=>!decide (f x=2))) ((r.take i).filter λx=>!decide (f x=2)).length/\Sx s g (ints ((r.take i).filter λx=>decide (f x=2))) ((r.take i).filter λx=>decide (f x=2)).length/\(∀ id,aQ k id->¬ aQ g id)/\e.at 0=rv/\e.at 3 = .aY [T,U] 0/\e.at 7 = .int .i64 (OJ r.length f (r.take i):Int)/\e.at 8=k/\e.at 9=g/\e.at 10 = .int .i64 (i:Int)) _
  ⟨0, .aq, .aq,rfl,Nat.zero_le _,Sx.nil _,Sx.nil _,λid d=>absurd d (bE id),ef,ef,by simp only[lk,dM,rH,Nat.reduceEqDiff,if_false,if_true,y,X];rfl,ef,ef,by simp only[lk,dM,Nat.reduceEqDiff,if_false,if_true];rfl⟩ ?_
 clear w e1 y X;clear e;rintro m e s ⟨i,k,g,rfl,Y,L,M,hU,w,B,C,Z,N,gW⟩;by_cases cy:i<r.length
 ·have iQ:(i:Int)<(r.length:Int):=by omega
  have dO:=@bQ i om;have O:IntKind.i64.wrap (2*(i:Int))=((2*i:Nat):Int):=by rw[wrap_i64 _ om om];omega
  have BR:IntKind.i64.wrap (((2*i:Nat):Int)+1)=((2*i+1:Nat):Int):=by rw[wrap_i64 _ om om];omega
  have NK:IntKind.i64.wrap (((2*i:Nat):Int)+2)=((2*i+2:Nat):Int):=by rw[wrap_i64 _ om om];omega
  have D:=bB iQ;have ep:=G6 cy;have vg:=NC.out.2.1 (r.getD i 0) (by rw[gD,gE cy];exact List.getElem_mem _);have kn:(r.take i).length=i:=by rw[List.length_take];omega
  have QE:=OI r.length f (r.take i) (r.getD i 0) om;have pe:=List.length_filter_le (λx=>!decide (f x=2)) (r.take i);have xE:=List.length_filter_le (λx=>decide (f x=2)) (r.take i);have t:=GN _ vg;have u:=ng _ vg;generalize r.getD i 0=x at *;have E:=Bx.mk ep;clear ep;rw[<- E.out,kn]at QE;generalize hP:OJ r.length f (r.take i)=P at *;have Aa:=Bx.mk QE;have QU:=Bx.mk (And.intro pe (And.intro xE kn));have j:=Bx.mk (And.intro L (And.intro M hU));have Q:=Bx.mk (And.intro t u);clear QE pe xE t u vg kn L M hU;repeat' (first|refine aH (aj @J (aj (@cU _ _ _ q.sl) @D)) ?_|(first|apply ah|apply af)<;>intro c)
  refine cO ff (Eh A x) (by first | exact wN | (apply wG;(simp only[lk,Nat.reduceEqDiff,reduceIte,w,B,C,Z,N,gW];(try rfl);done))) ef (λbb c=>⟨by first | trivial | (simp only[dG,aK,bq.run,Env.aB,Env.cp,u6,Nat.reduceEqDiff,Nat.reduceAdd,Nat.reduceLeDiff,reduceIte,bG,iI,List.map,cu,beq_self_eq_true,reduceCtorEq,false_or,true_and,and_true,Option.some.injEq, *];done),?_⟩);simp only[Env.aB];cases bb<;>simp only[decide_eq_true_eq,decide_eq_false_iff_not]at c
  ·have F:=Bx.mk c;clear c;repeat' (first|refine aG (aj (@cU _ _ _ q.sl) @D) ?_|(first|apply ah|apply af)<;>intro c)
   repeat' (first|refine aH (aj (@cU _ _ _ q.sl) @D) ?_|(first|apply ah|apply af)<;>intro c)
   refine nK (v:=x) (yv:=k) ef ef j.out.1 (by have:=QU.out;unfold big;omega) (λs2 r2 h1 h2 h3 z=>?_);have dB:Bx (¬ f x=2):=⟨λh=>F.out (Q.out.1.1 h)⟩;have KS:Bx ((r.take (i+1)).filter (λx=>!decide (f x=2))=(r.take i).filter (λx=>!decide (f x=2))++[x]):=⟨by rw[E.out,List.filter_append];simp[dB.out]⟩;have KR:Bx ((r.take (i+1)).filter (λx=>decide (f x=2))=(r.take i).filter (λx=>decide (f x=2))):=⟨by rw[E.out,List.filter_append];simp[dB.out]⟩;have R:Bx (Sx s2 r2 (ints ((r.take (i+1)).filter λx=>!decide (f x=2))) ((r.take (i+1)).filter λx=>!decide (f x=2)).length):=⟨by
    rw[KS.out];unfold ints at h1 ⊢;rw[List.map_append,List.length_append];exact h1⟩
   have S:Bx (Sx s2 g (ints ((r.take (i+1)).filter λx=>decide (f x=2))) ((r.take (i+1)).filter λx=>decide (f x=2)).length):=⟨by
    rw[KR.out];refine j.out.2.1.mono h2 λid d=>h3 id (j.out.2.1.lt d) λvh=>j.out.2.2 id vh d⟩
   have o:Bx (∀ id,aQ r2 id->¬ aQ g id):=⟨λid d uz=>by have:=z id d;have:=j.out.2.1.lt uz;omega⟩;clear h1 h3 z;repeat' (first|refine aH (aj (@cU _ _ _ q.sl) @D) ?_|(first|apply ah|apply af)<;>intro c)
   refine cO ff (Eh V x) (by first | exact wN | (apply wG;(simp only[lk,Nat.reduceEqDiff,reduceIte,w,B,C,Z,N,gW];(try rfl);done))) ef (λbb c=>⟨by first | trivial | (simp only[dG,aK,bq.run,Env.aB,Env.cp,u6,Nat.reduceEqDiff,Nat.reduceAdd,Nat.reduceLeDiff,reduceIte,bG,iI,List.map,cu,beq_self_eq_true,reduceCtorEq,false_or,true_and,and_true,Option.some.injEq, *];done),?_⟩);simp only[Env.aB];cases bb<;>simp only[decide_eq_true_eq,decide_eq_false_iff_not]at c
   ·have H:Bx (OJ r.length f (r.take (i+1))=P):=⟨by rw[Aa.out,if_neg dB.out,if_neg λh=>c ((Q.out.2 F.out).1 h)]⟩;clear c;repeat' (first|refine aH trivial ?_|(first|apply ah|apply af)<;>intro c)
    refine⟨r.length - (i+1),by omega,i+1,r2,g,rfl,by omega,R.out,S.out,o.out,?_⟩;rw[H.out];simp only[lk,Nat.reduceEqDiff,if_false,if_true,dO,w,B,C,N,and_self]
   ·have H:Bx (OJ r.length f (r.take (i+1))=min P (2*i+2)):=⟨by rw[Aa.out,if_neg dB.out,if_pos ((Q.out.2 F.out).2 c)]⟩;clear c;repeat' (first|refine aH (aj @O @NK) ?_|(first|apply ah|apply af)<;>intro c)
    refine⟨r.length - (i+1),by omega,i+1,r2,g,rfl,by omega,R.out,S.out,o.out,?_⟩;rw[H.out];have QO:min (P:Int) ((2*i+2:Nat):Int)=((min P (2*i+2):Nat):Int):=by omega
    simp only[lk,Nat.reduceEqDiff,if_false,if_true,dO,O,NK,QO,w,B,N,and_self]
  ·have F:=Bx.mk c;clear c;repeat' (first|refine aH (aj (@cU _ _ _ q.sl) @D) ?_|(first|apply ah|apply af)<;>intro c)
   refine nK (v:=x) (yv:=g) ef ef j.out.2.1 (by have:=QU.out;unfold big;omega) (λs2 r2 h1 h2 h3 z=>?_);have dB:Bx (f x=2):=⟨Q.out.1.2 F.out⟩;have KS:Bx ((r.take (i+1)).filter (λx=>!decide (f x=2))=(r.take i).filter (λx=>!decide (f x=2))):=⟨by rw[E.out,List.filter_append];simp[dB.out]⟩;have KR:Bx ((r.take (i+1)).filter (λx=>decide (f x=2))=(r.take i).filter (λx=>decide (f x=2))++[x]):=⟨by rw[E.out,List.filter_append];simp[dB.out]⟩;have S:Bx (Sx s2 r2 (ints ((r.take (i+1)).filter λx=>decide (f x=2))) ((r.take (i+1)).filter λx=>decide (f x=2)).length):=⟨by
    rw[KR.out];unfold ints at h1 ⊢;rw[List.map_append,List.length_append];exact h1⟩
   have R:Bx (Sx s2 k (ints ((r.take (i+1)).filter λx=>!decide (f x=2))) ((r.take (i+1)).filter λx=>!decide (f x=2)).length):=⟨by
    rw[KS.out];refine j.out.1.mono h2 λid d=>h3 id (j.out.1.lt d) λvh=>j.out.2.2 id d vh⟩
   have o:Bx (∀ id,aQ k id->¬ aQ r2 id):=⟨λid d uz=>by have:=z id uz;have:=j.out.1.lt d;omega⟩;clear h1 h3 z;have H:Bx (OJ r.length f (r.take (i+1))=min P (2*i+1)):=⟨by rw[Aa.out,if_pos dB.out]⟩;repeat' (first|refine aH (aj @O @BR) ?_|(first|apply ah|apply af)<;>intro c)
   refine⟨r.length - (i+1),by omega,i+1,k,r2,rfl,by omega,R.out,S.out,o.out,?_⟩;rw[H.out];have QO:min (P:Int) ((2*i+1:Nat):Int)=((min P (2*i+1):Nat):Int):=by omega
   simp only[lk,Nat.reduceEqDiff,if_false,if_true,dO,O,BR,QO,w,B,Z,and_self]
 ·have Af:i=r.length:=by omega
  subst Af;rw[List.take_length]at L M C;rw[Tx]at C;have pe:=List.length_filter_le (λx=>!decide (f x=2)) r;have xE:=List.length_filter_le (λx=>decide (f x=2)) r;repeat' (first|refine aH @J ?_|(first|apply ah|apply af)<;>intro c)
  refine XZ (xv:=g) (yv:=k) ef M (bI _) ef L (by unfold big;omega) (λs2 r2 h1 h2 h3 z=>?_);have S8:Sx s2 r2 (ints (tj f r)) ((r.filter λx=>!decide (f x=2)).length+(r.filter λx=>decide (f x=2)).length):=by
   unfold ints at h1 ⊢;unfold tj;rw[List.map_append];exact h1
  have NF:=(Cx (f:=f) NC.out).2.1;rw[(lE f r).length_eq]at NF;obtain⟨rr,s',hf,Y⟩:=fz_sxT (p:=(nJ f r:Int)) S8 om (λx hx=>by have:=NF x hx;constructor<;>omega);clear h1 S8 h2 h3 z;repeat' (first|refine aH trivial ?_|(first|apply ah|apply af)<;>intro c)
  have hq:∀ (e:Env) (s:St) (a b:LV),e.at 4=a->e.at 5=b->aW P5.results e s=some (.cE [a,b]):=λe s a b h h'=>by simp[P5,aW,bD,h,h']
  refine⟨.inr trivial,_,hq _ _ r2 (.int .i64 (nJ f r:Int)) ef ef,_,s',hf,by simp[LV.closed,LV.closed.au,Y.closed],rr,rfl,Y⟩
end Go.Proofs.YtkbiecjdcjfhaaaGreat
end
