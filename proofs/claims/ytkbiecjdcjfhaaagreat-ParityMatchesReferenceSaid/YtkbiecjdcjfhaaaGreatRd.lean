/- The document's Reached. -/
import Derived.Test.YtkbiecjdcjfhaaaGreatRa
import Derived.Test.YtkbiecjdcjfhaaaGreatTbase
import Derived.Test.YtkbiecjdcjfhaaaGreatTre
import Derived.Test.YtkbiecjdcjfhaaaGreatTval
import Derived.Test.YtkbiecjdcjfhaaaGreatPvRes
import Derived.Test.YtkbiecjdcjfhaaaGreatRtr
set_option linter.unusedSimpArgs false
set_option linter.unusedVariables false
set_option maxRecDepth 100000
set_option maxHeartbeats 16000000
section
namespace Go.Proofs.YtkbiecjdcjfhaaaGreat
open Go Go.Pv Go.pR
open Classical
theorem uW {n:Nat}{f g:Nat->Bool}(h:∀ j,j<n->f j=g j):cJ n f=cJ n g:=by
 unfold cJ;exact List.map_congr_left λj a=>by rw[h j (List.mem_range.1 a)]
def CK (f:Nat->Bool) (i:Nat):List Int:=((List.range i).map λ(n:Nat)=>(n:Int)).filter λx=>f x.toNat
theorem PS (f:Nat->Bool) (i:Nat):CK f (i+1)=if f i=true then CK f i++[(i:Int)] else CK f i:=by
 unfold CK;rw[List.range_succ,List.map_append,List.filter_append];by_cases h:f i=true
 ·simp[h]
 ·simp[h]
theorem Kg (f:Nat->Bool) (i:Nat):(CK f i).length<=i:=by
 have:=List.length_filter_le (λx=>f x.toNat) ((List.range i).map λ(n:Nat)=>(n:Int));simpa[CK] using this
theorem LX (N:Nat) (K:List Int):CK (λj=>decide ((j:Int)∈K)) N=Go.pR.canon N K:=by
 unfold CK Go.pR.canon;refine List.filter_congr λx hx=>?_;obtain⟨n,a,rfl⟩:=List.mem_map.1 hx;simp
theorem Lw {bv:LV}{B:Bu}{sv nv T:LV}(hB:vo bv B sv nv) (hN:B.next.length<=1500) {set:List Int}(U:aP T set) {a:Nat}{tU:Bool}(hr:∀ x∈set,0<=x/\x<B.next.length) (ct:∀ q,q<B.next.length->a<(B.next.getD q []).length) (hto:∀ q x b,(x,b)∈fQ B q a->0<=x/\x<(B.next.length:Int)) :
 PE 56 [bv,T, .int .i64 (a:Int), .bool tU] (λr=>aP r (Go.pR.canon B.next.length (vz (λq=>fQ B q a) set λm=>m.2 || !tU))):=by
 have bV:=hB.closed;obtain⟨rfl,hs,V⟩:=hB;have mD:=V.closed;have m9:=hs.closed;have WR:=U.closed;obtain⟨vs,M⟩:=V;have mJ:=hs.sl.cell;have nW:=M.sl.cell;have X:=U.sl.len;have hsm:=U.len;have fH:=M.sl.len;have je:=lG;refine dS Tryz.func56 br c56 bw (by simp[LV.closed.au,LV.closed,WR];exact⟨m9,mD⟩) ?_;refine ev4 λe e0 t u z=>?_;unfold l56;dsimp only[jA,jB,jC,qM,qL,qF,qS,qI,qA,qB,qC,qO,qP,qJ,qT,qX,qm,ql,qR];repeat' (first|refine aG (aj @X @fH) ?_|(first|apply ah|apply af)<;>intro d)
 refine D1 (n:=B.next.length) wN bJ ef ef om ?_;repeat' (first|refine aG (aj @X @fH) ?_|(first|apply ah|apply af)<;>intro d)
 refine aN (λm e s=>∃ k:Nat,m=set.length - k/\k<=set.length/\s.n=1/\s.get 0=some (.cells .mut (cJ B.next.length λj=>decide ((j:Int)∈vz (λq=>fQ B q a) (set.take k) λm=>m.2 || !tU)))/\e.at 1=T/\e.at 2 = .int .i64 (a:Int)/\e.at 3 = .bool tU/\e.at 4 = .aY [.int .i64 B.L,sv,nv] 0/\e.at 9 = .aE 0 0 B.next.length 1/\e.at 10 = .int .i64 (k:Int)) _
  ⟨0,rfl,Nat.zero_le _,by simp[bJ],by simp[bJ,vz],ef,ef,ef,ef,ef,by simp only[lk,Nat.reduceEqDiff,if_false,if_true];rfl⟩ ?_
 clear e0 t u z;clear e;rintro m e s ⟨k,rfl,hk,g,c,t,u,z,C,p,F⟩;by_cases cG:k<set.length
 ·have iN:(k:Int)<(set.length:Int):=by omega
  have cD:=@bQ k om;have jR:=bB iN;have ep:=take_one set 0 cG;have Nz:=hr (set.getD k 0) (by rw[gD,gE cG];simp);generalize set.getD k 0=x at *;obtain⟨q,rfl⟩:∃ q:Nat,x=(q:Int):=⟨x.toNat,by omega⟩;have N:q<B.next.length:=by omega
  have SF:(q:Int)<(B.next.length:Int):=by omega
  have hgq:=M.get N;obtain⟨vs2,C1⟩:=M.row q N;have ha:=ct q N;have haI:(a:Int)<((B.next.getD q []).length:Int):=by omega
  have FM:=C1.get ha;have O:=C1.row a ha;have wq:=hto q;unfold fQ at wq;have lY:Bx (vz (λq=>fQ B q a) (set.take (k+1)) (λm=>m.2 || !tU)=vz (λq=>fQ B q a) (set.take k) (λm=>m.2 || !tU)++(((B.next.getD q []).getD a []).filter λm=>m.2 || !tU).map (·.1)):=⟨by rw[ep,En,Int.toNat_natCast];rfl⟩;generalize (B.next.getD q []).getD a []=ms at *;generalize vz (λq=>fQ B q a) (set.take k) (λm=>m.2 || !tU)=K0 at *;generalize vs.getD q .top=rv at *;generalize vs2.getD a .top=mv at *;have G:=O.sl.len;have NJ:=O.len;have l:=Bx.mk c;clear ep c;repeat' (first|refine aG (aj @X (aj (@cU _ _ _ U.sl) (aj @jR (aj (@cU _ _ _ M.sl) (aj @hgq (aj (@cU _ _ _ C1.sl) @FM)))))) ?_|(first|apply ah|apply af)<;>intro d)
  refine aN (λm e s=>∃ i:Nat,m=ms.length - i/\i<=ms.length/\s.n=1/\s.get 0=some (.cells .mut (cJ B.next.length λj=>decide ((j:Int)∈K0++((ms.take i).filter λm=>m.2 || !tU).map (·.1))))/\e.at 1=T/\e.at 2 = .int .i64 (a:Int)/\e.at 3 = .bool tU/\e.at 4 = .aY [.int .i64 B.L,sv,nv] 0/\e.at 9 = .aE 0 0 B.next.length 1/\e.at 10 = .int .i64 (k:Int)/\e.at 11=mv/\e.at 12 = .int .i64 (i:Int)) _
   ⟨0,rfl,Nat.zero_le _,g,by simpa using l.out,ef,ef,ef,ef,ef,ef,ef,by simp only[lk,Nat.reduceEqDiff,if_false,if_true];rfl⟩ ?_
  clear t u z C p F l g;clear e s;rintro m e s ⟨i,rfl,hi,g,c,t,u,z,C,p,F,n6,AW⟩;by_cases H:i<ms.length
  ·have iQ:(i:Int)<(ms.length:Int):=by omega
   have o:=@bQ i om;have SK:=mR H;have BR:=qo H;have P:=take_one ms (0,false) H;have Zo:=wq (ms.getD i (0,false)).1 (ms.getD i (0,false)).2 (by rw[gD,gE H];exact List.getElem_mem _);generalize ms.getD i (0,false)=mm at *;obtain⟨x,b⟩:=mm;obtain⟨y,rfl⟩:∃ y:Nat,x=(y:Int):=⟨x.toNat,by have:=Zo.1;simp only at this;omega⟩;have hy:y<B.next.length:=by have:=Zo.2;simp only at this;omega
   have hyI:(y:Int)<(B.next.length:Int):=by omega
   have l:=Bx.mk c;have YX:=Bx.mk P;clear c P Zo;cases b
   ·cases tU
    ·repeat' (first|refine aH (aj @G (aj (@cU _ _ _ O.sl) (aj @SK (aj @BR @eF)))) ?_|(first|apply ah|apply af)<;>intro d)
     refine lR (q:=y) (b:=true) (f':=λj=>decide ((j:Int)∈K0++((ms.take (i+1)).filter λm=>m.2 || !false).map (·.1))) ef rfl l.out hy (λj=>?_) λs' h1 h2 h3=>?_
     ·rw[YX.out,List.filter_append,List.map_append,<- List.append_assoc];by_cases Q:j=y
      ·subst Q;simp
      ·have:¬ ((j:Int)=(y:Int)):=by omega
       simp[Q,this]
     have D:=Bx.mk h2;clear h2 h3;repeat' (first|refine aH @o ?_|(first|apply ah|apply af)<;>intro d)
     refine⟨ms.length - (i+1),by omega,i+1,rfl,by omega,h1.trans g,D.out,?_⟩;simp only[lk,dM,Nat.reduceEqDiff,if_false,if_true,o,t,u,z,C,p,F,n6,and_self]
    ·repeat' (first|refine aH (aj @G (aj (@cU _ _ _ O.sl) (aj @SK (aj @BR (aj @eF @o))))) ?_|(first|apply ah|apply af)<;>intro d)
     refine⟨ms.length - (i+1),by omega,i+1,rfl,by omega,g,?_,?_⟩
     ·rw[YX.out,List.filter_append];simpa using l.out
     ·simp only[lk,dM,Nat.reduceEqDiff,if_false,if_true,o,t,u,z,C,p,F,n6,and_self]
   ·repeat' (first|refine aH (aj @G (aj (@cU _ _ _ O.sl) (aj @SK (aj @BR @eF)))) ?_|(first|apply ah|apply af)<;>intro d)
    refine lR (q:=y) (b:=true) (f':=λj=>decide ((j:Int)∈K0++((ms.take (i+1)).filter λm=>m.2 || !tU).map (·.1))) ef rfl l.out hy (λj=>?_) λs' h1 h2 h3=>?_
    ·rw[YX.out,List.filter_append,List.map_append,<- List.append_assoc];by_cases Q:j=y
     ·subst Q;simp
     ·have:¬ ((j:Int)=(y:Int)):=by omega
      simp[Q,this]
    have D:=Bx.mk h2;clear h2 h3;repeat' (first|refine aH @o ?_|(first|apply ah|apply af)<;>intro d)
    refine⟨ms.length - (i+1),by omega,i+1,rfl,by omega,h1.trans g,D.out,?_⟩;simp only[lk,dM,Nat.reduceEqDiff,if_false,if_true,o,t,u,z,C,p,F,n6,and_self]
  ·have Af:i=ms.length:=by omega
   subst Af;rw[List.take_length,<- lY.out]at c;have l:=Bx.mk c;clear c;repeat' (first|refine aG @G ?_|(first|apply ah|apply af)<;>intro d)
   refine⟨set.length - (k+1),by omega,k+1,rfl,by omega,g,l.out,?_⟩;simp only[lk,Nat.reduceEqDiff,if_false,if_true,cD,t,u,z,C,p,and_self]
 ·have nX:k=set.length:=by omega
  subst nX;rw[List.take_length]at c;generalize hK:(vz (λq=>fQ B q a) set λm=>m.2 || !tU)=K at *;have l:=Bx.mk c;clear c;repeat' (first|refine aG @X ?_|(first|apply ah|apply af)<;>intro d)
  refine aN (λm e s=>∃ (i:Nat) (w:LV),m=B.next.length - i/\i<=B.next.length/\s.get 0=some (.cells .mut (cJ B.next.length λj=>decide ((j:Int)∈K)))/\0<s.n/\Sx s w (ints (CK (λj=>decide ((j:Int)∈K)) i)) (CK (λj=>decide ((j:Int)∈K)) i).length/\(∀ id,aQ w id->0<id)/\e.at 9 = .aE 0 0 B.next.length 1/\e.at 13=w/\e.at 14 = .int .i64 (i:Int)) _
   ⟨0, .aE s.n 0 0 1,rfl,Nat.zero_le _,by rw[St.aA,if_neg om];exact l.out,by simp,⟨rfl, .inr ⟨s.n,rfl,by simp,by simp[CK,ints]⟩⟩,λid R=>by have:=aI.1 R;omega,ef,ef,by simp only[lk,Nat.reduceEqDiff,if_false,if_true];rfl⟩ ?_
  clear t u z C p F l g;clear e s;rintro m e s ⟨i,w,rfl,hi,c,g,Y,hU,p,VL,e14⟩;generalize hf:(λj:Nat=>decide ((j:Int)∈K))=f at *;by_cases H:i<B.next.length
  ·have iQ:(i:Int)<(B.next.length:Int):=by omega
   have o:=@bQ i om;have A:(cJ B.next.length f)[i]? = some (.bool (f i)):=iA H;have Z:=PS f i;have G:=Kg f i;have I:=Bx.mk (And.intro Y (And.intro hU c));clear Y hU;by_cases J:f i=true
   ·have UX:Bx (CK f (i+1)=CK f i++[(i:Int)]):=⟨by rw[Z,if_pos J]⟩;rw[J]at A;clear Z J;repeat' (first|refine aH (aj @eF @A) ?_|(first|apply ah|apply af)<;>intro d)
    refine nK (v:=(i:Int)) (yv:=w) ef ef I.out.1 (by unfold big;omega) (λs2 r2 h1 h2 h3 h4=>?_);have S8:Bx (Sx s2 r2 (ints (CK f (i+1))) (CK f (i+1)).length):=⟨by rw[UX.out];unfold ints at h1 ⊢;rw[List.map_append,List.length_append];exact h1⟩;have h3':Bx (s2.get 0=some (.cells .mut (cJ B.next.length f))):=⟨(h3 0 g λR=>by have:=I.out.2.1 0 R;omega).trans I.out.2.2⟩;have h4':Bx (∀ id,aQ r2 id->0<id):=⟨λid R=>by have:=h4 id R;omega⟩;clear h1 h3 h4 c;repeat' (first|refine aH @o ?_|(first|apply ah|apply af)<;>intro d)
    refine⟨B.next.length - (i+1),by omega,i+1,r2,rfl,by omega,h3'.out,by omega,S8.out,h4'.out,?_⟩;simp only[lk,Nat.reduceEqDiff,if_false,if_true,o,p,and_self]
   ·have UX:Bx (CK f (i+1)=CK f i):=⟨by rw[Z,if_neg J]⟩;have hff:f i=false:=by simpa using J
    rw[hff]at A;clear Z J;repeat' (first|refine aH (aj @eF (aj @A @o)) ?_|(first|apply ah|apply af)<;>intro d)
    refine⟨B.next.length - (i+1),by omega,i+1,w,rfl,by omega,I.out.2.2,g,by rw[UX.out];exact I.out.1,I.out.2.1,?_⟩;simp only[lk,Nat.reduceEqDiff,if_false,if_true,o,p,VL,and_self]
  ·have Af:i=B.next.length:=by omega
   subst Af;have G:=Kg f B.next.length;have vj:∀ x∈CK f B.next.length,bU x:=λx hx=>by
    unfold CK at hx;obtain⟨n,V,rfl⟩:=List.mem_map.1 (List.mem_filter.1 hx).1;have:=List.mem_range.1 V;constructor<;>omega
   obtain⟨rr,s',BV,E⟩:=fz_sx Y om vj;rw[<- hf,LX]at E;have S:=Bx.mk E;have eg:=Bx.mk BV;clear E BV Y c vj;repeat' (first|refine aH trivial ?_|(first|apply ah|apply af)<;>intro d)
   have N:∀ (e:Env) (s:St) (a:LV),e.at 8=a->aW l56.results e s=some a:=λe s a h=>by simp[l56,aW,bD,h]
   refine⟨.inr trivial,w,N _ _ _ ef,rr,s',eg.out,S.out.closed,S.out⟩
theorem kK {s:St}{w:LV}{l:List Int}{n:Nat}(h:Sx s w (ints l) n) (d:n<=1000000) (a:∀ x∈l,bU x):∃ r s',cY bp w s=some (r,s')/\aP r l/\s'.n=s.n/\∀ id,¬ aQ w id->s'.get id=s.get id:=by
 have f:=lG;obtain⟨h0,⟨rfl,h1⟩ | ⟨j,rfl,h2,h3⟩⟩:=h
 ·subst h1;have:l=[]:=List.length_eq_zero_iff.1 (by simpa using h0);subst this;exact⟨_,_,bk rfl,⟨.nil,by simp,a⟩,rfl,λ_ _=>rfl⟩
 ·have hl:l.length=n:=by simpa using h0
  have b:cY bp (.aE j 0 n 1) s=some (.aF (ints l) n,s.put j (.cells .app (ints l))):=gQ (len:=n) 38 h3 (by simp[hl]) (bI _);refine⟨_,_,b,⟨?_,by omega,a⟩,rfl,λid c=>by rw[St.az,if_neg λe=>c (aI.2 e)]⟩;rw[<- hl];exact .aF _ _
structure TM (s:St) (j:Nat) (t:List Nd) (rs:List (Int × Int × LV)):Prop where
  get:s.get j=some (.cells .mut (dm eO rs))
  lt:j<s.n
  len:rs.length=t.length
  lim:t.length<=3000
  nd:∀ i,i<t.length->vM (rs.getD i default) (t.getD i default)
theorem TM.keep {s s':St}{j:Nat}{t:List Nd}{rs:List (Int × Int × LV)}(h:TM s j t rs) (a:s.n<=s'.n) (hs:s'.get j=s.get j):TM s' j t rs:=⟨hs.trans h.get,by have:=h.lt;omega,h.len,h.lim,h.nd⟩
theorem gZ {rs:List (Int × Int × LV)}{t:List Nd}{i:Nat}(hl:rs.length=t.length) (b:∀ i,i<t.length->vM (rs.getD i default) (t.getD i default)) (a:i<t.length) :
 (dm eO rs)[i*3]? = some (.int .i64 (t.getD i default).name)/\(dm eO rs)[i*3+1]? = some (.int .i64 (t.getD i default).par)/\(dm eO rs)[i*3+2]? = some (rs.getD i default).2.2/\aP (rs.getD i default).2.2 (t.getD i default).set:=by
 have h:=b i a;have c:rs[i]? = some (rs.getD i default):=by
  have:i<rs.length:=by rw[hl];exact a
  simp[gD,this]
 have g:=λk d=>xh (k:=k) fN c d [];simp only[List.append_nil]at g;refine⟨?_,?_,?_,h.set⟩
 ·have:=g 0 om;rw[Nat.add_zero]at this;rw[this,<- h.name];rfl
 ·rw[g 1 om,<- h.par];rfl
 ·rw[g 2 om];rfl
theorem TM.ld {s:St}{j:Nat}{t:List Nd}{rs:List (Int × Int × LV)}(h:TM s j t rs) {i:Nat}(a:i<t.length) :
 cz none (.aO j (i*3)) s=some (.int .i64 (t.getD i default).name)/\cz none (.aO j (i*3+1)) s=some (.int .i64 (t.getD i default).par)/\cz none (.aO j (i*3+2)) s=some (rs.getD i default).2.2/\aP (rs.getD i default).2.2 (t.getD i default).set:=by
 obtain⟨h1,h2,h3,b⟩:=gZ h.len h.nd a;exact⟨iW h.get h1,iW h.get h2,iW h.get h3,b⟩
theorem zT {t:List Nd}{k:Nat}(h:k<t.length) (j:Int):below (t.take (k+1)) j=below (t.take k) j++if (t.getD k default).par=j then (t.getD k default).set else []:=by
 rw[take_one t default h,gT,jy]
theorem rY {t:List Nd}(j:Int) (h:∀ n∈t,n.set.length<=3000):(below t j).length<=t.length*3000:=by
 induction t with
 | nil=>simp[below]
 | cons n t ih=>
   have e:below (n::t) j=below [n] j++below t j:=gT [n] t j;rw[e,List.length_append,jy];have h1:=ih λm hm=>h m (by simp[hm]);have h2:=h n (by simp);have h3:(t.length+1)*3000=t.length*3000+3000:=Nat.succ_mul _ _;rw[List.length_cons,h3];split
   ·omega
   ·rw[List.length_nil];omega
theorem Ca {t:List Nd}(j:Int) (h:∀ n∈t,∀ x∈n.set,bU x):∀ x∈below t j,bU x:=λx hx=>by
 obtain⟨n,a,hx⟩:=List.mem_flatMap.1 hx;exact h n (List.mem_filter.1 a).1 x hx
theorem Hj {s:St}{j:Nat}{t:List Nd}{rs:List (Int × Int × LV)}(A:TM s j t rs) (Zw:t.length<=30) (B:∀ n∈t,n.set.length<=3000) (i:Int) :
 aM Tryz.prog GL (.fn (.func 83) [] []) [.aE j 0 t.length 3, .int .i64 i] s (λr s'=>aP r (below t i)/\s.n<=s'.n/\∀ id,id<s.n->s'.get id=s.get id):=by
 have je:=lG;have R:∀ n∈t,∀ x∈n.set,bU x:=λn C=>by
  obtain⟨k,I,rfl⟩:=cF C;exact (A.nd k I).set.tQ
 refine zQ (bM (first:=[]) (caps:=[]) Tryz.func83 br c83 bw (aX.mono (Q:=λo e s'=>(o = .normal∨o = .jmp .ret)/\∃ w,e.at 4=w/\∃ r c,cY bp w s'=some (r,c)/\aP r (below t i)/\s.n<=c.n/\∀ id,id<s.n->c.get id=s.get id) ?_ λo e s' S=>by
  obtain⟨h1,w,h2,h3⟩:=S;exact⟨h1,w,by simp[l83,aW,bD,h2],h3⟩))
 refine Cd.out (mH λe g h=>?_);unfold l83;dsimp only[jA,qF,qS,qI,qA,qB,qC,qJ,qX,qm,ql,qR];repeat' (first|refine aG trivial ?_|(first|apply ah|apply af)<;>intro l)
 refine aN (λm e s1=>∃ (k:Nat) (w:LV),m=t.length - k/\k<=t.length/\s.n<=s1.n/\(∀ id,id<s.n->s1.get id=s.get id)/\Sx s1 w (ints (below (t.take k) i)) (below (t.take k) i).length/\(∀ id,aQ w id->s.n<=id)/\e.at 0 = .aE j 0 t.length 3/\e.at 1 = .int .i64 i/\e.at 5=w/\e.at 6 = .int .i64 (k:Int)) _
  ⟨0, .aE s.n 0 0 1,rfl,Nat.zero_le _,by simp,λid p=>by rw[St.aA,if_neg om],⟨rfl, .inr ⟨s.n,rfl,by simp,by simp[below,ints]⟩⟩,λid b=>by have:=aI.1 b;omega,ef,ef,ef,by simp only[lk,Nat.reduceEqDiff,if_false,if_true];rfl⟩ ?_
 clear g h;clear e;rintro m e s1 ⟨k,w,rfl,I,J,ho,d,q,g,h,T,e6⟩;by_cases D:k<t.length
 ·have iN:(k:Int)<(t.length:Int):=by omega
  have u:=@bQ k om;have K:=A.keep J (ho j A.lt);obtain⟨U,v,E,V⟩:=K.ld D;have f:=zT D i;have y:=rY (t:=t.take k) i λn C=>B n (List.mem_of_mem_take C);have L:=B (t.getD k default) (fK D);rw[List.length_take]at y;generalize t.getD k default=n at *;generalize (rs.getD k default).2.2=X at *;have a:=Bx.mk (And.intro d (And.intro q ho));have F:=Bx.mk f;have Y:=Bx.mk (And.intro y L);clear d q ho f y L K;by_cases z:n.par=i
  ·have G:Bx (below (t.take (k+1)) i=below (t.take k) i++n.set):=⟨by rw[F.out,if_pos z]⟩;rw[z]at v;clear F z;repeat' (first|refine aH (aj @eF (aj @v @E)) ?_|(first|apply ah|apply af)<;>intro l)
   refine CB (k:=n.set.length) (n:=(below (t.take k) i).length) (xv:=X) (yv:=w) (vs:=ints n.set) (cells:=ints (below (t.take k) i)) wN ef V.sl (by simp) (bI _) ef a.out.1 (by have:=Y.out;unfold big;omega) (λM r4 H k2 N O=>?_);have h1:Bx (Sx M r4 (ints (below (t.take (k+1)) i)) (below (t.take (k+1)) i).length):=⟨by rw[G.out];unfold ints at H ⊢;rw[List.map_append,List.length_append];exact H⟩;have h2:Bx (∀ id,id<s.n->M.get id=s.get id):=⟨λid p=>(N id om λb=>by have:=a.out.2.1 id b;omega).trans (a.out.2.2 id p)⟩;have h3:Bx (∀ id,aQ r4 id->s.n<=id):=⟨λid b=>by have:=O id b;omega⟩;clear H N O v E U;repeat' (first|refine aH @u ?_|(first|apply ah|apply af)<;>intro l)
   refine⟨t.length - (k+1),by omega,k+1,r4,rfl,by omega,by omega,h2.out,h1.out,h3.out,?_⟩;simp only[lk,Nat.reduceEqDiff,if_false,if_true,u,g,h,and_self]
  ·have G:Bx (below (t.take (k+1)) i=below (t.take k) i):=⟨by rw[F.out,if_neg z,List.append_nil]⟩;repeat' (first|refine aH (aj @eF (aj @v (aj @E @u))) ?_|(first|apply ah|apply af)<;>intro l)
   refine⟨t.length - (k+1),by omega,k+1,w,rfl,by omega,J,a.out.2.2,by rw[G.out];exact a.out.1,a.out.2.1,?_⟩;simp only[lk,Nat.reduceEqDiff,if_false,if_true,u,g,h,T,and_self]
 ·have Z:k=t.length:=by omega
  subst Z;rw[List.take_length]at d;have y:=rY (t:=t) i B;obtain⟨r,c,h1,h2,h3,P⟩:=kK d om (Ca i R);have hB:=Bx.mk (And.intro h1 (And.intro h2 (And.intro h3 P)));have a:=Bx.mk (And.intro q ho);clear h1 h2 h3 P d q ho;repeat' (first|refine aH trivial ?_|(first|apply ah|apply af)<;>intro l)
  refine⟨.inr trivial,w,ef,r,c,hB.out.1,hB.out.2.1,by have:=hB.out.2.2.1;omega,λid p=>?_⟩;rw[hB.out.2.2.2 id λb=>by have:=a.out.1 id b;omega];exact a.out.2 id p
theorem Ll {u:LV}{t:List Nd}{rs:List (Int × Int × LV)}(b:jK u t rs) (U:t.length<=30) (v:∀ n∈t,n.set.length<=3000) (i:Int) :
 PE 83 [u, .int .i64 i] (λr=>aP r (below t i)):=by
 have V:=lG;have I:∀ n∈t,∀ x∈n.set,bU x:=λn y=>by
  obtain⟨k,F,rfl⟩:=cF y;exact (b.nd k F).set.tQ
 have z:=b.sl.len;refine dS Tryz.func83 br c83 bw (by simp[LV.closed.au,LV.closed,b.closed]) ?_;refine mH λe f g=>?_;unfold l83;dsimp only[jA,qF,qS,qI,qA,qB,qC,qJ,qX,qm,ql,qR];repeat' (first|refine aG trivial ?_|(first|apply ah|apply af)<;>intro j)
 refine aN (λm e s1=>∃ (k:Nat) (w:LV),m=t.length - k/\k<=t.length/\Sx s1 w (ints (below (t.take k) i)) (below (t.take k) i).length/\e.at 0=u/\e.at 1 = .int .i64 i/\e.at 5=w/\e.at 6 = .int .i64 (k:Int)) _
  ⟨0, .aE 0 0 0 1,rfl,Nat.zero_le _,⟨rfl, .inr ⟨0,rfl,by simp[bJ],by simp[below,ints,bJ]⟩⟩,ef,ef,ef,by simp only[lk,Nat.reduceEqDiff,if_false,if_true];rfl⟩ ?_
 clear f g;clear e;rintro m e s1 ⟨k,w,rfl,F,c,f,g,J,X⟩;by_cases A:k<t.length
 ·have Y:(k:Int)<(t.length:Int):=by omega
  have l:=@bQ k om;obtain⟨K,o,B,L⟩:=gZ b.len b.nd A;have d:=zT A i;have p:=rY (t:=t.take k) i λn y=>v n (List.mem_of_mem_take y);have G:=v (t.getD k default) (fK A);rw[List.length_take]at p;generalize t.getD k default=n at *;generalize (rs.getD k default).2.2=M at *;have H:=Bx.mk c;have C:=Bx.mk d;have N:=Bx.mk (And.intro p G);clear c d p G;by_cases q:n.par=i
  ·have D:Bx (below (t.take (k+1)) i=below (t.take k) i++n.set):=⟨by rw[C.out,if_pos q]⟩;rw[q]at o;clear C q;repeat' (first|refine aH (aj @z (aj (@cU _ _ _ b.sl) (aj @o @B))) ?_|(first|apply ah|apply af)<;>intro j)
   refine CB (k:=n.set.length) (n:=(below (t.take k) i).length) (xv:=M) (yv:=w) (vs:=ints n.set) (cells:=ints (below (t.take k) i)) wN ef L.sl (by simp) (bI _) ef H.out (by have:=N.out;unfold big;omega) (λO r4 E Z P Q=>?_);have h1:Bx (Sx O r4 (ints (below (t.take (k+1)) i)) (below (t.take (k+1)) i).length):=⟨by rw[D.out];unfold ints at E ⊢;rw[List.map_append,List.length_append];exact E⟩;clear E P Q o B K;repeat' (first|refine aH @l ?_|(first|apply ah|apply af)<;>intro j)
   refine⟨t.length - (k+1),by omega,k+1,r4,rfl,by omega,h1.out,?_⟩;simp only[lk,Nat.reduceEqDiff,if_false,if_true,l,f,g,and_self]
  ·have D:Bx (below (t.take (k+1)) i=below (t.take k) i):=⟨by rw[C.out,if_neg q,List.append_nil]⟩;repeat' (first|refine aH (aj @z (aj (@cU _ _ _ b.sl) (aj @o (aj @B @l)))) ?_|(first|apply ah|apply af)<;>intro j)
   refine⟨t.length - (k+1),by omega,k+1,w,rfl,by omega,by rw[D.out];exact H.out,?_⟩;simp only[lk,Nat.reduceEqDiff,if_false,if_true,l,f,g,J,and_self]
 ·have R:k=t.length:=by omega
  subst R;rw[List.take_length]at c;have p:=rY (t:=t) i v;obtain⟨r,S,h1,h2,-⟩:=kK c om (Ca i I);have hB:=Bx.mk (And.intro h1 h2);clear h1 h2 c;repeat' (first|refine aH @z ?_|(first|apply ah|apply af)<;>intro j)
  have T:∀ (e:Env) (s:St) (a:LV),e.at 4=a->aW l83.results e s=some a:=λe s a h=>by simp[l83,aW,bD,h]
  refine⟨.inr trivial,w,T _ _ _ ef,r,S,hB.out.1,hB.out.2.closed,hB.out.2⟩
theorem Hs {s:St}{j:Nat}{t:List Nd}{rs:List (Int × Int × LV)}(f:TM s j t rs) :
 aM Tryz.prog GL (.fn (.func 85) [] []) [.aE j 0 t.length 3] s (λr s'=>aP r (t.map (·.name))/\s.n<=s'.n/\∀ id,id<s.n->s'.get id=s.get id):=by
 have N:=lG;have O:=f.lim;have G:∀ x∈t.map (·.name),bU x:=λx hx=>by
  obtain⟨n,H,rfl⟩:=List.mem_map.1 hx;obtain⟨k,q,rfl⟩:=cF H;exact (f.nd k q).nr
 refine zQ (bM (first:=[]) (caps:=[]) Tryz.func85 br c85 bw (aX.mono (Q:=λo e s'=>(o = .normal∨o = .jmp .ret)/\∃ w,e.at 2=w/\∃ r c,cY bp w s'=some (r,c)/\aP r (t.map (·.name))/\s.n<=c.n/\∀ id,id<s.n->c.get id=s.get id) ?_ λo e s' I=>by
  obtain⟨h1,w,h2,h3⟩:=I;exact⟨h1,w,by simp[l85,aW,bD,h2],h3⟩))
 refine Cd.out (pg λe i=>?_);unfold l85;dsimp only[jA,qF,qS,qI,qA,qB,qC,qJ,qX,qm,ql,qR];repeat' (first|refine aG trivial ?_|(first|apply ah|apply af)<;>intro l)
 refine aN (λm e s1=>∃ (k:Nat) (w:LV),m=t.length - k/\k<=t.length/\s.n<=s1.n/\(∀ id,id<s.n->s1.get id=s.get id)/\Sx s1 w (ints ((t.take k).map (·.name))) k/\(∀ id,aQ w id->s.n<=id)/\e.at 0 = .aE j 0 t.length 3/\e.at 3=w/\e.at 4 = .int .i64 (k:Int)) _
  ⟨0, .aE s.n 0 0 1,rfl,Nat.zero_le _,by simp,λid g=>by rw[St.aA,if_neg om],⟨rfl, .inr ⟨s.n,rfl,by simp,by simp[ints]⟩⟩,λid a=>by have:=aI.1 a;omega,ef,ef,by simp only[lk,Nat.reduceEqDiff,if_false,if_true];rfl⟩ ?_
 clear i;clear e;rintro m e s1 ⟨k,w,rfl,q,J,ho,d,h,i,P,R⟩;by_cases u:k<t.length
 ·have S:(k:Int)<(t.length:Int):=by omega
  have y:=@bQ k om;have z:=f.keep J (ho j f.lt);obtain⟨A,-,-,-⟩:=z.ld u;have B:(t.take (k+1)).map (·.name)=(t.take k).map (·.name)++[(t.getD k default).name]:=by rw[take_one t default u,List.map_append];rfl
  generalize (t.getD k default).name=K at *;have b:=Bx.mk (And.intro d (And.intro h ho));have L:=Bx.mk B;clear d h ho B z;repeat' (first|refine aH (aj @eF @A) ?_|(first|apply ah|apply af)<;>intro l)
  refine nK (v:=K) (yv:=w) ef ef b.out.1 (by unfold big;omega) (λC r4 p T D E=>?_);have h1:Bx (Sx C r4 (ints ((t.take (k+1)).map (·.name))) (k+1)):=⟨by rw[L.out];unfold ints at p ⊢;rw[List.map_append];exact p⟩;have h2:Bx (∀ id,id<s.n->C.get id=s.get id):=⟨λid g=>(D id om λa=>by have:=b.out.2.1 id a;omega).trans (b.out.2.2 id g)⟩;have h3:Bx (∀ id,aQ r4 id->s.n<=id):=⟨λid a=>by have:=E id a;omega⟩;clear p D E A;repeat' (first|refine aH @y ?_|(first|apply ah|apply af)<;>intro l)
  refine⟨t.length - (k+1),by omega,k+1,r4,rfl,by omega,by omega,h2.out,h1.out,h3.out,?_⟩;simp only[lk,dM,Nat.reduceEqDiff,if_false,if_true,y,i,and_self]
 ·have M:k=t.length:=by omega
  subst M;rw[List.take_length]at d;obtain⟨r,c,h1,h2,h3,F⟩:=kK d om G;have hB:=Bx.mk (And.intro h1 (And.intro h2 (And.intro h3 F)));have b:=Bx.mk (And.intro h ho);clear h1 h2 h3 F d h ho;repeat' (first|refine aH trivial ?_|(first|apply ah|apply af)<;>intro l)
  refine⟨.inr trivial,w,ef,r,c,hB.out.1,hB.out.2.1,by have:=hB.out.2.2.1;omega,λid g=>?_⟩;rw[hB.out.2.2.2 id λa=>by have:=b.out.1 id a;omega];exact b.out.2 id g
theorem HC {s:St}{j:Nat}{t:List Nd}{rs:List (Int × Int × LV)}(g:TM s j t rs) (w:∀ i,i<t.length->(t.getD i default).par<(i:Int)) {k:Nat}(x:k<t.length) (top:Int) :
 aM Tryz.prog GL (.fn (.func 84) [] []) [.aE j 0 t.length 3, .int .i64 (k:Int), .int .i64 top] s (λr s'=>r = .bool (jf t top (t.length+1) (t.getD k default).par)/\s'=s):=by
 have H:=lG;have I:=g.lim;refine bM (first:=[]) (caps:=[]) Tryz.func84 br c84 bw (aX.mono (Q:=λo e s'=>(o = .normal∨o = .jmp .ret)/\e.at 6 = .bool (jf t top (t.length+1) (t.getD k default).par)/\s'=s) ?_ λo e s' E=>by
  obtain⟨h1,h2,h3⟩:=E;exact⟨h1,_,by simp[l84,aW,bD,h2],rfl,h3⟩)
 refine Cd.out (ev3 λe h l n=>?_);have J:(k:Int)<(t.length:Int):=by omega
 obtain⟨-,y,-,-⟩:=g.ld x;have F:=w k x;generalize (t.getD k default).par=z at *;generalize b:jf t top (t.length+1) z=R at *;unfold l84;dsimp only[jA,qF,qI,qK,qm,ql,qR];repeat' (first|refine aG (aj @eF @y) ?_|(first|apply ah|apply af)<;>intro u)
 refine aN (λm e s1=>s1=s/\∃ (f:Nat) (p:Int),m=f/\p<f/\p<(t.length:Int)/\jf t top f p=R/\e.at 0 = .aE j 0 t.length 3/\e.at 1 = .int .i64 p/\e.at 2 = .int .i64 top) _
  ⟨rfl,t.length+1,z,rfl,by omega,by omega,b,ef,ef,ef⟩ ?_
 clear h l n y b;clear e;rintro m e s1 ⟨hs,f,p,rfl,G,K,b,h,l,n⟩;subst hs;by_cases A:0<=p
 ·obtain⟨q,rfl⟩:∃ q:Nat,p=(q:Int):=⟨p.toNat,by omega⟩;obtain⟨c,rfl⟩:∃ c,m=c+1:=⟨m - 1,by omega⟩;have B:q<t.length:=by omega
  obtain⟨-,C,-,-⟩:=g.ld B;have D:=w q B;have d:Bx ((decide ((q:Int)=top) || jf t top c (t.getD q default).par)=R):=⟨by
   rw[<- b];show _=if 0<=(q:Int) then _ else _
   rw[if_pos A,Int.toNat_natCast]⟩
  clear b;generalize (t.getD q default).par=p1 at *;by_cases v:(q:Int)=top
  ·have a:Bx (R=true):=⟨by rw[<- d.out,decide_eq_true v];rfl⟩;rw[v]at l;clear d;repeat' (first|refine aH (aj @eF @C) ?_|(first|apply ah|apply af)<;>intro u)
   exact⟨.inr trivial,by rw[a.out];exact ef,trivial⟩
  ·have a:Bx (jf t top c p1=R):=⟨by rw[<- d.out,decide_eq_false v];rfl⟩;clear d;repeat' (first|refine aH (aj @eF @C) ?_|(first|apply ah|apply af)<;>intro u)
   refine⟨c,by omega,trivial,c,p1,rfl,by omega,by omega,a.out,?_⟩;simp only[lk,Nat.reduceEqDiff,if_false,if_true,h,n,and_self]
 ·have a:Bx (R=false):=⟨by
   rw[<- b];cases m with
   | zero=>rfl
   | succ f=>show (if 0<=p then _ else _)=_;rw[if_neg A]⟩
  clear b;repeat' (first|refine aH @eF ?_|(first|apply ah|apply af)<;>intro u)
  exact⟨.inr trivial,by rw[a.out];exact ef,trivial⟩
end Go.Proofs.YtkbiecjdcjfhaaaGreat
end
