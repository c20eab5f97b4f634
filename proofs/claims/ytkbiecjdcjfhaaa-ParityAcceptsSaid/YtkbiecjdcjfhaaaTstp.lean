/- parity.text. -/
import Derived.Test.YtkbiecjdcjfhaaaTbase
import Derived.Test.YtkbiecjdcjfhaaaPvKM
import Derived.Test.YtkbiecjdcjfhaaaTnam
set_option linter.unusedSimpArgs false
set_option linter.unusedVariables false
set_option maxRecDepth 100000
set_option maxHeartbeats 16000000
section
namespace Go.Proofs.Ytkbiecjdcjfhaaa
open Go Go.Pv
open Classical
def b2 (n:Int):List Int:=[IntKind.u8.wrap n,IntKind.u8.wrap (n.fdiv 256)]
def CL (l:List Int):List LV:=l.map (LV.int .u8)
def FF (l:List Int):List UInt8:=(l.flatMap b2).map λz=>UInt8.ofNat z.toNat
theorem yT:∀ l:List Int,bytesOf (CL l)=some (l.map λz=>UInt8.ofNat z.toNat)
 | []=>rfl
 | z::l=>by
   show (do some (UInt8.ofNat z.toNat::(<- bytesOf (CL l))))=_;rw[yT l];rfl
theorem xm:∀ l:List Int,LV.closed.aq (CL l)=true
 | []=>rfl
 | z::l=>by
   show (true && LV.closed.aq (CL l))=true;rw[xm l];rfl
theorem Qk (l:List Int):(l.flatMap b2).length=2*l.length:=by
 induction l with
 | nil=>rfl
 | cons z l ih=>rw[List.flatMap_cons,List.length_append,ih,List.length_cons];show 2+_=_;omega
theorem V7 {s:St}{b j len:Nat}{cs:List LV}(m:s.get b=some (.cells .mut [.aD j 0 len 1])) (A:s.get j=some (.cells .mut cs)) (hl:cs.length=len) (p:b<s.n/\j<s.n) (dH:j≠b) (q:len<=1000000) (n:Int) :
 aJ Try.prog GL (.fn (.func 60) [] [.aH b 0]) [.int .i64 n] s (λ_ s'=>∃ a,s'.get b=some (.cells .mut [.aD a 0 (len+2) 1])/\s'.get a=some (.cells .mut (cs++CL (b2 n)))/\s.n<=a/\a<s'.n/\s.n<=s'.n):=by
 refine bL (first:=[]) (caps:=[.aH b 0]) Try.func60 (by decide +kernel) c60 (Nat.le_of_ble_eq_true rfl) (aQ.mono (Q:=λo e s'=>(o = .normal∨o = .jmp .ret)/\∃ a,s'.get b=some (.cells .mut [.aD a 0 (len+2) 1])/\s'.get a=some (.cells .mut (cs++CL (b2 n)))/\s.n<=a/\a<s'.n/\s.n<=s'.n) ?_ λo e s' B=>by
  obtain⟨h1,h2⟩:=B;exact⟨h1, .cy [],by simp[l60,br],h2⟩)
 refine Cd.out (pF λe G H=>?_);unfold l60;dsimp only[jA,jG,qm,ql];have t:iA .shr (.int .i64 n) (.int .u64 8)=some (.int .i64 (n.fdiv 256)):=rfl;have d:∃ u,IntKind.u8.wrap n=u:=⟨_,rfl⟩;have f:∃ w,IntKind.u8.wrap (n.fdiv 256)=w:=⟨_,rfl⟩;obtain⟨u,d⟩:=d;obtain⟨w,f⟩:=f;repeat' (first | refine gN (And.intro @m (And.intro @t (And.intro @d @f))) ?_ | (refine gB (And.intro @m (And.intro @t (And.intro @d @f))) ?_;rintro (_|_) h<;>try simp only[aG,reduceCtorEq]at h<;>try first | (exfalso;omega) | exact h.elim) | fail)
 refine Nk (k:=2) (n:=len) (vs:=CL (b2 n)) (cells:=cs) (yv:=.aD j 0 len 1) (by
  simp only[bB,List.map,lk,Nat.reduceEqDiff,if_false,if_true,List.map];have C:∀ z:Int,cells? (.int .u8 z)=some [.int .u8 z]:=λ_=>rfl;simp[rep,aW,C,splice,CL,b2,d,f]) (by simp[CL,b2]) (xm _) ef ⟨hl, .inr ⟨j,rfl,p.2,A⟩⟩ (by unfold big;omega) (λs' r h1 h2 h3 D=>?_)
 have x:s'.get b=some (.cells .mut [.aD j 0 len 1]):=by rw[h3 b p.1 λE=>dH (aC.1 E).symm];exact m
 obtain⟨h0,⟨rfl,y⟩ | ⟨a,rfl,y,h6⟩⟩:=h1
 ·omega
 have F:=D a (aC.2 rfl);have hB:=Bx.mk h6;clear h6 h3;repeat' (first | refine gN @x ?_ | (refine gB @x ?_;rintro (_|_) h<;>try simp only[aG,reduceCtorEq]at h<;>try first | (exfalso;omega) | exact h.elim) | fail)
 refine⟨.inl trivial,a,by rw[St.ah,if_pos rfl],by rw[St.ah,if_neg om];exact hB.out,F,y,h2⟩
theorem HS {v:LV}{l:List Int}(d:aM v l) (hl:l.length<=100000):PO 50 [v] (.str ⟨(FF l).toArray⟩):=by
 have C:=d.closed;have f:=d.sl.len;have p:IntKind.i64.wrap (2*(l.length:Int))=((2*l.length:Nat):Int):=by rw[wrap_i64 _ om om];rfl
 refine lK (t:=2) hm Try.func50 (by decide +kernel) c50 (Nat.le_of_ble_eq_true rfl) (by simp[LV.closed.aq,C]) rfl rfl ?_;refine sJ λe D=>?_;unfold l50;dsimp only[jA,jG,qS,qI,qA,qB,qC,qm,ql];repeat' (first | refine gN (And.intro @f @p) ?_ | (refine gB (And.intro @f @p) ?_;rintro (_|_) a<;>try simp only[aG,reduceCtorEq]at a<;>try first | (exfalso;omega) | exact a.elim) | fail)
 refine eN (v:=.aD 0 0 0 1) (s':=St.empty.new (.cells .mut [])) (by
  have h1:((2*l.length:Nat):Int)*1<=big:=by unfold big;omega
  have h2:((2*l.length:Nat):Int)<=big:=by unfold big;omega
  simp only[aR.run,lk,dJ,gW,Nat.reduceEqDiff,if_false,if_true,p];rw[if_pos ⟨Int.le_refl _,by omega,by simpa using h1,h2,trivial⟩];simp[cj,rep]) ?_
 have h:(St.empty.new (.cells .mut [])).n=1:=by simp[cj]
 have b:(St.empty.new (.cells .mut [])).get 0=some (.cells .mut []):=by simp[cj]
 generalize St.empty.new (.cells .mut [])=E at *;repeat' (first | refine gN @f ?_ | (refine gB @f ?_;rintro (_|_) a<;>try simp only[aG,reduceCtorEq]at a<;>try first | (exfalso;omega) | exact a.elim) | fail)
 refine aS (λm e s=>∃ k j:Nat,m=l.length - k/\k<=l.length/\s.get 1=some (.cells .mut [.aD j 0 (2*k) 1])/\s.get j=some (.cells .mut (CL ((l.take k).flatMap b2)))/\j≠1/\j<s.n/\1<s.n/\e.at 3 = .aH 1 0/\e.at 4 = .fn (.func 60) [] [.aH 1 0]/\e.at 12=v/\e.at 13 = .int .i64 (l.length:Int)/\e.at 14 = .int .i64 (k:Int)) _
  ⟨0,0,rfl,by omega,by simp,by simp[CL,h,b],by omega,by simp[h],by simp[h],ef,by simp only[List.map,lk,Nat.reduceEqDiff,if_false,if_true,List.map],ef,ef,by simp only[lk,Nat.reduceEqDiff,if_false,if_true,List.map];rfl⟩ ?_
 clear D h b;clear e E;rintro m e s ⟨k,j,rfl,U,h1,o,dH,F,G,H,I,J,K,V⟩;by_cases L:k<l.length
 ·have M:(k:Int)<(l.length:Int):=by omega
  have q:IntKind.i64.wrap ((k:Int)+1)=((k+1:Nat):Int):=by rw[wrap_i64 _ om om];rfl
  have y:=bu M;have z:l.take (k+1)=l.take k++[l.getD k 0]:=by rw[List.take_add_one,gD,gE L];rfl
  generalize l.getD k 0=x at *;have A:=Qk (l.take k);rw[List.length_take]at A;have B:=V7 (len:=2*k) h1 o (by simp[CL,A];omega) ⟨G,F⟩ dH om x;have N:Bx (CL ((l.take (k+1)).flatMap b2)=CL ((l.take k).flatMap b2)++CL (b2 x)):=⟨by rw[z];simp[CL,List.flatMap_append]⟩;clear z h1 o;repeat' (first | refine gN (And.intro (@cw _ _ _ d.sl) @y) ?_ | (refine gB (And.intro (@cw _ _ _ d.sl) @y) ?_;intro u a;cases u<;>(try simp only[aG]at a)<;>(try first | omega | exact a.elim)) | fail)
  refine bH wN (fv:=.fn (.func 60) [] [.aH 1 0]) (vs:=[.int .i64 x]) ef (by simp only[List.map,lk,Nat.reduceEqDiff,if_false,if_true,List.map]) (aJ.mono B λr Y O=>⟨trivial,?_⟩);obtain⟨P,a1,a2,a3,a4,a5⟩:=O;simp only[Env.au];rw[<- N.out]at a2;clear B;repeat' (first | refine gN @q ?_ | (refine gB @q ?_;rintro (_|_) a<;>try simp only[aG,reduceCtorEq]at a<;>try first | (exfalso;omega) | exact a.elim) | fail)
  refine⟨l.length - (k+1),by omega,k+1,P,rfl,by omega,by rw[a1];rfl,a2,by omega,a4,by omega,?_⟩;simp only[lk,Nat.reduceEqDiff,if_false,if_true,q,H,I,J,K,and_self]
 ·have Q:k=l.length:=by omega
  subst Q;rw[List.take_length]at o;have T:rowOf s 1 (2*l.length) (.aD j 0 (2*l.length) 1)=some (CL (l.flatMap b2)):=by
   have:=Qk l;simp only[rowOf,o,CL,List.length_map,this,Nat.zero_add,Nat.mul_one,Nat.le_refl,and_self,if_true,List.drop_zero];rw[List.take_of_length_le (by rw[List.length_map,this];exact Nat.le_refl _)]
  have w:=yT (l.flatMap b2);repeat' (first | refine gN @h1 ?_ | (refine gB @h1 ?_;intro u a;cases u<;>(try simp only[aG]at a)<;>(try first | omega | exact a.elim)) | fail)
  refine eN (v:=.str ⟨(FF l).toArray⟩) (s':=s) (by
   simp only[aR.run,lk,gW,Nat.reduceEqDiff,if_false,if_true,fm,T,w];rfl) ?_
  repeat' (first | refine gN trivial ?_ | (refine gB trivial ?_;rintro (_|_) a<;>try simp only[aG,reduceCtorEq]at a<;>try first | (exfalso;omega) | exact a.elim) | fail)
  exact⟨.inr trivial,ef⟩
open Go Go.Pv Go.Jo
def eT (l:List Gn) (i:Nat):List Nd:=((l.take i).filter λn=>!n.gone).map λn=>⟨n.name,place l n.par,n.kept⟩
theorem vF {l:List Gn}{i:Nat}{g:Gn}(h:l.take (i+1)=l.take i++[g]) (a:g.gone=true):eT l (i+1)=eT l i/\eF (l.take (i+1))=eF (l.take i):=by
 unfold eT eF;rw[h];simp[List.filter_append,a]
theorem D3 {l:List Gn}{i:Nat}{g:Gn}(h:l.take (i+1)=l.take i++[g]) (a:g.gone=false):eT l (i+1)=eT l i++[(⟨g.name,place l g.par,g.kept⟩:Nd)]/\ic (l.take (i+1))=ic (l.take i):=by
 unfold eT ic;rw[h];simp[List.filter_append,a]
theorem Gu (l:List Gn):eT l l.length=leave l:=by unfold eT leave;rw[List.take_length]
theorem Kv (l:List Gn) (i:Nat):(eT l i).length<=i:=by
 unfold eT;have:=List.length_filter_le (λn:Gn=>!n.gone) (l.take i);rw[List.length_take]at this;rw[List.length_map];omega
theorem Aw (l:List Gn) (p:Int) (h0 : -1<=p) : -1<=place l p/\place l p<=l.length:=by
 unfold place;split
 ·split
  ·omega
  ·have:=List.length_filter_le (λn:Gn=>!n.gone) (l.take p.toNat);rw[List.length_take]at this;omega
 ·omega
def Gb (l:List Gn) (i:Nat):Nat->LV:=λj=>.int .i64 (if j<i then place l j else 0)
theorem xj {α:Type}{row:α->List LV} : ∀ {l:List α},(∀ x∈l,LV.closed.aq (row x)=true)->LV.closed.aq (eG row l)=true
 | [],_=>rfl
 | x :: l, h => by
   have e:eG row (x::l)=row x++eG row l:=by simp[eG]
   have h1:=h x (by simp);have h2:=xj (l:=l) λy d=>h y (by simp[d]);have key:∀ {a b:List LV},LV.closed.aq a=true->LV.closed.aq b=true->LV.closed.aq (a++b)=true:=by
    intro a;induction a with
    | nil=>intro b _ h;exact h
    | cons v a ih=>
      intro b h1 h2;simp only[LV.closed.aq,Bool.and_eq_true,List.cons_append] at *;exact⟨h1.1,ih h1.2 h2⟩
   rw[e];exact key h1 h2
theorem FV.tup2 {T:Nat->Prop}{d:Nat}{s:St}{a b e f:LV}(h:FV T d s a e) (j:FV T d s b f):FV T (d+1) s (.cy [a,b]) (.cy [e,f]):=by
 by_cases k:(LV.cy [a,b]).closed=true
 ·have h1:a.closed=true/\b.closed=true:=by simpa[LV.closed,LV.closed.aq] using k
  rw[h.of_closed h1.1,j.of_closed h1.2];exact FV.shut k
 ·refine .inr (.inr (.inr (.inr ⟨[a,b],[e,f],rfl,by simpa using k,rfl,rfl,by simp[LV.closed.aq,h.closed,j.closed],λi m=>?_⟩)));match i,m with
  | 0,_=>exact h
  | 1,_=>exact j
theorem FV.agg2 {T:Nat->Prop}{d:Nat}{s:St}{a b e f:LV}(h:FV T d s a e) (j:FV T d s b f):FV T (d+1) s (.agg [a,b]) (.agg [e,f]):=by
 by_cases k:(LV.agg [a,b]).closed=true
 ·have h1:a.closed=true/\b.closed=true:=by simpa[LV.closed,LV.closed.aq] using k
  rw[h.of_closed h1.1,j.of_closed h1.2];exact FV.shut k
 ·refine .inr (.inr (.inr (.inl ⟨[a,b],[e,f],rfl,by simpa using k,rfl,rfl,by simp[LV.closed.aq,h.closed,j.closed],λi m=>?_⟩)));match i,m with
  | 0,_=>exact h
  | 1,_=>exact j
structure SV (s:St) (lo:Nat) (v:LV) (R:List GR) (l:List Gn) (X Pb c i:Nat) (v9 gv bv:LV) (rs:List (Int × Int × LV)):Prop where
  gs:GS s lo v R
  b7:s.get 0=some (.cells .mut [.aj, .aj])
  Ql:s.get X=some (.cells .mut [gv,bv])
  pl:s.get Pb=some (.cells .mut (bw l.length (Gb l i)))
  g:dQ s gv 1 (ints (eF (l.take i))) (eF (l.take i)).length
  b:dQ s bv 1 (ints (ic (l.take i))) (ic (l.take i)).length
  t:dQ s v9 3 (eG wg rs) rs.length
  rl:rs.length=(eT l i).length
  rn:∀ k,k<rs.length->Qv (rs.getD k default) ((eT l i).getD k default)
  sep:∀ id,(aP v id∨∃ r∈R,id=r.2.2)->id<c/\id≠X/\id≠Pb
  low:0<X/\X<Pb/\Pb<c/\c<=s.n
  up:(∀ id,aP gv id->c<=id)/\(∀ id,aP bv id->c<=id)/\∀ id,aP v9 id->c<=id
  ap:(∀ id,aP gv id->¬ aP bv id)/\(∀ id,aP gv id->¬ aP v9 id)/\∀ id,aP bv id->¬ aP v9 id
theorem SV.gs' {s s':St}{lo:Nat}{v:LV}{R:List GR}{l:List Gn}{X Pb c i:Nat}{v9 gv bv:LV}{rs:List (Int × Int × LV)}(h:SV s lo v R l X Pb c i v9 gv bv rs) (a:s.n<=s'.n) (ho:∀ id,id<c->id≠X->id≠Pb->s'.get id=s.get id):GS s' lo v R/\s'.get 0=some (.cells .mut [.aj, .aj]) :=
 have hl:=h.low
 ⟨h.gs.frame a (λid b=>by
  have:=h.sep id (.inl b);exact ho id this.1 this.2.1 this.2.2) λr d=>by
  have:=h.sep r.2.2 (.inr ⟨r,d,rfl⟩);exact ho _ this.1 this.2.1 this.2.2,(ho 0 om om om).trans h.b7⟩
theorem SV.grow {s s':St}{lo:Nat}{v:LV}{R:List GR}{l:List Gn}{X Pb c i:Nat}{v9 gv bv:LV}{rs:List (Int × Int × LV)}(h:SV s lo v R l X Pb c i v9 gv bv rs) (d:s.n<=s'.n) (ho:∀ id,id<s.n->s'.get id=s.get id):SV s' lo v R l X Pb c i v9 gv bv rs:=
 have hl:=h.low;have e:=h.gs' d λid f _ _=>ho id om
 ⟨e.1,e.2,(ho X om).trans h.Ql,(ho Pb om).trans h.pl,h.g.mono d λid a=>ho id (h.g.lt a),h.b.mono d λid a=>ho id (h.b.lt a),h.t.mono d λid a=>ho id (h.t.lt a),h.rl,h.rn,h.sep,by omega,h.up,h.ap⟩
theorem DF {l:List Gn}{i:Nat}{g:Gn}(b:l.getD i default=g) (h:g.gone=true) (j:Nat):Gb l (i+1) j=Gb l i j:=by
 unfold Gb;by_cases e:j=i
 ·subst e;have:place l (j:Int)=0:=by
   unfold place;rw[if_pos om,Int.toNat_natCast,b,if_pos h]
  simp[this]
 ·by_cases a:j<i
  ·simp[a,show j<i+1 by omega]
  ·simp[a,show ¬ j<i+1 by omega]
theorem Nt {l:List Gn}{i:Nat}{g:Gn}(b:l.getD i default=g) (h:g.gone=false) (j:Nat):Gb l (i+1) j=if j=i then .int .i64 ((eT l i).length:Int) else Gb l i j:=by
 unfold Gb;by_cases e:j=i
 ·subst e;have:place l (j:Int)=((eT l j).length:Int):=by
   unfold place eT;rw[if_pos om,Int.toNat_natCast,b,h,List.length_map];simp
  simp[this]
 ·by_cases a:j<i
  ·simp[e,a,show j<i+1 by omega]
  ·simp[e,a,show ¬ j<i+1 by omega]
theorem qU {l:List Gn}{i:Nat}{g:Gn}(h:l.take (i+1)=l.take i++[g]):ic (l.take (i+1))=ic (l.take i)++if g.gone && g.old then [g.name] else []:=by
 unfold ic;rw[h,List.filter_append,List.map_append];congr 1;by_cases e:(g.gone && g.old)=true<;>simp[e]
theorem yy {l:List Gn}{i:Nat}{g:Gn}(h:l.take (i+1)=l.take i++[g]):eF (l.take (i+1))=eF (l.take i)++if !g.gone && g.bX then [g.name] else []:=by
 unfold eF;rw[h,List.filter_append,List.map_append];congr 1;by_cases e:(!g.gone && g.bX)=true<;>simp[e]
section
variable {s s':St}{lo:Nat}{v:LV}{R:List GR}{l:List Gn}{X Pb c i:Nat}{v9 gv bv:LV}{rs:List (Int × Int × LV)}{g:Gn}
theorem SV.bad (h:SV s lo v R l X Pb c i v9 gv bv rs) (q:l.take (i+1)=l.take i++[g]) (w:l.getD i default=g) (k:g.gone=true) (x:g.old=true) {f:LV}(m:s.n<=s'.n) (y:s'.get X=some (.cells .mut [gv,f])) (z:dQ s' f 1 (ints (ic (l.take i))++[.int .i64 g.name]) ((ic (l.take i)).length+1)) (o:∀ id,aP f id->s.n<=id) (ho:∀ id,id<s.n->id≠X->¬ aP bv id->s'.get id=s.get id):SV s' lo v R l X Pb c (i+1) v9 gv f rs:=by
 have hl:=h.low;have b:=h.up;have p:=h.ap;have r:=h.gs' m λid h1 h2 _=>ho id om h2 λd=>by have:=b.2.1 id d;omega
 obtain⟨u,A⟩:=vF q k;refine⟨r.1,r.2,y,?_,?_,?_,h.t.mono m λid a=>ho id (h.t.lt a) (by have:=b.2.2 id a;omega) λd=>p.2.2 id d a,by rw[u];exact h.rl,by rw[u];exact h.rn,h.sep,by omega,⟨b.1,λid a=>by have:=o id a;omega,b.2.2⟩,⟨λid h1 h2=>by have:=o id h2;have:=h.g.lt h1;omega,p.2.1,λid h1 h2=>by have:=o id h1;have:=h.t.lt h2;omega⟩⟩
 ·rw[kC (g:=Gb l i) λj _=>DF w k j];exact (ho Pb om om λd=>by have:=b.2.1 Pb d;omega).trans h.pl
 ·rw[A];exact h.g.mono m λid a=>ho id (h.g.lt a) (by have:=b.1 id a;omega) (p.1 id a)
 ·rw[qU q,k,x];have e:ints (ic (l.take i)++[g.name])=ints (ic (l.take i))++[.int .i64 g.name]:=by simp[ints]
  simp only[Bool.and_self,if_true,List.length_append,List.length_singleton];rw[e];exact z
theorem SV.skip (h:SV s lo v R l X Pb c i v9 gv bv rs) (d:l.take (i+1)=l.take i++[g]) (f:l.getD i default=g) (a:g.gone=true) (k:g.old=false):SV s lo v R l X Pb c (i+1) v9 gv bv rs:=by
 obtain⟨e,m⟩:=vF d a;have n:ic (l.take (i+1))=ic (l.take i):=by rw[qU d,a,k];simp
 exact⟨h.gs,h.b7,h.Ql,by rw[kC (g:=Gb l i) λj _=>DF f a j];exact h.pl,by rw[m];exact h.g,by rw[n];exact h.b,h.t,by rw[e];exact h.rl,by rw[e];exact h.rn,h.sep,h.low,h.up,h.ap⟩
structure SW (s:St) (lo:Nat) (v:LV) (R:List GR) (l:List Gn) (X Pb c i:Nat) (v9 gv bv:LV) (rs:List (Int × Int × LV)) (ip:Nat):Prop where
  gs:GS s lo v R
  b7:s.get 0=some (.cells .mut [.aj, .aj])
  Ql:s.get X=some (.cells .mut [gv,bv])
  pl:s.get Pb=some (.cells .mut (bw l.length (Gb l ip)))
  g:dQ s gv 1 (ints (eF (l.take (i+1)))) (eF (l.take (i+1))).length
  b:dQ s bv 1 (ints (ic (l.take (i+1)))) (ic (l.take (i+1))).length
  t:dQ s v9 3 (eG wg rs) rs.length
  rl:rs.length=(eT l i).length
  rn:∀ k,k<rs.length->Qv (rs.getD k default) ((eT l i).getD k default)
  sep:∀ id,(aP v id∨∃ r∈R,id=r.2.2)->id<c/\id≠X/\id≠Pb
  low:0<X/\X<Pb/\Pb<c/\c<=s.n
  up:(∀ id,aP gv id->c<=id)/\(∀ id,aP bv id->c<=id)/\∀ id,aP v9 id->c<=id
  ap:(∀ id,aP gv id->¬ aP bv id)/\(∀ id,aP gv id->¬ aP v9 id)/\∀ id,aP bv id->¬ aP v9 id
theorem SW.grow {e:Nat}(h:SW s lo v R l X Pb c i v9 gv bv rs e) (d:s.n<=s'.n) (ho:∀ id,id<s.n->s'.get id=s.get id):SW s' lo v R l X Pb c i v9 gv bv rs e:=
 have hl:=h.low
 ⟨h.gs.mono d ho,(ho 0 om).trans h.b7,(ho X om).trans h.Ql,(ho Pb om).trans h.pl,h.g.mono d λid a=>ho id (h.g.lt a),h.b.mono d λid a=>ho id (h.b.lt a),h.t.mono d λid a=>ho id (h.t.lt a),h.rl,h.rn,h.sep,by omega,h.up,h.ap⟩
theorem SV.same (h:SV s lo v R l X Pb c i v9 gv bv rs) (a:l.take (i+1)=l.take i++[g]) (d:g.gone=false) (e:g.bX=false):SW s lo v R l X Pb c i v9 gv bv rs i:=by
 have f:ic (l.take (i+1))=ic (l.take i):=by rw[qU a,d];simp
 have j:eF (l.take (i+1))=eF (l.take i):=by rw[yy a,d,e];simp
 exact⟨h.gs,h.b7,h.Ql,h.pl,by rw[j];exact h.g,by rw[f];exact h.b,h.t,h.rl,h.rn,h.sep,h.low,h.up,h.ap⟩
theorem SV.bX (h:SV s lo v R l X Pb c i v9 gv bv rs) (q:l.take (i+1)=l.take i++[g]) (r:g.gone=false) (a:g.bX=true) {j:LV}(k:s.n<=s'.n) (w:s'.get X=some (.cells .mut [j,bv])) (m:dQ s' j 1 (ints (eF (l.take i))++[.int .i64 g.name]) ((eF (l.take i)).length+1)) (o:∀ id,aP j id->s.n<=id) (ho:∀ id,id<s.n->id≠X->¬ aP gv id->s'.get id=s.get id):SW s' lo v R l X Pb c i v9 j bv rs i:=by
 have hl:=h.low;have f:=h.up;have p:=h.ap;have u:=h.gs' k λid h1 h2 _=>ho id om h2 λa=>by have:=f.1 id a;omega
 have x:ic (l.take (i+1))=ic (l.take i):=by rw[qU q,r];simp
 refine⟨u.1,u.2,w,(ho Pb om om λa=>by have:=f.1 Pb a;omega).trans h.pl,?_,by rw[x];exact h.b.mono k λid d=>ho id (h.b.lt d) (by have:=f.2.1 id d;omega) λa=>p.1 id a d,h.t.mono k λid d=>ho id (h.t.lt d) (by have:=f.2.2 id d;omega) λa=>p.2.1 id a d,h.rl,h.rn,h.sep,by omega,⟨λid d=>by have:=o id d;omega,f.2⟩,⟨λid h1 h2=>by have:=o id h1;have:=h.b.lt h2;omega,λid h1 h2=>by have:=o id h1;have:=h.t.lt h2;omega,p.2.2⟩⟩;rw[yy q,r,a];have e:ints (eF (l.take i)++[g.name])=ints (eF (l.take i))++[.int .i64 g.name]:=by simp[ints]
 simp only[Bool.not_false,Bool.and_self,if_true,List.length_append,List.length_singleton];rw[e];exact m
theorem SW.told (h:SW s lo v R l X Pb c i v9 gv bv rs i) (j:s'.n=s.n) (e:s'.get Pb=some (.cells .mut (bw l.length (Gb l (i+1))))) (ho:∀ id,id≠Pb->s'.get id=s.get id):SW s' lo v R l X Pb c i v9 gv bv rs (i+1):=by
 have hl:=h.low;have d:=h.up;exact⟨h.gs.frame om (λid a=>ho id (h.sep id (.inl a)).2.2) λr f=>ho _ (h.sep _ (.inr ⟨r,f,rfl⟩)).2.2,(ho 0 om).trans h.b7,(ho X om).trans h.Ql,e,h.g.mono om λid a=>ho id (by have:=d.1 id a;omega),h.b.mono om λid a=>ho id (by have:=d.2.1 id a;omega),h.t.mono om λid a=>ho id (by have:=d.2.2 id a;omega),h.rl,h.rn,h.sep,by omega,h.up,h.ap⟩
theorem SW.dD {d nb:Nat}(h:SW s lo v R l X Pb c i v9 gv bv rs d) (j:s'.n=s.n) (k:c<=nb) (h1:¬ aP gv nb) (h2:¬ aP bv nb) (h3:¬ aP v9 nb) (ho:∀ id,id≠nb->s'.get id=s.get id):SW s' lo v R l X Pb c i v9 gv bv rs d:=by
 have hl:=h.low;exact⟨h.gs.frame om (λid a=>ho id (by have:=h.sep id (.inl a);omega)) λr f=>ho _ (by have:=h.sep _ (.inr ⟨r,f,rfl⟩);omega),(ho 0 om).trans h.b7,(ho X om).trans h.Ql,(ho Pb om).trans h.pl,h.g.mono om λid a=>ho id λe=>h1 (e ▸ a),h.b.mono om λid a=>ho id λe=>h2 (e ▸ a),h.t.mono om λid a=>ho id λe=>h3 (e ▸ a),h.rl,h.rn,h.sep,by omega,h.up,h.ap⟩
theorem SW.done (h:SW s lo v R l X Pb c i v9 gv bv rs (i+1)) (x:l.take (i+1)=l.take i++[g]) (y:g.gone=false) {v9' Rl:LV}(j:s.n<=s'.n) {r:Int × Int × LV}(z:dQ s' v9' 3 (eG wg rs++wg r) (rs.length+1)) (A:Qv r ⟨g.name,place l g.par,g.kept⟩) (m:∀ id,aP v9' id->s.n<=id) {T:Nat->Prop}(o:∀ id,T id->c<=id/\¬ aP gv id/\¬ aP bv id) (ho:∀ id,id<s.n->¬ aP v9 id->¬ T id->s'.get id=s.get id):SV s' lo v R l X Pb c (i+1) v9' gv bv (rs++[r]):=by
 have hl:=h.low;have p:=h.up;have q:=h.ap;obtain⟨w,E⟩:=D3 x y;have f:∀ id,id<c->s'.get id=s.get id:=λid a=>ho id om (λd=>by have:=p.2.2 id d;omega) λd=>by have:=(o id d).1;omega
 refine⟨h.gs.frame j (λid a=>f id (h.sep id (.inl a)).1) λr B=>f _ (h.sep _ (.inr ⟨r,B,rfl⟩)).1,(f 0 om).trans h.b7,(f X om).trans h.Ql,(f Pb om).trans h.pl,h.g.mono j λid a=>ho id (h.g.lt a) (q.2.1 id a) λd=>(o id d).2.1 a,h.b.mono j λid a=>ho id (h.b.lt a) (q.2.2 id a) λd=>(o id d).2.2 a,by rw[kV,wI,List.length_append,List.length_singleton];exact z,by rw[w,List.length_append,List.length_append,h.rl];rfl,λk C=>?_,h.sep,by omega,⟨p.1,p.2.1,λid a=>by have:=m id a;omega⟩,⟨q.1,λid h1 h2=>by have:=m id h2;have:=h.g.lt h1;omega,λid h1 h2=>by have:=m id h2;have:=h.b.lt h1;omega⟩⟩;rw[List.length_append,List.length_singleton]at C;rw[w];by_cases e:k<rs.length
 ·have t:(rs++[r]).getD k default=rs.getD k default:=by simp[gD,List.getElem?_append_left e]
  have u:(eT l i++[(⟨g.name,place l g.par,g.kept⟩:Nd)]).getD k default=(eT l i).getD k default:=by
   rw[gD,gD,List.getElem?_append_left (by rw[<- h.rl];exact e)]
  rw[t,u];exact h.rn k e
 ·have D:k=rs.length:=by omega
  subst D;have t:(rs++[r]).getD rs.length default=r:=by simp[gD]
  have u:(eT l i++[(⟨g.name,place l g.par,g.kept⟩:Nd)]).getD rs.length default=(⟨g.name,place l g.par,g.kept⟩:Nd):=by
   rw[h.rl];simp[gD]
  rw[t,u];exact A
end
noncomputable def JY (B:Bu) (t:List Nd):Prop:=t.length<=B.next.length/\Tr B.next.length t
noncomputable def mC (B:Bu) (t:List Nd) (a:Nat):List Nd:=if JY B t then Go.Jo.step B.next.length (λq=>iV B q a) t else []
noncomputable def Ae (B:Bu) (t:List Nd) (a:Nat):List Int:=if JY B t then evG B.next.length (λq=>iV B q a) t else []
noncomputable def Af (B:Bu) (t:List Nd) (a:Nat):List Int:=if JY B t then evB B.next.length (λq=>iV B q a) t else []
theorem MH {bv0 tv:LV}{B:Bu}{sv nv:LV}(hB:zW bv0 B sv nv) (hv:Vb B) (hN:B.next.length<=1500) {t:List Nd}{rs0:List (Int × Int × LV)}(ht:uw tv t rs0) {a:Nat}(ha:(a:Int)<B.L) (q8:∀ q,(iV B q a).length<=1000000) :
 PE 51 [bv0,tv, .int .i64 (a:Int)] (λr=>∃ MG gv bv rs,r = .cy [MG, .agg [gv,bv]]/\uw MG (mC B t a) rs/\aM gv (Ae B t a)/\aM bv (Af B t a)):=by
 have cx:=hB.closed;have SP:=ht.closed;have iX:=FG hB ht;have Vf:=λh1 h2 h3 s=>Px hB ht (a:=a) h1 h2 q8 h3 s;obtain⟨rfl,hs,N⟩:=hB;have vK:=hs.closed;have uz:=N.closed;obtain⟨vs,iE⟩:=N;have zG:=hs.sl.cell;have zI:=iE.sl.cell;have hL64:=hv.2.1;refine n8 Try.func51 (by decide +kernel) c51 (Nat.le_of_ble_eq_true rfl) (by simp[LV.closed.aq,LV.closed,SP,vK,uz]) ?_;refine ev3 λe e0 e1 e2=>?_;unfold l51;dsimp only[jA,jB,jC,jG,jH,qM,qL,qN,qF,qS,qI,qA,qB,qC,qO,qP,qG,qm,ql];by_cases cQ:JY B t
 ·have O6 : decide (Vb B /\ t.length <= B.next.length /\ Tr B.next.length t) = true := decide_eq_true ⟨hv, cQ⟩;rw[O6]at iX;clear O6;have hvB:=Bx.mk hv;clear hv;repeat' (first | refine gA trivial ?_ | (refine gB trivial ?_;rintro (_|_) o<;>try simp only[aG,reduceCtorEq]at o<;>try first | (exfalso;omega) | exact o.elim) | apply aA | fail)
  refine dR ez (iX) (by first | exact wN | (apply wG;(simp only[lk,Nat.reduceEqDiff,reduceIte,e0,e1,e2];(try rfl);done))) (by simp only[List.map,lk,Nat.reduceEqDiff,reduceIte];try rfl) (by first | trivial | (simp only[cH,aE,aR.run,Env.au,Env.bI,svq,Nat.reduceEqDiff,Nat.reduceAdd,Nat.reduceLeDiff,reduceIte,aT,eH,List.map,bC,beq_self_eq_true,reduceCtorEq,false_or,true_and,and_true,Option.some.injEq, *];done)) ?_;simp only[Env.au];clear iX;repeat' (first | refine gA trivial ?_ | (refine gB trivial ?_;intro bb o;cases bb<;>(try simp only[aG]at o)<;>(try first | omega | exact o.elim)) | apply aA | fail)
  have hv:=hvB.out;have K7:=cQ.2;have hE:Bx (mC B t a=Go.Jo.step B.next.length (λq=>iV B q a) t/\Ae B t a=evG B.next.length (λq=>iV B q a) t/\Af B t a=evB B.next.length (λq=>iV B q a) t):=⟨by simp[mC,Ae,Af,cQ]⟩;have hsets:Qr B.next.length t:=λn N x hx=>by
   obtain⟨i,hi,rfl⟩:=List.getElem_of_mem N;have h:=K7.1 i hi;rw[gD,gE hi]at h;exact h.jd x hx
  have bV:∀ q,q<B.next.length->a<(B.next.getD q []).length:=λq hq=>by
   have:=(hv.2.2.2.2 q hq).1;omega
  have WH:∀ q,q<B.next.length->∀ m∈iV B q a,0<=m.1/\m.1<B.next.length:=λq hq m hm=>by
   have h:=(hv.2.2.2.2 q hq).2 a (bV q hq);obtain⟨k,hk,rfl⟩:=List.getElem_of_mem hm;have h1:=h k hk;rw[show (B.next.getD q []).getD a []=iV B q a from rfl,gD,gE hk]at h1;exact⟨h1.1,h1.2.1⟩
  have O:=Vf hsets bV WH;have zM:(St.empty.new (.cells .mut [.aj, .aj])).get 0=some (.cells .mut [.aj, .aj]):=by simp[cj]
  have wq:(St.empty.new (.cells .mut [.aj, .aj])).n=1:=by simp[cj]
  generalize St.empty.new (.cells .mut [.aj, .aj])=s0 at *;have P:=Jd (mv:=λq=>iV B q a) K7 om;have hlG:(grown B.next.length (λq=>iV B q a) t).length=2*t.length:=by simp[grown];omega
  have lT:=cQ.1;refine bH wN (fv:=.fn (.func 62) [] []) (vs:=[.agg [.int .i64 B.L,sv,nv],tv, .int .i64 (a:Int)]) ef (by simp only[List.map,lk,dJ,Nat.reduceEqDiff,if_false,if_true,List.map]) (aJ.mono (O _) λv s1 G=>⟨trivial,?_⟩);obtain⟨R1,Pp,Y3,gH,eY⟩:=G;simp only[Env.au];clear O Vf;have o8:R1.length=2*t.length:=by rw[<- hlG,<- Y3,List.length_map]
  have yh:cI B.next.length (λq=>iV B q a) t=named (2*B.next.length) (aL (aK (R1.map (·.1)))):=by rw[Y3];rfl
  rw[<- Y3]at P;have Y5:=ES P;have Q:=yJ Y5;have Y4:=Ix Q;have mZ:=Lo Pp P.1 om om λn N=>(P.2 n N).inc.imp λh=>by omega
  repeat' (first | refine gA trivial ?_ | (refine gB trivial ?_;rintro (_|_) o<;>try simp only[aG,reduceCtorEq]at o<;>try first | (exfalso;omega) | exact o.elim) | apply aA | fail)
  refine bH wN (fv:=.fn (.func 63) [] []) (vs:=[v]) ef (by simp only[List.map,lk,dJ,Nat.reduceEqDiff,if_false,if_true,List.map]) (aJ.mono mZ λx s2 G=>⟨trivial,?_⟩);obtain⟨R2,hG2,hR2,jY,oQ⟩:=G;simp only[Env.au];have KW:R2.length=R1.length:=by
   have:=congrArg List.length hR2;rw[List.length_map]at this;rw[this];unfold aK;rw[cv,List.length_map]
  rw[<- hR2]at Y5 Q Y4 yh;have uD:=EY hG2 Y5.1 om om λn N=>⟨(Y5.2 n N).inc.imp λh=>by omega,(Y5.2 n N).len⟩;clear mZ;repeat' (first | refine gA trivial ?_ | (refine gB trivial ?_;rintro (_|_) o<;>try simp only[aG,reduceCtorEq]at o<;>try first | (exfalso;omega) | exact o.elim) | apply aA | fail)
  refine bH wN (fv:=.fn (.func 64) [] []) (vs:=[v]) ef (by simp only[List.map,lk,dJ,Nat.reduceEqDiff,if_false,if_true,List.map]) (aJ.mono uD λx s3 G=>⟨trivial,?_⟩);obtain⟨R3,La,hR3,nG,iw⟩:=G;simp only[Env.au];have Fp:R3.length=R2.length:=by
   have:=congrArg List.length hR3;rw[List.length_map]at this;rw[this];unfold aL;rw[cv,List.length_map]
  rw[<- hR3]at Q Y4 yh;have Ez:=Sc (f:=2*B.next.length) La om om om (VM Q.2);clear uD;repeat' (first | refine gA trivial ?_ | (refine gB trivial ?_;rintro (_|_) o<;>try simp only[aG,reduceCtorEq]at o<;>try first | (exfalso;omega) | exact o.elim) | apply aA | fail)
  refine bH wN (fv:=.fn (.func 65) [] []) (vs:=[v]) ef (by simp only[List.map,lk,dJ,Nat.reduceEqDiff,if_false,if_true,List.map]) (aJ.mono Ez λx u G=>⟨trivial,?_⟩);obtain⟨R,hG,hR,qv,gQ⟩:=G;simp only[Env.au];have GN:R.length=R3.length:=by
   have:=congrArg List.length hR;rw[List.length_map]at this;rw[this];unfold named;rw[pS,List.length_map]
  rw[<- hR]at Y4 yh;have O9:u.get 0=some (.cells .mut [.aj, .aj]):=by
   rw[gQ 0 om,iw 0 om,oQ 0 om,eY 0 om];exact zM
  have hcn:Bx (2*B.next.length+(R3.map (·.1)).length<=6000):=⟨by rw[List.length_map];omega⟩;have G5:R.length<=3000:=by omega
  have pW:s0.n<=u.n:=by omega
  rw[wq]at hG pW;generalize 2*B.next.length+(R3.map (·.1)).length=cc at *;have lS:=hG.sg.len;have uA:(R.map (·.1)).length=R.length:=List.length_map ..;have YM:=Bx.mk yh;have CQ:∀ id,aP v id->1<=id:=hG.low.1;have oN:∀ r∈R,1<=r.2.2:=hG.low.2;clear Ez Pp Y3 gH eY hG2 hR2 jY oQ La hR3 nG iw P Y5 Q gQ zM wq hlG o8 KW Fp qv GN yh hR;clear s1 s2 s3 R1 R2 R3 s0;repeat' (first | refine gA @lS ?_ | (refine gB @lS ?_;rintro (_|_) o<;>try simp only[aG,reduceCtorEq]at o<;>try first | (exfalso;omega) | exact o.elim) | apply aA | fail)
  refine xk (n:=R.length) (k:=u.n+1) (z:=.int .i64 0) wN rfl ef ef om (by decide) ?_;repeat' (first | refine gA @lS ?_ | (refine gB @lS ?_;rintro (_|_) o<;>try simp only[aG,reduceCtorEq]at o<;>try first | (exfalso;omega) | exact o.elim) | apply aA | fail)
  generalize U9:R.map (·.1)=l at *;have gL:∀ i,i<R.length->R[i]? = some (R.getD i default)/\(R.getD i default).1=l.getD i default:=λi hi=>by
   have h1:R[i]? = some (R.getD i default):=by rw[gD,gE hi];rfl
   refine⟨h1,?_⟩;rw[<- U9,gD (l:=R.map (·.1)),List.getElem?_map,h1];rfl
  refine aS (λm e s=>∃ (i:Nat) (v9 gv bv:LV) (rs:List (Int × Int × LV)),m=R.length - i/\i<=R.length/\SV s 1 v R l u.n (u.n+1) (u.n+2) i v9 gv bv rs/\e.at 7 = .aH 0 0/\e.at 9=v9/\e.at 10 = .aH u.n 0/\e.at 11 = .aD (u.n+1) 0 R.length 1/\e.at 42=v/\e.at 43 = .int .i64 (R.length:Int)/\e.at 44 = .int .i64 (i:Int)) _
   ⟨0, .aj, .aj, .aj,[],rfl,by omega,?_,ef,ef,ef,ef,ef,ef,by simp only[lk,dJ,Nat.reduceEqDiff,if_false,if_true];rfl⟩ ?_
  ·have hgg:∀ id,id<u.n->((u.new (.cells .mut [.aj, .aj])).new (.cells .mut (bw R.length λ_=>.int .i64 0))).get id=u.get id:=λid A=>by rw[St.az,if_neg (by simp;omega),St.az,if_neg om]
   exact {
    gs:=hG.mono (by simp;omega) hgg
    b7:=(hgg 0 om).trans O9
    Ql:=by rw[St.az,if_neg (by simp),St.az,if_pos rfl]
    pl:=by
     rw[St.az,if_pos (by simp),uA];congr 2
    g:=dQ.nil _ _
    b:=dQ.nil _ _
    t:=dQ.nil _ _
    rl:=rfl
    rn:=λk hk=>absurd hk (by simp)
    sep := λid A => by
     have:id<u.n:=by
      rcases A with p | ⟨r,hr,rfl⟩
      ·exact hG.sg.lt p
      ·exact hG.Bi r hr
     omega
    low:=by simp;omega
    up:=⟨λid p=>absurd p (bq id),λid p=>absurd p (bq id),λid p=>absurd p (bq id)⟩
    ap:=⟨λid p=>absurd p (bq id),λid p=>absurd p (bq id),λid p=>absurd p (bq id)⟩ }
  clear e0 e1 e2 O9 hG;clear e;rintro m e s ⟨i,v9,gv,bv,rs,rfl,hi,C,e7,e9,fX,nW,L9,Q7,TS⟩;by_cases cM:i<R.length
  ·have tP:(i:Int)<(R.length:Int):=by omega
   have jX:IntKind.i64.wrap ((i:Int)+1)=((i+1:Nat):Int):=by rw[wrap_i64 _ om om];rfl
   obtain⟨J,rest,Fg,hJ,sF⟩:=C.gs.sg.pos om;subst Fg;obtain⟨oP,fN⟩:=gL i cM;have fO:=take_one l default (k:=i) om;have zf:=Y4.1 i om;have Vh:=Y4.2 _ (bE (l:=l) (i:=i) om);have A1:R.getD i default∈R:=bE cM;have Ft:=fN;rw[<- fN]at fO zf Vh;clear fN;generalize R.getD i default=r at *;have QE:=C.gs.lJ _ A1;have tK:=QE.sl.cell;obtain⟨g,xv,M⟩:=r;simp only at fO zf Vh tK Ft;have Xg:=Bx.mk Ft.symm;clear Ft;have dS:cU (some 7) (.aH J (i*7)) s=some (.agg [.int .i64 g.name, .int .i64 g.par,xv, .aI M, .bool g.old, .bool g.bX, .bool g.gone]):=nB bS oP sF;have hMb:M<u.n+2:=(C.sep M (.inr ⟨_,A1,rfl⟩)).1;have rM:=C.gs.ms A1;have qx:=C.grow (s':=(s.new (.cells .mut [.int .i64 0, .int .i64 0, .aj, .bN, .bool false, .bool false, .bool false])).put s.n (.cells .mut [.int .i64 g.name, .int .i64 g.par,xv, .aI M, .bool g.old, .bool g.bX, .bool g.gone])) (by simp) λid A=>by rw[St.ah,if_neg om,St.az,if_neg om]
   have E:((s.new (.cells .mut [.int .i64 0, .int .i64 0, .aj, .bN, .bool false, .bool false, .bool false])).put s.n (.cells .mut [.int .i64 g.name, .int .i64 g.par,xv, .aI M, .bool g.old, .bool g.bX, .bool g.gone])).get s.n=some (.cells .mut [.int .i64 g.name, .int .i64 g.par,xv, .aI M, .bool g.old, .bool g.bX, .bool g.gone]):=by rw[St.ah,if_pos rfl]
   have gH:((s.new (.cells .mut [.int .i64 0, .int .i64 0, .aj, .bN, .bool false, .bool false, .bool false])).put s.n (.cells .mut [.int .i64 g.name, .int .i64 g.par,xv, .aI M, .bool g.old, .bool g.bX, .bool g.gone])).n=s.n+1:=rfl;have Fw:=C.low.2.2.2;have hgnb:∀ id,aP gv id->id<s.n:=λid p=>C.g.lt p;have WE:∀ id,aP v9 id->id<s.n:=λid p=>C.t.lt p;have Xu:∀ id,aP bv id->id<s.n:=λid p=>C.b.lt p;have H:=Bx.mk qx;have uS:=Bx.mk fO;clear C qx sF rM fO;repeat' (first | refine gN (And.intro @cG @dS) ?_ | (refine gB (And.intro @cG @dS) ?_;intro bb o;cases bb<;>(try simp only[aG]at o)<;>(try first | omega | exact o.elim)) | fail)
   generalize (s.new (.cells .mut [.int .i64 0, .int .i64 0, .aj, .bN, .bool false, .bool false, .bool false])).put s.n (.cells .mut [.int .i64 g.name, .int .i64 g.par,xv, .aI M, .bool g.old, .bool g.bX, .bool g.gone])=s1 at *;generalize s.n=nb at *;clear dS;have I:=H.out.Ql;cases j9:g.gone with
   | true=>
     cases K:g.old with
     | true=>
       rw[j9,K]at E;repeat' (first | refine gA (And.intro @E @I) ?_ | (refine gB (And.intro @E @I) ?_;rintro (_|_) o<;>try simp only[aG,reduceCtorEq]at o<;>try first | (exfalso;omega) | exact o.elim) | apply aA | fail)
       refine mF (n:=(ic (l.take i)).length) (aU:=1) (xv:=.int .i64 g.name) (yv:=bv) (vs:=[.int .i64 g.name]) (cells:=ints (ic (l.take i))) ef rfl rfl rfl rfl ef H.out.b (by decide) (by
        have:=List.length_filter_le (λn:Gn=>n.gone && n.old) (l.take i);rw[List.length_take]at this;unfold ic;rw[List.length_map];omega) (λs2 j a1 a4 a5 a6=>?_)
       have hl:=H.out.low;have A9:s2.get u.n=some (.cells .mut [gv,bv]):=by rw[a6 _ om λp=>by have:=H.out.up.2.1 _ p;omega];exact I
       have fh:=Bx.mk (And.intro a4 a6);clear a4 a6 I;repeat' (first | refine gA (And.intro @A9 @jX) ?_ | (refine gB (And.intro @A9 @jX) ?_;rintro (_|_) o<;>try simp only[aG,reduceCtorEq]at o<;>try first | (exfalso;omega) | exact o.elim) | apply aA | fail)
       refine⟨R.length - (i+1),by omega,i+1,v9,gv,_,rs,rfl,by omega,H.out.bad uS.out Xg.out j9 K (by simp;omega) (by rw[St.ah,if_pos rfl]) (fh.out.1.mono (by simp) λid A=>by have:=aC.1 A;rw[St.ah,if_neg om]) (λid A=>by have:=aC.1 A;omega) (λid h1 h2 h3=>by rw[St.ah,if_neg h2];exact fh.out.2 id h1 h3),?_⟩;simp only[lk,Nat.reduceEqDiff,if_false,if_true,jX,e7,e9,fX,nW,L9,Q7,TS,and_self]
     | false=>
       rw[j9,K]at E;repeat' (first | refine gA (And.intro @E @jX) ?_ | (refine gB (And.intro @E @jX) ?_;rintro (_|_) o<;>try simp only[aG,reduceCtorEq]at o<;>try first | (exfalso;omega) | exact o.elim) | apply aA | fail)
       refine⟨R.length - (i+1),by omega,i+1,v9,gv,bv,rs,rfl,by omega,H.out.skip uS.out Xg.out j9 K,?_⟩;simp only[lk,Nat.reduceEqDiff,if_false,if_true,jX,e7,e9,fX,nW,L9,Q7,TS,and_self]
   | false =>
     refine kj (λw s'=>s'=s1/\w.at 7 = .aH 0 0/\w.at 9=v9/\w.at 10 = .aH u.n 0/\w.at 11 = .aD (u.n+1) 0 R.length 1/\w.at 42 = .aD J 0 R.length 7/\w.at 43 = .int .i64 (R.length:Int)/\w.at 44 = .int .i64 (i:Int)/\w.at 12 = .int .i64 (i:Int)/\w.at 13 = .aH nb 0) ?_ ?_
     ·rw[j9]at E;repeat' (first | refine gA @E ?_ | (refine gB @E ?_;rintro (_|_) o<;>try simp only[aG,reduceCtorEq]at o<;>try first | (exfalso;omega) | exact o.elim) | apply aA | fail)
      exact⟨trivial,ef,ef,ef,ef,ef,ef,ef,ef,ef⟩
     clear e7 e9 fX nW L9 Q7 TS;clear e;rintro e s2 ⟨rfl,e7,e9,fX,nW,L9,Q7,TS,vV,Lm⟩;refine kj (λw s'=>(∃ Pu,SW s' 1 (.aD J 0 R.length 7) R l u.n (u.n+1) (u.n+2) i v9 Pu bv rs i/\s'.get nb=some (.cells .mut [.int .i64 g.name, .int .i64 g.par,xv, .aI M, .bool g.old, .bool g.bX, .bool g.gone])/\nb<s'.n/\¬ aP Pu nb)/\w.at 7 = .aH 0 0/\w.at 9=v9/\w.at 10 = .aH u.n 0/\w.at 11 = .aD (u.n+1) 0 R.length 1/\w.at 42 = .aD J 0 R.length 7/\w.at 43 = .int .i64 (R.length:Int)/\w.at 44 = .int .i64 (i:Int)/\w.at 12 = .int .i64 (i:Int)/\w.at 13 = .aH nb 0) ?_ ?_
     ·cases oR:g.bX with
      | true=>
        have zL:=E;rw[oR]at zL;repeat' (first | refine gA (And.intro @zL @I) ?_ | (refine gB (And.intro @zL @I) ?_;rintro (_|_) o<;>try simp only[aG,reduceCtorEq]at o<;>try first | (exfalso;omega) | exact o.elim) | apply aA | fail)
        refine mF (n:=(eF (l.take i)).length) (aU:=1) (xv:=.int .i64 g.name) (yv:=gv) (vs:=[.int .i64 g.name]) (cells:=ints (eF (l.take i))) ef rfl rfl rfl rfl ef H.out.g (by decide) (by
         have:=List.length_filter_le (λn:Gn=>!n.gone && n.bX) (l.take i);rw[List.length_take]at this;unfold eF;rw[List.length_map];omega) (λs3 j a1 a4 a5 a6=>?_)
        have hl:=H.out.low;have A9:s3.get u.n=some (.cells .mut [gv,bv]):=by rw[a6 _ om λp=>by have:=H.out.up.1 _ p;omega];exact I
        have KP:s3.get nb=some (.cells .mut [.int .i64 g.name, .int .i64 g.par,xv, .aI M, .bool g.old, .bool g.bX, .bool g.gone]):=by rw[a6 _ om λp=>by have:=hgnb _ p;omega];exact E
        have fh:=Bx.mk (And.intro a4 (And.intro a6 KP));clear a4 a6 I E zL KP;repeat' (first | refine gA @A9 ?_ | (refine gB @A9 ?_;rintro (_|_) o<;>try simp only[aG,reduceCtorEq]at o<;>try first | (exfalso;omega) | exact o.elim) | apply aA | fail)
        refine⟨⟨.aD j 0 ((eF (l.take i)).length+1) 1,H.out.bX uS.out j9 oR (by simp;omega) (by rw[St.ah,if_pos rfl]) (fh.out.1.mono (by simp) λid A=>by have:=aC.1 A;rw[St.ah,if_neg om]) (λid A=>by have:=aC.1 A;omega) (λid h1 h2 h3=>by rw[St.ah,if_neg h2];exact fh.out.2.1 id h1 h3),by rw[St.ah,if_neg om];have h:=fh.out.2.2;rw[oR]at h;exact h,by simp;omega,λp=>by have:=aC.1 p;omega⟩,ef,ef,ef,ef,ef,ef,ef,ef,ef⟩
      | false=>
        have zL:=E;rw[oR]at zL;have fh:=Bx.mk (H.out.same uS.out j9 oR);have hb1B:=Bx.mk E;clear E;repeat' (first | refine gA @zL ?_ | (refine gB @zL ?_;rintro (_|_) o<;>try simp only[aG,reduceCtorEq]at o<;>try first | (exfalso;omega) | exact o.elim) | apply aA | fail)
        rw[oR]at hb1B;exact⟨⟨gv,fh.out,hb1B.out,by omega,λp=>by have:=hgnb _ p;omega⟩,ef,ef,ef,ef,ef,ef,ef,ef,ef⟩
     clear e7 e9 fX nW L9 Q7 TS vV Lm H I E;clear e;rintro e s3 ⟨⟨Pu,hW,wV,GJ,OT⟩,e7,e9,fX,nW,L9,Q7,TS,vV,Lm⟩;have hvl9:=hW.t.len;have hiL:(i:Int)<(R.length:Int):=tP;repeat' (first | refine gN (And.intro @hvl9 @cG) ?_ | (refine gB (And.intro @hvl9 @cG) ?_;rintro (_|_) o<;>try simp only[aG,reduceCtorEq]at o<;>try first | (exfalso;omega) | exact o.elim) | fail)
     refine kX (n:=l.length) (q:=i) (f:=Gb l i) (f':=Gb l (i+1)) (v:=.int .i64 (rs.length:Int)) ef ef rfl hW.pl om (λj=>by rw[Nt Xg.out j9,hW.rl]) (λs5 Fo yo gT=>?_);have hW5:=hW.told Fo yo gT;have hlw:=hW.low;have CX:=(gT nb om).trans wV;clear hW wV yo gT;have XE:=Bx.mk hW5;have lG:=hW5.pl;rw[uA]at lG;clear hW5;repeat' (first | refine gN trivial ?_ | (refine gB trivial ?_;rintro (_|_) o<;>try simp only[aG,reduceCtorEq]at o<;>try first | (exfalso;omega) | exact o.elim) | fail)
     refine kj (λw s'=>(SW s' 1 (.aD J 0 R.length 7) R l u.n (u.n+1) (u.n+2) i v9 Pu bv rs (i+1)/\s'.get nb=some (.cells .mut [.int .i64 g.name, .int .i64 (place l g.par),xv, .aI M, .bool g.old, .bool g.bX, .bool g.gone])/\nb<s'.n)/\w.at 7 = .aH 0 0/\w.at 9=v9/\w.at 10 = .aH u.n 0/\w.at 11 = .aD (u.n+1) 0 R.length 1/\w.at 42 = .aD J 0 R.length 7/\w.at 43 = .int .i64 (R.length:Int)/\w.at 44 = .int .i64 (i:Int)/\w.at 12 = .int .i64 (i:Int)/\w.at 13 = .aH nb 0) ?_ ?_
     ·by_cases Fj:0<=g.par
      ·obtain⟨q,hq⟩:∃ q:Nat,g.par=(q:Int):=⟨g.par.toNat,by omega⟩;have YF:(q:Int)<(R.length:Int):=by omega
       have hpq:(bw R.length (Gb l (i+1)))[q]? = some (.int .i64 (place l (q:Int))):=by rw[cN om];simp[Gb,show q<i+1 by omega]
       rw[hq]at CX ⊢;repeat' (first | refine gA (And.intro @CX (And.intro @cG (And.intro @lG @hpq))) ?_ | (refine gB (And.intro @CX (And.intro @cG (And.intro @lG @hpq))) ?_;intro bb o;cases bb<;>(try simp only[aG]at o)<;>(try first | omega | exact o.elim)) | apply aA | fail)
       refine⟨⟨XE.out.dD (by simp) om OT (λp=>by have:=Xu _ p;omega) (λp=>by have:=WE _ p;omega) λid A=>by rw[St.ah,if_neg A],by rw[St.ah,if_pos rfl,j9],by simp;omega⟩,ef,ef,ef,ef,ef,ef,ef,ef,ef⟩
      ·have hpl0:place l g.par=g.par:=by unfold place;rw[if_neg Fj]
       have hb5B:=Bx.mk CX;rw[hpl0];repeat' (first | refine gA @CX ?_ | (refine gB @CX ?_;intro bb o;cases bb<;>(try simp only[aG]at o)<;>(try first | omega | exact o.elim)) | apply aA | fail)
       exact⟨⟨XE.out,hb5B.out,by omega⟩,ef,ef,ef,ef,ef,ef,ef,ef,ef⟩
     ·clear e7 e9 fX nW L9 Q7 TS vV Lm XE lG CX hlw;clear e;rintro e D ⟨⟨hW,Ck,GI⟩,e7,e9,fX,nW,L9,Q7,TS,vV,Lm⟩;have YS:∀ id,aP Pu id->id<D.n:=λid p=>hW.g.lt p;have XE:=Bx.mk hW;clear hW;repeat' (first | refine gN @Ck ?_ | (refine gB @Ck ?_;rintro (_|_) o<;>try simp only[aG,reduceCtorEq]at o<;>try first | (exfalso;omega) | exact o.elim) | fail)
      refine bH wN (fv:=.fn (.func 67) [] []) (vs:=[.aI M]) ef (by simp only[List.map,lk,Nat.reduceEqDiff,if_false,if_true,List.map]) (aJ.mono (SB (M:=M) _) λx s7 G=>⟨trivial,?_⟩);obtain⟨rfl,hs7⟩:=G;simp only[Env.au];have hn7:s7.n=D.n+1:=by rw[hs7];rfl
      have KN:∀ id,id<D.n->s7.get id=D.get id:=λid A=>by rw[hs7,St.az,if_neg om]
      have hk7:s7.get D.n=some (.cells .mut [.aI M]):=by rw[hs7,St.az,if_pos rfl]
      have hW7:=XE.out.grow (s':=s7) om KN;have hlw:=XE.out.low;have UW:=JA (M:=M) (b:=D.n) s7 Vh.inc (by have:=Vh.len;omega) hk7 (hW7.gs.ms A1) om;have Tw:=Bx.mk (And.intro hW7 (And.intro (KN nb GI) Ck));clear hW7 hs7 KN Ck XE hk7;repeat' (first | refine gN trivial ?_ | (refine gB trivial ?_;rintro (_|_) o<;>try simp only[aG,reduceCtorEq]at o<;>try first | (exfalso;omega) | exact o.elim) | fail)
      refine bH wN (fv:=.fn (.func 66) [] []) (vs:=[.fn (.func 79) [] [.aH D.n 0]]) ef (by simp only[List.map,lk,Nat.reduceEqDiff,if_false,if_true,List.map]) (aJ.mono UW λx s8 G=>⟨trivial,?_⟩);obtain⟨hn8,QJ,hx8,hu8⟩:=G;simp only[Env.au];have KD:=hx8.cell;have Vr:=((QJ nb om).trans Tw.out.2.1).trans Tw.out.2.2;have hW8:=Tw.out.1.grow hn8 QJ;have lR:=Bx.mk (And.intro hx8 (And.intro hu8 hW8));clear UW hx8 hu8 QJ hW8 Tw;repeat' (first | refine gN (And.intro @Vr @KD) ?_ | (refine gB (And.intro @Vr @KD) ?_;rintro (_|_) o<;>try simp only[aG,reduceCtorEq]at o<;>try first | (exfalso;omega) | exact o.elim) | fail)
      have hW9:=lR.out.2.2.dD (nb:=nb) (s':=s8.put nb (.cells .mut [.int .i64 g.name, .int .i64 (place l g.par),x, .aI M, .bool g.old, .bool g.bX, .bool false])) (by simp) om OT (λp=>by have:=Xu _ p;omega) (λp=>by have:=WE _ p;omega) λid A=>by rw[St.ah,if_neg A]
      have hx9:=lR.out.1.mono (s':=s8.put nb (.cells .mut [.int .i64 g.name, .int .i64 (place l g.par),x, .aI M, .bool g.old, .bool g.bX, .bool false])) (by simp) λid A=>by
       have:=lR.out.2.1 id A;rw[St.ah,if_neg om]
      have S8:(s8.put nb (.cells .mut [.int .i64 g.name, .int .i64 (place l g.par),x, .aI M, .bool g.old, .bool g.bX, .bool false])).n=s8.n:=rfl;generalize s8.put nb (.cells .mut [.int .i64 g.name, .int .i64 (place l g.par),x, .aI M, .bool g.old, .bool g.bX, .bool false])=s9 at *;have hux:=lR.out.2.1;obtain⟨Rl,sf,A4,hslf,hnf,hof⟩:=TI (a:=g.name) (b:=place l g.par) (hx9.mono (s':=s9.new (.cells .mut [.int .i64 g.name, .int .i64 (place l g.par),x])) (by simp) λid A=>by
       have:=hx9.lt A;rw[St.az,if_neg om])
      have hrl9:=hW9.rl;have hll9:=Kv l i;refine V5 (T:=λid=>aP x id) (n:=rs.length) (aU:=3) (xv:=.agg [.int .i64 g.name, .int .i64 (place l g.par),x]) (yv:=v9) (vs:=[.int .i64 g.name, .int .i64 (place l g.par),x]) (vs':=[.int .i64 g.name, .int .i64 (place l g.par),Rl]) (cells:=eG wg rs) ef (yO _ _ KD) rfl rfl A4 rfl (by rw[hnf];simp) (λid h1 h2=>by rw[hof id h2,St.az,if_neg om]) ef hW9.t (λid p hT=>by have:=WE id p;have:=hux id hT;omega) (by decide) om (λs10 j b1 b2 b3 b4=>?_);have KH:=Aw l g.par Vh.par;have IY:=Vh.name;have hcn':=hcn.out;have tN:maxLen=9223372036854775807:=by decide
      have gK:Qv (g.name,place l g.par,Rl) ⟨g.name,place l g.par,g.kept⟩:=⟨rfl,rfl,⟨hslf,by have:=Vh.len;show g.kept.length<=maxLen;omega,λy hy=>by have:=Vh.jd y hy;unfold cF;omega⟩,by show cF g.name;unfold cF;omega,by show cF (place l g.par);unfold cF;omega⟩;have vP:=hW9.done uS.out j9 b3 (r:=(g.name,place l g.par,Rl)) (v9':=.aD j 0 (rs.length+1) 3) (Rl:=Rl) b2 gK (λid p=>by have:=aC.1 p;omega) (T:=λid=>aP x id) (λid hT=>by
       have h1:=hux id hT;exact⟨by omega,λp=>by have:=YS id p;omega,λp=>by have:=Xu id p;omega⟩) b4
      have H:=Bx.mk vP;clear vP b2 b4 hW9 hx9 lR Vr A4 hslf hof;repeat' (first | refine gN @jX ?_ | (refine gB @jX ?_;rintro (_|_) o<;>try simp only[aG,reduceCtorEq]at o<;>try first | (exfalso;omega) | exact o.elim) | fail)
      refine⟨R.length - (i+1),by omega,i+1,_,Pu,bv,_,rfl,by omega,H.out,?_⟩;simp only[lk,Nat.reduceEqDiff,if_false,if_true,jX,e7,fX,nW,L9,Q7,and_self]
  ·have dc:i=R.length:=by omega
   subst dc;have hlw:=C.low;have I:=C.Ql;have h0:=C.b7;have O:=C.g;have U:=C.b;have V:=C.t;have F:=C.up;have Y:=C.ap;have fN:=C.rl;have hrn:=C.rn;rw[<- uA,List.take_length]at O U;rw[<- uA,Gu]at fN hrn;have Xh:=O.cell;have Vq:=U.cell;have Ft:(eF l).length<=l.length:=by
    unfold eF;rw[List.length_map];exact List.length_filter_le _ _
   have qw:(ic l).length<=l.length:=by
    unfold ic;rw[List.length_map];exact List.length_filter_le _ _
   have QG:=MS O om;clear C;have pE:=Bx.mk (And.intro U (And.intro V (And.intro F (And.intro Y h0))));clear U V F Y h0 O;repeat' (first | refine gN @I ?_ | (refine gB @I ?_;intro bb o;cases bb<;>(try simp only[aG]at o)<;>(try first | omega | exact o.elim)) | fail)
   refine bH wN (fv:=.fn (.func 68) [] []) (vs:=[gv]) ef (by simp only[List.map,lk,Nat.reduceEqDiff,if_false,if_true,List.map]) (aJ.mono QG λx s5 G=>⟨trivial,?_⟩);obtain⟨yo,Fo,gT⟩:=G;simp only[Env.au];obtain⟨U,V,F,Y,h0⟩:=pE.out;have wW:s5.get u.n=some (.cells .mut [gv,bv]):=(gT _ λp=>by have:=F.1 _ p;omega).trans I;have Z:s5.get 0=some (.cells .mut [.aj, .aj]):=(gT _ λp=>by have:=F.1 _ p;omega).trans h0;have CX:=U.mono (s':=s5) om λid p=>gT id λO=>Y.1 id O p;have ht5:=V.mono (s':=s5) om λid p=>gT id λO=>Y.2.1 id O p;have hsb:=MS CX om;have Jc:=Bx.mk (And.intro yo (And.intro ht5 (And.intro F (And.intro Y Z))));clear U V F Y h0 yo CX ht5 Z pE I gT QG;repeat' (first | refine gN @wW ?_ | (refine gB @wW ?_;rintro (_|_) o<;>try simp only[aG,reduceCtorEq]at o<;>try first | (exfalso;omega) | exact o.elim) | fail)
   refine bH wN (fv:=.fn (.func 68) [] []) (vs:=[bv]) ef (by simp only[List.map,lk,Nat.reduceEqDiff,if_false,if_true,List.map]) (aJ.mono hsb λx D G=>⟨trivial,?_⟩);obtain⟨Ck,hn6,L4⟩:=G;simp only[Env.au];obtain⟨yo,ht5,F,Y,Z⟩:=Jc.out;have Fx:D.get u.n=some (.cells .mut [gv,bv]):=(L4 _ λp=>by have:=F.2.1 _ p;omega).trans wW;have h06:D.get 0=some (.cells .mut [.aj, .aj]):=(L4 _ λp=>by have:=F.2.1 _ p;omega).trans Z;have YS:=yo.mono (s':=D) om λid p=>L4 id λU=>Y.1 id p U;have ht6:=ht5.mono (s':=D) om λid p=>L4 id λU=>Y.2.2 id U p;have XO:=Bx.mk (And.intro YS (And.intro ht6 (And.intro Ck F)));clear F Y yo ht5 YS ht6 Ck Z Jc wW L4 hsb;repeat' (first | refine gN (And.intro @Fx @h06) ?_ | (refine gB (And.intro @Fx @h06) ?_;rintro (_|_) o<;>try simp only[aG,reduceCtorEq]at o<;>try first | (exfalso;omega) | exact o.elim) | fail)
   obtain⟨YS,ht6,Ck,F⟩:=XO.out;have hf7:∀ id,u.n+2<=id->(D.put 0 (.cells .mut [gv,bv])).get id=D.get id:=λid A=>by rw[St.ah,if_neg om]
   have h07:(D.put 0 (.cells .mut [gv,bv])).get 0=some (.cells .mut [gv,bv]):=by rw[St.ah,if_pos rfl]
   have GZ:=YS.mono (s':=D.put 0 (.cells .mut [gv,bv])) (by simp) λid p=>hf7 id (F.1 id p);have Vs:=Ck.mono (s':=D.put 0 (.cells .mut [gv,bv])) (by simp) λid p=>hf7 id (F.2.1 id p);have ht7:=ht6.mono (s':=D.put 0 (.cells .mut [gv,bv])) (by simp) λid p=>hf7 id (F.2.2 id p);generalize D.put 0 (.cells .mut [gv,bv])=s7 at *;have htcl:LV.closed.aq (eG wg rs)=true:=xj λr hr=>by
    obtain⟨k,hk,rfl⟩:=List.getElem_of_mem hr;have h:=(hrn k hk).set.closed;rw[gD,gE hk]at h;simp only[Option.getD_some]at h;simp[wg,LV.closed.aq,LV.closed,h]
   obtain⟨rg,fg,lg⟩:=FV.row (T:=λ_=>True) (d:=0) GZ (bD _) (λ_ _=>trivial);obtain⟨rb,fb,lb⟩:=FV.row (T:=λ_=>True) (d:=0) Vs (bD _) (λ_ _=>trivial);obtain⟨r9,f9,l9⟩:=FV.row (T:=λ_=>True) (d:=1) ht7 htcl (λ_ _=>trivial);have hF:=FV.tup2 f9 (FV.agg2 fg fb);obtain⟨s',hz,-⟩:=Je om hF;have tN:maxLen=9223372036854775807:=by decide
   have hcn':=hcn.out;have hnmG:∀ (f:Gn->Bool) (x:Int),x∈By ((l.filter f).map (·.name))->cF x:=λf x hx=>by
    have h1:=(List.mergeSort_perm _ _).mem_iff.1 hx;obtain⟨n,N,rfl⟩:=List.mem_map.1 h1;have:=(Y4.2 n (List.mem_filter.1 N).1).name;unfold cF;omega
   have fZ:∀ x:List Int,(By x).length=x.length:=λx=>List.length_mergeSort x;refine⟨.inr trivial, .cy [v9, .agg [gv,bv]],?_,_,s',hz,hF.closed,r9,rg,rb,rs,rfl,?_,?_,?_⟩
   ·simp[br,bO,gW,Nat.reduceEqDiff,Nat.reduceAdd,reduceIte,aT,e7,h07,aT]
   ·have h1:=hE.out.1;rw[h1];show uw r9 (leave (cI _ _ _)) rs;rw[YM.out];refine⟨by rw[<- fN];exact l9,fN,?_,λk hk=>hrn k om⟩;unfold leave;rw[List.length_map];have:=List.length_filter_le (λn:Gn=>!n.gone) l;omega
   ·rw[hE.out.2.1];show aM rg (By (eF (cI _ _ _)));rw[YM.out];exact⟨by rw[fZ];exact lg,by rw[fZ];omega,hnmG _⟩
   ·rw[hE.out.2.2];show aM rb (By (ic (cI _ _ _)));rw[YM.out];exact⟨by rw[fZ];exact lb,by rw[fZ];omega,hnmG _⟩
 ·have O6:decide (Vb B/\t.length<=B.next.length/\Tr B.next.length t)=false:=decide_eq_false λh=>cQ h.2;rw[O6]at iX;clear O6;have hE:Bx (mC B t a=[]/\Ae B t a=[]/\Af B t a=[]):=⟨by simp[mC,Ae,Af,cQ]⟩;clear hv cQ;repeat' (first | refine gA trivial ?_ | (refine gB trivial ?_;rintro (_|_) o<;>try simp only[aG,reduceCtorEq]at o<;>try first | (exfalso;omega) | exact o.elim) | apply aA | fail)
  refine dR ez (iX) (by first | exact wN | (apply wG;(simp only[lk,Nat.reduceEqDiff,reduceIte,e0,e1,e2];(try rfl);done))) (by simp only[List.map,lk,Nat.reduceEqDiff,reduceIte];try rfl) (by first | trivial | (simp only[cH,aE,aR.run,Env.au,Env.bI,svq,Nat.reduceEqDiff,Nat.reduceAdd,Nat.reduceLeDiff,reduceIte,aT,eH,List.map,bC,beq_self_eq_true,reduceCtorEq,false_or,true_and,and_true,Option.some.injEq, *];done)) ?_;simp only[Env.au];clear iX;repeat' (first | refine gA trivial ?_ | (refine gB trivial ?_;rintro (_|_) o<;>try simp only[aG,reduceCtorEq]at o<;>try first | (exfalso;omega) | exact o.elim) | apply aA | fail)
  refine iF (vs:=[.aj, .aj]) wN rfl ?_;have hg0:(St.empty.new (.cells .mut [.aj, .aj])).get 0=some (.cells .mut [.aj, .aj]):=by simp[cj]
  generalize St.empty.new (.cells .mut [.aj, .aj])=s1 at *;repeat' (first | refine gA trivial ?_ | (refine gB trivial ?_;rintro (_|_) o<;>try simp only[aG,reduceCtorEq]at o<;>try first | (exfalso;omega) | exact o.elim) | apply aA | fail)
  refine⟨.inr trivial, .cy [.aj, .agg [.aj, .aj]],?_, .cy [.aj, .agg [.aj, .aj]],_,bf rfl,rfl, .aj, .aj, .aj,[],rfl,?_,?_,?_⟩
  ·simp[br,bO,St.ah,aT]
  ·rw[hE.out.1];exact⟨.nil,rfl,by simp,λi hi=>absurd hi (by simp)⟩
  ·rw[hE.out.2.1];exact⟨.nil,by simp,λx hx=>by cases hx⟩
  ·rw[hE.out.2.2];exact⟨.nil,by simp,λx hx=>by cases hx⟩
end Go.Proofs.Ytkbiecjdcjfhaaa
end
