/- parity.text. -/
import Derived.Test.YtkbiecjdcjfhaaaGreatTbase
import Derived.Test.YtkbiecjdcjfhaaaGreatPvKM
import Derived.Test.YtkbiecjdcjfhaaaGreatTnam
set_option linter.unusedSimpArgs false
set_option linter.unusedVariables false
set_option maxRecDepth 100000
set_option maxHeartbeats 16000000
section
namespace Go.Proofs.YtkbiecjdcjfhaaaGreat
open Go Go.Pv
open Classical
def b2 (n:Int):List Int:=[IntKind.u8.wrap n,IntKind.u8.wrap (n.fdiv 256)]
def DA (l:List Int):List LV:=l.map (LV.int .u8)
def G3 (l:List Int):List UInt8:=(l.flatMap b2).map λz=>UInt8.ofNat z.toNat
theorem zR:∀ l:List Int,bytesOf (DA l)=some (l.map λz=>UInt8.ofNat z.toNat)
 | []=>rfl
 | z::l=>by
   show (do some (UInt8.ofNat z.toNat::(<- bytesOf (DA l))))=_;rw[zR l];rfl
theorem xY:∀ l:List Int,LV.closed.au (DA l)=true
 | []=>rfl
 | z::l=>by
   show (true && LV.closed.au (DA l))=true;rw[xY l];rfl
theorem Sm (l:List Int):(l.flatMap b2).length=2*l.length:=by
 induction l with
 | nil=>rfl
 | cons z l ih=>rw[List.flatMap_cons,List.length_append,ih,List.length_cons];show 2+_=_;omega
theorem X5 {s:St}{b j len:Nat}{cs:List LV}(h:s.get b=some (.cells .mut [.aE j 0 len 1])) (w:s.get j=some (.cells .mut cs)) (hl:cs.length=len) (m:b<s.n/\j<s.n) (dB:j≠b) (p:len<=1000000) (n:Int) :
 aM Tryz.prog GL (.fn (.func 90) [] [.aO b 0]) [.int .i64 n] s (λ_ s'=>∃ a,s'.get b=some (.cells .mut [.aE a 0 (len+2) 1])/\s'.get a=some (.cells .mut (cs++DA (b2 n)))/\s.n<=a/\a<s'.n/\s.n<=s'.n):=by
 refine bM (first:=[]) (caps:=[.aO b 0]) Tryz.func90 br c90 bw (aX.mono (Q:=λo e s'=>(o = .normal∨o = .jmp .ret)/\∃ a,s'.get b=some (.cells .mut [.aE a 0 (len+2) 1])/\s'.get a=some (.cells .mut (cs++DA (b2 n)))/\s.n<=a/\a<s'.n/\s.n<=s'.n) ?_ λo e s' x=>by
  obtain⟨h1,h2⟩:=x;exact⟨h1, .cE [],by simp[l90,aW],h2⟩)
 refine Cd.out (mH λe G H=>?_);unfold l90;dsimp only[jA,jG,qJ,qm,ql];have y:kr .shr (.int .i64 n) (.int .u64 8)=some (.int .i64 (n.fdiv 256)):=rfl;have d:∃ q,IntKind.u8.wrap n=q:=⟨_,rfl⟩;have f:∃ t,IntKind.u8.wrap (n.fdiv 256)=t:=⟨_,rfl⟩;obtain⟨q,d⟩:=d;obtain⟨t,f⟩:=f;repeat' (first|refine aG (aj @h (aj @y (aj @d @f))) ?_|(first|apply ah|apply af)<;>intro A)
 refine HG (k:=2) (n:=len) (vs:=DA (b2 n)) (cells:=cs) (yv:=.aE j 0 len 1) (by
  simp only[bt,List.map,lk,Nat.reduceEqDiff,if_false,if_true,List.map];have B:∀ z:Int,cells? (.int .u8 z)=some [.int .u8 z]:=λ_=>rfl;simp[rep,aU,B,splice,DA,b2,d,f]) (by simp[DA,b2]) (xY _) ef ⟨hl, .inr ⟨j,rfl,m.2,w⟩⟩ (by unfold big;omega) (λs' r h1 h2 h3 C=>?_)
 have D:s'.get b=some (.cells .mut [.aE j 0 len 1]):=by rw[h3 b m.1 λE=>dB (aI.1 E).symm];exact h
 obtain⟨h0,⟨rfl,u⟩ | ⟨a,rfl,u,h6⟩⟩:=h1
 ·omega
 have F:=C a (aI.2 rfl);have hB:=Bx.mk h6;clear h6 h3;repeat' (first|refine aG @D ?_|(first|apply ah|apply af)<;>intro A)
 refine⟨.inl trivial,a,by rw[St.az,if_pos rfl],by rw[St.az,if_neg om];exact hB.out,F,u,h2⟩
theorem JB {v:LV}{l:List Int}(h:aP v l) (hl:l.length<=100000):PO 74 [v] (.str ⟨(G3 l).toArray⟩):=by
 have B:=h.closed;have q:=h.sl.len;have u:IntKind.i64.wrap (2*(l.length:Int))=((2*l.length:Nat):Int):=by rw[wrap_i64 _ om om];rfl
 refine gO (t:=2) hm Tryz.func74 br c74 bw (by simp[LV.closed.au,B]) rfl rfl ?_;refine pg λe C=>?_;unfold l74;dsimp only[jA,jG,qS,qI,qA,qB,qC,qm,ql,qR];repeat' (first|refine aG (aj @q @u) ?_|(first|apply ah|apply af)<;>intro b)
 refine iw (v:=.aE 0 0 0 1) (s':=St.empty.new (.cells .mut [])) (by
  have h1:((2*l.length:Nat):Int)*1<=big:=by unfold big;omega
  have h2:((2*l.length:Nat):Int)<=big:=by unfold big;omega
  simp only[bq.run,lk,dM,rH,Nat.reduceEqDiff,if_false,if_true,u];rw[if_pos ⟨Int.le_refl _,by omega,by simpa using h1,h2,trivial⟩];simp[bJ,rep]) ?_
 have d:(St.empty.new (.cells .mut [])).n=1:=by simp[bJ]
 have w:(St.empty.new (.cells .mut [])).get 0=some (.cells .mut []):=by simp[bJ]
 generalize St.empty.new (.cells .mut [])=s1 at *;repeat' (first|refine aG @q ?_|(first|apply ah|apply af)<;>intro b)
 refine aN (λm e s=>∃ k j:Nat,m=l.length - k/\k<=l.length/\s.get 1=some (.cells .mut [.aE j 0 (2*k) 1])/\s.get j=some (.cells .mut (DA ((l.take k).flatMap b2)))/\j≠1/\j<s.n/\1<s.n/\e.at 3 = .aO 1 0/\e.at 4 = .fn (.func 90) [] [.aO 1 0]/\e.at 12=v/\e.at 13 = .int .i64 (l.length:Int)/\e.at 14 = .int .i64 (k:Int)) _
  ⟨0,0,rfl,by omega,by simp,by simp[DA,d,w],by omega,by simp[d],by simp[d],ef,by simp only[List.map,lk,Nat.reduceEqDiff,if_false,if_true,List.map],ef,ef,by simp only[lk,Nat.reduceEqDiff,if_false,if_true,List.map];rfl⟩ ?_
 clear C d w;clear e s1;rintro m e s ⟨k,j,rfl,S,h1,f,dB,o,D,E,F,G,H,I⟩;by_cases J:k<l.length
 ·have K:(k:Int)<(l.length:Int):=by omega
  have y:=@bQ k om;have L:=bB K;have z:l.take (k+1)=l.take k++[l.getD k 0]:=by rw[List.take_add_one,gD,gE J];rfl
  generalize l.getD k 0=x at *;have A:=Sm (l.take k);rw[List.length_take]at A;have a:=X5 (len:=2*k) h1 f (by simp[DA,A];omega) ⟨D,o⟩ dB om x;have M:Bx (DA ((l.take (k+1)).flatMap b2)=DA ((l.take k).flatMap b2)++DA (b2 x)):=⟨by rw[z];simp[DA,List.flatMap_append]⟩;clear z h1 f;repeat' (first|refine aG (aj (@cU _ _ _ h.sl) @L) ?_|(first|apply ah|apply af)<;>intro b)
  refine bK wN (fv:=.fn (.func 90) [] [.aO 1 0]) (vs:=[.int .i64 x]) ef ef (aM.mono a λr s2 N=>⟨trivial,?_⟩);obtain⟨O,a1,a2,a3,a4,a5⟩:=N;simp only[Env.aB];rw[<- M.out]at a2;clear a;repeat' (first|refine aG @y ?_|(first|apply ah|apply af)<;>intro b)
  refine⟨l.length - (k+1),by omega,k+1,O,rfl,by omega,by rw[a1];rfl,a2,by omega,a4,by omega,?_⟩;simp only[lk,Nat.reduceEqDiff,if_false,if_true,y,E,F,G,H,and_self]
 ·have P:k=l.length:=by omega
  subst P;rw[List.take_length]at f;have Q:rowOf s 1 (2*l.length) (.aE j 0 (2*l.length) 1)=some (DA (l.flatMap b2)):=by
   have:=Sm l;simp only[rowOf,f,DA,List.length_map,this,Nat.zero_add,Nat.mul_one,Nat.le_refl,and_self,if_true,List.drop_zero];rw[List.take_of_length_le (by rw[List.length_map,this];exact Nat.le_refl _)]
  have p:=zR (l.flatMap b2);repeat' (first|refine aG @h1 ?_|(first|apply ah|apply af)<;>intro b)
  refine iw (v:=.str ⟨(G3 l).toArray⟩) (s':=s) (by
   simp only[bq.run,lk,rH,Nat.reduceEqDiff,if_false,if_true,ji,Q,p];rfl) ?_
  repeat' (first|refine aG trivial ?_|(first|apply ah|apply af)<;>intro b)
  exact⟨.inr trivial,ef⟩
open Go Go.Pv Go.pR
def fe (l:List Gn) (i:Nat):List Nd:=((l.take i).filter λn=>!n.gone).map λn=>⟨n.name,place l n.par,n.kept⟩
theorem v7 {l:List Gn}{i:Nat}{g:Gn}(h:l.take (i+1)=l.take i++[g]) (a:g.gone=true):fe l (i+1)=fe l i/\cR (l.take (i+1))=cR (l.take i):=by
 unfold fe cR;rw[h];simp[List.filter_append,a]
theorem E7 {l:List Gn}{i:Nat}{g:Gn}(h:l.take (i+1)=l.take i++[g]) (a:g.gone=false):fe l (i+1)=fe l i++[(⟨g.name,place l g.par,g.kept⟩:Nd)]/\gd (l.take (i+1))=gd (l.take i):=by
 unfold fe gd;rw[h];simp[List.filter_append,a]
theorem H7 (l:List Gn):fe l l.length=leave l:=by unfold fe leave;rw[List.take_length]
theorem Me (l:List Gn) (i:Nat):(fe l i).length<=i:=by
 unfold fe;have:=List.length_filter_le (λn:Gn=>!n.gone) (l.take i);rw[List.length_take]at this;rw[List.length_map];omega
theorem Bp (l:List Gn) (p:Int) (h0 : -1<=p) : -1<=place l p/\place l p<=l.length:=by
 unfold place;split
 ·split
  ·omega
  ·have:=List.length_filter_le (λn:Gn=>!n.gone) (l.take p.toNat);rw[List.length_take]at this;omega
 ·omega
def HL (l:List Gn) (i:Nat):Nat->LV:=λj=>.int .i64 (if j<i then place l j else 0)
theorem tc {α:Type}{row:α->List LV} : ∀ {l:List α},(∀ x∈l,LV.closed.au (row x)=true)->LV.closed.au (dm row l)=true
 | [],_=>rfl
 | x :: l, h => by
   have e:dm row (x::l)=row x++dm row l:=by simp[dm]
   have h1:=h x (by simp);have h2:=tc (l:=l) λy d=>h y (by simp[d]);have key:∀ {a b:List LV},LV.closed.au a=true->LV.closed.au b=true->LV.closed.au (a++b)=true:=by
    intro a;induction a with
    | nil=>intro b _ h;exact h
    | cons v a ih=>
      intro b h1 h2;simp only[LV.closed.au,Bool.and_eq_true,List.cons_append] at *;exact⟨h1.1,ih h1.2 h2⟩
   rw[e];exact key h1 h2
theorem FV.tup2 {T:Nat->Prop}{d:Nat}{s:St}{a b e f:LV}(h:FV T d s a e) (j:FV T d s b f):FV T (d+1) s (.cE [a,b]) (.cE [e,f]):=by
 by_cases k:(LV.cE [a,b]).closed=true
 ·have h1:a.closed=true/\b.closed=true:=by simpa[LV.closed,LV.closed.au] using k
  rw[h.of_closed h1.1,j.of_closed h1.2];exact FV.shut k
 ·refine .inr (.inr (.inr (.inr ⟨[a,b],[e,f],rfl,by simpa using k,rfl,rfl,by simp[LV.closed.au,h.closed,j.closed],λi m=>?_⟩)));match i,m with
  | 0,_=>exact h
  | 1,_=>exact j
theorem FV.agg2 {T:Nat->Prop}{d:Nat}{s:St}{a b e f:LV}(h:FV T d s a e) (j:FV T d s b f):FV T (d+1) s (.agg [a,b]) (.agg [e,f]):=by
 by_cases k:(LV.agg [a,b]).closed=true
 ·have h1:a.closed=true/\b.closed=true:=by simpa[LV.closed,LV.closed.au] using k
  rw[h.of_closed h1.1,j.of_closed h1.2];exact FV.shut k
 ·refine .inr (.inr (.inr (.inl ⟨[a,b],[e,f],rfl,by simpa using k,rfl,rfl,by simp[LV.closed.au,h.closed,j.closed],λi m=>?_⟩)));match i,m with
  | 0,_=>exact h
  | 1,_=>exact j
structure SV (s:St) (lo:Nat) (v:LV) (R:List GR) (l:List Gn) (X Pb c i:Nat) (v9 gv bv:LV) (rs:List (Int × Int × LV)):Prop where
  gs:GS s lo v R
  b7:s.get 0=some (.cells .mut [.aq, .aq])
  Sn:s.get X=some (.cells .mut [gv,bv])
  pl:s.get Pb=some (.cells .mut (bz l.length (HL l i)))
  g:ek s gv 1 (ints (cR (l.take i))) (cR (l.take i)).length
  b:ek s bv 1 (ints (gd (l.take i))) (gd (l.take i)).length
  t:ek s v9 3 (dm eO rs) rs.length
  rl:rs.length=(fe l i).length
  rn:∀ k,k<rs.length->vM (rs.getD k default) ((fe l i).getD k default)
  sep:∀ id,(aQ v id∨∃ r∈R,id=r.2.2)->id<c/\id≠X/\id≠Pb
  low:0<X/\X<Pb/\Pb<c/\c<=s.n
  up:(∀ id,aQ gv id->c<=id)/\(∀ id,aQ bv id->c<=id)/\∀ id,aQ v9 id->c<=id
  ap:(∀ id,aQ gv id->¬ aQ bv id)/\(∀ id,aQ gv id->¬ aQ v9 id)/\∀ id,aQ bv id->¬ aQ v9 id
theorem SV.gs' {s s':St}{lo:Nat}{v:LV}{R:List GR}{l:List Gn}{X Pb c i:Nat}{v9 gv bv:LV}{rs:List (Int × Int × LV)}(h:SV s lo v R l X Pb c i v9 gv bv rs) (a:s.n<=s'.n) (ho:∀ id,id<c->id≠X->id≠Pb->s'.get id=s.get id):GS s' lo v R/\s'.get 0=some (.cells .mut [.aq, .aq]) :=
 have hl:=h.low
 ⟨h.gs.frame a (λid b=>by
  have:=h.sep id (.inl b);exact ho id this.1 this.2.1 this.2.2) λr d=>by
  have:=h.sep r.2.2 (.inr ⟨r,d,rfl⟩);exact ho _ this.1 this.2.1 this.2.2,(ho 0 om om om).trans h.b7⟩
theorem SV.grow {s s':St}{lo:Nat}{v:LV}{R:List GR}{l:List Gn}{X Pb c i:Nat}{v9 gv bv:LV}{rs:List (Int × Int × LV)}(h:SV s lo v R l X Pb c i v9 gv bv rs) (d:s.n<=s'.n) (ho:∀ id,id<s.n->s'.get id=s.get id):SV s' lo v R l X Pb c i v9 gv bv rs:=
 have hl:=h.low;have e:=h.gs' d λid f _ _=>ho id om
 ⟨e.1,e.2,(ho X om).trans h.Sn,(ho Pb om).trans h.pl,h.g.mono d λid a=>ho id (h.g.lt a),h.b.mono d λid a=>ho id (h.b.lt a),h.t.mono d λid a=>ho id (h.t.lt a),h.rl,h.rn,h.sep,by omega,h.up,h.ap⟩
theorem EH {l:List Gn}{i:Nat}{g:Gn}(b:l.getD i default=g) (h:g.gone=true) (j:Nat):HL l (i+1) j=HL l i j:=by
 unfold HL;by_cases e:j=i
 ·subst e;have:place l (j:Int)=0:=by
   unfold place;rw[if_pos om,Int.toNat_natCast,b,if_pos h]
  simp[this]
 ·by_cases a:j<i
  ·simp[a,show j<i+1 by omega]
  ·simp[a,show ¬ j<i+1 by omega]
theorem Pe {l:List Gn}{i:Nat}{g:Gn}(b:l.getD i default=g) (h:g.gone=false) (j:Nat):HL l (i+1) j=if j=i then .int .i64 ((fe l i).length:Int) else HL l i j:=by
 unfold HL;by_cases e:j=i
 ·subst e;have:place l (j:Int)=((fe l j).length:Int):=by
   unfold place fe;rw[if_pos om,Int.toNat_natCast,b,h,List.length_map];simp
  simp[this]
 ·by_cases a:j<i
  ·simp[e,a,show j<i+1 by omega]
  ·simp[e,a,show ¬ j<i+1 by omega]
theorem rZ {l:List Gn}{i:Nat}{g:Gn}(h:l.take (i+1)=l.take i++[g]):gd (l.take (i+1))=gd (l.take i)++if g.gone && g.old then [g.name] else []:=by
 unfold gd;rw[h,List.filter_append,List.map_append];congr 1;by_cases e:(g.gone && g.old)=true<;>simp[e]
theorem zo {l:List Gn}{i:Nat}{g:Gn}(h:l.take (i+1)=l.take i++[g]):cR (l.take (i+1))=cR (l.take i)++if !g.gone && g.bO then [g.name] else []:=by
 unfold cR;rw[h,List.filter_append,List.map_append];congr 1;by_cases e:(!g.gone && g.bO)=true<;>simp[e]
section
variable {s s':St}{lo:Nat}{v:LV}{R:List GR}{l:List Gn}{X Pb c i:Nat}{v9 gv bv:LV}{rs:List (Int × Int × LV)}{g:Gn}
theorem SV.bad (h:SV s lo v R l X Pb c i v9 gv bv rs) (q:l.take (i+1)=l.take i++[g]) (w:l.getD i default=g) (k:g.gone=true) (x:g.old=true) {f:LV}(m:s.n<=s'.n) (y:s'.get X=some (.cells .mut [gv,f])) (z:ek s' f 1 (ints (gd (l.take i))++[.int .i64 g.name]) ((gd (l.take i)).length+1)) (o:∀ id,aQ f id->s.n<=id) (ho:∀ id,id<s.n->id≠X->¬ aQ bv id->s'.get id=s.get id):SV s' lo v R l X Pb c (i+1) v9 gv f rs:=by
 have hl:=h.low;have b:=h.up;have p:=h.ap;have r:=h.gs' m λid h1 h2 _=>ho id om h2 λd=>by have:=b.2.1 id d;omega
 obtain⟨u,A⟩:=v7 q k;refine⟨r.1,r.2,y,?_,?_,?_,h.t.mono m λid a=>ho id (h.t.lt a) (by have:=b.2.2 id a;omega) λd=>p.2.2 id d a,by rw[u];exact h.rl,by rw[u];exact h.rn,h.sep,by omega,⟨b.1,λid a=>by have:=o id a;omega,b.2.2⟩,⟨λid h1 h2=>by have:=o id h2;have:=h.g.lt h1;omega,p.2.1,λid h1 h2=>by have:=o id h1;have:=h.t.lt h2;omega⟩⟩
 ·rw[kR (g:=HL l i) λj _=>EH w k j];exact (ho Pb om om λd=>by have:=b.2.1 Pb d;omega).trans h.pl
 ·rw[A];exact h.g.mono m λid a=>ho id (h.g.lt a) (by have:=b.1 id a;omega) (p.1 id a)
 ·rw[rZ q,k,x];have e:ints (gd (l.take i)++[g.name])=ints (gd (l.take i))++[.int .i64 g.name]:=by simp[ints]
  simp only[Bool.and_self,if_true,List.length_append,List.length_singleton];rw[e];exact z
theorem SV.skip (h:SV s lo v R l X Pb c i v9 gv bv rs) (d:l.take (i+1)=l.take i++[g]) (f:l.getD i default=g) (a:g.gone=true) (k:g.old=false):SV s lo v R l X Pb c (i+1) v9 gv bv rs:=by
 obtain⟨e,m⟩:=v7 d a;have n:gd (l.take (i+1))=gd (l.take i):=by rw[rZ d,a,k];simp
 exact⟨h.gs,h.b7,h.Sn,by rw[kR (g:=HL l i) λj _=>EH f a j];exact h.pl,by rw[m];exact h.g,by rw[n];exact h.b,h.t,by rw[e];exact h.rl,by rw[e];exact h.rn,h.sep,h.low,h.up,h.ap⟩
structure SW (s:St) (lo:Nat) (v:LV) (R:List GR) (l:List Gn) (X Pb c i:Nat) (v9 gv bv:LV) (rs:List (Int × Int × LV)) (ip:Nat):Prop where
  gs:GS s lo v R
  b7:s.get 0=some (.cells .mut [.aq, .aq])
  Sn:s.get X=some (.cells .mut [gv,bv])
  pl:s.get Pb=some (.cells .mut (bz l.length (HL l ip)))
  g:ek s gv 1 (ints (cR (l.take (i+1)))) (cR (l.take (i+1))).length
  b:ek s bv 1 (ints (gd (l.take (i+1)))) (gd (l.take (i+1))).length
  t:ek s v9 3 (dm eO rs) rs.length
  rl:rs.length=(fe l i).length
  rn:∀ k,k<rs.length->vM (rs.getD k default) ((fe l i).getD k default)
  sep:∀ id,(aQ v id∨∃ r∈R,id=r.2.2)->id<c/\id≠X/\id≠Pb
  low:0<X/\X<Pb/\Pb<c/\c<=s.n
  up:(∀ id,aQ gv id->c<=id)/\(∀ id,aQ bv id->c<=id)/\∀ id,aQ v9 id->c<=id
  ap:(∀ id,aQ gv id->¬ aQ bv id)/\(∀ id,aQ gv id->¬ aQ v9 id)/\∀ id,aQ bv id->¬ aQ v9 id
theorem SW.grow {e:Nat}(h:SW s lo v R l X Pb c i v9 gv bv rs e) (d:s.n<=s'.n) (ho:∀ id,id<s.n->s'.get id=s.get id):SW s' lo v R l X Pb c i v9 gv bv rs e:=
 have hl:=h.low
 ⟨h.gs.mono d ho,(ho 0 om).trans h.b7,(ho X om).trans h.Sn,(ho Pb om).trans h.pl,h.g.mono d λid a=>ho id (h.g.lt a),h.b.mono d λid a=>ho id (h.b.lt a),h.t.mono d λid a=>ho id (h.t.lt a),h.rl,h.rn,h.sep,by omega,h.up,h.ap⟩
theorem SV.same (h:SV s lo v R l X Pb c i v9 gv bv rs) (a:l.take (i+1)=l.take i++[g]) (d:g.gone=false) (e:g.bO=false):SW s lo v R l X Pb c i v9 gv bv rs i:=by
 have f:gd (l.take (i+1))=gd (l.take i):=by rw[rZ a,d];simp
 have j:cR (l.take (i+1))=cR (l.take i):=by rw[zo a,d,e];simp
 exact⟨h.gs,h.b7,h.Sn,h.pl,by rw[j];exact h.g,by rw[f];exact h.b,h.t,h.rl,h.rn,h.sep,h.low,h.up,h.ap⟩
theorem SV.bO (h:SV s lo v R l X Pb c i v9 gv bv rs) (q:l.take (i+1)=l.take i++[g]) (r:g.gone=false) (a:g.bO=true) {j:LV}(k:s.n<=s'.n) (w:s'.get X=some (.cells .mut [j,bv])) (m:ek s' j 1 (ints (cR (l.take i))++[.int .i64 g.name]) ((cR (l.take i)).length+1)) (o:∀ id,aQ j id->s.n<=id) (ho:∀ id,id<s.n->id≠X->¬ aQ gv id->s'.get id=s.get id):SW s' lo v R l X Pb c i v9 j bv rs i:=by
 have hl:=h.low;have f:=h.up;have p:=h.ap;have u:=h.gs' k λid h1 h2 _=>ho id om h2 λa=>by have:=f.1 id a;omega
 have x:gd (l.take (i+1))=gd (l.take i):=by rw[rZ q,r];simp
 refine⟨u.1,u.2,w,(ho Pb om om λa=>by have:=f.1 Pb a;omega).trans h.pl,?_,by rw[x];exact h.b.mono k λid d=>ho id (h.b.lt d) (by have:=f.2.1 id d;omega) λa=>p.1 id a d,h.t.mono k λid d=>ho id (h.t.lt d) (by have:=f.2.2 id d;omega) λa=>p.2.1 id a d,h.rl,h.rn,h.sep,by omega,⟨λid d=>by have:=o id d;omega,f.2⟩,⟨λid h1 h2=>by have:=o id h1;have:=h.b.lt h2;omega,λid h1 h2=>by have:=o id h1;have:=h.t.lt h2;omega,p.2.2⟩⟩;rw[zo q,r,a];have e:ints (cR (l.take i)++[g.name])=ints (cR (l.take i))++[.int .i64 g.name]:=by simp[ints]
 simp only[Bool.not_false,Bool.and_self,if_true,List.length_append,List.length_singleton];rw[e];exact m
theorem SW.told (h:SW s lo v R l X Pb c i v9 gv bv rs i) (j:s'.n=s.n) (e:s'.get Pb=some (.cells .mut (bz l.length (HL l (i+1))))) (ho:∀ id,id≠Pb->s'.get id=s.get id):SW s' lo v R l X Pb c i v9 gv bv rs (i+1):=by
 have hl:=h.low;have d:=h.up;exact⟨h.gs.frame om (λid a=>ho id (h.sep id (.inl a)).2.2) λr f=>ho _ (h.sep _ (.inr ⟨r,f,rfl⟩)).2.2,(ho 0 om).trans h.b7,(ho X om).trans h.Sn,e,h.g.mono om λid a=>ho id (by have:=d.1 id a;omega),h.b.mono om λid a=>ho id (by have:=d.2.1 id a;omega),h.t.mono om λid a=>ho id (by have:=d.2.2 id a;omega),h.rl,h.rn,h.sep,by omega,h.up,h.ap⟩
theorem SW.dR {d nb:Nat}(h:SW s lo v R l X Pb c i v9 gv bv rs d) (j:s'.n=s.n) (k:c<=nb) (h1:¬ aQ gv nb) (h2:¬ aQ bv nb) (h3:¬ aQ v9 nb) (ho:∀ id,id≠nb->s'.get id=s.get id):SW s' lo v R l X Pb c i v9 gv bv rs d:=by
 have hl:=h.low;exact⟨h.gs.frame om (λid a=>ho id (by have:=h.sep id (.inl a);omega)) λr f=>ho _ (by have:=h.sep _ (.inr ⟨r,f,rfl⟩);omega),(ho 0 om).trans h.b7,(ho X om).trans h.Sn,(ho Pb om).trans h.pl,h.g.mono om λid a=>ho id λe=>h1 (e ▸ a),h.b.mono om λid a=>ho id λe=>h2 (e ▸ a),h.t.mono om λid a=>ho id λe=>h3 (e ▸ a),h.rl,h.rn,h.sep,by omega,h.up,h.ap⟩
theorem SW.done (h:SW s lo v R l X Pb c i v9 gv bv rs (i+1)) (x:l.take (i+1)=l.take i++[g]) (y:g.gone=false) {v9' Tl:LV}(j:s.n<=s'.n) {r:Int × Int × LV}(z:ek s' v9' 3 (dm eO rs++eO r) (rs.length+1)) (A:vM r ⟨g.name,place l g.par,g.kept⟩) (m:∀ id,aQ v9' id->s.n<=id) {T:Nat->Prop}(o:∀ id,T id->c<=id/\¬ aQ gv id/\¬ aQ bv id) (ho:∀ id,id<s.n->¬ aQ v9 id->¬ T id->s'.get id=s.get id):SV s' lo v R l X Pb c (i+1) v9' gv bv (rs++[r]):=by
 have hl:=h.low;have p:=h.up;have q:=h.ap;obtain⟨w,E⟩:=E7 x y;have f:∀ id,id<c->s'.get id=s.get id:=λid a=>ho id om (λd=>by have:=p.2.2 id d;omega) λd=>by have:=(o id d).1;omega
 refine⟨h.gs.frame j (λid a=>f id (h.sep id (.inl a)).1) λr B=>f _ (h.sep _ (.inr ⟨r,B,rfl⟩)).1,(f 0 om).trans h.b7,(f X om).trans h.Sn,(f Pb om).trans h.pl,h.g.mono j λid a=>ho id (h.g.lt a) (q.2.1 id a) λd=>(o id d).2.1 a,h.b.mono j λid a=>ho id (h.b.lt a) (q.2.2 id a) λd=>(o id d).2.2 a,by rw[gh,oq,List.length_append,List.length_singleton];exact z,by rw[w,List.length_append,List.length_append,h.rl];rfl,λk C=>?_,h.sep,by omega,⟨p.1,p.2.1,λid a=>by have:=m id a;omega⟩,⟨q.1,λid h1 h2=>by have:=m id h2;have:=h.g.lt h1;omega,λid h1 h2=>by have:=m id h2;have:=h.b.lt h1;omega⟩⟩;rw[List.length_append,List.length_singleton]at C;rw[w];by_cases e:k<rs.length
 ·have t:(rs++[r]).getD k default=rs.getD k default:=by simp[gD,List.getElem?_append_left e]
  have u:(fe l i++[(⟨g.name,place l g.par,g.kept⟩:Nd)]).getD k default=(fe l i).getD k default:=by
   rw[gD,gD,List.getElem?_append_left (by rw[<- h.rl];exact e)]
  rw[t,u];exact h.rn k e
 ·have D:k=rs.length:=by omega
  subst D;have t:(rs++[r]).getD rs.length default=r:=by simp[gD]
  have u:(fe l i++[(⟨g.name,place l g.par,g.kept⟩:Nd)]).getD rs.length default=(⟨g.name,place l g.par,g.kept⟩:Nd):=by
   rw[h.rl];simp[gD]
  rw[t,u];exact A
end
noncomputable def EP (B:Bu) (t:List Nd):Prop:=t.length<=B.next.length/\Tr B.next.length t
noncomputable def kz (B:Bu) (t:List Nd) (a:Nat):List Nd:=if EP B t then Go.pR.step B.next.length (λq=>fQ B q a) t else []
noncomputable def Ap (B:Bu) (t:List Nd) (a:Nat):List Int:=if EP B t then evG B.next.length (λq=>fQ B q a) t else []
noncomputable def Aq (B:Bu) (t:List Nd) (a:Nat):List Int:=if EP B t then evB B.next.length (λq=>fQ B q a) t else []
theorem On {DS tv:LV}{B:Bu}{sv nv:LV}(hB:vo DS B sv nv) (hv:Vb B) (hN:B.next.length<=1500) {t:List Nd}{Hp:List (Int × Int × LV)}(ht:jK tv t Hp) {a:Nat}(ha:(a:Int)<B.L) (mK:∀ q,(fQ B q a).length<=1000000) :
 PE 75 [DS,tv, .int .i64 (a:Int)] (λr=>∃ DB gv bv rs,r = .cE [DB, .agg [gv,bv]]/\jK DB (kz B t a) rs/\aP gv (Ap B t a)/\aP bv (Aq B t a)):=by
 have bV:=hB.closed;have BL:=ht.closed;have dy:=G4 hB ht;have Xd:=λh1 h2 h3 s=>RE hB ht (a:=a) h1 h2 mK h3 s;obtain⟨rfl,hs,N⟩:=hB;have m9:=hs.closed;have mD:=N.closed;obtain⟨vs,fI⟩:=N;have mJ:=hs.sl.cell;have nW:=fI.sl.cell;have Vx:=hv.2.1;refine dS Tryz.func75 br c75 bw (by simp[LV.closed.au,LV.closed,BL,m9,mD]) ?_;refine ev3 λe e0 e1 e2=>?_;unfold l75;dsimp only[jA,jB,jC,jG,jH,qM,qL,qN,qF,qS,qI,qA,qB,qC,qO,qP,qW,qJ,qT,qX,qG,qm,ql,qR];by_cases fC:EP B t
 ·have Rj : decide (Vb B /\ t.length <= B.next.length /\ Tr B.next.length t) = true := decide_eq_true ⟨hv, fC⟩;rw[Rj]at dy;clear Rj;have NC:=Bx.mk hv;clear hv;repeat' (first|refine aH trivial ?_|(first|apply ah|apply af)<;>intro w)
  refine dx dy ?_;clear dy;repeat' (first|refine aH trivial ?_|(first|apply ah|apply af)<;>intro w)
  have hv:=NC.out;have q7:=fC.2;have hE:Bx (kz B t a=Go.pR.step B.next.length (λq=>fQ B q a) t/\Ap B t a=evG B.next.length (λq=>fQ B q a) t/\Aq B t a=evB B.next.length (λq=>fQ B q a) t):=⟨by simp[kz,Ap,Aq,fC]⟩;have KA:Sr B.next.length t:=λn N x hx=>by
   obtain⟨i,hi,rfl⟩:=List.getElem_of_mem N;have h:=q7.1 i hi;rw[gD,gE hi]at h;exact h.tQ x hx
  have ct:∀ q,q<B.next.length->a<(B.next.getD q []).length:=λq hq=>by
   have:=(hv.2.2.2.2 q hq).1;omega
  have YW:∀ q,q<B.next.length->∀ m∈fQ B q a,0<=m.1/\m.1<B.next.length:=λq hq m hm=>by
   have h:=(hv.2.2.2.2 q hq).2 a (ct q hq);obtain⟨k,hk,rfl⟩:=List.getElem_of_mem hm;have h1:=h k hk;rw[show (B.next.getD q []).getD a []=fQ B q a from rfl,gD,gE hk]at h1;exact⟨h1.1,h1.2.1⟩
  have O:=Xd KA ct YW;have tL:(St.empty.new (.cells .mut [.aq, .aq])).get 0=some (.cells .mut [.aq, .aq]):=by simp[bJ]
  have jd:(St.empty.new (.cells .mut [.aq, .aq])).n=1:=by simp[bJ]
  generalize St.empty.new (.cells .mut [.aq, .aq])=s0 at *;have NQ:=KT (mv:=λq=>fQ B q a) q7 om;have hlG:(grown B.next.length (λq=>fQ B q a) t).length=2*t.length:=by simp[grown];omega
  have kn:=fC.1;refine bK wN (fv:=.fn (.func 92) [] []) (vs:=[.agg [.int .i64 B.L,sv,nv],tv, .int .i64 (a:Int)]) ef ef (aM.mono (O _) λv s1 F=>⟨trivial,?_⟩);obtain⟨R1,Rz,NP,eu,fG⟩:=F;simp only[Env.aB];clear O Xd;have pe:R1.length=2*t.length:=by rw[<- hlG,<- NP,List.length_map]
  have yZ:cW B.next.length (λq=>fQ B q a) t=named (2*B.next.length) (aJ (aD (R1.map (·.1)))):=by rw[NP];rfl
  rw[<- NP]at NQ;have Vu:=F8 NQ;have Xl:=zH Vu;have I:=Kf Xl;have q5:=M3 Rz NQ.1 om om λn N=>(NQ.2 n N).inc.imp λh=>by omega
  repeat' (first|refine aH trivial ?_|(first|apply ah|apply af)<;>intro w)
  refine bK wN (fv:=.fn (.func 93) [] []) (vs:=[v]) ef ef (aM.mono q5 λx s2 F=>⟨trivial,?_⟩);obtain⟨R2,hG2,AS,jk,iM⟩:=F;simp only[Env.aB];have xE:R2.length=R1.length:=by
   have:=congrArg List.length AS;rw[List.length_map]at this;rw[this];unfold aD;rw[cI,List.length_map]
  rw[<- AS]at Vu Xl I yZ;have wB:=Ge hG2 Vu.1 om om λn N=>⟨(Vu.2 n N).inc.imp λh=>by omega,(Vu.2 n N).len⟩;clear q5;repeat' (first|refine aH trivial ?_|(first|apply ah|apply af)<;>intro w)
  refine bK wN (fv:=.fn (.func 94) [] []) (vs:=[v]) ef ef (aM.mono wB λx s3 F=>⟨trivial,?_⟩);obtain⟨R3,MP,hR3,o9,fR⟩:=F;simp only[Env.aB];have KH:R3.length=R2.length:=by
   have:=congrArg List.length hR3;rw[List.length_map]at this;rw[this];unfold aJ;rw[cI,List.length_map]
  rw[<- hR3]at Xl I yZ;have Vi:=Uc (f:=2*B.next.length) MP om om om (XL Xl.2);clear wB;repeat' (first|refine aH trivial ?_|(first|apply ah|apply af)<;>intro w)
  refine bK wN (fv:=.fn (.func 95) [] []) (vs:=[v]) ef ef (aM.mono Vi λx p F=>⟨trivial,?_⟩);obtain⟨R,hG,hR,od,fD⟩:=F;simp only[Env.aB];have QV:R.length=R3.length:=by
   have:=congrArg List.length hR;rw[List.length_map]at this;rw[this];unfold named;rw[qh,List.length_map]
  rw[<- hR]at I yZ;have MG:p.get 0=some (.cells .mut [.aq, .aq]):=by
   rw[fD 0 om,fR 0 om,iM 0 om,fG 0 om];exact tL
  have hcn:Bx (2*B.next.length+(R3.map (·.1)).length<=6000):=⟨by rw[List.length_map];omega⟩;have Ak:R.length<=3000:=by omega
  have sH:s0.n<=p.n:=by omega
  rw[jd]at hG sH;generalize 2*B.next.length+(R3.map (·.1)).length=cc at *;have jQ:=hG.sg.len;have wZ:(R.map (·.1)).length=R.length:=List.length_map ..;have NL:=Bx.mk yZ;have sy:∀ id,aQ v id->1<=id:=hG.low.1;have kU:∀ r∈R,1<=r.2.2:=hG.low.2;clear Vi Rz NP eu fG hG2 AS jk iM MP hR3 o9 fR NQ Vu Xl fD tL jd hlG pe xE KH od QV yZ hR;clear s1 s2 s3 R1 R2 R3 s0;repeat' (first|refine aH @jQ ?_|(first|apply ah|apply af)<;>intro w)
  refine vP (n:=R.length) (k:=p.n+1) (z:=.int .i64 0) wN rfl ef ef om (by decide) ?_;repeat' (first|refine aH @jQ ?_|(first|apply ah|apply af)<;>intro w)
  generalize W8:R.map (·.1)=l at *;have kW:∀ i,i<R.length->R[i]? = some (R.getD i default)/\(R.getD i default).1=l.getD i default:=λi hi=>by
   have h1:R[i]? = some (R.getD i default):=by rw[gD,gE hi];rfl
   refine⟨h1,?_⟩;rw[<- W8,gD (l:=R.map (·.1)),List.getElem?_map,h1];rfl
  refine aN (λm e s=>∃ (i:Nat) (v9 gv bv:LV) (rs:List (Int × Int × LV)),m=R.length - i/\i<=R.length/\SV s 1 v R l p.n (p.n+1) (p.n+2) i v9 gv bv rs/\e.at 7 = .aO 0 0/\e.at 9=v9/\e.at 10 = .aO p.n 0/\e.at 11 = .aE (p.n+1) 0 R.length 1/\e.at 42=v/\e.at 43 = .int .i64 (R.length:Int)/\e.at 44 = .int .i64 (i:Int)) _
   ⟨0, .aq, .aq, .aq,[],rfl,by omega,?_,ef,ef,ef,ef,ef,ef,by simp only[lk,dM,Nat.reduceEqDiff,if_false,if_true];rfl⟩ ?_
  ·have hgg:∀ id,id<p.n->((p.new (.cells .mut [.aq, .aq])).new (.cells .mut (bz R.length λ_=>.int .i64 0))).get id=p.get id:=λid A=>by rw[St.aA,if_neg (by simp;omega),St.aA,if_neg om]
   exact {
    gs:=hG.mono (by simp;omega) hgg
    b7:=(hgg 0 om).trans MG
    Sn:=by rw[St.aA,if_neg (by simp),St.aA,if_pos rfl]
    pl:=by
     rw[St.aA,if_pos (by simp),wZ];congr 2
    g:=ek.nil _ _
    b:=ek.nil _ _
    t:=ek.nil _ _
    rl:=rfl
    rn:=λk hk=>absurd hk (by simp)
    sep := λid A => by
     have:id<p.n:=by
      rcases A with o | ⟨r,hr,rfl⟩
      ·exact hG.sg.lt o
      ·exact hG.Cb r hr
     omega
    low:=by simp;omega
    up:=⟨λid o=>absurd o (bE id),λid o=>absurd o (bE id),λid o=>absurd o (bE id)⟩
    ap:=⟨λid o=>absurd o (bE id),λid o=>absurd o (bE id),λid o=>absurd o (bE id)⟩ }
  clear e0 e1 e2 MG hG;clear e;rintro m e s ⟨i,v9,gv,bv,rs,rfl,hi,C,Y,e9,gW,n6,R4,VK,Xy⟩;by_cases cy:i<R.length
  ·have iQ:(i:Int)<(R.length:Int):=by omega
   have dO:=@bQ i om;obtain⟨J,rest,GC,hJ,tJ⟩:=C.gs.sg.pos om;subst GC;obtain⟨lZ,fX⟩:=kW i cy;have ep:=take_one l default (k:=i) om;have DL:=I.1 i om;have Xe:=I.2 _ (cn (l:=l) (i:=i) om);have yR:R.getD i default∈R:=cn cy;have DM:=fX;rw[<- fX]at ep DL Xe;clear fX;generalize R.getD i default=r at *;have Mn:=C.gs.kS _ yR;have uA:=Mn.sl.cell;obtain⟨g,xv,M⟩:=r;simp only at ep DL Xe uA DM;have ZI:=Bx.mk DM.symm;clear DM;have kG:cz (some 7) (.aO J (i*7)) s=some (.agg [.int .i64 g.name, .int .i64 g.par,xv, .aR M, .bool g.old, .bool g.bO, .bool g.gone]):=lV bY lZ tJ;have hMb:M<p.n+2:=(C.sep M (.inr ⟨_,yR,rfl⟩)).1;have wq:=C.gs.ms yR;have mE:=C.grow (s':=(s.new (.cells .mut [.int .i64 0, .int .i64 0, .aq, .cm, .bool false, .bool false, .bool false])).put s.n (.cells .mut [.int .i64 g.name, .int .i64 g.par,xv, .aR M, .bool g.old, .bool g.bO, .bool g.gone])) (by simp) λid A=>by rw[St.az,if_neg om,St.aA,if_neg om]
   have K:((s.new (.cells .mut [.int .i64 0, .int .i64 0, .aq, .cm, .bool false, .bool false, .bool false])).put s.n (.cells .mut [.int .i64 g.name, .int .i64 g.par,xv, .aR M, .bool g.old, .bool g.bO, .bool g.gone])).get s.n=some (.cells .mut [.int .i64 g.name, .int .i64 g.par,xv, .aR M, .bool g.old, .bool g.bO, .bool g.gone]):=by rw[St.az,if_pos rfl]
   have eu:((s.new (.cells .mut [.int .i64 0, .int .i64 0, .aq, .cm, .bool false, .bool false, .bool false])).put s.n (.cells .mut [.int .i64 g.name, .int .i64 g.par,xv, .aR M, .bool g.old, .bool g.bO, .bool g.gone])).n=s.n+1:=rfl;have KL:=C.low.2.2.2;have hgnb:∀ id,aQ gv id->id<s.n:=λid o=>C.g.lt o;have YS:∀ id,aQ v9 id->id<s.n:=λid o=>C.t.lt o;have Z0:∀ id,aQ bv id->id<s.n:=λid o=>C.b.lt o;have G:=Bx.mk mE;have lY:=Bx.mk ep;clear C mE tJ wq ep;repeat' (first|refine aG (aj @eF @kG) ?_|(first|apply ah|apply af)<;>intro w)
   generalize (s.new (.cells .mut [.int .i64 0, .int .i64 0, .aq, .cm, .bool false, .bool false, .bool false])).put s.n (.cells .mut [.int .i64 g.name, .int .i64 g.par,xv, .aR M, .bool g.old, .bool g.bO, .bool g.gone])=s1 at *;generalize s.n=nb at *;clear kG;have P:=G.out.Sn;cases Z:g.gone with
   | true=>
     cases H:g.old with
     | true=>
       rw[Z,H]at K;repeat' (first|refine aH (aj @K @P) ?_|(first|apply ah|apply af)<;>intro w)
       refine qc (n:=(gd (l.take i)).length) (aZ:=1) (xv:=.int .i64 g.name) (yv:=bv) (vs:=[.int .i64 g.name]) (cells:=ints (gd (l.take i))) ef rfl rfl rfl rfl ef G.out.b (by decide) (by
        have:=List.length_filter_le (λn:Gn=>n.gone && n.old) (l.take i);rw[List.length_take]at this;unfold gd;rw[List.length_map];omega) (λs2 j a1 a4 a5 a6=>?_)
       have hl:=G.out.low;have DP:s2.get p.n=some (.cells .mut [gv,bv]):=by rw[a6 _ om λo=>by have:=G.out.up.2.1 _ o;omega];exact P
       have eg:=Bx.mk (And.intro a4 a6);clear a4 a6 P;repeat' (first|refine aH (aj @DP @dO) ?_|(first|apply ah|apply af)<;>intro w)
       refine⟨R.length - (i+1),by omega,i+1,v9,gv,_,rs,rfl,by omega,G.out.bad lY.out ZI.out Z H (by simp;omega) (by rw[St.az,if_pos rfl]) (eg.out.1.mono (by simp) λid A=>by have:=aI.1 A;rw[St.az,if_neg om]) (λid A=>by have:=aI.1 A;omega) (λid h1 h2 h3=>by rw[St.az,if_neg h2];exact eg.out.2 id h1 h3),?_⟩;simp only[lk,Nat.reduceEqDiff,if_false,if_true,dO,Y,e9,gW,n6,R4,VK,Xy,and_self]
     | false=>
       rw[Z,H]at K;repeat' (first|refine aH (aj @K @dO) ?_|(first|apply ah|apply af)<;>intro w)
       refine⟨R.length - (i+1),by omega,i+1,v9,gv,bv,rs,rfl,by omega,G.out.skip lY.out ZI.out Z H,?_⟩;simp only[lk,Nat.reduceEqDiff,if_false,if_true,dO,Y,e9,gW,n6,R4,VK,Xy,and_self]
   | false =>
     refine lQ (λu s'=>s'=s1/\u.at 7 = .aO 0 0/\u.at 9=v9/\u.at 10 = .aO p.n 0/\u.at 11 = .aE (p.n+1) 0 R.length 1/\u.at 42 = .aE J 0 R.length 7/\u.at 43 = .int .i64 (R.length:Int)/\u.at 44 = .int .i64 (i:Int)/\u.at 12 = .int .i64 (i:Int)/\u.at 13 = .aO nb 0) ?_ ?_
     ·rw[Z]at K;repeat' (first|refine aH @K ?_|(first|apply ah|apply af)<;>intro w)
      exact⟨trivial,ef,ef,ef,ef,ef,ef,ef,ef,ef⟩
     clear Y e9 gW n6 R4 VK Xy;clear e;rintro e s2 ⟨rfl,Y,e9,gW,n6,R4,VK,Xy,AW,VL⟩;refine lQ (λu s'=>(∃ RD,SW s' 1 (.aE J 0 R.length 7) R l p.n (p.n+1) (p.n+2) i v9 RD bv rs i/\s'.get nb=some (.cells .mut [.int .i64 g.name, .int .i64 g.par,xv, .aR M, .bool g.old, .bool g.bO, .bool g.gone])/\nb<s'.n/\¬ aQ RD nb)/\u.at 7 = .aO 0 0/\u.at 9=v9/\u.at 10 = .aO p.n 0/\u.at 11 = .aE (p.n+1) 0 R.length 1/\u.at 42 = .aE J 0 R.length 7/\u.at 43 = .int .i64 (R.length:Int)/\u.at 44 = .int .i64 (i:Int)/\u.at 12 = .int .i64 (i:Int)/\u.at 13 = .aO nb 0) ?_ ?_
     ·cases fE:g.bO with
      | true=>
        have FP:=K;rw[fE]at FP;repeat' (first|refine aH (aj @FP @P) ?_|(first|apply ah|apply af)<;>intro w)
        refine qc (n:=(cR (l.take i)).length) (aZ:=1) (xv:=.int .i64 g.name) (yv:=gv) (vs:=[.int .i64 g.name]) (cells:=ints (cR (l.take i))) ef rfl rfl rfl rfl ef G.out.g (by decide) (by
         have:=List.length_filter_le (λn:Gn=>!n.gone && n.bO) (l.take i);rw[List.length_take]at this;unfold cR;rw[List.length_map];omega) (λs3 j a1 a4 a5 a6=>?_)
        have hl:=G.out.low;have DP:s3.get p.n=some (.cells .mut [gv,bv]):=by rw[a6 _ om λo=>by have:=G.out.up.1 _ o;omega];exact P
        have QN:s3.get nb=some (.cells .mut [.int .i64 g.name, .int .i64 g.par,xv, .aR M, .bool g.old, .bool g.bO, .bool g.gone]):=by rw[a6 _ om λo=>by have:=hgnb _ o;omega];exact K
        have eg:=Bx.mk (And.intro a4 (And.intro a6 QN));clear a4 a6 P K FP QN;repeat' (first|refine aH @DP ?_|(first|apply ah|apply af)<;>intro w)
        refine⟨⟨.aE j 0 ((cR (l.take i)).length+1) 1,G.out.bO lY.out Z fE (by simp;omega) (by rw[St.az,if_pos rfl]) (eg.out.1.mono (by simp) λid A=>by have:=aI.1 A;rw[St.az,if_neg om]) (λid A=>by have:=aI.1 A;omega) (λid h1 h2 h3=>by rw[St.az,if_neg h2];exact eg.out.2.1 id h1 h3),by rw[St.az,if_neg om];have h:=eg.out.2.2;rw[fE]at h;exact h,by simp;omega,λo=>by have:=aI.1 o;omega⟩,ef,ef,ef,ef,ef,ef,ef,ef,ef⟩
      | false=>
        have FP:=K;rw[fE]at FP;have eg:=Bx.mk (G.out.same lY.out Z fE);have Vl:=Bx.mk K;clear K;repeat' (first|refine aH @FP ?_|(first|apply ah|apply af)<;>intro w)
        rw[fE]at Vl;exact⟨⟨gv,eg.out,Vl.out,by omega,λo=>by have:=hgnb _ o;omega⟩,ef,ef,ef,ef,ef,ef,ef,ef,ef⟩
     clear Y e9 gW n6 R4 VK Xy AW VL G P K;clear e;rintro e s3 ⟨⟨RD,hW,xG,GH,FK⟩,Y,e9,gW,n6,R4,VK,Xy,AW,VL⟩;have hvl9:=hW.t.len;have hiL:(i:Int)<(R.length:Int):=iQ;repeat' (first|refine aG (aj @hvl9 @eF) ?_|(first|apply ah|apply af)<;>intro w)
     refine jZ (n:=l.length) (q:=i) (f:=HL l i) (f':=HL l (i+1)) (v:=.int .i64 (rs.length:Int)) ef ef rfl hW.pl om (λj=>by rw[Pe ZI.out Z,hW.rl]) (λs5 vI qQ eL=>?_);have hW5:=hW.told vI qQ eL;have hlw:=hW.low;have GV:=(eL nb om).trans xG;clear hW xG qQ eL;have Z9:=Bx.mk hW5;have nU:=hW5.pl;rw[wZ]at nU;clear hW5;repeat' (first|refine aG trivial ?_|(first|apply ah|apply af)<;>intro w)
     refine lQ (λu s'=>(SW s' 1 (.aE J 0 R.length 7) R l p.n (p.n+1) (p.n+2) i v9 RD bv rs (i+1)/\s'.get nb=some (.cells .mut [.int .i64 g.name, .int .i64 (place l g.par),xv, .aR M, .bool g.old, .bool g.bO, .bool g.gone])/\nb<s'.n)/\u.at 7 = .aO 0 0/\u.at 9=v9/\u.at 10 = .aO p.n 0/\u.at 11 = .aE (p.n+1) 0 R.length 1/\u.at 42 = .aE J 0 R.length 7/\u.at 43 = .int .i64 (R.length:Int)/\u.at 44 = .int .i64 (i:Int)/\u.at 12 = .int .i64 (i:Int)/\u.at 13 = .aO nb 0) ?_ ?_
     ·by_cases vm:0<=g.par
      ·obtain⟨q,hq⟩:∃ q:Nat,g.par=(q:Int):=⟨g.par.toNat,by omega⟩;have SF:(q:Int)<(R.length:Int):=by omega
       have Zb:(bz R.length (HL l (i+1)))[q]? = some (.int .i64 (place l (q:Int))):=by rw[cQ om];simp[HL,show q<i+1 by omega]
       rw[hq]at GV ⊢;repeat' (first|refine aH (aj @GV (aj @eF (aj @nU @Zb))) ?_|(first|apply ah|apply af)<;>intro w)
       refine⟨⟨Z9.out.dR (by simp) om FK (λo=>by have:=Z0 _ o;omega) (λo=>by have:=YS _ o;omega) λid A=>by rw[St.az,if_neg A],by rw[St.az,if_pos rfl,Z],by simp;omega⟩,ef,ef,ef,ef,ef,ef,ef,ef,ef⟩
      ·have hpl0:place l g.par=g.par:=by unfold place;rw[if_neg vm]
       have hb5B:=Bx.mk GV;rw[hpl0];repeat' (first|refine aH @GV ?_|(first|apply ah|apply af)<;>intro w)
       exact⟨⟨Z9.out,hb5B.out,by omega⟩,ef,ef,ef,ef,ef,ef,ef,ef,ef⟩
     ·clear Y e9 gW n6 R4 VK Xy AW VL Z9 nU GV hlw;clear e;rintro e D ⟨⟨hW,GU,QM⟩,Y,e9,gW,n6,R4,VK,Xy,AW,VL⟩;have Va:∀ id,aQ RD id->id<D.n:=λid o=>hW.g.lt o;have Z9:=Bx.mk hW;clear hW;repeat' (first|refine aG @GU ?_|(first|apply ah|apply af)<;>intro w)
      refine bK wN (fv:=.fn (.func 97) [] []) (vs:=[.aR M]) ef ef (aM.mono (Ut (M:=M) _) λx s7 F=>⟨trivial,?_⟩);obtain⟨rfl,hs7⟩:=F;simp only[Env.aB];have hn7:s7.n=D.n+1:=by rw[hs7];rfl
      have Fy:∀ id,id<D.n->s7.get id=D.get id:=λid A=>by rw[hs7,St.aA,if_neg om]
      have hk7:s7.get D.n=some (.cells .mut [.aR M]):=by rw[hs7,St.aA,if_pos rfl]
      have hW7:=Z9.out.grow (s':=s7) om Fy;have hlw:=Z9.out.low;have WO:=Lg (M:=M) (b:=D.n) s7 Xe.inc (by have:=Xe.len;omega) hk7 (hW7.gs.ms yR) om;have Vr:=Bx.mk (And.intro hW7 (And.intro (Fy nb QM) GU));clear hW7 hs7 Fy GU Z9 hk7;repeat' (first|refine aG trivial ?_|(first|apply ah|apply af)<;>intro w)
      refine bK wN (fv:=.fn (.func 96) [] []) (vs:=[.fn (.func 109) [] [.aO D.n 0]]) ef ef (aM.mono WO λx s8 F=>⟨trivial,?_⟩);obtain⟨hn8,SJ,hx8,hu8⟩:=F;simp only[Env.aB];have Gz:=hx8.cell;have hb8:=((SJ nb om).trans Vr.out.2.1).trans Vr.out.2.2;have hW8:=Vr.out.1.grow hn8 SJ;have jP:=Bx.mk (And.intro hx8 (And.intro hu8 hW8));clear WO hx8 hu8 SJ hW8 Vr;repeat' (first|refine aG (aj @hb8 @Gz) ?_|(first|apply ah|apply af)<;>intro w)
      have hW9:=jP.out.2.2.dR (nb:=nb) (s':=s8.put nb (.cells .mut [.int .i64 g.name, .int .i64 (place l g.par),x, .aR M, .bool g.old, .bool g.bO, .bool false])) (by simp) om FK (λo=>by have:=Z0 _ o;omega) (λo=>by have:=YS _ o;omega) λid A=>by rw[St.az,if_neg A]
      have hx9:=jP.out.1.mono (s':=s8.put nb (.cells .mut [.int .i64 g.name, .int .i64 (place l g.par),x, .aR M, .bool g.old, .bool g.bO, .bool false])) (by simp) λid A=>by
       have:=jP.out.2.1 id A;rw[St.az,if_neg om]
      have hn9:(s8.put nb (.cells .mut [.int .i64 g.name, .int .i64 (place l g.par),x, .aR M, .bool g.old, .bool g.bO, .bool false])).n=s8.n:=rfl;generalize s8.put nb (.cells .mut [.int .i64 g.name, .int .i64 (place l g.par),x, .aR M, .bool g.old, .bool g.bO, .bool false])=s9 at *;have hux:=jP.out.2.1;obtain⟨Tl,sf,BW,hslf,Zl,hof⟩:=VD (a:=g.name) (b:=place l g.par) (hx9.mono (s':=s9.new (.cells .mut [.int .i64 g.name, .int .i64 (place l g.par),x])) (by simp) λid A=>by
       have:=hx9.lt A;rw[St.aA,if_neg om])
      have hrl9:=hW9.rl;have hll9:=Me l i;refine yh (T:=λid=>aQ x id) (n:=rs.length) (aZ:=3) (xv:=.agg [.int .i64 g.name, .int .i64 (place l g.par),x]) (yv:=v9) (vs:=[.int .i64 g.name, .int .i64 (place l g.par),x]) (vs':=[.int .i64 g.name, .int .i64 (place l g.par),Tl]) (cells:=dm eO rs) ef (n8 _ _ Gz) rfl rfl BW rfl (by rw[Zl];simp) (λid h1 h2=>by rw[hof id h2,St.aA,if_neg om]) ef hW9.t (λid o hT=>by have:=YS id o;have:=hux id hT;omega) (by decide) om (λs10 j b1 b2 b3 b4=>?_);have DJ:=Bp l g.par Xe.par;have DK:=Xe.name;have hcn':=hcn.out;have je:=lG;have fM:vM (g.name,place l g.par,Tl) ⟨g.name,place l g.par,g.kept⟩:=⟨rfl,rfl,⟨hslf,by have:=Xe.len;show g.kept.length<=maxLen;omega,λy hy=>by have:=Xe.tQ y hy;unfold bU;omega⟩,by show bU g.name;unfold bU;omega,by show bU (place l g.par);unfold bU;omega⟩;have Dh:=hW9.done lY.out Z b3 (r:=(g.name,place l g.par,Tl)) (v9':=.aE j 0 (rs.length+1) 3) (Tl:=Tl) b2 fM (λid o=>by have:=aI.1 o;omega) (T:=λid=>aQ x id) (λid hT=>by
       have h1:=hux id hT;exact⟨by omega,λo=>by have:=Va id o;omega,λo=>by have:=Z0 id o;omega⟩) b4
      have G:=Bx.mk Dh;clear Dh b2 b4 hW9 hx9 jP hb8 BW hslf hof;repeat' (first|refine aG @dO ?_|(first|apply ah|apply af)<;>intro w)
      refine⟨R.length - (i+1),by omega,i+1,_,RD,bv,_,rfl,by omega,G.out,?_⟩;simp only[lk,Nat.reduceEqDiff,if_false,if_true,dO,Y,gW,n6,R4,VK,and_self]
  ·have eU:i=R.length:=by omega
   subst eU;have hlw:=C.low;have P:=C.Sn;have h0:=C.b7;have O:=C.g;have Q:=C.b;have S:=C.t;have E:=C.up;have U:=C.ap;have fX:=C.rl;have NF:=C.rn;rw[<- wZ,List.take_length]at O Q;rw[<- wZ,H7]at fX NF;have SP:=O.cell;have Rn:=Q.cell;have DM:(cR l).length<=l.length:=by
    unfold cR;rw[List.length_map];exact List.length_filter_le _ _
   have pI:(gd l).length<=l.length:=by
    unfold gd;rw[List.length_map];exact List.length_filter_le _ _
   have SD:=OC O om;clear C;have pQ:=Bx.mk (And.intro Q (And.intro S (And.intro E (And.intro U h0))));clear Q S E U h0 O;repeat' (first|refine aG @P ?_|(first|apply ah|apply af)<;>intro w)
   refine bK wN (fv:=.fn (.func 98) [] []) (vs:=[gv]) ef ef (aM.mono SD λx s5 F=>⟨trivial,?_⟩);obtain⟨qQ,vI,eL⟩:=F;simp only[Env.aB];obtain⟨Q,S,E,U,h0⟩:=pQ.out;have zl:s5.get p.n=some (.cells .mut [gv,bv]):=(eL _ λo=>by have:=E.1 _ o;omega).trans P;have IK:s5.get 0=some (.cells .mut [.aq, .aq]):=(eL _ λo=>by have:=E.1 _ o;omega).trans h0;have GV:=Q.mono (s':=s5) om λid o=>eL id λO=>U.1 id O o;have V:=S.mono (s':=s5) om λid o=>eL id λO=>U.2.1 id O o;have hsb:=OC GV om;have wI:=Bx.mk (And.intro qQ (And.intro V (And.intro E (And.intro U IK))));clear Q S E U h0 qQ GV V IK pQ P eL SD;repeat' (first|refine aG @zl ?_|(first|apply ah|apply af)<;>intro w)
   refine bK wN (fv:=.fn (.func 98) [] []) (vs:=[bv]) ef ef (aM.mono hsb λx D F=>⟨trivial,?_⟩);obtain⟨GU,W0,Fz⟩:=F;simp only[Env.aB];obtain⟨qQ,V,E,U,IK⟩:=wI.out;have IE:D.get p.n=some (.cells .mut [gv,bv]):=(Fz _ λo=>by have:=E.2.1 _ o;omega).trans zl;have h06:D.get 0=some (.cells .mut [.aq, .aq]):=(Fz _ λo=>by have:=E.2.1 _ o;omega).trans IK;have Va:=qQ.mono (s':=D) om λid o=>Fz id λQ=>U.1 id o Q;have ht6:=V.mono (s':=D) om λid o=>Fz id λQ=>U.2.2 id Q o;have w6:=Bx.mk (And.intro Va (And.intro ht6 (And.intro GU E)));clear E U qQ V Va ht6 GU IK wI zl Fz hsb;repeat' (first|refine aG (aj @IE @h06) ?_|(first|apply ah|apply af)<;>intro w)
   obtain⟨Va,ht6,GU,E⟩:=w6.out;have hf7:∀ id,p.n+2<=id->(D.put 0 (.cells .mut [gv,bv])).get id=D.get id:=λid A=>by rw[St.az,if_neg om]
   have h07:(D.put 0 (.cells .mut [gv,bv])).get 0=some (.cells .mut [gv,bv]):=by rw[St.az,if_pos rfl]
   have hg7:=Va.mono (s':=D.put 0 (.cells .mut [gv,bv])) (by simp) λid o=>hf7 id (E.1 id o);have Z1:=GU.mono (s':=D.put 0 (.cells .mut [gv,bv])) (by simp) λid o=>hf7 id (E.2.1 id o);have ht7:=ht6.mono (s':=D.put 0 (.cells .mut [gv,bv])) (by simp) λid o=>hf7 id (E.2.2 id o);generalize D.put 0 (.cells .mut [gv,bv])=s7 at *;have htcl:LV.closed.au (dm eO rs)=true:=tc λr hr=>by
    obtain⟨k,hk,rfl⟩:=List.getElem_of_mem hr;have h:=(NF k hk).set.closed;rw[gD,gE hk]at h;simp only[Option.getD_some]at h;simp[eO,LV.closed.au,LV.closed,h]
   obtain⟨rg,fg,lg⟩:=FV.row (T:=λ_=>True) (d:=0) hg7 (bI _) (λ_ _=>trivial);obtain⟨rb,fb,lb⟩:=FV.row (T:=λ_=>True) (d:=0) Z1 (bI _) (λ_ _=>trivial);obtain⟨r9,f9,l9⟩:=FV.row (T:=λ_=>True) (d:=1) ht7 htcl (λ_ _=>trivial);have hF:=FV.tup2 f9 (FV.agg2 fg fb);obtain⟨s',hz,-⟩:=rS om hF;have je:=lG;have hcn':=hcn.out;have hnmG:∀ (f:Gn->Bool) (x:Int),x∈OA ((l.filter f).map (·.name))->bU x:=λf x hx=>by
    have h1:=(List.mergeSort_perm _ _).mem_iff.1 hx;obtain⟨n,N,rfl⟩:=List.mem_map.1 h1;have:=(I.2 n (List.mem_filter.1 N).1).name;unfold bU;omega
   have iK:∀ x:List Int,(OA x).length=x.length:=λx=>List.length_mergeSort x;refine⟨.inr trivial, .cE [v9, .agg [gv,bv]],?_,_,s',hz,hF.closed,r9,rg,rb,rs,rfl,?_,?_,?_⟩
   ·simp[aW,bD,rH,Nat.reduceEqDiff,Nat.reduceAdd,reduceIte,bG,Y,h07,bG]
   ·have h1:=hE.out.1;rw[h1];show jK r9 (leave (cW _ _ _)) rs;rw[NL.out];refine⟨by rw[<- fX];exact l9,fX,?_,λk hk=>NF k om⟩;unfold leave;rw[List.length_map];have:=List.length_filter_le (λn:Gn=>!n.gone) l;omega
   ·rw[hE.out.2.1];show aP rg (OA (cR (cW _ _ _)));rw[NL.out];exact⟨by rw[iK];exact lg,by rw[iK];omega,hnmG _⟩
   ·rw[hE.out.2.2];show aP rb (OA (gd (cW _ _ _)));rw[NL.out];exact⟨by rw[iK];exact lb,by rw[iK];omega,hnmG _⟩
 ·have Rj:decide (Vb B/\t.length<=B.next.length/\Tr B.next.length t)=false:=decide_eq_false λh=>fC h.2;rw[Rj]at dy;clear Rj;have hE:Bx (kz B t a=[]/\Ap B t a=[]/\Aq B t a=[]):=⟨by simp[kz,Ap,Aq,fC]⟩;clear hv fC;repeat' (first|refine aH trivial ?_|(first|apply ah|apply af)<;>intro w)
  refine dx dy ?_;clear dy;repeat' (first|refine aH trivial ?_|(first|apply ah|apply af)<;>intro w)
  refine cC (vs:=[.aq, .aq]) wN rfl ?_;have AP:(St.empty.new (.cells .mut [.aq, .aq])).get 0=some (.cells .mut [.aq, .aq]):=by simp[bJ]
  generalize St.empty.new (.cells .mut [.aq, .aq])=s1 at *;repeat' (first|refine aH trivial ?_|(first|apply ah|apply af)<;>intro w)
  refine⟨.inr trivial, .cE [.aq, .agg [.aq, .aq]],?_, .cE [.aq, .agg [.aq, .aq]],_,bk rfl,rfl, .aq, .aq, .aq,[],rfl,?_,?_,?_⟩
  ·simp[aW,bD,St.az,bG]
  ·rw[hE.out.1];exact⟨.nil,rfl,by simp,λi hi=>absurd hi (by simp)⟩
  ·rw[hE.out.2.1];exact⟨.nil,by simp,λx hx=>by cases hx⟩
  ·rw[hE.out.2.2];exact⟨.nil,by simp,λx hx=>by cases hx⟩
end Go.Proofs.YtkbiecjdcjfhaaaGreat
end
