/- slices.Sort of numbers in memory, of none, too. -/
import Derived.Test.YtkbiecjdcjfhaaaTbase
import Derived.Test.YtkbiecjdcjfhaaaLaysn
import Derived.Test.YtkbiecjdcjfhaaaPvKM
import Derived.Test.YtkbiecjdcjfhaaaPvCall
import Derived.Test.YtkbiecjdcjfhaaaTdiv
import Derived.Test.YtkbiecjdcjfhaaaTval
set_option linter.unusedSimpArgs false
set_option linter.unusedVariables false
set_option maxRecDepth 100000
set_option maxHeartbeats 16000000
section
namespace Go.Proofs.Ytkbiecjdcjfhaaa
open Go Go.Pv Go.Sort Go.RowKit
open Classical
noncomputable def TG:Nat->Option aZ:=HT Try.prog GL []
theorem tabG:fC Try.prog GL TG []:=Ab (by decide +kernel) (by decide +kernel)
theorem Rr:eB Try.prog GL (.fn (.func 68) [] []) [.aj] (.cy []) :=
 bR (ow:=false) tabG (n:=20000) (by decide +kernel)
def By (l:List Int):List Int:=l.mergeSort λx y=>decide (x<=y)
theorem MS {s:St}{v:LV}{l:List Int}(a:dQ s v 1 (ints l) l.length) (hl:l.length<=1000000):aJ Try.prog GL (.fn (.func 68) [] []) [v] s (λr s'=>dQ s' v 1 (ints (By l)) l.length/\s'.n=s.n/\∀ id,¬ aP v id->s'.get id=s.get id):=by
 have b:(By l).length=l.length:=List.length_mergeSort l;obtain⟨i,⟨rfl,h0⟩ | ⟨j,rfl,h1,h2,h3⟩⟩:=a
 ·have c:l=[]:=List.length_eq_zero_iff.1 h0;subst c;exact ij ez Rr ⟨⟨by simp[By], .inl ⟨rfl,rfl⟩⟩,rfl,λid _=>rfl⟩
 ·refine aJ.mono (SorI.LA (rest:=[]) Try.func68 (by decide +kernel) (body:=(Try.f68.body).getD default) (by kernel_rfl) (λdD off cap zs w d f g=>AnyG.slices_Sort_int ZQ dD off cap zs w d f g) (by rw[List.append_nil];exact h3) h1 om) ?_;rintro r' s' rfl;refine⟨⟨by simp[b], .inr ⟨j,rfl,h1,by simpa using h2,by rw[St.ah,if_pos rfl,List.append_nil];rfl⟩⟩,rfl,λid h=>by rw[St.ah,if_neg λe=>h (aC.2 e)]⟩
open Go Go.Pv Go.Jo
theorem NT {r:GR}(d:aV r.2.1=true) (s:St):aJ Try.prog GL (.fn (.func 77) [] []) [.agg (grow r)] s (λx s'=>x = .bool r.1.old/\s.n<=s'.n/\∀ id,id<s.n->s'.get id=s.get id):=by
 refine bL (first:=[]) (caps:=[]) Try.func77 (by decide +kernel) c77 (Nat.le_of_ble_eq_true rfl) (aQ.mono (Q:=λo e s'=>(o = .normal∨o = .jmp .ret)/\e.at 2 = .bool r.1.old/\s.n<=s'.n/\∀ id,id<s.n->s'.get id=s.get id) ?_ λo e s' f=>by
  obtain⟨h1,h2,h3⟩:=f;exact⟨h1,_,by simp[l77,br,bO,h2],rfl,h3⟩)
 refine Cd.out (sJ λe g=>?_);have a:=oE r d;unfold l77;dsimp only[jA,qF,qK,qm,ql];refine lX ?_;refine ig hm ?_;refine eN (v:=.aH s.n 0) (s':=s.new (.cells .mut (grow r))) (by simp only[aR.run,lk,gW,g,a];try rfl) ?_;have h:(s.new (.cells .mut (grow r))).get s.n=some (.cells .mut (grow r)):=by rw[St.az,if_pos rfl]
 have b:cU none (.aH s.n 4) (s.new (.cells .mut (grow r)))=some (.bool r.1.old):=xW h rfl;have ho:∀ id,id<s.n->(s.new (.cells .mut (grow r))).get id=s.get id:=λid j=>by rw[St.az,if_neg om]
 have i:s.n<=(s.new (.cells .mut (grow r))).n:=by simp
 generalize s.new (.cells .mut (grow r))=s1 at *;repeat' (first | refine gN @b ?_ | (refine gB @b ?_;rintro (_|_) c<;>try simp only[aG,reduceCtorEq]at c<;>try first | (exfalso;omega) | exact c.elim) | fail)
 exact⟨.inr trivial,ef,i,ho⟩
theorem Hp {v:LV}{R:List GR}{lo:Nat}{s:St}(ez:GS s lo v R) (V:R.length<=6000) :
 aJ Try.prog GL (.fn (.func 76) [] []) [v, .fn (.func 77) [] []] s (λr s'=>Sg s' r 7 (eG grow (R.filter (·.1.old))) (R.filter (·.1.old)).length/\(∀ id,aP r id->s.n<=id)/\s.n<=s'.n/\∀ id,id<s.n->s'.get id=s.get id):=by
 have X:=ez.sg.len;refine bL (first:=[]) (caps:=[]) Try.func76 (by decide +kernel) c76 (Nat.le_of_ble_eq_true rfl) (aQ.mono (Q:=λo e s'=>(o = .normal∨o = .jmp .ret)/\∃ r,e.at 4=r/\Sg s' r 7 (eG grow (R.filter (·.1.old))) (R.filter (·.1.old)).length/\(∀ id,aP r id->s.n<=id)/\s.n<=s'.n/\∀ id,id<s.n->s'.get id=s.get id) ?_ λo e s' D=>by
  obtain⟨h1,lv,h2,h3⟩:=D;exact⟨h1,_,by simp[l76,br,bO,h2],h3⟩)
 refine Cd.out (pF λe e0 y=>?_);unfold l76;dsimp only[jA,jG,qN,qS,qI,qA,qB,qC,qm];repeat' (first | refine gN @X ?_ | (refine gB @X ?_;rintro (_|_) a<;>try simp only[aG,reduceCtorEq]at a<;>try first | (exfalso;omega) | exact a.elim) | fail)
 refine aS (λm e s1=>∃ (k:Nat) (lv:LV),m=R.length - k/\k<=R.length/\(Sg s1 lv 7 (eG grow ((R.take k).filter (·.1.old))) ((R.take k).filter (·.1.old)).length/\(∀ id,aP lv id->s.n<=id)/\s.n<=s1.n/\∀ id,id<s.n->s1.get id=s.get id)/\e.at 1 = .fn (.func 77) [] []/\e.at 5=lv/\e.at 8=v/\e.at 9 = .int .i64 (R.length:Int)/\e.at 10 = .int .i64 (k:Int)) _
  ⟨0, .aj,rfl,by omega,⟨Sg.nil _ _,λid h=>absurd h (bq id),Nat.le_refl _,λ_ _=>rfl⟩,ef,ef,ef,ef,by simp only[lk,Nat.reduceEqDiff,if_false,if_true];rfl⟩ ?_
 clear e0 y;clear e;rintro m e s1 ⟨k,lv,rfl,hk,⟨d,i,q,ho⟩,y,e5,Y,Z,fX⟩;by_cases E:k<R.length
 ·have uB:(k:Int)<(R.length:Int):=by omega
  have p:IntKind.i64.wrap ((k:Int)+1)=((k+1:Nat):Int):=by rw[wrap_i64 _ om om];rfl
  obtain⟨J,rest,Fg,hJ,sF⟩:=ez.sg.pos om;subst Fg;have oP:R[k]? = some (R.getD k default):=by rw[gD,gE E];rfl
  have fO:=take_one R default (k:=k) E;have A1:R.getD k default∈R:=bE E;have uX:=List.length_filter_le (λr:GR=>r.1.old) (R.take k);rw[List.length_take]at uX;generalize R.getD k default=r at *;have F:=(ez.lJ _ A1).sl.cell;obtain⟨g,c,M⟩:=r;simp only at F;have z:cU (some 7) (.aH J (k*7)) s1=some (.agg [.int .i64 g.name, .int .i64 g.par,c, .aI M, .bool g.old, .bool g.bX, .bool g.gone]):=nB bS oP ((ho J hJ).trans sF);have uS:=Bx.mk fO;have H:=Bx.mk (And.intro d (And.intro i (And.intro q ho)));clear fO d i q ho;repeat' (first | refine gN (And.intro @cG @z) ?_ | (refine gB (And.intro @cG @z) ?_;intro I a;cases I<;>(try simp only[aG]at a)<;>(try first | omega | exact a.elim)) | fail)
  obtain⟨d,i,q,ho⟩:=H.out;have cm:=λid=>d.lt (id:=id);have t:=d.mono (s':=(s1.new (.cells .mut [.int .i64 0, .int .i64 0, .aj, .bN, .bool false, .bool false, .bool false])).put s1.n (.cells .mut [.int .i64 g.name, .int .i64 g.par,c, .aI M, .bool g.old, .bool g.bX, .bool g.gone])) (by simp) λid f=>by
   have:=cm id f;rw[St.ah,if_neg om,St.az,if_neg om]
  have eY:∀ id,id<s.n->((s1.new (.cells .mut [.int .i64 0, .int .i64 0, .aj, .bN, .bool false, .bool false, .bool false])).put s1.n (.cells .mut [.int .i64 g.name, .int .i64 g.par,c, .aI M, .bool g.old, .bool g.bX, .bool g.gone])).get id=s.get id:=λid f=>by rw[St.ah,if_neg om,St.az,if_neg om];exact ho id f
  have u:((s1.new (.cells .mut [.int .i64 0, .int .i64 0, .aj, .bN, .bool false, .bool false, .bool false])).put s1.n (.cells .mut [.int .i64 g.name, .int .i64 g.par,c, .aI M, .bool g.old, .bool g.bX, .bool g.gone])).get s1.n=some (.cells .mut [.int .i64 g.name, .int .i64 g.par,c, .aI M, .bool g.old, .bool g.bX, .bool g.gone]):=by rw[St.ah,if_pos rfl]
  have gH:((s1.new (.cells .mut [.int .i64 0, .int .i64 0, .aj, .bN, .bool false, .bool false, .bool false])).put s1.n (.cells .mut [.int .i64 g.name, .int .i64 g.par,c, .aI M, .bool g.old, .bool g.bX, .bool g.gone])).n=s1.n+1:=rfl;generalize (s1.new (.cells .mut [.int .i64 0, .int .i64 0, .aj, .bN, .bool false, .bool false, .bool false])).put s1.n (.cells .mut [.int .i64 g.name, .int .i64 g.par,c, .aI M, .bool g.old, .bool g.bX, .bool g.gone])=s2 at *;clear d ho;repeat' (first | refine gN @u ?_ | (refine gB @u ?_;rintro (_|_) a<;>try simp only[aG,reduceCtorEq]at a<;>try first | (exfalso;omega) | exact a.elim) | fail)
  refine bH wN (fv:=.fn (.func 77) [] []) (vs:=[.agg (grow (g,c,M))]) ef (by simp only[List.map,lk,Nat.reduceEqDiff,if_false,if_true,List.map];try rfl) (aJ.mono (NT (r:=(g,c,M)) F _) λx L D=>⟨trivial,?_⟩);obtain⟨rfl,nG,A⟩:=D;simp only[Env.au];have B:=t.mono nG λid f=>A id (t.lt f);have w:=(A s1.n om).trans u;have hlt3:=λid=>t.lt (id:=id);cases b:g.old with
  | true=>
    have C:Bx ((R.take (k+1)).filter (·.1.old)=(R.take k).filter (·.1.old)++[(g,c,M)]):=⟨by rw[uS.out,List.filter_append];simp[b]⟩;rw[b]at w;generalize (R.take k).filter (·.1.old)=N at *;clear t u z;repeat' (first | refine gN @w ?_ | (refine gB @w ?_;rintro (_|_) a<;>try simp only[aG,reduceCtorEq]at a<;>try first | (exfalso;omega) | exact a.elim) | fail)
    refine uJ (n:=N.length) (aU:=7) (xv:=.agg (grow (g,c,M))) (yv:=lv) (vs:=grow (g,c,M)) (cells:=eG grow N) (by simp only[lk,Nat.reduceEqDiff,if_false,if_true];simp[grow,b]) (oE _ F) rfl rfl (qi.aI (M:=M) (by simp[grow])) ef B (by decide) om (λO j a1 a2 a3 a4 a5 a6=>?_);have T:Bx (Sg O (.aD j 0 ((R.take (k+1)).filter (·.1.old)).length 7) 7 (eG grow ((R.take (k+1)).filter (·.1.old))) ((R.take (k+1)).filter (·.1.old)).length/\(∀ id,aP (.aD j 0 ((R.take (k+1)).filter (·.1.old)).length 7) id->s.n<=id)/\s.n<=O.n/\∀ id,id<s.n->O.get id=s.get id):=⟨by
     rw[C.out,List.length_append,List.length_singleton,kV,wI];refine⟨a4,λid U=>by have:=aC.1 U;omega,by omega,λid f=>?_⟩;rw[a6 id om (λU=>by have:=i id U;omega),A id om];exact eY id f⟩
    have uA:((R.take (k+1)).filter (·.1.old)).length=N.length+1:=by rw[C.out,List.length_append,List.length_singleton]
    clear a3 a4 a6 B w;repeat' (first | refine gN @p ?_ | (refine gB @p ?_;rintro (_|_) a<;>try simp only[aG,reduceCtorEq]at a<;>try first | (exfalso;omega) | exact a.elim) | fail)
    rw[<- uA];refine⟨R.length - (k+1),by omega,k+1,_,rfl,by omega,T.out,?_⟩;simp only[lk,Nat.reduceEqDiff,if_false,if_true,p,y,Y,Z,and_self]
  | false=>
    have C:Bx ((R.take (k+1)).filter (·.1.old)=(R.take k).filter (·.1.old)):=⟨by rw[uS.out,List.filter_append];simp[b]⟩;have T:Bx (Sg L lv 7 (eG grow ((R.take (k+1)).filter (·.1.old))) ((R.take (k+1)).filter (·.1.old)).length/\(∀ id,aP lv id->s.n<=id)/\s.n<=L.n/\∀ id,id<s.n->L.get id=s.get id):=⟨by
     rw[C.out];exact⟨B,i,by omega,λid f=>(A id om).trans (eY id f)⟩⟩
    clear t u z B w;repeat' (first | refine gN @p ?_ | (refine gB @p ?_;rintro (_|_) a<;>try simp only[aG,reduceCtorEq]at a<;>try first | (exfalso;omega) | exact a.elim) | fail)
    refine⟨R.length - (k+1),by omega,k+1,lv,rfl,by omega,T.out,?_⟩;simp only[lk,Nat.reduceEqDiff,if_false,if_true,p,y,e5,Y,Z,and_self]
 ·have lU:k=R.length:=by omega
  subst lU;rw[List.take_length]at d;have H:=Bx.mk (And.intro d (And.intro i (And.intro q ho)));clear d i q ho;repeat' (first | refine gN trivial ?_ | (refine gB trivial ?_;intro I a;cases I<;>(try simp only[aG]at a)<;>(try first | omega | exact a.elim)) | fail)
  exact⟨.inr trivial,lv,ef,H.out⟩
theorem NK {used:List Int}{f:Nat}(a:∀ x∈used,x<=(f:Int)) {n:Int}(b:0<=n):fS used (f - n.toNat) n=if n+1∈used then fS used (f - (n+1).toNat) (n+1) else n+1:=by
 by_cases h:n+1∈used
 ·have:=a _ h;rw[if_pos h,show f - n.toNat=(f - (n+1).toNat)+1 by omega];show (if n+1∈used then fS used (f - (n+1).toNat) (n+1) else n+1)=_;rw[if_pos h]
 ·rw[if_neg h];cases h2:f - n.toNat with
  | zero=>rfl
  | succ k=>
    show (if n+1∈used then fS used k (n+1) else n+1)=_;rw[if_neg h]
theorem BQ {used:List Int} : ∀ (k:Nat) {n:Int},n<fS used k n/\fS used k n<=n+k+1
 | 0,n=>by show n<n+1/\n+1<=n+0+1;omega
 | k+1,n=>by
   have h:=BQ (used:=used) k (n:=n+1);show n<(if n+1∈used then fS used k (n+1) else n+1)/\(if n+1∈used then fS used k (n+1) else n+1)<=n+(k+1:Nat)+1;split<;>omega
theorem Sc {v:LV}{d:List GR}{lo:Nat}{h:St}{f:Nat}(ez:GS h lo v d) (hlen:d.length<=6000) (pW:lo<=h.n) (hf:f<=6000) (hu:∀ x∈fD (d.map (·.1)),x<=(f:Int)) :
 aJ Try.prog GL (.fn (.func 65) [] []) [v] h (λr s'=>∃ R,GS s' lo v R/\R.map (·.1)=named f (d.map (·.1))/\h.n<=s'.n/\∀ id,id<lo->s'.get id=h.get id):=by
 have lS:=ez.sg.len;refine bL (first:=[]) (caps:=[]) Try.func65 (by decide +kernel) c65 (Nat.le_of_ble_eq_true rfl) (aQ.mono (Q:=λo e s'=>(o = .normal∨o = .jmp .ret)/\∃ R,GS s' lo v R/\R.map (·.1)=named f (d.map (·.1))/\h.n<=s'.n/\∀ id,id<lo->s'.get id=h.get id) ?_ λo e s' hh=>by
  obtain⟨h1,h2⟩:=hh;exact⟨h1, .cy [],by simp[l65,br],h2⟩)
 refine Cd.out (sJ λe y=>?_);unfold l65;dsimp only[jA,jC,jG,qM,qL,qN,qF,qS,qI,qA,qB,qC,qP,qm,ql];repeat' (first | refine gN trivial ?_ | (refine gB trivial ?_;rintro (_|_) a<;>try simp only[aG,reduceCtorEq]at a<;>try first | (exfalso;omega) | exact a.elim) | fail)
 refine ju wN rfl ?_;have O:=ez.mono (s':=h.new (.map [])) (by simp) λid u=>by rw[St.az,if_neg om]
 have hMa:(h.new (.map [])).get h.n=some (.map []):=by rw[St.az,if_pos rfl]
 have Fl:(h.new (.map [])).n=h.n+1:=rfl;have hoa:∀ id,id<lo->(h.new (.map [])).get id=h.get id:=λid u=>by rw[St.az,if_neg om]
 generalize h.new (.map [])=s1 at *;have kJ:=Hp O hlen;repeat' (first | refine gN trivial ?_ | (refine gB trivial ?_;rintro (_|_) a<;>try simp only[aG,reduceCtorEq]at a<;>try first | (exfalso;omega) | exact a.elim) | fail)
 refine bH wN (fv:=.fn (.func 76) [] []) (vs:=[v, .fn (.func 77) [] []]) ef (by simp only[List.map,lk,Nat.reduceEqDiff,if_false,if_true,List.map]) (aJ.mono kJ λr s2 hh=>⟨trivial,?_⟩);obtain⟨z,hU,jY,oQ⟩:=hh;simp only[Env.au];have fN:=z.len;have Vt:fD (d.map (·.1))=(d.filter (·.1.old)).map (·.1.name):=by
  unfold fD;rw[List.filter_map,List.map_map];rfl
 have hLl:=List.length_filter_le (λr:GR=>r.1.old) d;have hLs:∀ r∈d.filter (·.1.old),aM r.2.1 r.1.set:=λr hr=>ez.lJ r (List.mem_filter.1 hr).1;rw[Vt]at hu;generalize hLE:d.filter (·.1.old)=L at *;have hGb:=O.mono jY oQ;have hMb:=(oQ h.n om).trans hMa;have hob:∀ id,id<lo->s2.get id=h.get id:=λid u=>(oQ id om).trans (hoa id u);have p:=Bx.mk (And.intro hGb hob);clear kJ O hMa hoa hGb hob oQ;repeat' (first | refine gN @fN ?_ | (refine gB @fN ?_;rintro (_|_) a<;>try simp only[aG,reduceCtorEq]at a<;>try first | (exfalso;omega) | exact a.elim) | fail)
 refine aS (λm e s=>∃ k:Nat,m=L.length - k/\k<=L.length/\s2.n<=s.n/\Sg s r 7 (eG grow L) L.length/\GS s lo v d/\dV s h.n ((L.take k).map (·.1.name))/\(∀ id,id<lo->s.get id=h.get id)/\e.at 0=v/\e.at 2 = .aI h.n/\e.at 9=r/\e.at 10 = .int .i64 (L.length:Int)/\e.at 11 = .int .i64 (k:Int)) _
  ⟨0,rfl,by omega,by omega,z,p.out.1,dV.nil hMb,p.out.2,ef,ef,ef,ef,by simp only[lk,Nat.reduceEqDiff,if_false,if_true];rfl⟩ ?_
 clear y z p hMb;clear e;rintro m e s ⟨k,rfl,hk,nG,z,q,w,ho,y,C,e9,fX,nW⟩;by_cases fB:k<L.length
 ·have uB:(k:Int)<(L.length:Int):=by omega
  have fJ:IntKind.i64.wrap ((k:Int)+1)=((k+1:Nat):Int):=by rw[wrap_i64 _ om om];rfl
  obtain⟨J,rest,Fg,hJ,T⟩:=z.pos om;subst Fg;have hJlo:=hU J (aC.2 rfl);have U:L[k]? = some (L.getD k default):=by rw[gD,gE fB];rfl
  have fO:=take_one L default (k:=k) fB;have A1:L.getD k default∈L:=bE fB;generalize L.getD k default=r at *;have tK:=(hLs _ A1).sl.cell;obtain⟨g,Z,M⟩:=r;simp only at tK;have dS:cU (some 7) (.aH J (k*7)) s=some (.agg [.int .i64 g.name, .int .i64 g.par,Z, .aI M, .bool g.old, .bool g.bX, .bool g.gone]):=nB bS U T;have uS:Bx ((L.take (k+1)).map (·.1.name)=(L.take k).map (·.1.name)++[g.name]):=⟨by rw[fO,List.map_append];rfl⟩;have V:=Bx.mk (And.intro z (And.intro q (And.intro w ho)));clear fO z q w ho;repeat' (first | refine gN (And.intro @cG @dS) ?_ | (refine gB (And.intro @cG @dS) ?_;intro A a;cases A<;>(try simp only[aG]at a)<;>(try first | omega | exact a.elim)) | fail)
  obtain⟨z,q,w,ho⟩:=V.out;have nI:∀ id,id<s.n->((s.new (.cells .mut [.int .i64 0, .int .i64 0, .aj, .bN, .bool false, .bool false, .bool false])).put s.n (.cells .mut [.int .i64 g.name, .int .i64 g.par,Z, .aI M, .bool g.old, .bool g.bX, .bool g.gone])).get id=s.get id:=λid u=>by rw[St.ah,if_neg om,St.az,if_neg om]
  have eE:((s.new (.cells .mut [.int .i64 0, .int .i64 0, .aj, .bN, .bool false, .bool false, .bool false])).put s.n (.cells .mut [.int .i64 g.name, .int .i64 g.par,Z, .aI M, .bool g.old, .bool g.bX, .bool g.gone])).get s.n=some (.cells .mut [.int .i64 g.name, .int .i64 g.par,Z, .aI M, .bool g.old, .bool g.bX, .bool g.gone]):=by rw[St.ah,if_pos rfl]
  have gH:((s.new (.cells .mut [.int .i64 0, .int .i64 0, .aj, .bN, .bool false, .bool false, .bool false])).put s.n (.cells .mut [.int .i64 g.name, .int .i64 g.par,Z, .aI M, .bool g.old, .bool g.bX, .bool g.gone])).n=s.n+1:=rfl;generalize (s.new (.cells .mut [.int .i64 0, .int .i64 0, .aj, .bN, .bool false, .bool false, .bool false])).put s.n (.cells .mut [.int .i64 g.name, .int .i64 g.par,Z, .aI M, .bool g.old, .bool g.bX, .bool g.gone])=s3 at *;repeat' (first | refine gN @eE ?_ | (refine gB @eE ?_;rintro (_|_) a<;>try simp only[aG,reduceCtorEq]at a<;>try first | (exfalso;omega) | exact a.elim) | fail)
  have Vw:=w.keep (nI h.n om);refine n7 Vw ef ef ef (λs4 qv hm4 X=>?_);have N:∀ id,id<s.n->id≠h.n->s4.get id=s.get id:=λid h1 h2=>(X id h2).trans (nI id h1);have t:=Bx.mk (And.intro (z.mono (s':=s4) om λid u=>by
   have:=aC.1 u;exact N id om om) (And.intro (q.frame (s':=s4) om (λid u=>N id (q.sg.lt u) λe=>by have:=ez.sg.lt (e ▸ u);omega) λr hr=>N _ (q.Bi r hr) λe=>by have:=ez.Bi r hr;omega) (And.intro hm4 λid (u:id<lo)=>(N id om om).trans (ho id u))))
  clear z q w ho V Vw hm4 N X nI dS T;repeat' (first | refine gN @fJ ?_ | (refine gB @fJ ?_;rintro (_|_) a<;>try simp only[aG,reduceCtorEq]at a<;>try first | (exfalso;omega) | exact a.elim) | fail)
  refine⟨L.length - (k+1),by omega,k+1,rfl,by omega,by omega,t.out.1,t.out.2.1,by rw[uS.out];exact t.out.2.2.1,t.out.2.2.2,?_⟩;simp only[lk,Nat.reduceEqDiff,if_false,if_true,fJ,y,C,e9,fX,and_self]
 ·have lU:k=L.length:=by omega
  subst lU;rw[List.take_length]at w;have V:=Bx.mk (And.intro q (And.intro w ho));clear z q w ho;repeat' (first | refine gN @lS ?_ | (refine gB @lS ?_;intro A a;cases A<;>(try simp only[aG]at a)<;>(try first | omega | exact a.elim)) | fail)
  have hl:(d.map (·.1)).length=d.length:=List.length_map ..;generalize U9:d.map (·.1)=l at *;generalize hUE:L.map (·.1.name)=used at *;unfold named;rw[Vt];refine aS (λm e s=>∃ (i:Nat) (R:List GR) (n:Int) (done:List Gn),m=d.length - i/\i<=d.length/\s2.n<=s.n/\GS s lo v R/\R.map (·.1)=done++l.drop i/\done.length=i/\fF used f 0 l=done++fF used f n (l.drop i)/\0<=n/\n<=f+i/\dV s h.n used/\(∀ id,id<lo->s.get id=h.get id)/\e.at 0=v/\e.at 2 = .aI h.n/\e.at 5 = .int .i64 n/\e.at 20=v/\e.at 21 = .int .i64 (d.length:Int)/\e.at 22 = .int .i64 (i:Int)) _
   ⟨0,d,0,[],rfl,by omega,nG,V.out.1,by rw[U9];simp,rfl,by simp,by omega,by omega,V.out.2.1,V.out.2.2,ef,ef,ef,ef,ef,by simp only[lk,Nat.reduceEqDiff,if_false,if_true];rfl⟩ ?_
  clear y C e9 fX nW V nG fB a hk;clear e s;rintro m e s ⟨i,R,n,done,rfl,hi,nG,q,zh,tR,D,wq,hnf,w,ho,y,C,e5,TU,zP,uE⟩;by_cases cM:i<d.length
  ·have tP:(i:Int)<(d.length:Int):=by omega
   have E:IntKind.i64.wrap ((i:Int)+1)=((i+1:Nat):Int):=by rw[wrap_i64 _ om om];rfl
   have G5:R.length=d.length:=by
    have:=congrArg List.length zh;rw[List.length_map,List.length_append,tR,List.length_drop]at this;omega
   have OQ:i<R.length:=by omega
   have OO:i<l.length:=by omega
   obtain⟨J,rest,Fg,hJ,T⟩:=q.sg.pos om;rw[G5]at Fg;subst Fg;have hJ0:J<h.n:=ez.sg.lt (aC.2 rfl);have U:R[i]? = some (R.getD i default):=by rw[gD,gE OQ];rfl
   have KU:l[i]? = some (l.getD i default):=by rw[gD,gE OO];rfl
   have mN:(R.getD i default).1=l.getD i default:=by
    have h1:=congrArg (λL=>L[i]?) zh;simp only[List.getElem?_map]at h1;rw[U,List.getElem?_append_right om,tR,Nat.sub_self,List.getElem?_drop,Nat.add_zero,KU]at h1;exact Option.some.inj h1
   rw[<- mN]at KU;have Y:l.drop i=(R.getD i default).1::l.drop (i+1):=by
    obtain⟨h1,h2⟩:=List.getElem?_eq_some_iff.1 KU;rw[List.drop_eq_getElem_cons h1,h2]
   clear mN;generalize R.getD i default=r at *;obtain⟨g,tl⟩:=r;simp only at KU Y;have B:=eL bS U (k:=4) (v:=.bool g.old) rfl T;have F:=eL bS U (k:=6) (v:=.bool g.gone) rfl T;have p:=Bx.mk (And.intro q (And.intro w ho));have H:=Bx.mk (And.intro zh (And.intro D Y));clear q w ho zh D Y;by_cases I:(g.old || g.gone)=true
   ·have t:Bx (R.map (·.1)=(done++[g])++l.drop (i+1)/\(done++[g]).length=i+1/\fF used f 0 l=(done++[g])++fF used f n (l.drop (i+1))):=⟨by
     refine⟨by rw[H.out.1,H.out.2.2];simp,by simp[tR],?_⟩;rw[H.out.2.1,H.out.2.2];show done++(if g.old || g.gone then g::fF used f n (l.drop (i+1)) else _)=_;rw[if_pos I];simp⟩
    clear H;cases j:g.old with
    | true=>
      rw[j]at B;repeat' (first | refine gN (And.intro @cG (And.intro @B (And.intro @F @E))) ?_ | (refine gB (And.intro @cG (And.intro @B (And.intro @F @E))) ?_;intro A a;cases A<;>(try simp only[aG]at a)<;>(try first | omega | exact a.elim)) | fail)
      refine⟨d.length - (i+1),by omega,i+1,R,n,_,rfl,by omega,nG,p.out.1,t.out.1,t.out.2.1,t.out.2.2,wq,by omega,p.out.2.1,p.out.2.2,?_⟩;simp only[lk,Nat.reduceEqDiff,if_false,if_true,E,y,C,e5,TU,zP,uE,and_self]
    | false=>
      have j9:g.gone=true:=by rw[j]at I;simpa using I
      rw[j]at B;rw[j9]at F;repeat' (first | refine gN (And.intro @cG (And.intro @B (And.intro @F @E))) ?_ | (refine gB (And.intro @cG (And.intro @B (And.intro @F @E))) ?_;intro A a;cases A<;>(try simp only[aG]at a)<;>(try first | omega | exact a.elim)) | fail)
      refine⟨d.length - (i+1),by omega,i+1,R,n,_,rfl,by omega,nG,p.out.1,t.out.1,t.out.2.1,t.out.2.2,wq,by omega,p.out.2.1,p.out.2.2,?_⟩;simp only[lk,Nat.reduceEqDiff,if_false,if_true,E,y,C,e5,TU,zP,uE,and_self]
   ·have j:g.old=false:=by simp at I;exact I.1
    have j9:g.gone=false:=by simp at I;exact I.2
    rw[j]at B;rw[j9]at F;have nF:=BQ (used:=used) (f - n.toNat) (n:=n);have t:Bx ((done++[{ g with name:=fS used (f - n.toNat) n }]).length=i+1/\fF used f 0 l=(done++[{ g with name:=fS used (f - n.toNat) n }])++fF used f (fS used (f - n.toNat) n) (l.drop (i+1))):=⟨by
     refine⟨by simp[tR],?_⟩;rw[H.out.2.1,H.out.2.2];show done++(if g.old || g.gone then _ else { g with name:=fS used (f - n.toNat) n } :: fF used f (fS used (f - n.toNat) n) (l.drop (i+1)))=_;rw[if_neg I];simp⟩
    generalize Yu:fS used (f - n.toNat) n=x at *;have lR:Bx (x<=f+i+1/\0<x):=⟨by omega⟩;clear I j j9;repeat' (first | refine gN (And.intro @cG (And.intro @B @F)) ?_ | (refine gB (And.intro @cG (And.intro @B @F)) ?_;intro A a;cases A<;>(try simp only[aG]at a)<;>(try first | omega | exact a.elim)) | fail)
    refine aS (λm e s'=>∃ n':Int,m=(f+1+i) - n'.toNat/\s'=s/\0<=n'/\n'<x/\fS used (f - n'.toNat) n'=x/\e.at 0 = .aD J 0 d.length 7/\e.at 2 = .aI h.n/\e.at 5 = .int .i64 n'/\e.at 6 = .int .i64 (i:Int)/\e.at 20 = .aD J 0 d.length 7/\e.at 21 = .int .i64 (d.length:Int)/\e.at 22 = .int .i64 (i:Int)) _
     ⟨n,rfl,rfl,wq,by omega,Yu,ef,ef,ef,ef,ef,ef,ef⟩ ?_
    clear y C e5 TU zP uE nF B F Yu;clear e;rintro m e s' ⟨n,rfl,QF,wq,nF,Yu,y,C,e5,e6,TU,zP,uE⟩;subst s';have On:IntKind.i64.wrap (n+1)=n+1:=wrap_i64 _ om (by have:=lR.out;omega);have iZ:=NK hu wq;rw[Yu]at iZ;repeat' (first | refine gN @On ?_ | (refine gB @On ?_;rintro (_|_) a<;>try simp only[aG,reduceCtorEq]at a<;>try first | (exfalso;omega) | exact a.elim) | fail)
    rw[On];refine kR p.out.2.1 wN ef ef (λb hb=>?_);cases b with
    | true=>
      have jZ:=of_decide_eq_true hb;rw[if_pos jZ]at iZ;have jY:=BQ (used:=used) (f - (n+1).toNat) (n:=n+1);rw[<- iZ]at jY;have hq:=lR.out;clear hb jZ Yu;repeat' (first | refine gN trivial ?_ | (refine gB trivial ?_;rintro (_|_) a<;>try simp only[aG,reduceCtorEq]at a<;>try first | (exfalso;omega) | exact a.elim) | fail)
      refine⟨(f+1+i) - (n+1).toNat,by omega,n+1,rfl,trivial,by omega,by omega,iZ.symm,?_⟩;simp only[lk,dJ,Nat.reduceEqDiff,if_false,if_true,y,C,e6,TU,zP,uE,and_self]
    | false=>
      have jZ:=of_decide_eq_false hb;rw[if_neg jZ]at iZ;clear hb jZ Yu;repeat' (first | refine gN @cG ?_ | (refine gB @cG ?_;rintro (_|_) a<;>try simp only[aG,reduceCtorEq]at a<;>try first | (exfalso;omega) | exact a.elim) | fail)
      refine gb bS (i:=i) (k:=0) (c:=(g,tl)) (c':=({ g with name:=x },tl)) (rest:=rest) (v:=.int .i64 x) ef rfl ef rfl T U (by decide) rfl (λs4 qv N X=>?_);have XJ:=p.out.1.flag G5 U (g':={ g with name:=x }) rfl rfl N qv X;have hJl:=XJ.low.1 J (aC.2 rfl);have zb:=Bx.mk (And.intro XJ (And.intro (p.out.2.1.keep (X h.n om)) λid (u:id<lo)=>(X id om).trans (p.out.2.2 id u)));have hEq2:Bx ((R.set i ({ g with name:=x },tl)).map (·.1)=(done++[{ g with name:=x }])++l.drop (i+1)):=⟨by
       rw[List.map_set,H.out.1,drop_set done l i _ g tR KU]⟩
      have hq:=lR.out;clear XJ N X p T H;repeat' (first | refine gN @E ?_ | (refine gB @E ?_;rintro (_|_) a<;>try simp only[aG,reduceCtorEq]at a<;>try first | (exfalso;omega) | exact a.elim) | fail)
      refine⟨d.length - (i+1),by omega,i+1,_,x,_,rfl,by omega,by omega,zb.out.1,hEq2.out,t.out.1,t.out.2,by omega,by omega,zb.out.2.1,zb.out.2.2,?_⟩;simp only[lk,dJ,Nat.reduceEqDiff,if_false,if_true,E,iZ,y,C,TU,zP,and_self]
  ·have dc:i=d.length:=by omega
   subst dc;rw[<- hl,List.drop_length,List.append_nil]at zh;rw[<- hl,List.drop_length]at D;have p:=Bx.mk (And.intro q ho);clear q ho w;repeat' (first | refine gN trivial ?_ | (refine gB trivial ?_;intro A a;cases A<;>(try simp only[aG]at a)<;>(try first | omega | exact a.elim)) | fail)
   exact⟨.inl trivial,R,p.out.1,by rw[zh,D];simp[fF],by omega,p.out.2⟩
def lq (E:List (Int × LV)) (seen:List Nat):List Int:=seen.map λa=>(E.getD a default).1
theorem D5 (E:List (Int × LV)) (seen:List Nat) (a:Nat):lq E (seen++[a])=lq E seen++[(E.getD a default).1]:=by simp[lq]
theorem B1 {E:List (Int × LV)}(g:(E.map (·.1)).Nodup):∀ {seen:List Nat},seen.Nodup->(∀ a∈seen,a<E.length)->(lq E seen).Nodup:=by
 intro seen i hs;unfold lq;rw[List.nodup_iff_pairwise_ne,List.pairwise_map];refine List.Pairwise.imp_of_mem (R:=λa b=>a≠b) (fun {a b} j k m n=>m ?_) (List.nodup_iff_pairwise_ne.1 i);have c:=hs a j;have d:=hs b k;have h1:(E.map (·.1))[a]'(by rw[List.length_map];exact c)=(E.map (·.1))[b]'(by rw[List.length_map];exact d):=by
  simpa[gD,c,d] using n
 have f:=List.pairwise_iff_getElem.1 g;rcases Nat.lt_trichotomy a b with h | h | h
 ·exact absurd h1 (f a b (by rw[List.length_map];exact c) (by rw[List.length_map];exact d) h)
 ·exact h
 ·exact absurd h1.symm (f b a (by rw[List.length_map];exact d) (by rw[List.length_map];exact c) h)
theorem N6 {E:List (Int × LV)}{M b:Nat}(V:(E.map (·.1)).Nodup) (y:LV) (s:St) (X:s.get b=some (.cells .mut [.aI M])) (I:List Int->St->Prop) (hc:aV y=true) (h0:I [] s) (A:∀ d s1,I d s1->s1.get M=some (.map (mG cV E)))
 (Y:∀ d s1 s2,I d s1->s.n<=s1.n->s1.n<=s2.n->(∀ i,i≠s.n->i<s1.n->s2.get i=s1.get i)->I d s2)
 (z:∀ d x s1,d.length<E.length->x ∉ d->I d s1->s.n<s1.n->aJ Try.prog GL y [.int .i64 x] s1 (λr s2=>s1.n<=s2.n/\s2.get s.n=s1.get s.n/\r = .bool true/\I (d++[x]) s2)) :
 aJ Try.prog GL (.fn (.func 79) [] [.aH b 0]) [y] s (λ_ s'=>s.n<=s'.n/\∃ d,d.Nodup/\(∀ x,x∈d↔x∈E.map (·.1))/\I d s'):=by
 refine bL (first:=[]) (caps:=[.aH b 0]) Try.func79 (by decide +kernel) c79 (Nat.le_of_ble_eq_true rfl) (aQ.mono (Q:=λo e s'=>(o = .normal∨o = .jmp .ret)/\s.n<=s'.n/\∃ d,d.Nodup/\(∀ x,x∈d↔x∈E.map (·.1))/\I d s') ?_ λo e s' B=>by
  obtain⟨h1,h2⟩:=B;exact⟨h1, .cy [],by simp[l79,br],h2⟩)
 refine Cd.out (pF λe C e1=>?_);unfold l79;dsimp only[jA,qm,ql];have q:=A [] s h0;have t:=Bx.mk h0;clear h0;repeat' (first | refine gN @X ?_ | (refine gB @X ?_;rintro (_|_) f<;>try simp only[aG,reduceCtorEq]at f<;>try first | (exfalso;omega) | exact f.elim) | fail)
 refine DB (n:=s.n) (M:=M) rfl ef q ?_;repeat' (first | refine gN trivial ?_ | (refine gB trivial ?_;rintro (_|_) f<;>try simp only[aG,reduceCtorEq]at f<;>try first | (exfalso;omega) | exact f.elim) | fail)
 refine aS (λm e s1=>∃ seen:List Nat,m=E.length - seen.length/\seen.Nodup/\(∀ a∈seen,a<E.length)/\s.n<s1.n/\I (lq E seen) s1/\s1.get s.n=some (.iter (some M) (mG cV E).length seen (mG cV E).length)/\e.at 0=y/\e.at 5 = .aH s.n 0) _
  ⟨[],rfl,List.nodup_nil,λa g=>absurd g (by simp),by simp,Y [] s _ t.out (Nat.le_refl _) (by simp) λi D _=>by rw[St.az,if_neg D],by rw[St.az,if_pos rfl],ef,ef⟩ ?_
 clear C e1 t q;clear e;rintro m e s1 ⟨seen,rfl,Z,u,gH,F,Y8,C,e5⟩;have XM:=A _ _ F;have H:=Bx.mk F;clear F;refine lX ?_;refine ig hm ?_;refine Ii (M:=M) (it:=s.n) (seen:=seen) ef Y8 XM (by
  cases seen with
  | nil=>exact .inl rfl
  | cons a l=>right;have:=u a (by simp);rw[eS];omega) (λa g Fl=>?_) (λbY=>?_)
 ·rw[eS]at g;have J:E[a]? = some (E.getD a default):=by rw[gD,gE g];rfl
  have gL:=IB cV J;have Ei:=De V u g Fl;have L:(seen++[a]).Nodup:=List.nodup_append.2 ⟨Z,by simp,λx hx y z e=>by rw[List.mem_singleton]at z;subst z;exact Fl (e ▸ hx)⟩;have N:∀ x∈seen++[a],x<E.length:=λx hx=>by
   rcases List.mem_append.1 hx with hx | hx
   ·exact u x hx
   ·rw[List.mem_singleton.1 hx];exact g
  have fZ:seen.length<E.length:=by
   have:=BA (n:=E.length) L N;rw[List.length_append,List.length_singleton]at this;omega
  have O:(s1.put s.n (.iter (some M) (mG cV E).length (seen++[a]) (mG cV E).length)).get s.n=some (.iter (some M) (mG cV E).length (seen++[a]) (mG cV E).length):=by rw[St.ah,if_pos rfl]
  have p:=Y _ s1 (s1.put s.n (.iter (some M) (mG cV E).length (seen++[a]) (mG cV E).length)) H.out om (by simp) λi D _=>by rw[St.ah,if_neg D]
  have h:=A _ _ p;have jY:(s1.put s.n (.iter (some M) (mG cV E).length (seen++[a]) (mG cV E).length)).n=s1.n:=rfl;generalize s1.put s.n (.iter (some M) (mG cV E).length (seen++[a]) (mG cV E).length)=s2 at *;have R:=Bx.mk (And.intro p (And.intro L N));clear p H Y8 XM L N;repeat' (first | refine gN trivial ?_ | (refine gB trivial ?_;rintro (_|_) f<;>try simp only[aG,reduceCtorEq]at f<;>try first | (exfalso;omega) | exact f.elim) | fail)
  refine DC (M:=M) (i:=a) (last:=(mG cV E).length) ef O h rfl (by rw[eS];exact g) ?_;rw[gL];have T:=D5 E seen a;have v:(E.getD a default).1 ∉ lq E seen:=Ei;generalize (E.getD a default).1=x at *;unfold cV;have U:=z (lq E seen) x s2 (by unfold lq;rw[List.length_map];exact fZ) v R.out.1 om;rw[<- T]at U;repeat' (first | refine gN trivial ?_ | (refine gB trivial ?_;rintro (_|_) f<;>try simp only[aG,reduceCtorEq]at f<;>try first | (exfalso;omega) | exact f.elim) | fail)
  refine bH wN (fv:=y) (vs:=[.int .i64 x]) ef (by simp only[List.map,lk,Nat.reduceEqDiff,if_false,if_true,List.map]) (aJ.mono U λr s3 B=>⟨trivial,?_⟩);obtain⟨nG,CV,rfl,w⟩:=B;simp only[Env.au];have j:=CV.trans O;have fh:=Bx.mk (And.intro w j);clear U w j CV O h;repeat' (first | refine gN trivial ?_ | (refine gB trivial ?_;rintro (_|_) f<;>try simp only[aG,reduceCtorEq]at f<;>try first | (exfalso;omega) | exact f.elim) | fail)
  refine⟨E.length - (seen++[a]).length,by rw[List.length_append,List.length_singleton];omega,seen++[a],rfl,R.out.2.1,R.out.2.2,by omega,fh.out.1,fh.out.2,?_⟩;simp only[lk,dJ,Nat.reduceEqDiff,if_false,C,e5,and_self]
 ·have Pf:∀ a,a<E.length->a∈seen:=λa g=>bY a (by rw[eS];exact g) (by rw[eS];exact g);repeat' (first | refine gN trivial ?_ | (refine gB trivial ?_;rintro (_|_) f<;>try simp only[aG,reduceCtorEq]at f<;>try first | (exfalso;omega) | exact f.elim) | fail)
  refine⟨.inl trivial,by omega,lq E seen,B1 V Z u,λx=>?_,H.out⟩;have:=Ah (c:=λ_=>true) (K:=E.map (·.1)) (λk=>Iff.rfl) u Pf x;unfold pL at this;simpa[lq] using this
abbrev C1:bp:=.region [{ dst:=some 5,op:=.mv (.t 7) }]
abbrev E8:bp:=.block 1 (.region [{ dst:=some 8,op:=.load none (.t 2) },{ dst:=some 9,op:=.mv (.t 5) },{ dst:=some 10,op:=.bt 1 1 [.int .i64 0] [(0,1, .t 9)] },{ dst:=some 11,op:=.append 1 8 (.t 8) (.t 10) },{ dst:=none,op:=.store 1 (.t 2) (.t 11) }])
theorem LG {E:List (Int × LV)}{M b:Nat}(R:(E.map (·.1)).Nodup) (I:E.length<=6000) (s:St) (T:s.get b=some (.cells .mut [.aI M])) (U:s.get M=some (.map (mG cV E))) (D:b<s.n/\M<s.n) :
 aJ Try.prog GL (.fn (.func 84) [] []) [.aj, .fn (.func 79) [] [.aH b 0]] s (λr s'=>s.n<=s'.n/\(∀ id,id<s.n->s'.get id=s.get id)/\∃ a,a.Nodup/\(∀ x,x∈a↔x∈E.map (·.1))/\dQ s' r 1 (ints a) a.length/\(a=[]->r = .aj)/\∀ id,aP r id->s.n<=id):=by
 refine bL (first:=[]) (caps:=[]) Try.func84 (by decide +kernel) c84 (Nat.le_of_ble_eq_true rfl) (aQ.mono (Q:=λo e s'=>(o = .normal∨o = .jmp .ret)/\s.n<=s'.n/\(∀ id,id<s.n->s'.get id=s.get id)/\∃ a,a.Nodup/\(∀ x,x∈a↔x∈E.map (·.1))/\dQ s' (e.at 4) 1 (ints a) a.length/\(a=[]->e.at 4 = .aj)/\∀ id,aP (e.at 4) id->s.n<=id) ?_ λo e s' V=>by
  obtain⟨h1,h2⟩:=V;exact⟨h1,_,by simp[l84,br,bO],h2⟩)
 refine Cd.out (pF λe X e1=>?_);unfold l84;dsimp only[jA,jG,qm,ql];refine lX ?_;refine ig hm ?_;refine eN (v:=.aH s.n 0) (s':=s.new (.cells .mut [.aj])) (by simp only[aR.run,lk,UD,gW,X];try rfl) ?_;repeat' (first | refine gN trivial ?_ | (refine gB trivial ?_;rintro (_|_) g<;>try simp only[aG,reduceCtorEq]at g<;>try first | (exfalso;omega) | exact g.elim) | fail)
 refine Dv (yv:=.fn (.func 79) [] [.aH b 0]) ef ?_;have e2:Env.at (((Tr.set e 2 (LV.aH s.n 0)).set 4 LV.aj).set 6 (LV.fn (.func 79) [] [LV.aH b 0])) 2 = .aH s.n 0:=by simp only[lk,Nat.reduceEqDiff,if_false,if_true]
 generalize (((Tr.set e 2 (LV.aH s.n 0)).set 4 LV.aj).set 6 (LV.fn (.func 79) [] [LV.aH b 0]))=d at *;rw[St.dZ];refine aJ.mono (N6 (M:=M) (b:=b) R (.qp (s.n+1)) ((s.new (.cells .mut [.aj])).new (.loop .ready none d [7] C1 E8)) (by rw[St.az,if_neg (by simp;omega),St.az,if_neg om];exact T)
  (λa st=>st.get (s.n+1)=some (.loop .ready none d [7] C1 E8)/\s.n+2<=st.n/\(∀ id,id<s.n->st.get id=s.get id)/\a.length<=E.length/\∃ v,st.get s.n=some (.cells .mut [v])/\dQ st v 1 (ints a) a.length/\(a=[]->v = .aj)/\∀ id,aP v id->s.n+2<id) rfl ?_ ?_ ?_ ?_) ?_
 ·refine⟨by rw[St.az,if_pos (by simp)],by simp,λid i=>by rw[St.az,if_neg (by simp;omega),St.az,if_neg om],by simp, .aj,by rw[St.az,if_neg (by simp),St.az,if_pos rfl],dQ.nil _ _,λ_=>rfl,λid c=>absurd c (bq id)⟩
 ·rintro a st ⟨-,-,h1,-⟩;rw[h1 M D.2];exact U
 ·rintro a st LO ⟨h1,h2,h3,q,v,w,k,h6,f⟩ - F y;simp only[St.dZ]at y;exact⟨(y _ om om).trans h1,by omega,λid i=>(y id om om).trans (h3 id i),q,v,(y _ om om).trans w,k.mono F λid c=>y id (by have:=f id c;omega) (k.lt c),h6,f⟩
 ·rintro a x st fB Y ⟨h1,h2,h3,q,v,w,k,h6,f⟩ F;simp only[St.dZ]at F ⊢;refine Dq h1 rfl λH=>?_;show Cd Try.prog GL true H C1 (Tr.set d 7 (.int .i64 x)) st _;have Z:=k.cell;have t:=Bx.mk (And.intro k (And.intro h6 (And.intro f (And.intro h3 h1))));clear k h6 f h3 h1;repeat' (first | refine gN trivial ?_ | (refine gB trivial ?_;rintro (_|_) g<;>try simp only[aG,reduceCtorEq]at g<;>try first | (exfalso;omega) | exact g.elim) | fail)
  refine⟨t.out.2.2.2.2,?_⟩;have A:(st.put (s.n+1) (.loop .busy none d [7] C1 E8)).get s.n=some (.cells .mut [v]):=by rw[St.ah,if_neg om];exact w
  have J:(st.put (s.n+1) (.loop .busy none d [7] C1 E8)).get (s.n+1)=some (.loop .busy none d [7] C1 E8):=by rw[St.ah,if_pos rfl]
  have z:=t.out.1.mono (s':=st.put (s.n+1) (.loop .busy none d [7] C1 E8)) (by simp) λid c=>by
   have:=t.out.2.2.1 id c;rw[St.ah,if_neg om]
  have u:∀ id,id≠s.n+1->(st.put (s.n+1) (.loop .busy none d [7] C1 E8)).get id=st.get id:=λid i=>by rw[St.ah,if_neg i]
  have gH:(st.put (s.n+1) (.loop .busy none d [7] C1 E8)).n=st.n:=rfl;generalize st.put (s.n+1) (.loop .busy none d [7] C1 E8)=s1 at *;have f:=t.out.2.2.1;have h3:=t.out.2.2.2.1;repeat' (first | refine gN @A ?_ | (refine gB @A ?_;rintro (_|_) g<;>try simp only[aG,reduceCtorEq]at g<;>try first | (exfalso;omega) | exact g.elim) | fail)
  refine mF (n:=a.length) (aU:=1) (xv:=.int .i64 x) (yv:=v) (vs:=[.int .i64 x]) (cells:=ints a) ef rfl rfl rfl rfl ef z (by decide) om (λB j a1 a4 a5 a6=>?_);have m:B.get s.n=some (.cells .mut [v]):=by rw[a6 _ om λc=>by have:=f _ c;omega];exact A
  have p:B.get (s.n+1)=some (.loop .busy none d [7] C1 E8):=by rw[a6 _ om λc=>by have:=f _ c;omega];exact J
  have L:B.get (s.n+2)=st.get (s.n+2):=by rw[a6 _ om λc=>by have:=f _ c;omega];exact u _ om
  have N:∀ id,id<s.n->B.get id=s.get id:=λid i=>by
   rw[a6 _ om λc=>by have:=f _ c;omega,u _ om];exact h3 id i
  have C:=Bx.mk (And.intro a4 (And.intro p (And.intro L N)));clear a4 a6 p L N z A J u f h3 t;repeat' (first | refine gN @m ?_ | (refine gB @m ?_;rintro (_|_) g<;>try simp only[aG,reduceCtorEq]at g<;>try first | (exfalso;omega) | exact g.elim) | fail)
  refine⟨.busy,none,d,[7],C1,E8,by rw[St.ah,if_neg om];exact C.out.2.1,by simp;omega,?_,rfl,by rw[St.ah,if_pos rfl],by simp;omega,λid i=>?_,by rw[List.length_append,List.length_singleton];omega, .aD j 0 (a.length+1) 1,?_,?_,λh=>absurd h (by simp),λid c=>?_⟩
  ·rw[St.ah,if_neg om,St.ah,if_neg om];exact C.out.2.2.1
  ·rw[St.ah,if_neg om,St.ah,if_neg om];exact C.out.2.2.2 id i
  ·rw[St.ah,if_neg om,St.ah,if_pos rfl]
  ·have hi:ints (a++[x])=ints a++[.int .i64 x]:=by simp[ints]
   rw[hi,List.length_append,List.length_singleton];exact C.out.1.mono (by simp) λid c=>by
    have:=aC.1 c;rw[St.ah,if_neg om,St.ah,if_neg om]
  ·have:=aC.1 c;omega
 ·rintro r s' ⟨hn,a,gK,cJ,h1,h2,h3,q,v,w,k,h6,f⟩;refine⟨.ready,none,d,[7],C1,E8,h1,by simp,?_⟩;simp only[CK,zi];have O:(s'.put (s.n+1) (.loop .exhausted none d [7] C1 E8)).get s.n=some (.cells .mut [v]):=by rw[St.ah,if_neg om];exact w
  have z:=k.mono (s':=s'.put (s.n+1) (.loop .exhausted none d [7] C1 E8)) (by simp) λid c=>by
   have:=f id c;rw[St.ah,if_neg om]
  have u:∀ id,id<s.n->(s'.put (s.n+1) (.loop .exhausted none d [7] C1 E8)).get id=s.get id:=λid i=>by rw[St.ah,if_neg om];exact h3 id i
  have gH:(s'.put (s.n+1) (.loop .exhausted none d [7] C1 E8)).n=s'.n:=rfl;generalize s'.put (s.n+1) (.loop .exhausted none d [7] C1 E8)=s2 at *;have hB:=Bx.mk (And.intro z (And.intro h6 (And.intro f u)));have Z:=k.cell;clear k h6 f z u h3;repeat' (first | refine gN @O ?_ | (refine gB @O ?_;rintro (_|_) g<;>try simp only[aG,reduceCtorEq]at g<;>try first | (exfalso;omega) | exact g.elim) | fail)
  refine⟨.inr trivial,by omega,hB.out.2.2.2,a,gK,cJ,?_⟩;simp only[lk,Nat.reduceEqDiff,if_false,if_true];exact⟨hB.out.1,hB.out.2.1,λid c=>by have:=hB.out.2.2.1 id c;omega⟩
theorem SB {M:Nat}(s:St):aJ Try.prog GL (.fn (.func 67) [] []) [.aI M] s (λr s'=>r = .fn (.func 79) [] [.aH s.n 0]/\s'=s.new (.cells .mut [.aI M])):=by
 refine bL (first:=[]) (caps:=[]) Try.func67 (by decide +kernel) c67 (Nat.le_of_ble_eq_true rfl) (aQ.mono (Q:=λo e s'=>(o = .normal∨o = .jmp .ret)/\e.at 2 = .fn (.func 79) [] [.aH s.n 0]/\s'=s.new (.cells .mut [.aI M])) ?_ λo e s' b=>by
  obtain⟨h1,h2,h3⟩:=b;exact⟨h1,_,by simp[l67,br,bO,h2],rfl,h3⟩)
 refine Cd.out (sJ λe c=>?_);unfold l67;dsimp only[jA,qm];refine lX ?_;refine ig hm ?_;refine eN (v:=.aH s.n 0) (s':=s.new (.cells .mut [.aI M])) (by simp only[aR.run,lk,UD,gW,c];try rfl) ?_;repeat' (first | refine gN trivial ?_ | (refine gB trivial ?_;rintro (_|_) a<;>try simp only[aG,reduceCtorEq]at a<;>try first | (exfalso;omega) | exact a.elim) | fail)
 exact⟨.inr trivial,ef,trivial⟩
theorem VT {d K:List Int}(h1:d.Nodup) (h2:K.Pairwise (· < ·)) (h3:∀ x,x∈d↔x∈K):By d=K:=by
 have f:(By d).Perm d:=List.mergeSort_perm _ _;have hs:(By d).Pairwise (· <= ·):=by
  have:=List.pairwise_mergeSort (le:=λa b:Int=>decide (a<=b)) (λa b c h1 h2=>by simp at *;omega) (λa b=>by simp;omega) d;exact this.imp λh=>by simpa using h
 have g:(By d).Nodup:=f.nodup_iff.2 h1;refine IJ ((hs.and (List.nodup_iff_pairwise_ne.1 g)).imp λh=>by omega) h2 λx=>?_;rw[f.mem_iff];exact h3 x
theorem JA {M b:Nat}{K:List Int}(s:St) (v:K.Pairwise (· < ·)) (w:K.length<=6000) (y:s.get b=some (.cells .mut [.aI M])) (I:dV s M K) (k:b<s.n/\M<s.n) :
 aJ Try.prog GL (.fn (.func 66) [] []) [.fn (.func 79) [] [.aH b 0]] s (λr s'=>s.n<=s'.n/\(∀ id,id<s.n->s'.get id=s.get id)/\dQ s' r 1 (ints K) K.length/\∀ id,aP r id->s.n<=id):=by
 obtain⟨E,z,f,J,i⟩:=I;have m:K.Nodup:=v.imp λh=>by omega
 have L:E.length=K.length:=by
  have:=((List.perm_ext_iff_of_nodup f m).2 i).length_eq;rwa[List.length_map]at this
 have p:=LG f om s y z k;have A:aJ Try.prog GL (.fn (.func 78) [] []) [.fn (.func 79) [] [.aH b 0]] s (λr s'=>s.n<=s'.n/\(∀ id,id<s.n->s'.get id=s.get id)/\∃ a,a.Nodup/\(∀ x,x∈a↔x∈E.map (·.1))/\dQ s' r 1 (ints a) a.length/\(a=[]->r = .aj)/\∀ id,aP r id->s.n<=id):=by
  refine bL (first:=[]) (caps:=[]) Try.func78 (by decide +kernel) c78 (Nat.le_of_ble_eq_true rfl) (aQ.mono (Q:=λo e s'=>(o = .normal∨o = .jmp .ret)/\∃ r,e.at 2=r/\s.n<=s'.n/\(∀ id,id<s.n->s'.get id=s.get id)/\∃ a,a.Nodup/\(∀ x,x∈a↔x∈E.map (·.1))/\dQ s' r 1 (ints a) a.length/\(a=[]->r = .aj)/\∀ id,aP r id->s.n<=id) ?_ λo e s' d=>by
   obtain⟨h1,r,h2,h3⟩:=d;exact⟨h1,_,by simp[l78,br,bO,h2],h3⟩)
  refine Cd.out (sJ λe N=>?_);unfold l78;dsimp only[jA,qm];repeat' (first | refine gN trivial ?_ | (refine gB trivial ?_;rintro (_|_) c<;>try simp only[aG,reduceCtorEq]at c<;>try first | (exfalso;omega) | exact c.elim) | fail)
  refine bH wN (fv:=.fn (.func 84) [] []) (vs:=[.aj, .fn (.func 79) [] [.aH b 0]]) ef (by simp only[List.map,lk,Nat.reduceEqDiff,if_false,if_true,List.map]) (aJ.mono p λr O d=>⟨trivial,?_⟩);simp only[Env.au];have hB:=Bx.mk d;clear d p;repeat' (first | refine gN trivial ?_ | (refine gB trivial ?_;rintro (_|_) c<;>try simp only[aG,reduceCtorEq]at c<;>try first | (exfalso;omega) | exact c.elim) | fail)
  exact⟨.inr trivial,r,ef,hB.out⟩
 refine bL (first:=[]) (caps:=[]) Try.func66 (by decide +kernel) c66 (Nat.le_of_ble_eq_true rfl) (aQ.mono (Q:=λo e s'=>(o = .normal∨o = .jmp .ret)/\∃ r,e.at 2=r/\s.n<=s'.n/\(∀ id,id<s.n->s'.get id=s.get id)/\dQ s' r 1 (ints K) K.length/\∀ id,aP r id->s.n<=id) ?_ λo e s' d=>by
  obtain⟨h1,r,h2,h3⟩:=d;exact⟨h1,_,by simp[l66,br,bO,h2],h3⟩)
 refine Cd.out (sJ λe N=>?_);unfold l66;dsimp only[jA,qG,qm];repeat' (first | refine gN trivial ?_ | (refine gB trivial ?_;rintro (_|_) c<;>try simp only[aG,reduceCtorEq]at c<;>try first | (exfalso;omega) | exact c.elim) | fail)
 refine bH wN (fv:=.fn (.func 78) [] []) (vs:=[.fn (.func 79) [] [.aH b 0]]) ef (by simp only[List.map,lk,Nat.reduceEqDiff,if_false,if_true,List.map]) (aJ.mono A λr O d=>⟨trivial,?_⟩);simp only[Env.au];obtain⟨X,B,a,C,D,q,Y,j⟩:=d;have Z:a.length=E.length:=by
  have:=((List.perm_ext_iff_of_nodup C f).2 D).length_eq;rwa[List.length_map]at this
 have R:=VT C v λx=>(D x).trans (i x);have t:=MS q om;rw[R]at t;have rL:=q.cell;have g:=Bx.mk (And.intro B j);clear p A z y B j q;repeat' (first | refine gN trivial ?_ | (refine gB trivial ?_;rintro (_|_) c<;>try simp only[aG,reduceCtorEq]at c<;>try first | (exfalso;omega) | exact c.elim) | fail)
 refine bH wN (fv:=.fn (.func 68) [] []) (vs:=[r]) ef (by simp only[List.map,lk,Nat.reduceEqDiff,if_false,if_true,List.map]) (aJ.mono t λx u d=>⟨trivial,?_⟩);simp only[Env.au];obtain⟨F,nG,H⟩:=d;have T:Bx (s.n<=u.n/\(∀ id,id<s.n->u.get id=s.get id)/\dQ u r 1 (ints K) K.length/\∀ id,aP r id->s.n<=id):=⟨by
  refine⟨by omega,λid U=>?_,?_,g.out.2⟩
  ·rw[H id λV=>by have:=g.out.2 id V;omega];exact g.out.1 id U
  ·rw[show K.length=a.length by omega];exact F⟩
 clear t F H;repeat' (first | refine gN trivial ?_ | (refine gB trivial ?_;rintro (_|_) c<;>try simp only[aG,reduceCtorEq]at c<;>try first | (exfalso;omega) | exact c.elim) | fail)
 exact⟨.inr trivial,r,ef,T.out⟩
theorem Be {α a:Type}{f:List a->α->a}{l:List α}{x:a}(h:x∈cg f l):∃ d,∃ m∈l,x=f d m:=by
 have key:∀ (l:List α) (d:List a),x∈l.foldl (λd n=>d++[f d n]) d->x∈d∨∃ b,∃ m∈l,x=f b m:=by
  intro l;induction l with
  | nil=>intro d h;exact .inl h
  | cons y l ih=>
    intro d h;rcases ih _ h with h | ⟨b,m,hm,e⟩
    ·rcases List.mem_append.1 h with h | h
     ·exact .inl h
     ·exact .inr ⟨d,y,by simp,by simpa using h⟩
    ·exact .inr ⟨b,m,by simp[hm],e⟩
 rcases key l [] h with h | h
 ·cases h
 ·exact h
theorem se {l a:List Gn}(h:a.map (·.par)=l.map (·.par)) (c:jo l):jo a:=by
 intro i b;have hl:a.length=l.length:=by
  have:=congrArg List.length h;simpa using this
 have h1:=congrArg (λL=>L[i]?) h;simp only[List.getElem?_map]at h1;rw[gE b,gE om]at h1;simp only[Option.map_some,Option.some.injEq]at h1;have:=c i om;rw[gD,gE om]at this;rw[gD,gE b];simp only[Option.getD_some] at *;rw[h1];exact this
structure Gp (c:Nat) (n:Gn):Prop where
  inc:n.kept.Pairwise (· < ·)
  len:n.kept.length<=3000
  jd:∀ x∈n.kept,0<=x/\x<3000
  name:0<=n.name/\n.name<=c
  par : -1<=n.par
theorem Jd {N:Nat}{mv:Nat->Mv}{t:List Nd}(c:Tr N t) (g:N<=3000):jo (grown N mv t)/\∀ n∈grown N mv t,Gp (2*N) n:=by
 have d:∀ i,i<t.length->-1<=(t.getD i default).par/\(t.getD i default).par<(i:Int):=λi a=>by
  have h:=c.1 i a;have hl:(t.take i).length=i:=by rw[List.length_take];omega
  rcases Nat.eq_zero_or_pos i with e | e
  ·have:=h.root (by omega);omega
  ·have:=h.par (by omega);omega
 refine⟨λi a=>?_,λn b=>?_⟩
 ·unfold grown at a ⊢;rw[List.length_append,List.length_map,List.length_mapIdx]at a;rw[gD];by_cases h:i<t.length
  ·rw[List.getElem?_append_left (by rw[List.length_map];exact h),List.getElem?_map,gE h];have:=(d i h).2;rw[gD,gE h]at this;exact this
  ·rw[List.getElem?_append_right (by rw[List.length_map];omega),List.length_map,List.getElem?_mapIdx,gE om];show ((i - t.length:Nat):Int)<(i:Int);omega
 ·unfold grown at b;rcases List.mem_append.1 b with b | b
  ·obtain⟨m,hm,rfl⟩:=List.mem_map.1 b;obtain⟨i,a,rfl⟩:=List.getElem_of_mem hm;have h:=c.1 i a;have f:=d i a;rw[gD,gE a]at h f;have h1:=h.name;refine⟨qR _ _,?_,λx hx=>?_,?_,f.1⟩
   ·have:=uk N (CN mv t[i].set λ_=>true);show (canon N _).length<=3000;omega
   ·have:=(gf.1 hx).2;omega
   ·show 0<=t[i].name/\t[i].name<=((2*N:Nat):Int);simp only[Option.getD_some]at h1;omega
  ·obtain⟨k,j,rfl⟩:=List.mem_mapIdx.1 b;refine⟨qR _ _,?_,λx hx=>?_,⟨Int.le_refl 0,?_⟩,?_⟩
   ·have:=uk N (CN mv t[k].set λm=>m.2);show (canon N _).length<=3000;omega
   ·have:=(gf.1 hx).2;omega
   ·show (0:Int)<=((2*N:Nat):Int);omega
   ·show (-1:Int)<=(k:Int);omega
theorem ES {c:Nat}{l:List Gn}(h:jo l/\∀ n∈l,Gp c n):jo (aK l)/\∀ n∈aK l,Gp c n:=by
 refine⟨se (Bc l) h.1,λn f=>?_⟩;obtain⟨d,m,hm,rfl⟩:=Be f;have a:=h.2 m hm;have b:(fe d m).Pairwise (· < ·)/\(fe d m).length<=3000/\∀ x∈fe d m,0<=x/\x<3000:=by
  unfold fe;split
  ·exact⟨a.inc.filter _,Nat.le_trans (List.length_filter_le _ _) a.len,λx hx=>a.jd x (List.mem_filter.1 hx).1⟩
  ·exact⟨a.inc,a.len,a.jd⟩
 exact⟨b.1,b.2.1,b.2.2,a.name,a.par⟩
theorem yJ {c:Nat}{l:List Gn}(h:jo l/\∀ n∈l,Gp c n):jo (aL l)/\∀ n∈aL l,Gp c n:=by
 refine⟨se (Lj l l) h.1,λn b=>?_⟩;obtain⟨d,m,hm,rfl⟩:=Be b;have a:=h.2 m hm;exact⟨a.inc,a.len,a.jd,a.name,a.par⟩
theorem xO (used:List Int) (f:Nat):∀ (l:List Gn) (n:Int),(fF used f n l).map (·.par)=l.map (·.par)
 | [],n=>rfl
 | x::l,n=>by
   unfold fF;split
   ·rw[List.map_cons,List.map_cons,xO used f l]
   ·rw[List.map_cons,List.map_cons,xO used f l]
theorem Gf {used:List Int}{f:Nat} : ∀ {l:List Gn}{n:Int}{c:Nat},0<=n->n<=c->f<=c->(∀ x∈l,Gp c x)->∀ x∈fF used f n l,Gp (c+l.length) x
 | [],n,c,h0,h1,h2,hl,x,hx=>by cases hx
 | y :: l, n, c, h0, h1, h2, hl, x, hx => by
   have d:∀ {a b:Nat}{z:Gn},a<=b->Gp a z->Gp b z:=λj h=>⟨h.inc,h.len,h.jd,by have:=h.name;omega,h.par⟩;unfold fF at hx;split at hx
   ·rcases List.mem_cons.1 hx with rfl | hx
    ·exact d om (hl _ (by simp))
    ·exact d (by simp) (Gf h0 h1 h2 (λz i=>hl z (by simp[i])) x hx)
   ·have k:=BQ (used:=used) (f - n.toNat) (n:=n);rcases List.mem_cons.1 hx with rfl | hx
    ·have g:=hl y (by simp);exact⟨g.inc,g.len,g.jd,⟨by show 0<=fS used (f - n.toNat) n;omega,by show fS used (f - n.toNat) n<=((c+(y::l).length:Nat):Int);rw[List.length_cons];omega⟩,g.par⟩
    ·have:=Gf (c:=c+1) om om om (λz i=>d om (hl z (by simp[i]))) x hx;exact d (by rw[List.length_cons];omega) this
theorem Ix {f:Nat}{l:List Gn}(h:jo l/\∀ n∈l,Gp f n):jo (named f l)/\∀ n∈named f l,Gp (f+l.length) n:=
 ⟨se (xO _ _ _ _) h.1,Gf (Int.le_refl 0) om (Nat.le_refl _) h.2⟩
theorem VM {f:Nat}{l:List Gn}(h:∀ n∈l,Gp f n):∀ x∈fD l,x<=(f:Int):=λx hx=>by
 unfold fD at hx;obtain⟨n,a,rfl⟩:=List.mem_map.1 hx;exact (h n (List.mem_filter.1 a).1).name.2
theorem pS (used:List Int) (f:Nat):∀ (l:List Gn) (n:Int),(fF used f n l).length=l.length
 | [],n=>rfl
 | x::l,n=>by
   unfold fF;split<;>simp[pS used f l]
theorem TI {s:St}{a b:Int}{c:LV}{K:List Int}(h:dQ s c 1 (ints K) K.length):∃ Rl s',fU [.int .i64 a, .int .i64 b,c] s=([.int .i64 a, .int .i64 b,Rl],s')/\Sl Rl (ints K) K.length/\s'.n=s.n/\∀ id,¬ aP c id->s'.get id=s.get id:=by
 obtain⟨k,⟨rfl,h0⟩ | ⟨j,rfl,h1,h2,h3⟩⟩:=h
 ·have d:K=[]:=List.length_eq_zero_iff.1 h0;subst d;exact⟨.aj,s,ji rfl, .nil,rfl,λ_ _=>rfl⟩
 ·refine⟨.aB (ints K) K.length,s.put j (.cells .app (ints K)),?_, .aB _ _,rfl,λid f=>by rw[St.ah,if_neg λe=>f (aC.2 e)]⟩;have g:cK aY (.aD j 0 K.length 1) s=some (.aB (ints K) K.length,s.put j (.cells .app (ints K))):=kU (len:=K.length) 38 h3 (by simp) (bD _);have i:∀ (x:Int) (s:St),cK aY (.int .i64 x) s=some (.int .i64 x,s):=λx s=>bf rfl;simp only[fU,cK.cu,i,g,Option.bind_eq_bind,Option.bind_some]
section
variable {P:Program}{G:bG}{K:Env->St->Prop}{l:List bx}{e:Env}{s s1:St}{fl PN:Bool}
theorem V5 {T:Nat->Prop}{a b bytes aU n:Nat}{x y:bz}{z:List LV}{xv yv:LV}{vs vs' cells:List LV}(hx:x.ev e=xv) (A:cells? xv=some vs) (o:z.length=aU) (c:vs.length=aU) (p:fU vs (s.new (.cells .mut vs))=(vs',s1)) (d:vs'.length=aU) (J:s1.n=s.n+1) (f:∀ id,id<s.n->¬ T id->s1.get id=s.get id) (q:y.ev (Tr.set e a (.aD s.n 0 1 aU))=yv) (hs:dQ s yv aU cells n) (B:∀ id,aP yv id->¬ T id) (C:bytes<=2 ^ 10) (hl:n<=2 ^ 20)
 (h:∀ s' j,s.n<=j->dQ s' (.aD j 0 (n+1) aU) aU (cells++vs') (n+1)->s.n<=s'.n->(∀ id,id<s.n->¬ aP yv id->¬ T id->s'.get id=s.get id)->W P G K l (Tr.set (Tr.set e a (.aD s.n 0 1 aU)) b (.aD j 0 (n+1) aU)) s') :
 W P G K (⟨some a, .bt aU 1 z [(0,(aU,x))],none,[],fl⟩::⟨some b, .append aU bytes y (.t a),none,[],PN⟩::l) e s:=by
 have D:aW (rep 1 z) (bB e [(0,(aU,x))])=some vs:=by
  have h1:splice z 0 vs=vs:=rX (vs:=vs) (z:=z) (by rw[o,c]);have E:rep 1 z=z:=by simp[rep]
  simp only[bB,List.map,E,aW,hx,A,c];rw[if_pos ⟨trivial,by rw[o];omega⟩,h1]
 refine cX (v:=.aD s.n 0 1 aU) (s':=s.new (.cells .mut vs)) rfl (by simp only[aR.run,D,Option.bind_eq_bind,Option.bind_some]) (by cases fl<;>rfl) trivial ?_;simp only[Env.au];have r:rowOf (s.new (.cells .mut vs)) aU 1 (.aD s.n 0 1 aU)=some vs:=by
  simp only[rowOf,St.az,if_true,Nat.le_refl,Nat.one_mul,Nat.zero_add,c,and_self,List.drop_zero];rw[List.take_of_length_le om]
 have u:(n+1)*bytes<=big:=by
  have:(n+1)*bytes<=(2 ^ 20+1)*2 ^ 10:=Nat.mul_le_mul om C;unfold big;omega
 obtain⟨g,hs⟩:=hs;have w:(cells++vs').length=(n+1)*aU:=by rw[List.length_append,g,d,Nat.add_mul,Nat.one_mul]
 rcases hs with⟨rfl,rfl⟩ | ⟨j,rfl,h1,h2,h3⟩
 ·have F:cells=[]:=List.length_eq_zero_iff.1 (by rw[g,Nat.zero_mul]);subst F;have i:bF aU bytes .aj vs' 1 s1=some (.aD s1.n 0 1 aU,s1.new (.cells .mut vs')):=by
   simp only[bF];rw[if_neg om,if_pos ⟨by simpa using u,by rw[d];omega⟩]
  refine eO rfl q (by simp) rfl r p i ?_;refine h _ s1.n om ⟨w, .inr ⟨s1.n,rfl,by omega,by simp,by rw[St.az,if_pos rfl];rfl⟩⟩ (by simp;omega) λid k _ m=>?_;rw[St.az,if_neg om];exact f id k m
 ·have H:s1.get j=some (.cells .mut cells):=by rw[f j h2 (B j (aC.2 rfl))];exact h3
  have i:bF aU bytes (.aD j 0 n aU) vs' 1 s1=some (.aD s1.n 0 (n+1) aU,(s1.put j (.cells .ro [])).new (.cells .mut (cells++vs'))):=by
   simp only[bF,if_true,H,Nat.zero_add,g,Nat.le_refl,u,d,Nat.one_mul,and_self,List.drop_zero];rw[List.take_of_length_le om];rfl
  refine eO rfl q (by simp) rfl r p i ?_;refine h _ s1.n om ⟨w, .inr ⟨s1.n,rfl,by omega,by simp,by rw[St.az,St.dP,if_pos rfl]⟩⟩ (by simp;omega) λid k I m=>?_;have dH:id≠j:=λe=>I (aC.2 e);rw[St.az,St.dP,if_neg om,St.ah,if_neg dH];exact f id k m
end
end Go.Proofs.Ytkbiecjdcjfhaaa
end
