/- Which priority is the least that comes again and again. -/
import Derived.Test.YtkbiecjdcjfhaaaGreatQpv
import Derived.Test.YtkbiecjdcjfhaaaGreatWod
import Derived.Test.YtkbiecjdcjfhaaaGreatWoa
import Derived.Test.YtkbiecjdcjfhaaaGreatLitw
set_option linter.unusedSimpArgs false
set_option linter.unusedVariables false
set_option maxRecDepth 100000
set_option maxHeartbeats 16000000
section
namespace Go.Proofs.YtkbiecjdcjfhaaaGreat
open Go Go.Pv
open Classical
def Ch (m:Int) (r:Nat->Int):Prop:=(∀ T,∃ i,T<=i/\r i=m)/\∃ T,∀ i,T<=i->m<=r i
theorem Ch.unique {m m':Int}{r:Nat->Int}(h:Ch m r) (k:Ch m' r):m=m':=by
 obtain⟨h1,T,h2⟩:=h;obtain⟨c,U,d⟩:=k;obtain⟨i,g,e⟩:=h1 U;obtain⟨j,l,f⟩:=c T;have a:=d i g;have b:=h2 j l;omega
theorem VF {q:Nat} : ∀ {qs:List Nat}{i j:Nat},GY q qs i=some j->∃ d,j=i+d/\qs[d]? = some q:=by
 intro qs;induction qs with
 | nil=>intro i j h;cases h
 | cons x r ih=>
   intro i j h;simp only[GY]at h;split at h
   ·rename_i hx;cases h;subst hx;exact⟨0,rfl,rfl⟩
   ·obtain⟨d,h1,h2⟩:=ih h;exact⟨d+1,by omega,by simpa using h2⟩
theorem zz:∀ (l:List Int) (a:Int),l.foldl min a<=a/\(∀ x∈l,l.foldl min a<=x)/\(l.foldl min a=a∨l.foldl min a∈l):=by
 intro l;induction l with
 | nil=>intro a;exact⟨Int.le_refl _,λx hx=>absurd hx List.not_mem_nil, .inl rfl⟩
 | cons b l ih=>
   intro a;obtain⟨h1,h2,h3⟩:=ih (min a b);simp only[List.foldl_cons];refine⟨by omega,λx hx=>?_,?_⟩
   ·rcases List.mem_cons.1 hx with rfl | hx
    ·omega
    ·exact h2 x hx
   ·rcases h3 with h3 | h3
    ·rw[h3];by_cases h:a<=b
     ·exact .inl om
     ·exact .inr (by rw[show min a b=b by omega];exact List.mem_cons_self)
    ·exact .inr (List.mem_cons_of_mem _ h3)
theorem Uf {l:List Int}(h:0<l.length):(∀ x∈l,mn l<=x)/\mn l∈l:=by
 match l,h with
 | a :: l, _ =>
   obtain⟨h1,h2,h3⟩:=zz l a;have e:mn (a::l)=l.foldl min a:=by simp[mn]
   rw[e];refine⟨λx hx=>?_,?_⟩
   ·rcases List.mem_cons.1 hx with rfl | hx
    ·exact h1
    ·exact h2 x hx
   ·rcases h3 with h3 | h3
    ·rw[h3];exact List.mem_cons_self
    ·exact List.mem_cons_of_mem _ h3
def ec (dV:Nat->Nat) (q:Nat):Nat->Nat
 | 0=>q
 | k+1=>dV (ec dV q k)
theorem CU {dV:Nat->Nat}{q j p:Nat}(h:ec dV q (j+p)=ec dV q j):∀ t,ec dV q (j+t+p)=ec dV q (j+t)
 | 0=>h
 | t+1=>by
   have:=CU h t;rw[show j+(t+1)+p=(j+t+p)+1 by omega,show j+(t+1)=(j+t)+1 by omega];simp only[ec,this]
theorem ur {dV:Nat->Nat}{q j p:Nat}(h:ec dV q (j+p)=ec dV q j) (t:Nat):∀ c,ec dV q (j+t+c*p)=ec dV q (j+t)
 | 0=>by simp
 | c+1=>by
   have:=ur h t c;rw[show j+t+(c+1)*p=(j+(t+c*p))+p by rw[Nat.add_mul];omega,CU h,show j+(t+c*p)=j+t+c*p by omega,this]
theorem XK {dV:Nat->Nat}{u7:Nat->Int}{n c:Nat}(I:∀ y,y<n->dV y<n) (w:c<n):∀ (f k:Nat),k+f=n+1->((List.range k).map (ec dV c)).Nodup->(∀ i,ec dV c i<n) ->
 ∃ m,Ch m (λi=>u7 (ec dV c i))/\wv dV u7 f ((List.range k).map (ec dV c)) (ec dV c k)=decide (m.tmod 2=0):=by
 intro f;induction f with
 | zero=>
   intro k z h l;have:=HM n _ h (λx hx=>by obtain⟨i,_,rfl⟩:=List.mem_map.1 hx;exact l i);simp at this;omega
 | succ f ih=>
   intro k z h l;simp only[wv];cases o:GY (ec dV c k) ((List.range k).map (ec dV c)) 0 with
   | some j=>
     obtain⟨d,u,A⟩:=VF o;rw[Nat.zero_add]at u;subst u;have p:j<k:=by have:=(FX o).2;simpa using this
     have q:ec dV c j=ec dV c k:=by simpa[p] using A
     have e:ec dV c (j+(k - j))=ec dV c j:=by rw[show j+(k - j)=k by omega,q]
     have g:0<((((List.range k).map (ec dV c)).map u7).drop j).length:=by simp;omega
     obtain⟨B,C⟩:=Uf g;have D:∀ t,t<k - j->u7 (ec dV c (j+t))∈((((List.range k).map (ec dV c)).map u7).drop j):=λt r=>by
      refine List.mem_iff_getElem?.2 ⟨t,?_⟩;simp[show j+t<k by omega]
     refine⟨_,⟨λT=>?_,j,λi J=>?_⟩,rfl⟩
     ·obtain⟨t,r⟩:=List.mem_iff_getElem?.1 C;have K:t<k - j:=by
       have:=(List.getElem?_eq_some_iff.1 r).1;simpa using this
      have E:u7 (ec dV c (j+t))=mn ((((List.range k).map (ec dV c)).map u7).drop j):=by
       simpa[show j+t<k by omega] using r
      refine⟨j+t+T*(k - j),?_,?_⟩
      ·have:T*1<=T*(k - j):=Nat.mul_le_mul_left _ om;omega
      ·show u7 (ec dV c (j+t+T*(k - j)))=_;rw[ur e,E]
     ·have F:(i - j) % (k - j)<k - j:=Nat.mod_lt _ om;have G:i=j+(i - j) % (k - j)+(i - j) / (k - j)*(k - j):=by
       have:=Nat.div_add_mod (i - j) (k - j);rw[Nat.mul_comm]at this;omega
      show _<=u7 (ec dV c i);rw[G,ur e];exact B _ (D _ F)
   | none=>
     have v:(List.range k).map (ec dV c)++[ec dV c k]=(List.range (k+1)).map (ec dV c):=by rw[List.range_succ,List.map_append];rfl
     simp only[v];refine ih (k+1) om ?_ l;rw[<- v];exact List.nodup_append.2 ⟨h,by simp,λa s b H=>by
      rintro rfl;rcases List.mem_singleton.1 H with rfl
      exact FY o s⟩
theorem OD {st a:LV}{S L:List Int}(b:aP st S) (c:aP a L):PO 7 [.agg [st,a]] (.bool (decide (S.length<=80/\L.length<=80))):=by
 have d:(LV.agg [st,a]).closed=true:=by simp[LV.closed,LV.closed.au,b.closed,c.closed]
 have f:=b.sl.cell;have g:=c.sl.cell;refine gO (t:=2) hm Tryz.func7 br c7 bw (by simp[LV.closed.au,d]) rfl rfl ?_;refine pg λe h0=>?_;unfold l7;dsimp only[jA,jD,qL,qF,qS,qK,qO,qV,qm,ql,qR];repeat' (first|refine aV (aj @b.sl.len @c.sl.len) ?_|(first|apply ah|apply af)<;>intro h)
 all_goals (refine⟨.inr trivial,?_⟩;simp only[lk,Nat.reduceEqDiff,if_false,if_true];first | exact gK om | exact cg om)
theorem Hu {st q:LV}{S L:List Int}(o:aP st S) (m:aP q L):PO 66 [.agg [st,q]] (.bool (decide (Fm S L))):=by
 have B:(LV.agg [st,q]).closed=true:=by simp[LV.closed,LV.closed.au,o.closed,m.closed]
 have E:=o.sl.cell;have F:=m.sl.cell;refine gO (t:=2) hm Tryz.func66 br c66 bw (by simp[LV.closed.au,B]) rfl rfl ?_;refine pg λe h0=>?_;unfold l66;dsimp only[jA,jC,qL,qF,qS,qI,qA,qB,qC,qK,qO,qP,qU,qW,qT,qG,qm,ql,qR];repeat' (first|refine aV (aj @o.sl.len @m.sl.len) ?_|(first|apply ah|apply af)<;>intro g)
 all_goals first
  | (refine⟨.inr trivial,?_⟩;simp only[lk,Nat.reduceEqDiff,if_false,if_true];refine cg λh=>?_;obtain⟨a,b,c,d,f⟩:=h;omega)
  | skip
 refine aN (λn e s=>∃ i:Nat,n=S.length - i/\i<=S.length/\(∀ j,j<i->0<=S.getD j 0/\S.getD j 0<64)/\e.at 1 = .aY [st,q] 0/\e.at 3 = .int .i64 (i:Int)) _ ⟨0,rfl,by omega,λj l=>absurd l (Nat.not_lt_zero _),ef,ef⟩ ?_;have r:S.length<=60/\1<=L.length/\L.length<=40:=by omega
 clear h0 g;clear e;rintro n e s ⟨i,rfl,G,y,p,u⟩;by_cases C:i<S.length
 ·have v:(i:Int)<(S.length:Int):=by omega
  have w:=ez (i:=i) v o.len;repeat' (first|refine aV (aj @o.sl.len (aj (@cU _ _ _ o.sl) @bB)) ?_|(first|apply ah|apply af)<;>intro g)
  all_goals first
   | (exfalso;omega)
   | skip
  refine cO ff (BH (S.getD i 0)) (by first | exact wN | (apply wG;(simp only[lk,Nat.reduceEqDiff,reduceIte,p,u];(try rfl);done))) ef (λx g=>⟨by first | trivial | (simp only[dG,aK,bq.run,Env.aB,Env.cp,u6,Nat.reduceEqDiff,Nat.reduceAdd,Nat.reduceLeDiff,reduceIte,bG,iI,List.map,cu,beq_self_eq_true,reduceCtorEq,false_or,true_and,and_true,Option.some.injEq, *];done),?_⟩);simp only[Env.aB];cases x<;>simp only[decide_eq_true_eq,decide_eq_false_iff_not]at g
  ·repeat' (first|refine aV trivial ?_|(first|apply ah|apply af)<;>intro g)
   refine⟨.inr trivial,?_⟩;simp only[lk,dM,Nat.reduceEqDiff,if_false,if_true];exact cg λh=>g (h.2.2.2.1 i C)
  ·repeat' (first|refine aV trivial ?_|(first|apply ah|apply af)<;>intro g)
   refine⟨_,by omega,i+1,rfl,by omega,λj l=>?_,?_⟩
   ·rcases Nat.lt_succ_iff_lt_or_eq.1 l with h | rfl
    ·exact y j h
    ·exact g
   ·simp only[lk,dM,Nat.reduceEqDiff,if_false,if_true,w,p,u,and_self]
 ·repeat' (first|refine aV (aj @o.sl.len @m.sl.len) ?_|(first|apply ah|apply af)<;>intro g)
  all_goals first
   | (exfalso;omega)
   | skip
  refine aN (λn e s=>∃ i:Nat,n=L.length - i/\i<=L.length/\(∀ j,j<i->0<=L.getD j 0/\L.getD j 0<64)/\e.at 1 = .aY [st,q] 0/\e.at 5 = .int .i64 (i:Int)) _ ⟨0,rfl,by omega,λj l=>absurd l (Nat.not_lt_zero _),ef,ef⟩ ?_;clear p u g;clear e;rintro n e s ⟨k,rfl,H,z,p,A⟩;by_cases D:k<L.length
  ·have v:(k:Int)<(L.length:Int):=by omega
   have w:=ez (i:=k) v m.len;repeat' (first|refine aV (aj @m.sl.len (aj (@cU _ _ _ m.sl) @bB)) ?_|(first|apply ah|apply af)<;>intro g)
   all_goals first
    | (exfalso;omega)
    | skip
   refine cO ff (BH (L.getD k 0)) (by first | exact wN | (apply wG;(simp only[lk,Nat.reduceEqDiff,reduceIte,p,A];(try rfl);done))) ef (λx g=>⟨by first | trivial | (simp only[dG,aK,bq.run,Env.aB,Env.cp,u6,Nat.reduceEqDiff,Nat.reduceAdd,Nat.reduceLeDiff,reduceIte,bG,iI,List.map,cu,beq_self_eq_true,reduceCtorEq,false_or,true_and,and_true,Option.some.injEq, *];done),?_⟩);simp only[Env.aB];cases x<;>simp only[decide_eq_true_eq,decide_eq_false_iff_not]at g
   ·repeat' (first|refine aV trivial ?_|(first|apply ah|apply af)<;>intro g)
    refine⟨.inr trivial,?_⟩;simp only[lk,dM,Nat.reduceEqDiff,if_false,if_true];exact cg λh=>g (h.2.2.2.2 k D)
   ·repeat' (first|refine aV trivial ?_|(first|apply ah|apply af)<;>intro g)
    refine⟨_,by omega,k+1,rfl,by omega,λj l=>?_,?_⟩
    ·rcases Nat.lt_succ_iff_lt_or_eq.1 l with h | rfl
     ·exact z j h
     ·exact g
    ·simp only[lk,dM,Nat.reduceEqDiff,if_false,if_true,w,p,A,and_self]
  ·repeat' (first|refine aV @m.sl.len ?_|(first|apply ah|apply af)<;>intro g)
   all_goals first
    | (exfalso;omega)
    | skip
   refine⟨.inr trivial,?_⟩;simp only[lk,Nat.reduceEqDiff,if_false,if_true];exact gK ⟨r.1,r.2.1,r.2.2,λj l=>y j om,λj l=>z j om⟩
theorem Hh {st f:LV}{S L:List Int}(d:aP st S) (b:aP f L) (m:Int):PO 36 [.int .i64 m, .agg [st,f]] (.bool (decide ((∀ j,j<S.length->S.getD j 0<m)/\(∀ j,j<L.length->L.getD j 0<m)/\Fm S L))):=by
 have w:(LV.agg [st,f]).closed=true:=by simp[LV.closed,LV.closed.au,d.closed,b.closed]
 have A:=d.sl.cell;have B:=b.sl.cell;refine gO (t:=4) hm Tryz.func36 br c36 bw (by simp[LV.closed.au,w];rfl) rfl rfl ?_;refine mH λe h0 h1=>?_;unfold l36;dsimp only[jA,qN,qF,qS,qI,qA,qB,qC,qK,qO,qG,qm,ql,qR];repeat' (first|refine aV (aj @d.sl.len @b.sl.len) ?_|(first|apply ah|apply af)<;>intro a)
 refine aN (λn e s=>∃ i:Nat,n=S.length - i/\i<=S.length/\(∀ j,j<i->S.getD j 0<m)/\e.at 0 = .int .i64 m/\e.at 3 = .aY [st,f] 0/\e.at 5 = .int .i64 (i:Int)) _ ⟨0,rfl,by omega,λj c=>absurd c (Nat.not_lt_zero _),ef,ef,ef⟩ ?_;clear h0 h1;clear e;rintro n e s ⟨i,rfl,C,q,g,l,r⟩;by_cases x:i<S.length
 ·have o:(i:Int)<(S.length:Int):=by omega
  have p:=ez (i:=i) o d.len;repeat' (first|refine aV (aj @d.sl.len (aj (@cU _ _ _ d.sl) @bB)) ?_|(first|apply ah|apply af)<;>intro a)
  all_goals first
   | (exfalso;omega)
   | (refine⟨.inr trivial,?_⟩;simp only[lk,Nat.reduceEqDiff,if_false,if_true];exact cg λh=>by have:=h.1 i x;omega)
   | (refine⟨_,by omega,i+1,rfl,by omega,λj c=>?_,?_⟩
      ·rcases Nat.lt_succ_iff_lt_or_eq.1 c with h | rfl
       ·exact q j h
       ·omega
      ·simp only[lk,Nat.reduceEqDiff,if_false,if_true,p,g,l,r,and_self])
 ·repeat' (first|refine aV (aj @d.sl.len @b.sl.len) ?_|(first|apply ah|apply af)<;>intro a)
  all_goals first
   | (exfalso;omega)
   | skip
  refine aN (λn e s=>∃ i:Nat,n=L.length - i/\i<=L.length/\(∀ j,j<i->L.getD j 0<m)/\e.at 0 = .int .i64 m/\e.at 3 = .aY [st,f] 0/\e.at 6 = .int .i64 (i:Int)) _ ⟨0,rfl,by omega,λj c=>absurd c (Nat.not_lt_zero _),ef,ef,ef⟩ ?_;clear g l r a;clear e;rintro n e s ⟨k,rfl,D,u,g,l,v⟩;by_cases y:k<L.length
  ·have o:(k:Int)<(L.length:Int):=by omega
   have p:=ez (i:=k) o b.len;repeat' (first|refine aV (aj @b.sl.len (aj (@cU _ _ _ b.sl) @bB)) ?_|(first|apply ah|apply af)<;>intro a)
   all_goals first
    | (exfalso;omega)
    | (refine⟨.inr trivial,?_⟩;simp only[lk,Nat.reduceEqDiff,if_false,if_true];exact cg λh=>by have:=h.2.1 k y;omega)
    | (refine⟨_,by omega,k+1,rfl,by omega,λj c=>?_,?_⟩
       ·rcases Nat.lt_succ_iff_lt_or_eq.1 c with h | rfl
        ·exact u j h
        ·omega
       ·simp only[lk,Nat.reduceEqDiff,if_false,if_true,p,g,l,v,and_self])
  ·repeat' (first|refine aV @b.sl.len ?_|(first|apply ah|apply af)<;>intro a)
   all_goals first
    | (exfalso;omega)
    | skip
   refine cO ff (Hu d b) (by first | exact wN | (apply wG;(simp only[lk,Nat.reduceEqDiff,reduceIte,g,l,v];(try rfl);done))) ef (λz a=>⟨by first | trivial | (simp only[dG,aK,bq.run,Env.aB,Env.cp,u6,Nat.reduceEqDiff,Nat.reduceAdd,Nat.reduceLeDiff,reduceIte,bG,iI,List.map,cu,beq_self_eq_true,reduceCtorEq,false_or,true_and,and_true,Option.some.injEq, *];done),?_⟩);simp only[Env.aB];cases z<;>simp only[decide_eq_true_eq,decide_eq_false_iff_not]at a
   ·repeat' (first|refine aV trivial ?_|(first|apply ah|apply af)<;>intro a)
    refine⟨.inr trivial,?_⟩;simp only[lk,Nat.reduceEqDiff,if_false,if_true];exact cg λh=>a h.2.2
   ·repeat' (first|refine aV trivial ?_|(first|apply ah|apply af)<;>intro a)
    refine⟨.inr trivial,?_⟩;simp only[lk,Nat.reduceEqDiff,if_false,if_true];exact gK ⟨λj c=>q j om,λj c=>u j om,a⟩
end Go.Proofs.YtkbiecjdcjfhaaaGreat
end
