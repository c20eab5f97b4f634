/- Maps with keys of one kind, told by association lists; lists that grow, of any cells; a walk over a map. -/
import Derived.Test.YtkbiecjdcjfhaaaPvQ
import Derived.Test.YtkbiecjdcjfhaaaPvCall
import Derived.Sort.EveryDepth
import Derived.Shelf.SortG.Plain
set_option linter.unusedSimpArgs false
set_option linter.unusedVariables false
set_option maxRecDepth 100000
set_option maxHeartbeats 16000000
section
namespace Go.Pv
open Go
section
variable {κ:Type} [DecidableEq κ]
structure HC (kd:zj) (oU:κ->LV):Prop where
  ok:∀ k,iu kd (oU k)=true
  eq:∀ a b,iM kd (oU a) (oU b)=some (decide (a=b))
def mG (oU:κ->LV) (L:List (κ × LV)):List (LV × LV):=L.map λp=>(oU p.1,p.2)
def ec:List (κ × LV)->κ->Option LV
 | [],_=>none
 | (a,b)::r,k=>if k=a then some b else ec r k
def vj:List (κ × LV)->κ->LV->List (κ × LV)
 | [],k,v=>[(k,v)]
 | (a,b)::r,k,v=>if k=a then (k,v)::r else (a,b)::vj r k v
omit [DecidableEq κ] in
@[simp] theorem eS (oU:κ->LV) (L:List (κ × LV)):(mG oU L).length=L.length:=by simp[mG]
omit [DecidableEq κ] in
theorem IB (oU:κ->LV) {L:List (κ × LV)}{i:Nat}{p:κ × LV}(h:L[i]? = some p):(mG oU L).getD i default=(oU p.1,p.2):=by
 simp[mG,gD,h]
theorem Sv (L:List (κ × LV)) (k:κ) (v:LV) (j:κ):ec (vj L k v) j=if j=k then some v else ec L j:=by
 induction L with
 | nil=>simp[vj,ec]
 | cons p r ih=>
   obtain⟨a,b⟩:=p;simp only[vj];by_cases h:k=a
   ·subst h;simp only[if_true,ec];by_cases c:j=k<;>simp[c]
   ·simp only[h,if_false,ec,ih];by_cases c:j=a
    ·subst c;have:¬ j=k:=λe=>h e.symm;simp[this]
    ·simp[c]
theorem IE (L:List (κ × LV)) (k:κ) (v:LV):∀ j,j∈(vj L k v).map (·.1)↔j=k∨j∈L.map (·.1):=by
 induction L with
 | nil=>intro j;simp[vj]
 | cons p r ih=>
   obtain⟨a,b⟩:=p;intro j;simp only[vj];by_cases h:k=a
   ·subst h;simp
   ·simp only[h,if_false,List.map_cons,List.mem_cons,ih];constructor
    ·rintro (h | h | h)
     ·exact .inr (.inl h)
     ·exact .inl h
     ·exact .inr (.inr h)
    ·rintro (h | h | h)
     ·exact .inr (.inl h)
     ·exact .inl h
     ·exact .inr (.inr h)
theorem NM (L:List (κ × LV)) (k:κ) (v:LV) (h:(L.map (·.1)).Nodup):((vj L k v).map (·.1)).Nodup:=by
 induction L with
 | nil=>simp[vj]
 | cons p r ih=>
   obtain⟨a,b⟩:=p;simp only[List.map_cons,List.nodup_cons]at h;simp only[vj];by_cases c:k=a
   ·subst c;simpa using h
   ·simp only[c,if_false,List.map_cons,List.nodup_cons];exact⟨λhm=>by
     rcases (IE r k v a).1 hm with e | e
     ·exact c e.symm
     ·exact h.1 e,ih h.2⟩
theorem Mt {L:List (κ × LV)}{k:κ}{v:LV}(h:ec L k=none):vj L k v=L++[(k,v)]:=by
 induction L with
 | nil=>rfl
 | cons p r ih=>
   obtain⟨a,c⟩:=p;simp only[ec]at h;by_cases b:k=a
   ·rw[if_pos b]at h;cases h
   ·rw[if_neg b]at h;simp only[vj,b,if_false,ih h,List.cons_append]
theorem xV {L:List (κ × LV)}{k:κ} : (ec L k).isSome=true↔k∈L.map (·.1):=by
 induction L with
 | nil=>simp[ec]
 | cons p r ih=>
   obtain⟨a,c⟩:=p;simp only[ec,List.map_cons,List.mem_cons];by_cases b:k=a
   ·simp[b]
   ·simp[b,ih]
theorem Sy {L:List (κ × LV)}{k:κ}{v:LV}(h:ec L k=some v):(k,v)∈L:=by
 induction L with
 | nil=>cases h
 | cons p r ih=>
   obtain⟨a,c⟩:=p;simp only[ec]at h;by_cases b:k=a
   ·subst b;rw[if_pos rfl]at h;cases h;exact List.mem_cons_self
   ·rw[if_neg b]at h;exact List.mem_cons_of_mem _ (ih h)
theorem VO {L:List (κ × LV)}{k:κ}{v:LV}{p:κ × LV}(h:p∈vj L k v):p=(k,v)∨p∈L:=by
 induction L with
 | nil=>exact .inl (by simpa[vj] using h)
 | cons q r ih=>
   obtain⟨a,c⟩:=q;simp only[vj]at h;by_cases b:k=a
   ·rw[if_pos b]at h;rcases List.mem_cons.1 h with h | h
    ·exact .inl h
    ·exact .inr (List.mem_cons_of_mem _ h)
   ·rw[if_neg b]at h;rcases List.mem_cons.1 h with h | h
    ·exact .inr (h ▸ List.mem_cons_self)
    ·rcases ih h with h | h
     ·exact .inl h
     ·exact .inr (List.mem_cons_of_mem _ h)
variable {kd:zj}{oU:κ->LV}
theorem wQ (c:HC kd oU) (k:κ):∀ (L:List (κ × LV)) (i:Nat),∃ r,fu kd (oU k) (mG oU L) i=some r/\r.map (·.2)=ec L k/\(∀ j v,r=some (j,v)->i<=j/\(mG oU L).set (j - i) (oU k,v)=mG oU (vj L k v)/\∀ w,(mG oU L).set (j - i) (oU k,w)=mG oU (vj L k w))/\(r=none->ec L k=none)
 | [],i=>⟨none,rfl,rfl,(λj v h=>by cases h),λ_=>rfl⟩
 | (a, b) :: L, i => by
   by_cases h:k=a
   ·subst h;refine⟨some (i,b),by simp[mG,fu,c.eq],by simp[ec],λj v f=>?_,λh=>by cases h⟩;have n:(i,b)=(j,v):=Option.some.inj f;cases n;exact⟨Nat.le_refl _,by simp[mG,vj],λw=>by simp[mG,vj]⟩
   ·obtain⟨r,h1,h2,h3,o⟩:=wQ c k L (i+1);refine⟨r,?_,by simp[ec,h,h2],λj v f=>?_,λp=>by simp only[ec,h,if_false];exact o p⟩
    ·have:fu kd (oU k) (mG oU ((a,b)::L)) i=fu kd (oU k) (mG oU L) (i+1):=by simp[mG,fu,c.eq,h]
     rw[this,h1]
    ·obtain⟨g1,g2,g3⟩:=h3 j v f;have e:j - i=(j - (i+1))+1:=by omega
     exact⟨by omega,by rw[e];simp only[mG,List.map_cons,List.set_cons_succ,vj,h,if_false];rw[<- mG,<- mG,g2],λw=>by rw[e];simp only[mG,List.map_cons,List.set_cons_succ,vj,h,if_false];rw[<- mG,<- mG,g3]⟩
variable {P:Program}{G:bG}{K:Env->St->Prop}{l:List bx}{e:Env}{s:St}{fl:Bool}
theorem Ij (a:HC kd oU) {d M:Nat}{k:κ}{zero:LV}{m b:bz}{L:List (κ × LV)}{g:Option (Nat × Bool)}(c:aE g e=some true) (hm:m.ev e = .aI M) (f:b.ev e=oU k) (hs:s.get M=some (.map (mG oU L)))
 (h:W P G K l (Tr.set e d (.cy [(ec L k).getD zero, .bool (ec L k).isSome])) s):W P G K (⟨some d, .eD kd zero true m b,g,[],fl⟩::l) e s:=by
 obtain⟨r,h1,h2,_⟩:=wQ a k L 0;refine xD c hm f (a.ok k) hs h1 ?_;rw[<- h2]at h;cases r<;>exact h
theorem JG (a:HC kd oU) {M:Nat}{k:κ}{zero:LV}{m b:bz}{L:List (κ × LV)}(hm:m.ev e = .aI M) (c:b.ev e=oU k) (hs:s.get M=some (.map (mG oU L))):(aR.eD kd zero false m b).run e s=some ((ec L k).getD zero,s):=by
 obtain⟨r,h1,h2,_⟩:=wQ a k L 0;rw[rZ hm c (a.ok k) hs h1,<- h2];cases r<;>rfl
theorem xE (b:HC kd oU) {d M:Nat}{k:κ}{zero:LV}{m a:bz}{L:List (κ × LV)}{g:Option (Nat × Bool)}(c:aE g e=some true) (hm:m.ev e = .aI M) (f:a.ev e=oU k) (hs:s.get M=some (.map (mG oU L)))
 (h:W P G K l (Tr.set e d ((ec L k).getD zero)) s):W P G K (⟨some d, .eD kd zero false m a,g,[],fl⟩::l) e s:=
 q_op c (by cases fl<;>rfl) (JG b hm f hs) h
theorem BI (a:HC kd oU) {M:Nat}{k:κ}{vv:LV}{m b v:bz}{L:List (κ × LV)}(hm:m.ev e = .aI M) (c:b.ev e=oU k) (f:v.ev e=vv) (hs:s.get M=some (.map (mG oU L)))
 (h:W P G K l e (s.put M (.map (mG oU (vj L k vv))))):W P G K (⟨none, .lQ kd m b v,none,[],fl⟩::l) e s:=by
 obtain⟨r,h1,h2,h3,i⟩:=wQ a k L 0;cases r with
 | none=>
   rw[Mt (i rfl)]at h;refine Ih hm c f (a.ok k) hs h1 ?_;simpa[mG] using h
 | some p=>
   obtain⟨j,w⟩:=p;obtain⟨-,-,g3⟩:=h3 j w rfl;refine cX (v:=dY) (s':=s.put M (.map (mG oU (vj L k vv)))) rfl ?_ (by cases fl<;>rfl) trivial h;simp only[aR.run,c,f,a.ok k,if_true,hm,hs,h1,Option.bind_eq_bind,Option.bind_some];rw[<- g3 vv,Nat.sub_zero]
theorem ju {d n:Nat}{g:Option (Nat × Bool)}(a:aE g e=some true) (b:s.n=n) (h:W P G K l (Tr.set e d (.aI n)) (s.new (.map []))):W P G K (⟨some d, .iq none,g,[],fl⟩::l) e s:=by
 subst b;exact q_op a (by cases fl<;>rfl) rfl h
end
def cV (k:Int):LV:=.int .i64 k
theorem N9:HC (.int .i64) cV:=⟨λk=>rfl,λa b=>by simp only[cV,iM,tC,if_true];rfl⟩
def mU (k:List UInt8):LV:=.str ⟨k.toArray⟩
theorem SC:HC .str mU:=⟨λk=>rfl,λa b=>by simp[mU,iM,tC]⟩
def Sg (s:St) (v:LV) (aU:Nat) (cells:List LV) (n:Nat):Prop:=cells.length=n*aU/\((v = .aj/\n=0)∨∃ j rest,v = .aD j 0 n aU/\j<s.n/\s.get j=some (.cells .mut (cells++rest)))
theorem Sg.nil (s:St) (aU:Nat):Sg s .aj aU [] 0:=⟨by simp, .inl ⟨rfl,rfl⟩⟩
theorem Sg.mono {s s':St}{v:LV}{aU n:Nat}{cells:List LV}(h:Sg s v aU cells n) (a:s.n<=s'.n) (hs:∀ id,aP v id->s'.get id=s.get id):Sg s' v aU cells n:=by
 obtain⟨h0,h | ⟨j,r,h1,h2,h3⟩⟩:=h
 ·exact⟨h0, .inl h⟩
 ·exact⟨h0, .inr ⟨j,r,h1,by omega,by rw[hs j ⟨0,n,aU,h1⟩];exact h3⟩⟩
theorem Sg.len {s:St}{v:LV}{aU n:Nat}{cells:List LV}(h:Sg s v aU cells n):fm v=some n:=by
 obtain⟨_,⟨rfl,rfl⟩ | ⟨j,r,rfl,_⟩⟩:=h<;>rfl
theorem Sg.lt {s:St}{v:LV}{aU n:Nat}{cells:List LV}(h:Sg s v aU cells n) {id:Nat}(a:aP v id):id<s.n:=by
 obtain⟨_,⟨rfl,rfl⟩ | ⟨j,r,rfl,h2,_⟩⟩:=h
 ·exact absurd a (bq id)
 ·rw[aC.1 a];exact h2
theorem Sg.pos {s:St}{v:LV}{aU n:Nat}{cells:List LV}(h:Sg s v aU cells n) (a:0<n):∃ j rest,v = .aD j 0 n aU/\j<s.n/\s.get j=some (.cells .mut (cells++rest)):=by
 obtain⟨_,⟨_,h⟩ | ⟨j,r,h1,h2,h3⟩⟩:=h
 ·omega
 ·exact⟨j,r,h1,h2,h3⟩
def qi (vs:List LV):Prop:=∀ s,fU vs s=(vs,s)
theorem qi.closed {vs:List LV}(h:LV.closed.aq vs=true):qi vs:=λs=>ji h
theorem vT {n:Nat}{M:Nat} : ∀ {vs:List LV}{s:St}, .aI M∈vs->cK.cu (cK n) vs s=none
 | [],s,h=>by cases h
 | v :: r, s, h => by
   rcases List.mem_cons.1 h with h | h
   ·subst h;have:cK n (.aI M) s=none:=by cases n<;>simp[cK,LV.closed]
    simp[cK.cu,this]
   ·simp only[cK.cu,Option.bind_eq_bind];cases h1:cK n v s with
    | none=>rfl
    | some p=>simp[vT h]
theorem qi.aI {vs:List LV}{M:Nat}(h:.aI M∈vs):qi vs:=λs=>by simp[fU,vT h]
section
variable {P:Program}{G:bG}{K:Env->St->Prop}{l:List bx}{e:Env}{s:St}{fl PN:Bool}
theorem uJ {a b bytes aU n:Nat}{x y:bz}{z:List LV}{xv yv:LV}{vs cells:List LV}(hx:x.ev e=xv) (D:cells? xv=some vs) (p:z.length=aU) (c:vs.length=aU) (E:qi vs) (q:y.ev (Tr.set e a (.aD s.n 0 1 aU))=yv) (hs:Sg s yv aU cells n) (F:bytes<=2 ^ 10) (hl:n<=2 ^ 20)
 (h:∀ s' j,s.n<=j->j<s'.n->s'.get j=some (.cells .mut (cells++vs))->Sg s' (.aD j 0 (n+1) aU) aU (cells++vs) (n+1)->s.n<=s'.n->(∀ id,id<s.n->¬ aP yv id->s'.get id=s.get id)->W P G K l (Tr.set (Tr.set e a (.aD s.n 0 1 aU)) b (.aD j 0 (n+1) aU)) s') :
 W P G K (⟨some a, .bt aU 1 z [(0,(aU,x))],none,[],fl⟩::⟨some b, .append aU bytes y (.t a),none,[],PN⟩::l) e s:=by
 have H:aW (rep 1 z) (bB e [(0,(aU,x))])=some vs:=by
  have h1:splice z 0 vs=vs:=rX (vs:=vs) (z:=z) (by rw[p,c]);have I:rep 1 z=z:=by simp[rep]
  simp only[bB,List.map,I,aW,hx,D,c];rw[if_pos ⟨trivial,by rw[p];omega⟩,h1]
 refine cX (v:=.aD s.n 0 1 aU) (s':=s.new (.cells .mut vs)) rfl (by simp only[aR.run,H,Option.bind_eq_bind,Option.bind_some]) (by cases fl<;>rfl) trivial ?_;simp only[Env.au];have u:rowOf (s.new (.cells .mut vs)) aU 1 (.aD s.n 0 1 aU)=some vs:=by
  simp only[rowOf,St.az,if_true,Nat.le_refl,Nat.one_mul,Nat.zero_add,c,and_self,List.drop_zero];rw[List.take_of_length_le om]
 have w:=E (s.new (.cells .mut vs));have A:(n+1)*bytes<=big:=by
  have:(n+1)*bytes<=(2 ^ 20+1)*2 ^ 10:=Nat.mul_le_mul om F;unfold big;omega
 obtain⟨i,hs⟩:=hs;have B:(cells++vs).length=(n+1)*aU:=by rw[List.length_append,i,c,Nat.add_mul,Nat.one_mul]
 rcases hs with⟨rfl,rfl⟩ | ⟨j,r,rfl,h2,h3⟩
 ·have J:cells=[]:=List.length_eq_zero_iff.1 (by rw[i,Nat.zero_mul]);subst J;have k:bF aU bytes .aj vs 1 (s.new (.cells .mut vs))=some (.aD (s.n+1) 0 1 aU,(s.new (.cells .mut vs)).new (.cells .mut vs)):=by
   simp only[bF];rw[if_neg om,if_pos ⟨by simpa using A,by rw[c];omega⟩];rfl
  refine eO rfl q (by simp) rfl u w k ?_;have f:((s.new (.cells .mut vs)).new (.cells .mut vs)).get (s.n+1)=some (.cells .mut ([]++vs)):=by rw[St.az,St.dZ,if_pos rfl];rfl
  refine h _ (s.n+1) om (by simp) f ⟨B, .inr ⟨s.n+1,[],rfl,by simp,by rw[List.append_nil];exact f⟩⟩ (by simp;omega) λid L _=>?_;rw[St.az,St.dZ,if_neg om,St.az,if_neg om]
 ·have f:(s.new (.cells .mut vs)).get j=some (.cells .mut (cells++r)):=by rw[St.az,if_neg om];exact h3
  have o:n*aU<=(cells++r).length:=by rw[List.length_append,i];omega
  have k:bF aU bytes (.aD j 0 n aU) vs 1 (s.new (.cells .mut vs))=some (.aD (s.n+1) 0 (n+1) aU,((s.new (.cells .mut vs)).put j (.cells .ro [])).new (.cells .mut (cells++vs))):=by
   simp only[bF,if_true,f,Nat.zero_add,o,A,c,Nat.one_mul,and_self,List.drop_zero];rw[List.take_append_of_le_length om,List.take_of_length_le om];rfl
  refine eO rfl q (by simp) rfl u w k ?_;have C:(((s.new (.cells .mut vs)).put j (.cells .ro [])).new (.cells .mut (cells++vs))).get (s.n+1)=some (.cells .mut (cells++vs)):=by rw[St.az,St.dP,St.dZ,if_pos rfl]
  refine h _ (s.n+1) om (by simp) C ⟨B, .inr ⟨s.n+1,[],rfl,by simp,by rw[List.append_nil];exact C⟩⟩ (by simp;omega) λid L M=>?_;have dH:id≠j:=λe=>M (aC.2 e);rw[St.az,St.dP,St.dZ,if_neg om,St.ah,if_neg dH,St.az,if_neg om]
theorem DB {d n M:Nat}{m:bz}{es:List (LV × LV)}(a:s.n=n) (hm:m.ev e = .aI M) (hs:s.get M=some (.map es)) (h:W P G K l (Tr.set e d (.aH n 0)) (s.new (.iter (some M) es.length [] es.length))):W P G K (⟨some d, .oc m,none,[],fl⟩::l) e s:=by
 subst a;exact q_op wN (by cases fl<;>rfl) (by simp[aR.run,hm,hs]) h
theorem Ii {d it M a last:Nat}{x:bz}{seen:List Nat}{es:List (LV × LV)}(hx:x.ev e = .aH it 0) (hs:s.get it=some (.iter (some M) a seen last)) (hm:s.get M=some (.map es)) (h0:seen=[]∨0<last)
 (b:∀ i,i<es.length->i ∉ seen->W P G K l (Tr.set e d (.cy [.bool true,(es.getD i default).1,(es.getD i default).2])) (s.put it (.iter (some M) a (seen++[i]) es.length)))
 (c:(∀ i,i<a->i<es.length->i∈seen)->W P G K l (Tr.set e d (.cy [.bool false])) s):W P G K (⟨some d, .ku x,none,[],fl⟩::l) e s:=by
 refine⟨?_⟩;unfold wpOps;simp only[aE,oK,hx,jq,hs,hm];exact⟨h0,λi f h=>vY.mk ⟨trivial,(b i f h).out⟩,λj=>vY.mk ⟨trivial,(c j).out⟩⟩
theorem DC {d it M a i last:Nat}{x:bz}{seen:List Nat}{es:List (LV × LV)}(hx:x.ev e = .aH it 0) (hs:s.get it=some (.iter (some M) a (seen++[i]) last)) (hm:s.get M=some (.map es)) (hl:es.length=last) (hi:i<es.length)
 (h:W P G K l (Tr.set e d (.cy [(es.getD i default).1,(es.getD i default).2])) s):W P G K (⟨some d, .od x,none,[],fl⟩::l) e s:=
 q_op wN (by cases fl<;>rfl) (by simp[aR.run,hx,hs,hm,hl,hl ▸ hi]) h
theorem V4 {d M:Nat}{x:bz}{es:List (LV × LV)}{g:Option (Nat × Bool)}(a:aE g e=some true) (hx:x.ev e = .aI M) (hs:s.get M=some (.map es)) (h:W P G K l (Tr.set e d (.int .i64 (es.length:Int))) s):W P G K (⟨some d, .kn x,g,[],fl⟩::l) e s:=
 q_op a (by cases fl<;>rfl) (by simp[aR.run,hx,hs]) h
end
theorem BA {n:Nat}{seen:List Nat}(c:seen.Nodup) (hl:∀ i∈seen,i<n):seen.length<=n:=by
 induction n generalizing seen with
 | zero=>
   cases seen with
   | nil=>simp
   | cons a l=>exact absurd (hl a (by simp)) (Nat.not_lt_zero _)
 | succ n ih=>
   by_cases h:n∈seen
   ·have h1:=List.length_erase_of_mem h;have h2:=ih (c.erase n) λx hx=>by
     have a:=hl x (List.mem_of_mem_erase hx);have b:x≠n:=by rintro rfl;exact (List.Nodup.not_mem_erase c) hx
     omega
    have h3:=List.length_pos_of_mem h;omega
   ·have h2:=ih c λx hx=>by
     have a:=hl x hx;have b:x≠n:=by rintro rfl;exact h hx
     omega
    omega
def eG {α:Type}(row:α->List LV) (l:List α):List LV:=l.flatMap row
section
variable {α:Type}{row:α->List LV}{m:Nat}
theorem kV (a b:List α):eG row (a++b)=eG row a++eG row b:=by simp[eG]
theorem wI (x:α):eG row [x]=row x:=by simp[eG]
theorem nY (a:∀ x,(row x).length=m) (l:List α):(eG row l).length=l.length*m:=by
 induction l with
 | nil=>simp[eG]
 | cons x l ih=>
   have:(eG row (x::l))=row x++eG row l:=by simp[eG]
   rw[this,List.length_append,a,ih,List.length_cons,Nat.add_mul,Nat.one_mul,Nat.add_comm]
theorem ng (a:∀ x,(row x).length=m) {l:List α}{i:Nat}{x:α}(h:l[i]? = some x) (rest:List LV):eG row l++rest=eG row (l.take i)++(row x++(eG row (l.drop (i+1))++rest))/\(eG row (l.take i)).length=i*m:=by
 obtain⟨b,h⟩:=List.getElem?_eq_some_iff.1 h;have e:l=l.take i++x::l.drop (i+1):=by
  rw[<- h,<- List.drop_eq_getElem_cons b,List.take_append_drop]
 have c:eG row l=eG row (l.take i)++(row x++eG row (l.drop (i+1))):=by
  conv=>lhs;rw[e]
  rw[kV];simp[eG]
 refine⟨by rw[c];simp,?_⟩;rw[nY a,List.length_take,Nat.min_eq_left om]
theorem HG (a:∀ x,(row x).length=m) {l:List α}{i:Nat}{x:α}(h:l[i]? = some x) (rest:List LV):((eG row l++rest).drop (i*m)).take m=row x:=by
 obtain⟨e,hl⟩:=ng a h rest;rw[e,<- hl,List.drop_left,<- a x,List.take_left]
theorem Bq (a:∀ x,(row x).length=m) {l:List α}{i:Nat}{x:α}(h:l[i]? = some x) (rest:List LV):i*m+m<=(eG row l++rest).length:=by
 obtain⟨e,hl⟩:=ng a h rest;rw[e,List.length_append,hl,List.length_append,a];omega
theorem HI (a:∀ x,(row x).length=m) {l:List α}{i k:Nat}{x:α}(h:l[i]? = some x) (b:k<m) (rest:List LV):(eG row l++rest)[i*m+k]? = (row x)[k]? := by
 obtain⟨e,hl⟩:=ng a h rest;have h2:=a x;rw[e,<- hl,List.getElem?_append_right om,Nat.add_sub_cancel_left,List.getElem?_append_left om]
theorem Mp (a:∀ x,(row x).length=m) {l:List α}{i k:Nat}{x y:α}{v:LV}(h:l[i]? = some x) (j:k<m) (b:row y=(row x).set k v) (rest:List LV):(eG row l++rest).set (i*m+k) v=eG row (l.set i y)++rest:=by
 obtain⟨e,hl⟩:=ng a h rest;obtain⟨c,hx⟩:=List.getElem?_eq_some_iff.1 h;have h2:=a x;have f:eG row (l.set i y)++rest=eG row (l.take i)++(row y++(eG row (l.drop (i+1))++rest)):=by
  have:=(ng (m:=m) a (l:=l.set i y) (i:=i) (x:=y) (by simp[c]) rest).1;rw[this];congr 2
  ·rw[List.take_set_of_le (Nat.le_refl i)]
  ·rw[List.drop_set_of_lt om]
 rw[f,e,<- hl,List.set_append_right _ _ om,Nat.add_sub_cancel_left,List.set_append_left _ _ om,b]
theorem nB (a:∀ x,(row x).length=m) {l:List α}{i:Nat}{x:α}(h:l[i]? = some x) {rest:List LV}{s:St}{j:Nat}{md:Md}(hs:s.get j=some (.cells md (eG row l++rest))):cU (some m) (.aH j (i*m)) s=some (.agg (row x)):=by
 have:=Bq a h rest;simp only[cU,aT,hs];rw[if_pos this,HG a h rest]
theorem eL (b:∀ x,(row x).length=m) {l:List α}{i k:Nat}{x:α}{v:LV}(h:l[i]? = some x) (c:(row x)[k]? = some v) {rest:List LV}{s:St}{j:Nat}{md:Md}(hs:s.get j=some (.cells md (eG row l++rest))):cU none (.aH j (i*m+k)) s=some v:=by
 have a:k<m:=by
  have:=(List.getElem?_eq_some_iff.1 c).1;rw[b]at this;exact this
 simp only[cU,hs,aT];rw[HI b h a,c]
theorem Kr (a:∀ x,(row x).length=m) {l:List α}{i:Nat}{x:α}(h:l[i]? = some x) {s:St} : cU (some m) (.aX (eG row l) (i*m)) s=some (.agg (row x)):=by
 have h1:=Bq a h [];have h2:=HG a h [];rw[List.append_nil]at h1 h2;simp[cU,aT,h1,h2]
theorem gb {P:Program}{G:bG}{K:Env->St->Prop}{lo:List bx}{e:Env}{s:St}{fl:Bool}(b:∀ x,(row x).length=m) {a x:bz}{j i k o:Nat}{l:List α}{c c':α}{v:LV}{rest:List LV}(p:a.ev e = .aH j o) (ho:o=i*m+k) (hx:x.ev e=v) (q:cells? v=some [v]) (hs:s.get j=some (.cells .mut (eG row l++rest))) (f:l[i]? = some c) (r:k<m) (t:row c'=(row c).set k v)
 (h:∀ s',s'.n=s.n->s'.get j=some (.cells .mut (eG row (l.set i c')++rest))->(∀ id,id≠j->s'.get id=s.get id)->W P G K lo e s'):W P G K (⟨none, .store 1 a x,none,[],fl⟩::lo) e s:=by
 subst ho;have w:=Bq b f rest;refine cX (v:=dY) rfl (by
  simp only[aR.run,p,hx,q,hs];rw[if_pos ⟨rfl,by omega⟩]) (by cases fl<;>rfl) trivial (h (s.put j (.cells .mut (splice (eG row l++rest) (i*m+k) [v]))) rfl ?_ λid u=>by rw[St.ah,if_neg u])
 rw[St.ah,if_pos rfl];simp only[splice];rw[Mp b f r t]
end
def bw (n:Nat) (f:Nat->LV):List LV:=(List.range n).map f
@[simp] theorem Qx (n:Nat) (f:Nat->LV):(bw n f).length=n:=by simp[bw]
theorem cN {n i:Nat}{f:Nat->LV}(h:i<n):(bw n f)[i]? = some (f i):=by simp[bw,h]
theorem FE {n i:Nat}{x:LV}{f g:Nat->LV}(h:i<n) (b:∀ j,g j=if j=i then x else f j):(bw n f).set i x=bw n g:=by
 apply List.ext_getElem?;intro j;by_cases a:j<n
 ·rw[cN a,b];by_cases e:j=i
  ·subst e;rw[List.getElem?_set_self (by simpa using a),if_pos rfl]
  ·rw[List.getElem?_set_ne om,cN a,if_neg e]
 ·rw[List.getElem?_eq_none (by simpa using a),List.getElem?_eq_none (by simpa using a)]
theorem kC {n:Nat}{f g:Nat->LV}(h:∀ j,j<n->f j=g j):bw n f=bw n g:=by
 apply List.ext_getElem?;intro j;by_cases a:j<n
 ·rw[cN a,cN a,h j a]
 ·rw[List.getElem?_eq_none (by simpa using a),List.getElem?_eq_none (by simpa using a)]
theorem ZT (n:Nat) (z:LV):rep n [z]=bw n λ_=>z:=by
 rw[wO];apply List.ext_getElem?;intro j;by_cases a:j<n
 ·rw[List.getElem?_replicate,cN a,if_pos a]
 ·rw[List.getElem?_eq_none (by simpa using a),List.getElem?_eq_none (by simpa using a)]
section
variable {P:Program}{G:bG}{K:Env->St->Prop}{l:List bx}{e:Env}{s:St}{d:Nat}{g:Option (Nat × Bool)}{fl:Bool}
theorem xk {x y:bz}{n k bytes:Nat}{z:LV}(b:aE g e=some true) (c:s.n=k) (hx:x.ev e = .int .i64 (n:Int)) (f:y.ev e = .int .i64 (n:Int)) (h:n<=1048576) (a:bytes<=1024) (i:W P G K l (Tr.set e d (.aD k 0 n 1)) (s.new (.cells .mut (bw n λ_=>z)))):W P G K (⟨some d, .ct 1 bytes [z] x y,g,[],fl⟩::l) e s:=by
 subst c;refine q_op b rfl ?_ i;have h1:(n:Int)*(bytes:Nat)<=big:=by
  have:n*bytes<=1048576*1024:=Nat.mul_le_mul h a;unfold big;exact_mod_cast (by omega:n*bytes<=4294967296)
 have h2:(n:Int)<=big:=by unfold big;omega
 simp only[aR.run,hx,f];rw[if_pos ⟨by omega,Int.le_refl _,h1,h2,rfl⟩,Int.toNat_natCast,ZT]
theorem kX {a x:bz}{i q n:Nat}{v:LV}{f f':Nat->LV}(b:a.ev e = .aH i q) (hx:x.ev e=v) (c:cells? v=some [v]) (hs:s.get i=some (.cells .mut (bw n f))) (k:q<n) (o:∀ j,f' j=if j=q then v else f j)
 (h:∀ s',s'.n=s.n->s'.get i=some (.cells .mut (bw n f'))->(∀ j,j≠i->s'.get j=s.get j)->W P G K l e s'):W P G K (⟨none, .store 1 a x,none,[],fl⟩::l) e s:=
 cX (v:=dY) rfl (by
  have:q+1<=(bw n f).length:=by simp;omega
  simp only[aR.run,b,hx,c,hs];rw[if_pos ⟨rfl,this⟩]) (by cases fl<;>rfl) trivial (h (s.put i (.cells .mut (splice (bw n f) q [v]))) rfl (by rw[St.ah,if_pos rfl];simp only[splice];rw[FE k o]) λj p=>by rw[St.ah,if_neg p])
end
def dV (s:St) (M:Nat) (K:List Int):Prop:=∃ E:List (Int × LV),s.get M=some (.map (mG cV E))/\(E.map (·.1)).Nodup/\(∀ p∈E,p.2 = .bool true)/\∀ k,k∈E.map (·.1)↔k∈K
theorem dV.keep {s s':St}{M:Nat}{K:List Int}(h:dV s M K) (hs:s'.get M=s.get M):dV s' M K:=by
 obtain⟨E,h1,h2⟩:=h;exact⟨E,hs.trans h1,h2⟩
theorem dV.nil {s:St}{M:Nat}(h:s.get M=some (.map [])):dV s M []:=⟨[],h,by simp,λp a=>by simp at a,λk=>by simp⟩
theorem Kk {E:List (Int × LV)}{K:List Int}(h1:∀ p∈E,p.2 = .bool true) (h2:∀ k,k∈E.map (·.1)↔k∈K) (k:Int):(ec E k).getD (.bool false) = .bool (decide (k∈K)):=by
 cases h:ec E k with
 | none=>
   have:k ∉ K:=λa=>by
    have:=xV.2 ((h2 k).2 a);rw[h]at this;cases this
   simp[this]
 | some v=>
   have hm:=Sy h;have a:k∈K:=(h2 k).1 (List.mem_map.2 ⟨_,hm,rfl⟩);have:=h1 _ hm;simp only at this;subst this;simp[a]
theorem dV.up {s:St}{M:Nat}{K:List Int}{E:List (Int × LV)}(h2:(E.map (·.1)).Nodup) (h3:∀ p∈E,p.2 = .bool true) (a:∀ k,k∈E.map (·.1)↔k∈K) (k:Int) (h:s.get M=some (.map (mG cV (vj E k (.bool true))))):dV s M (K++[k]):=by
 refine⟨_,h,NM E k _ h2,λp b=>?_,λj=>?_⟩
 ·rcases VO b with e | e
  ·rw[e]
  ·exact h3 p e
 ·rw[IE,a];simp[or_comm]
section
variable {P:Program}{G:bG}{K:Env->St->Prop}{l:List bx}{e:Env}{s:St}{fl:Bool}
theorem kR {d M:Nat}{k:Int}{m a:bz}{L:List Int}{g:Option (Nat × Bool)}(c:dV s M L) (f:aE g e=some true) (hm:m.ev e = .aI M) (i:a.ev e = .int .i64 k)
 (h:∀ b,decide (k∈L)=b->W P G K l (Tr.set e d (.bool b)) s):W P G K (⟨some d, .eD (.int .i64) (.bool false) false m a,g,[],fl⟩::l) e s:=by
 obtain⟨E,h1,h2,h3,j⟩:=c;refine xE N9 (M:=M) (k:=k) (L:=E) f hm i h1 ?_;rw[Kk h3 j];exact h _ rfl
theorem n7 {M:Nat}{k:Int}{m a v:bz}{L:List Int}(b:dV s M L) (hm:m.ev e = .aI M) (c:a.ev e = .int .i64 k) (f:v.ev e = .bool true)
 (h:∀ s',s'.n=s.n->dV s' M (L++[k])->(∀ id,id≠M->s'.get id=s.get id)->W P G K l e s'):W P G K (⟨none, .lQ (.int .i64) m a v,none,[],fl⟩::l) e s:=by
 obtain⟨E,h1,h2,h3,i⟩:=b;exact BI N9 (M:=M) (k:=k) (L:=E) hm c f h1 (h _ rfl (dV.up h2 h3 i k (by rw[St.ah,if_pos rfl])) λid j=>by rw[St.ah,if_neg j])
end
theorem tc {P:Program}{G:bG}{K:Env->St->Prop}{l:List bx}{e:Env}{s:St}{fl:Bool}{d M:Nat}{x:bz}{L:List Int}{g:Option (Nat × Bool)}(a:dV s M L) (b:L.Nodup) (c:aE g e=some true) (hx:x.ev e = .aI M) (h:W P G K l (Tr.set e d (.int .i64 (L.length:Int))) s):W P G K (⟨some d, .kn x,g,[],fl⟩::l) e s:=by
 obtain⟨E,h1,h2,h3,f⟩:=a;refine V4 (M:=M) c hx h1 ?_;have i:(E.map (·.1)).Perm L:=(List.perm_ext_iff_of_nodup h2 b).2 f;have:=i.length_eq;rw[List.length_map]at this;rw[eS,this];exact h
theorem dV.mem {s:St}{M:Nat}{K a:List Int}(h:dV s M K) (b:∀ k,k∈K↔k∈a):dV s M a:=by
 obtain⟨E,h1,h2,h3,c⟩:=h;exact⟨E,h1,h2,h3,λk=>(c k).trans (b k)⟩
structure wF (s:St) (n:Nat) (F:Nat->Nat) (K:Nat->List Int):Prop where
  ms:∀ j,j<n->dV s (F j) (K j)
  lt:∀ j,j<n->F j<s.n
  inj:∀ j j',j<n->j'<n->F j=F j'->j=j'
theorem wF.keep {s s':St}{n:Nat}{F:Nat->Nat}{K:Nat->List Int}(h:wF s n F K) (b:s.n<=s'.n) (hs:∀ j,j<n->s'.get (F j)=s.get (F j)):wF s' n F K:=
 ⟨λj a=>(h.ms j a).keep (hs j a),λj a=>by have:=h.lt j a;omega,h.inj⟩
theorem wF.up {s s':St}{n j:Nat}{F:Nat->Nat}{K b:Nat->List Int}(h:wF s n F K) (c:j<n) (o:s'.n=s.n) (hm:dV s' (F j) (b j)) (hs:∀ id,id≠F j->s'.get id=s.get id) (f:∀ i,i<n->i≠j->b i=K i):wF s' n F b :=
 ⟨λi a=>by
  by_cases e:i=j
  ·subst e;exact hm
  ·rw[f i a e];exact (h.ms i a).keep (hs _ λk=>e (h.inj i j a c k)),λi a=>by have:=h.lt i a;omega,h.inj⟩
theorem wF.snoc {s s':St}{n M:Nat}{F o:Nat->Nat}{K c:Nat->List Int}(h:wF s n F K) (t:s.n<=s'.n) (hs:∀ j,j<n->s'.get (F j)=s.get (F j)) (p:∀ j,j<n->F j≠M) (hl:M<s'.n) (hm:dV s' M (c n)) (b:∀ j,o j=if j=n then M else F j) (r:∀ j,j<n->c j=K j):wF s' (n+1) o c :=
 ⟨λj q=>by
  by_cases e:j=n
  ·subst e;rw[b,if_pos rfl];exact hm
  ·rw[b,if_neg e,r j om];exact (h.ms j om).keep (hs j om),λj q=>by
  by_cases e:j=n
  ·rw[b,if_pos e];exact hl
  ·rw[b,if_neg e];have:=h.lt j (by omega);omega,λi j u q a=>by
  rw[b,b]at a;by_cases f:i=n<;>by_cases k:j=n
  ·omega
  ·rw[if_pos f,if_neg k]at a;exact absurd a.symm (p j om)
  ·rw[if_neg f,if_pos k]at a;exact absurd a (p i om)
  ·rw[if_neg f,if_neg k]at a;exact h.inj i j om om a⟩
theorem wF.zero (s:St) (F:Nat->Nat) (K:Nat->List Int):wF s 0 F K:=⟨λj a=>absurd a om,λj a=>absurd a om,λi j b=>absurd b om⟩
theorem wF.ext {s:St}{n:Nat}{F:Nat->Nat}{K a:Nat->List Int}(h:wF s n F K) (c:∀ i,i<n->∀ x,x∈K i↔x∈a i):wF s n F a:=⟨λj b=>(h.ms j b).mem (c j b),h.lt,h.inj⟩
def Sx (s:St) (v:LV) (cells:List LV) (n:Nat):Prop:=cells.length=n/\((v = .aj/\n=0)∨∃ j,v = .aD j 0 n 1/\j<s.n/\s.get j=some (.cells .mut cells))
theorem Sx.nil (s:St):Sx s .aj [] 0:=⟨rfl, .inl ⟨rfl,rfl⟩⟩
theorem Sx.cell {s:St}{v:LV}{n:Nat}{cells:List LV}(h:Sx s v cells n):aV v=true:=by
 obtain⟨_,⟨rfl,rfl⟩ | ⟨j,rfl,_⟩⟩:=h<;>rfl
theorem Sx.lt {s:St}{v:LV}{n:Nat}{cells:List LV}(h:Sx s v cells n) {id:Nat}(a:aP v id):id<s.n:=by
 obtain⟨_,⟨rfl,rfl⟩ | ⟨j,rfl,h2,_⟩⟩:=h
 ·exact absurd a (bq id)
 ·rw[aC.1 a];exact h2
theorem Sx.mono {s s':St}{v:LV}{n:Nat}{cells:List LV}(h:Sx s v cells n) (a:s.n<=s'.n) (hs:∀ id,aP v id->s'.get id=s.get id):Sx s' v cells n:=by
 obtain⟨h0,h | ⟨j,h1,h2,h3⟩⟩:=h
 ·exact⟨h0, .inl h⟩
 ·exact⟨h0, .inr ⟨j,h1,by omega,by rw[hs j (h1 ▸ aC.2 rfl)];exact h3⟩⟩
theorem Sx.app {s:St}{v:LV}{n bytes k:Nat}{cells vs:List LV}(h:Sx s v cells n) (b:vs.length=k) (c:(n+k)*bytes<=big):∃ r s',bF 1 bytes v vs k s=some (r,s')/\Sx s' r (cells++vs) (n+k)/\s.n<=s'.n/\(∀ id,id<s.n->¬ aP v id->s'.get id=s.get id)/\∀ id,aP r id->s.n<=id:=by
 obtain⟨h0,⟨rfl,rfl⟩ | ⟨j,rfl,h2,h3⟩⟩:=h
 ·have f:cells=[]:=List.length_eq_zero_iff.1 h0;subst f;by_cases e:k=0
  ·subst e;have i:vs=[]:=List.length_eq_zero_iff.1 b;subst i;exact⟨.aj,s,by simp[bF],⟨rfl, .inl ⟨rfl,rfl⟩⟩,Nat.le_refl _,λ_ _ _=>rfl,λid a=>absurd a (bq id)⟩
  ·refine⟨.aD s.n 0 k 1,s.new (.cells .mut vs),?_,⟨by simpa using b, .inr ⟨s.n,by rw[Nat.zero_add],by simp,by rw[St.az,if_pos rfl];rfl⟩⟩,by simp,λid o _=>by rw[St.az,if_neg om],λid a=>by have:=aC.1 a;omega⟩;simp only[bF];rw[if_neg e,if_pos ⟨by rw[Nat.zero_add]at c;exact c,by omega⟩]
 ·refine⟨.aD s.n 0 (n+k) 1,(s.put j (.cells .ro [])).new (.cells .mut (cells++vs)),?_,⟨by rw[List.length_append];omega, .inr ⟨s.n,rfl,by simp,by rw[St.az,St.dP,if_pos rfl]⟩⟩,by simp,λid o a=>?_,λid a=>by have:=aC.1 a;omega⟩
  ·simp only[bF,if_true,h3,Nat.zero_add,Nat.mul_one,h0,Nat.le_refl,c,b,and_self,List.drop_zero];rw[List.take_of_length_le om];rfl
  ·have dH:id≠j:=λe=>a (aC.2 e);rw[St.az,St.dP,if_neg om,St.ah,if_neg dH]
section
variable {P:Program}{G:bG}{K:Env->St->Prop}{l:List bx}{e:Env}{s:St}{fl PN:Bool}
theorem Nk {a b bytes n k:Nat}{y:bz}{z:List LV}{ps:List (Nat × Nat × bz)}{yv:LV}{vs cells:List LV}(o:aW (rep k z) (bB e ps)=some vs) (i:vs.length=k) (p:LV.closed.aq vs=true) (q:y.ev (Tr.set e a (.aD s.n 0 k 1))=yv) (hs:Sx s yv cells n) (u:(n+k)*bytes<=big)
 (h:∀ s' r,Sx s' r (cells++vs) (n+k)->s.n<=s'.n->(∀ id,id<s.n->¬ aP yv id->s'.get id=s.get id)->(∀ id,aP r id->s.n<=id)->W P G K l (Tr.set (Tr.set e a (.aD s.n 0 k 1)) b r) s') :
 W P G K (⟨some a, .bt 1 k z ps,none,[],fl⟩::⟨some b, .append 1 bytes y (.t a),none,[],PN⟩::l) e s:=by
 refine cX (v:=.aD s.n 0 k 1) (s':=s.new (.cells .mut vs)) rfl (by simp only[aR.run,o,Option.bind_eq_bind,Option.bind_some]) (by cases fl<;>rfl) trivial ?_;simp only[Env.au];have w:rowOf (s.new (.cells .mut vs)) 1 k (.aD s.n 0 k 1)=some vs:=by
  simp only[rowOf,St.az,if_true,Nat.le_refl,Nat.mul_one,Nat.zero_add,i,and_self,List.drop_zero];rw[List.take_of_length_le om]
 have x:=hs.mono (s':=s.new (.cells .mut vs)) (by simp) λid c=>by rw[St.az,if_neg (by have:=hs.lt c;omega)]
 obtain⟨r,s',A,B,C,D,c⟩:=x.app (vs:=vs) i u;refine eO rfl q (by simp) rfl w (ji p) A ?_;refine h s' r B (by simp at C;omega) (λid j f=>?_) λid j=>by have:=c id j;simp at this;omega
 rw[D id (by simp;omega) f,St.az,if_neg om]
theorem Nj {b bytes n k:Nat}{x y:bz}{xv yv:LV}{vs cells:List LV}{g:Option (Nat × Bool)}(c:aE g e=some true) (hx:x.ev e=xv) (f:Sl xv vs k) (i:vs.length=k) (j:LV.closed.aq vs=true) (o:y.ev e=yv) (hs:Sx s yv cells n) (p:(n+k)*bytes<=big)
 (h:∀ s' r,Sx s' r (cells++vs) (n+k)->s.n<=s'.n->(∀ id,id<s.n->¬ aP yv id->s'.get id=s.get id)->(∀ id,aP r id->s.n<=id)->W P G K l (Tr.set e b r) s') :
 W P G K (⟨some b, .append 1 bytes y x,g,[],fl⟩::l) e s:=by
 have a:me xv=some k:=by cases f<;>first | rfl | simp[me]
 have q:rowOf s 1 k xv=some vs:=by
  cases f with
  | nil=>rfl
  | zs=>rfl
  | aB=>simp only[rowOf,Nat.le_refl,Nat.mul_one,i,and_self,if_true];rw[List.take_of_length_le om]
 obtain⟨r,s',t,u,v,w,z⟩:=hs.app (vs:=vs) i p;exact eO c o hx a q (ji j) t (h s' r u v w z)
end
open Go Go.Sort Go.Proofs Go.RowKit
namespace SorI
theorem Bz {α:Type} [Inhabited α] (enc:α->Value) (w:World) (dD off:Nat) (d:Array α) (k:Nat):(putRow enc w dD off d).shape? k=w.shape? k:=by
 unfold World.shape? putRow mapBlock;simp only[Array.getElem?_modify];by_cases h:dD=k
 ·subst h;simp only[if_true];cases w.heap[dD]? with
  | none=>rfl
  | some o=>cases o<;>simp[onCells,putCells]
 ·simp[h]
theorem Bp {α:Type} [Inhabited α] {enc:α->Value}{w:World}{dD off:Nat}{d0 d:Array α}(h0:Holds enc w dD off d0) (hs:d.size=d0.size):uv dD off (d.toList.map enc) w (putRow enc w dD off d) where
 os:=rfl
 tape:=rfl
 output:=rfl
 size:=by simp
 block:=λk hk=>by
  unfold putRow mapBlock;simp only[Array.getElem?_modify];rw[if_neg (λh=>hk h.symm)]
 KX:=λi hi=>by
  have dc:i<d.size:=by simpa using hi
  rw[cell?_putRow enc w dD off d0 d h0 hs i dc];simp[gD,dc,getElem!_pos]
 xS:=λc hc=>cell?_putRow_other enc w dD off d c (by simpa using hc)
 frozen:=λc=>frozen?_putRow enc w dD off d c
 shape:=λk=>Bz enc w dD off d k
theorem LA {P : Program}{G : bG}{k : FuncId}{fn : Func}{body : Code}(hf : P.funcs[k]? = some fn) (hn : (fn.name == "runtime.NumGoroutine") = false) (vO : fn.body = some body)
 (hcon:∀ (dD off cap:Nat) (zs:List Int) (w:World),Holds (Value.int .i64) w dD off zs.toArray->dD<w.heap.size->zs.length<4611686018427387904->Calls P k #[.slice (some ⟨dD,off,none⟩) zs.length cap] w λe w'=>e = .returned (.tuple #[])/\∃ n os,w'=grow (putRow (Value.int .i64) (Sort.ahead w n) dD off (zs.mergeSort λx y=>decide (x<=y)).toArray) os)
 {s:St}{j:Nat}{l:List Int}{rest:List LV}(hs:s.get j=some (.cells .mut (ints l++rest))) (o8:1<=l.length) (KW:l.length<=1048576) :
 aJ P G (.fn (.func k) [] []) [.aD j 0 l.length 1] s (λ_ s'=>s'=s.put j (.cells .mut (ints (l.mergeSort λx y=>decide (x<=y))++rest))):=by
 intro w0 μ ι δ w vf cp c cs hN GF lS x5;cases GF with
 | fn hl nT hr uT =>
   rename_i va vb;obtain rfl:va = #[]:=Array.eq_empty_of_size_eq_zero hl;obtain rfl:vb = #[]:=Array.eq_empty_of_size_eq_zero nT;obtain⟨x,rfl⟩:∃ x,cp = #[x]:=by
    have h2:cp.size=1:=lS;refine⟨cp[0],?_⟩;apply Array.ext (by simp[h2]);intro i L7 mQ;have:i=0:=by omega
    subst this;rfl
   have h0:Rv μ ι w (.aD j 0 l.length 1) x:=by simpa using x5 0 (by simp)
   cases h0 with
   | aD hp gR pq sP=>
     rename_i cap p off';obtain rfl:off'=0:=sP om;have I:=hN.inv;have hb:=I.dD j _ p hs hp;obtain⟨⟨sh,b0⟩,b1,b2,b3,b4,b5,b6⟩:=hb;have q7:(ints l).length=l.length:=by simp
     have cx:(ints l++rest).length=l.length+rest.length:=by simp
     have kI:=I.nX j p hp;have hH:Holds (Value.int .i64) w p.b (p.off+0) l.toArray:=by
      intro t ht;have WJ:t<l.length:=by simpa using ht
      obtain⟨v,hc,_,mY⟩:=b2 t om;rw[Nat.add_zero];refine⟨?_,b3 _⟩;have h1:=mY om;rw[gD,List.getElem?_append_left (by rw[q7];exact WJ),bu om]at h1;rw[hc];cases h1;simp[gD,WJ]
     obtain⟨e,w',fr,⟨rfl,n,os,rfl⟩,YW,QS,YL⟩:=hcon p.b (p.off+0) cap l w hH kI.2.2 om (c::cs);have hZl:(l.mergeSort λx y=>decide (x<=y)).length=l.length:=List.length_mergeSort l;generalize (l.mergeSort λx y=>decide (x<=y))=z at *;have S1:cR w (Sort.ahead w n):=⟨rfl,rfl,rfl,Nat.le_refl _,λ_ _=>rfl⟩;have I1:=I.same S1;have x1:=I.eU S1;have hH1:Holds (Value.int .i64) (Sort.ahead w n) p.b (p.off+0) l.toArray:=hH;have hW:=Bp hH1 (d:=z.toArray) (by simp[hZl]);have jO:∀ t,t<z.length->((z.toArray.toList.map (Value.int .i64)).getD t undef) = .int .i64 (z.getD t 0):=λt ht=>by
      simp[gD,ht]
     obtain⟨I2,x2⟩:=I1.write hs hp (ints z) (z.toArray.toList.map (Value.int .i64)) (off:=0) (by simp) (by rw[List.length_append,q7];simp;omega) (λi hi=>by
      have dc:i<z.length:=by simpa using hi
      rw[jO i dc,gD,bu om];exact .int _ _) (λi hi=>by
      have dc:i<z.length:=by simpa using hi
      rw[jO i dc];rfl) hW
     have L0:splice (ints l++rest) 0 (ints z)=ints z++rest:=by
      have:=rW (ints z) [] (ints l) rest (by simp[hZl]);simpa using this
     rw[L0]at I2;have S3:cR (putRow (Value.int .i64) (Sort.ahead w n) p.b (p.off+0) z.toArray) (grow (putRow (Value.int .i64) (Sort.ahead w n) p.b (p.off+0) z.toArray) os):=by
      refine⟨rfl,rfl,rfl,?_,λq hq=>?_⟩
      ·simp[grow]
      ·simp only[grow];rw[Array.getElem?_append_left (by simpa using hq)]
     have I3:=I2.same S3;have x3:=I2.eU S3;have hinv:(invoke (.fn (.func k) #[]) (#[]++#[Value.slice (some ⟨p.b,p.off+0,none⟩) l.length cap])).run P w = .ok (.enter k #[.slice (some ⟨p.b,p.off+0,none⟩) l.length cap]) w:=by
      have iE : ¬ fn.name = "runtime.NumGoroutine" := by simpa using hn
      simp[invoke,callFunc,hf,iE,vO]
     refine⟨.cy [],s.put j (.cells .mut (ints z++rest)),μ,ι,_, .tuple #[],rfl,⟨_,_,_,λw=>pQ (.func k) #[] #[] _ P w,hinv,?_⟩,I3,(x1.trans x2).trans x3,⟨Nat.le_refl _,λid aO hm=>?_,λ_ _ h=>h⟩, .cy rfl (λi hi=>absurd hi (Nat.not_lt_zero i))⟩
     ·refine Steps.trans ?_ (.one (step_leave_returned YL));have dO:Steps P _ _:=YW;simpa using dO
     ·rw[St.ah,if_neg];rintro rfl;rw[hp]at hm;cases hm
end SorI
end Go.Pv
end
