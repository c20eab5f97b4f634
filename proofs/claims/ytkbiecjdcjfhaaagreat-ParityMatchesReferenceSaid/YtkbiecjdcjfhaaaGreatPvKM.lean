/- Maps with keys of one kind, told by association lists; lists that grow, of any cells; a walk over a map. -/
import Derived.Test.YtkbiecjdcjfhaaaGreatPvQ
import Derived.Test.YtkbiecjdcjfhaaaGreatPvCall
import Derived.Sort.EveryDepth
import Derived.Shelf.SortG.Plain
set_option linter.unusedSimpArgs false
set_option linter.unusedVariables false
set_option maxRecDepth 100000
set_option maxHeartbeats 16000000
section
namespace Go.Pv
open Go
section
variable {κ:Type} [DecidableEq κ]
structure Jk (kd:Dw) (pq:κ->LV):Prop where
  ok:∀ k,ki kd (pq k)=true
  eq:∀ a b,m8 kd (pq a) (pq b)=some (decide (a=b))
def mG (pq:κ->LV) (L:List (κ × LV)):List (LV × LV):=L.map λp=>(pq p.1,p.2)
def eE:List (κ × LV)->κ->Option LV
 | [],_=>none
 | (a,b)::r,k=>if k=a then some b else eE r k
def vO:List (κ × LV)->κ->LV->List (κ × LV)
 | [],k,v=>[(k,v)]
 | (a,b)::r,k,v=>if k=a then (k,v)::r else (a,b)::vO r k v
@[simp] theorem fc {k0:Type}(pq:k0->LV) (L:List (k0 × LV)):(mG pq L).length=L.length:=by simp[mG]
theorem Kk {k0:Type}(pq:k0->LV) {L:List (k0 × LV)}{i:Nat}{p:k0 × LV}(h:L[i]? = some p):(mG pq L).getD i default=(pq p.1,p.2):=by
 simp[mG,gD,h]
theorem Un (L:List (κ × LV)) (k:κ) (v:LV) (j:κ):eE (vO L k v) j=if j=k then some v else eE L j:=by
 induction L with
 | nil=>simp[vO,eE]
 | cons p r ih=>
   obtain⟨a,b⟩:=p;simp only[vO];by_cases h:k=a
   ·subst h;simp only[if_true,eE];by_cases c:j=k<;>simp[c]
   ·simp only[h,if_false,eE,ih];by_cases c:j=a
    ·subst c;have:¬ j=k:=λe=>h e.symm;simp[this]
    ·simp[c]
theorem Kq (L:List (κ × LV)) (k:κ) (v:LV):∀ j,j∈(vO L k v).map (·.1)↔j=k∨j∈L.map (·.1):=by
 induction L with
 | nil=>intro j;simp[vO]
 | cons p r ih=>
   obtain⟨a,b⟩:=p;intro j;simp only[vO];by_cases h:k=a
   ·subst h;simp
   ·simp only[h,if_false,List.map_cons,List.mem_cons,ih];constructor
    ·rintro (h | h | h)
     ·exact .inr (.inl h)
     ·exact .inl h
     ·exact .inr (.inr h)
    ·rintro (h | h | h)
     ·exact .inr (.inl h)
     ·exact .inl h
     ·exact .inr (.inr h)
theorem PC (L:List (κ × LV)) (k:κ) (v:LV) (h:(L.map (·.1)).Nodup):((vO L k v).map (·.1)).Nodup:=by
 induction L with
 | nil=>simp[vO]
 | cons p r ih=>
   obtain⟨a,b⟩:=p;simp only[List.map_cons,List.nodup_cons]at h;simp only[vO];by_cases c:k=a
   ·subst c;simpa using h
   ·simp only[c,if_false,List.map_cons,List.nodup_cons];exact⟨λhm=>by
     rcases (Kq r k v a).1 hm with e | e
     ·exact c e.symm
     ·exact h.1 e,ih h.2⟩
theorem Oc {L:List (κ × LV)}{k:κ}{v:LV}(h:eE L k=none):vO L k v=L++[(k,v)]:=by
 induction L with
 | nil=>rfl
 | cons p r ih=>
   obtain⟨a,c⟩:=p;simp only[eE]at h;by_cases b:k=a
   ·rw[if_pos b]at h;cases h
   ·rw[if_neg b]at h;simp only[vO,b,if_false,ih h,List.cons_append]
theorem yI {L:List (κ × LV)}{k:κ} : (eE L k).isSome=true↔k∈L.map (·.1):=by
 induction L with
 | nil=>simp[eE]
 | cons p r ih=>
   obtain⟨a,c⟩:=p;simp only[eE,List.map_cons,List.mem_cons];by_cases b:k=a
   ·simp[b]
   ·simp[b,ih]
theorem Up {L:List (κ × LV)}{k:κ}{v:LV}(h:eE L k=some v):(k,v)∈L:=by
 induction L with
 | nil=>cases h
 | cons p r ih=>
   obtain⟨a,c⟩:=p;simp only[eE]at h;by_cases b:k=a
   ·subst b;rw[if_pos rfl]at h;cases h;exact List.mem_cons_self
   ·rw[if_neg b]at h;exact List.mem_cons_of_mem _ (ih h)
theorem XO {L:List (κ × LV)}{k:κ}{v:LV}{p:κ × LV}(h:p∈vO L k v):p=(k,v)∨p∈L:=by
 induction L with
 | nil=>exact .inl (by simpa[vO] using h)
 | cons q r ih=>
   obtain⟨a,c⟩:=q;simp only[vO]at h;by_cases b:k=a
   ·rw[if_pos b]at h;rcases List.mem_cons.1 h with h | h
    ·exact .inl h
    ·exact .inr (List.mem_cons_of_mem _ h)
   ·rw[if_neg b]at h;rcases List.mem_cons.1 h with h | h
    ·exact .inr (h ▸ List.mem_cons_self)
    ·rcases ih h with h | h
     ·exact .inl h
     ·exact .inr (List.mem_cons_of_mem _ h)
variable {kd:Dw}{pq:κ->LV}
theorem xw (c:Jk kd pq) (k:κ):∀ (L:List (κ × LV)) (i:Nat),∃ r,iE kd (pq k) (mG pq L) i=some r/\r.map (·.2)=eE L k/\(∀ j v,r=some (j,v)->i<=j/\(mG pq L).set (j - i) (pq k,v)=mG pq (vO L k v)/\∀ w,(mG pq L).set (j - i) (pq k,w)=mG pq (vO L k w))/\(r=none->eE L k=none)
 | [],i=>⟨none,rfl,rfl,(λj v h=>by cases h),λ_=>rfl⟩
 | (a, b) :: L, i => by
   by_cases h:k=a
   ·subst h;refine⟨some (i,b),by simp[mG,iE,c.eq],by simp[eE],λj v f=>?_,λh=>by cases h⟩;have n:(i,b)=(j,v):=Option.some.inj f;cases n;exact⟨Nat.le_refl _,by simp[mG,vO],λw=>by simp[mG,vO]⟩
   ·obtain⟨r,h1,h2,h3,o⟩:=xw c k L (i+1);refine⟨r,?_,by simp[eE,h,h2],λj v f=>?_,λp=>by simp only[eE,h,if_false];exact o p⟩
    ·have:iE kd (pq k) (mG pq ((a,b)::L)) i=iE kd (pq k) (mG pq L) (i+1):=by simp[mG,iE,c.eq,h]
     rw[this,h1]
    ·obtain⟨g1,g2,q⟩:=h3 j v f;have e:j - i=(j - (i+1))+1:=by omega
     exact⟨by omega,by rw[e];simp only[mG,List.map_cons,List.set_cons_succ,vO,h,if_false];rw[<- mG,<- mG,g2],λw=>by rw[e];simp only[mG,List.map_cons,List.set_cons_succ,vO,h,if_false];rw[<- mG,<- mG,q]⟩
variable {P:Program}{G:bP}{K:Env->St->Prop}{l:List bC}{e:Env}{s:St}{fl:Bool}
theorem JS (a:Jk kd pq) {d M:Nat}{k:κ}{zero:LV}{m b:bF}{L:List (κ × LV)}{g:Option (Nat × Bool)}(c:aK g e=some true) (hm:m.ev e = .aR M) (f:b.ev e=pq k) (hs:s.get M=some (.map (mG pq L)))
 (h:W P G K l (Tr.set e d (.cE [(eE L k).getD zero, .bool (eE L k).isSome])) s):W P G K (⟨some d, .gp kd zero true m b,g,[],fl⟩::l) e s:=by
 obtain⟨r,h1,h2,_⟩:=xw a k L 0;refine O0 c hm f (a.ok k) hs h1 ?_;rw[<- h2]at h;cases r<;>exact h
theorem Lm (a:Jk kd pq) {M:Nat}{k:κ}{zero:LV}{m b:bF}{L:List (κ × LV)}(hm:m.ev e = .aR M) (c:b.ev e=pq k) (hs:s.get M=some (.map (mG pq L))):(bq.gp kd zero false m b).run e s=some ((eE L k).getD zero,s):=by
 obtain⟨r,h1,h2,_⟩:=xw a k L 0;rw[Hl hm c (a.ok k) hs h1,<- h2];cases r<;>rfl
theorem yg (b:Jk kd pq) {d M:Nat}{k:κ}{zero:LV}{m a:bF}{L:List (κ × LV)}{g:Option (Nat × Bool)}(c:aK g e=some true) (hm:m.ev e = .aR M) (f:a.ev e=pq k) (hs:s.get M=some (.map (mG pq L)))
 (h:W P G K l (Tr.set e d ((eE L k).getD zero)) s):W P G K (⟨some d, .gp kd zero false m a,g,[],fl⟩::l) e s:=
 q_op c (by cases fl<;>rfl) (Lm b hm f hs) h
theorem CA (a:Jk kd pq) {M:Nat}{k:κ}{vv:LV}{m b v:bF}{L:List (κ × LV)}(hm:m.ev e = .aR M) (c:b.ev e=pq k) (f:v.ev e=vv) (hs:s.get M=some (.map (mG pq L)))
 (h:W P G K l e (s.put M (.map (mG pq (vO L k vv))))):W P G K (⟨none, .mZ kd m b v,none,[],fl⟩::l) e s:=by
 obtain⟨r,h1,h2,h3,i⟩:=xw a k L 0;cases r with
 | none=>
   rw[Oc (i rfl)]at h;refine TH hm c f (a.ok k) hs h1 ?_;simpa[mG] using h
 | some p=>
   obtain⟨j,w⟩:=p;obtain⟨-,-,n⟩:=h3 j w rfl;refine j7 (v:=eC) (s':=s.put M (.map (mG pq (vO L k vv)))) rfl ?_ (by cases fl<;>rfl) trivial h;simp only[bq.run,c,f,a.ok k,if_true,hm,hs,h1,Option.bind_eq_bind,Option.bind_some];rw[<- n vv,Nat.sub_zero]
theorem jM {d n:Nat}{g:Option (Nat × Bool)}(a:aK g e=some true) (b:s.n=n) (h:W P G K l (Tr.set e d (.aR n)) (s.new (.map []))):W P G K (⟨some d, .iT none,g,[],fl⟩::l) e s:=by
 subst b;exact q_op a (by cases fl<;>rfl) rfl h
end
def di (k:Int):LV:=.int .i64 k
theorem Qc:Jk (.int .i64) di:=⟨λk=>rfl,λa b=>by simp only[di,m8,uq,if_true];rfl⟩
def nq (k:List UInt8):LV:=.str ⟨k.toArray⟩
theorem Uu:Jk .str nq:=⟨λk=>rfl,λa b=>by simp[nq,m8,uq]⟩
def Sg (s:St) (v:LV) (aZ:Nat) (cells:List LV) (n:Nat):Prop:=cells.length=n*aZ/\((v = .aq/\n=0)∨∃ j rest,v = .aE j 0 n aZ/\j<s.n/\s.get j=some (.cells .mut (cells++rest)))
theorem Sg.nil (s:St) (aZ:Nat):Sg s .aq aZ [] 0:=⟨by simp, .inl ⟨rfl,rfl⟩⟩
theorem Sg.mono {s s':St}{v:LV}{aZ n:Nat}{cells:List LV}(h:Sg s v aZ cells n) (a:s.n<=s'.n) (hs:∀ id,aQ v id->s'.get id=s.get id):Sg s' v aZ cells n:=by
 obtain⟨h0,h | ⟨j,r,h1,h2,h3⟩⟩:=h
 ·exact⟨h0, .inl h⟩
 ·exact⟨h0, .inr ⟨j,r,h1,by omega,by rw[hs j ⟨0,n,aZ,h1⟩];exact h3⟩⟩
theorem Sg.len {s:St}{v:LV}{aZ n:Nat}{cells:List LV}(h:Sg s v aZ cells n):ji v=some n:=by
 obtain⟨_,⟨rfl,rfl⟩ | ⟨j,r,rfl,_⟩⟩:=h<;>rfl
theorem Sg.lt {s:St}{v:LV}{aZ n:Nat}{cells:List LV}(h:Sg s v aZ cells n) {id:Nat}(a:aQ v id):id<s.n:=by
 obtain⟨_,⟨rfl,rfl⟩ | ⟨j,r,rfl,h2,_⟩⟩:=h
 ·exact absurd a (bE id)
 ·rw[aI.1 a];exact h2
theorem Sg.pos {s:St}{v:LV}{aZ n:Nat}{cells:List LV}(h:Sg s v aZ cells n) (a:0<n):∃ j rest,v = .aE j 0 n aZ/\j<s.n/\s.get j=some (.cells .mut (cells++rest)):=by
 obtain⟨_,⟨_,h⟩ | ⟨j,r,h1,h2,h3⟩⟩:=h
 ·omega
 ·exact⟨j,r,h1,h2,h3⟩
def kQ (vs:List LV):Prop:=∀ s,gC vs s=(vs,s)
theorem kQ.closed {vs:List LV}(h:LV.closed.au vs=true):kQ vs:=λs=>gw h
theorem wK {n:Nat}{M:Nat} : ∀ {vs:List LV}{s:St}, .aR M∈vs->cY.cM (cY n) vs s=none
 | [],s,h=>by cases h
 | v :: r, s, h => by
   rcases List.mem_cons.1 h with h | h
   ·subst h;have:cY n (.aR M) s=none:=by cases n<;>simp[cY,LV.closed]
    simp[cY.cM,this]
   ·simp only[cY.cM,Option.bind_eq_bind];cases h1:cY n v s with
    | none=>rfl
    | some p=>simp[wK h]
theorem kQ.aR {vs:List LV}{M:Nat}(h:.aR M∈vs):kQ vs:=λs=>by simp[gC,wK h]
section
variable {P:Program}{G:bP}{K:Env->St->Prop}{l:List bC}{e:Env}{s:St}{fl MZ:Bool}
theorem qb {a b bytes aZ n:Nat}{x y:bF}{z:List LV}{xv yv:LV}{vs cells:List LV}(hx:x.ev e=xv) (D:cells? xv=some vs) (p:z.length=aZ) (c:vs.length=aZ) (E:kQ vs) (q:y.ev (Tr.set e a (.aE s.n 0 1 aZ))=yv) (hs:Sg s yv aZ cells n) (F:bytes<=2 ^ 10) (hl:n<=2 ^ 20)
 (h:∀ s' j,s.n<=j->j<s'.n->s'.get j=some (.cells .mut (cells++vs))->Sg s' (.aE j 0 (n+1) aZ) aZ (cells++vs) (n+1)->s.n<=s'.n->(∀ id,id<s.n->¬ aQ yv id->s'.get id=s.get id)->W P G K l (Tr.set (Tr.set e a (.aE s.n 0 1 aZ)) b (.aE j 0 (n+1) aZ)) s') :
 W P G K (⟨some a, .bu aZ 1 z [(0,(aZ,x))],none,[],fl⟩::⟨some b, .append aZ bytes y (.t a),none,[],MZ⟩::l) e s:=by
 have H:aU (rep 1 z) (bt e [(0,(aZ,x))])=some vs:=by
  have h1:splice z 0 vs=vs:=lK (vs:=vs) (z:=z) (by rw[p,c]);have I:rep 1 z=z:=by simp[rep]
  simp only[bt,List.map,I,aU,hx,D,c];rw[if_pos ⟨trivial,by rw[p];omega⟩,h1]
 refine j7 (v:=.aE s.n 0 1 aZ) (s':=s.new (.cells .mut vs)) rfl (by simp only[bq.run,H,Option.bind_eq_bind,Option.bind_some]) (by cases fl<;>rfl) trivial ?_;simp only[Env.aB];have u:rowOf (s.new (.cells .mut vs)) aZ 1 (.aE s.n 0 1 aZ)=some vs:=by
  simp only[rowOf,St.aA,if_true,Nat.le_refl,Nat.one_mul,Nat.zero_add,c,and_self,List.drop_zero];rw[List.take_of_length_le om]
 have w:=E (s.new (.cells .mut vs));have A:(n+1)*bytes<=big:=by
  have:(n+1)*bytes<=(2 ^ 20+1)*2 ^ 10:=Nat.mul_le_mul om F;unfold big;omega
 obtain⟨i,hs⟩:=hs;have B:(cells++vs).length=(n+1)*aZ:=by rw[List.length_append,i,c,Nat.add_mul,Nat.one_mul]
 rcases hs with⟨rfl,rfl⟩ | ⟨j,r,rfl,h2,h3⟩
 ·have J:cells=[]:=List.length_eq_zero_iff.1 (by rw[i,Nat.zero_mul]);subst J;have k:bT aZ bytes .aq vs 1 (s.new (.cells .mut vs))=some (.aE (s.n+1) 0 1 aZ,(s.new (.cells .mut vs)).new (.cells .mut vs)):=by
   simp only[bT];rw[if_neg om,if_pos ⟨by simpa using A,by rw[c];omega⟩];rfl
  refine eD rfl q (by simp) rfl u w k ?_;have f:((s.new (.cells .mut vs)).new (.cells .mut vs)).get (s.n+1)=some (.cells .mut ([]++vs)):=by rw[St.aA,St.fW,if_pos rfl];rfl
  refine h _ (s.n+1) om (by simp) f ⟨B, .inr ⟨s.n+1,[],rfl,by simp,by rw[List.append_nil];exact f⟩⟩ (by simp;omega) λid L _=>?_;rw[St.aA,St.fW,if_neg om,St.aA,if_neg om]
 ·have f:(s.new (.cells .mut vs)).get j=some (.cells .mut (cells++r)):=by rw[St.aA,if_neg om];exact h3
  have o:n*aZ<=(cells++r).length:=by rw[List.length_append,i];omega
  have k:bT aZ bytes (.aE j 0 n aZ) vs 1 (s.new (.cells .mut vs))=some (.aE (s.n+1) 0 (n+1) aZ,((s.new (.cells .mut vs)).put j (.cells .ro [])).new (.cells .mut (cells++vs))):=by
   simp only[bT,if_true,f,Nat.zero_add,o,A,c,Nat.one_mul,and_self,List.drop_zero];rw[List.take_append_of_le_length om,List.take_of_length_le om];rfl
  refine eD rfl q (by simp) rfl u w k ?_;have C:(((s.new (.cells .mut vs)).put j (.cells .ro [])).new (.cells .mut (cells++vs))).get (s.n+1)=some (.cells .mut (cells++vs)):=by rw[St.aA,St.eo,St.fW,if_pos rfl]
  refine h _ (s.n+1) om (by simp) C ⟨B, .inr ⟨s.n+1,[],rfl,by simp,by rw[List.append_nil];exact C⟩⟩ (by simp;omega) λid L M=>?_;have dB:id≠j:=λe=>M (aI.2 e);rw[St.aA,St.eo,St.fW,if_neg om,St.az,if_neg dB,St.aA,if_neg om]
theorem EF {d n M:Nat}{m:bF}{es:List (LV × LV)}(a:s.n=n) (hm:m.ev e = .aR M) (hs:s.get M=some (.map es)) (h:W P G K l (Tr.set e d (.aO n 0)) (s.new (.iter (some M) es.length [] es.length))):W P G K (⟨some d, .oA m,none,[],fl⟩::l) e s:=by
 subst a;exact q_op wN (by cases fl<;>rfl) (by simp[bq.run,hm,hs]) h
theorem JR {d it M a last:Nat}{x:bF}{seen:List Nat}{es:List (LV × LV)}(hx:x.ev e = .aO it 0) (hs:s.get it=some (.iter (some M) a seen last)) (hm:s.get M=some (.map es)) (h0:seen=[]∨0<last)
 (b:∀ i,i<es.length->i ∉ seen->W P G K l (Tr.set e d (.cE [.bool true,(es.getD i default).1,(es.getD i default).2])) (s.put it (.iter (some M) a (seen++[i]) es.length)))
 (c:(∀ i,i<a->i<es.length->i∈seen)->W P G K l (Tr.set e d (.cE [.bool false])) s):W P G K (⟨some d, .kN x,none,[],fl⟩::l) e s:=by
 refine⟨?_⟩;unfold wpOps;simp only[aK,o6,hx,jJ,hs,hm];exact⟨h0,λi f h=>wP.mk ⟨trivial,(b i f h).out⟩,λj=>wP.mk ⟨trivial,(c j).out⟩⟩
theorem EG {d it M a i last:Nat}{x:bF}{seen:List Nat}{es:List (LV × LV)}(hx:x.ev e = .aO it 0) (hs:s.get it=some (.iter (some M) a (seen++[i]) last)) (hm:s.get M=some (.map es)) (hl:es.length=last) (b:i<es.length)
 (h:W P G K l (Tr.set e d (.cE [(es.getD i default).1,(es.getD i default).2])) s):W P G K (⟨some d, .oB x,none,[],fl⟩::l) e s:=
 q_op wN (by cases fl<;>rfl) (by simp[bq.run,hx,hs,hm,hl,hl ▸ b]) h
theorem XY {d M:Nat}{x:bF}{es:List (LV × LV)}{g:Option (Nat × Bool)}(a:aK g e=some true) (hx:x.ev e = .aR M) (hs:s.get M=some (.map es)) (h:W P G K l (Tr.set e d (.int .i64 (es.length:Int))) s):W P G K (⟨some d, .kF x,g,[],fl⟩::l) e s:=
 q_op a (by cases fl<;>rfl) (by simp[bq.run,hx,hs]) h
end
theorem tX {n:Nat}{seen:List Nat}(c:seen.Nodup) (hl:∀ i∈seen,i<n):seen.length<=n:=by
 induction n generalizing seen with
 | zero=>
   cases seen with
   | nil=>simp
   | cons a l=>exact absurd (hl a (by simp)) (Nat.not_lt_zero _)
 | succ n ih=>
   by_cases h:n∈seen
   ·have h1:=List.length_erase_of_mem h;have h2:=ih (c.erase n) λx hx=>by
     have a:=hl x (List.mem_of_mem_erase hx);have b:x≠n:=by rintro rfl;exact (List.Nodup.not_mem_erase c) hx
     omega
    have h3:=List.length_pos_of_mem h;omega
   ·have h2:=ih c λx hx=>by
     have a:=hl x hx;have b:x≠n:=by rintro rfl;exact h hx
     omega
    omega
def dm {α:Type}(row:α->List LV) (l:List α):List LV:=l.flatMap row
section
variable {α:Type}{row:α->List LV}{m:Nat}
theorem gh (a b:List α):dm row (a++b)=dm row a++dm row b:=by simp[dm]
theorem oq (x:α):dm row [x]=row x:=by simp[dm]
theorem eN (a:∀ x,(row x).length=m) (l:List α):(dm row l).length=l.length*m:=by
 induction l with
 | nil=>simp[dm]
 | cons x l ih=>
   have:(dm row (x::l))=row x++dm row l:=by simp[dm]
   rw[this,List.length_append,a,ih,List.length_cons,Nat.add_mul,Nat.one_mul,Nat.add_comm]
theorem nD (a:∀ x,(row x).length=m) {l:List α}{i:Nat}{x:α}(h:l[i]? = some x) (rest:List LV):dm row l++rest=dm row (l.take i)++(row x++(dm row (l.drop (i+1))++rest))/\(dm row (l.take i)).length=i*m:=by
 obtain⟨b,h⟩:=List.getElem?_eq_some_iff.1 h;have e:l=l.take i++x::l.drop (i+1):=by
  rw[<- h,<- List.drop_eq_getElem_cons b,List.take_append_drop]
 have c:dm row l=dm row (l.take i)++(row x++dm row (l.drop (i+1))):=by
  conv=>lhs;rw[e]
  rw[gh];simp[dm]
 refine⟨by rw[c];simp,?_⟩;rw[eN a,List.length_take,Nat.min_eq_left om]
theorem Jp (a:∀ x,(row x).length=m) {l:List α}{i:Nat}{x:α}(h:l[i]? = some x) (rest:List LV):((dm row l++rest).drop (i*m)).take m=row x:=by
 obtain⟨e,hl⟩:=nD a h rest;rw[e,<- hl,List.drop_left,<- a x,List.take_left]
theorem Cj (a:∀ x,(row x).length=m) {l:List α}{i:Nat}{x:α}(h:l[i]? = some x) (rest:List LV):i*m+m<=(dm row l++rest).length:=by
 obtain⟨e,hl⟩:=nD a h rest;rw[e,List.length_append,hl,List.length_append,a];omega
theorem xh (a:∀ x,(row x).length=m) {l:List α}{i k:Nat}{x:α}(h:l[i]? = some x) (b:k<m) (rest:List LV):(dm row l++rest)[i*m+k]? = (row x)[k]? := by
 obtain⟨e,hl⟩:=nD a h rest;have h2:=a x;rw[e,<- hl,List.getElem?_append_right om,Nat.add_sub_cancel_left,List.getElem?_append_left om]
theorem N9 (a:∀ x,(row x).length=m) {l:List α}{i k:Nat}{x y:α}{v:LV}(h:l[i]? = some x) (j:k<m) (b:row y=(row x).set k v) (rest:List LV):(dm row l++rest).set (i*m+k) v=dm row (l.set i y)++rest:=by
 obtain⟨e,hl⟩:=nD a h rest;obtain⟨c,hx⟩:=List.getElem?_eq_some_iff.1 h;have h2:=a x;have f:dm row (l.set i y)++rest=dm row (l.take i)++(row y++(dm row (l.drop (i+1))++rest)):=by
  have:=(nD (m:=m) a (l:=l.set i y) (i:=i) (x:=y) (by simp[c]) rest).1;rw[this];congr 2
  ·rw[List.take_set_of_le (Nat.le_refl i)]
  ·rw[List.drop_set_of_lt om]
 rw[f,e,<- hl,List.set_append_right _ _ om,Nat.add_sub_cancel_left,List.set_append_left _ _ om,b]
theorem lV (a:∀ x,(row x).length=m) {l:List α}{i:Nat}{x:α}(h:l[i]? = some x) {rest:List LV}{s:St}{j:Nat}{md:Md}(hs:s.get j=some (.cells md (dm row l++rest))):cz (some m) (.aO j (i*m)) s=some (.agg (row x)):=by
 have:=Cj a h rest;simp only[cz,bG,hs];rw[if_pos this,Jp a h rest]
theorem eY (b:∀ x,(row x).length=m) {l:List α}{i k:Nat}{x:α}{v:LV}(h:l[i]? = some x) (c:(row x)[k]? = some v) {rest:List LV}{s:St}{j:Nat}{md:Md}(hs:s.get j=some (.cells md (dm row l++rest))):cz none (.aO j (i*m+k)) s=some v:=by
 have a:k<m:=by
  have:=(List.getElem?_eq_some_iff.1 c).1;rw[b]at this;exact this
 simp only[cz,hs,bG];rw[xh b h a,c]
theorem Mb (a:∀ x,(row x).length=m) {l:List α}{i:Nat}{x:α}(h:l[i]? = some x) {s:St} : cz (some m) (.aY (dm row l) (i*m)) s=some (.agg (row x)):=by
 have h1:=Cj a h [];have h2:=Jp a h [];rw[List.append_nil]at h1 h2;simp[cz,bG,h1,h2]
theorem dJ {P:Program}{G:bP}{K:Env->St->Prop}{b:List bC}{e:Env}{s:St}{fl:Bool}(f:∀ x,(row x).length=m) {a x:bF}{j i k o:Nat}{l:List α}{c c':α}{v:LV}{rest:List LV}(q:a.ev e = .aO j o) (ho:o=i*m+k) (hx:x.ev e=v) (r:cells? v=some [v]) (hs:s.get j=some (.cells .mut (dm row l++rest))) (p:l[i]? = some c) (t:k<m) (u:row c'=(row c).set k v)
 (h:∀ s',s'.n=s.n->s'.get j=some (.cells .mut (dm row (l.set i c')++rest))->(∀ id,id≠j->s'.get id=s.get id)->W P G K b e s'):W P G K (⟨none, .store 1 a x,none,[],fl⟩::b) e s:=by
 subst ho;have y:=Cj f p rest;refine j7 (v:=eC) rfl (by
  simp only[bq.run,q,hx,r,hs];rw[if_pos ⟨rfl,by omega⟩]) (by cases fl<;>rfl) trivial (h (s.put j (.cells .mut (splice (dm row l++rest) (i*m+k) [v]))) rfl ?_ λid w=>by rw[St.az,if_neg w])
 rw[St.az,if_pos rfl];simp only[splice];rw[N9 f p t u]
end
def bz (n:Nat) (f:Nat->LV):List LV:=(List.range n).map f
@[simp] theorem Sy (n:Nat) (f:Nat->LV):(bz n f).length=n:=by simp[bz]
theorem cQ {n i:Nat}{f:Nat->LV}(h:i<n):(bz n f)[i]? = some (f i):=by simp[bz,h]
theorem G2 {n i:Nat}{x:LV}{f g:Nat->LV}(h:i<n) (b:∀ j,g j=if j=i then x else f j):(bz n f).set i x=bz n g:=by
 apply List.ext_getElem?;intro j;by_cases a:j<n
 ·rw[cQ a,b];by_cases e:j=i
  ·subst e;rw[List.getElem?_set_self (by simpa using a),if_pos rfl]
  ·rw[List.getElem?_set_ne om,cQ a,if_neg e]
 ·rw[List.getElem?_eq_none (by simpa using a),List.getElem?_eq_none (by simpa using a)]
theorem kR {n:Nat}{f g:Nat->LV}(h:∀ j,j<n->f j=g j):bz n f=bz n g:=by
 apply List.ext_getElem?;intro j;by_cases a:j<n
 ·rw[cQ a,cQ a,h j a]
 ·rw[List.getElem?_eq_none (by simpa using a),List.getElem?_eq_none (by simpa using a)]
theorem rep_v (n:Nat) (z:LV):rep n [z]=bz n λ_=>z:=by
 rw[JH];apply List.ext_getElem?;intro j;by_cases a:j<n
 ·rw[List.getElem?_replicate,cQ a,if_pos a]
 ·rw[List.getElem?_eq_none (by simpa using a),List.getElem?_eq_none (by simpa using a)]
section
variable {P:Program}{G:bP}{K:Env->St->Prop}{l:List bC}{e:Env}{s:St}{d:Nat}{g:Option (Nat × Bool)}{fl:Bool}
theorem vP {x y:bF}{n k bytes:Nat}{z:LV}(b:aK g e=some true) (c:s.n=k) (hx:x.ev e = .int .i64 (n:Int)) (f:y.ev e = .int .i64 (n:Int)) (h:n<=1048576) (a:bytes<=1024) (i:W P G K l (Tr.set e d (.aE k 0 n 1)) (s.new (.cells .mut (bz n λ_=>z)))):W P G K (⟨some d, .cH 1 bytes [z] x y,g,[],fl⟩::l) e s:=by
 subst c;refine q_op b rfl ?_ i;have h1:(n:Int)*(bytes:Nat)<=big:=by
  have:n*bytes<=1048576*1024:=Nat.mul_le_mul h a;unfold big;exact_mod_cast (by omega:n*bytes<=4294967296)
 have h2:(n:Int)<=big:=by unfold big;omega
 simp only[bq.run,hx,f];rw[if_pos ⟨by omega,Int.le_refl _,h1,h2,rfl⟩,Int.toNat_natCast,rep_v]
theorem jZ {a x:bF}{i q n:Nat}{v:LV}{f f':Nat->LV}(b:a.ev e = .aO i q) (hx:x.ev e=v) (c:cells? v=some [v]) (hs:s.get i=some (.cells .mut (bz n f))) (k:q<n) (o:∀ j,f' j=if j=q then v else f j)
 (h:∀ s',s'.n=s.n->s'.get i=some (.cells .mut (bz n f'))->(∀ j,j≠i->s'.get j=s.get j)->W P G K l e s'):W P G K (⟨none, .store 1 a x,none,[],fl⟩::l) e s:=
 j7 (v:=eC) rfl (by
  have:q+1<=(bz n f).length:=by simp;omega
  simp only[bq.run,b,hx,c,hs];rw[if_pos ⟨rfl,this⟩]) (by cases fl<;>rfl) trivial (h (s.put i (.cells .mut (splice (bz n f) q [v]))) rfl (by rw[St.az,if_pos rfl];simp only[splice];rw[G2 k o]) λj p=>by rw[St.az,if_neg p])
end
def ey (s:St) (M:Nat) (K:List Int):Prop:=∃ E:List (Int × LV),s.get M=some (.map (mG di E))/\(E.map (·.1)).Nodup/\(∀ p∈E,p.2 = .bool true)/\∀ k,k∈E.map (·.1)↔k∈K
theorem ey.keep {s s':St}{M:Nat}{K:List Int}(h:ey s M K) (hs:s'.get M=s.get M):ey s' M K:=by
 obtain⟨E,h1,h2⟩:=h;exact⟨E,hs.trans h1,h2⟩
theorem ey.nil {s:St}{M:Nat}(h:s.get M=some (.map [])):ey s M []:=⟨[],h,by simp,λp a=>by simp at a,λk=>by simp⟩
theorem L5 {E:List (Int × LV)}{K:List Int}(h1:∀ p∈E,p.2 = .bool true) (h2:∀ k,k∈E.map (·.1)↔k∈K) (k:Int):(eE E k).getD (.bool false) = .bool (decide (k∈K)):=by
 cases h:eE E k with
 | none=>
   have:k ∉ K:=λa=>by
    have:=yI.2 ((h2 k).2 a);rw[h]at this;cases this
   simp[this]
 | some v=>
   have hm:=Up h;have a:k∈K:=(h2 k).1 (List.mem_map.2 ⟨_,hm,rfl⟩);have:=h1 _ hm;simp only at this;subst this;simp[a]
theorem ey.up {s:St}{M:Nat}{K:List Int}{E:List (Int × LV)}(h2:(E.map (·.1)).Nodup) (h3:∀ p∈E,p.2 = .bool true) (a:∀ k,k∈E.map (·.1)↔k∈K) (k:Int) (h:s.get M=some (.map (mG di (vO E k (.bool true))))):ey s M (K++[k]):=by
 refine⟨_,h,PC E k _ h2,λp b=>?_,λj=>?_⟩
 ·rcases XO b with e | e
  ·rw[e]
  ·exact h3 p e
 ·rw[Kq,a];simp[or_comm]
section
variable {P:Program}{G:bP}{K:Env->St->Prop}{l:List bC}{e:Env}{s:St}{fl:Bool}
theorem lF {d M:Nat}{k:Int}{m a:bF}{L:List Int}{g:Option (Nat × Bool)}(c:ey s M L) (f:aK g e=some true) (hm:m.ev e = .aR M) (i:a.ev e = .int .i64 k)
 (h:∀ b,decide (k∈L)=b->W P G K l (Tr.set e d (.bool b)) s):W P G K (⟨some d, .gp (.int .i64) (.bool false) false m a,g,[],fl⟩::l) e s:=by
 obtain⟨E,h1,h2,h3,j⟩:=c;refine yg Qc (M:=M) (k:=k) (L:=E) f hm i h1 ?_;rw[L5 h3 j];exact h _ rfl
theorem ov {M:Nat}{k:Int}{m a v:bF}{L:List Int}(b:ey s M L) (hm:m.ev e = .aR M) (c:a.ev e = .int .i64 k) (f:v.ev e = .bool true)
 (h:∀ s',s'.n=s.n->ey s' M (L++[k])->(∀ id,id≠M->s'.get id=s.get id)->W P G K l e s'):W P G K (⟨none, .mZ (.int .i64) m a v,none,[],fl⟩::l) e s:=by
 obtain⟨E,h1,h2,h3,i⟩:=b;exact CA Qc (M:=M) (k:=k) (L:=E) hm c f h1 (h _ rfl (ey.up h2 h3 i k (by rw[St.az,if_pos rfl])) λid j=>by rw[St.az,if_neg j])
end
theorem ud {P:Program}{G:bP}{K:Env->St->Prop}{l:List bC}{e:Env}{s:St}{fl:Bool}{d M:Nat}{x:bF}{L:List Int}{g:Option (Nat × Bool)}(a:ey s M L) (b:L.Nodup) (c:aK g e=some true) (hx:x.ev e = .aR M) (h:W P G K l (Tr.set e d (.int .i64 (L.length:Int))) s):W P G K (⟨some d, .kF x,g,[],fl⟩::l) e s:=by
 obtain⟨E,h1,h2,h3,f⟩:=a;refine XY (M:=M) c hx h1 ?_;have i:(E.map (·.1)).Perm L:=(List.perm_ext_iff_of_nodup h2 b).2 f;have:=i.length_eq;rw[List.length_map]at this;rw[fc,this];exact h
theorem ey.mem {s:St}{M:Nat}{K a:List Int}(h:ey s M K) (b:∀ k,k∈K↔k∈a):ey s M a:=by
 obtain⟨E,h1,h2,h3,c⟩:=h;exact⟨E,h1,h2,h3,λk=>(c k).trans (b k)⟩
structure xe (s:St) (n:Nat) (F:Nat->Nat) (K:Nat->List Int):Prop where
  ms:∀ j,j<n->ey s (F j) (K j)
  lt:∀ j,j<n->F j<s.n
  inj:∀ j j',j<n->j'<n->F j=F j'->j=j'
theorem xe.keep {s s':St}{n:Nat}{F:Nat->Nat}{K:Nat->List Int}(h:xe s n F K) (b:s.n<=s'.n) (hs:∀ j,j<n->s'.get (F j)=s.get (F j)):xe s' n F K:=
 ⟨λj a=>(h.ms j a).keep (hs j a),λj a=>by have:=h.lt j a;omega,h.inj⟩
theorem xe.up {s s':St}{n j:Nat}{F:Nat->Nat}{K b:Nat->List Int}(h:xe s n F K) (c:j<n) (o:s'.n=s.n) (hm:ey s' (F j) (b j)) (hs:∀ id,id≠F j->s'.get id=s.get id) (f:∀ i,i<n->i≠j->b i=K i):xe s' n F b :=
 ⟨λi a=>by
  by_cases e:i=j
  ·subst e;exact hm
  ·rw[f i a e];exact (h.ms i a).keep (hs _ λk=>e (h.inj i j a c k)),λi a=>by have:=h.lt i a;omega,h.inj⟩
theorem xe.snoc {s s':St}{n M:Nat}{F o:Nat->Nat}{K c:Nat->List Int}(h:xe s n F K) (t:s.n<=s'.n) (hs:∀ j,j<n->s'.get (F j)=s.get (F j)) (p:∀ j,j<n->F j≠M) (hl:M<s'.n) (hm:ey s' M (c n)) (b:∀ j,o j=if j=n then M else F j) (r:∀ j,j<n->c j=K j):xe s' (n+1) o c :=
 ⟨λj q=>by
  by_cases e:j=n
  ·subst e;rw[b,if_pos rfl];exact hm
  ·rw[b,if_neg e,r j om];exact (h.ms j om).keep (hs j om),λj q=>by
  by_cases e:j=n
  ·rw[b,if_pos e];exact hl
  ·rw[b,if_neg e];have:=h.lt j (by omega);omega,λi j u q a=>by
  rw[b,b]at a;by_cases f:i=n<;>by_cases k:j=n
  ·omega
  ·rw[if_pos f,if_neg k]at a;exact absurd a.symm (p j om)
  ·rw[if_neg f,if_pos k]at a;exact absurd a (p i om)
  ·rw[if_neg f,if_neg k]at a;exact h.inj i j om om a⟩
theorem xe.zero (s:St) (F:Nat->Nat) (K:Nat->List Int):xe s 0 F K:=⟨λj a=>absurd a om,λj a=>absurd a om,λi j b=>absurd b om⟩
theorem xe.ext {s:St}{n:Nat}{F:Nat->Nat}{K a:Nat->List Int}(h:xe s n F K) (c:∀ i,i<n->∀ x,x∈K i↔x∈a i):xe s n F a:=⟨λj b=>(h.ms j b).mem (c j b),h.lt,h.inj⟩
def Sx (s:St) (v:LV) (cells:List LV) (n:Nat):Prop:=cells.length=n/\((v = .aq/\n=0)∨∃ j,v = .aE j 0 n 1/\j<s.n/\s.get j=some (.cells .mut cells))
theorem Sx.nil (s:St):Sx s .aq [] 0:=⟨rfl, .inl ⟨rfl,rfl⟩⟩
theorem Sx.cell {s:St}{v:LV}{n:Nat}{cells:List LV}(h:Sx s v cells n):bf v=true:=by
 obtain⟨_,⟨rfl,rfl⟩ | ⟨j,rfl,_⟩⟩:=h<;>rfl
theorem Sx.lt {s:St}{v:LV}{n:Nat}{cells:List LV}(h:Sx s v cells n) {id:Nat}(a:aQ v id):id<s.n:=by
 obtain⟨_,⟨rfl,rfl⟩ | ⟨j,rfl,h2,_⟩⟩:=h
 ·exact absurd a (bE id)
 ·rw[aI.1 a];exact h2
theorem Sx.mono {s s':St}{v:LV}{n:Nat}{cells:List LV}(h:Sx s v cells n) (a:s.n<=s'.n) (hs:∀ id,aQ v id->s'.get id=s.get id):Sx s' v cells n:=by
 obtain⟨h0,h | ⟨j,h1,h2,h3⟩⟩:=h
 ·exact⟨h0, .inl h⟩
 ·exact⟨h0, .inr ⟨j,h1,by omega,by rw[hs j (h1 ▸ aI.2 rfl)];exact h3⟩⟩
theorem Sx.row {s:St}{v:LV}{n:Nat}{cells:List LV}(h:Sx s v cells n):rowOf s 1 n v=some cells:=by
 obtain⟨h0,⟨rfl,rfl⟩ | ⟨j,rfl,h2,h3⟩⟩:=h
 ·rw[List.length_eq_zero_iff.1 h0];rfl
 ·simp only[rowOf,h3,Nat.le_refl,Nat.zero_add,Nat.mul_one,h0,and_self,if_true,List.drop_zero];rw[List.take_of_length_le om]
theorem Sx.app {s:St}{v:LV}{n bytes k:Nat}{cells vs:List LV}(h:Sx s v cells n) (b:vs.length=k) (c:(n+k)*bytes<=big):∃ r s',bT 1 bytes v vs k s=some (r,s')/\Sx s' r (cells++vs) (n+k)/\s.n<=s'.n/\(∀ id,id<s.n->¬ aQ v id->s'.get id=s.get id)/\∀ id,aQ r id->s.n<=id:=by
 obtain⟨h0,⟨rfl,rfl⟩ | ⟨j,rfl,h2,h3⟩⟩:=h
 ·have i:cells=[]:=List.length_eq_zero_iff.1 h0;subst i;by_cases e:k=0
  ·subst e;have f:vs=[]:=List.length_eq_zero_iff.1 b;subst f;exact⟨.aq,s,by simp[bT],⟨rfl, .inl ⟨rfl,rfl⟩⟩,Nat.le_refl _,λ_ _ _=>rfl,λid a=>absurd a (bE id)⟩
  ·refine⟨.aE s.n 0 k 1,s.new (.cells .mut vs),?_,⟨by simpa using b, .inr ⟨s.n,by rw[Nat.zero_add],by simp,by rw[St.aA,if_pos rfl];rfl⟩⟩,by simp,λid o _=>by rw[St.aA,if_neg om],λid a=>by have:=aI.1 a;omega⟩;simp only[bT];rw[if_neg e,if_pos ⟨by rw[Nat.zero_add]at c;exact c,by omega⟩]
 ·refine⟨.aE s.n 0 (n+k) 1,(s.put j (.cells .ro [])).new (.cells .mut (cells++vs)),?_,⟨by rw[List.length_append];omega, .inr ⟨s.n,rfl,by simp,by rw[St.aA,St.eo,if_pos rfl]⟩⟩,by simp,λid o a=>?_,λid a=>by have:=aI.1 a;omega⟩
  ·simp only[bT,if_true,h3,Nat.zero_add,Nat.mul_one,h0,Nat.le_refl,c,b,and_self,List.drop_zero];rw[List.take_of_length_le om];rfl
  ·have dB:id≠j:=λe=>a (aI.2 e);rw[St.aA,St.eo,if_neg om,St.az,if_neg dB]
section
variable {P:Program}{G:bP}{K:Env->St->Prop}{l:List bC}{e:Env}{s:St}{fl MZ:Bool}
theorem HG {a b bytes n k:Nat}{y:bF}{z:List LV}{ps:List (Nat × Nat × bF)}{yv:LV}{vs cells:List LV}(o:aU (rep k z) (bt e ps)=some vs) (i:vs.length=k) (p:LV.closed.au vs=true) (q:y.ev (Tr.set e a (.aE s.n 0 k 1))=yv) (hs:Sx s yv cells n) (u:(n+k)*bytes<=big)
 (h:∀ s' r,Sx s' r (cells++vs) (n+k)->s.n<=s'.n->(∀ id,id<s.n->¬ aQ yv id->s'.get id=s.get id)->(∀ id,aQ r id->s.n<=id)->W P G K l (Tr.set (Tr.set e a (.aE s.n 0 k 1)) b r) s') :
 W P G K (⟨some a, .bu 1 k z ps,none,[],fl⟩::⟨some b, .append 1 bytes y (.t a),none,[],MZ⟩::l) e s:=by
 refine j7 (v:=.aE s.n 0 k 1) (s':=s.new (.cells .mut vs)) rfl (by simp only[bq.run,o,Option.bind_eq_bind,Option.bind_some]) (by cases fl<;>rfl) trivial ?_;simp only[Env.aB];have w:rowOf (s.new (.cells .mut vs)) 1 k (.aE s.n 0 k 1)=some vs:=by
  simp only[rowOf,St.aA,if_true,Nat.le_refl,Nat.mul_one,Nat.zero_add,i,and_self,List.drop_zero];rw[List.take_of_length_le om]
 have x:=hs.mono (s':=s.new (.cells .mut vs)) (by simp) λid c=>by rw[St.aA,if_neg (by have:=hs.lt c;omega)]
 obtain⟨r,s',A,B,C,D,c⟩:=x.app (vs:=vs) i u;refine eD rfl q (by simp) rfl w (gw p) A ?_;refine h s' r B (by simp at C;omega) (λid j f=>?_) λid j=>by have:=c id j;simp at this;omega
 rw[D id (by simp;omega) f,St.aA,if_neg om]
theorem CB {b bytes n k:Nat}{x y:bF}{xv yv:LV}{vs cells:List LV}{g:Option (Nat × Bool)}(i:aK g e=some true) (hx:x.ev e=xv) (c:Sl xv vs k) (f:vs.length=k) (j:LV.closed.au vs=true) (o:y.ev e=yv) (hs:Sx s yv cells n) (p:(n+k)*bytes<=big)
 (h:∀ s' r,Sx s' r (cells++vs) (n+k)->s.n<=s'.n->(∀ id,id<s.n->¬ aQ yv id->s'.get id=s.get id)->(∀ id,aQ r id->s.n<=id)->W P G K l (Tr.set e b r) s') :
 W P G K (⟨some b, .append 1 bytes y x,g,[],fl⟩::l) e s:=by
 have a:o8 xv=some k:=by cases c<;>first | rfl | simp[o8]
 have q:rowOf s 1 k xv=some vs:=by
  cases c with
  | nil=>rfl
  | zs=>rfl
  | aF=>simp only[rowOf,Nat.le_refl,Nat.mul_one,f,and_self,if_true];rw[List.take_of_length_le om]
 obtain⟨r,s',t,u,v,w,z⟩:=hs.app (vs:=vs) f p;exact eD i o hx a q (gw j) t (h s' r u v w z)
end
open Go Go.Sort Go.Proofs Go.RowKit
namespace SorI
theorem Cq {α:Type} [Inhabited α] (enc:α->Value) (w:World) (dR off:Nat) (d:Array α) (k:Nat):(putRow enc w dR off d).shape? k=w.shape? k:=by
 unfold World.shape? putRow mapBlock;simp only[Array.getElem?_modify];by_cases h:dR=k
 ·subst h;simp only[if_true];cases w.heap[dR]? with
  | none=>rfl
  | some o=>cases o<;>simp[onCells,putCells]
 ·simp[h]
theorem Ci {α:Type} [Inhabited α] {enc:α->Value}{w:World}{dR off:Nat}{d0 d:Array α}(h0:Holds enc w dR off d0) (hs:d.size=d0.size):uZ dR off (d.toList.map enc) w (putRow enc w dR off d) where
 os:=rfl
 tape:=rfl
 output:=rfl
 size:=by simp
 block:=λk hk=>by
  unfold putRow mapBlock;simp only[Array.getElem?_modify];rw[if_neg (λh=>hk h.symm)]
 BT:=λi hi=>by
  have eU:i<d.size:=by simpa using hi
  rw[cell?_putRow enc w dR off d0 d h0 hs i eU];simp[gD,eU,getElem!_pos]
 yD:=λc hc=>cell?_putRow_other enc w dR off d c (by simpa using hc)
 frozen:=λc=>frozen?_putRow enc w dR off d c
 shape:=λk=>Cq enc w dR off d k
theorem Nf {P : Program}{G : bP}{k : FuncId}{fn : Func}{body : Code}(hf : P.funcs[k]? = some fn) (hn : (fn.name == "runtime.NumGoroutine") = false) (wC : fn.body = some body)
 (hcon:∀ (dR off cap:Nat) (zs:List Int) (w:World),Holds (Value.int .i64) w dR off zs.toArray->dR<w.heap.size->zs.length<4611686018427387904->Calls P k #[.slice (some ⟨dR,off,none⟩) zs.length cap] w λe w'=>e = .returned (.tuple #[])/\∃ n os,w'=grow (putRow (Value.int .i64) (Sort.ahead w n) dR off (zs.mergeSort λx y=>decide (x<=y)).toArray) os)
 {s:St}{j:Nat}{l:List Int}{rest:List LV}(hs:s.get j=some (.cells .mut (ints l++rest))) (pe:1<=l.length) (xE:l.length<=1048576) :
 aM P G (.fn (.func k) [] []) [.aE j 0 l.length 1] s (λ_ s'=>s'=s.put j (.cells .mut (ints (l.mergeSort λx y=>decide (x<=y))++rest))):=by
 intro w0 μ ι δ w vf cx c cs hN Fq jQ wW;cases Fq with
 | fn hl oe hr wX =>
   rename_i va vb;obtain rfl:va = #[]:=Array.eq_empty_of_size_eq_zero hl;obtain rfl:vb = #[]:=Array.eq_empty_of_size_eq_zero oe;obtain⟨x,rfl⟩:∃ x,cx = #[x]:=by
    have h2:cx.size=1:=jQ;refine⟨cx[0],?_⟩;apply Array.ext (by simp[h2]);intro i hi1 qz;have:i=0:=by omega
    subst this;rfl
   have h0:Rv μ ι w (.aE j 0 l.length 1) x:=by simpa using wW 0 (by simp)
   cases h0 with
   | aE hp ia pM tT=>
     rename_i cap p off';obtain rfl:off'=0:=tT om;have I:=hN.inv;have hb:=I.dR j _ p hs hp;obtain⟨⟨sh,b0⟩,b1,b2,b3,b4,b5,b6⟩:=hb;have xD:(ints l).length=l.length:=by simp
     have bV:(ints l++rest).length=l.length+rest.length:=by simp
     have kX:=I.oh j p hp;have hH:Holds (Value.int .i64) w p.b (p.off+0) l.toArray:=by
      intro t ht;have YY:t<l.length:=by simpa using ht
      obtain⟨v,hc,_,ij⟩:=b2 t om;rw[Nat.add_zero];refine⟨?_,b3 _⟩;have h1:=ij om;rw[gD,List.getElem?_append_left (by rw[xD];exact YY),bB om]at h1;rw[hc];cases h1;simp[gD,YY]
     obtain⟨e,w',fr,⟨rfl,n,os,rfl⟩,hcm,SS,hlv⟩:=hcon p.b (p.off+0) cap l w hH kX.2.2 om (c::cs);have hZl:(l.mergeSort λx y=>decide (x<=y)).length=l.length:=List.length_mergeSort l;generalize (l.mergeSort λx y=>decide (x<=y))=z at *;have S1:cZ w (Sort.ahead w n):=⟨rfl,rfl,rfl,Nat.le_refl _,λ_ _=>rfl⟩;have I1:=I.same S1;have x1:=I.fk S1;have hH1:Holds (Value.int .i64) (Sort.ahead w n) p.b (p.off+0) l.toArray:=hH;have hW:=Ci hH1 (d:=z.toArray) (by simp[hZl]);have kV:∀ t,t<z.length->((z.toArray.toList.map (Value.int .i64)).getD t undef) = .int .i64 (z.getD t 0):=λt ht=>by
      simp[gD,ht]
     obtain⟨I2,x2⟩:=I1.write hs hp (ints z) (z.toArray.toList.map (Value.int .i64)) (off:=0) (by simp) (by rw[List.length_append,xD];simp;omega) (λi hi=>by
      have eU:i<z.length:=by simpa using hi
      rw[kV i eU,gD,bB om];exact .int _ _) (λi hi=>by
      have eU:i<z.length:=by simpa using hi
      rw[kV i eU];rfl) hW
     have SC:splice (ints l++rest) 0 (ints z)=ints z++rest:=by
      have:=tf (ints z) [] (ints l) rest (by simp[hZl]);simpa using this
     rw[SC]at I2;have S3:cZ (putRow (Value.int .i64) (Sort.ahead w n) p.b (p.off+0) z.toArray) (grow (putRow (Value.int .i64) (Sort.ahead w n) p.b (p.off+0) z.toArray) os):=by
      refine⟨rfl,rfl,rfl,?_,λq hq=>?_⟩
      ·simp[grow]
      ·simp only[grow];rw[Array.getElem?_append_left (by simpa using hq)]
     have I3:=I2.same S3;have x3:=I2.fk S3;have hinv:(invoke (.fn (.func k) #[]) (#[]++#[Value.slice (some ⟨p.b,p.off+0,none⟩) l.length cap])).run P w = .ok (.enter k #[.slice (some ⟨p.b,p.off+0,none⟩) l.length cap]) w:=by
      have fI : ¬ fn.name = "runtime.NumGoroutine" := by simpa using hn
      simp[invoke,callFunc,hf,fI,wC]
     refine⟨.cE [],s.put j (.cells .mut (ints z++rest)),μ,ι,_, .tuple #[],rfl,⟨_,_,_,λw=>qf (.func k) #[] #[] _ P w,hinv,?_⟩,I3,(x1.trans x2).trans x3,⟨Nat.le_refl _,λid aS hm=>?_,λ_ _ h=>h⟩, .cE rfl (λi hi=>absurd hi (Nat.not_lt_zero i))⟩
     ·refine Steps.trans ?_ (.one (step_leave_returned hlv));have gV:Steps P _ _:=hcm;simpa using gV
     ·rw[St.az,if_neg];rintro rfl;rw[hp]at hm;cases hm
end SorI
end Go.Pv
end
