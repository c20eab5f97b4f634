/- Maps, bytes as a string, slices without room. -/
import Derived.Test.YtkbiecjdcjfhaaaPvAlloc
import Derived.MapKept
import Derived.Laws.BytesString
set_option linter.unusedSimpArgs false
set_option linter.unusedVariables false
set_option maxRecDepth 100000
set_option maxHeartbeats 16000000
section
namespace Go.Pv
open Go Go.RowKit Go.MapKept
section
variable {P:Program}{w:World}{w0:Bs}{μ:Mu}{ι:Io}{δ:Nat->Prop}{s s':St}{cmp:Nat->bp->Code->Prop}{c:Ctx}{e:Env}{a:Act}{o:Oper}{v:LV}
theorem rJ {t:TypeId}{kd:zj}(h:mj P t=some kd) :
 (∃ d,P.underlying t=some d/\(∀ es,kd≠.st es)/\∀ {k:LV}{x:Value},Rv μ ι w k x->iu kd k=true->IsKey d x) ∨
 (∃ es fs, kd = .st es /\ P.underlying t = some (.struct fs) /\ P.stoodInHeld t = false /\ fs.toList.all (fun f => f.name != "_") = true /\ mT P fs.toList = some es) := by
 unfold mj at h;cases hu:P.underlying t with
 | none=>simp[hu]at h
 | some d=>
   rw[hu]at h;cases d<;>simp only[Option.some.injEq,reduceCtorEq]at h
   case int k=>
    subst h;refine .inl ⟨_,rfl,λes h=>(by cases h),fun {k x} hk cQ=>?_⟩;cases hk<;>simp[iu]at cQ;exact cQ
   case string=>
    subst h;refine .inl ⟨_,rfl,λes h=>(by cases h),fun {k x} hk cQ=>?_⟩;cases hk<;>simp[iu]at cQ;trivial
   case struct fs=>
    split at h
    ·rename_i es he;cases h;unfold Ll at he;rw[hu]at he;simp only at he;split at he
     ·cases he
     ·rename_i hg;simp only[Bool.or_eq_true,not_or,Bool.not_eq_true]at hg;split at he
      ·rename_i bY;obtain⟨es',A5,h2⟩:=cP he;cases h2;exact .inr ⟨_,fs,rfl,rfl,hg.1,bY,A5⟩
      ·cases he
    ·cases h
theorem H8 {x:LV}{xs:List LV}{u:Value}{us:List Value}(h:Ra μ ι w (x::xs) (u::us).toArray):Rv μ ι w x u/\Ra μ ι w xs us.toArray:=by
 refine⟨by simpa using h.2 0 (by simp),by simpa using h.1,λi d=>?_⟩;have:=h.2 (i+1) (by simpa using d);simpa[gF] using this
theorem BB:∀ {xs d:List LV}{us vs:List Value},Ra μ ι w xs us.toArray->Ra μ ι w d vs.toArray->jI xs d=true->us=vs/\∀ u∈us,∃ k n,u = .int k n:=by
 intro xs;induction xs with
 | nil=>
   intro d us vs hx g h;cases d<;>simp only[jI,Bool.false_eq_true]at h;have h1:us=[]:=List.length_eq_zero_iff.1 (by simpa using hx.1);have h2:vs=[]:=List.length_eq_zero_iff.1 (by simpa using g.1);subst h1;subst h2;exact⟨rfl,λu f=>by cases f⟩
 | cons x xs ih=>
   intro d us vs hx g h;cases d with
   | nil=>cases x<;>simp[jI]at h
   | cons y d=>
     have h1:=hx.1;have h2:=g.1;cases us with
     | nil=>simp at h1
     | cons u us=>
       cases vs with
       | nil=>simp at h2
       | cons v vs=>
         obtain⟨r1,j⟩:=H8 hx;obtain⟨r2,l⟩:=H8 g;cases r1<;>(try (simp only[jI,Bool.false_eq_true]at h;done));cases r2<;>simp only[jI,Bool.false_eq_true,Bool.and_eq_true,beq_iff_eq]at h;obtain⟨⟨rfl,rfl⟩,h⟩:=h;obtain⟨rfl,m⟩:=ih j l h;refine⟨rfl,λu f=>?_⟩;rcases List.mem_cons.1 f with rfl | f
         ·exact⟨_,_,rfl⟩
         ·exact m u f
theorem zl {us:Array Value}(h:∀ u∈us.toList,∃ k n,u = .int k n) (m:Nat):Instr.sameBits (m+1) (.agg us) (.agg us)=true:=by
 simp only[Instr.sameBits,beq_self_eq_true,Bool.true_and];generalize us.toList=l at h;induction l with
 | nil=>rfl
 | cons u l ih=>
   obtain⟨k,n,rfl⟩:=h u (by simp);simp only[List.zip_cons_cons,List.all_cons,Bool.and_eq_true];refine⟨?_,ih λv d=>h v (by simp[d])⟩;cases m<;>simp[Instr.sameBits]
theorem Ky {d:TypeDesc}{k m:LV}{x j:Value}{b:Bool}(hx:Rv μ ι w k x) (p:Rv μ ι w m j) (n:IsKey d x) (h:tC k m=some b):Instr.sameNow d x j=some b/\(b=true->j=x):=by
 cases hx<;>cases p<;>simp only[tC,reduceCtorEq]at h
 ·split at h
  ·rename_i q;subst q;cases h;cases d<;>simp only[IsKey]at n;refine⟨by simp[Instr.sameNow],λg=>?_⟩;have:=eq_of_beq g;rw[this]
  ·cases h
 ·cases h;rename_i l b2;cases d<;>simp only[IsKey]at n;have f:(l == b2)=decide (l.data.toList=b2.data.toList):=by
   apply Bool.eq_iff_iff.2;rw[bytes_beq,decide_eq_true_iff];constructor
   ·rintro rfl;rfl
   ·intro h;cases l;cases b2;congr 1;exact Array.ext' h
  refine⟨by simp[Instr.sameNow,f],λg=>?_⟩;rw[<- f]at g;rw[(bytes_beq _ _).1 g]
theorem Kh {d:TypeDesc}{kd:zj}(A:∀ es,kd≠.st es) {k:LV}{x:Value}(hx:Rv μ ι w k x) (B:IsKey d x):∀ (es:List (LV × LV)) (l:List MapEntry) (i:Nat) (r:Option (Nat × LV)),l.length=es.length ->
 (∀ j,j<es.length->Rv μ ι w (es.getD j default).1 (l.getD j default).key/\Rv μ ι w (es.getD j default).2 (l.getD j default).val)->fu kd k es i=some r ->
 match r with
 | none=>Instr.findNow d x l i=some none
 | some (n,v)=>∃ j en,n=i+j/\l[j]? = some en/\Instr.findNow d x l i=some (some (n,en.val))/\Rv μ ι w v en.val/\en.key=x:=by
 have m:∀ k f,iM kd k f=tC k f:=λk f=>by
  cases kd with
  | st es=>exact absurd rfl (A es)
  | _=>rfl
 intro es;induction es with
 | nil=>
   intro l i r hl _ h;cases h;obtain rfl:=List.length_eq_zero_iff.1 hl;rfl
 | cons p es ih=>
   obtain⟨f,v'⟩:=p;intro l i r hl z h;match l,hl with
   | en :: l, hl =>
     have h0:=z 0 (by simp);have g:Rv μ ι w f en.key/\Rv μ ι w v' en.val:=by simpa using h0
     simp only[fu,m]at h;cases t:tC k f with
     | none=>rw[t]at h;cases h
     | some b=>
       rw[t]at h;obtain⟨hs,C⟩:=Ky hx g.1 B t;cases b with
       | true=>
         cases h;exact⟨0,en,rfl,rfl,by simp[Instr.findNow,hs],g.2,C rfl⟩
       | false=>
         have:=ih l (i+1) r (by simpa using hl) (λj D=>by simpa using z (j+1) (by simpa using D)) h;cases r with
         | none=>simp only at this ⊢;simp[Instr.findNow,hs,this]
         | some q=>
           obtain⟨n,u⟩:=q;obtain⟨j,y,h1,h2,h3,E,F⟩:=this;exact⟨j+1,y,by omega,by simpa using h2,by simp[Instr.findNow,hs,h3],E,F⟩
theorem D6 {kt : TypeId}{fs : Array Field}{es : List (Nat × Nat × cL)}(hu : P.underlying kt = some (.struct fs)) (dO : P.stoodInHeld kt = false) (bY : fs.toList.all (fun f => f.name != "_") = true)
 (A5:mT P fs.toList=some es) {k k':LV}{x x':Value}{b:Bool}(hx:Rv μ ι w k x) (IP:Rv μ ι w k' x') (h:iM (.st es) k k'=some b) :
 (Op.equal kt x x').run P w = .ok b w/\(b=true->(Instr.keyThatStays x' x).run P w = .ok x w):=by
 cases hx<;>simp only[iM,reduceCtorEq]at h;cases IP<;>simp only[reduceCtorEq]at h;rename_i xs us hl hr ys vs nT uT;have hf:P.fieldsOf kt=fs:=by simp[Program.fieldsOf,hu]
 have bK:=run_equalIn_struct (P:=P) w 9999 kt us vs (by rw[hf];exact hu) dO;split at h
 ·rename_i he;split at h
  ·rename_i fK;cases h;rw[hf,ot (c:=⟨P,[],[],0⟩) 9997 ⟨hl,hr⟩ ⟨nT,uT⟩ fs.toList es true bY A5 he]at bK;refine⟨bK,λ_=>?_⟩;have Yv:Ra μ ι w xs us.toList.toArray:=⟨by simpa using hl,by simpa using hr⟩;have hy0:Ra μ ι w ys vs.toList.toArray:=⟨by simpa using nT,by simpa using uT⟩;obtain⟨he2,hints⟩:=BB Yv hy0 fK;obtain rfl:us=vs:=Array.ext' he2;simp[Instr.keyThatStays,zl hints 9999]
  ·cases h
 ·rename_i dH;rw[hf,ot (c:=⟨P,[],[],0⟩) 9997 ⟨hl,hr⟩ ⟨nT,uT⟩ fs.toList es b bY A5 h]at bK;refine⟨bK,λhb=>?_⟩;subst hb;exact absurd h dH
theorem DP {kt : TypeId}{fs : Array Field}{XW : List (Nat × Nat × cL)}(hu : P.underlying kt = some (.struct fs)) (dO : P.stoodInHeld kt = false) (bY : fs.toList.all (fun f => f.name != "_") = true)
 (A5:mT P fs.toList=some XW) {k:LV}{x:Value}(hx:Rv μ ι w k x):∀ (es:List (LV × LV)) (l:List MapEntry) (i:Nat) (r:Option (Nat × LV)),l.length=es.length ->
 (∀ j,j<es.length->Rv μ ι w (es.getD j default).1 (l.getD j default).key/\Rv μ ι w (es.getD j default).2 (l.getD j default).val)->fu (.st XW) k es i=some r ->
 match r with
 | none=>(Instr.findAsking kt x l i).run P w = .ok none w
 | some (n,v)=>∃ j en,n=i+j/\l[j]? = some en/\(Instr.findAsking kt x l i).run P w = .ok (some (n,en.val)) w/\Rv μ ι w v en.val/\(Instr.keyThatStays en.key x).run P w = .ok x w:=by
 intro es;induction es with
 | nil=>
   intro l i r hl _ h;cases h;obtain rfl:=List.length_eq_zero_iff.1 hl;rfl
 | cons p es ih=>
   obtain⟨k',v'⟩:=p;intro l i r hl hr h;match l,hl with
   | en :: l, hl =>
     have h0:=hr 0 (by simp);have h0':Rv μ ι w k' en.key/\Rv μ ι w v' en.val:=by simpa using h0
     simp only[fu]at h;cases hq:iM (.st XW) k k' with
     | none=>rw[hq]at h;cases h
     | some b=>
       rw[hq]at h;obtain⟨hs,he⟩:=D6 hu dO bY A5 hx h0'.1 hq;cases b with
       | true=>
         cases h;exact⟨0,en,rfl,rfl,by simp[Instr.findAsking,hs],h0'.2,he rfl⟩
       | false=>
         have:=ih l (i+1) r (by simpa using hl) (λj hj=>by simpa using hr (j+1) (by simpa using hj)) h;cases r with
         | none=>simp only at this ⊢;simp[Instr.findAsking,hs,this]
         | some q=>
           obtain⟨n,u⟩:=q;obtain⟨j,en',h1,h2,h3,h4,h5⟩:=this;exact⟨j+1,en',by omega,by simpa using h2,by simp[Instr.findAsking,hs,h3],h4,h5⟩
theorem qb {g:TypeId}{kd:zj}(D:mj P g=some kd) {k:LV}{x:Value}(hx:Rv μ ι w k x) (E:iu kd k=true) {es:List (LV × LV)}{l:List MapEntry}(hl:l.length=es.length)
 (A:∀ j,j<es.length->Rv μ ι w (es.getD j default).1 (l.getD j default).key/\Rv μ ι w (es.getD j default).2 (l.getD j default).val) {r:Option (Nat × LV)}(h:fu kd k es 0=some r) :
 match r with
 | none=>(Instr.findKey g x l).run P w = .ok none w
 | some (n,v)=>∃ en,l[n]? = some en/\(Instr.findKey g x l).run P w = .ok (some (n,en.val)) w/\Rv μ ι w v en.val/\(Instr.keyThatStays en.key x).run P w = .ok x w:=by
 rcases rJ (μ:=μ) (ι:=ι) (w:=w) D with⟨d,B,F,H⟩ | ⟨M,fs,rfl,p,t,I,J⟩
 ·have C:=H hx E;have:=Kh F hx C es l 0 r hl A h;cases r with
  | none=>exact MapKept.run_findKey B this
  | some q=>
    obtain⟨n,v⟩:=q;obtain⟨j,en,K,f,u,y,rfl⟩:=this;obtain rfl:n=j:=by omega
    exact⟨en,f,MapKept.run_findKey B u,y,MapKept.run_keyThatStays C⟩
 ·have:=DP p t I J hx es l 0 r hl A h;have m:∀ {a},(Instr.findAsking g x l 0).run P w = .ok a w->(Instr.findKey g x l).run P w = .ok a w:=fun {a} z=>by
   cases l with
   | nil=>
     simp only[Instr.findAsking]at z;simp[Instr.findKey,ru p,Instr.findNow];simpa using z
   | cons en l=>
     have L:Instr.findNow (.struct fs) x (en::l) 0=none:=by simp[Instr.findNow,Instr.sameNow]
     simp[Instr.findKey,ru p,L,z]
  cases r with
  | none=>exact m this
  | some q=>
    obtain⟨n,v⟩:=q;obtain⟨j,en,K,f,u,y,t⟩:=this;obtain rfl:n=j:=by omega
    exact⟨en,f,m u,y,t⟩
theorem E4 {em:Bool}(n:Nat) {us:Array Value} : ∀ (fs:List Field) (es:List (Nat × Nat × cL)),mE P fs=some es->es.all (λf=>f.1<us.size)=true ->
 (forIn fs PUnit.unit (fun f _ => if f.name ≠ "_" then (do let x <- part f.type us f.offset; Instr.checkKey em (n + 1) f.type x; pure (ForInStep.yield PUnit.unit)) else pure (ForInStep.yield PUnit.unit)) : Sem PUnit).run P w = .ok PUnit.unit w := by
 intro fs;induction fs with
 | nil=>intro es _ _;simp
 | cons f fs ih=>
   intro es hm ha;unfold mE at hm;rw[List.mapM_cons]at hm;cases hs:pM P f.type with
   | none=>simp[hs]at hm
   | some et=>
     cases hl:fs.mapM (λf=>(pM P f.type).map λe=>(f.offset,1,e)) with
     | none=>simp[hs,hl]at hm
     | some es' =>
       simp[hs,hl]at hm;subst hm;simp only[List.all_cons,Bool.and_eq_true,decide_eq_true_eq]at ha;have CU:(part f.type us f.offset).run P w = .ok us[f.offset] w:=by simp[part,kP (c:=⟨P,[],[],0⟩) hs,ha.1]
       have oS:∀ v:Value,(Instr.checkKey em (n+1) f.type v).run P w = .ok () w:=λv=>by
        unfold pM at hs;cases hu:P.underlying f.type with
        | none=>simp[hu]at hs
        | some d=>
          rw[hu]at hs;cases d<;>simp only[Option.some.injEq,reduceCtorEq]at hs<;>simp[Instr.checkKey,ru hu]
       have pV:=ih es' hl ha.2;by_cases hn : f.name = "_"
       ·simp only[List.forIn_cons,Sem.run_bind,hn,ne_eq,not_true_eq_false,if_false,Result.andThen_ok,Sem.run_pure];exact pV
       ·simp only[List.forIn_cons,Sem.run_bind,hn,ne_eq,not_false_eq_true,if_true,Result.andThen_ok,Sem.run_pure,CU,oS];exact pV
theorem wC {em:Bool}(n:Nat) {us:Array Value} : ∀ (fs:List Field) (es:List (Nat × Nat × cL)),mT P fs=some es->es.all (λf=>f.1<us.size)=true ->
 (forIn fs PUnit.unit (fun f _ => if f.name ≠ "_" then (do let x <- part f.type us f.offset; Instr.checkKey em (n + 2) f.type x; pure (ForInStep.yield PUnit.unit)) else pure (ForInStep.yield PUnit.unit)) : Sem PUnit).run P w = .ok PUnit.unit w := by
 intro fs;induction fs with
 | nil=>intro es _ _;simp
 | cons f fs ih=>
   intro es hm ha;simp only[mT]at hm;split at hm
   ·rename_i a hfa;split at hm
    ·rename_i es' hfs;cases hm;rw[List.all_append,Bool.and_eq_true]at ha;have pV:=ih es' hfs ha.2;have key:∃ u,(part f.type us f.offset).run P w = .ok u w/\(Instr.checkKey em (n+2) f.type u).run P w = .ok () w:=by
      rcases vU hfa with⟨et,hs,rfl⟩ | ⟨gs,k,l,hu,hn,dO,bY,cm,hl,rfl⟩
      ·have h1:f.offset<us.size:=by simpa using ha.1
       refine⟨us[f.offset],by simp[part,kP (c:=⟨P,[],[],0⟩) hs,h1],?_⟩;unfold pM at hs;cases hu:P.underlying f.type with
       | none=>simp[hu]at hs
       | some d=>
         rw[hu]at hs;cases d<;>simp only[Option.some.injEq,reduceCtorEq]at hs<;>simp[Instr.checkKey,ru hu]
      ·refine⟨.agg (us.extract f.offset (f.offset+k)),by simp[part,isAgg,ru hu,wj hn],?_⟩;have nJ:l.all (λp=>p.1<(us.extract f.offset (f.offset+k)).size)=true:=by
        rw[List.all_eq_true];intro p hp;have h1:=Ai _ hl cm p hp;have h2:=List.all_eq_true.1 ha.1 (f.offset+p.1,p.2) (List.mem_map.2 ⟨p,hp,rfl⟩);simp only[decide_eq_true_eq]at h2 ⊢;rw[Array.size_extract];omega
       have:=E4 (P:=P) (w:=w) (em:=em) n gs.toList l hl nJ;rw[Instr.checkKey];simp only[Sem.run_bind,ru hu,Result.andThen_ok];rw[<- Array.forIn_toList];simp at this ⊢;rw[this];rfl
     obtain⟨u,k1,k2⟩:=key;by_cases hn : f.name = "_"
     ·simp only[List.forIn_cons,Sem.run_bind,hn,ne_eq,not_true_eq_false,if_false,Result.andThen_ok,Sem.run_pure];exact pV
     ·simp only[List.forIn_cons,Sem.run_bind,hn,ne_eq,not_false_eq_true,if_true,Result.andThen_ok,Sem.run_pure,k1,k2];exact pV
    ·cases hm
   ·cases hm
theorem uh {h:TypeId}{kd:zj}(l:mj P h=some kd) {k:LV}{x:Value}(hx:Rv μ ι w k x) (g:iu kd k=true) (em:Bool):(Instr.checkKey em 10000 h x).run P w = .ok () w:=by
 rcases rJ (μ:=μ) (ι:=ι) (w:=w) l with⟨d,m,u,n⟩ | ⟨j,fs,rfl,p,y,z,q⟩
 ·exact MapKept.run_checkKey m (n hx g) em 9999
 ·cases hx<;>simp only[iu,Bool.false_eq_true,Bool.and_eq_true]at g;rename_i cs r hl A;have t:j.all (λf=>f.1<r.size)=true:=by rw[hl];exact g.1
  have:=wC (P:=P) (w:=w) (em:=em) 9997 fs.toList j q t;rw[show (10000:Nat)=9999+1 from rfl,Instr.checkKey];simp only[Sem.run_bind,ru p,Result.andThen_ok];rw[<- Array.forIn_toList];simp at this ⊢;rw[this];rfl
theorem NG {t:TypeId}{x:Option Operand}(ho:o.op = .makeMap t x) (I:Inv cmp w0 μ ι δ s w) (h:Ho μ ι w c e a o) {j l:TypeId}(m:c.P.underlying t=some (.map j l)) {y:Option bz}(f:qY c x=some y)
 (d:(aR.iq y).run e s=some (v,s')):rC cmp w0 μ ι δ s w c.P a o v s':=by
 have q:v = .aI s.n/\s'=s.new (.map [])/\(execOp a.eval o).run c.P w = .ok (.value (.map (some w.heap.size))) { w with heap:=w.heap.push (.map #[] 0) } := by
  cases x with
  | none=>
    cases f;cases d;exact⟨rfl,rfl,by simp[execOp,ho,Instr.makeMap]⟩
  | some x=>
    simp only[qY,Option.map_eq_some_iff]at f;obtain⟨z,r,rfl⟩:=f;have hx:=h x z (by simp[ho,Op.operands]) r;simp only[aR.run]at d;generalize u:a.eval x=H at *;generalize z.ev e=lv at *;cases hx<;>simp only[reduceCtorEq]at d;cases d;exact⟨rfl,rfl,by simp[execOp,ho,u,Instr.makeMap,ru m,asInt,asIntOf]⟩
 obtain⟨rfl,rfl,A⟩:=q;let w':World:={ w with heap:=w.heap.push (.map #[] 0) };have hs:cR w w':=cR.alloc w _;have J:w'.heap.size=w.heap.size+1:=by simp[w']
 obtain⟨B,C⟩:=(I.same hs).qh ⟨w.heap.size,0,0⟩ (.map []) I.hB (by show w.heap.size<w'.heap.size;omega) ⟨#[],by simp[w'],rfl,λi D=>absurd D (Nat.not_lt_zero _)⟩
  (λ_ id K g _ _ hm E=>by have:=(I.nX id g hm).2.2;have F:g.b=w.heap.size:=E;omega)
 exact⟨_,w',_,ι, .inl A,B,(I.eU hs).trans C, .aI (p:=⟨w.heap.size,0,0⟩) (by simp[Mu.jT]),Kept.new _ _⟩
theorem Ry {t:TypeId}{z:Value}{x:LV}(d:(c.P.info? t).bind (·.zero)=some z) (hx:mV z=some x):(zeroValue t).run c.P w = .ok z w/\Rv μ ι w x z:=by
 cases f:c.P.info? t with
 | none=>simp[f]at d
 | some i=>
   rw[f]at d;exact⟨rz f d,nj hx⟩
theorem oL {t d f:TypeId}{r clock:Nat}{es:Array MapEntry}{kv:Value}{ok:Bool}(g:P.underlying t=some (.map d f)) (h:∀ em,(Instr.checkKey em 10000 d kv).run P w = .ok () w)
 (j:w.heap[r]? = some (.map es clock)) {fr:Option (Nat × Value)}(l:(Instr.findKey d kv es.toList).run P w = .ok fr w) {z:Value}(m:(zeroValue f).run P w = .ok z w) :
 (Instr.lookup t (.map (some r)) kv ok).run P w = .ok (if ok then .tuple #[(match fr with | some (_,v)=>v | none=>z), .bool fr.isSome] else (match fr with | some (_,v)=>v | none=>z)) w:=by
 cases fr with
 | none=>simp[Instr.lookup,ru g,MapKept.run_getObj_map j,h,l,m]
 | some q=>simp[Instr.lookup,ru g,MapKept.run_getObj_map j,h,l]
theorem xC {t d f:TypeId}{kv:Value}{ok:Bool}(g:P.underlying t=some (.map d f)) (h:∀ em,(Instr.checkKey em 10000 d kv).run P w = .ok () w) (j:(Instr.findKey d kv []).run P w = .ok none w) {z:Value}(l:(zeroValue f).run P w = .ok z w) :
 (Instr.lookup t (.map none) kv ok).run P w = .ok (if ok then .tuple #[z, .bool false] else z) w:=by
 simp[Instr.lookup,ru g,h,j,l]
theorem BE {ok:Bool}{x:LV}{u:Value}{b:Bool}(h:Rv μ ι w x u):Rv μ ι w (if ok then .cy [x, .bool b] else x) (if ok then .tuple #[u, .bool b] else u):=by
 cases ok
 ·exact h
 ·refine .cy rfl λi d=>?_;match i,d with
  | 0,_=>exact h
  | 1,_=>exact .bool b
theorem vD {es:List (LV × LV)}{arr:Array MapEntry}(h2:arr.size=es.length) (h3:∀ i,i<es.length->((arr.getD i default).born=i/\B5 (es.getD i default).1=true/\Rv μ ι w (es.getD i default).1 (arr.getD i default).key/\Rv μ ι w (es.getD i default).2 (arr.getD i default).val)) :
 arr.toList.length=es.length/\∀ j,j<es.length->Rv μ ι w (es.getD j default).1 (arr.toList.getD j default).key/\Rv μ ι w (es.getD j default).2 (arr.toList.getD j default).val:=by
 refine⟨by simpa using h2,λj d=>?_⟩;have:=h3 j d;have f:arr.toList.getD j default=arr.getD j default:=by simp[gD,gF]
 rw[f];exact this.2.2
theorem JW {t:TypeId}{m k:Operand}{ok:Bool}(ho:o.op = .lookup t m k ok) (I:Inv cmp w0 μ ι δ s w) (K:Ho μ ι w c e a o) {A L:TypeId}(B:c.P.underlying t=some (.map A L))
 {kd:zj}(C:mj c.P A=some kd) {z:Value}(R:(c.P.info? L).bind (·.zero)=some z) {M:LV}(D:mV z=some M) {g y:bz}(hm:cB c m=some g) (T:cB c k=some y)
 (d:(aR.eD kd M ok g y).run e s=some (v,s')):rC cmp w0 μ ι δ s w c.P a o v s':=by
 have hx:=K m g (by simp[ho,Op.operands]) hm;have E:=K k y (by simp[ho,Op.operands]) T;obtain⟨F,N⟩:=Ry (w:=w) (μ:=μ) (ι:=ι) R D;have f:∀ {x w'},(Instr.lookup t (a.eval m) (a.eval k) ok).run c.P w = .ok x w'->(execOp a.eval o).run c.P w = .ok (.value x) w':=λh=>by simp[execOp,ho,h]
 simp only[aR.run]at d;generalize zJ:a.eval m=mv at *;generalize U:a.eval k=V at *;generalize g.ev e=lm at *;generalize y.ev e=lk at *;split at d
 ·rename_i H;have J:=λem=>uh C E H em;cases hx<;>simp only[reduceCtorEq]at d
  case bN=>
   cases d;have X:(Instr.findKey A V []).run c.P w = .ok none w:=qb C E H (es:=[]) (l:=[]) rfl (λj Y=>absurd Y (Nat.not_lt_zero _)) rfl;exact⟨_,w,μ,ι, .inl (f (xC B J X F)),I,Ext.refl _ _ _ _,BE N,Kept.refl _ _⟩
  case aI id p Z=>
   split at d
   ·rename_i es hg;obtain⟨r,hf,d⟩:=bind_some d;obtain⟨arr,h1,h2,h3⟩:=I.dD id _ p hg Z;obtain⟨hl,O0⟩:=vD h2 h3;have O:=qb C E H hl O0 hf;cases r with
    | none=>
      cases d;exact⟨_,w,μ,ι, .inl (f (oL B J h1 O F)),I,Ext.refl _ _ _ _,BE N,Kept.refl _ _⟩
    | some q=>
      obtain⟨n,u⟩:=q;obtain⟨en,_,QS,mY,_⟩:=O;cases d;exact⟨_,w,μ,ι, .inl (f (oL B J h1 QS F)),I,Ext.refl _ _ _ _,BE mY,Kept.refl _ _⟩
   ·cases d
 ·cases d
theorem Inv.UH (I:Inv cmp w0 μ ι δ s w) {id:Nat}{p:Place}{es es':List (LV × LV)}{arr yU:Array MapEntry}(A:s.get id=some (.map es)) (l:μ id=some p) (hm:w.heap[p.b]? = some (.map arr es.length))
 (hl:yU.size=es'.length) (B:∀ i,i<es'.length->((yU.getD i default).born=i/\B5 (es'.getD i default).1=true/\Rv μ ι w (es'.getD i default).1 (yU.getD i default).key/\Rv μ ι w (es'.getD i default).2 (yU.getD i default).val)) :
 Inv cmp w0 μ ι δ (s.put id (.map es')) { w with heap:=w.heap.setIfInBounds p.b (.map yU es'.length) } /\ Ext μ ι δ w μ ι δ { w with heap:=w.heap.setIfInBounds p.b (.map yU es'.length) } := by
 generalize r:({ w with heap:=w.heap.setIfInBounds p.b (.map yU es'.length) } : World)=w';have E:w'.heap.size=w.heap.size:=by rw[<- r];simp
 have H:=I.nX id p l;have t:∀ k,k≠p.b->w'.heap[k]? = w.heap[k]? := λk F=>by rw[<- r];exact Array.getElem?_setIfInBounds_ne (Ne.symm F)
 have N:w'.heap[p.b]? = some (.map yU es'.length):=by rw[<- r];simp[H.2.2]
 have J:∀ b o v,w.cell? ⟨b,o,none⟩=some v->b≠p.b:=by
  rintro b o v n rfl;simp[World.cell?,hm]at n
 have u:∀ b o,ι b o->w'.cell? ⟨b,o,none⟩=w.cell? ⟨b,o,none⟩:=λb o d=>by
  obtain⟨v,n⟩:=I.io b o d;exact gq (t b (J b o v n))
 refine⟨⟨⟨by rw[<- r];exact I.below.os,by rw[<- r];exact I.below.tape,by rw[<- r];exact I.below.output,by rw[E];exact I.below.size,λk F=>by rw[t k (by have:=H.2.1;omega)];exact I.below.block k F⟩,
  λid p l=>by rw[E];exact I.nX id p l,λb o d=>by obtain⟨v,n⟩:=I.io b o d;exact⟨v,(u b o d).trans n⟩,λC b q g y=>?_,?_,λx hx=>?_,I.low,λb o d g=>(I.own b o d g).heap (t b (by obtain⟨v,n⟩:=I.io b o d;exact J b o v n))⟩,
  ⟨λ_ _ h=>h,λ_ _ h=>h,u,by rw[E];exact Nat.le_refl _,λ_ h=>h⟩⟩
 ·rw[St.ah]at g;split at g
  ·rename_i z;subst z;cases g;obtain rfl:p=q:=Option.some.inj (l.symm.trans y);exact⟨yU,N,hl,λi d=>⟨(B i d).1,(B i d).2.1,(B i d).2.2.1.mono u (λ_ _ h=>h) (λ_ _ h=>h),(B i d).2.2.2.mono u (λ_ _ h=>h) (λ_ _ h=>h)⟩⟩
  ·rename_i z;have K:=I.dD C b q g y;have dH:q.b≠p.b:=by
    intro D;cases b with
    | cells m cs=>obtain⟨⟨x,h0⟩,_⟩:=K;rw[D]at h0;simp[World.shape?,hm]at h0
    | loop st Y O ps as Z=>exact z (I.sep C id _ _ q p g A rfl rfl y l D)
    | map es=>exact z (I.sep C id _ _ q p g A rfl rfl y l D)
    | iter m n0 seen L=>exact z (I.sep C id _ _ q p g A rfl rfl y l D)
   exact K.mono (λ_ _ h=>h) (λ_ _ h=>h) u (t _ dH) (λ_ _ h=>h)
 ·intro i j b1 b2 p1 p2 g1 g2 R T m1 U e;rw[St.ah]at g1 g2;have f:∀ {k:Nat}{b:iC},(if k=id then some (iC.map es') else s.get k)=some b->b.owns=true->∃ M,s.get k=some M/\M.owns=true:=by
   intro k b h ho;split at h
   ·rename_i e;subst e;exact⟨_,A,rfl⟩
   ·exact⟨b,h,ho⟩
  obtain⟨c1,V,l1⟩:=f g1 R;obtain⟨c2,X,l2⟩:=f g2 T;exact I.sep i j c1 c2 p1 p2 V X l1 l2 m1 U e
 ·obtain⟨a,b⟩:=I.defers x hx;refine⟨a,?_⟩;rw[t x ?_]
  ·exact b
  ·rintro rfl;rw[hm]at b;cases b
theorem vG {kd:zj}{k:LV}(h:iu kd k=true):B5 k=true:=by
 cases k<;>first | rfl | (cases kd<;>simp[iu]at h;done)
theorem Iu {t:TypeId}{m k x:Operand}(ho:o.op = .mapUpdate t m k x∨o.op = .insert t m k x) (I:Inv cmp w0 μ ι δ s w) (L:Ho μ ι w c e a o) {X et:TypeId}(Y:c.P.underlying t=some (.map X et))
 {kd:zj}(Z:mj c.P X=some kd) {D E F:bz}(hm:cB c m=some D) (Ci:cB c k=some E) (AX:cB c x=some F)
 (g:(aR.lQ kd D E F).run e s=some (v,s')):rC cmp w0 μ ι δ s w c.P a o v s':=by
 have hx:=L m D (by rcases ho with ho | ho<;>simp[ho,Op.operands]) hm;have H:=L k E (by rcases ho with ho | ho<;>simp[ho,Op.operands]) Ci;have hz:=L x F (by rcases ho with ho | ho<;>simp[ho,Op.operands]) AX;have z:∀ {w'},(Instr.mapUpdate t (a.eval m) (a.eval k) (a.eval x)).run c.P w = .ok () w'->(execOp a.eval o).run c.P w = .ok .skip w':=λh=>by rcases ho with ho | ho<;>simp[execOp,ho,h]
 simp only[aR.run]at g;generalize zJ:a.eval m=mv at *;generalize hkv:a.eval k=j at *;generalize hxv:a.eval x=l at *;generalize D.ev e=lm at *;generalize E.ev e=lk at *;generalize F.ev e=M at *;split at g
 ·rename_i J;have KY:=λem=>uh Z H J em;cases hx<;>simp only[reduceCtorEq]at g
  case aI id p A=>
   split at g
   ·rename_i f N;obtain⟨r,hf,g⟩:=bind_some g;obtain⟨d,h1,h2,h3⟩:=I.dD id _ p N A;obtain⟨hl,O0⟩:=vD h2 h3;have o7:=qb Z H J hl O0 hf;cases r with
    | none=>
      cases g;obtain⟨O,R⟩:=I.UH (es':=f++[(lk,M)]) (yU:=d.push { key:=j,val:=l,born:=f.length }) N A h1 (by simp[h2]) (λi y=>by
       by_cases cm:i<f.length
       ·have:=h3 i cm;have yf:i<d.size:=by omega
        simpa[gD,List.getElem?_append_left cm,gF,Array.getElem?_push,Nat.ne_of_lt yf] using this
       ·have B:i=f.length:=by simp at y;omega
        subst B;have:(d.push { key:=j,val:=l,born:=f.length }).getD f.length default = { key:=j,val:=l,born:=f.length } := by simp[gF,<- h2]
        rw[this];simp only[gD,List.getElem?_append_right (Nat.le_refl _),Nat.sub_self,List.getElem?_cons_zero,Option.getD_some];exact⟨trivial,vG J,H,hz⟩)
      exact⟨undef,_,μ,ι, .inr ⟨z (by simp[Instr.mapUpdate,ru Y,MapKept.run_getObj_map h1,KY,o7,MapKept.run_setObj_map _ h1]),rfl⟩,O,R, .cy rfl (λi y=>absurd y (Nat.not_lt_zero _)),Kept.put A _⟩
    | some q=>
      obtain⟨n,u⟩:=q;obtain⟨en,T,QS,mY,U⟩:=o7;cases g;have K:d[n]? = some en:=by simpa using T
      have hnlt:n<d.size:=(Array.getElem?_eq_some_iff.1 K).1;obtain⟨O,R⟩:=I.UH (es':=f.set n (lk,M)) (yU:=d.modify n λe=>{ e with key:=j,val:=l }) N A h1 (by simp[h2]) (λi y=>by
       have B:i<f.length:=by simpa using y
       have L6:i<d.size:=by omega
       by_cases V:i=n
       ·subst V;have:((d.modify i λe=>{ e with key:=j,val:=l }).getD i default) = { en with key:=j,val:=l } := by
         simp only[gF,Array.getElem?_modify,if_true,K,Option.map_some,Option.getD_some]
        rw[this];simp only[gD,List.getElem?_set,B,if_true,Option.getD_some];exact⟨by have hb:=(h3 i B).1;simpa[gF,K] using hb,vG J,H,hz⟩
       ·have h4:=h3 i B;have:((d.modify n λe=>{ e with key:=j,val:=l }).getD i default)=d.getD i default:=by
         simp only[gF,Array.getElem?_modify,if_neg (Ne.symm V)]
        rw[this];have:(f.set n (lk,M)).getD i default=f.getD i default:=by simp[gD,Ne.symm V]
        rw[this];exact h4)
      refine⟨undef,_,μ,ι, .inr ⟨z ?_,rfl⟩,O,R, .cy rfl (λi y=>absurd y (Nat.not_lt_zero _)),Kept.put A _⟩;have C:((d[n]?).map (·.key)).getD j=en.key:=by rw[K];rfl
      simp[Instr.mapUpdate,ru Y,MapKept.run_getObj_map h1,KY,QS,MapKept.run_setObj_map _ h1,C,U]
   ·cases g
 ·cases g
theorem DZ {t:TypeId}{x:Operand}(ho:o.op = .call { callee:=.builtin .len,args:=#[x],argTypes:=#[t] }) (I:Inv cmp w0 μ ι δ s w) (h:Ho μ ι w c e a o) {j l:TypeId}(f:c.P.underlying t=some (.map j l))
 {y:bz}(m:cB c x=some y) (d:(aR.kn y).run e s=some (v,s')):s'=s/\dx μ ι w c.P a o v:=by
 have hx:=h x y (by simp[ho,Op.operands,Call.operands]) m;unfold aR.run at d;dsimp only at d;generalize y.ev e=lv at *;generalize g:a.eval x=z at *;cases hx<;>simp only[reduceCtorEq]at d
 case bN=>
  cases d;exact⟨rfl,_,by simp only[execOp,ho,resolve,Sem.run_bind,Sem.run_pure,Result.andThen_ok,invoke,builtin,List.map_toArray,List.map_cons,List.map_nil,g];simp[Builtin.len_,ru f];rfl, .int _ _⟩
 case aI id p n=>
  split at d
  ·rename_i q r;cases d;obtain⟨u,h1,h2,h3⟩:=I.dD id _ p r n;refine⟨rfl, .int .i64 q.length,?_, .int _ _⟩;simp only[execOp,ho,resolve,Sem.run_bind,Sem.run_pure,Result.andThen_ok,invoke,builtin,List.map_toArray,List.map_cons,List.map_nil,g];simp[Builtin.len_,ru f,MapKept.run_getObj_map h1,h2,goInt]
  ·cases d
theorem DT {t:TypeId}{x lo hi q:Operand}(ho:o.op = .slice t x (some lo) (some hi) (some q)) (r:Ho μ ι w c e a o) {B:TypeId}(C:c.P.underlying t=some (.slice B)) {n:Nat}(D:gG c.P B=some n)
 {y f g j:bz}(E:cB c x=some y) (F:cB c lo=some f) (H:cB c hi=some g) (I:cB c q=some j) (d:(aR.uH y f g j).run e s=some (v,s')):s'=s/\dx μ ι w c.P a o v:=by
 have hx:=r x y (by simp[ho,Op.operands]) E;have h1:=r lo f (by simp[ho,Op.operands]) F;have h2:=r hi g (by simp[ho,Op.operands]) H;have h3:=r q j (by simp[ho,Op.operands]) I;unfold aR.run at d;dsimp only at d;generalize y.ev e=lv at *;generalize f.ev e=l1 at *;generalize g.ev e=l2 at *;generalize j.ev e=l3 at *;generalize J:a.eval x=K at *;generalize L:a.eval lo=V at *;generalize A:a.eval hi=M at *;generalize N:a.eval q=O at *;cases h1<;>(try (simp only[reduceCtorEq]at d;done))<;>cases h2<;>(try (simp only[reduceCtorEq]at d;done))<;>cases h3<;>(try (simp only[reduceCtorEq]at d;done));rename_i X l Y h Z m;cases u:fm lv with
 | none=>simp[u]at d
 | some len=>
   simp only[u]at d;split at d
   ·rename_i R;obtain⟨rfl,rfl,h0,h4⟩:=R;have T:∃ ba cap,K = .slice ba len cap/\len<=cap/\(ba=none->len=0/\cap=0):=by
     cases hx<;>simp only[fm,reduceCtorEq]at u<;>cases u
     ·exact⟨_,_,rfl,Nat.le_refl _,λ_=>⟨rfl,rfl⟩⟩
     ·exact⟨_,_,rfl,Nat.le_refl _,λh=>by cases h⟩
     ·exact⟨_,_,rfl,by assumption,λh=>by cases h⟩
     ·exact⟨_,_,rfl,by assumption,λh=>by cases h⟩
    obtain⟨ba,cap,rfl,pq,Cc⟩:=T;have p:l<=(cap:Int):=by omega
    have U:l<=max l 0:=by omega
    have z:(execOp a.eval o).run c.P w = .ok (.value (.slice ba 0 0)) w:=by
     simp[execOp,ho,J,L,A,N,Instr.sliceAt,Instr.slice,ru C,Instr.sliceBounds,Instr.sliceBound,asIntOf,h0,p,U,wj D]
    cases hx<;>simp only[reduceCtorEq]at d<;>cases d
    ·exact⟨rfl,_,z, .aj⟩
    ·exact⟨rfl,_,z, .zs _⟩
    ·exact⟨rfl,_,z, .zs _⟩
    ·exact⟨rfl,_,z, .zs _⟩
   ·cases d
theorem E5:∀ (cs:List LV) (vs:List Value) (d:List UInt8),bytesOf cs=some d->vs.length=cs.length->(∀ i,i<cs.length->Rv μ ι w (cs.getD i .top) (vs.getD i undef)) ->
 ∃ f:List Int,vs=f.map (Value.int .u8)/\f.map (λn=>UInt8.ofNat n.toNat)=d:=by
 intro cs;induction cs with
 | nil=>
   intro vs d h hl _;cases h;obtain rfl:=List.length_eq_zero_iff.1 hl;exact⟨[],rfl,rfl⟩
 | cons x cs ih=>
   intro vs d h hl j;match vs,hl with
   | v :: vs, hl =>
     have h0:Rv μ ι w x v:=by simpa using j 0 (by simp)
     unfold bytesOf at h;split at h
     ·rename_i heq;cases heq
     ·rename_i n r heq;obtain⟨g,l,h⟩:=bind_some h;cases h;simp only[List.cons.injEq]at heq;obtain⟨rfl,rfl⟩:=heq;cases h0;obtain⟨f,h1,h2⟩:=ih vs g l (by simpa using hl) (λi m=>by simpa using j (i+1) (by simpa using m));exact⟨n::f,by simp[h1],by simp[h2]⟩
     ·cases h
theorem foldl_push (d:List UInt8):∀ (r:ByteArray),(d.foldl (λr b=>r.push b) r).data.toList=r.data.toList++d:=by
 induction d with
 | nil=>intro r;simp
 | cons b d ih=>intro r;rw[List.foldl_cons,ih];simp[ByteArray.push]
theorem EH (d:List Int):d.foldl (λr n=>r.push (UInt8.ofNat n.toNat)) ByteArray.empty=⟨(d.map (λn=>UInt8.ofNat n.toNat)).toArray⟩:=by
 have h:=foldl_push (d.map (λn=>UInt8.ofNat n.toNat)) ByteArray.empty;rw[List.foldl_map]at h;generalize d.foldl (λr n=>r.push (UInt8.ofNat n.toNat)) ByteArray.empty=x at *;cases x;congr 1;apply Array.ext';simpa using h
theorem zE {t dst:TypeId}{x:Operand}(ho:o.op = .convert t dst x) (I:Inv cmp w0 μ ι δ s w) (z:Ho μ ι w c e a o) (A:c.P.underlying dst=some .string) {j:TypeId}(B:c.P.underlying t=some (.slice j)) (l:Wn c.P j=true)
 {y:bz}(C:cB c x=some y) (d:(aR.lF y).run e s=some (v,s')):s'=s/\dx μ ι w c.P a o v:=by
 have hx:=z x y (by simp[ho,Op.operands]) C;have f:c.P.underlying j=some (.int .u8):=by
  unfold Wn at l;split at l
  ·assumption
  ·cases l
 simp only[aR.run]at d;generalize y.ev e=lv at *;generalize D:a.eval x=m at *;obtain⟨n,h,d⟩:=bind_some d;obtain⟨cs,p,d⟩:=bind_some d;obtain⟨q,aG,d⟩:=bind_some d;cases d;obtain⟨g,h1,h2,h3,L⟩:=nu (P:=c.P) I hx p;obtain⟨u,E,F⟩:=E5 cs g.toList q aG (by simpa using h2.1) (λi H=>by
  have:=h2.2 i H;simpa[gD,gF] using this)
 have J:g=(u.map (Value.int .u8)).toArray:=by apply Array.ext';simpa using E
 have K:(Conv.bytesToString m).run c.P w = .ok (.string ⟨q.toArray⟩) w:=by
  cases hx<;>simp only[fm,reduceCtorEq]at h<;>cases h
  ·have:q=[]:=by
    simp only[rowOf,if_true]at p;cases p;cases aG;rfl
   subst this;simp[Conv.bytesToString];rfl
  all_goals
   have r:=h1 w (cR.refl w);simp only[Builtin.firstCells,Nat.mul_one]at r;rw[J]at r;rw[run_bytesToString w _ _ _ u r,EH,F]
 refine⟨rfl,_,?_, .str _⟩;simp only[execOp,ho,D,convert,Sem.run_bind,ru B,ru A,Result.andThen_ok];have:∀ s,m≠.string s/\(∀ k n,m≠.int k n):=λs=>by cases hx<;>simp[fm]at h<;>simp
 cases hx<;>simp only[fm,reduceCtorEq]at h<;>simp only[Sem.run_bind,ru f,Result.andThen_ok,K,Sem.run_pure]
theorem JV {t:TypeId}{x:Operand}(ho:o.op = .range t x) (I:Inv cmp w0 μ ι δ s w) (r:Ho μ ι w c e a o) {u z:TypeId}(h:c.P.underlying t=some (.map u z)) {y:bz}(A:cB c x=some y)
 (f:(aR.oc y).run e s=some (v,s')):rC cmp w0 μ ι δ s w c.P a o v s':=by
 have hx:=r x y (by simp[ho,Op.operands]) A;have fin:∀ (m:Option Nat) (d:Nat) (g:Option Nat),(match m with | none=>g=none | some id=>∃ pm,μ id=some pm/\g=some pm.b) ->
  (execOp a.eval o).run c.P w = .ok (.value (.pointer (some ⟨w.heap.size,0,none⟩))) { w with heap:=w.heap.push (.mapIter g d #[] d) } -> rC cmp w0 μ ι δ s w c.P a o (.aH s.n 0) (s.new (.iter m d [] d)):=by
  intro m d g hm B;let w':World:={ w with heap:=w.heap.push (.mapIter g d #[] d) };have hs:cR w w':=cR.alloc w _;have L:w'.heap.size=w.heap.size+1:=by simp[w']
  obtain⟨C,D⟩:=(I.same hs).qh ⟨w.heap.size,0,0⟩ (.iter m d [] d) I.hB (by show w.heap.size<w'.heap.size;omega) ⟨rfl,g,by simp[w'],hm⟩
   (λ_ id M j _ _ hm E=>by have:=(I.nX id j hm).2.2;have F:j.b=w.heap.size:=E;omega)
  exact⟨_,w',_,ι, .inl B,C,(I.eU hs).trans D, .aH (p:=⟨w.heap.size,0,0⟩) (off:=0) (by simp[Mu.jT]),Kept.new _ _⟩
 simp only[aR.run]at f;generalize y.ev e=lv at *;generalize l:a.eval x=N at *;cases hx<;>simp only[reduceCtorEq]at f
 case bN=>
  cases f;exact fin none 0 none rfl (by simp[execOp,ho,l,Instr.range,ru h])
 case aI id p q=>
  split at f
  ·rename_i H J;cases f;obtain⟨K,h1,h2,h3⟩:=I.dD id _ p J q;exact fin (some id) H.length (some p.b) ⟨p,q,rfl⟩ (by simp[execOp,ho,l,Instr.range,ru h,MapKept.run_getObj_map h1])
  ·cases f
theorem jK {r:Nat}{d:Obj}(h:w.heap[r]? = some d) (g:∀ c t f,d≠.cells c t f):(getObj r).run P w = .ok d w:=by
 cases d<;>first | (simp[getObj,Sem.run,h];done) | exact absurd rfl (g _ _ _)
theorem find_born {es:List (LV × LV)}{arr:Array MapEntry}(h2:arr.size=es.length) (h3:∀ i,i<es.length->(arr.getD i default).born=i) {i:Nat}(hi:i<es.length) :
 arr.find? (λx=>x.born == i)=some (arr.getD i default):=by
 rw[<- Array.find?_toList];have d:i<arr.size:=by omega
 refine List.find?_eq_some_iff_append.2 ⟨by simpa using h3 i hi,arr.toList.take i,arr.toList.drop (i+1),?_,λx hx=>?_⟩
 ·have:arr.getD i default=arr.toList[i]'(by simpa using d):=by simp[gF,d]
  rw[this];have g:i<arr.toList.length:=by simpa using d
  conv=>lhs;rw[<- List.take_append_drop i arr.toList,List.drop_eq_getElem_cons g]
 ·obtain⟨j,h,rfl⟩:=List.getElem_of_mem hx;have l:j<i:=by simp at h;omega
  have m:j<arr.size:=by omega
  have f:=h3 j om;have:arr.getD j default=arr[j]:=by simp[gF,m]
  rw[this]at f;simp[f];omega
theorem DW {x:Operand}(ho:o.op = .entry x) (I:Inv cmp w0 μ ι δ s w) (t:Ho μ ι w c e a o) {y:bz}(u:cB c x=some y) (d:(aR.od y).run e s=some (v,s')):s'=s/\dx μ ι w c.P a o v:=by
 have hx:=t x y (by simp[ho,Op.operands]) u;simp only[aR.run]at d;generalize y.ev e=lv at *;generalize n:a.eval x=L at *;cases hx<;>try (cases d;done)
 case aH id off p z=>
  split at d
  ·rename_i A heq;obtain⟨rfl,rfl⟩:id=A/\off=0:=by injection heq;exact⟨by assumption,by assumption⟩
   split at d
   ·rename_i m M seen q B;split at d
    ·rename_i N g;split at d
     ·rename_i i h;split at d
      ·rename_i C;obtain⟨D,r⟩:=C;cases d;obtain⟨E,O,F,pm,H,rfl⟩:=I.dD id _ p B z;obtain⟨f,h1,h2,h3⟩:=I.dD m _ pm g H;have l:=find_born h2 (λi h=>(h3 i h).1) r;have J:seen.toArray.back? = some i:=by simp[h]
       refine⟨rfl, .tuple #[(f.getD i default).key,(f.getD i default).val],?_, .cy rfl λj K=>?_⟩
       ·rw[E]at n;simp only[execOp,ho,n,Instr.entry,Sem.run_bind,jK F (by simp),jK h1 (by simp),Result.andThen_ok,J,l];simp[D]
       ·have:=h3 i r;match j,K with
        | 0,_=>exact this.2.2.1
        | 1,_=>exact this.2.2.2
      ·cases d
     ·cases d
    ·cases d
   ·cases d
  ·cases d
theorem Kq {t:TypeId}{x:Operand}(ho:o.op = .call { callee:=.builtin .cap,args:=#[x],argTypes:=#[t] }) (f:Ho μ ι w c e a o) {g:TypeId}(h:c.P.underlying t=some (.slice g))
 {y:bz}(j:cB c x=some y) (d:(aR.Ht y).run e s=some (v,s')):s'=s/\dx μ ι w c.P a o v:=by
 have hx:=f x y (by simp[ho,Op.operands,Call.operands]) j;unfold aR.run at d;dsimp only at d;generalize y.ev e=lv at *;generalize l:a.eval x=m at *;cases hx<;>simp only[reduceCtorEq]at d<;>cases d;all_goals exact⟨rfl,_,by simp only[execOp,ho,resolve,Sem.run_bind,Sem.run_pure,Result.andThen_ok,invoke,builtin,List.map_toArray,List.map_cons,List.map_nil,l];simp[Builtin.cap_,ru h];rfl, .int _ _⟩
theorem zT {t u d:TypeId}{ty:TypeId}{k kk:IntKind}{i:TypeInfo}(r:P.underlying t=some (.slice d)) (x:P.underlying u=some (.int k)) (hi:P.info? d=some i)
 {n:Nat}(y:0<n) (z:i.size≠0) (A:i.bytes≠0) (p:n*i.bytes<=2 ^ 32) {g:Value}(B:i.zero=some g) :
 ∃ j,n<=j/\(Builtin.append_ #[t,u] ty #[.slice none 0 0, .int kk n]).run P w =
   .ok (.slice (some ⟨w.heap.size,0,none⟩) n j) (({ w with drawn:=w.drawn+1 } : World).alloc (.cells (#[]++Builtin.zeroCells g.cells n++Builtin.zeroCells g.cells (j - n)) d)):=by
 have C:∀ w':World,(sizeOf d).run P w' = .ok i.size w':=λw'=>by simp[sizeOf,JI hi]
 have D:n<=2 ^ 32:=Nat.le_trans (Nat.le_mul_of_pos_right _ (Nat.pos_of_ne_zero A)) p;have E:¬ (281474976710656<Builtin.nextslicecap n 0*i.bytes):=by
  have h1:=xN n 0 y;have h2:Builtin.nextslicecap n 0*i.bytes<=(2*n+192)*i.bytes:=Nat.mul_le_mul_right _ h1;have h3:(2*n+192)*i.bytes=2*(n*i.bytes)+192*i.bytes:=by rw[Nat.add_mul,Nat.mul_assoc]
  have M:i.bytes<=n*i.bytes:=Nat.le_mul_of_pos_left _ om;omega
 have F:(Question.appendCap n 0 d).forced=false:=rfl;refine⟨(Question.appendCap n 0 d).cut (w.tape w.drawn (.appendCap n 0 d)),by simp[Question.cut],?_⟩;have q:¬ (n=0):=by omega
 have H:∀ w':World,(typeInfo d).run P w' = .ok i w':=λw'=>JI hi;have I:∀ w':World,(zeroValue d).run P w' = .ok g w':=λw'=>rz hi B;have l:IntKind.i64.wrap (n:Int)=n:=wrap_i64 _ om om;have f:¬ ((n:Int)<0):=by omega
 have J:¬ (281474976710656<(n:Int)*(i.bytes:Int)):=by
  have:((n*i.bytes:Nat):Int)<=((2 ^ 32:Nat):Int):=Int.ofNat_le.2 p;rw[Int.natCast_mul]at this;omega
 have m:¬ (9223372036854775807<(n:Int)):=by omega
 have K:¬ (n*i.size=0):=by
  intro h;rcases Nat.mul_eq_zero.1 h with h | h
  ·exact q h
  ·exact z h
 have L:∀ w':World,(Builtin.firstCells i.size 0 (.slice none 0 0)).run P w' = .ok #[] w':=λw'=>by simp[Builtin.firstCells]
 simp only[Builtin.append_];simp[ru r,ru x,C,H,asInt,asIntOf,l,f,J,q,m,E,F,I,K,newRow,L]
theorem R4 {x y:Operand}{t u:TypeId}(ho:o.op = .call { callee:=.builtin .append,args:=#[x,y],argTypes:=#[t,u] }) (I:Inv cmp w0 μ ι δ s w) (O:Ho μ ι w c e a o) {p:TypeId}{d:TypeDesc}{i:TypeInfo}{z:List LV}
 (R:c.P.underlying t=some (.slice p)) (T:c.P.underlying u=some d) (hd:Oa d=true) (E:c.P.info? p=some i) (CQ:i.size≠0) (zM:i.bytes≠0) (g:oJ c.P p=some z) (KC:z.length=i.size) {F H:bz}(ye:cB c x=some F) (Es:cB c y=some H)
 (f:(aR.Hy i.size i.bytes z F H).run e s=some (v,s')):rC cmp w0 μ ι δ s w c.P a o v s':=by
 have hx:=O x F (by simp[ho,Op.operands,Call.operands]) ye;have hy:=O y H (by simp[ho,Op.operands,Call.operands]) Es;have J:∃ k,d = .int k:=by cases d<;>first | exact⟨_,rfl⟩ | cases hd
 obtain⟨k,rfl⟩:=J;have B:∀ {r:Value}{w':World},(Builtin.append_ #[t,u] o.type #[a.eval x,a.eval y]).run c.P w = .ok r w'->(execOp a.eval o).run c.P w = .ok (.value r) w':=λh=>by
  simp only[execOp,ho,resolve,Sem.run_bind,Sem.run_pure,Result.andThen_ok,invoke,builtin,List.map_toArray,List.map_cons,List.map_nil,h]
 simp only[aR.run]at f;generalize fP:a.eval x=av at *;generalize zK:a.eval y=bv at *;generalize F.ev e=l1 at *;generalize H.ev e=l2 at *;cases hx<;>(try (simp only[reduceCtorEq]at f;done));cases hy<;>(try (simp only[reduceCtorEq]at f;done));rename_i kk m;dsimp only at f;have kz:∀ w':World,(sizeOf p).run c.P w' = .ok i.size w':=λw'=>by simp[sizeOf,JI E]
 have YA:∀ w':World,(typeInfo p).run c.P w' = .ok i w':=λw'=>JI E;split at f
 ·rename_i h0;subst h0;cases f;refine⟨.slice none 0 0,w,μ,ι, .inl (B ?_),I,Ext.refl _ _ _ _, .aj,Kept.refl _ _⟩;simp only[Builtin.append_];simp[ru R,ru T,kz,YA,asInt,asIntOf,wrap_i64 0 om om]
 ·rename_i h0;split at f
  ·rename_i hc;obtain⟨hp,U,kT⟩:=hc;cases f;obtain⟨q,l,dc,K⟩:∃ q l,c.P.info? p=some q/\q.zero=some l/\∃ x,mV l=some x/\cells? x=some z:=by
    unfold oJ at g;obtain⟨q,h1,g⟩:=bind_some g;obtain⟨l,h2,g⟩:=bind_some g;obtain⟨x,h3,g⟩:=bind_some g;exact⟨q,l,h1,h2,x,h3,g⟩
   obtain rfl:i=q:=Option.some.inj (E.symm.trans dc);obtain⟨K,zx,L,LS⟩:=K;have V:cR w w.drew:=cR.drew w;have Id:=I.same V;have xd:=I.eU V;obtain⟨C,X,M⟩:=iz (nj (μ:=μ) (ι:=ι) (w:=w.drew) L) LS;have Y:=Ra.one (μ:=μ) (ι:=ι) (w:=w.drew) ⟨C,X⟩ (by simpa using M);obtain⟨n,rfl⟩:∃ n:Nat,m=n:=⟨m.toNat,by omega⟩;have hn:0<n:=by omega
   have zL:n*i.bytes<=2 ^ 32:=by unfold big at U;exact_mod_cast U
   obtain⟨Z,uz,bK⟩:=zT (w:=w) (ty:=o.type) (kk:=kk) R T E hn CQ zM zL K;have Yr:0<z.length:=by omega
   obtain⟨q1,q2⟩:=lV (μ:=μ) (ι:=ι) (w:=w.drew) ⟨C,X⟩ Yr n n (Nat.le_refl _);have QH:Ra μ ι w.drew (rep n z) (Builtin.zeroCells l.cells n):=by
    refine⟨by rw[di,eo,C],λj A=>?_⟩;rw[eo]at A;have:=q2 j A;simpa[Builtin.zeroCells,C] using this
   have yq:Ra μ ι w.drew [] #[]:=⟨rfl,λj A=>absurd A (Nat.not_lt_zero _)⟩;obtain⟨g1,g2⟩:=qa yq QH (Builtin.zeroCells l.cells (Z - n));rw[List.nil_append]at g1 g2;have nE:=ep (ep (us:=#[]) (λj A=>by simp at A) (ek Y n)) (ek Y (Z - n));obtain⟨I2,x2⟩:=Id.ny p _ (rep n z) g1 nE g2;have N:((n:Int)).toNat=n:=by simp
   rw[N];refine⟨_,_,_,ι, .inl (B bK),I2,xd.trans x2,?_,Kept.new _ _⟩;have D:l.cells.size=i.size:=by rw[C,KC]
   exact pH (by simp[di,D];rw[<- Nat.add_mul];exact Nat.mul_le_mul_right _ om) uz
  ·cases f
theorem Ke {lo:aR}(j:B4 lo=true) (g:bA c o=some lo) (r:Ho μ ι w c e a o) (I:Inv cmp w0 μ ι δ s w) (A:lo.run e s=some (v,s')):rC cmp w0 μ ι δ s w c.P a o v s':=by
 have lk:s'=s/\dx μ ι w c.P a o v->rC cmp w0 μ ι δ s w c.P a o v s':=λh=>by
  obtain⟨rfl,h⟩:=h;exact Iv I h
 cases ho:o.op
 case range t x=>
  simp only[bA,ho]at g;split at g
  ·rename_i p;obtain⟨y,q,g⟩:=bind_some g;cases g;exact JV ho I r p q A
  ·cases g
 case entry x=>
  simp only[bA,ho]at g;obtain⟨y,q,rfl⟩:=cP g;exact lk (DW ho I r q A)
 case next x b=>
  cases b<;>simp only[bA,ho,reduceCtorEq]at g;obtain⟨y,q,rfl⟩:=cP g;cases j
 case makeMap t x=>
  simp only[bA,ho]at g;split at g
  ·rename_i p;obtain⟨y,q,g⟩:=bind_some g;cases g;exact NG ho I r p q A
  ·cases g
 case lookup t m k ok=>
  simp only[bA,ho]at g;split at g
  ·rename_i p;obtain⟨kd,B,g⟩:=bind_some g;obtain⟨z,E,g⟩:=bind_some g;obtain⟨lz,F,g⟩:=bind_some g;obtain⟨N,hm,g⟩:=bind_some g;obtain⟨O,D,g⟩:=bind_some g;cases g;exact JW ho I r p B E F hm D A
  ·cases g
 case mapUpdate t m k x=>
  simp only[bA,ho]at g;split at g
  ·rename_i p;obtain⟨kd,B,g⟩:=bind_some g;obtain⟨N,hm,g⟩:=bind_some g;obtain⟨O,D,g⟩:=bind_some g;obtain⟨T,H,g⟩:=bind_some g;cases g;exact Iu (.inl ho) I r p B hm D H A
  ·cases g
 case insert t m k x=>
  simp only[bA,ho]at g;split at g
  ·rename_i p;obtain⟨kd,B,g⟩:=bind_some g;obtain⟨N,hm,g⟩:=bind_some g;obtain⟨O,D,g⟩:=bind_some g;obtain⟨T,H,g⟩:=bind_some g;cases g;exact Iu (.inr ho) I r p B hm D H A
  ·cases g
 case convert t d x=>
  simp only[bA,ho]at g;split at g
  ·obtain⟨_,_,g⟩:=bind_some g;obtain⟨_,_,g⟩:=bind_some g;cases g;cases j
  ·rename_i B;split at g
   ·rename_i C;split at g
    ·rename_i U;obtain⟨y,q,rfl⟩:=cP g;exact lk (zE ho I r B C U q A)
    ·cases g
   ·obtain⟨y,q,rfl⟩:=cP g;cases j
   ·cases g
  ·cases g
 case slice t x l h m=>
  cases m with
  | none=>
    exfalso;simp only[bA,ho]at g;split at g
    ·obtain⟨_,_,g⟩:=bind_some g;obtain⟨_,_,g⟩:=bind_some g;obtain⟨_,_,g⟩:=bind_some g;obtain⟨_,_,g⟩:=bind_some g;cases g;cases j
    ·obtain⟨_,_,g⟩:=bind_some g;obtain⟨_,_,g⟩:=bind_some g;obtain⟨_,_,g⟩:=bind_some g;cases g;cases j
    ·obtain⟨_,_,g⟩:=bind_some g;obtain⟨_,_,g⟩:=bind_some g;obtain⟨_,_,g⟩:=bind_some g;obtain⟨_,_,g⟩:=bind_some g;cases g;cases j
    ·cases g
  | some mx=>
    cases l<;>cases h<;>simp only[bA,ho,reduceCtorEq]at g;split at g
    ·rename_i p;obtain⟨n,V,g⟩:=bind_some g;obtain⟨y,q,g⟩:=bind_some g;obtain⟨y1,J,g⟩:=bind_some g;obtain⟨y2,K,g⟩:=bind_some g;obtain⟨y3,L,g⟩:=bind_some g;cases g;exact lk (DT ho r p V q J K L A)
    ·cases g
 case call X=>
  obtain⟨Y,as,M⟩:=X;cases Y<;>simp only[bA,ho,reduceCtorEq]at g
  case value f=>
   obtain⟨_,_,g⟩:=bind_some g;obtain⟨_,_,g⟩:=bind_some g;cases g;cases j
  case builtin bb=>
   unfold eg at g;split at g
   ·rename_i x t has C;have h1:as = #[x]:=by apply Array.ext';simpa using has
    have h2:M = #[t]:=by apply Array.ext';simpa using C
    subst h1;subst h2;unfold qD at g;split at g
    ·obtain⟨_,_,g⟩:=bind_some g;cases g;cases j
    ·obtain⟨_,_,g⟩:=bind_some g;cases g;cases j
    ·cases g;cases j
    ·rename_i p;obtain⟨y,q,g⟩:=bind_some g;cases g;exact lk (DZ ho I r p q A)
    ·cases g
   ·rename_i x y t u has C;have h1:as = #[x,y]:=by apply Array.ext';simpa using has
    have h2:M = #[t,u]:=by apply Array.ext';simpa using C
    subst h1;subst h2;unfold g9 at g;split at g
    ·rename_i Z;obtain⟨d,p,g⟩:=bind_some g;obtain⟨i,hi,g⟩:=bind_some g;obtain⟨z,E,g⟩:=bind_some g;split at g
     ·cases g
     ·rename_i R;simp only[not_or,ne_eq,Decidable.not_not]at R;obtain⟨g0,g1,g3⟩:=R;split at g
      ·split at g<;>(obtain⟨_,_,g⟩:=bind_some g;obtain⟨_,_,g⟩:=bind_some g;cases g;cases j)
      ·split at g
       ·rename_i hd;obtain⟨lx,ye,g⟩:=bind_some g;obtain⟨ly,Es,g⟩:=bind_some g;cases g;exact R4 ho I r Z p hd hi g0 g1 E g3 ye Es A
       ·cases g
    ·cases g
   ·exfalso;unfold lE at g;split at g
    ·obtain⟨_,_,g⟩:=bind_some g;obtain⟨_,_,g⟩:=bind_some g;obtain⟨_,_,g⟩:=bind_some g;cases g;cases j
    ·cases g
   ·rename_i x t has C;have h1:as = #[x]:=by apply Array.ext';simpa using has
    have h2:M = #[t]:=by apply Array.ext';simpa using C
    subst h1;subst h2;unfold qE at g;split at g
    ·rename_i p;obtain⟨y,q,g⟩:=bind_some g;cases g;exact lk (Kq ho r p q A)
    ·cases g
   ·exfalso;unfold oC at g;split at g
    ·obtain⟨_,_,g⟩:=bind_some g;obtain⟨_,_,g⟩:=bind_some g;obtain⟨_,_,g⟩:=bind_some g;cases g;cases j
    ·cases g
   ·obtain⟨_,_,g⟩:=bind_some g;cases g;cases j
   ·obtain⟨_,_,g⟩:=bind_some g;cases g;cases j
   ·cases g
 all_goals exfalso
 all_goals simp only[bA,ho,reduceCtorEq,Option.map_eq_some_iff]at g
 all_goals repeat' (first | (cases g;cases j;done) | (cases g;done) | (obtain⟨_,_,rfl⟩:=g;cases j;done) | contradiction | (obtain⟨_,_,g⟩:=bind_some g) | (split at g))
end
open Go Go.RowKit
section
variable {P:Program}{w:World}{w0:Bs}{μ:Mu}{ι:Io}{δ:Nat->Prop}{s s':St}{cmp:Nat->bp->Code->Prop}{c:Ctx}{e:Env}{a:Act}{o:Oper}{v:LV}
theorem Lf {l d:List LV}{s s':St}(ι:Io) (f:Nat->Value) (h:fU l s=(d,s')) (I:Inv cmp w0 μ ι δ s w) (g:∀ i,i<l.length->Rv μ ι w (l.getD i .top) (f i)) :
 ∃ bW,Inv cmp w0 μ bW δ s' w/\Ext μ ι δ w μ bW δ w/\d.length=l.length/\(∀ i,i<l.length->Rv μ bW w (d.getD i .top) (f i))/\gV μ s s':=by
 unfold fU at h;split at h
 ·rename_i r j;subst h;exact iy (Cs aY) _ _ _ _ ι f j I g
 ·cases h;exact⟨ι,I,Ext.refl _ _ _ _,rfl,g, .refl _ _⟩
theorem JX {x y:Operand}{t u:TypeId}(ho:o.op = .call { callee:=.builtin .append,args:=#[x,y],argTypes:=#[t,u] }) (I:Inv cmp w0 μ ι δ s w) (p:Ho μ ι w c e a o) {lo:aR}(Z:B4 lo=false) (f:g9 c x y t u=some lo)
 (g:lo.run e s=some (v,s')):rC cmp w0 μ ι δ s w c.P a o v s':=by
 unfold g9 at f;cases q:c.P.underlying t with
 | none=>simp[q]at f
 | some ty=>
   rw[q]at f;cases ty<;>simp only[reduceCtorEq]at f;rename_i el;obtain⟨d,T,f⟩:=bind_some f;obtain⟨i,U,f⟩:=bind_some f;obtain⟨z,V,f⟩:=bind_some f;split at f
   ·cases f
   ·rename_i X;simp only[not_or,ne_eq,Decidable.not_not]at X;obtain⟨h0,h1,h3⟩:=X;split at f
    case isFalse=>
     exfalso;split at f
     ·obtain⟨_,_,f⟩:=bind_some f;obtain⟨_,_,f⟩:=bind_some f;cases f;cases Z
     ·cases f
    rename_i h2;split at f
    ·obtain⟨B,C,f⟩:=bind_some f;obtain⟨D,E,f⟩:=bind_some f;cases f;have hx:=p x B (by simp[ho,Op.operands,Call.operands]) C;have l:=p y D (by simp[ho,Op.operands,Call.operands]) E;unfold aR.run at g;dsimp only at g;obtain⟨n,F,g⟩:=bind_some g;obtain⟨new,H,g⟩:=bind_some g;obtain⟨arr,J,A,K,h⟩:=nu (P:=c.P) I l H;have hl:=uN (w:=w) l F;obtain⟨r,w',bT,bW,L,M,N,O,R⟩:=Bj (ty:=o.type) q T h2 U h0 h1 V h3 I hx hl (new:=new) (arr:=arr) J A K h g;refine⟨r,w',bT,bW, .inl ?_,M,N,O,R⟩;simp only[execOp,ho,resolve,Sem.run_bind,Sem.run_pure,Result.andThen_ok,invoke,builtin,List.map_toArray,List.map_cons,List.map_nil];have:=L;unfold y7 at this;rw[this];rfl
    obtain⟨B,C,f⟩:=bind_some f;obtain⟨D,E,f⟩:=bind_some f;cases f;have hx:=p x B (by simp[ho,Op.operands,Call.operands]) C;have l:=p y D (by simp[ho,Op.operands,Call.operands]) E;unfold aR.run at g;dsimp only at g;obtain⟨n,F,g⟩:=bind_some g;obtain⟨m,H,g⟩:=bind_some g;obtain⟨arr,J,A,K,h⟩:=nu (P:=c.P) I l H;generalize A4:fU m s=ft at g;obtain⟨new,s1⟩:=ft;dsimp only at g;obtain⟨jS,I1,Y,l1,r1,f1⟩:=Lf ι (λj=>arr.getD j undef) A4 I A.2;have hl:=uN (w:=w) l F;obtain⟨r,w',bT,bW,L,M,N,O,R⟩:=Bj (ty:=o.type) q T h2 U h0 h1 V h3 I1 (hx.ext Y) hl (new:=new) (arr:=arr) J ⟨by rw[A.1,l1],λj hj=>r1 j (by rw[<- l1];exact hj)⟩ K (by rw[l1];exact h) g;refine⟨r,w',bT,bW, .inl ?_,M,Y.trans N,O,(Kept.Gc f1).trans R⟩;simp only[execOp,ho,resolve,Sem.run_bind,Sem.run_pure,Result.andThen_ok,invoke,builtin,List.map_toArray,List.map_cons,List.map_nil];have:=L;unfold y7 at this;rw[this];rfl
theorem Wj (n len:Nat):Nat.min n len=min n len:=rfl
theorem RZ {x y:Operand}{t u:TypeId}(ho:o.op = .call { callee:=.builtin .copy,args:=#[x,y],argTypes:=#[t,u] }) (I:Inv cmp w0 μ ι δ s w) (E:Ho μ ι w c e a o) {lo:aR}(l:lE c x y t=some lo)
 (f:lo.run e s=some (v,s')):rC cmp w0 μ ι δ s w c.P a o v s':=by
 unfold lE at l;cases A:c.P.underlying t with
 | none=>simp[A]at l
 | some ty =>
   rw[A]at l;cases ty<;>simp only[reduceCtorEq]at l;rename_i el;obtain⟨sz,F,l⟩:=bind_some l;obtain⟨H,ye,l⟩:=bind_some l;obtain⟨J,Es,l⟩:=bind_some l;cases l;have hx:=E x H (by simp[ho,Op.operands,Call.operands]) ye;have q:=E y J (by simp[ho,Op.operands,Call.operands]) Es;unfold aR.run at f;dsimp only at f;obtain⟨n,K,z⟩:=bind_some f;clear f;have f:=z;clear z;have hl:=uN (w:=w) q K;generalize H.ev e=vx at *;generalize fP:a.eval x=ax at *;generalize zK:a.eval y=L at *;have M:∀ {r:Value}{w':World},(Builtin.copy_ #[t,u] o.type #[ax,L]).run c.P w = .ok r w'->(execOp a.eval o).run c.P w = .ok (.value r) w':=λh=>by
    simp only[execOp,ho,resolve,Sem.run_bind,Sem.run_pure,Result.andThen_ok,invoke,builtin,List.map_toArray,List.map_cons,List.map_nil,fP,zK,h]
   cases hx<;>try (cases f;done)
   case aj=>
    cases f;refine⟨.int .i64 0,w,μ,ι, .inl (M ?_),I,Ext.refl _ _ _ _, .int _ _,Kept.refl _ _⟩;obtain⟨d,h1,_⟩:∃ d,(Builtin.firstCells sz 0 L).run c.P w = .ok d w/\True:=by
     generalize N:J.ev e=vy at *;cases q<;>simp only[me,reduceCtorEq]at K<;>first
      | exact⟨_,by simp[Builtin.firstCells];rfl,trivial⟩
      | exact⟨#[],by simp[Builtin.firstCells,loadCells,loadCellsFrom],trivial⟩
    simp only[Builtin.copy_];simp[ru A,hl,wj F,h1,goInt]
   case aD =>
    rename_i id off len O cap p m C gR pq sP;dsimp only at f;obtain⟨new,dB,z⟩:=bind_some f;clear f;have f:=z;clear z;split at f
    ·rename_i cs R;split at f
     ·rename_i hb;obtain⟨A5,jZ⟩:=hb;subst A5;simp only[Option.some.injEq,Prod.mk.injEq]at f;obtain⟨rfl,rfl⟩:=f;obtain⟨d,QW,T,U,D⟩:=nu (P:=c.P) I q dB;obtain⟨_,k1,k2,k3,_,_,_⟩:=I.dD id _ p R C;have uW:min n len<=len:=Nat.min_le_right _ _;have V:min n len*O<=len*O:=Nat.mul_le_mul_right _ uW;have B:d.toList.length=new.length:=by simpa using T.1
      have X:∀ {j},j<new.length->m=off:=fun {j} g=>sP (by
       rintro rfl;have:len=0:=by omega
       subst this;rw[D]at g;simp at g)
      have Y:∀ j,d.toList.getD j undef=d.getD j undef:=λj=>by simp[gD,gF]
      obtain⟨w',jy,W⟩:=fQ (P:=c.P) p.b (p.off+m) d.toList 0 w (λy q=>by
       obtain⟨j,g,rfl⟩:=List.getElem_of_mem q;have Z:j<d.size:=by simpa using g
       have:=U j Z;simpa[gF,Z] using this) (λj g=>by
       rw[B]at g;obtain⟨u,hu,_⟩:=k2 (off+j) om;exact⟨u,by rw[<- hu,X g];congr 2;omega⟩) (λj g=>by
       rw[B]at g;exact k3 _)
      rw[Nat.add_zero]at W;have W':uv p.b (p.off+off) d.toList w w':=by
       by_cases h0:new.length=0
       ·have Cc:d.toList=[]:=List.length_eq_zero_iff.1 (by rw[B,h0]);rw[Cc]at W ⊢;exact⟨W.os,W.tape,W.output,W.size,W.block,λi hi=>absurd hi (Nat.not_lt_zero _),λa _=>W.xS a (by simp;omega),W.frozen,W.shape⟩
       ·have:=X (j:=0) om;subst this;exact W
      obtain⟨I',x'⟩:=I.write R C new d.toList B om (λj g=>by rw[Y];exact T.2 j g) (λj g=>by rw[Y];exact U j (by simpa using g)) W';refine⟨.int .i64 (min n len:Nat),w',μ,ι, .inl (M ?_),I',x', .int _ _,Kept.put C _⟩;have YU:=QW w (cR.refl w);simp only[Builtin.copy_];simp[ru A,hl,wj F,Wj,YU,goInt,jy]
     ·cases f
    ·cases f
theorem Wf {x:Operand}{t:TypeId}(ho:o.op = .call { callee:=.builtin .clear,args:=#[x],argTypes:=#[t] }) (I:Inv cmp w0 μ ι δ s w) (T:Ho μ ι w c e a o) {lo:aR}(l:oC c x t=some lo)
 (d:lo.run e s=some (v,s')):rC cmp w0 μ ι δ s w c.P a o v s':=by
 unfold oC at l;cases A:c.P.underlying t with
 | none=>simp[A]at l
 | some U =>
   rw[A]at l;cases U<;>simp only[reduceCtorEq]at l;rename_i V;obtain⟨sz,kz,l⟩:=bind_some l;obtain⟨z,X,l⟩:=bind_some l;obtain⟨J,Y,l⟩:=bind_some l;cases l;have hx:=T x J (by simp[ho,Op.operands,Call.operands]) Y;unfold aR.run at d;dsimp only at d;generalize J.ev e=vx at *;generalize Z:a.eval x=ax at *;have C:∀ {r:Value}{w':World},(Builtin.clear_ #[t] o.type #[ax]).run c.P w = .ok r w'->(execOp a.eval o).run c.P w = .ok (.value r) w':=λh=>by
    simp only[execOp,ho,resolve,Sem.run_bind,Sem.run_pure,Result.andThen_ok,invoke,builtin,List.map_toArray,List.map_cons,List.map_nil,Z,h]
   cases hx<;>try (cases d;done)
   case aj=>
    cases d;refine⟨.tuple #[],w,μ,ι, .inl (C ?_),I,Ext.refl _ _ _ _, .cy rfl (λi n=>absurd n (Nat.not_lt_zero i)),Kept.refl _ _⟩;simp only[Builtin.clear_];simp[ru A]
   case zs=>
    cases d;refine⟨.tuple #[],w,μ,ι, .inl (C ?_),I,Ext.refl _ _ _ _, .cy rfl (λi n=>absurd n (Nat.not_lt_zero i)),Kept.refl _ _⟩;simp only[Builtin.clear_];simp[ru A]
   case aD =>
    rename_i id off len es cap p m E gR pq sP;dsimp only at d;cases len with
    | zero=>
      cases d;refine⟨.tuple #[],w,μ,ι, .inl (C ?_),I,Ext.refl _ _ _ _, .cy rfl (λi n=>absurd n (Nat.not_lt_zero i)),Kept.refl _ _⟩;simp only[Builtin.clear_];simp[ru A]
    | succ len=>
      rw[if_neg om]at d;split at d
      ·rename_i cs K;split at d
       ·rename_i hb;obtain⟨A5,KC,jZ⟩:=hb;subst A5;simp only[Option.some.injEq,Prod.mk.injEq]at d;obtain⟨rfl,rfl⟩:=d;obtain rfl:m=off:=sP om;obtain⟨F,IL,D,LS⟩:=m9 (μ:=μ) (ι:=ι) (w:=w) X;have SF:=D.one (by simpa using LS);have L:Ra μ ι w (rep (len+1) z) (Builtin.zeroCells F.cells (len+1)):=by
         refine⟨by rw[di,eo,D.1],λj f=>?_⟩;rw[eo]at f;by_cases Ff:z.length=0
         ·rw[Ff]at f;simp at f
         ·have:=(lV (μ:=μ) (ι:=ι) (w:=w) D om (len+1) (len+1) (Nat.le_refl _)).2 j f;simpa[Builtin.zeroCells,D.1] using this
        have M:=ek SF (len+1);obtain⟨_,k1,k2,k3,_,_,_⟩:=I.dD id _ p K E;generalize dB:rep (len+1) z=new at *;generalize q:Builtin.zeroCells F.cells (len+1)=g at *;have H:g.toList.length=new.length:=by simpa using L.1
        have N:new.length=(len+1)*es:=by rw[<- dB,eo,KC]
        have O:∀ j,g.toList.getD j undef=g.getD j undef:=λj=>by simp[gD,gF]
        obtain⟨w',jy,W⟩:=fQ (P:=c.P) p.b (p.off+m) g.toList 0 w (λy hy=>by
         obtain⟨j,f,rfl⟩:=List.getElem_of_mem hy;have R:j<g.size:=by simpa using f
         have:=M j R;simpa[gF,R] using this) (λj f=>by
         rw[H,N]at f;obtain⟨u,hu,_⟩:=k2 (m+j) om;exact⟨u,by rw[<- hu];congr 2;omega⟩) (λj f=>by
         rw[H,N]at f;exact k3 _)
        rw[Nat.add_zero]at W;obtain⟨I',x'⟩:=I.write K E new g.toList H om (λj f=>by rw[O];exact L.2 j f) (λj f=>by rw[O];exact M j (by simpa using f)) W;refine⟨.tuple #[],w',μ,ι, .inl (C ?_),I',x', .cy rfl (λi n=>absurd n (Nat.not_lt_zero i)),Kept.put E _⟩;have B:(zeroValue V).run c.P w = .ok F w:=IL;simp only[Builtin.clear_];simp[ru A,B,q,jy]
       ·cases d
      ·cases d
theorem DJ {lo:aR}(d:bA c o=some lo) (p:Ho μ ι w c e a o) (I:Inv cmp w0 μ ι δ s w) (g:lo.run e s=some (v,s')):rC cmp w0 μ ι δ s w c.P a o v s':=by
 cases j:B4 lo with
 | true=>exact Ke j d p I g
 | false=>
 by_cases hl:Op.looks o.op=true
 ·obtain⟨rfl,h⟩:=Gj hl d p I j g;exact Iv I h
 ·by_cases hm:Op.makes o.op=true
  ·by_cases q:lu lo=true
   ·exact Wd I hm q d p g
   ·cases ho:o.op<;>rw[ho]at hm<;>(try (cases hm;done))<;>have T:=d<;>simp only[bA,ho]at d
    case alloc t=>obtain⟨z,D,d⟩:=bind_some d;cases d;exact absurd rfl q
    case box t x=>
     obtain⟨y,F,d⟩:=bind_some d;cases d;cases H:VC c o<;>rw[H]at g q
     ·exact absurd rfl q
     ·exact Wg ho I p F g
    case buildSlice t len ps=>
     cases r:c.P.underlying t with
     | none=>simp[r]at d
     | some C=>
       rw[r]at d;cases C<;>simp only[reduceCtorEq]at d;obtain⟨U,V,d⟩:=bind_some d;obtain⟨z,D,d⟩:=bind_some d;split at d
       ·cases d
       ·obtain⟨ls,X,d⟩:=bind_some d;cases d;exact absurd rfl q
    case makeSlice t l k=>
     cases r:c.P.underlying t with
     | none=>simp[r]at d
     | some C=>
       rw[r]at d;cases C<;>simp only[reduceCtorEq]at d;obtain⟨i,Y,d⟩:=bind_some d;obtain⟨z,D,d⟩:=bind_some d;split at d
       ·cases d
       ·obtain⟨Z,uA,d⟩:=bind_some d;obtain⟨lk,J,d⟩:=bind_some d;cases d;exact absurd rfl q
  ·cases ho:o.op<;>rw[ho]at hl hm<;>simp only[Op.looks,Op.makes,not_true_eq_false]at hl hm<;>(try (simp only[bA,ho,reduceCtorEq]at d;done))<;>simp only[bA,ho]at d
   case range t x=>
    exfalso;split at d
    ·obtain⟨_,_,d⟩:=bind_some d;cases d;cases j
    ·cases d
   case entry x=>
    exfalso;obtain⟨_,_,rfl⟩:=cP d;cases j
   case next x b=>
    exfalso;cases b<;>simp only[reduceCtorEq]at d;obtain⟨_,_,rfl⟩:=cP d;cases g
   case makeMap t x=>
    exfalso;split at d
    ·obtain⟨_,_,d⟩:=bind_some d;cases d;cases j
    ·cases d
   case lookup t m k ok=>
    exfalso;split at d
    ·obtain⟨_,_,d⟩:=bind_some d;obtain⟨_,_,d⟩:=bind_some d;obtain⟨_,_,d⟩:=bind_some d;obtain⟨_,_,d⟩:=bind_some d;obtain⟨_,_,d⟩:=bind_some d;cases d;cases j
    ·cases d
   case mapUpdate t m k x=>
    exfalso;split at d
    ·obtain⟨_,_,d⟩:=bind_some d;obtain⟨_,_,d⟩:=bind_some d;obtain⟨_,_,d⟩:=bind_some d;obtain⟨_,_,d⟩:=bind_some d;cases d;cases j
    ·cases d
   case insert t m k x=>
    exfalso;split at d
    ·obtain⟨_,_,d⟩:=bind_some d;obtain⟨_,_,d⟩:=bind_some d;obtain⟨_,_,d⟩:=bind_some d;obtain⟨_,_,d⟩:=bind_some d;cases d;cases j
    ·cases d
   case store t x y=>
    obtain⟨n,K,d⟩:=bind_some d;obtain⟨lx,L,d⟩:=bind_some d;obtain⟨ly,M,d⟩:=bind_some d;cases d;exact NC ho I p K L M g
   case call N=>
    obtain⟨O,as,A⟩:=N;cases O<;>dsimp only at d<;>try (cases d;done)
    case value f=>
     obtain⟨lf,R,d⟩:=bind_some d;obtain⟨Yp,E,d⟩:=bind_some d;cases d;cases g
    case builtin b=>
     unfold eg at d;rcases has:as.toList with _ | ⟨x,_ | ⟨y,_ | ⟨z,xs⟩⟩⟩<;>rcases B:A.toList with _ | ⟨t,_ | ⟨u,_ | ⟨t3,tl⟩⟩⟩<;>rw[has,B]at d<;>cases b<;>(try (cases d;done))<;>(try (exact absurd rfl hl)) 
     case append=>
      have h1:as = #[x,y]:=by apply Array.ext';simpa using has
      have h2:A = #[t,u]:=by apply Array.ext';simpa using B
      subst h1;subst h2;exact JX ho I p j d g
     case copy=>
      have h1:as = #[x,y]:=by apply Array.ext';simpa using has
      have h2:A = #[t,u]:=by apply Array.ext';simpa using B
      subst h1;subst h2;exact RZ ho I p d g
     case clear=>
      have h1:as = #[x]:=by apply Array.ext';simpa using has
      have h2:A = #[t]:=by apply Array.ext';simpa using B
      subst h1;subst h2;exact Wf ho I p d g
     case cap=>
      exfalso;simp only at d;unfold qE at d;split at d
      ·obtain⟨_,_,d⟩:=bind_some d;cases d;cases j
      ·cases d
end
inductive Out where
  | normal
  | jmp (j:CH)
def rq (P:Program) (G:List (Nat × List LV)):Nat->bp->Code->Prop:=λnt d c=>∃ refs,bh ⟨P,G,refs,nt⟩ c=d
abbrev bG:=List (Nat × List LV)
structure CF (P:Program) (G:bG) (w0:Bs) (μ:Mu) (ι:Io) (δ:Nat->Prop) (s:St) (w:World):Prop where
  inv:Inv (rq P G) w0 μ ι δ s w
  Pz:∀ x∈G,Rv μ ι w (.aX x.2 0) (.pointer (some ⟨x.1,0,none⟩))
  /-- In a run ZE owns all it knows,no Yq cell is a part of a string. -/
  own:BN G=true->∀ b o,w0.κ b o->iS w0.w b∨∃ x∈G,b=x.1/\o<x.2.length
structure Fr (P:Program) (G:bG) (w0:Bs) (μ:Mu) (ι:Io) (δ:Nat->Prop) (s:St) (w:World) (nt:Nat) (e:Env) (a:Act):Prop where
  now:CF P G w0 μ ι δ s w
  re:Re μ ι w e a.tmps
  size:a.tmps.size=nt
def mark (r:Nat):Deferred:={ target:=.collected r,args:=#[] }
structure rB (μ:Mu) (ι:Io) (δ:Nat->Prop) (s:St) (w:World) (ds:List Deferred) (bT:Mu) (bW:Io) (lI:Nat->Prop) (s':St) (w':World) (X4:List Deferred):Prop where
  ext:Ext μ ι δ w bT bW lI w'
  kept:Kept μ s bT s'
  marks:∃ rs:List Nat,X4=rs.map mark++ds/\rs.Nodup/\(∀ r∈rs,¬ δ r)/\∀ r,lI r↔δ r∨r∈rs
theorem rB.refl {μ:Mu}{ι:Io}{δ:Nat->Prop}{s:St}{w:World}{ds:List Deferred} : rB μ ι δ s w ds μ ι δ s w ds:=
 ⟨Ext.refl _ _ _ _,Kept.refl _ _,[],rfl,List.nodup_nil,λ_ h=>absurd h (List.not_mem_nil),λr=>by simp⟩
theorem rB.trans {μ bT g:Mu}{ι bW j:Io}{δ l m:Nat->Prop}{s s' n:St}{w w' p:World}{ds q d:List Deferred}
 (h:rB μ ι δ s w ds bT bW l s' w' q) (k:rB bT bW l s' w' q g j m n p d):rB μ ι δ s w ds g j m n p d:=by
 obtain⟨r1,a1,t,c1,d1⟩:=h.marks;obtain⟨r2,a2,b2,c2,d2⟩:=k.marks;refine⟨h.ext.trans k.ext,h.kept.trans k.kept,r2++r1,by rw[a2,a1];simp,?_,λr f=>?_,λr=>?_⟩
 ·refine List.nodup_append.2 ⟨b2,t,λx hx y u e=>?_⟩;subst e;exact c2 x hx ((d1 x).2 (.inr u))
 ·rcases List.mem_append.1 f with f | f
  ·exact λz=>c2 r f ((d1 r).2 (.inl z))
  ·exact c1 r f
 ·rw[d2,d1,List.mem_append];constructor
  ·rintro ((h | h) | h)<;>simp[h]
  ·rintro (h | h | h)<;>simp[h]
theorem rB.one {μ bT:Mu}{ι bW:Io}{δ:Nat->Prop}{s s':St}{w w':World}{ds:List Deferred}(x:Ext μ ι δ w bT bW δ w') (k:Kept μ s bT s'):rB μ ι δ s w ds bT bW δ s' w' ds:=
 ⟨x,k,[],rfl,List.nodup_nil,λ_ h=>absurd h (List.not_mem_nil),λr=>by simp⟩
section
variable {P:Program}{G:bG}
theorem CF.ext {w0:Bs}{μ bT:Mu}{ι bW:Io}{δ d:Nat->Prop}{s s':St}{w w':World}(h:CF P G w0 μ ι δ s w) (I:Inv (rq P G) w0 bT bW d s' w') (x:Ext μ ι δ w bT bW d w'):CF P G w0 bT bW d s' w' :=
 ⟨I,λg f=>(h.Pz g f).ext x,h.own⟩
def T9 (P:Program) (m:Machine) (b:Frame) (a:Act) (k:List Item) (cs:List Frame) (w:World):Out->Prop
 | .normal=>Steps P m (lone (b.atR a k) cs w)
 | .jmp .ret=>∃ d,Steps P m (lone (b.atR a (.code .ret::d)) cs w)
 | .jmp (.exit id)=>∃ d,exitTo id d=exitTo id k/\Steps P m (lone (b.atR a (.code (.exit id)::d)) cs w)
theorem T9.head {m m':Machine}{b:Frame}{a:Act}{k:List Item}{cs:List Frame}{w:World}{o:Out}(h:Steps P m m') (d:T9 P m' b a k cs w o):T9 P m b a k cs w o:=by
 rcases o with _ | _ | id
 ·exact Steps.trans h d
 ·obtain⟨f,d⟩:=d;exact⟨f,Steps.trans h d⟩
 ·obtain⟨f,g,d⟩:=d;exact⟨f,g,Steps.trans h d⟩
def aQ (P:Program) (G:bG) (rd:Bool) (nt:Nat) (h:bp) (e:Env) (s:St) (Q:Out->Env->St->Prop):Prop:=
 ∀ (c:Code),rq P G nt h c->∀ (w0:Bs) (μ:Mu) (ι:Io) (δ:Nat->Prop) (w:World) (b:Frame) (a:Act) (k:List Item) (cs:List Frame),
   b.roundOf.isSome=rd->Fr P G w0 μ ι δ s w nt e a ->
   ∃ o f s' bT bW g w' d,Q o f s'/\T9 P (lone (b.atR a (.code c::k)) cs w) b d k cs w' o/\Fr P G w0 bT bW g s' w' nt f d /\
     rB μ ι δ s w a.defers bT bW g s' w' d.defers
theorem aQ.mono {rd:Bool}{nt:Nat}{d:bp}{e:Env}{s:St}{Q Q':Out->Env->St->Prop}(h:aQ P G rd nt d e s Q) (f:∀ o e s,Q o e s->Q' o e s):aQ P G rd nt d e s Q':=by
 intro c g w0 μ ι δ w b a k cs j l;obtain⟨o,m,s',bT,bW,n,w',p,q,r⟩:=h c g w0 μ ι δ w b a k cs j l;exact⟨o,m,s',bT,bW,n,w',p,f _ _ _ q,r⟩
section
variable {c:Ctx}
theorem Lq {x:Code}(h:bh c x = .skip):x = .skip∨∃ l,x = .label l:=by
 cases x<;>simp only[bh,reduceCtorEq]at h
 ·exact .inl rfl
 ·split at h<;>cases h
 ·split at h<;>cases h
 ·split at h<;>(try cases h);split at h<;>cases h
 ·exact .inr ⟨_,rfl⟩
theorem P8 {x:Code}{a b:bp}(h:bh c x = .seq a b):∃ y z,x = .seq y z/\bh c y=a/\bh c z=b:=by
 cases x<;>simp only[bh,reduceCtorEq]at h
 ·split at h<;>cases h
 ·cases h;exact⟨_,_,rfl,rfl,rfl⟩
 ·split at h<;>cases h
 ·split at h<;>(try cases h);split at h<;>cases h
theorem Lu {x:Code}{y:bz}{a b:bp}(h:bh c x = .cond y a b):∃ t p q,x = .cond t p q/\cB c t=some y/\bh c p=a/\bh c q=b:=by
 cases x<;>simp only[bh,reduceCtorEq]at h
 ·split at h<;>cases h
 ·split at h
  ·rename_i d;cases h;exact⟨_,_,_,rfl,d,rfl,rfl⟩
  ·cases h
 ·split at h<;>(try cases h);split at h<;>cases h
theorem Hj {x:Code}{id:Nat}{a:bp}(h:bh c x = .block id a):∃ y,x = .block id y/\bh c y=a:=by
 cases x<;>simp only[bh,reduceCtorEq]at h
 ·split at h<;>cases h
 ·split at h<;>cases h
 ·cases h;exact⟨_,rfl,rfl⟩
 ·split at h<;>(try cases h);split at h<;>cases h
theorem Lr {x:Code}{a:bp}(h:bh c x = .loop a):∃ y,x = .loop y/\bh c y=a:=by
 cases x<;>simp only[bh,reduceCtorEq]at h
 ·split at h<;>cases h
 ·split at h<;>cases h
 ·cases h;exact⟨_,rfl,rfl⟩
 ·split at h<;>(try cases h);split at h<;>cases h
theorem Hi {x:Code}{a:bp}(h:bh c x = .scope a):∃ y,x = .scope y/\bh c y=a:=by
 cases x<;>simp only[bh,reduceCtorEq]at h
 ·split at h<;>cases h
 ·split at h<;>cases h
 ·split at h<;>(try cases h);split at h<;>cases h
 ·cases h;exact⟨_,rfl,rfl⟩
theorem Lt {x:Code}{id:Nat}(h:bh c x = .exit id):x = .exit id:=by
 cases x<;>simp only[bh,reduceCtorEq]at h
 ·split at h<;>cases h
 ·split at h<;>cases h
 ·split at h<;>(try cases h);split at h<;>cases h
 ·cases h;rfl
theorem P9 {x:Code}(h:bh c x = .ret):x = .ret:=by
 cases x<;>simp only[bh,reduceCtorEq]at h
 ·split at h<;>cases h
 ·split at h<;>cases h
 ·split at h<;>(try cases h);split at h<;>cases h
 ·rfl
end
section
variable {rd:Bool}{nt:Nat}{e:Env}{s:St}{Q:Out->Env->St->Prop}
theorem Is (h:Q .normal e s):aQ P G rd nt .skip e s Q:=by
 rintro c ⟨refs,d⟩ w0 μ ι δ w b a k cs g f;refine⟨.normal,e,s,μ,ι,δ,w,a,h,?_,f,rB.refl⟩;rcases Lq d with rfl | ⟨l,rfl⟩
 ·exact .one stepR_skip
 ·exact .one stepR_label
theorem Iw {id:Nat}(h:Q (.jmp (.exit id)) e s):aQ P G rd nt (.exit id) e s Q:=by
 rintro c ⟨refs,d⟩ w0 μ ι δ w b a k cs g f;obtain rfl:=Lt d;exact⟨.jmp (.exit id),e,s,μ,ι,δ,w,a,h,⟨k,rfl, .refl _ _⟩,f,rB.refl⟩
theorem NF (h:Q (.jmp .ret) e s):aQ P G rd nt .ret e s Q:=by
 rintro c ⟨refs,d⟩ w0 μ ι δ w b a k cs g f;obtain rfl:=P9 d;exact⟨.jmp .ret,e,s,μ,ι,δ,w,a,h,⟨k, .refl _ _⟩,f,rB.refl⟩
def zi (R:Env->St->Prop) (Q:Out->Env->St->Prop):Out->Env->St->Prop
 | .normal,e,s=>R e s
 | .jmp j,e,s=>Q (.jmp j) e s
theorem ND {x y:bp}(h:aQ P G rd nt x e s (zi (λe s=>aQ P G rd nt y e s Q) Q)):aQ P G rd nt (.seq x y) e s Q:=by
 rintro c ⟨refs,z⟩ w0 μ ι δ w b a k cs r A;obtain⟨c1,c2,rfl,h1,h2⟩:=P8 z;obtain⟨o,t,u,f,g,j,l,a1,q,d,m,n⟩:=h c1 ⟨refs,h1⟩ w0 μ ι δ w b a (.code c2::k) cs r A;rcases o with _ | _ | id
 ·obtain⟨o,B,C,D,E,F,H,a2,I,J,K,L⟩:=q c2 ⟨refs,h2⟩ w0 f g j l b a1 k cs r m;exact⟨o,B,C,D,E,F,H,a2,I,T9.head (.head stepR_seq d) J,K,n.trans L⟩
 ·obtain⟨p,d⟩:=d;exact⟨_,t,u,f,g,j,l,a1,q,⟨p, .head stepR_seq d⟩,m,n⟩
 ·obtain⟨p,M,d⟩:=d;exact⟨_,t,u,f,g,j,l,a1,q,⟨p,M, .head stepR_seq d⟩,m,n⟩
theorem BO {c:Ctx}{w0:Bs}{μ:Mu}{ι:Io}{δ:Nat->Prop}{w:World}{a:Act}(_hP:c.P=P) (l:c.vS=G) (m:CF P G w0 μ ι δ s w) {x:Operand}{y:bz}(h:cB c x=some y)
 (n:∀ t,x = .tmp t->Rv μ ι w (e.at t) (a.tmps.getD t undef)):Rv μ ι w (y.ev e) (a.eval x):=by
 cases x with
 | tmp t=>cases h;have:=n t rfl;simpa[Act.eval] using this
 | const v=>
   simp only[cB,Option.map_eq_some_iff]at h;obtain⟨z,d,rfl⟩:=h;exact nj d
 | global g=>
   simp only[cB,Option.map_eq_some_iff]at h;obtain⟨z,d,rfl⟩:=h;obtain⟨h1,h2⟩:=List.find?_eq_some_iff_append.1 d;have hm:z∈G:=by rw[<- l];exact List.mem_of_find?_eq_some d
   have:=m.Pz z hm;have p:z.1=g:=by simpa using h1
   rw[p]at this;exact this
 | func f=>cases h;exact .fn rfl rfl (λi j=>absurd j (Nat.not_lt_zero _)) (λi j=>absurd j (Nat.not_lt_zero _))
theorem BP {y:bz}{t:Bool}{p q:bp}(j:y.ev e = .bool t) (h:aQ P G rd nt (if t then p else q) e s Q):aQ P G rd nt (.cond y p q) e s Q:=by
 rintro c ⟨refs,l⟩ w0 μ ι δ w b a k cs m d;obtain⟨x,c1,c2,rfl,hx,h1,h2⟩:=Lu l;have f:=BO (c:=⟨P,G,refs,nt⟩) rfl rfl d.now hx (λt _=>d.re t);rw[j]at f;have g:a.eval x = .bool t:=by generalize a.eval x=z at f;cases f;rfl
 obtain⟨o,n,r,u,A,B,C,a1,q,D,E,F⟩:=h (if t then c1 else c2) ⟨refs,by cases t<;>simpa⟩ w0 μ ι δ w b a k cs m d;exact⟨o,n,r,u,A,B,C,a1,q,T9.head (.one (stepR_cond g)) D,E,F⟩
theorem DK {x:bp}(h:aQ P G rd nt x e s Q):aQ P G rd nt (.scope x) e s Q:=by
 rintro c ⟨refs,u⟩ w0 μ ι δ w b a k cs y z;obtain⟨c1,rfl,h1⟩:=Hi u;obtain⟨o,f,g,j,l,m,n,a1,q,d,p,r⟩:=h c1 ⟨refs,h1⟩ w0 μ ι δ w b a (.inScope c1::k) cs y z;have h0:step P (lone (b.atR a (.code (.scope c1)::k)) cs w) = .next (lone (b.atR a (.code c1::.inScope c1::k)) cs w):=step_lone_go (by simp[stepG,stepG.exec,Frame.atR]);rcases o with _ | _ | id
 ·refine⟨_,f,g,j,l,m,n,a1,q,Steps.head h0 (Steps.trans d (.one ?_)),p,r⟩;exact step_lone_go (by simp[stepG,stepG.exec,Frame.atR])
 ·obtain⟨t,d⟩:=d;exact⟨_,f,g,j,l,m,n,a1,q,⟨t, .head h0 d⟩,p,r⟩
 ·obtain⟨t,A,d⟩:=d;exact⟨_,f,g,j,l,m,n,a1,q,⟨t,A, .head h0 d⟩,p,r⟩
def CK (id:Nat) (Q:Out->Env->St->Prop):Out->Env->St->Prop
 | .jmp (.exit d),e,s=>if d=id then Q .normal e s else Q (.jmp (.exit d)) e s
 | o,e,s=>Q o e s
theorem DL {id:Nat}{x:bp}(h:aQ P G rd nt x e s (CK id Q)):aQ P G rd nt (.block id x) e s Q:=by
 rintro c ⟨refs,z⟩ w0 μ ι δ w b a k cs A B;obtain⟨c1,rfl,h1⟩:=Hj z;obtain⟨o,f,g,j,l,m,n,a1,q,d,p,r⟩:=h c1 ⟨refs,h1⟩ w0 μ ι δ w b a (.inBlock id::k) cs A B;rcases o with _ | _ | C
 ·exact⟨_,f,g,j,l,m,n,a1,q,Steps.head stepR_block (Steps.trans d (.one stepR_inBlock)),p,r⟩
 ·obtain⟨u,d⟩:=d;exact⟨_,f,g,j,l,m,n,a1,q,⟨u, .head stepR_block d⟩,p,r⟩
 ·obtain⟨u,y,d⟩:=d;simp only[CK]at q;by_cases t:C=id
  ·rw[if_pos t]at q;subst t;refine⟨.normal,f,g,j,l,m,n,a1,q,Steps.head stepR_block (Steps.trans d (.one (stepR_exit ?_))),p,r⟩;rw[y];simp[exitTo]
  ·rw[if_neg t]at q;refine⟨_,f,g,j,l,m,n,a1,q,⟨u,?_, .head stepR_block d⟩,p,r⟩;rw[y];simp[exitTo,Ne.symm t]
theorem vw {x:bp}(I:Nat->Env->St->Prop) (T:∀ n e s,I n e s->aQ P G rd nt x e s (zi (λe s=>∃ m,m<n/\I m e s) Q)) (n:Nat) (h:I n e s):aQ P G rd nt (.loop x) e s Q:=by
 rintro c ⟨refs,Y⟩ w0 μ ι δ w b a k cs U z;obtain⟨c1,rfl,h1⟩:=Lr Y;have key:∀ n e s,I n e s->∀ (μ:Mu) (ι:Io) (δ:Nat->Prop) (w:World) (a:Act),Fr P G w0 μ ι δ s w nt e a->∃ o V s' bT bW X w' A,Q o V s'/\o≠.normal /\
  T9 P (lone (b.atR a (.inLoop c1::k)) cs w) b A k cs w' o/\Fr P G w0 bT bW X s' w' nt V A/\rB μ ι δ s w a.defers bT bW X s' w' A.defers:=by
  intro n;induction n using Nat.strongRecOn with
  | ind n ih=>
    intro e s B μ ι δ w a z;obtain⟨o,f,g,j,l,p,r,a1,q,d,t,u⟩:=T n e s B c1 ⟨refs,h1⟩ w0 μ ι δ w b a (.inLoop c1::k) cs U z;rcases o with _ | _ | id
    ·obtain⟨m,hm,C⟩:=q;obtain⟨o,D,E,F,H,J,K,a2,L,dH,M,N,O⟩:=ih m hm f g C j l p r a1 t;exact⟨o,D,E,F,H,J,K,a2,L,dH,T9.head (.head stepR_inLoop d) M,N,u.trans O⟩
    ·obtain⟨y,d⟩:=d;exact⟨_,f,g,j,l,p,r,a1,q,(by simp),⟨y, .head stepR_inLoop d⟩,t,u⟩
    ·obtain⟨y,R,d⟩:=d;exact⟨_,f,g,j,l,p,r,a1,q,(by simp),⟨y,R, .head stepR_inLoop d⟩,t,u⟩
 obtain⟨o,f,g,j,l,p,r,a1,q,d,t,u⟩:=T n e s h c1 ⟨refs,h1⟩ w0 μ ι δ w b a (.inLoop c1::k) cs U z;rcases o with _ | _ | id
 ·obtain⟨m,hm,C⟩:=q;obtain⟨o,D,E,F,H,J,K,a2,L,dH,M,N,O⟩:=key m f g C j l p r a1 t;exact⟨o,D,E,F,H,J,K,a2,L,T9.head (.head stepR_loop d) M,N,u.trans O⟩
 ·obtain⟨y,d⟩:=d;exact⟨_,f,g,j,l,p,r,a1,q,⟨y, .head stepR_loop d⟩,t,u⟩
 ·obtain⟨y,R,d⟩:=d;exact⟨_,f,g,j,l,p,r,a1,q,⟨y,R, .head stepR_loop d⟩,t,u⟩
end
end
section
variable {P:Program}{G:bG}{w0:Bs}{w:World}{μ:Mu}{ι:Io}{δ:Nat->Prop}{s:St}{c:Ctx}
theorem Av {b:Nat}(h:iS w b):∃ cs t lo hi,w.heap[b]? = some (.cells cs t (lo,hi))/\∀ o,(decide (lo<=o) && decide (o<hi))=false:=by
 obtain⟨⟨x,hx⟩,f⟩:=h;unfold World.shape? at hx;split at hx
 ·rename_i cs t g d;obtain⟨lo,hi⟩:=g;refine⟨cs,t,lo,hi,d,λo=>?_⟩;have:=f o;simpa[World.frozen?,d] using this
 ·cases hx
theorem rY {x y:Addr}(f:iS w x.block) (g:iS w y.block):(sameAddr x y).run P w = .ok (x == y) w:=by
 by_cases d:x.block=y.block
 ·simp[sameAddr,d]
 ·have dH:(x == y)=false:=by
   rw[beq_eq_false_iff_ne];rintro rfl;exact d rfl
  obtain⟨c1,l,l1,h1,h,f1⟩:=Av f;obtain⟨c2,m,l2,h2,j,f2⟩:=Av g;rw[dH];simp[sameAddr,d,World.frozen?,h,j,f1,f2,noView,viewAt,World.shape?,mayBeOne,stringish]
theorem Bk:∀ (l d:List LV),(∀ i,i<l.length->i<d.length->agree (l.getD i .top) (d.getD i .top)=true)->agree.vg l d=true:=by
 intro l;induction l with
 | nil=>intro d _;cases d<;>rfl
 | cons a l ih=>
   intro d h;cases d with
   | nil=>rfl
   | cons b d =>
     simp only[agree.vg,Bool.and_eq_true];exact⟨by simpa using h 0 (by simp) (by simp),ih d λi h1 h2=>by simpa using h (i+1) (by simpa using h1) (by simpa using h2)⟩
theorem Qn {a:LV}{v:Value}(j:Rv μ ι w a v):∀ {b:LV},Rv μ ι w b v->agree a b=true:=by
 induction j with
 | int k n=>intro b d;cases d<;>simp[agree]
 | str x=>intro b d;cases d<;>simp[agree]
 | bool x=>intro b d;cases d<;>simp[agree]
 | aj=>intro b d;cases d<;>simp[agree]
 | aB vs l t h1 h u ih=>
   rename_i cs len m o cap;intro b d;generalize g:Value.slice (some ⟨m,o,none⟩) len cap=v at d;cases d with
   | aB f p y q r z =>
     cases g;simp only[agree,Bool.and_eq_true,beq_self_eq_true,true_and];refine Bk _ _ λi h2 h3=>ih i h2 ?_;have e:vs i=f i:=Option.some.inj ((l i h2).symm.trans (p i h3));rw[e];exact r i h3
   | aj=>cases g
   | _=>rfl
 | _=>intro b _;cases b<;>rfl
theorem CF.plain (d:CF P G w0 μ ι δ s w) (ho:BN G=true) {b o:Nat}(hi:ι b o):iS w b∨∃ x∈G,b=x.1/\o<x.2.length:=by
 by_cases g:w0.heap.size<=b
 ·exact .inl (d.inv.own b o hi g)
 ·rcases d.own ho b o (d.inv.low b o hi om) with⟨⟨x,hx⟩,j⟩ | h
  ·have f:=d.inv.below.block b om;refine .inl ⟨⟨x,?_⟩,λo=>?_⟩
   ·unfold World.shape? at hx ⊢;rw[f];exact hx
   ·have:=j o;unfold World.frozen? at this ⊢;dsimp only at this ⊢;rw[f];exact this
  ·exact .inr h
theorem CF.Nu (p:CF P G w0 μ ι δ s w) (ho:BN G=true) {cs:List LV}{vs:Nat->Value}{b o:Nat}(z:∀ i,i<cs.length->w.cell? ⟨b,o+i,none⟩=some (vs i)) (hi:∀ i,i<cs.length->ι b (o+i))
 (h:∀ i,i<cs.length->Rv μ ι w (cs.getD i .top) (vs i)) (hs:cs.any uO=true):iS w b:=by
 obtain⟨v,A,q⟩:=List.any_eq_true.1 hs;obtain⟨i,g,rfl⟩:=List.getElem_of_mem A;rcases p.plain ho (hi i g) with h1 | ⟨x,hx,rfl,l⟩
 ·exact h1
 ·exfalso;have r:=p.Pz x hx;have t:B3 (x.2.getD (o+i) .top)=true:=by
   unfold BN at ho;simp only[Bool.and_eq_true,List.all_eq_true]at ho;have:=ho.2 x hx (x.2[o+i]) (List.getElem_mem l);simpa[gD,l] using this
  generalize f:Value.pointer (some ⟨x.1,0,none⟩)=J at r;cases r with
  | aX B C K D E =>
    injection f with f
    injection f with f
    injection f with F L M
    subst F;have N:∀ j,w.cell? ⟨x.1,o+i,none⟩=w.cell? ⟨x.1,j+(o+i),none⟩->True:=λ_ _=>trivial;rename_i H;obtain rfl:H=0:=by omega
    have y:=C (o+i) l;rw[Nat.zero_add,z i g]at y;have m:=E (o+i) l;rw[<- Option.some.inj y]at m;have n:=h i g;have I:cs.getD i .top=cs[i]:=by simp[gD,g]
    rw[I]at n;generalize cs[i]=a at n q;generalize x.2.getD (o+i) .top=d at m t;generalize vs i=u at m n;cases m<;>simp[B3]at t<;>cases n<;>simp[uO]at q
end
def Yf (P:Program) (h:Value) (cp:Array Value) (w:World) (c:Frame) (cs:List Frame) (v:Value) (w':World):Prop:=
 ∃ d nx g,(∀ w,(Deferred.ofValue h cp).run P w = .ok d w)/\(invoke d.target d.args).run P w = .ok nx g /\
   match nx with
   | .enter f as=>Steps P (lone (Frame.enter P f as .normal) (c::cs) g) (lone (c.finish v) cs w')
   | .round l f tmps as j=>Steps P (lone (Frame.round l f tmps as j .normal) (c::cs) g) (lone (c.finish v) cs w')
   | .value v'=>v'=v/\g=w'
   | _=>False
def aJ (P:Program) (G:bG) (f:LV) (args:List LV) (s:St) (Q:LV->St->Prop):Prop:=
 ∀ (w0:Bs) (μ:Mu) (ι:Io) (δ:Nat->Prop) (w:World) (g:Value) (d:Array Value) (c:Frame) (cs:List Frame),CF P G w0 μ ι δ s w->Rv μ ι w f g->d.size=args.length->(∀ i,i<args.length->Rv μ ι w (args.getD i .top) (d.getD i undef)) ->
   ∃ lv s' bT bW w' v,Q lv s'/\Yf P g d w c cs v w'/\Inv (rq P G) w0 bT bW δ s' w'/\Ext μ ι δ w bT bW δ w'/\Kept μ s bT s'/\Rv bT bW w' lv v
theorem aJ.mono {P:Program}{G:bG}{f:LV}{args:List LV}{s:St}{Q Q':LV->St->Prop}(h:aJ P G f args s Q) (d:∀ v s,Q v s->Q' v s):aJ P G f args s Q':=by
 intro w0 μ ι δ w g j c cs l m hl n;obtain⟨lv,s',bT,bW,w',v,q,r⟩:=h w0 μ ι δ w g j c cs l m hl n;exact⟨lv,s',bT,bW,w',v,d _ _ q,r⟩
def dA (fl:Bool) (o:aR) (e:Env):Bool:=
 match o with
 | .box true x=>!fl || (x.ev e).closed
 | _=>true
def jq (v:LV) (s:St) (R:LV->St->Prop):Prop:=
 match v with
 | .aH id 0=>
   match s.get id with
   | some (.iter none _ _ _)=>R (.cy [.bool false]) s
   | some (.iter (some m) g seen d) =>
     match s.get m with
     | some (.map f)=>(seen=[]∨0<d) /\
      (∀ i,i<f.length->i ∉ seen->R (.cy [.bool true,(f.getD i default).1,(f.getD i default).2]) (s.put id (.iter (some m) g (seen++[i]) f.length))) /\
      ((∀ i,i<g->i<f.length->i∈seen)->R (.cy [.bool false]) s)
     | _=>False
   | _=>False
 | _=>False
theorem jq.mono {v:LV}{s:St}{R f:LV->St->Prop}(h:jq v s R) (d:∀ v s,R v s->f v s):jq v s f:=by
 unfold jq at *;split at h
 ·split at h
  ·exact d _ _ h
  ·split at h
   ·exact⟨h.1,λi g j=>d _ _ (h.2.1 i g j),λl=>d _ _ (h.2.2 l)⟩
   ·exact h.elim
  ·exact h.elim
 ·exact h.elim
def oV (G:bG) (neg:Bool) (x y:LV) (s:St) (R:LV->St->Prop):Prop:=
 match x,y with
 | .aX cs o, .aX d f=>BN G=true/\cs.any uO=true/\d.any uO=true/\R (.bool neg) s/\(agree.vg (cs.drop o) (d.drop f)=true->R (.bool (!neg)) s)
 | .eu, .aX _ _=>R (.bool neg) s
 | .aX _ _, .eu=>R (.bool neg) s
 | .eu, .eu=>R (.bool (!neg)) s
 | _,_=>False
theorem oV.mono {G:bG}{neg:Bool}{x y:LV}{s:St}{R f:LV->St->Prop}(h:oV G neg x y s R) (d:∀ v s,R v s->f v s):oV G neg x y s f:=by
 unfold oV at h ⊢;split at h
 ·exact⟨h.1,h.2.1,h.2.2.1,d _ _ h.2.2.2.1,λg=>d _ _ (h.2.2.2.2 g)⟩
 ·exact d _ _ h
 ·exact d _ _ h
 ·exact d _ _ h
 ·exact h.elim
def pe (P:Program) (G:bG) (fl:Bool) (o:aR) (e:Env) (s:St) (R:LV->St->Prop):Prop:=
 match o with
 | .call f as=>aJ P G (f.ev e) (as.map (·.ev e)) s R
 | .ku x=>jq (x.ev e) s R
 | .PZ n x y=>oV G n (x.ev e) (y.ev e) s R
 | o=>match o.run e s with
   | some (v,s')=>dA fl o e=true/\R v s'
   | none=>False
def cH:List (Nat × Option (Nat × Bool) × aR)->Env->St->Prop
 | [],_,_=>True
 | (t,g,o)::r,e,s=>(aE g e=some false∨(aE g e=some true/\o.run e s=some (e.at t,s)))/\cH r e s
def dy (P:Program) (G:bG):List bx->Env->St->(Env->St->Prop)->Prop
 | [],e,s,K=>K e s
 | o::l,e,s,K=>
   match aE o.guard e with
   | none=>False
   | some false=>dy P G l (e.put o.dst (.cy [])) s K
   | some true=>pe P G o.fl o.op e s (λv s'=>cH o.m8 (e.put o.dst v) s'/\dy P G l (e.put o.dst v) s' K)
section
variable {P:Program}{G:bG}{w0:Bs}{μ bT:Mu}{ι bW:Io}{δ:Nat->Prop}{s s':St}{w w':World}{c:Ctx}{e:Env}{a:Act}{b:Frame}{k:List Item}{cs:List Frame}{ops:Array Oper}{o:Oper}{i:Nat}{rest:List Nat}{lo:bx}
def jv:aR->Bool
 | .call .. | .ku _ | .PZ .. => true
 | _=>false
theorem wP {fl:Bool}{lo:aR}{R:LV->St->Prop}(h:jv lo=false):pe P G fl lo e s R=(match lo.run e s with | some (v,s')=>dA fl lo e=true/\R v s' | none=>False):=by
 cases lo<;>first | rfl | cases h
theorem jM {lo:aR}(h:jv lo=true):(∃ f as,lo = .call f as)∨(∃ x,lo = .ku x)∨∃ n x y,lo = .PZ n x y:=by
 cases lo<;>first | exact .inl ⟨_,_,rfl⟩ | exact .inr (.inl ⟨_,rfl⟩) | exact .inr (.inr ⟨_,_,_,rfl⟩) | cases h
theorem xM {fl:Bool}{lo:aR}{R:LV->St->Prop}(h:pe P G fl lo e s R) (f:jv lo=false):∃ v s',lo.run e s=some (v,s')/\dA fl lo e=true/\R v s':=by
 rw[wP f]at h;cases d:lo.run e s with
 | none=>rw[d]at h;exact h.elim
 | some p=>rw[d]at h;exact⟨p.1,p.2,rfl,h.1,h.2⟩
theorem pe.mono {fl:Bool}{lo:aR}{R j:LV->St->Prop}(h:pe P G fl lo e s R) (d:∀ v s,R v s->j v s):pe P G fl lo e s j:=by
 cases g:jv lo with
 | true=>
   rcases jM g with⟨f,as,rfl⟩ | ⟨x,rfl⟩ | ⟨n,x,y,rfl⟩
   ·exact aJ.mono h d
   ·exact jq.mono h d
   ·exact oV.mono h d
 | false=>
   obtain⟨v,s',h1,h2,h3⟩:=xM h g;rw[wP g,h1];exact⟨h2,d _ _ h3⟩
theorem dy.mono {K d:Env->St->Prop}(g:∀ e s,K e s->d e s):∀ {l:List bx}{e:Env}{s:St},dy P G l e s K->dy P G l e s d:=by
 intro l;induction l with
 | nil=>intro e s h;exact g _ _ h
 | cons o l ih=>
   intro e s h;simp only[dy]at h ⊢;split at h
   ·exact h.elim
   ·exact ih h
   ·exact h.mono λv s f=>⟨f.1,ih f.2⟩
theorem gn (h:dM c ops o=some lo):bA c o=some lo.op/\lo.dst=o.dst/\(∀ d,o.dst=some d->d<c.nt) /\
 (match o.guard with | none=>lo.guard=none | some (j,l)=>∃ d,(ops[j]?).bind (·.dst)=some d/\lo.guard=some (d,l)):=by
 unfold dM at h;obtain⟨op,p,h⟩:=bind_some h;refine⟨?_,?_⟩
 ·rw[p];congr 1;cases m:o.dst<;>simp only[m]at h
  ·cases g:o.guard<;>simp only[g]at h
   ·simp at h;exact h ▸ rfl
   ·obtain⟨d,f,h⟩:=bind_some h;cases h;rfl
  ·split at h
   ·cases g:o.guard<;>simp only[g]at h
    ·simp at h;exact h ▸ rfl
    ·obtain⟨d,f,h⟩:=bind_some h;cases h;rfl
   ·simp at h
 ·cases m:o.dst<;>simp only[m]at h
  ·cases g:o.guard<;>simp only[g]at h
   ·simp at h;subst h;exact⟨rfl,λd f=>by (cases f),rfl⟩
   ·obtain⟨d,f,h⟩:=bind_some h;cases h;exact⟨rfl,λd f=>by (cases f),d,f,rfl⟩
  ·split at h
   ·rename_i n;cases g:o.guard<;>simp only[g]at h
    ·simp at h;subst h;exact⟨rfl,λd f=>by (cases f;exact n),rfl⟩
    ·obtain⟨d,f,h⟩:=bind_some h;cases h;exact⟨rfl,λd f=>by (cases f;exact n),d,f,rfl⟩
   ·simp at h
theorem nZ {t:Bool}(u:dM c ops o=some lo) (h:aE lo.guard e=some t) (y:∀ d f,lo.guard=some (d,f)->Rv μ ι w (e.at d) (a.tmps.getD d undef)) :
 Region.wanted o (yielded ops a.tmps)=t:=by
 obtain⟨_,_,_,g⟩:=gn u;unfold Region.wanted;cases ho:o.guard with
 | none=>
   rw[ho]at g;have q:lo.guard=none:=g;rw[q]at h;cases h;rfl
 | some p=>
   obtain⟨j,f⟩:=p;rw[ho]at g;obtain⟨d,z,g⟩:=g;have m:=y d f g;rw[g]at h;simp only[aE]at h;simp only[yielded,z,Option.bind_some];cases A:e.at d<;>rw[A]at h m<;>simp only[reduceCtorEq]at h
   ·rename_i l;have n:a.tmps[d]? = some (.bool l):=by
     generalize hx:a.tmps.getD d undef=x at m;cases m;by_cases r:d<a.tmps.size
     ·simpa[gF,r] using hx
     ·simp[gF,r,undef]at hx
    rw[n];simpa using h
   ·have n:∀ l,a.tmps[d]? ≠ some (.bool l):=by
     intro l n;have:a.tmps.getD d undef = .bool l:=by simp[gF,n]
     rw[this]at m;cases m
    have B:t=false:=by simpa using h.symm
    subst B;split
    ·rename_i l C;exact absurd C (n l)
    ·simp
theorem pR {lo:aR}(h:bA c o=some lo):∀ x,o.op≠.defer x:=by
 intro x hx;simp[bA,hx]at h
theorem ie {x:Value}(ho:ops[i]? = some o) (h:Region.wanted o (yielded ops a.tmps)=true) (j:∀ x,o.op≠.defer x)
 (d:(execOp a.eval o).run P w = .ok (.value x) w'∨((execOp a.eval o).run P w = .ok .skip w'/\x=undef)) :
 step P (lone (b.atR a (.inRegion ops (i::rest)::k)) cs w) = .next (lone (b.atR (a.put o.dst x) (.inRegion ops rest::k)) cs w'):=by
 have f:=stepGR_op (P:=P) (b:=b) (k:=k) (cs:=cs) (w:=w) (rest:=rest) ho h;rw[Oper.semAt_eq _ _ _ j]at f;have g:∀ x,(b.atR a (.inRegion ops (i::rest)::k)).finish x=b.atR (a.put o.dst x) (.inRegion ops rest::k):=λx=>by
  rw[Frame.finish_atR,ho];rfl
 refine step_lone_go ?_;rw[f];rcases d with d | ⟨d,rfl⟩
 ·simp[stepG.apply,Sem.runT_eq,d,g]
 ·simp[stepG.apply,Sem.runT_eq,d,g]
theorem FM {v:Value}{f:Operand}{as:Array Operand}{u:Array TypeId}(ho:ops[i]? = some o) (p:Region.wanted o (yielded ops a.tmps)=true)
 (q:o.op = .call { callee:=.value f,args:=as,argTypes:=u }) (y:Yf P (a.eval f) (as.map a.eval) w (b.atR a (.inRegion ops (i::rest)::k)) cs v w') :
 Steps P (lone (b.atR a (.inRegion ops (i::rest)::k)) cs w) (lone (b.atR (a.put o.dst v) (.inRegion ops rest::k)) cs w'):=by
 obtain⟨d,nx,g,h1,h2,h3⟩:=y;have h:(execOp a.eval o).run P w = .ok nx g:=by
  simp only[execOp,q,resolve,Sem.run_bind,h1,Result.andThen_ok,h2]
 have r:∀ x,o.op≠.defer x:=by intro x;rw[q];simp
 have j:=stepGR_op (P:=P) (b:=b) (k:=k) (cs:=cs) (w:=w) (rest:=rest) ho p;rw[Oper.semAt_eq _ _ _ r]at j;have t:∀ x,(b.atR a (.inRegion ops (i::rest)::k)).finish x=b.atR (a.put o.dst x) (.inRegion ops rest::k):=λx=>by
  rw[Frame.finish_atR,ho];rfl
 cases nx<;>try (exact h3.elim)
 case value v' =>
  obtain⟨rfl,rfl⟩:=h3;exact .one (ie ho p r (.inl h))
 case enter m n =>
  refine .head (m₁:=lone (Frame.enter P m n .normal) (b.atR a (.inRegion ops (i::rest)::k)::cs) g) ?_ ?_
  ·refine step_lone_go ?_;rw[j];simp[stepG.apply,Sem.runT_eq,h,Frame.atR]
  ·have:=h3;dsimp only at this;rwa[t]at this
 case round l m tmps n z=>
  refine .head (m₁:=lone (Frame.round l m tmps n z .normal) (b.atR a (.inRegion ops (i::rest)::k)::cs) g) ?_ ?_
  ·refine step_lone_go ?_;rw[j];simp[stepG.apply,Sem.runT_eq,h,Frame.atR]
  ·have:=h3;dsimp only at this;rwa[t]at this
theorem NB {l:List Operand}{r:List bz}(h:xL c l=some r):r.length=l.length/\∀ i (h:i<l.length),∃ y,r[i]? = some y/\cB c l[i]=some y:=iK h
theorem EX {g:bz}{h:List bz}(d:bA c o=some (.call g h)):∃ f as j,o.op = .call { callee:=.value f,args:=as,argTypes:=j } /\ cB c f=some g/\xL c as.toList=some h:=by
 cases ho:o.op
 case call l=>
  obtain⟨m,as,j⟩:=l;cases m<;>simp only[bA,ho,reduceCtorEq]at d
  case value f=>
   obtain⟨y,n,d⟩:=bind_some d;obtain⟨q,p,d⟩:=bind_some d;cases d;exact⟨_,_,_,rfl,n,p⟩
  case builtin r=>
   exfalso;unfold eg qD g9 lE qE oC at d;repeat' (first | (cases d;done) | (obtain⟨_,_,d⟩:=bind_some d) | (split at d))
 all_goals exfalso
 all_goals simp only[bA,ho,reduceCtorEq,Option.map_eq_some_iff,and_false,exists_false]at d
 all_goals repeat' (first | (cases d;done) | contradiction | (simp only[Option.map_eq_some_iff,reduceCtorEq,and_false,exists_false]at d;done) | (obtain⟨_,_,d⟩:=bind_some d) | (split at d))
theorem EW {y:bz}(d:bA c o=some (.ku y)):∃ x,o.op = .next x false/\cB c x=some y:=by
 cases ho:o.op
 case next x b=>
  cases b<;>simp only[bA,ho,reduceCtorEq]at d;obtain⟨z,f,h⟩:=cP d;cases h;exact⟨x,rfl,f⟩
 case call g=>
  exfalso;obtain⟨j,as,l⟩:=g;cases j<;>simp only[bA,ho,reduceCtorEq]at d
  ·obtain⟨_,_,d⟩:=bind_some d;obtain⟨_,_,d⟩:=bind_some d;cases d
  ·unfold eg qD g9 lE qE oC at d;repeat' (first | (cases d;done) | (obtain⟨_,_,d⟩:=bind_some d) | (split at d))
 all_goals exfalso
 all_goals simp only[bA,ho,reduceCtorEq,Option.map_eq_some_iff,and_false,exists_false]at d
 all_goals repeat' (first | (cases d;done) | contradiction | (simp only[Option.map_eq_some_iff,reduceCtorEq,and_false,exists_false]at d;done) | (obtain⟨_,_,d⟩:=bind_some d) | (split at d))
theorem Inv.VZ {cmp:Nat->bp->Code->Prop}(I:Inv cmp w0 μ ι δ s w) {id:Nat}{p:Place}{m:Option Nat}{d last last':Nat}{seen seen':List Nat}{t:Option Nat}(y:s.get id=some (.iter m d seen last)) (l:μ id=some p)
 (C:w.heap[p.b]? = some (.mapIter t d seen.toArray last)) :
 Inv cmp w0 μ ι δ (s.put id (.iter m d seen' last')) { w with heap:=w.heap.setIfInBounds p.b (.mapIter t d seen'.toArray last') } /\ Ext μ ι δ w μ ι δ { w with heap:=w.heap.setIfInBounds p.b (.mapIter t d seen'.toArray last') } := by
 obtain⟨R,T,K,U⟩:=I.dD id _ p y l;rw[C]at K;cases K;generalize u:({ w with heap:=w.heap.setIfInBounds p.b (.mapIter t d seen'.toArray last') } : World)=w';have F:w'.heap.size=w.heap.size:=by rw[<- u];simp
 have L:=I.nX id p l;have z:∀ k,k≠p.b->w'.heap[k]? = w.heap[k]? := λk H=>by rw[<- u];exact Array.getElem?_setIfInBounds_ne (Ne.symm H)
 have V:w'.heap[p.b]? = some (.mapIter t d seen'.toArray last'):=by rw[<- u];simp[L.2.2]
 have M:∀ b o v,w.cell? ⟨b,o,none⟩=some v->b≠p.b:=by
  rintro b o v n rfl;simp[World.cell?,C]at n
 have J:∀ b o,ι b o->w'.cell? ⟨b,o,none⟩=w.cell? ⟨b,o,none⟩:=λb o r=>by
  obtain⟨v,n⟩:=I.io b o r;exact gq (z b (M b o v n))
 refine⟨⟨⟨by rw[<- u];exact I.below.os,by rw[<- u];exact I.below.tape,by rw[<- u];exact I.below.output,by rw[F];exact I.below.size,λk H=>by rw[z k (by have:=L.2.1;omega)];exact I.below.block k H⟩,
  λid p l=>by rw[F];exact I.nX id p l,λb o r=>by obtain⟨v,n⟩:=I.io b o r;exact⟨v,(J b o r).trans n⟩,λD b q g A=>?_,?_,λx hx=>?_,I.low,λb o r g=>(I.own b o r g).heap (z b (by obtain⟨v,n⟩:=I.io b o r;exact M b o v n))⟩,
  ⟨λ_ _ h=>h,λ_ _ h=>h,J,by rw[F];exact Nat.le_refl _,λ_ h=>h⟩⟩
 ·rw[St.ah]at g;split at g
  ·rename_i B;subst B;cases g;obtain rfl:p=q:=Option.some.inj (l.symm.trans A);exact⟨R,t,V,U⟩
  ·rename_i B;have N:=I.dD D b q g A;have dH:q.b≠p.b:=by
    intro E;cases b with
    | cells m cs=>obtain⟨⟨x,h0⟩,_⟩:=N;rw[E]at h0;simp[World.shape?,C]at h0
    | loop st b9 X ps as bo=>exact B (I.sep D id _ _ q p g y rfl rfl A l E)
    | map es=>exact B (I.sep D id _ _ q p g y rfl rfl A l E)
    | iter m d seen last=>exact B (I.sep D id _ _ q p g y rfl rfl A l E)
   exact N.mono (λ_ _ h=>h) (λ_ _ h=>h) J (z _ dH) (λ_ _ h=>h)
 ·intro i j b1 b2 p1 p2 g1 g2 Y Z m1 m2 e;rw[St.ah]at g1 g2;have f:∀ {k:Nat}{b:iC},(if k=id then some (iC.iter m d seen' last') else s.get k)=some b->b.owns=true->∃ O,s.get k=some O/\O.owns=true:=by
   intro k b h ho;split at h
   ·rename_i e;subst e;exact⟨_,y,rfl⟩
   ·exact⟨b,h,ho⟩
  obtain⟨c1,k1,l1⟩:=f g1 Y;obtain⟨c2,k2,l2⟩:=f g2 Z;exact I.sep i j c1 c2 p1 p2 k1 k2 l1 l2 m1 m2 e
 ·obtain⟨a,b⟩:=I.defers x hx;refine⟨a,?_⟩;rw[z x ?_]
  ·exact b
  ·rintro rfl;rw[C]at b;cases b
theorem Dh (n:Nat) (w:World):∃ t w',(choose (.mapNext n)).run P w = .ok t w'/\(w'=w∨w' = { w with drawn:=w.drawn+1 })/\(0<n->t<n):=by
 by_cases h:n<=1
 ·exact⟨0,w,by simp[choose,Sem.run,Question.forced,h], .inl rfl,λh=>h⟩
 ·exact⟨w.tape w.drawn (.mapNext n) % n,_,by simp[choose,Sem.run,Question.forced,h,Question.cut], .inr rfl,λh=>Nat.mod_lt _ h⟩
def fq (es:Array MapEntry) (seen:Array Nat) (since:Nat):Array (Option MapEntry) :=
 let left:=es.filter λe=>!seen.contains e.born;let old:=left.filter (·.born<since);let new:=left.filter (·.born ≥ since);(if old.isEmpty then #[none] else #[])++(old++new).map some
theorem zq {es:Array MapEntry}{seen:Array Nat}{since:Nat}{en:MapEntry}(h:some en∈fq es seen since):en∈es/\seen.contains en.born=false:=by
 unfold fq at h;simp only[Array.mem_append,Array.mem_map,Option.some.injEq,exists_eq_right]at h;rcases h with h | h | h
 ·split at h<;>simp at h
 ·rw[Array.mem_filter,Array.mem_filter]at h;exact⟨h.1.1,by simpa using h.1.2⟩
 ·rw[Array.mem_filter,Array.mem_filter]at h;exact⟨h.1.1,by simpa using h.1.2⟩
theorem zu {es:Array MapEntry}{seen:Array Nat}{since:Nat}(h:none∈fq es seen since):∀ en∈es,en.born<since->seen.contains en.born=true:=by
 intro en f g;unfold fq at h;simp only[Array.mem_append,Array.mem_map,reduceCtorEq,and_false,exists_false,or_false]at h;split at h
 ·rename_i d;cases j:seen.contains en.born with
  | true=>rfl
  | false=>
    exfalso;have hm:en∈(es.filter λe=>!seen.contains e.born).filter (·.born<since):=by
     rw[Array.mem_filter,Array.mem_filter];exact⟨⟨f,by rw[j];rfl⟩,by simpa using g⟩
    have h0:=Array.size_pos_of_mem hm;have h1:((es.filter λe=>!seen.contains e.born).filter (·.born<since)).size=0:=by simpa[Array.isEmpty] using d
    omega
 ·simp at h
theorem BT (es:Array MapEntry) (seen:Array Nat) (since:Nat):0<(fq es seen since).size:=by
 unfold fq;dsimp only;generalize (es.filter λe=>!seen.contains e.born).filter (·.born<since)=old;generalize (es.filter λe=>!seen.contains e.born).filter (·.born ≥ since)=new;split
 ·simp;omega
 ·rename_i h;have:0<old.size:=by
   rcases Nat.eq_zero_or_pos old.size with h0 | h0
   ·exact absurd (by simp[Array.isEmpty,h0]) h
   ·exact h0
  simp;omega
theorem MW {r m since last clock:Nat}{seen:Array Nat}{es:Array MapEntry}{ty:TypeId}(h1:w.heap[r]? = some (.mapIter (some m) since seen last)) (h2:w.heap[m]? = some (.map es clock))
 (j:(!seen.isEmpty && !es.isEmpty && es.all (·.born ≥ last))=false) {t:Nat}{d:World}(f:(choose (.mapNext (fq es seen since).size)).run P w = .ok t d) (h3:d.heap[r]? = some (.mapIter (some m) since seen last)) {g:Option MapEntry}
 (h:(fq es seen since)[t]? = some g) :
 (Instr.next (.pointer (some ⟨r,0,none⟩)) false ty).run P w=(match g with
  | none=>.ok (.tuple #[.bool false]) d
  | some en=>.ok (.tuple #[.bool true,en.key,en.val]) { d with heap:=d.heap.setIfInBounds r (.mapIter (some m) since (seen.push en.born) clock) }):=by
 unfold fq at f h;dsimp only at f h;simp only[Instr.next,Sem.run_bind,jK h1 (by simp),jK h2 (by simp),Result.andThen_ok,j,Bool.false_eq_true,if_false,f,h];cases g with
 | none=>simp[Sem.run_pure]
 | some en=>simp[setObj,Sem.run,h3]
theorem Kc {R:LV->St->Prop}(hP:c.P=P) (hi:ops[i]? = some o) (pW:dM c ops o=some lo) (A:CF P G w0 μ ι δ s w) (bU:Ho μ ι w c e a o)
 (hw:Region.wanted o (yielded ops a.tmps)=true) {y:bz}(h:jq (y.ev e) s R) (nF:lo.op = .ku y) :
 ∃ v s' bT bW w' x,R v s'/\Steps P (lone (b.atR a (.inRegion ops (i::rest)::k)) cs w) (lone (b.atR (a.put o.dst x) (.inRegion ops rest::k)) cs w') /\
   Inv (rq P G) w0 bT bW δ s' w'/\Ext μ ι δ w bT bW δ w'/\Kept μ s bT s'/\Rv bT bW w' v x:=by
 obtain⟨J,_,_,_⟩:=gn pW;rw[nF]at J;obtain⟨x,lH,hx⟩:=EW J;have K:=bU x y (by simp[lH,Op.operands]) hx;have L:∀ {u w'},(Instr.next (a.eval x) false o.type).run P w = .ok u w'->step P (lone (b.atR a (.inRegion ops (i::rest)::k)) cs w) = .next (lone (b.atR (a.put o.dst u) (.inRegion ops rest::k)) cs w'):=λM=>
  ie hi hw (pR J) (.inl (by simp[execOp,lH,M]))
 have OY:∀ {μ:Mu}{ι:Io}{w:World},Rv μ ι w (.cy [.bool false]) (.tuple #[.bool false]):=.cy rfl λj B=>by
  match j,B with
  | 0,_=>exact .bool false
 unfold jq at h;split at h
 ·rename_i id N;rw[N]at K;generalize fP:a.eval x=av at K L;cases K with
  | aH E =>
    rename_i p;split at h
    ·rename_i C seen f F;obtain⟨O,pb,h1,rfl⟩:=A.inv.dD id _ p F E;refine⟨_,s,μ,ι,w, .tuple #[.bool false],h, .one (L ?_),A.inv,Ext.refl _ _ _ _,Kept.refl _ _,OY⟩;simp[Instr.next,O,jK h1 (by simp)]
    ·rename_i m C seen f F;split at h
     ·rename_i es T;obtain⟨g,l,n⟩:=h;obtain⟨O,pb,h1,pm,uV,rfl⟩:=A.inv.dD id _ p F E;obtain⟨d,k1,k2,k3⟩:=A.inv.dD m _ pm T uV;have D:∀ j (B:j<d.size),d[j].born=j:=λj B=>by
       have:=(k3 j om).1;simpa[gF,B] using this
      have B7:(!seen.toArray.isEmpty && !d.isEmpty && d.all (·.born ≥ f))=false:=by
       rcases g with rfl | hl
       ·simp
       ·by_cases he:d.size=0
        ·have:d.isEmpty=true:=by simpa[Array.isEmpty] using he
         simp[this]
        ·have h0:d.all (·.born ≥ f)=false:=by
          rw[Array.all_eq_false];exact⟨0,by omega,by have:=D 0 (by omega);simp[this];omega⟩
         simp[h0]
      obtain⟨t,H,kJ,LY,lT⟩:=Dh (P:=P) (fq d seen.toArray C).size w;have oN:cR w H:=by rcases LY with rfl | rfl;exact cR.refl _;exact cR.drew _
      have U:H.heap=w.heap:=by rcases LY with rfl | rfl<;>rfl
      have SP:=lT (BT _ _ _);have XI:=A.inv.same oN;have V:=A.inv.eU oN;have UZ:H.heap[p.b]? = some (.mapIter (some pm.b) C seen.toArray f):=by rw[U];exact h1
      obtain⟨I,YX⟩:∃ I,(fq d seen.toArray C)[t]? = some I:=⟨_,Array.getElem?_eq_getElem SP⟩;have cJ:I∈fq d seen.toArray C:=Array.mem_of_getElem? YX;have bK:=MW (P:=P) (ty:=o.type) h1 k1 B7 kJ UZ YX;have Oq:∀ {u w'},(Instr.next (.pointer (some ⟨p.b,0,none⟩)) false o.type).run P w = .ok u w'->step P (lone (b.atR a (.inRegion ops (i::rest)::k)) cs w) = .next (lone (b.atR (a.put o.dst u) (.inRegion ops rest::k)) cs w'):=λM=>L (by rw[O];exact M);cases I with
      | none=>
        refine⟨_,s,μ,ι,H, .tuple #[.bool false],n λj B X=>?_, .one (Oq bK),XI,V,Kept.refl _ _,OY⟩;have r:j<d.size:=by omega
        have:=zu cJ d[j] (Array.getElem_mem r) (by rw[D j r];exact B);rw[D j r]at this;simpa using this
      | some en=>
        obtain⟨Y,wo⟩:=zq cJ;obtain⟨j,r,rfl⟩:=Array.getElem_of_mem Y;have X:j<es.length:=by omega
        have Z:j ∉ seen:=by rw[D j r]at wo;simpa using wo
        obtain⟨I2,x2⟩:=XI.VZ (seen':=seen++[j]) (last':=es.length) F E UZ;have z:seen.toArray.push d[j].born=(seen++[j]).toArray:=by rw[D j r];simp
        have vL:=bK;dsimp only at vL;rw[z]at vL;refine⟨_,_,μ,ι,_,_,l j X Z, .one (Oq vL),I2,V.trans x2,Kept.put E _, .cy rfl λq hq=>?_⟩;have hk:=k3 j X;have jO:d.getD j default=d[j]:=by simp[gF,r]
        rw[jO]at hk;have AX:=V.trans x2;match q,hq with
        | 0,_=>exact .bool true
        | 1,_=>exact hk.2.2.1.ext AX
        | 2,_=>exact hk.2.2.2.ext AX
     ·exact h.elim
    ·exact h.elim
 ·exact h.elim
theorem EO {t f:TypeId}{n:Nat}{x y:Addr}{r:Bool}(g:P.underlying t=some (.pointer f)) (hs:gG P f=some n) (j:n≠0) (h:(sameAddr x y).run P w = .ok r w) (d:Nat) :
 (Op.equalIn (d+1) t (.pointer (some x)) (.pointer (some y))).run P w = .ok r w:=by
 unfold Op.equalIn;simp[ru g,wj hs,j,h]
theorem qd {t g:TypeId}{u v:Option Addr}(f:P.underlying t=some (.pointer g)) (h:u=none∨v=none) (d:Nat) :
 (Op.equalIn (d+1) t (.pointer u) (.pointer v)).run P w = .ok (u.isNone && v.isNone) w:=by
 unfold Op.equalIn;rcases h with rfl | rfl
 ·simp[ru f]
 ·cases u<;>simp[ru f]
theorem TP {t C:TypeId}{n:Nat}(D:CF P G w0 μ ι δ s w) (l:P.underlying t=some (.pointer C)) (hs:gG P C=some n) (J:n≠0) {x y:LV}{u v:Value}(hx:Rv μ ι w x u) (m:Rv μ ι w y v) {neg:Bool}{R:LV->St->Prop}
 (h:oV G neg x y s R):∃ (r:Bool) (a b:Option Addr),u = .pointer a/\v = .pointer b/\(∀ d,(Op.equalIn (d+1) t u v).run P w = .ok r w)/\R (.bool (if neg=true then !r else r)) s:=by
 unfold oV at h;split at h
 ·rename_i Z off K f;obtain⟨ho,L,M,dH,heq⟩:=h;cases hx with
  | aX vs E N h1 F=>
    rename_i b o;cases m with
    | aX g p z j q =>
      rename_i H A;have p1:=D.Nu ho E N F L;have p2:=D.Nu ho p z q M;have O:=rY (P:=P) (w:=w) (x:=⟨b,o+off,none⟩) (y:=⟨H,A+f,none⟩) p1 p2;refine⟨_,_,_,rfl,rfl,EO l hs J O,?_⟩;cases B:((⟨b,o+off,none⟩:Addr) == ⟨H,A+f,none⟩) with
      | false=>cases neg<;>exact dH
      | true=>
        have T:=eq_of_beq B;injection T with U e2 _
        subst U;have:=heq (Bk _ _ λi V X=>by
         rw[List.length_drop]at V X;have Y:=F (off+i) om;have I:=q (f+i) om;have c1:=E (off+i) om;have c2:=p (f+i) om;rw[show A+(f+i)=o+(off+i) from by omega,c1]at c2;rw[<- Option.some.inj c2]at I;have:=Qn Y I;simpa[gD,List.getElem?_drop] using this)
        cases neg<;>exact this
 ·cases hx with
  | eu=>
    cases m with
    | aX g p z j q=>exact⟨false,_,_,rfl,rfl,qd l (.inl rfl),by cases neg<;>exact h⟩
 ·cases m with
  | eu=>
    cases hx with
    | aX g p z j q=>exact⟨false,_,_,rfl,rfl,qd l (.inr rfl),by cases neg<;>exact h⟩
 ·cases hx with
  | eu=>cases m with
    | eu=>exact⟨true,_,_,rfl,rfl,qd l (.inl rfl),by cases neg<;>exact h⟩
 ·exact h.elim
theorem Hl {n:Bool}{f g:bz}(d:bA c o=some (.PZ n f g)):∃ op t x y h,o.op = .binOp op t x y h/\tE op=false/\n=II op/\cB c x=some f/\cB c y=some g/\V8 c.P t=true:=by
 cases ho:o.op
 case binOp op t x y h =>
  simp only[bA,ho]at d;obtain⟨z,l,d⟩:=bind_some d;obtain⟨A,m,d⟩:=bind_some d;split at d
  ·cases d
  ·cases d
  ·split at d
   ·cases d
   ·rename_i p;obtain⟨B,q,d⟩:=bind_some d;split at d
    ·rename_i j;cases d;simp only[Bool.and_eq_true]at j;exact⟨_,_,_,_,_,rfl,by simpa using p,rfl,l,m,j.1.1⟩
    ·cases d
 case call r=>
  exfalso;obtain⟨u,as,C⟩:=r;cases u<;>simp only[bA,ho,reduceCtorEq]at d
  ·obtain⟨_,_,d⟩:=bind_some d;obtain⟨_,_,d⟩:=bind_some d;cases d
  ·unfold eg qD g9 lE qE oC at d;repeat' (first | (cases d;done) | (obtain⟨_,_,d⟩:=bind_some d) | (split at d))
 all_goals exfalso
 all_goals simp only[bA,ho,reduceCtorEq,Option.map_eq_some_iff,and_false,exists_false]at d
 all_goals repeat' (first | (cases d;done) | contradiction | (simp only[Option.map_eq_some_iff,reduceCtorEq,and_false,exists_false]at d;done) | (obtain⟨_,_,d⟩:=bind_some d) | (split at d))
theorem PY {R:LV->St->Prop}(B:c.P=P) (hi:ops[i]? = some o) (C:dM c ops o=some lo) (q:CF P G w0 μ ι δ s w) (u:Ho μ ι w c e a o)
 (D:Region.wanted o (yielded ops a.tmps)=true) {neg:Bool}{f g:bz}(h:oV G neg (f.ev e) (g.ev e) s R) (heq:lo.op = .PZ neg f g) :
 ∃ v s' bT bW w' x,R v s'/\Steps P (lone (b.atR a (.inRegion ops (i::rest)::k)) cs w) (lone (b.atR (a.put o.dst x) (.inRegion ops rest::k)) cs w') /\
   Inv (rq P G) w0 bT bW δ s' w'/\Ext μ ι δ w bT bW δ w'/\Kept μ s bT s'/\Rv bT bW w' v x:=by
 obtain⟨j,_,_,_⟩:=gn C;rw[heq]at j;obtain⟨op,t,x,y,K,ho,E,rfl,hx,F,d⟩:=Hl j;subst B;have l:=u x f (by simp[ho,Op.operands]) hx;have m:=u y g (by simp[ho,Op.operands]) F;unfold V8 at d;split at d
 ·rename_i L H;split at d
  ·rename_i n hs;have I:n≠0:=by simpa using d
   obtain⟨r,M,N,h1,h2,z,J⟩:=TP q H hs I l m h;have p:op = .eql∨op = .neq:=by cases op<;>simp[tE]at E ⊢
   rw[h1,h2]at z;have A:=tZ (c:=c) (w:=w) (t:=t) (ox:=x) (oy:=y) (op:=op) p (by rcases p with rfl | rfl<;>simp[eqGuard]) rfl rfl (z 9999);refine⟨_,s,μ,ι,w, .bool (if op = .eql then r else !r),J, .one (ie hi D (pR j) (.inl ?_)),q.inv,Ext.refl _ _ _ _,Kept.refl _ _,?_⟩
   ·simp only[Sem.run_bind]at A;simp only[execOp,ho,Sem.run_bind,h1,h2];rw[A];rfl
   ·rcases p with rfl | rfl<;>exact .bool _
  ·cases d
 ·cases d
theorem Ir {R:LV->St->Prop}(t:c.P=P) (hi:ops[i]? = some o) (u:dM c ops o=some lo) (m:CF P G w0 μ ι δ s w) (d:Ho μ ι w c e a o)
 (p:Region.wanted o (yielded ops a.tmps)=true) (h:pe P G lo.fl lo.op e s R) :
 ∃ v s' bT bW w' x,R v s'/\Steps P (lone (b.atR a (.inRegion ops (i::rest)::k)) cs w) (lone (b.atR (a.put o.dst x) (.inRegion ops rest::k)) cs w') /\
   Inv (rq P G) w0 bT bW δ s' w'/\Ext μ ι δ w bT bW δ w'/\Kept μ s bT s'/\Rv bT bW w' v x:=by
 obtain⟨r,Z,_,_⟩:=gn u;cases E:jv lo.op with
 | true=>
   rcases jM E with⟨I,F,J⟩ | ⟨y,H⟩ | ⟨n,x,y,heq⟩
   case inr.inl=>exact Kc t hi u m d p (by rw[H]at h;exact h) H
   case inr.inr=>exact PY t hi u m d p (by rw[heq]at h;exact h) heq
   rw[J]at h r;simp only[pe]at h;have g:=EX r;obtain⟨f,as,ts,g,K,has⟩:=g;obtain⟨hl,L⟩:=NB has;have M:=d f I (by simp[g,Op.operands,Call.operands]) K;have N:∀ j,j<(F.map (·.ev e)).length->Rv μ ι w ((F.map (·.ev e)).getD j .top) ((as.map a.eval).getD j undef):=by
    intro j O;have z:j<as.toList.length:=by rw[<- hl];simpa using O
    obtain⟨y,T,A⟩:=L j z;have:=d _ y (by simp only[g,Op.operands,Call.operands];simp only[Array.toList_append,List.mem_append];right;exact List.getElem_mem z) A;have U:j<as.size:=by simpa using z
    simpa[gD,T,gF,U] using this
   obtain⟨lv,s',bT,bW,w',v,q,V,B,hx,C,D⟩:=h w0 μ ι δ w (a.eval f) (as.map a.eval) (b.atR a (.inRegion ops (i::rest)::k)) cs m M (by simp[hl]) N;exact⟨lv,s',bT,bW,w',v,q,FM hi p g V,B,hx,C,D⟩
 | false=>
   obtain⟨v,s',X,_,Y⟩:=xM h E;obtain⟨x,w',bT,bW,l,B,hx,D,C⟩:=DJ r d m.inv X;rw[t]at l;exact⟨v,s',bT,bW,w',x,Y, .one (ie hi p (pR r) l),B,hx,C,D⟩
theorem Re.ho (d:c.P=P) (f:c.vS=G) (g:CF P G w0 μ ι δ s w) (h:∀ t, .tmp t∈o.op.operands.toList->Rv μ ι w (e.at t) (a.tmps.getD t undef)):Ho μ ι w c e a o:=by
 intro x y hx j;exact BO d f g j (λt l=>h t (by rw[<- l];exact hx))
theorem PF {nt:Nat}{d:Option Nat}{v:LV}{x:Value}(f:Fr P G w0 μ ι δ s w nt e a) (g:Inv (rq P G) w0 bT bW δ s' w') (hx:Ext μ ι δ w bT bW δ w') (h:∀ t,d=some t->t<nt) (j:Rv bT bW w' v x) :
 Fr P G w0 bT bW δ s' w' nt (e.put d v) (a.put d x) :=
 ⟨f.now.ext g hx,(f.re.ext hx).put (λt l=>by rw[f.size];exact h t l) j,by rw[Act.xG];exact f.size⟩
theorem xA:Rv μ ι w (.cy []) undef:=.cy rfl (λi d=>absurd d (Nat.not_lt_zero _))
theorem Hs {nt:Nat}{refs:List Nat}{K:Env->St->Prop}(ops:Array Oper):∀ (l:List bx) (n:Nat) (e:Env) (s:St) (μ:Mu) (ι:Io) (w:World) (a:Act),
 (∀ j,j<l.length->∃ o lo,ops[n+j]? = some o/\l[j]? = some lo/\dM ⟨P,G,refs,nt⟩ ops o=some lo)->Fr P G w0 μ ι δ s w nt e a->dy P G l e s K ->
 ∃ m s' bT bW w' g,K m s'/\Steps P (lone (b.atR a (.inRegion ops ((List.range l.length).map (n + ·))::k)) cs w) (lone (b.atR g (.inRegion ops []::k)) cs w')/\Fr P G w0 bT bW δ s' w' nt m g /\
   Ext μ ι δ w bT bW δ w'/\Kept μ s bT s'/\g.defers=a.defers:=by
 intro l;induction l with
 | nil=>
   intro n e s μ ι w a _ f h;exact⟨e,s,μ,ι,w,a,h, .refl _ _,f,Ext.refl _ _ _ _,Kept.refl _ _,rfl⟩
 | cons lo l ih=>
   intro n e s μ ι w a hl f h;obtain⟨o,L,ho,p,r⟩:=hl 0 (Nat.zero_lt_succ _);obtain rfl:lo=L:=by simpa using p
   have C:∀ j,j<l.length->∃ o lo,ops[n+1+j]? = some o/\l[j]? = some lo/\dM ⟨P,G,refs,nt⟩ ops o=some lo:=λj M=>by
    obtain⟨o,lo,h1,h2,h3⟩:=hl (j+1) (by simpa using M);exact⟨o,lo,by rw[show n+1+j=n+(j+1) from by omega];exact h1,by simpa using h2,h3⟩
   have N:(List.range (lo::l).length).map (n + ·)=n::(List.range l.length).map (n+1 + ·):=by
    rw[List.length_cons,List.range_succ_eq_map,List.map_cons,List.map_map];congr 1;exact List.map_congr_left λx _=>by simp only[Function.comp_apply];omega
   rw[N];obtain⟨_,D,E,_⟩:=gn r;have u:ops[n]? = some o:=ho;simp only[dy]at h;split at h
   ·exact h.elim
   ·rename_i y;have z:=nZ r y (λd _ _=>f.re d);have A:step P (lone (b.atR a (.inRegion ops (n::(List.range l.length).map (n+1 + ·))::k)) cs w) = .next (lone (b.atR (a.put o.dst undef) (.inRegion ops ((List.range l.length).map (n+1 + ·))::k)) cs w):=by
     have:=stepR_op_skip (P:=P) (b:=b) (a:=a) (k:=k) (cs:=cs) (w:=w) (ops:=ops) (i:=n) (rest:=(List.range l.length).map (n+1 + ·)) (by rw[u];simpa using z);rw[u]at this;exact this
    have B:Fr P G w0 μ ι δ s w nt (e.put lo.dst (.cy [])) (a.put o.dst undef):=by
     rw[D];exact PF f f.now.inv (Ext.refl _ _ _ _) E xA
    obtain⟨m,s',bT,bW,w',g,q,hs,r1,r2,r3,r4⟩:=ih (n+1) _ s μ ι w _ C B h;exact⟨m,s',bT,bW,w',g,q, .head A hs,r1,r2,r3,r4.trans (Act.lY _ _ _)⟩
   ·rename_i y;have z:=nZ r y (λd _ _=>f.re d);obtain⟨v,F,H,I,J,x,⟨_,O⟩,A,R,hx,T,U⟩:=Ir (b:=b) (k:=k) (cs:=cs) (rest:=(List.range l.length).map (n+1 + ·)) rfl u r f.now (Re.ho rfl rfl f.now (λt _=>f.re t)) z h;have B:Fr P G w0 H I δ F J nt (e.put lo.dst v) (a.put o.dst x):=by
     rw[D];exact PF f R hx E U
    obtain⟨m,s',bT,bW,w',g,q,hs,r1,r2,r3,r4⟩:=ih (n+1) _ F H I J _ C B O;exact⟨m,s',bT,bW,w',g,q,Steps.trans A hs,r1,hx.trans r2,T.trans r3,r4.trans (Act.lY _ _ _)⟩
end
end Go.Pv
end
