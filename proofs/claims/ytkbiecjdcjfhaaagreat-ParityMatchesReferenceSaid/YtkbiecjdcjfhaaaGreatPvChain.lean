/- Maps, bytes as a string, slices without room. -/
import Derived.Test.YtkbiecjdcjfhaaaGreatPvAlloc
import Derived.MapKept
import Derived.Laws.BytesString
set_option linter.unusedSimpArgs false
set_option linter.unusedVariables false
set_option maxRecDepth 100000
set_option maxHeartbeats 16000000
section
namespace Go.Pv
open Go Go.RowKit Go.MapKept
section
variable {P:Program}{w:World}{w0:Bs}{μ:Mu}{ι:Io}{δ:Nat->Prop}{s s':St}{cmp:Nat->bx->Code->Prop}{c:Ctx}{e:Env}{a:Act}{o:Oper}{v:LV}
theorem sV {t:TypeId}{kd:Dw}(h:mT P t=some kd) :
 (∃ d,P.underlying t=some d/\(∀ es,kd≠.st es)/\∀ {k:LV}{x:Value},Rv μ ι w k x->ki kd k=true->IsKey d x) ∨
 (∃ es fs, kd = .st es /\ P.underlying t = some (.struct fs) /\ P.stoodInHeld t = false /\ fs.toList.all (fun f => f.name != "_") = true /\ nj P fs.toList = some es) := by
 unfold mT at h;cases hu:P.underlying t with
 | none=>simp[hu]at h
 | some d=>
   rw[hu]at h;cases d<;>simp only[Option.some.injEq,reduceCtorEq]at h
   case int k=>
    subst h;refine .inl ⟨_,rfl,λes h=>(by cases h),fun {k x} hk fC=>?_⟩;cases hk<;>simp[ki]at fC;exact fC
   case string=>
    subst h;refine .inl ⟨_,rfl,λes h=>(by cases h),fun {k x} hk fC=>?_⟩;cases hk<;>simp[ki]at fC;trivial
   case struct fs=>
    split at h
    ·rename_i es he;cases h;unfold M1 at he;rw[hu]at he;simp only at he;split at he
     ·cases he
     ·rename_i hg;simp only[Bool.or_eq_true,not_or,Bool.not_eq_true]at hg;split at he
      ·rename_i dD;obtain⟨es',BX,h2⟩:=cX he;cases h2;exact .inr ⟨_,fs,rfl,rfl,hg.1,dD,BX⟩
      ·cases he
    ·cases h
theorem JK {x:LV}{xs:List LV}{u:Value}{us:List Value}(h:Ra μ ι w (x::xs) (u::us).toArray):Rv μ ι w x u/\Ra μ ι w xs us.toArray:=by
 refine⟨by simpa using h.2 0 (by simp),by simpa using h.1,λi d=>?_⟩;have:=h.2 (i+1) (by simpa using d);simpa[gF] using this
theorem Cs:∀ {xs d:List LV}{us vs:List Value},Ra μ ι w xs us.toArray->Ra μ ι w d vs.toArray->lM xs d=true->us=vs/\∀ u∈us,∃ k n,u = .int k n:=by
 intro xs;induction xs with
 | nil=>
   intro d us vs hx g h;cases d<;>simp only[lM,Bool.false_eq_true]at h;have h1:us=[]:=List.length_eq_zero_iff.1 (by simpa using hx.1);have h2:vs=[]:=List.length_eq_zero_iff.1 (by simpa using g.1);subst h1;subst h2;exact⟨rfl,λu f=>by cases f⟩
 | cons x xs ih=>
   intro d us vs hx g h;cases d with
   | nil=>cases x<;>simp[lM]at h
   | cons y d=>
     have h1:=hx.1;have h2:=g.1;cases us with
     | nil=>simp at h1
     | cons u us=>
       cases vs with
       | nil=>simp at h2
       | cons v vs=>
         obtain⟨r1,j⟩:=JK hx;obtain⟨r2,l⟩:=JK g;cases r1<;>(try (simp only[lM,Bool.false_eq_true]at h;done));cases r2<;>simp only[lM,Bool.false_eq_true,Bool.and_eq_true,beq_iff_eq]at h;obtain⟨⟨rfl,rfl⟩,h⟩:=h;obtain⟨rfl,m⟩:=ih j l h;refine⟨rfl,λu f=>?_⟩;rcases List.mem_cons.1 f with rfl | f
         ·exact⟨_,_,rfl⟩
         ·exact m u f
theorem Ar {us:Array Value}(h:∀ u∈us.toList,∃ k n,u = .int k n) (m:Nat):Instr.sameBits (m+1) (.agg us) (.agg us)=true:=by
 simp only[Instr.sameBits,beq_self_eq_true,Bool.true_and];generalize us.toList=l at h;induction l with
 | nil=>rfl
 | cons u l ih=>
   obtain⟨k,n,rfl⟩:=h u (by simp);simp only[List.zip_cons_cons,List.all_cons,Bool.and_eq_true];refine⟨?_,ih λv d=>h v (by simp[d])⟩;cases m<;>simp[Instr.sameBits]
theorem Mh {d:TypeDesc}{k m:LV}{x j:Value}{b:Bool}(hx:Rv μ ι w k x) (p:Rv μ ι w m j) (n:IsKey d x) (h:uq k m=some b):Instr.sameNow d x j=some b/\(b=true->j=x):=by
 cases hx<;>cases p<;>simp only[uq,reduceCtorEq]at h
 ·split at h
  ·rename_i q;subst q;cases h;cases d<;>simp only[IsKey]at n;refine⟨by simp[Instr.sameNow],λg=>?_⟩;have:=eq_of_beq g;rw[this]
  ·cases h
 ·cases h;rename_i l b2;cases d<;>simp only[IsKey]at n;have f:(l == b2)=decide (l.data.toList=b2.data.toList):=by
   apply Bool.eq_iff_iff.2;rw[bytes_beq,decide_eq_true_iff];constructor
   ·rintro rfl;rfl
   ·intro h;cases l;cases b2;congr 1;exact Array.ext' h
  refine⟨by simp[Instr.sameNow,f],λg=>?_⟩;rw[<- f]at g;rw[(bytes_beq _ _).1 g]
theorem LZ {d:TypeDesc}{kd:Dw}(z:∀ es,kd≠.st es) {k:LV}{x:Value}(hx:Rv μ ι w k x) (A:IsKey d x):∀ (es:List (LV × LV)) (l:List MapEntry) (i:Nat) (r:Option (Nat × LV)),l.length=es.length ->
 (∀ j,j<es.length->Rv μ ι w (es.getD j default).1 (l.getD j default).key/\Rv μ ι w (es.getD j default).2 (l.getD j default).val)->iE kd k es i=some r ->
 match r with
 | none=>Instr.findNow d x l i=some none
 | some (n,v)=>∃ j en,n=i+j/\l[j]? = some en/\Instr.findNow d x l i=some (some (n,en.val))/\Rv μ ι w v en.val/\en.key=x:=by
 have B:∀ k f,m8 kd k f=uq k f:=λk f=>by
  cases kd with
  | st es=>exact absurd rfl (z es)
  | _=>rfl
 intro es;induction es with
 | nil=>
   intro l i r hl _ h;cases h;obtain rfl:=List.length_eq_zero_iff.1 hl;rfl
 | cons p es ih=>
   obtain⟨f,v'⟩:=p;intro l i r hl y h;match l,hl with
   | en :: l, hl =>
     have h0:=y 0 (by simp);have g:Rv μ ι w f en.key/\Rv μ ι w v' en.val:=by simpa using h0
     simp only[iE,B]at h;cases m:uq k f with
     | none=>rw[m]at h;cases h
     | some b=>
       rw[m]at h;obtain⟨hs,C⟩:=Mh hx g.1 A m;cases b with
       | true=>
         cases h;exact⟨0,en,rfl,rfl,by simp[Instr.findNow,hs],g.2,C rfl⟩
       | false=>
         have:=ih l (i+1) r (by simpa using hl) (λj D=>by simpa using y (j+1) (by simpa using D)) h;cases r with
         | none=>simp only at this ⊢;simp[Instr.findNow,hs,this]
         | some q=>
           obtain⟨n,u⟩:=q;obtain⟨j,t,h1,h2,h3,E,F⟩:=this;exact⟨j+1,t,by omega,by simpa using h2,by simp[Instr.findNow,hs,h3],E,F⟩
theorem E9 {kt : TypeId}{fs : Array Field}{es : List (Nat × Nat × cT)}(hu : P.underlying kt = some (.struct fs)) (gV : P.stoodInHeld kt = false) (dD : fs.toList.all (fun f => f.name != "_") = true)
 (BX:nj P fs.toList=some es) {k k':LV}{x x':Value}{b:Bool}(hx:Rv μ ι w k x) (UD:Rv μ ι w k' x') (h:m8 (.st es) k k'=some b) :
 (Op.equal kt x x').run P w = .ok b w/\(b=true->(Instr.keyThatStays x' x).run P w = .ok x w):=by
 cases hx<;>simp only[m8,reduceCtorEq]at h;cases UD<;>simp only[reduceCtorEq]at h;rename_i xs us hl hr ys vs oe wX;have hf:P.fieldsOf kt=fs:=by simp[Program.fieldsOf,hu]
 have bL:=run_equalIn_struct (P:=P) w 9999 kt us vs (by rw[hf];exact hu) gV;split at h
 ·rename_i he;split at h
  ·rename_i g9;cases h;rw[hf,oM (c:=⟨P,[],[],0⟩) 9997 ⟨hl,hr⟩ ⟨oe,wX⟩ fs.toList es true dD BX he]at bL;refine⟨bL,λ_=>?_⟩;have WI:Ra μ ι w xs us.toList.toArray:=⟨by simpa using hl,by simpa using hr⟩;have hy0:Ra μ ι w ys vs.toList.toArray:=⟨by simpa using oe,by simpa using wX⟩;obtain⟨he2,hints⟩:=Cs WI hy0 g9;obtain rfl:us=vs:=Array.ext' he2;simp[Instr.keyThatStays,Ar hints 9999]
  ·cases h
 ·rename_i dB;rw[hf,oM (c:=⟨P,[],[],0⟩) 9997 ⟨hl,hr⟩ ⟨oe,wX⟩ fs.toList es b dD BX h]at bL;refine⟨bL,λhb=>?_⟩;subst hb;exact absurd h dB
theorem EV {kt : TypeId}{fs : Array Field}{es0 : List (Nat × Nat × cT)}(hu : P.underlying kt = some (.struct fs)) (gV : P.stoodInHeld kt = false) (dD : fs.toList.all (fun f => f.name != "_") = true)
 (BX:nj P fs.toList=some es0) {k:LV}{x:Value}(hx:Rv μ ι w k x):∀ (es:List (LV × LV)) (l:List MapEntry) (i:Nat) (r:Option (Nat × LV)),l.length=es.length ->
 (∀ j,j<es.length->Rv μ ι w (es.getD j default).1 (l.getD j default).key/\Rv μ ι w (es.getD j default).2 (l.getD j default).val)->iE (.st es0) k es i=some r ->
 match r with
 | none=>(Instr.findAsking kt x l i).run P w = .ok none w
 | some (n,v)=>∃ j en,n=i+j/\l[j]? = some en/\(Instr.findAsking kt x l i).run P w = .ok (some (n,en.val)) w/\Rv μ ι w v en.val/\(Instr.keyThatStays en.key x).run P w = .ok x w:=by
 intro es;induction es with
 | nil=>
   intro l i r hl _ h;cases h;obtain rfl:=List.length_eq_zero_iff.1 hl;rfl
 | cons p es ih=>
   obtain⟨k',v'⟩:=p;intro l i r hl hr h;match l,hl with
   | en :: l, hl =>
     have h0:=hr 0 (by simp);have h0':Rv μ ι w k' en.key/\Rv μ ι w v' en.val:=by simpa using h0
     simp only[iE]at h;cases hq:m8 (.st es0) k k' with
     | none=>rw[hq]at h;cases h
     | some b=>
       rw[hq]at h;obtain⟨hs,he⟩:=E9 hu gV dD BX hx h0'.1 hq;cases b with
       | true=>
         cases h;exact⟨0,en,rfl,rfl,by simp[Instr.findAsking,hs],h0'.2,he rfl⟩
       | false=>
         have:=ih l (i+1) r (by simpa using hl) (λj hj=>by simpa using hr (j+1) (by simpa using hj)) h;cases r with
         | none=>simp only at this ⊢;simp[Instr.findAsking,hs,this]
         | some q=>
           obtain⟨n,u⟩:=q;obtain⟨j,en',h1,h2,h3,h4,h5⟩:=this;exact⟨j+1,en',by omega,by simpa using h2,by simp[Instr.findAsking,hs,h3],h4,h5⟩
theorem rj {g:TypeId}{kd:Dw}(D:mT P g=some kd) {k:LV}{x:Value}(hx:Rv μ ι w k x) (E:ki kd k=true) {es:List (LV × LV)}{l:List MapEntry}(hl:l.length=es.length)
 (A:∀ j,j<es.length->Rv μ ι w (es.getD j default).1 (l.getD j default).key/\Rv μ ι w (es.getD j default).2 (l.getD j default).val) {r:Option (Nat × LV)}(h:iE kd k es 0=some r) :
 match r with
 | none=>(Instr.findKey g x l).run P w = .ok none w
 | some (n,v)=>∃ en,l[n]? = some en/\(Instr.findKey g x l).run P w = .ok (some (n,en.val)) w/\Rv μ ι w v en.val/\(Instr.keyThatStays en.key x).run P w = .ok x w:=by
 rcases sV (μ:=μ) (ι:=ι) (w:=w) D with⟨d,B,F,H⟩ | ⟨I,fs,rfl,p,t,J,K⟩
 ·have C:=H hx E;have:=LZ F hx C es l 0 r hl A h;cases r with
  | none=>exact MapKept.run_findKey B this
  | some q=>
    obtain⟨n,v⟩:=q;obtain⟨j,en,L,f,u,y,rfl⟩:=this;obtain rfl:n=j:=by omega
    exact⟨en,f,MapKept.run_findKey B u,y,MapKept.run_keyThatStays C⟩
 ·have:=EV p t J K hx es l 0 r hl A h;have m:∀ {a},(Instr.findAsking g x l 0).run P w = .ok a w->(Instr.findKey g x l).run P w = .ok a w:=fun {a} z=>by
   cases l with
   | nil=>
     simp only[Instr.findAsking]at z;simp[Instr.findKey,ru p,Instr.findNow];simpa using z
   | cons en l=>
     have M:Instr.findNow (.struct fs) x (en::l) 0=none:=by simp[Instr.findNow,Instr.sameNow]
     simp[Instr.findKey,ru p,M,z]
  cases r with
  | none=>exact m this
  | some q=>
    obtain⟨n,v⟩:=q;obtain⟨j,en,L,f,u,y,t⟩:=this;obtain rfl:n=j:=by omega
    exact⟨en,f,m u,y,t⟩
theorem Gj {em:Bool}(n:Nat) {us:Array Value} : ∀ (fs:List Field) (es:List (Nat × Nat × cT)),mY P fs=some es->es.all (λf=>f.1<us.size)=true ->
 (forIn fs PUnit.unit (fun f _ => if f.name ≠ "_" then (do let x <- part f.type us f.offset; Instr.checkKey em (n + 1) f.type x; pure (ForInStep.yield PUnit.unit)) else pure (ForInStep.yield PUnit.unit)) : Sem PUnit).run P w = .ok PUnit.unit w := by
 intro fs;induction fs with
 | nil=>intro es _ _;simp
 | cons f fs ih=>
   intro es hm ha;unfold mY at hm;rw[List.mapM_cons]at hm;cases hs:pZ P f.type with
   | none=>simp[hs]at hm
   | some et=>
     cases hl:fs.mapM (λf=>(pZ P f.type).map λe=>(f.offset,1,e)) with
     | none=>simp[hs,hl]at hm
     | some es' =>
       simp[hs,hl]at hm;subst hm;simp only[List.all_cons,Bool.and_eq_true,decide_eq_true_eq]at ha;have BP:(part f.type us f.offset).run P w = .ok us[f.offset] w:=by simp[part,lC (c:=⟨P,[],[],0⟩) hs,ha.1]
       have mV:∀ v:Value,(Instr.checkKey em (n+1) f.type v).run P w = .ok () w:=λv=>by
        unfold pZ at hs;cases hu:P.underlying f.type with
        | none=>simp[hu]at hs
        | some d=>
          rw[hu]at hs;cases d<;>simp only[Option.some.injEq,reduceCtorEq]at hs<;>simp[Instr.checkKey,ru hu]
       have uD:=ih es' hl ha.2;by_cases hn : f.name = "_"
       ·simp only[List.forIn_cons,Sem.run_bind,hn,ne_eq,not_true_eq_false,if_false,Result.andThen_ok,Sem.run_pure];exact uD
       ·simp only[List.forIn_cons,Sem.run_bind,hn,ne_eq,not_false_eq_true,if_true,Result.andThen_ok,Sem.run_pure,BP,mV];exact uD
theorem w8 {em:Bool}(n:Nat) {us:Array Value} : ∀ (fs:List Field) (es:List (Nat × Nat × cT)),nj P fs=some es->es.all (λf=>f.1<us.size)=true ->
 (forIn fs PUnit.unit (fun f _ => if f.name ≠ "_" then (do let x <- part f.type us f.offset; Instr.checkKey em (n + 2) f.type x; pure (ForInStep.yield PUnit.unit)) else pure (ForInStep.yield PUnit.unit)) : Sem PUnit).run P w = .ok PUnit.unit w := by
 intro fs;induction fs with
 | nil=>intro es _ _;simp
 | cons f fs ih=>
   intro es hm ha;simp only[nj]at hm;split at hm
   ·rename_i a Xh;split at hm
    ·rename_i es' hfs;cases hm;rw[List.all_append,Bool.and_eq_true]at ha;have uD:=ih es' hfs ha.2;have key:∃ u,(part f.type us f.offset).run P w = .ok u w/\(Instr.checkKey em (n+2) f.type u).run P w = .ok () w:=by
      rcases wL Xh with⟨et,hs,rfl⟩ | ⟨gs,k,l,hu,hn,gV,dD,dH,hl,rfl⟩
      ·have h1:f.offset<us.size:=by simpa using ha.1
       refine⟨us[f.offset],by simp[part,lC (c:=⟨P,[],[],0⟩) hs,h1],?_⟩;unfold pZ at hs;cases hu:P.underlying f.type with
       | none=>simp[hu]at hs
       | some d=>
         rw[hu]at hs;cases d<;>simp only[Option.some.injEq,reduceCtorEq]at hs<;>simp[Instr.checkKey,ru hu]
      ·refine⟨.agg (us.extract f.offset (f.offset+k)),by simp[part,isAgg,ru hu,wT hn],?_⟩;have kP:l.all (λp=>p.1<(us.extract f.offset (f.offset+k)).size)=true:=by
        rw[List.all_eq_true];intro p hp;have h1:=Bf _ hl dH p hp;have h2:=List.all_eq_true.1 ha.1 (f.offset+p.1,p.2) (List.mem_map.2 ⟨p,hp,rfl⟩);simp only[decide_eq_true_eq]at h2 ⊢;rw[Array.size_extract];omega
       have:=Gj (P:=P) (w:=w) (em:=em) n gs.toList l hl kP;rw[Instr.checkKey];simp only[Sem.run_bind,ru hu,Result.andThen_ok];rw[<- Array.forIn_toList];simp at this ⊢;rw[this];rfl
     obtain⟨u,k1,k2⟩:=key;by_cases hn : f.name = "_"
     ·simp only[List.forIn_cons,Sem.run_bind,hn,ne_eq,not_true_eq_false,if_false,Result.andThen_ok,Sem.run_pure];exact uD
     ·simp only[List.forIn_cons,Sem.run_bind,hn,ne_eq,not_false_eq_true,if_true,Result.andThen_ok,Sem.run_pure,k1,k2];exact uD
    ·cases hm
   ·cases hm
theorem uT {j:TypeId}{kd:Dw}(l:mT P j=some kd) {k:LV}{x:Value}(hx:Rv μ ι w k x) (h:ki kd k=true) (em:Bool):(Instr.checkKey em 10000 j x).run P w = .ok () w:=by
 rcases sV (μ:=μ) (ι:=ι) (w:=w) l with⟨d,m,u,n⟩ | ⟨g,fs,rfl,p,y,z,q⟩
 ·exact MapKept.run_checkKey m (n hx h) em 9999
 ·cases hx<;>simp only[ki,Bool.false_eq_true,Bool.and_eq_true]at h;rename_i cs r hl A;have t:g.all (λf=>f.1<r.size)=true:=by rw[hl];exact h.1
  have:=w8 (P:=P) (w:=w) (em:=em) 9997 fs.toList g q t;rw[show (10000:Nat)=9999+1 from rfl,Instr.checkKey];simp only[Sem.run_bind,ru p,Result.andThen_ok];rw[<- Array.forIn_toList];simp at this ⊢;rw[this];rfl
theorem Px {t:TypeId}{x:Option Operand}(ho:o.op = .makeMap t x) (I:Inv cmp w0 μ ι δ s w) (h:Ho μ ι w c e a o) {j l:TypeId}(m:c.P.underlying t=some (.map j l)) {y:Option bF}(f:sr c x=some y)
 (d:(bq.iT y).run e s=some (v,s')):sP cmp w0 μ ι δ s w c.P a o v s':=by
 have q:v = .aR s.n/\s'=s.new (.map [])/\(execOp a.eval o).run c.P w = .ok (.value (.map (some w.heap.size))) { w with heap:=w.heap.push (.map #[] 0) } := by
  cases x with
  | none=>
    cases f;cases d;exact⟨rfl,rfl,by simp[execOp,ho,Instr.makeMap]⟩
  | some x=>
    simp only[sr,Option.map_eq_some_iff]at f;obtain⟨z,r,rfl⟩:=f;have hx:=h x z (by simp[ho,Op.operands]) r;simp only[bq.run]at d;generalize u:a.eval x=H at *;generalize z.ev e=lv at *;cases hx<;>simp only[reduceCtorEq]at d;cases d;exact⟨rfl,rfl,by simp[execOp,ho,u,Instr.makeMap,ru m,asInt,asIntOf]⟩
 obtain⟨rfl,rfl,A⟩:=q;let w':World:={ w with heap:=w.heap.push (.map #[] 0) };have hs:cZ w w':=cZ.alloc w _;have J:w'.heap.size=w.heap.size+1:=by simp[w']
 obtain⟨B,C⟩:=(I.same hs).rD ⟨w.heap.size,0,0⟩ (.map []) I.hB (by show w.heap.size<w'.heap.size;omega) ⟨#[],by simp[w'],rfl,λi D=>absurd D (Nat.not_lt_zero _)⟩
  (λ_ id K g _ _ hm E=>by have:=(I.oh id g hm).2.2;have F:g.b=w.heap.size:=E;omega)
 exact⟨_,w',_,ι, .inl A,B,(I.fk hs).trans C, .aR (p:=⟨w.heap.size,0,0⟩) (by simp[Mu.nB]),Kept.new _ _⟩
theorem Tv {t:TypeId}{z:Value}{x:LV}(d:(c.P.info? t).bind (·.zero)=some z) (hx:nu z=some x):(zeroValue t).run c.P w = .ok z w/\Rv μ ι w x z:=by
 cases f:c.P.info? t with
 | none=>simp[f]at d
 | some i=>
   rw[f]at d;exact⟨rz f d,nF hx⟩
theorem o7 {t d g:TypeId}{r clock:Nat}{es:Array MapEntry}{f:Value}{ok:Bool}(h:P.underlying t=some (.map d g)) (j:∀ em,(Instr.checkKey em 10000 d f).run P w = .ok () w)
 (l:w.heap[r]? = some (.map es clock)) {fr:Option (Nat × Value)}(m:(Instr.findKey d f es.toList).run P w = .ok fr w) {z:Value}(n:(zeroValue g).run P w = .ok z w) :
 (Instr.lookup t (.map (some r)) f ok).run P w = .ok (if ok then .tuple #[(match fr with | some (_,v)=>v | none=>z), .bool fr.isSome] else (match fr with | some (_,v)=>v | none=>z)) w:=by
 cases fr with
 | none=>simp[Instr.lookup,ru h,MapKept.run_getObj_map l,j,m,n]
 | some q=>simp[Instr.lookup,ru h,MapKept.run_getObj_map l,j,m]
theorem x9 {t d g:TypeId}{f:Value}{ok:Bool}(h:P.underlying t=some (.map d g)) (j:∀ em,(Instr.checkKey em 10000 d f).run P w = .ok () w) (l:(Instr.findKey d f []).run P w = .ok none w) {z:Value}(m:(zeroValue g).run P w = .ok z w) :
 (Instr.lookup t (.map none) f ok).run P w = .ok (if ok then .tuple #[z, .bool false] else z) w:=by
 simp[Instr.lookup,ru h,j,l,m]
theorem Ct {ok:Bool}{x:LV}{u:Value}{b:Bool}(h:Rv μ ι w x u):Rv μ ι w (if ok then .cE [x, .bool b] else x) (if ok then .tuple #[u, .bool b] else u):=by
 cases ok
 ·exact h
 ·refine .cE rfl λi d=>?_;match i,d with
  | 0,_=>exact h
  | 1,_=>exact .bool b
theorem vY {es:List (LV × LV)}{arr:Array MapEntry}(h2:arr.size=es.length) (h3:∀ i,i<es.length->((arr.getD i default).born=i/\CX (es.getD i default).1=true/\Rv μ ι w (es.getD i default).1 (arr.getD i default).key/\Rv μ ι w (es.getD i default).2 (arr.getD i default).val)) :
 arr.toList.length=es.length/\∀ j,j<es.length->Rv μ ι w (es.getD j default).1 (arr.toList.getD j default).key/\Rv μ ι w (es.getD j default).2 (arr.toList.getD j default).val:=by
 refine⟨by simpa using h2,λj d=>?_⟩;have:=h3 j d;have f:arr.toList.getD j default=arr.getD j default:=by simp[gD,gF]
 rw[f];exact this.2.2
theorem LR {t:TypeId}{m k:Operand}{ok:Bool}(ho:o.op = .lookup t m k ok) (I:Inv cmp w0 μ ι δ s w) (K:Ho μ ι w c e a o) {A L:TypeId}(B:c.P.underlying t=some (.map A L))
 {kd:Dw}(C:mT c.P A=some kd) {z:Value}(R:(c.P.info? L).bind (·.zero)=some z) {M:LV}(D:nu z=some M) {g y:bF}(hm:cP c m=some g) (S:cP c k=some y)
 (d:(bq.gp kd M ok g y).run e s=some (v,s')):sP cmp w0 μ ι δ s w c.P a o v s':=by
 have hx:=K m g (by simp[ho,Op.operands]) hm;have E:=K k y (by simp[ho,Op.operands]) S;obtain⟨F,N⟩:=Tv (w:=w) (μ:=μ) (ι:=ι) R D;have f:∀ {x w'},(Instr.lookup t (a.eval m) (a.eval k) ok).run c.P w = .ok x w'->(execOp a.eval o).run c.P w = .ok (.value x) w':=λh=>by simp[execOp,ho,h]
 simp only[bq.run]at d;generalize W3:a.eval m=mv at *;generalize T:a.eval k=U at *;generalize g.ev e=lm at *;generalize y.ev e=lk at *;split at d
 ·rename_i H;have J:=λem=>uT C E H em;cases hx<;>simp only[reduceCtorEq]at d
  case cm=>
   cases d;have V:(Instr.findKey A U []).run c.P w = .ok none w:=rj C E H (es:=[]) (l:=[]) rfl (λj X=>absurd X (Nat.not_lt_zero _)) rfl;exact⟨_,w,μ,ι, .inl (f (x9 B J V F)),I,Ext.refl _ _ _ _,Ct N,Kept.refl _ _⟩
  case aR id p Y=>
   split at d
   ·rename_i es Z;obtain⟨r,hf,d⟩:=bind_some d;obtain⟨arr,h1,h2,h3⟩:=I.dR id _ p Z Y;obtain⟨hl,AQ⟩:=vY h2 h3;have O:=rj C E H hl AQ hf;cases r with
    | none=>
      cases d;exact⟨_,w,μ,ι, .inl (f (o7 B J h1 O F)),I,Ext.refl _ _ _ _,Ct N,Kept.refl _ _⟩
    | some q=>
      obtain⟨n,u⟩:=q;obtain⟨en,_,SS,ij,_⟩:=O;cases d;exact⟨_,w,μ,ι, .inl (f (o7 B J h1 SS F)),I,Ext.refl _ _ _ _,Ct ij,Kept.refl _ _⟩
   ·cases d
 ·cases d
theorem Inv.Wt (I:Inv cmp w0 μ ι δ s w) {id:Nat}{p:Place}{es es':List (LV × LV)}{arr zV:Array MapEntry}(A:s.get id=some (.map es)) (l:μ id=some p) (hm:w.heap[p.b]? = some (.map arr es.length))
 (hl:zV.size=es'.length) (B:∀ i,i<es'.length->((zV.getD i default).born=i/\CX (es'.getD i default).1=true/\Rv μ ι w (es'.getD i default).1 (zV.getD i default).key/\Rv μ ι w (es'.getD i default).2 (zV.getD i default).val)) :
 Inv cmp w0 μ ι δ (s.put id (.map es')) { w with heap:=w.heap.setIfInBounds p.b (.map zV es'.length) } /\ Ext μ ι δ w μ ι δ { w with heap:=w.heap.setIfInBounds p.b (.map zV es'.length) } := by
 generalize r:({ w with heap:=w.heap.setIfInBounds p.b (.map zV es'.length) } : World)=w';have E:w'.heap.size=w.heap.size:=by rw[<- r];simp
 have H:=I.oh id p l;have t:∀ k,k≠p.b->w'.heap[k]? = w.heap[k]? := λk F=>by rw[<- r];exact Array.getElem?_setIfInBounds_ne (Ne.symm F)
 have N:w'.heap[p.b]? = some (.map zV es'.length):=by rw[<- r];simp[H.2.2]
 have J:∀ b o v,w.cell? ⟨b,o,none⟩=some v->b≠p.b:=by
  rintro b o v n rfl;simp[World.cell?,hm]at n
 have u:∀ b o,ι b o->w'.cell? ⟨b,o,none⟩=w.cell? ⟨b,o,none⟩:=λb o d=>by
  obtain⟨v,n⟩:=I.io b o d;exact gS (t b (J b o v n))
 refine⟨⟨⟨by rw[<- r];exact I.below.os,by rw[<- r];exact I.below.tape,by rw[<- r];exact I.below.output,by rw[E];exact I.below.size,λk F=>by rw[t k (by have:=H.2.1;omega)];exact I.below.block k F⟩,
  λid p l=>by rw[E];exact I.oh id p l,λb o d=>by obtain⟨v,n⟩:=I.io b o d;exact⟨v,(u b o d).trans n⟩,λC b q g y=>?_,?_,λx hx=>?_,I.low,λb o d g=>(I.own b o d g).heap (t b (by obtain⟨v,n⟩:=I.io b o d;exact J b o v n))⟩,
  ⟨λ_ _ h=>h,λ_ _ h=>h,u,by rw[E];exact Nat.le_refl _,λ_ h=>h⟩⟩
 ·rw[St.az]at g;split at g
  ·rename_i z;subst z;cases g;obtain rfl:p=q:=Option.some.inj (l.symm.trans y);exact⟨zV,N,hl,λi d=>⟨(B i d).1,(B i d).2.1,(B i d).2.2.1.mono u (λ_ _ h=>h) (λ_ _ h=>h),(B i d).2.2.2.mono u (λ_ _ h=>h) (λ_ _ h=>h)⟩⟩
  ·rename_i z;have K:=I.dR C b q g y;have dB:q.b≠p.b:=by
    intro D;cases b with
    | cells m cs=>obtain⟨⟨x,h0⟩,_⟩:=K;rw[D]at h0;simp[World.shape?,hm]at h0
    | loop st Y O ps as Z=>exact z (I.sep C id _ _ q p g A rfl rfl y l D)
    | map es=>exact z (I.sep C id _ _ q p g A rfl rfl y l D)
    | iter m n0 seen L=>exact z (I.sep C id _ _ q p g A rfl rfl y l D)
   exact K.mono (λ_ _ h=>h) (λ_ _ h=>h) u (t _ dB) (λ_ _ h=>h)
 ·intro i j b1 b2 p1 p2 g1 g2 R S T U e;rw[St.az]at g1 g2;have f:∀ {k:Nat}{b:jU},(if k=id then some (jU.map es') else s.get k)=some b->b.owns=true->∃ M,s.get k=some M/\M.owns=true:=by
   intro k b h ho;split at h
   ·rename_i e;subst e;exact⟨_,A,rfl⟩
   ·exact⟨b,h,ho⟩
  obtain⟨c1,V,l1⟩:=f g1 R;obtain⟨c2,X,l2⟩:=f g2 S;exact I.sep i j c1 c2 p1 p2 V X l1 l2 T U e
 ·obtain⟨a,b⟩:=I.defers x hx;refine⟨a,?_⟩;rw[t x ?_]
  ·exact b
  ·rintro rfl;rw[hm]at b;cases b
theorem v8 {kd:Dw}{k:LV}(h:ki kd k=true):CX k=true:=by
 cases k<;>first | rfl | (cases kd<;>simp[ki]at h;done)
theorem Kb {t:TypeId}{m k x:Operand}(ho:o.op = .mapUpdate t m k x∨o.op = .insert t m k x) (I:Inv cmp w0 μ ι δ s w) (L:Ho μ ι w c e a o) {V et:TypeId}(X:c.P.underlying t=some (.map V et))
 {kd:Dw}(Y:mT c.P V=some kd) {D E F:bF}(hm:cP c m=some D) (FI:cP c k=some E) (Qr:cP c x=some F)
 (g:(bq.mZ kd D E F).run e s=some (v,s')):sP cmp w0 μ ι δ s w c.P a o v s':=by
 have hx:=L m D (by rcases ho with ho | ho<;>simp[ho,Op.operands]) hm;have H:=L k E (by rcases ho with ho | ho<;>simp[ho,Op.operands]) FI;have Z:=L x F (by rcases ho with ho | ho<;>simp[ho,Op.operands]) Qr;have z:∀ {w'},(Instr.mapUpdate t (a.eval m) (a.eval k) (a.eval x)).run c.P w = .ok () w'->(execOp a.eval o).run c.P w = .ok .skip w':=λh=>by rcases ho with ho | ho<;>simp[execOp,ho,h]
 simp only[bq.run]at g;generalize W3:a.eval m=mv at *;generalize hkv:a.eval k=j at *;generalize hxv:a.eval x=l at *;generalize D.ev e=lm at *;generalize E.ev e=lk at *;generalize F.ev e=M at *;split at g
 ·rename_i J;have Df:=λem=>uT Y H J em;cases hx<;>simp only[reduceCtorEq]at g
  case aR id p A=>
   split at g
   ·rename_i f N;obtain⟨r,hf,g⟩:=bind_some g;obtain⟨d,h1,h2,h3⟩:=I.dR id _ p N A;obtain⟨hl,AQ⟩:=vY h2 h3;have sC:=rj Y H J hl AQ hf;cases r with
    | none=>
      cases g;obtain⟨O,R⟩:=I.Wt (es':=f++[(lk,M)]) (zV:=d.push { key:=j,val:=l,born:=f.length }) N A h1 (by simp[h2]) (λi y=>by
       by_cases dH:i<f.length
       ·have:=h3 i dH;have yX:i<d.size:=by omega
        simpa[gD,List.getElem?_append_left dH,gF,Array.getElem?_push,Nat.ne_of_lt yX] using this
       ·have B:i=f.length:=by simp at y;omega
        subst B;have:(d.push { key:=j,val:=l,born:=f.length }).getD f.length default = { key:=j,val:=l,born:=f.length } := by simp[gF,<- h2]
        rw[this];simp only[gD,List.getElem?_append_right (Nat.le_refl _),Nat.sub_self,List.getElem?_cons_zero,Option.getD_some];exact⟨trivial,v8 J,H,Z⟩)
      exact⟨undef,_,μ,ι, .inr ⟨z (by simp[Instr.mapUpdate,ru X,MapKept.run_getObj_map h1,Df,sC,MapKept.run_setObj_map _ h1]),rfl⟩,O,R, .cE rfl (λi y=>absurd y (Nat.not_lt_zero _)),Kept.put A _⟩
    | some q=>
      obtain⟨n,u⟩:=q;obtain⟨en,S,SS,ij,T⟩:=sC;cases g;have K:d[n]? = some en:=by simpa using S
      have hnlt:n<d.size:=(Array.getElem?_eq_some_iff.1 K).1;obtain⟨O,R⟩:=I.Wt (es':=f.set n (lk,M)) (zV:=d.modify n λe=>{ e with key:=j,val:=l }) N A h1 (by simp[h2]) (λi y=>by
       have B:i<f.length:=by simpa using y
       have hia:i<d.size:=by omega
       by_cases U:i=n
       ·subst U;have:((d.modify i λe=>{ e with key:=j,val:=l }).getD i default) = { en with key:=j,val:=l } := by
         simp only[gF,Array.getElem?_modify,if_true,K,Option.map_some,Option.getD_some]
        rw[this];simp only[gD,List.getElem?_set,B,if_true,Option.getD_some];exact⟨by have hb:=(h3 i B).1;simpa[gF,K] using hb,v8 J,H,Z⟩
       ·have h4:=h3 i B;have:((d.modify n λe=>{ e with key:=j,val:=l }).getD i default)=d.getD i default:=by
         simp only[gF,Array.getElem?_modify,if_neg (Ne.symm U)]
        rw[this];have:(f.set n (lk,M)).getD i default=f.getD i default:=by simp[gD,Ne.symm U]
        rw[this];exact h4)
      refine⟨undef,_,μ,ι, .inr ⟨z ?_,rfl⟩,O,R, .cE rfl (λi y=>absurd y (Nat.not_lt_zero _)),Kept.put A _⟩;have C:((d[n]?).map (·.key)).getD j=en.key:=by rw[K];rfl
      simp[Instr.mapUpdate,ru X,MapKept.run_getObj_map h1,Df,SS,MapKept.run_setObj_map _ h1,C,T]
   ·cases g
 ·cases g
theorem E5 {t:TypeId}{x:Operand}(ho:o.op = .call { callee:=.builtin .len,args:=#[x],argTypes:=#[t] }) (I:Inv cmp w0 μ ι δ s w) (h:Ho μ ι w c e a o) {j l:TypeId}(f:c.P.underlying t=some (.map j l))
 {y:bF}(m:cP c x=some y) (d:(bq.kF y).run e s=some (v,s')):s'=s/\dK μ ι w c.P a o v:=by
 have hx:=h x y (by simp[ho,Op.operands,Call.operands]) m;unfold bq.run at d;dsimp only at d;generalize y.ev e=lv at *;generalize g:a.eval x=z at *;cases hx<;>simp only[reduceCtorEq]at d
 case cm=>
  cases d;exact⟨rfl,_,by simp only[execOp,ho,resolve,Sem.run_bind,Sem.run_pure,Result.andThen_ok,invoke,builtin,List.map_toArray,List.map_cons,List.map_nil,g];simp[Builtin.len_,ru f];rfl, .int _ _⟩
 case aR id p n=>
  split at d
  ·rename_i q r;cases d;obtain⟨u,h1,h2,h3⟩:=I.dR id _ p r n;refine⟨rfl, .int .i64 q.length,?_, .int _ _⟩;simp only[execOp,ho,resolve,Sem.run_bind,Sem.run_pure,Result.andThen_ok,invoke,builtin,List.map_toArray,List.map_cons,List.map_nil,g];simp[Builtin.len_,ru f,MapKept.run_getObj_map h1,h2,goInt]
  ·cases d
theorem EZ {t:TypeId}{x lo q r:Operand}(ho:o.op = .slice t x (some lo) (some q) (some r)) (u:Ho μ ι w c e a o) {D:TypeId}(E:c.P.underlying t=some (.slice D)) {n:Nat}(F:gU c.P D=some n)
 {y f g j:bF}(H:cP c x=some y) (I:cP c lo=some f) (J:cP c q=some g) (K:cP c r=some j) (d:(bq.vr y f g j).run e s=some (v,s')):s'=s/\dK μ ι w c.P a o v:=by
 have hx:=u x y (by simp[ho,Op.operands]) H;have h1:=u lo f (by simp[ho,Op.operands]) I;have h2:=u q g (by simp[ho,Op.operands]) J;have h3:=u r j (by simp[ho,Op.operands]) K;unfold bq.run at d;dsimp only at d;generalize y.ev e=lv at *;generalize f.ev e=l1 at *;generalize g.ev e=l2 at *;generalize j.ev e=l3 at *;generalize L:a.eval x=M at *;generalize B:a.eval lo=N at *;generalize C:a.eval q=O at *;generalize R:a.eval r=S at *;cases h1<;>(try (simp only[reduceCtorEq]at d;done))<;>cases h2<;>(try (simp only[reduceCtorEq]at d;done))<;>cases h3<;>(try (simp only[reduceCtorEq]at d;done));rename_i X l Y h Z m;cases z:ji lv with
 | none=>simp[z]at d
 | some len=>
   simp only[z]at d;split at d
   ·rename_i T;obtain⟨rfl,rfl,h0,h4⟩:=T;have U:∃ ba cap,M = .slice ba len cap/\len<=cap/\(ba=none->len=0/\cap=0):=by
     cases hx<;>simp only[ji,reduceCtorEq]at z<;>cases z
     ·exact⟨_,_,rfl,Nat.le_refl _,λ_=>⟨rfl,rfl⟩⟩
     ·exact⟨_,_,rfl,Nat.le_refl _,λh=>by cases h⟩
     ·exact⟨_,_,rfl,by assumption,λh=>by cases h⟩
     ·exact⟨_,_,rfl,by assumption,λh=>by cases h⟩
    obtain⟨ba,cap,rfl,pM,C8⟩:=U;have p:l<=(cap:Int):=by omega
    have V:l<=max l 0:=by omega
    have A:(execOp a.eval o).run c.P w = .ok (.value (.slice ba 0 0)) w:=by
     simp[execOp,ho,L,B,C,R,Instr.sliceAt,Instr.slice,ru E,Instr.sliceBounds,Instr.sliceBound,asIntOf,h0,p,V,wT F]
    cases hx<;>simp only[reduceCtorEq]at d<;>cases d
    ·exact⟨rfl,_,A, .aq⟩
    ·exact⟨rfl,_,A, .zs _⟩
    ·exact⟨rfl,_,A, .zs _⟩
    ·exact⟨rfl,_,A, .zs _⟩
   ·cases d
theorem Gk:∀ (cs:List LV) (vs:List Value) (d:List UInt8),bytesOf cs=some d->vs.length=cs.length->(∀ i,i<cs.length->Rv μ ι w (cs.getD i .top) (vs.getD i undef)) ->
 ∃ f:List Int,vs=f.map (Value.int .u8)/\f.map (λn=>UInt8.ofNat n.toNat)=d:=by
 intro cs;induction cs with
 | nil=>
   intro vs d h hl _;cases h;obtain rfl:=List.length_eq_zero_iff.1 hl;exact⟨[],rfl,rfl⟩
 | cons x cs ih=>
   intro vs d h hl j;match vs,hl with
   | v :: vs, hl =>
     have h0:Rv μ ι w x v:=by simpa using j 0 (by simp)
     unfold bytesOf at h;split at h
     ·rename_i heq;cases heq
     ·rename_i n r heq;obtain⟨g,l,h⟩:=bind_some h;cases h;simp only[List.cons.injEq]at heq;obtain⟨rfl,rfl⟩:=heq;cases h0;obtain⟨f,h1,h2⟩:=ih vs g l (by simpa using hl) (λi m=>by simpa using j (i+1) (by simpa using m));exact⟨n::f,by simp[h1],by simp[h2]⟩
     ·cases h
theorem foldl_push (d:List UInt8):∀ (r:ByteArray),(d.foldl (λr b=>r.push b) r).data.toList=r.data.toList++d:=by
 induction d with
 | nil=>intro r;simp
 | cons b d ih=>intro r;rw[List.foldl_cons,ih];simp[ByteArray.push]
theorem FW (d:List Int):d.foldl (λr n=>r.push (UInt8.ofNat n.toNat)) ByteArray.empty=⟨(d.map (λn=>UInt8.ofNat n.toNat)).toArray⟩:=by
 have h:=foldl_push (d.map (λn=>UInt8.ofNat n.toNat)) ByteArray.empty;rw[List.foldl_map]at h;generalize d.foldl (λr n=>r.push (UInt8.ofNat n.toNat)) ByteArray.empty=x at *;cases x;congr 1;apply Array.ext';simpa using h
theorem AI {t dst:TypeId}{x:Operand}(ho:o.op = .convert t dst x) (I:Inv cmp w0 μ ι δ s w) (z:Ho μ ι w c e a o) (A:c.P.underlying dst=some .string) {j:TypeId}(B:c.P.underlying t=some (.slice j)) (l:Yz c.P j=true)
 {y:bF}(C:cP c x=some y) (d:(bq.mA y).run e s=some (v,s')):s'=s/\dK μ ι w c.P a o v:=by
 have hx:=z x y (by simp[ho,Op.operands]) C;have f:c.P.underlying j=some (.int .u8):=by
  unfold Yz at l;split at l
  ·assumption
  ·cases l
 simp only[bq.run]at d;generalize y.ev e=lv at *;generalize D:a.eval x=m at *;obtain⟨n,h,d⟩:=bind_some d;obtain⟨cs,p,d⟩:=bind_some d;obtain⟨q,DO,d⟩:=bind_some d;cases d;obtain⟨g,h1,h2,h3,L⟩:=nH (P:=c.P) I hx p;obtain⟨u,E,F⟩:=Gk cs g.toList q DO (by simpa using h2.1) (λi H=>by
  have:=h2.2 i H;simpa[gD,gF] using this)
 have J:g=(u.map (Value.int .u8)).toArray:=by apply Array.ext';simpa using E
 have K:(Conv.bytesToString m).run c.P w = .ok (.string ⟨q.toArray⟩) w:=by
  cases hx<;>simp only[ji,reduceCtorEq]at h<;>cases h
  ·have:q=[]:=by
    simp only[rowOf,if_true]at p;cases p;cases DO;rfl
   subst this;simp[Conv.bytesToString];rfl
  all_goals
   have r:=h1 w (cZ.refl w);simp only[Builtin.firstCells,Nat.mul_one]at r;rw[J]at r;rw[run_bytesToString w _ _ _ u r,FW,F]
 refine⟨rfl,_,?_, .str _⟩;simp only[execOp,ho,D,convert,Sem.run_bind,ru B,ru A,Result.andThen_ok];have:∀ s,m≠.string s/\(∀ k n,m≠.int k n):=λs=>by cases hx<;>simp[ji]at h<;>simp
 cases hx<;>simp only[ji,reduceCtorEq]at h<;>simp only[Sem.run_bind,ru f,Result.andThen_ok,K,Sem.run_pure]
theorem LQ {t:TypeId}{x:Operand}(ho:o.op = .range t x) (I:Inv cmp w0 μ ι δ s w) (u:Ho μ ι w c e a o) {z A:TypeId}(j:c.P.underlying t=some (.map z A)) {y:bF}(B:cP c x=some y)
 (f:(bq.oA y).run e s=some (v,s')):sP cmp w0 μ ι δ s w c.P a o v s':=by
 have hx:=u x y (by simp[ho,Op.operands]) B;have h:∀ (m:Option Nat) (d:Nat) (g:Option Nat),(match m with | none=>g=none | some id=>∃ pm,μ id=some pm/\g=some pm.b) ->
  (execOp a.eval o).run c.P w = .ok (.value (.pointer (some ⟨w.heap.size,0,none⟩))) { w with heap:=w.heap.push (.mapIter g d #[] d) } -> sP cmp w0 μ ι δ s w c.P a o (.aO s.n 0) (s.new (.iter m d [] d)):=by
  intro m d g hm C;let w':World:={ w with heap:=w.heap.push (.mapIter g d #[] d) };have hs:cZ w w':=cZ.alloc w _;have M:w'.heap.size=w.heap.size+1:=by simp[w']
  obtain⟨D,E⟩:=(I.same hs).rD ⟨w.heap.size,0,0⟩ (.iter m d [] d) I.hB (by show w.heap.size<w'.heap.size;omega) ⟨rfl,g,by simp[w'],hm⟩
   (λ_ id N l _ _ hm F=>by have:=(I.oh id l hm).2.2;have H:l.b=w.heap.size:=F;omega)
  exact⟨_,w',_,ι, .inl C,D,(I.fk hs).trans E, .aO (p:=⟨w.heap.size,0,0⟩) (off:=0) (by simp[Mu.nB]),Kept.new _ _⟩
 simp only[bq.run]at f;generalize y.ev e=lv at *;generalize q:a.eval x=O at *;cases hx<;>simp only[reduceCtorEq]at f
 case cm=>
  cases f;exact h none 0 none rfl (by simp[execOp,ho,q,Instr.range,ru j])
 case aR id p r=>
  split at f
  ·rename_i J K;cases f;obtain⟨L,h1,h2,h3⟩:=I.dR id _ p K r;exact h (some id) J.length (some p.b) ⟨p,r,rfl⟩ (by simp[execOp,ho,q,Instr.range,ru j,MapKept.run_getObj_map h1])
  ·cases f
theorem jX {r:Nat}{d:Obj}(h:w.heap[r]? = some d) (g:∀ c t f,d≠.cells c t f):(getObj r).run P w = .ok d w:=by
 cases d<;>first | (simp[getObj,Sem.run,h];done) | exact absurd rfl (g _ _ _)
theorem find_born {es:List (LV × LV)}{arr:Array MapEntry}(h2:arr.size=es.length) (h3:∀ i,i<es.length->(arr.getD i default).born=i) {i:Nat}(g:i<es.length) :
 arr.find? (λx=>x.born == i)=some (arr.getD i default):=by
 rw[<- Array.find?_toList];have d:i<arr.size:=by omega
 refine List.find?_eq_some_iff_append.2 ⟨by simpa using h3 i g,arr.toList.take i,arr.toList.drop (i+1),?_,λx hx=>?_⟩
 ·have:arr.getD i default=arr.toList[i]'(by simpa using d):=by simp[gF,d]
  rw[this];have h:i<arr.toList.length:=by simpa using d
  conv=>lhs;rw[<- List.take_append_drop i arr.toList,List.drop_eq_getElem_cons h]
 ·obtain⟨j,l,rfl⟩:=List.getElem_of_mem hx;have m:j<i:=by simp at l;omega
  have n:j<arr.size:=by omega
  have f:=h3 j om;have:arr.getD j default=arr[j]:=by simp[gF,n]
  rw[this]at f;simp[f];omega
theorem E1 {x:Operand}(ho:o.op = .entry x) (I:Inv cmp w0 μ ι δ s w) (u:Ho μ ι w c e a o) {y:bF}(z:cP c x=some y) (d:(bq.oB y).run e s=some (v,s')):s'=s/\dK μ ι w c.P a o v:=by
 have hx:=u x y (by simp[ho,Op.operands]) z;simp only[bq.run]at d;generalize y.ev e=lv at *;generalize q:a.eval x=L at *;cases hx<;>try (cases d;done)
 case aO id off p A=>
  split at d
  ·rename_i B heq;obtain⟨rfl,rfl⟩:id=B/\off=0:=by injection heq;exact⟨by assumption,by assumption⟩
   split at d
   ·rename_i m M seen r C;split at d
    ·rename_i N h;split at d
     ·rename_i i l;split at d
      ·rename_i D;obtain⟨E,t⟩:=D;cases d;obtain⟨F,O,H,pm,J,rfl⟩:=I.dR id _ p C A;obtain⟨g,h1,h2,h3⟩:=I.dR m _ pm h J;have n:=find_born h2 (λi l=>(h3 i l).1) t;have f:seen.toArray.back? = some i:=by simp[l]
       refine⟨rfl, .tuple #[(g.getD i default).key,(g.getD i default).val],?_, .cE rfl λj K=>?_⟩
       ·rw[F]at q;simp only[execOp,ho,q,Instr.entry,Sem.run_bind,jX H (by simp),jX h1 (by simp),Result.andThen_ok,f,n];simp[E]
       ·have:=h3 i t;match j,K with
        | 0,_=>exact this.2.2.1
        | 1,_=>exact this.2.2.2
      ·cases d
     ·cases d
    ·cases d
   ·cases d
  ·cases d
theorem Ma {t:TypeId}{x:Operand}(ho:o.op = .call { callee:=.builtin .cap,args:=#[x],argTypes:=#[t] }) (f:Ho μ ι w c e a o) {g:TypeId}(h:c.P.underlying t=some (.slice g))
 {y:bF}(j:cP c x=some y) (d:(bq.Sd y).run e s=some (v,s')):s'=s/\dK μ ι w c.P a o v:=by
 have hx:=f x y (by simp[ho,Op.operands,Call.operands]) j;unfold bq.run at d;dsimp only at d;generalize y.ev e=lv at *;generalize l:a.eval x=m at *;cases hx<;>simp only[reduceCtorEq]at d<;>cases d;all_goals exact⟨rfl,_,by simp only[execOp,ho,resolve,Sem.run_bind,Sem.run_pure,Result.andThen_ok,invoke,builtin,List.map_toArray,List.map_cons,List.map_nil,l];simp[Builtin.cap_,ru h];rfl, .int _ _⟩
theorem A0 {t u d:TypeId}{ty:TypeId}{k kk:IntKind}{i:TypeInfo}(y:P.underlying t=some (.slice d)) (z:P.underlying u=some (.int k)) (j:P.info? d=some i)
 {n:Nat}(A:0<n) (B:i.size≠0) (C:i.bytes≠0) (r:n*i.bytes<=2 ^ 32) {g:Value}(D:i.zero=some g) :
 ∃ l,n<=l/\(Builtin.append_ #[t,u] ty #[.slice none 0 0, .int kk n]).run P w =
   .ok (.slice (some ⟨w.heap.size,0,none⟩) n l) (({ w with drawn:=w.drawn+1 } : World).alloc (.cells (#[]++Builtin.zeroCells g.cells n++Builtin.zeroCells g.cells (l - n)) d)):=by
 have E:∀ w':World,(sizeOf d).run P w' = .ok i.size w':=λw'=>by simp[sizeOf,Lq j]
 have F:n<=2 ^ 32:=Nat.le_trans (Nat.le_mul_of_pos_right _ (Nat.pos_of_ne_zero C)) r;have H:¬ (281474976710656<Builtin.nextslicecap n 0*i.bytes):=by
  have h1:=yz n 0 A;have h2:Builtin.nextslicecap n 0*i.bytes<=(2*n+192)*i.bytes:=Nat.mul_le_mul_right _ h1;have h3:(2*n+192)*i.bytes=2*(n*i.bytes)+192*i.bytes:=by rw[Nat.add_mul,Nat.mul_assoc]
  have N:i.bytes<=n*i.bytes:=Nat.le_mul_of_pos_left _ om;omega
 have I:(Question.appendCap n 0 d).forced=false:=rfl;refine⟨(Question.appendCap n 0 d).cut (w.tape w.drawn (.appendCap n 0 d)),by simp[Question.cut],?_⟩;have x:¬ (n=0):=by omega
 have J:∀ w':World,(typeInfo d).run P w' = .ok i w':=λw'=>Lq j;have K:∀ w':World,(zeroValue d).run P w' = .ok g w':=λw'=>rz j D;have m:IntKind.i64.wrap (n:Int)=n:=wrap_i64 _ om om;have f:¬ ((n:Int)<0):=by omega
 have L:¬ (281474976710656<(n:Int)*(i.bytes:Int)):=by
  have:((n*i.bytes:Nat):Int)<=((2 ^ 32:Nat):Int):=Int.ofNat_le.2 r;rw[Int.natCast_mul]at this;omega
 have p:¬ (9223372036854775807<(n:Int)):=by omega
 have M:¬ (n*i.size=0):=by
  intro h;rcases Nat.mul_eq_zero.1 h with h | h
  ·exact x h
  ·exact B h
 have q:∀ w':World,(Builtin.firstCells i.size 0 (.slice none 0 0)).run P w' = .ok #[] w':=λw'=>by simp[Builtin.firstCells]
 simp only[Builtin.append_];simp[ru y,ru z,E,J,asInt,asIntOf,m,f,L,x,p,H,I,K,M,newRow,q]
theorem T4 {x y:Operand}{t u:TypeId}(ho:o.op = .call { callee:=.builtin .append,args:=#[x,y],argTypes:=#[t,u] }) (I:Inv cmp w0 μ ι δ s w) (R:Ho μ ι w c e a o) {p:TypeId}{d:TypeDesc}{i:TypeInfo}{z:List LV}
 (S:c.P.underlying t=some (.slice p)) (T:c.P.underlying u=some d) (hd:Qe d=true) (E:c.P.info? p=some i) (sy:i.size≠0) (tL:i.bytes≠0) (g:oY c.P p=some z) (Gx:z.length=i.size) {F H:bF}(Ae:cP c x=some F) (FC:cP c y=some H)
 (f:(bq.Nl i.size i.bytes z F H).run e s=some (v,s')):sP cmp w0 μ ι δ s w c.P a o v s':=by
 have hx:=R x F (by simp[ho,Op.operands,Call.operands]) Ae;have hy:=R y H (by simp[ho,Op.operands,Call.operands]) FC;have J:∃ k,d = .int k:=by cases d<;>first | exact⟨_,rfl⟩ | cases hd
 obtain⟨k,rfl⟩:=J;have B:∀ {r:Value}{w':World},(Builtin.append_ #[t,u] o.type #[a.eval x,a.eval y]).run c.P w = .ok r w'->(execOp a.eval o).run c.P w = .ok (.value r) w':=λh=>by
  simp only[execOp,ho,resolve,Sem.run_bind,Sem.run_pure,Result.andThen_ok,invoke,builtin,List.map_toArray,List.map_cons,List.map_nil,h]
 simp only[bq.run]at f;generalize gf:a.eval x=av at *;generalize sL:a.eval y=bv at *;generalize F.ev e=l1 at *;generalize H.ev e=l2 at *;cases hx<;>(try (simp only[reduceCtorEq]at f;done));cases hy<;>(try (simp only[reduceCtorEq]at f;done));rename_i kk m;dsimp only at f;have kO:∀ w':World,(sizeOf p).run c.P w' = .ok i.size w':=λw'=>by simp[sizeOf,Lq E]
 have WM:∀ w':World,(typeInfo p).run c.P w' = .ok i w':=λw'=>Lq E;split at f
 ·rename_i h0;subst h0;cases f;refine⟨.slice none 0 0,w,μ,ι, .inl (B ?_),I,Ext.refl _ _ _ _, .aq,Kept.refl _ _⟩;simp only[Builtin.append_];simp[ru S,ru T,kO,WM,asInt,asIntOf,wrap_i64 0 om om]
 ·rename_i h0;split at f
  ·rename_i hc;obtain⟨hp,U,lJ⟩:=hc;cases f;obtain⟨q,l,eU,K⟩:∃ q l,c.P.info? p=some q/\q.zero=some l/\∃ x,nu l=some x/\cells? x=some z:=by
    unfold oY at g;obtain⟨q,h1,g⟩:=bind_some g;obtain⟨l,h2,g⟩:=bind_some g;obtain⟨x,h3,g⟩:=bind_some g;exact⟨q,l,h1,h2,x,h3,g⟩
   obtain rfl:i=q:=Option.some.inj (E.symm.trans eU);obtain⟨K,zx,L,Nx⟩:=K;have V:cZ w w.drew:=cZ.drew w;have Id:=I.same V;have xd:=I.fk V;obtain⟨C,X,M⟩:=iG (nF (μ:=μ) (ι:=ι) (w:=w.drew) L) Nx;have Y:=Ra.one (μ:=μ) (ι:=ι) (w:=w.drew) ⟨C,X⟩ (by simpa using M);obtain⟨n,rfl⟩:∃ n:Nat,m=n:=⟨m.toNat,by omega⟩;have hn:0<n:=by omega
   have FP:n*i.bytes<=2 ^ 32:=by unfold big at U;exact_mod_cast U
   obtain⟨Z,mD,bL⟩:=A0 (w:=w) (ty:=o.type) (kk:=kk) S T E hn sy tL FP K;have N:0<z.length:=by omega
   obtain⟨q1,q2⟩:=mM (μ:=μ) (ι:=ι) (w:=w.drew) ⟨C,X⟩ N n n (Nat.le_refl _);have wm:Ra μ ι w.drew (rep n z) (Builtin.zeroCells l.cells n):=by
    refine⟨by rw[dF,eP,C],λj A=>?_⟩;rw[eP]at A;have:=q2 j A;simpa[Builtin.zeroCells,C] using this
   have zf:Ra μ ι w.drew [] #[]:=⟨rfl,λj A=>absurd A (Nat.not_lt_zero _)⟩;obtain⟨g1,g2⟩:=q8 zf wm (Builtin.zeroCells l.cells (Z - n));rw[List.nil_append]at g1 g2;have nV:=eR (eR (us:=#[]) (λj A=>by simp at A) (eM Y n)) (eM Y (Z - n));obtain⟨I2,x2⟩:=Id.nL p _ (rep n z) g1 nV g2;have O:((n:Int)).toNat=n:=by simp
   rw[O];refine⟨_,_,_,ι, .inl (B bL),I2,xd.trans x2,?_,Kept.new _ _⟩;have D:l.cells.size=i.size:=by rw[C,Gx]
   exact pV (by simp[dF,D];rw[<- Nat.add_mul];exact Nat.mul_le_mul_right _ om) mD
  ·cases f
theorem LW {lo:bq}(j:CW lo=true) (g:bH c o=some lo) (r:Ho μ ι w c e a o) (I:Inv cmp w0 μ ι δ s w) (A:lo.run e s=some (v,s')):sP cmp w0 μ ι δ s w c.P a o v s':=by
 have lk:s'=s/\dK μ ι w c.P a o v->sP cmp w0 μ ι δ s w c.P a o v s':=λh=>by
  obtain⟨rfl,h⟩:=h;exact Kc I h
 cases ho:o.op
 case range t x=>
  simp only[bH,ho]at g;split at g
  ·rename_i p;obtain⟨y,q,g⟩:=bind_some g;cases g;exact LQ ho I r p q A
  ·cases g
 case entry x=>
  simp only[bH,ho]at g;obtain⟨y,q,rfl⟩:=cX g;exact lk (E1 ho I r q A)
 case next x b=>
  cases b<;>simp only[bH,ho,reduceCtorEq]at g;obtain⟨y,q,rfl⟩:=cX g;cases j
 case makeMap t x=>
  simp only[bH,ho]at g;split at g
  ·rename_i p;obtain⟨y,q,g⟩:=bind_some g;cases g;exact Px ho I r p q A
  ·cases g
 case lookup t m k ok=>
  simp only[bH,ho]at g;split at g
  ·rename_i p;obtain⟨kd,B,g⟩:=bind_some g;obtain⟨z,E,g⟩:=bind_some g;obtain⟨lz,F,g⟩:=bind_some g;obtain⟨N,hm,g⟩:=bind_some g;obtain⟨O,D,g⟩:=bind_some g;cases g;exact LR ho I r p B E F hm D A
  ·cases g
 case mapUpdate t m k x=>
  simp only[bH,ho]at g;split at g
  ·rename_i p;obtain⟨kd,B,g⟩:=bind_some g;obtain⟨N,hm,g⟩:=bind_some g;obtain⟨O,D,g⟩:=bind_some g;obtain⟨S,H,g⟩:=bind_some g;cases g;exact Kb (.inl ho) I r p B hm D H A
  ·cases g
 case insert t m k x=>
  simp only[bH,ho]at g;split at g
  ·rename_i p;obtain⟨kd,B,g⟩:=bind_some g;obtain⟨N,hm,g⟩:=bind_some g;obtain⟨O,D,g⟩:=bind_some g;obtain⟨S,H,g⟩:=bind_some g;cases g;exact Kb (.inr ho) I r p B hm D H A
  ·cases g
 case convert t d x=>
  simp only[bH,ho]at g;split at g
  ·obtain⟨_,_,g⟩:=bind_some g;obtain⟨_,_,g⟩:=bind_some g;cases g;cases j
  ·rename_i B;split at g
   ·rename_i C;split at g
    ·rename_i T;obtain⟨y,q,rfl⟩:=cX g;exact lk (AI ho I r B C T q A)
    ·cases g
   ·obtain⟨y,q,rfl⟩:=cX g;cases j
   ·cases g
  ·cases g
 case slice t x l h m=>
  cases m with
  | none=>
    exfalso;simp only[bH,ho]at g;split at g
    ·obtain⟨_,_,g⟩:=bind_some g;obtain⟨_,_,g⟩:=bind_some g;obtain⟨_,_,g⟩:=bind_some g;obtain⟨_,_,g⟩:=bind_some g;cases g;cases j
    ·obtain⟨_,_,g⟩:=bind_some g;obtain⟨_,_,g⟩:=bind_some g;obtain⟨_,_,g⟩:=bind_some g;cases g;cases j
    ·obtain⟨_,_,g⟩:=bind_some g;obtain⟨_,_,g⟩:=bind_some g;obtain⟨_,_,g⟩:=bind_some g;obtain⟨_,_,g⟩:=bind_some g;cases g;cases j
    ·cases g
  | some mx=>
    cases l<;>cases h<;>simp only[bH,ho,reduceCtorEq]at g;split at g
    ·rename_i p;obtain⟨n,U,g⟩:=bind_some g;obtain⟨y,q,g⟩:=bind_some g;obtain⟨y1,J,g⟩:=bind_some g;obtain⟨y2,K,g⟩:=bind_some g;obtain⟨y3,L,g⟩:=bind_some g;cases g;exact lk (EZ ho r p U q J K L A)
    ·cases g
 case call cl=>
  obtain⟨V,as,M⟩:=cl;cases V<;>simp only[bH,ho,reduceCtorEq]at g
  case value f=>
   obtain⟨_,_,g⟩:=bind_some g;obtain⟨_,_,g⟩:=bind_some g;cases g;cases j
  case builtin bb=>
   unfold eG at g;split at g
   ·rename_i x t has C;have h1:as = #[x]:=by apply Array.ext';simpa using has
    have h2:M = #[t]:=by apply Array.ext';simpa using C
    subst h1;subst h2;unfold rU at g;split at g
    ·obtain⟨_,_,g⟩:=bind_some g;cases g;cases j
    ·obtain⟨_,_,g⟩:=bind_some g;cases g;cases j
    ·cases g;cases j
    ·rename_i p;obtain⟨y,q,g⟩:=bind_some g;cases g;exact lk (E5 ho I r p q A)
    ·cases g
   ·rename_i x y t u has C;have h1:as = #[x,y]:=by apply Array.ext';simpa using has
    have h2:M = #[t,u]:=by apply Array.ext';simpa using C
    subst h1;subst h2;unfold iz at g;split at g
    ·rename_i X;obtain⟨d,p,g⟩:=bind_some g;obtain⟨i,Y,g⟩:=bind_some g;obtain⟨z,E,g⟩:=bind_some g;split at g
     ·cases g
     ·rename_i R;simp only[not_or,ne_eq,Decidable.not_not]at R;obtain⟨g0,g1,Z⟩:=R;split at g
      ·split at g<;>(obtain⟨_,_,g⟩:=bind_some g;obtain⟨_,_,g⟩:=bind_some g;cases g;cases j)
      ·split at g
       ·rename_i hd;obtain⟨lx,Ae,g⟩:=bind_some g;obtain⟨ly,FC,g⟩:=bind_some g;cases g;exact T4 ho I r X p hd Y g0 g1 E Z Ae FC A
       ·cases g
    ·cases g
   ·exfalso;unfold mz at g;split at g
    ·obtain⟨_,_,g⟩:=bind_some g;obtain⟨_,_,g⟩:=bind_some g;obtain⟨_,_,g⟩:=bind_some g;cases g;cases j
    ·cases g
   ·rename_i x t has C;have h1:as = #[x]:=by apply Array.ext';simpa using has
    have h2:M = #[t]:=by apply Array.ext';simpa using C
    subst h1;subst h2;unfold rV at g;split at g
    ·rename_i p;obtain⟨y,q,g⟩:=bind_some g;cases g;exact lk (Ma ho r p q A)
    ·cases g
   ·exfalso;unfold oR at g;split at g
    ·obtain⟨_,_,g⟩:=bind_some g;obtain⟨_,_,g⟩:=bind_some g;obtain⟨_,_,g⟩:=bind_some g;cases g;cases j
    ·cases g
   ·obtain⟨_,_,g⟩:=bind_some g;cases g;cases j
   ·obtain⟨_,_,g⟩:=bind_some g;cases g;cases j
   ·cases g
 all_goals exfalso
 all_goals simp only[bH,ho,reduceCtorEq,Option.map_eq_some_iff]at g
 all_goals repeat' (first | (cases g;cases j;done) | (cases g;done) | (obtain⟨_,_,rfl⟩:=g;cases j;done) | contradiction | (obtain⟨_,_,g⟩:=bind_some g) | (split at g))
end
open Go Go.RowKit
section
variable {P:Program}{w:World}{w0:Bs}{μ:Mu}{ι:Io}{δ:Nat->Prop}{s s':St}{cmp:Nat->bx->Code->Prop}{c:Ctx}{e:Env}{a:Act}{o:Oper}{v:LV}
theorem MT {l d:List LV}{s s':St}(ι:Io) (f:Nat->Value) (h:gC l s=(d,s')) (I:Inv cmp w0 μ ι δ s w) (g:∀ i,i<l.length->Rv μ ι w (l.getD i .top) (f i)) :
 ∃ ck,Inv cmp w0 μ ck δ s' w/\Ext μ ι δ w μ ck δ w/\d.length=l.length/\(∀ i,i<l.length->Rv μ ck w (d.getD i .top) (f i))/\iu μ s s':=by
 unfold gC at h;split at h
 ·rename_i r j;subst h;exact iF (zy bp) _ _ _ _ ι f j I g
 ·cases h;exact⟨ι,I,Ext.refl _ _ _ _,rfl,g, .refl _ _⟩
theorem LS {x y:Operand}{t u:TypeId}(ho:o.op = .call { callee:=.builtin .append,args:=#[x,y],argTypes:=#[t,u] }) (I:Inv cmp w0 μ ι δ s w) (q:Ho μ ι w c e a o) {lo:bq}(Y:CW lo=false) (f:iz c x y t u=some lo)
 (g:lo.run e s=some (v,s')):sP cmp w0 μ ι δ s w c.P a o v s':=by
 unfold iz at f;cases A:c.P.underlying t with
 | none=>simp[A]at f
 | some ty=>
   rw[A]at f;cases ty<;>simp only[reduceCtorEq]at f;rename_i el;obtain⟨d,S,f⟩:=bind_some f;obtain⟨i,T,f⟩:=bind_some f;obtain⟨z,U,f⟩:=bind_some f;split at f
   ·cases f
   ·rename_i V;simp only[not_or,ne_eq,Decidable.not_not]at V;obtain⟨h0,h1,h3⟩:=V;split at f
    case isFalse=>
     exfalso;split at f
     ·obtain⟨_,_,f⟩:=bind_some f;obtain⟨_,_,f⟩:=bind_some f;cases f;cases Y
     ·cases f
    rename_i h2;split at f
    ·obtain⟨C,D,f⟩:=bind_some f;obtain⟨E,F,f⟩:=bind_some f;cases f;have hx:=q x C (by simp[ho,Op.operands,Call.operands]) D;have m:=q y E (by simp[ho,Op.operands,Call.operands]) F;unfold bq.run at g;dsimp only at g;obtain⟨n,H,g⟩:=bind_some g;obtain⟨new,J,g⟩:=bind_some g;obtain⟨arr,K,B,h,l⟩:=nH (P:=c.P) I m J;have hl:=vG (w:=w) m H;obtain⟨r,w',b8,ck,L,M,N,O,R⟩:=Cc (ty:=o.type) A S h2 T h0 h1 U h3 I hx hl (new:=new) (arr:=arr) K B h l g;refine⟨r,w',b8,ck, .inl ?_,M,N,O,R⟩;simp only[execOp,ho,resolve,Sem.run_bind,Sem.run_pure,Result.andThen_ok,invoke,builtin,List.map_toArray,List.map_cons,List.map_nil];have:=L;unfold z7 at this;rw[this];rfl
    obtain⟨C,D,f⟩:=bind_some f;obtain⟨E,F,f⟩:=bind_some f;cases f;have hx:=q x C (by simp[ho,Op.operands,Call.operands]) D;have m:=q y E (by simp[ho,Op.operands,Call.operands]) F;unfold bq.run at g;dsimp only at g;obtain⟨n,H,g⟩:=bind_some g;obtain⟨p,J,g⟩:=bind_some g;obtain⟨arr,K,B,h,l⟩:=nH (P:=c.P) I m J;generalize Z:gC p s=ft at g;obtain⟨new,s1⟩:=ft;dsimp only at g;obtain⟨jL,I1,X,l1,r1,f1⟩:=MT ι (λj=>arr.getD j undef) Z I B.2;have hl:=vG (w:=w) m H;obtain⟨r,w',b8,ck,L,M,N,O,R⟩:=Cc (ty:=o.type) A S h2 T h0 h1 U h3 I1 (hx.ext X) hl (new:=new) (arr:=arr) K ⟨by rw[B.1,l1],λj hj=>r1 j (by rw[<- l1];exact hj)⟩ h (by rw[l1];exact l) g;refine⟨r,w',b8,ck, .inl ?_,M,X.trans N,O,(Kept.CI f1).trans R⟩;simp only[execOp,ho,resolve,Sem.run_bind,Sem.run_pure,Result.andThen_ok,invoke,builtin,List.map_toArray,List.map_cons,List.map_nil];have:=L;unfold z7 at this;rw[this];rfl
theorem Yi (n len:Nat):Nat.min n len=min n len:=rfl
theorem T3 {x y:Operand}{t u:TypeId}(ho:o.op = .call { callee:=.builtin .copy,args:=#[x,y],argTypes:=#[t,u] }) (I:Inv cmp w0 μ ι δ s w) (H:Ho μ ι w c e a o) {lo:bq}(l:mz c x y t=some lo)
 (f:lo.run e s=some (v,s')):sP cmp w0 μ ι δ s w c.P a o v s':=by
 unfold mz at l;cases B:c.P.underlying t with
 | none=>simp[B]at l
 | some ty =>
   rw[B]at l;cases ty<;>simp only[reduceCtorEq]at l;rename_i el;obtain⟨sz,J,l⟩:=bind_some l;obtain⟨K,Ae,l⟩:=bind_some l;obtain⟨L,FC,l⟩:=bind_some l;cases l;have hx:=H x K (by simp[ho,Op.operands,Call.operands]) Ae;have q:=H y L (by simp[ho,Op.operands,Call.operands]) FC;unfold bq.run at f;dsimp only at f;obtain⟨n,M,z⟩:=bind_some f;clear f;have f:=z;clear z;have hl:=vG (w:=w) q M;generalize K.ev e=vx at *;generalize gf:a.eval x=ax at *;generalize sL:a.eval y=N at *;have O:∀ {r:Value}{w':World},(Builtin.copy_ #[t,u] o.type #[ax,N]).run c.P w = .ok r w'->(execOp a.eval o).run c.P w = .ok (.value r) w':=λh=>by
    simp only[execOp,ho,resolve,Sem.run_bind,Sem.run_pure,Result.andThen_ok,invoke,builtin,List.map_toArray,List.map_cons,List.map_nil,gf,sL,h]
   cases hx<;>try (cases f;done)
   case aq=>
    cases f;refine⟨.int .i64 0,w,μ,ι, .inl (O ?_),I,Ext.refl _ _ _ _, .int _ _,Kept.refl _ _⟩;obtain⟨d,h1,_⟩:∃ d,(Builtin.firstCells sz 0 N).run c.P w = .ok d w/\True:=by
     generalize R:L.ev e=vy at *;cases q<;>simp only[o8,reduceCtorEq]at M<;>first
      | exact⟨_,by simp[Builtin.firstCells];rfl,trivial⟩
      | exact⟨#[],by simp[Builtin.firstCells,loadCells,loadCellsFrom],trivial⟩
    simp only[Builtin.copy_];simp[ru B,hl,wT J,h1,goInt]
   case aE =>
    rename_i id off len S cap p m D ia pM tT;dsimp only at f;obtain⟨new,dA,z⟩:=bind_some f;clear f;have f:=z;clear z;split at f
    ·rename_i cs T;split at f
     ·rename_i hb;obtain⟨BX,kH⟩:=hb;subst BX;simp only[Option.some.injEq,Prod.mk.injEq]at f;obtain⟨rfl,rfl⟩:=f;obtain⟨d,Z5,U,A,E⟩:=nH (P:=c.P) I q dA;obtain⟨_,k1,k2,k3,_,_,_⟩:=I.dR id _ p T D;have uF:min n len<=len:=Nat.min_le_right _ _;have V:min n len*S<=len*S:=Nat.mul_le_mul_right _ uF;have C:d.toList.length=new.length:=by simpa using U.1
      have X:∀ {j},j<new.length->m=off:=fun {j} g=>tT (by
       rintro rfl;have:len=0:=by omega
       subst this;rw[E]at g;simp at g)
      have Y:∀ j,d.toList.getD j undef=d.getD j undef:=λj=>by simp[gD,gF]
      obtain⟨w',nQ,W⟩:=gi (P:=c.P) p.b (p.off+m) d.toList 0 w (λy q=>by
       obtain⟨j,g,rfl⟩:=List.getElem_of_mem q;have Z:j<d.size:=by simpa using g
       have:=A j Z;simpa[gF,Z] using this) (λj g=>by
       rw[C]at g;obtain⟨u,hu,_⟩:=k2 (off+j) om;exact⟨u,by rw[<- hu,X g];congr 2;omega⟩) (λj g=>by
       rw[C]at g;exact k3 _)
      rw[Nat.add_zero]at W;have W':uZ p.b (p.off+off) d.toList w w':=by
       by_cases h0:new.length=0
       ·have C8:d.toList=[]:=List.length_eq_zero_iff.1 (by rw[C,h0]);rw[C8]at W ⊢;exact⟨W.os,W.tape,W.output,W.size,W.block,λi hi=>absurd hi (Nat.not_lt_zero _),λa _=>W.yD a (by simp;omega),W.frozen,W.shape⟩
       ·have:=X (j:=0) om;subst this;exact W
      obtain⟨I',x'⟩:=I.write T D new d.toList C om (λj g=>by rw[Y];exact U.2 j g) (λj g=>by rw[Y];exact A j (by simpa using g)) W';refine⟨.int .i64 (min n len:Nat),w',μ,ι, .inl (O ?_),I',x', .int _ _,Kept.put D _⟩;have F:=Z5 w (cZ.refl w);simp only[Builtin.copy_];simp[ru B,hl,wT J,Yi,F,goInt,nQ]
     ·cases f
    ·cases f
theorem Yd {x:Operand}{t:TypeId}(ho:o.op = .call { callee:=.builtin .clear,args:=#[x],argTypes:=#[t] }) (I:Inv cmp w0 μ ι δ s w) (S:Ho μ ι w c e a o) {lo:bq}(l:oR c x t=some lo)
 (d:lo.run e s=some (v,s')):sP cmp w0 μ ι δ s w c.P a o v s':=by
 unfold oR at l;cases A:c.P.underlying t with
 | none=>simp[A]at l
 | some T =>
   rw[A]at l;cases T<;>simp only[reduceCtorEq]at l;rename_i U;obtain⟨sz,kO,l⟩:=bind_some l;obtain⟨z,V,l⟩:=bind_some l;obtain⟨J,X,l⟩:=bind_some l;cases l;have hx:=S x J (by simp[ho,Op.operands,Call.operands]) X;unfold bq.run at d;dsimp only at d;generalize J.ev e=vx at *;generalize Y:a.eval x=Z at *;have C:∀ {r:Value}{w':World},(Builtin.clear_ #[t] o.type #[Z]).run c.P w = .ok r w'->(execOp a.eval o).run c.P w = .ok (.value r) w':=λh=>by
    simp only[execOp,ho,resolve,Sem.run_bind,Sem.run_pure,Result.andThen_ok,invoke,builtin,List.map_toArray,List.map_cons,List.map_nil,Y,h]
   cases hx<;>try (cases d;done)
   case aq=>
    cases d;refine⟨.tuple #[],w,μ,ι, .inl (C ?_),I,Ext.refl _ _ _ _, .cE rfl (λi n=>absurd n (Nat.not_lt_zero i)),Kept.refl _ _⟩;simp only[Builtin.clear_];simp[ru A]
   case zs=>
    cases d;refine⟨.tuple #[],w,μ,ι, .inl (C ?_),I,Ext.refl _ _ _ _, .cE rfl (λi n=>absurd n (Nat.not_lt_zero i)),Kept.refl _ _⟩;simp only[Builtin.clear_];simp[ru A]
   case aE =>
    rename_i id off len es cap p m E ia pM tT;dsimp only at d;cases len with
    | zero=>
      cases d;refine⟨.tuple #[],w,μ,ι, .inl (C ?_),I,Ext.refl _ _ _ _, .cE rfl (λi n=>absurd n (Nat.not_lt_zero i)),Kept.refl _ _⟩;simp only[Builtin.clear_];simp[ru A]
    | succ len=>
      rw[if_neg om]at d;split at d
      ·rename_i cs K;split at d
       ·rename_i hb;obtain⟨BX,Gx,kH⟩:=hb;subst BX;simp only[Option.some.injEq,Prod.mk.injEq]at d;obtain⟨rfl,rfl⟩:=d;obtain rfl:m=off:=tT om;obtain⟨F,Kv,D,Nx⟩:=nC (μ:=μ) (ι:=ι) (w:=w) V;have Uy:=D.one (by simpa using Nx);have L:Ra μ ι w (rep (len+1) z) (Builtin.zeroCells F.cells (len+1)):=by
         refine⟨by rw[dF,eP,D.1],λj f=>?_⟩;rw[eP]at f;by_cases Fj:z.length=0
         ·rw[Fj]at f;simp at f
         ·have:=(mM (μ:=μ) (ι:=ι) (w:=w) D om (len+1) (len+1) (Nat.le_refl _)).2 j f;simpa[Builtin.zeroCells,D.1] using this
        have M:=eM Uy (len+1);obtain⟨_,k1,k2,k3,_,_,_⟩:=I.dR id _ p K E;generalize dA:rep (len+1) z=new at *;generalize q:Builtin.zeroCells F.cells (len+1)=g at *;have H:g.toList.length=new.length:=by simpa using L.1
        have N:new.length=(len+1)*es:=by rw[<- dA,eP,Gx]
        have O:∀ j,g.toList.getD j undef=g.getD j undef:=λj=>by simp[gD,gF]
        obtain⟨w',nQ,W⟩:=gi (P:=c.P) p.b (p.off+m) g.toList 0 w (λy hy=>by
         obtain⟨j,f,rfl⟩:=List.getElem_of_mem hy;have R:j<g.size:=by simpa using f
         have:=M j R;simpa[gF,R] using this) (λj f=>by
         rw[H,N]at f;obtain⟨u,hu,_⟩:=k2 (m+j) om;exact⟨u,by rw[<- hu];congr 2;omega⟩) (λj f=>by
         rw[H,N]at f;exact k3 _)
        rw[Nat.add_zero]at W;obtain⟨I',x'⟩:=I.write K E new g.toList H om (λj f=>by rw[O];exact L.2 j f) (λj f=>by rw[O];exact M j (by simpa using f)) W;refine⟨.tuple #[],w',μ,ι, .inl (C ?_),I',x', .cE rfl (λi n=>absurd n (Nat.not_lt_zero i)),Kept.put E _⟩;have B:(zeroValue U).run c.P w = .ok F w:=Kv;simp only[Builtin.clear_];simp[ru A,B,q,nQ]
       ·cases d
      ·cases d
theorem EM {lo:bq}(d:bH c o=some lo) (p:Ho μ ι w c e a o) (I:Inv cmp w0 μ ι δ s w) (g:lo.run e s=some (v,s')):sP cmp w0 μ ι δ s w c.P a o v s':=by
 cases j:CW lo with
 | true=>exact LW j d p I g
 | false=>
 by_cases hl:Op.looks o.op=true
 ·obtain⟨rfl,h⟩:=HT hl d p I j g;exact Kc I h
 ·by_cases hm:Op.makes o.op=true
  ·by_cases q:lX lo=true
   ·exact Yc I hm q d p g
   ·cases ho:o.op<;>rw[ho]at hm<;>(try (cases hm;done))<;>have S:=d<;>simp only[bH,ho]at d
    case alloc t=>obtain⟨z,D,d⟩:=bind_some d;cases d;exact absurd rfl q
    case box t x=>
     obtain⟨y,F,d⟩:=bind_some d;cases d;cases H:XC c o<;>rw[H]at g q
     ·exact absurd rfl q
     ·exact Ye ho I p F g
    case buildSlice t len ps=>
     cases r:c.P.underlying t with
     | none=>simp[r]at d
     | some C=>
       rw[r]at d;cases C<;>simp only[reduceCtorEq]at d;obtain⟨T,U,d⟩:=bind_some d;obtain⟨z,D,d⟩:=bind_some d;split at d
       ·cases d
       ·obtain⟨ls,V,d⟩:=bind_some d;cases d;exact absurd rfl q
    case makeSlice t l k=>
     cases r:c.P.underlying t with
     | none=>simp[r]at d
     | some C=>
       rw[r]at d;cases C<;>simp only[reduceCtorEq]at d;obtain⟨i,X,d⟩:=bind_some d;obtain⟨z,D,d⟩:=bind_some d;split at d
       ·cases d
       ·obtain⟨Y,Z,d⟩:=bind_some d;obtain⟨lk,J,d⟩:=bind_some d;cases d;exact absurd rfl q
  ·cases ho:o.op<;>rw[ho]at hl hm<;>simp only[Op.looks,Op.makes,not_true_eq_false]at hl hm<;>(try (simp only[bH,ho,reduceCtorEq]at d;done))<;>simp only[bH,ho]at d
   case range t x=>
    exfalso;split at d
    ·obtain⟨_,_,d⟩:=bind_some d;cases d;cases j
    ·cases d
   case entry x=>
    exfalso;obtain⟨_,_,rfl⟩:=cX d;cases j
   case next x b=>
    exfalso;cases b<;>simp only[reduceCtorEq]at d;obtain⟨_,_,rfl⟩:=cX d;cases g
   case makeMap t x=>
    exfalso;split at d
    ·obtain⟨_,_,d⟩:=bind_some d;cases d;cases j
    ·cases d
   case lookup t m k ok=>
    exfalso;split at d
    ·obtain⟨_,_,d⟩:=bind_some d;obtain⟨_,_,d⟩:=bind_some d;obtain⟨_,_,d⟩:=bind_some d;obtain⟨_,_,d⟩:=bind_some d;obtain⟨_,_,d⟩:=bind_some d;cases d;cases j
    ·cases d
   case mapUpdate t m k x=>
    exfalso;split at d
    ·obtain⟨_,_,d⟩:=bind_some d;obtain⟨_,_,d⟩:=bind_some d;obtain⟨_,_,d⟩:=bind_some d;obtain⟨_,_,d⟩:=bind_some d;cases d;cases j
    ·cases d
   case insert t m k x=>
    exfalso;split at d
    ·obtain⟨_,_,d⟩:=bind_some d;obtain⟨_,_,d⟩:=bind_some d;obtain⟨_,_,d⟩:=bind_some d;obtain⟨_,_,d⟩:=bind_some d;cases d;cases j
    ·cases d
   case store t x y=>
    obtain⟨n,K,d⟩:=bind_some d;obtain⟨lx,L,d⟩:=bind_some d;obtain⟨ly,M,d⟩:=bind_some d;cases d;exact Pq ho I p K L M g
   case call cl=>
    obtain⟨N,as,A⟩:=cl;cases N<;>dsimp only at d<;>try (cases d;done)
    case value f=>
     obtain⟨lf,O,d⟩:=bind_some d;obtain⟨R,E,d⟩:=bind_some d;cases d;cases g
    case builtin b=>
     unfold eG at d;rcases has:as.toList with _ | ⟨x,_ | ⟨y,_ | ⟨z,xs⟩⟩⟩<;>rcases B:A.toList with _ | ⟨t,_ | ⟨u,_ | ⟨t3,tl⟩⟩⟩<;>rw[has,B]at d<;>cases b<;>(try (cases d;done))<;>(try (exact absurd rfl hl)) 
     case append=>
      have h1:as = #[x,y]:=by apply Array.ext';simpa using has
      have h2:A = #[t,u]:=by apply Array.ext';simpa using B
      subst h1;subst h2;exact LS ho I p j d g
     case copy=>
      have h1:as = #[x,y]:=by apply Array.ext';simpa using has
      have h2:A = #[t,u]:=by apply Array.ext';simpa using B
      subst h1;subst h2;exact T3 ho I p d g
     case clear=>
      have h1:as = #[x]:=by apply Array.ext';simpa using has
      have h2:A = #[t]:=by apply Array.ext';simpa using B
      subst h1;subst h2;exact Yd ho I p d g
     case cap=>
      exfalso;simp only at d;unfold rV at d;split at d
      ·obtain⟨_,_,d⟩:=bind_some d;cases d;cases j
      ·cases d
end
inductive Out where
  | normal
  | jmp (j:Dx)
def sM (P:Program) (G:List (Nat × List LV)):Nat->bx->Code->Prop:=λnt d c=>∃ refs,bA ⟨P,G,refs,nt⟩ c=d
abbrev bP:=List (Nat × List LV)
structure Du (P:Program) (G:bP) (w0:Bs) (μ:Mu) (ι:Io) (δ:Nat->Prop) (s:St) (w:World):Prop where
  inv:Inv (sM P G) w0 μ ι δ s w
  RJ:∀ x∈G,Rv μ ι w (.aY x.2 0) (.pointer (some ⟨x.1,0,none⟩))
  /-- In a run that owns all it knows,no immutable cell is a part of a string. -/
  own:CF G=true->∀ b o,w0.κ b o->jc w0.w b∨∃ x∈G,b=x.1/\o<x.2.length
structure Fr (P:Program) (G:bP) (w0:Bs) (μ:Mu) (ι:Io) (δ:Nat->Prop) (s:St) (w:World) (nt:Nat) (e:Env) (a:Act):Prop where
  now:Du P G w0 μ ι δ s w
  re:Re μ ι w e a.tmps
  size:a.tmps.size=nt
def mark (r:Nat):Deferred:={ target:=.collected r,args:=#[] }
structure sO (μ:Mu) (ι:Io) (δ:Nat->Prop) (s:St) (w:World) (ds:List Deferred) (b8:Mu) (ck:Io) (mI:Nat->Prop) (s':St) (w':World) (ds':List Deferred):Prop where
  ext:Ext μ ι δ w b8 ck mI w'
  kept:Kept μ s b8 s'
  marks:∃ rs:List Nat,ds'=rs.map mark++ds/\rs.Nodup/\(∀ r∈rs,¬ δ r)/\∀ r,mI r↔δ r∨r∈rs
theorem sO.refl {μ:Mu}{ι:Io}{δ:Nat->Prop}{s:St}{w:World}{ds:List Deferred} : sO μ ι δ s w ds μ ι δ s w ds:=
 ⟨Ext.refl _ _ _ _,Kept.refl _ _,[],rfl,List.nodup_nil,λ_ h=>absurd h (List.not_mem_nil),λr=>by simp⟩
theorem sO.trans {μ b8 j:Mu}{ι ck l:Io}{δ m n:Nat->Prop}{s s' p:St}{w w' q:World}{ds f d:List Deferred}
 (h:sO μ ι δ s w ds b8 ck m s' w' f) (k:sO b8 ck m s' w' f j l n p q d):sO μ ι δ s w ds j l n p q d:=by
 obtain⟨r1,a1,t,c1,d1⟩:=h.marks;obtain⟨r2,a2,b2,c2,d2⟩:=k.marks;refine⟨h.ext.trans k.ext,h.kept.trans k.kept,r2++r1,by rw[a2,a1];simp,?_,λr g=>?_,λr=>?_⟩
 ·refine List.nodup_append.2 ⟨b2,t,λx hx y u e=>?_⟩;subst e;exact c2 x hx ((d1 x).2 (.inr u))
 ·rcases List.mem_append.1 g with g | g
  ·exact λz=>c2 r g ((d1 r).2 (.inl z))
  ·exact c1 r g
 ·rw[d2,d1,List.mem_append];constructor
  ·rintro ((h | h) | h)<;>simp[h]
  ·rintro (h | h | h)<;>simp[h]
theorem sO.one {μ b8:Mu}{ι ck:Io}{δ:Nat->Prop}{s s':St}{w w':World}{ds:List Deferred}(x:Ext μ ι δ w b8 ck δ w') (k:Kept μ s b8 s'):sO μ ι δ s w ds b8 ck δ s' w' ds:=
 ⟨x,k,[],rfl,List.nodup_nil,λ_ h=>absurd h (List.not_mem_nil),λr=>by simp⟩
section
variable {P:Program}{G:bP}
theorem Du.ext {w0:Bs}{μ b8:Mu}{ι ck:Io}{δ d:Nat->Prop}{s s':St}{w w':World}(h:Du P G w0 μ ι δ s w) (I:Inv (sM P G) w0 b8 ck d s' w') (x:Ext μ ι δ w b8 ck d w'):Du P G w0 b8 ck d s' w' :=
 ⟨I,λg f=>(h.RJ g f).ext x,h.own⟩
def VU (P:Program) (m:Machine) (b:Frame) (a:Act) (k:List Item) (cs:List Frame) (w:World):Out->Prop
 | .normal=>Steps P m (lone (b.atR a k) cs w)
 | .jmp .ret=>∃ d,Steps P m (lone (b.atR a (.code .ret::d)) cs w)
 | .jmp (.exit id)=>∃ d,exitTo id d=exitTo id k/\Steps P m (lone (b.atR a (.code (.exit id)::d)) cs w)
theorem VU.head {m m':Machine}{b:Frame}{a:Act}{k:List Item}{cs:List Frame}{w:World}{o:Out}(h:Steps P m m') (d:VU P m' b a k cs w o):VU P m b a k cs w o:=by
 rcases o with _ | _ | id
 ·exact Steps.trans h d
 ·obtain⟨f,d⟩:=d;exact⟨f,Steps.trans h d⟩
 ·obtain⟨f,g,d⟩:=d;exact⟨f,g,Steps.trans h d⟩
def aX (P:Program) (G:bP) (rd:Bool) (nt:Nat) (h:bx) (e:Env) (s:St) (Q:Out->Env->St->Prop):Prop:=
 ∀ (c:Code),sM P G nt h c->∀ (w0:Bs) (μ:Mu) (ι:Io) (δ:Nat->Prop) (w:World) (b:Frame) (a:Act) (k:List Item) (cs:List Frame),
   b.roundOf.isSome=rd->Fr P G w0 μ ι δ s w nt e a ->
   ∃ o f s' b8 ck g w' d,Q o f s'/\VU P (lone (b.atR a (.code c::k)) cs w) b d k cs w' o/\Fr P G w0 b8 ck g s' w' nt f d /\
     sO μ ι δ s w a.defers b8 ck g s' w' d.defers
theorem aX.mono {rd:Bool}{nt:Nat}{d:bx}{e:Env}{s:St}{Q Q':Out->Env->St->Prop}(h:aX P G rd nt d e s Q) (f:∀ o e s,Q o e s->Q' o e s):aX P G rd nt d e s Q':=by
 intro c g w0 μ ι δ w b a k cs j l;obtain⟨o,m,s',b8,ck,n,w',p,q,r⟩:=h c g w0 μ ι δ w b a k cs j l;exact⟨o,m,s',b8,ck,n,w',p,f _ _ _ q,r⟩
section
variable {c:Ctx}
theorem M4 {x:Code}(h:bA c x = .skip):x = .skip∨∃ l,x = .label l:=by
 cases x<;>simp only[bA,reduceCtorEq]at h
 ·exact .inl rfl
 ·split at h<;>cases h
 ·split at h<;>cases h
 ·split at h<;>(try cases h);split at h<;>cases h
 ·exact .inr ⟨_,rfl⟩
theorem R8 {x:Code}{a b:bx}(h:bA c x = .seq a b):∃ y z,x = .seq y z/\bA c y=a/\bA c z=b:=by
 cases x<;>simp only[bA,reduceCtorEq]at h
 ·split at h<;>cases h
 ·cases h;exact⟨_,_,rfl,rfl,rfl⟩
 ·split at h<;>cases h
 ·split at h<;>(try cases h);split at h<;>cases h
theorem M7 {x:Code}{y:bF}{a b:bx}(h:bA c x = .cond y a b):∃ t p q,x = .cond t p q/\cP c t=some y/\bA c p=a/\bA c q=b:=by
 cases x<;>simp only[bA,reduceCtorEq]at h
 ·split at h<;>cases h
 ·split at h
  ·rename_i d;cases h;exact⟨_,_,_,rfl,d,rfl,rfl⟩
  ·cases h
 ·split at h<;>(try cases h);split at h<;>cases h
theorem IY {x:Code}{id:Nat}{a:bx}(h:bA c x = .block id a):∃ y,x = .block id y/\bA c y=a:=by
 cases x<;>simp only[bA,reduceCtorEq]at h
 ·split at h<;>cases h
 ·split at h<;>cases h
 ·cases h;exact⟨_,rfl,rfl⟩
 ·split at h<;>(try cases h);split at h<;>cases h
theorem M5 {x:Code}{a:bx}(h:bA c x = .loop a):∃ y,x = .loop y/\bA c y=a:=by
 cases x<;>simp only[bA,reduceCtorEq]at h
 ·split at h<;>cases h
 ·split at h<;>cases h
 ·cases h;exact⟨_,rfl,rfl⟩
 ·split at h<;>(try cases h);split at h<;>cases h
theorem IX {x:Code}{a:bx}(h:bA c x = .scope a):∃ y,x = .scope y/\bA c y=a:=by
 cases x<;>simp only[bA,reduceCtorEq]at h
 ·split at h<;>cases h
 ·split at h<;>cases h
 ·split at h<;>(try cases h);split at h<;>cases h
 ·cases h;exact⟨_,rfl,rfl⟩
theorem M6 {x:Code}{id:Nat}(h:bA c x = .exit id):x = .exit id:=by
 cases x<;>simp only[bA,reduceCtorEq]at h
 ·split at h<;>cases h
 ·split at h<;>cases h
 ·split at h<;>(try cases h);split at h<;>cases h
 ·cases h;rfl
theorem R9 {x:Code}(h:bA c x = .ret):x = .ret:=by
 cases x<;>simp only[bA,reduceCtorEq]at h
 ·split at h<;>cases h
 ·split at h<;>cases h
 ·split at h<;>(try cases h);split at h<;>cases h
 ·rfl
end
section
variable {rd:Bool}{nt:Nat}{e:Env}{s:St}{Q:Out->Env->St->Prop}
theorem Ka (h:Q .normal e s):aX P G rd nt .skip e s Q:=by
 rintro c ⟨refs,d⟩ w0 μ ι δ w b a k cs g f;refine⟨.normal,e,s,μ,ι,δ,w,a,h,?_,f,sO.refl⟩;rcases M4 d with rfl | ⟨l,rfl⟩
 ·exact .one stepR_skip
 ·exact .one stepR_label
theorem Ke {id:Nat}(h:Q (.jmp (.exit id)) e s):aX P G rd nt (.exit id) e s Q:=by
 rintro c ⟨refs,d⟩ w0 μ ι δ w b a k cs g f;obtain rfl:=M6 d;exact⟨.jmp (.exit id),e,s,μ,ι,δ,w,a,h,⟨k,rfl, .refl _ _⟩,f,sO.refl⟩
theorem Pu (h:Q (.jmp .ret) e s):aX P G rd nt .ret e s Q:=by
 rintro c ⟨refs,d⟩ w0 μ ι δ w b a k cs g f;obtain rfl:=R9 d;exact⟨.jmp .ret,e,s,μ,ι,δ,w,a,h,⟨k, .refl _ _⟩,f,sO.refl⟩
def Cg (R:Env->St->Prop) (Q:Out->Env->St->Prop):Out->Env->St->Prop
 | .normal,e,s=>R e s
 | .jmp j,e,s=>Q (.jmp j) e s
theorem Pr {x y:bx}(h:aX P G rd nt x e s (Cg (λe s=>aX P G rd nt y e s Q) Q)):aX P G rd nt (.seq x y) e s Q:=by
 rintro c ⟨refs,z⟩ w0 μ ι δ w b a k cs t A;obtain⟨c1,c2,rfl,h1,h2⟩:=R8 z;obtain⟨o,u,s1,f,g,j,l,a1,q,d,m,n⟩:=h c1 ⟨refs,h1⟩ w0 μ ι δ w b a (.code c2::k) cs t A;rcases o with _ | _ | id
 ·obtain⟨o,B,s2,C,D,p,E,a2,F,H,I,J⟩:=q c2 ⟨refs,h2⟩ w0 f g j l b a1 k cs t m;exact⟨o,B,s2,C,D,p,E,a2,F,VU.head (.head stepR_seq d) H,I,n.trans J⟩
 ·obtain⟨r,d⟩:=d;exact⟨_,u,s1,f,g,j,l,a1,q,⟨r, .head stepR_seq d⟩,m,n⟩
 ·obtain⟨r,K,d⟩:=d;exact⟨_,u,s1,f,g,j,l,a1,q,⟨r,K, .head stepR_seq d⟩,m,n⟩
theorem CG {c:Ctx}{w0:Bs}{μ:Mu}{ι:Io}{δ:Nat->Prop}{w:World}{a:Act}(_hP:c.P=P) (l:c.wJ=G) (m:Du P G w0 μ ι δ s w) {x:Operand}{y:bF}(h:cP c x=some y)
 (n:∀ t,x = .tmp t->Rv μ ι w (e.at t) (a.tmps.getD t undef)):Rv μ ι w (y.ev e) (a.eval x):=by
 cases x with
 | tmp t=>cases h;have:=n t rfl;simpa[Act.eval] using this
 | const v=>
   simp only[cP,Option.map_eq_some_iff]at h;obtain⟨z,d,rfl⟩:=h;exact nF d
 | global g=>
   simp only[cP,Option.map_eq_some_iff]at h;obtain⟨z,d,rfl⟩:=h;obtain⟨h1,h2⟩:=List.find?_eq_some_iff_append.1 d;have hm:z∈G:=by rw[<- l];exact List.mem_of_find?_eq_some d
   have:=m.RJ z hm;have p:z.1=g:=by simpa using h1
   rw[p]at this;exact this
 | func f=>cases h;exact .fn rfl rfl (λi j=>absurd j (Nat.not_lt_zero _)) (λi j=>absurd j (Nat.not_lt_zero _))
theorem CH {y:bF}{t:Bool}{p q:bx}(j:y.ev e = .bool t) (h:aX P G rd nt (if t then p else q) e s Q):aX P G rd nt (.cond y p q) e s Q:=by
 rintro c ⟨refs,l⟩ w0 μ ι δ w b a k cs m d;obtain⟨x,c1,c2,rfl,hx,h1,h2⟩:=M7 l;have f:=CG (c:=⟨P,G,refs,nt⟩) rfl rfl d.now hx (λt _=>d.re t);rw[j]at f;have g:a.eval x = .bool t:=by generalize a.eval x=z at f;cases f;rfl
 obtain⟨o,n,s1,r,u,A,B,a1,q,C,D,E⟩:=h (if t then c1 else c2) ⟨refs,by cases t<;>simpa⟩ w0 μ ι δ w b a k cs m d;exact⟨o,n,s1,r,u,A,B,a1,q,VU.head (.one (stepR_cond g)) C,D,E⟩
theorem EN {x:bx}(h:aX P G rd nt x e s Q):aX P G rd nt (.scope x) e s Q:=by
 rintro c ⟨refs,t⟩ w0 μ ι δ w b a k cs u y;obtain⟨c1,rfl,h1⟩:=IX t;obtain⟨o,f,s1,g,j,l,m,a1,q,d,n,p⟩:=h c1 ⟨refs,h1⟩ w0 μ ι δ w b a (.inScope c1::k) cs u y;have h0:step P (lone (b.atR a (.code (.scope c1)::k)) cs w) = .next (lone (b.atR a (.code c1::.inScope c1::k)) cs w):=step_lone_go (by simp[stepG,stepG.exec,Frame.atR]);rcases o with _ | _ | id
 ·refine⟨_,f,s1,g,j,l,m,a1,q,Steps.head h0 (Steps.trans d (.one ?_)),n,p⟩;exact step_lone_go (by simp[stepG,stepG.exec,Frame.atR])
 ·obtain⟨r,d⟩:=d;exact⟨_,f,s1,g,j,l,m,a1,q,⟨r, .head h0 d⟩,n,p⟩
 ·obtain⟨r,z,d⟩:=d;exact⟨_,f,s1,g,j,l,m,a1,q,⟨r,z, .head h0 d⟩,n,p⟩
def Dz (id:Nat) (Q:Out->Env->St->Prop):Out->Env->St->Prop
 | .jmp (.exit d),e,s=>if d=id then Q .normal e s else Q (.jmp (.exit d)) e s
 | o,e,s=>Q o e s
theorem EO {id:Nat}{x:bx}(h:aX P G rd nt x e s (Dz id Q)):aX P G rd nt (.block id x) e s Q:=by
 rintro c ⟨refs,y⟩ w0 μ ι δ w b a k cs z A;obtain⟨c1,rfl,h1⟩:=IY y;obtain⟨o,f,s1,g,j,l,m,a1,q,d,n,p⟩:=h c1 ⟨refs,h1⟩ w0 μ ι δ w b a (.inBlock id::k) cs z A;rcases o with _ | _ | B
 ·exact⟨_,f,s1,g,j,l,m,a1,q,Steps.head stepR_block (Steps.trans d (.one stepR_inBlock)),n,p⟩
 ·obtain⟨t,d⟩:=d;exact⟨_,f,s1,g,j,l,m,a1,q,⟨t, .head stepR_block d⟩,n,p⟩
 ·obtain⟨t,u,d⟩:=d;simp only[Dz]at q;by_cases r:B=id
  ·rw[if_pos r]at q;subst r;refine⟨.normal,f,s1,g,j,l,m,a1,q,Steps.head stepR_block (Steps.trans d (.one (stepR_exit ?_))),n,p⟩;rw[u];simp[exitTo]
  ·rw[if_neg r]at q;refine⟨_,f,s1,g,j,l,m,a1,q,⟨t,?_, .head stepR_block d⟩,n,p⟩;rw[u];simp[exitTo,Ne.symm r]
theorem vX {x:bx}(I:Nat->Env->St->Prop) (O:∀ n e s,I n e s->aX P G rd nt x e s (Cg (λe s=>∃ m,m<n/\I m e s) Q)) (n:Nat) (h:I n e s):aX P G rd nt (.loop x) e s Q:=by
 rintro c ⟨refs,U⟩ w0 μ ι δ w b a k cs R z;obtain⟨c1,rfl,h1⟩:=M5 U;have key:∀ n e s,I n e s->∀ (μ:Mu) (ι:Io) (δ:Nat->Prop) (w:World) (a:Act),Fr P G w0 μ ι δ s w nt e a->∃ o S s' b8 ck T w' A,Q o S s'/\o≠.normal /\
  VU P (lone (b.atR a (.inLoop c1::k)) cs w) b A k cs w' o/\Fr P G w0 b8 ck T s' w' nt S A/\sO μ ι δ s w a.defers b8 ck T s' w' A.defers:=by
  intro n;induction n using Nat.strongRecOn with
  | ind n ih=>
    intro e s B μ ι δ w a z;obtain⟨o,f,s1,g,j,l,p,a1,q,d,r,t⟩:=O n e s B c1 ⟨refs,h1⟩ w0 μ ι δ w b a (.inLoop c1::k) cs R z;rcases o with _ | _ | id
    ·obtain⟨m,hm,C⟩:=q;obtain⟨o,D,s2,E,F,u,H,a2,J,dB,K,L,M⟩:=ih m hm f s1 C g j l p a1 r;exact⟨o,D,s2,E,F,u,H,a2,J,dB,VU.head (.head stepR_inLoop d) K,L,t.trans M⟩
    ·obtain⟨y,d⟩:=d;exact⟨_,f,s1,g,j,l,p,a1,q,(by simp),⟨y, .head stepR_inLoop d⟩,r,t⟩
    ·obtain⟨y,N,d⟩:=d;exact⟨_,f,s1,g,j,l,p,a1,q,(by simp),⟨y,N, .head stepR_inLoop d⟩,r,t⟩
 obtain⟨o,f,s1,g,j,l,p,a1,q,d,r,t⟩:=O n e s h c1 ⟨refs,h1⟩ w0 μ ι δ w b a (.inLoop c1::k) cs R z;rcases o with _ | _ | id
 ·obtain⟨m,hm,C⟩:=q;obtain⟨o,D,s2,E,F,u,H,a2,J,dB,K,L,M⟩:=key m f s1 C g j l p a1 r;exact⟨o,D,s2,E,F,u,H,a2,J,VU.head (.head stepR_loop d) K,L,t.trans M⟩
 ·obtain⟨y,d⟩:=d;exact⟨_,f,s1,g,j,l,p,a1,q,⟨y, .head stepR_loop d⟩,r,t⟩
 ·obtain⟨y,N,d⟩:=d;exact⟨_,f,s1,g,j,l,p,a1,q,⟨y,N, .head stepR_loop d⟩,r,t⟩
end
end
section
variable {P:Program}{G:bP}{w0:Bs}{w:World}{μ:Mu}{ι:Io}{δ:Nat->Prop}{s:St}{c:Ctx}
theorem Bo {b:Nat}(h:jc w b):∃ cs t lo d,w.heap[b]? = some (.cells cs t (lo,d))/\∀ o,(decide (lo<=o) && decide (o<d))=false:=by
 obtain⟨⟨x,hx⟩,g⟩:=h;unfold World.shape? at hx;split at hx
 ·rename_i cs t j f;obtain⟨lo,d⟩:=j;refine⟨cs,t,lo,d,f,λo=>?_⟩;have:=g o;simpa[World.frozen?,f] using this
 ·cases hx
theorem tg {x y:Addr}(f:jc w x.block) (g:jc w y.block):(sameAddr x y).run P w = .ok (x == y) w:=by
 by_cases d:x.block=y.block
 ·simp[sameAddr,d]
 ·have dB:(x == y)=false:=by
   rw[beq_eq_false_iff_ne];rintro rfl;exact d rfl
  obtain⟨c1,l,l1,h1,h,f1⟩:=Bo f;obtain⟨c2,m,l2,h2,j,f2⟩:=Bo g;rw[dB];simp[sameAddr,d,World.frozen?,h,j,f1,f2,noView,viewAt,World.shape?,mayBeOne,stringish]
theorem Ce:∀ (l d:List LV),(∀ i,i<l.length->i<d.length->agree (l.getD i .top) (d.getD i .top)=true)->agree.vL l d=true:=by
 intro l;induction l with
 | nil=>intro d _;cases d<;>rfl
 | cons a l ih=>
   intro d h;cases d with
   | nil=>rfl
   | cons b d =>
     simp only[agree.vL,Bool.and_eq_true];exact⟨by simpa using h 0 (by simp) (by simp),ih d λi h1 h2=>by simpa using h (i+1) (by simpa using h1) (by simpa using h2)⟩
theorem Sp {a:LV}{v:Value}(j:Rv μ ι w a v):∀ {b:LV},Rv μ ι w b v->agree a b=true:=by
 induction j with
 | int k n=>intro b d;cases d<;>simp[agree]
 | str x=>intro b d;cases d<;>simp[agree]
 | bool x=>intro b d;cases d<;>simp[agree]
 | aq=>intro b d;cases d<;>simp[agree]
 | aF vs l r h1 h t ih=>
   rename_i cs len m o cap;intro b d;generalize g:Value.slice (some ⟨m,o,none⟩) len cap=v at d;cases d with
   | aF f p u y q z =>
     cases g;simp only[agree,Bool.and_eq_true,beq_self_eq_true,true_and];refine Ce _ _ λi h2 h3=>ih i h2 ?_;have e:vs i=f i:=Option.some.inj ((l i h2).symm.trans (p i h3));rw[e];exact q i h3
   | aq=>cases g
   | _=>rfl
 | _=>intro b _;cases b<;>rfl
theorem Du.plain (d:Du P G w0 μ ι δ s w) (ho:CF G=true) {b o:Nat}(f:ι b o):jc w b∨∃ x∈G,b=x.1/\o<x.2.length:=by
 by_cases j:w0.heap.size<=b
 ·exact .inl (d.inv.own b o f j)
 ·rcases d.own ho b o (d.inv.low b o f om) with⟨⟨x,hx⟩,l⟩ | h
  ·have g:=d.inv.below.block b om;refine .inl ⟨⟨x,?_⟩,λo=>?_⟩
   ·unfold World.shape? at hx ⊢;rw[g];exact hx
   ·have:=l o;unfold World.frozen? at this ⊢;dsimp only at this ⊢;rw[g];exact this
  ·exact .inr h
theorem Du.Pg (p:Du P G w0 μ ι δ s w) (ho:CF G=true) {cs:List LV}{vs:Nat->Value}{b o:Nat}(z:∀ i,i<cs.length->w.cell? ⟨b,o+i,none⟩=some (vs i)) (A:∀ i,i<cs.length->ι b (o+i))
 (h:∀ i,i<cs.length->Rv μ ι w (cs.getD i .top) (vs i)) (hs:cs.any vH=true):jc w b:=by
 obtain⟨v,B,q⟩:=List.any_eq_true.1 hs;obtain⟨i,g,rfl⟩:=List.getElem_of_mem B;rcases p.plain ho (A i g) with h1 | ⟨x,hx,rfl,l⟩
 ·exact h1
 ·exfalso;have r:=p.RJ x hx;have t:CV (x.2.getD (o+i) .top)=true:=by
   unfold CF at ho;simp only[Bool.and_eq_true,List.all_eq_true]at ho;have:=ho.2 x hx (x.2[o+i]) (List.getElem_mem l);simpa[gD,l] using this
  generalize f:Value.pointer (some ⟨x.1,0,none⟩)=J at r;cases r with
  | aY C D K L E =>
    injection f with f
    injection f with f
    injection f with F M N
    subst F;have O:∀ j,w.cell? ⟨x.1,o+i,none⟩=w.cell? ⟨x.1,j+(o+i),none⟩->True:=λ_ _=>trivial;rename_i H;obtain rfl:H=0:=by omega
    have y:=D (o+i) l;rw[Nat.zero_add,z i g]at y;have m:=E (o+i) l;rw[<- Option.some.inj y]at m;have n:=h i g;have I:cs.getD i .top=cs[i]:=by simp[gD,g]
    rw[I]at n;generalize cs[i]=a at n q;generalize x.2.getD (o+i) .top=d at m t;generalize vs i=u at m n;cases m<;>simp[CV]at t<;>cases n<;>simp[vH]at q
end
def Goes (P:Program) (j:Value) (cx:Array Value) (w:World) (c:Frame) (cs:List Frame) (v:Value) (w':World):Prop:=
 ∃ d h g,(∀ w,(Deferred.ofValue j cx).run P w = .ok d w)/\(invoke d.target d.args).run P w = .ok h g /\
   match h with
   | .enter f as=>Steps P (lone (Frame.enter P f as .normal) (c::cs) g) (lone (c.finish v) cs w')
   | .round l f tmps as m=>Steps P (lone (Frame.round l f tmps as m .normal) (c::cs) g) (lone (c.finish v) cs w')
   | .value v'=>v'=v/\g=w'
   | _=>False
def aM (P:Program) (G:bP) (f:LV) (args:List LV) (s:St) (Q:LV->St->Prop):Prop:=
 ∀ (w0:Bs) (μ:Mu) (ι:Io) (δ:Nat->Prop) (w:World) (g:Value) (d:Array Value) (c:Frame) (cs:List Frame),Du P G w0 μ ι δ s w->Rv μ ι w f g->d.size=args.length->(∀ i,i<args.length->Rv μ ι w (args.getD i .top) (d.getD i undef)) ->
   ∃ lv s' b8 ck w' v,Q lv s'/\Goes P g d w c cs v w'/\Inv (sM P G) w0 b8 ck δ s' w'/\Ext μ ι δ w b8 ck δ w'/\Kept μ s b8 s'/\Rv b8 ck w' lv v
theorem aM.mono {P:Program}{G:bP}{f:LV}{args:List LV}{s:St}{Q Q':LV->St->Prop}(h:aM P G f args s Q) (d:∀ v s,Q v s->Q' v s):aM P G f args s Q':=by
 intro w0 μ ι δ w g j c cs l m hl n;obtain⟨lv,s',b8,ck,w',v,q,r⟩:=h w0 μ ι δ w g j c cs l m hl n;exact⟨lv,s',b8,ck,w',v,d _ _ q,r⟩
def dP (fl:Bool) (o:bq) (e:Env):Bool:=
 match o with
 | .box true x=>!fl || (x.ev e).closed
 | _=>true
def jJ (v:LV) (s:St) (R:LV->St->Prop):Prop:=
 match v with
 | .aO id 0=>
   match s.get id with
   | some (.iter none _ _ _)=>R (.cE [.bool false]) s
   | some (.iter (some m) g seen d) =>
     match s.get m with
     | some (.map f)=>(seen=[]∨0<d) /\
      (∀ i,i<f.length->i ∉ seen->R (.cE [.bool true,(f.getD i default).1,(f.getD i default).2]) (s.put id (.iter (some m) g (seen++[i]) f.length))) /\
      ((∀ i,i<g->i<f.length->i∈seen)->R (.cE [.bool false]) s)
     | _=>False
   | _=>False
 | _=>False
theorem jJ.mono {v:LV}{s:St}{R f:LV->St->Prop}(h:jJ v s R) (d:∀ v s,R v s->f v s):jJ v s f:=by
 unfold jJ at *;split at h
 ·split at h
  ·exact d _ _ h
  ·split at h
   ·exact⟨h.1,λi g j=>d _ _ (h.2.1 i g j),λl=>d _ _ (h.2.2 l)⟩
   ·exact h.elim
  ·exact h.elim
 ·exact h.elim
def pE (G:bP) (neg:Bool) (x y:LV) (s:St) (R:LV->St->Prop):Prop:=
 match x,y with
 | .aY cs o, .aY d f=>CF G=true/\cs.any vH=true/\d.any vH=true/\R (.bool neg) s/\(agree.vL (cs.drop o) (d.drop f)=true->R (.bool (!neg)) s)
 | .eS, .aY _ _=>R (.bool neg) s
 | .aY _ _, .eS=>R (.bool neg) s
 | .eS, .eS=>R (.bool (!neg)) s
 | _,_=>False
theorem pE.mono {G:bP}{neg:Bool}{x y:LV}{s:St}{R f:LV->St->Prop}(h:pE G neg x y s R) (d:∀ v s,R v s->f v s):pE G neg x y s f:=by
 unfold pE at h ⊢;split at h
 ·exact⟨h.1,h.2.1,h.2.2.1,d _ _ h.2.2.2.1,λg=>d _ _ (h.2.2.2.2 g)⟩
 ·exact d _ _ h
 ·exact d _ _ h
 ·exact d _ _ h
 ·exact h.elim
def pJ (P:Program) (G:bP) (fl:Bool) (o:bq) (e:Env) (s:St) (R:LV->St->Prop):Prop:=
 match o with
 | .call f as=>aM P G (f.ev e) (as.map (·.ev e)) s R
 | .kN x=>jJ (x.ev e) s R
 | .RX n x y=>pE G n (x.ev e) (y.ev e) s R
 | o=>match o.run e s with
   | some (v,s')=>dP fl o e=true/\R v s'
   | none=>False
def dG:List (Nat × Option (Nat × Bool) × bq)->Env->St->Prop
 | [],_,_=>True
 | (t,g,o)::r,e,s=>(aK g e=some false∨(aK g e=some true/\o.run e s=some (e.at t,s)))/\dG r e s
def dL (P:Program) (G:bP):List bC->Env->St->(Env->St->Prop)->Prop
 | [],e,s,K=>K e s
 | o::l,e,s,K=>
   match aK o.guard e with
   | none=>False
   | some false=>dL P G l (e.put o.dst (.cE [])) s K
   | some true=>pJ P G o.fl o.op e s (λv s'=>dG o.jT (e.put o.dst v) s'/\dL P G l (e.put o.dst v) s' K)
section
variable {P:Program}{G:bP}{w0:Bs}{μ b8:Mu}{ι ck:Io}{δ:Nat->Prop}{s s':St}{w w':World}{c:Ctx}{e:Env}{a:Act}{b:Frame}{k:List Item}{cs:List Frame}{ops:Array Oper}{o:Oper}{i:Nat}{rest:List Nat}{lo:bC}
def jN:bq->Bool
 | .call .. | .kN _ | .RX .. => true
 | _=>false
theorem xq {fl:Bool}{lo:bq}{R:LV->St->Prop}(h:jN lo=false):pJ P G fl lo e s R=(match lo.run e s with | some (v,s')=>dP fl lo e=true/\R v s' | none=>False):=by
 cases lo<;>first | rfl | cases h
theorem kj {lo:bq}(h:jN lo=true):(∃ f as,lo = .call f as)∨(∃ x,lo = .kN x)∨∃ n x y,lo = .RX n x y:=by
 cases lo<;>first | exact .inl ⟨_,_,rfl⟩ | exact .inr (.inl ⟨_,rfl⟩) | exact .inr (.inr ⟨_,_,_,rfl⟩) | cases h
theorem yw {fl:Bool}{lo:bq}{R:LV->St->Prop}(h:pJ P G fl lo e s R) (f:jN lo=false):∃ v s',lo.run e s=some (v,s')/\dP fl lo e=true/\R v s':=by
 rw[xq f]at h;cases d:lo.run e s with
 | none=>rw[d]at h;exact h.elim
 | some p=>rw[d]at h;exact⟨p.1,p.2,rfl,h.1,h.2⟩
theorem pJ.mono {fl:Bool}{lo:bq}{R j:LV->St->Prop}(h:pJ P G fl lo e s R) (d:∀ v s,R v s->j v s):pJ P G fl lo e s j:=by
 cases g:jN lo with
 | true=>
   rcases kj g with⟨f,as,rfl⟩ | ⟨x,rfl⟩ | ⟨n,x,y,rfl⟩
   ·exact aM.mono h d
   ·exact jJ.mono h d
   ·exact pE.mono h d
 | false=>
   obtain⟨v,s',h1,h2,h3⟩:=yw h g;rw[xq g,h1];exact⟨h2,d _ _ h3⟩
theorem dL.mono {K d:Env->St->Prop}(g:∀ e s,K e s->d e s):∀ {l:List bC}{e:Env}{s:St},dL P G l e s K->dL P G l e s d:=by
 intro l;induction l with
 | nil=>intro e s h;exact g _ _ h
 | cons o l ih=>
   intro e s h;simp only[dL]at h ⊢;split at h
   ·exact h.elim
   ·exact ih h
   ·exact h.mono λv s f=>⟨f.1,ih f.2⟩
theorem gR (h:dZ c ops o=some lo):bH c o=some lo.op/\lo.dst=o.dst/\(∀ d,o.dst=some d->d<c.nt) /\
 (match o.guard with | none=>lo.guard=none | some (j,l)=>∃ d,(ops[j]?).bind (·.dst)=some d/\lo.guard=some (d,l)):=by
 unfold dZ at h;obtain⟨op,p,h⟩:=bind_some h;refine⟨?_,?_⟩
 ·rw[p];congr 1;cases m:o.dst<;>simp only[m]at h
  ·cases g:o.guard<;>simp only[g]at h
   ·simp at h;exact h ▸ rfl
   ·obtain⟨d,f,h⟩:=bind_some h;cases h;rfl
  ·split at h
   ·cases g:o.guard<;>simp only[g]at h
    ·simp at h;exact h ▸ rfl
    ·obtain⟨d,f,h⟩:=bind_some h;cases h;rfl
   ·simp at h
 ·cases m:o.dst<;>simp only[m]at h
  ·cases g:o.guard<;>simp only[g]at h
   ·simp at h;subst h;exact⟨rfl,λd f=>by (cases f),rfl⟩
   ·obtain⟨d,f,h⟩:=bind_some h;cases h;exact⟨rfl,λd f=>by (cases f),d,f,rfl⟩
  ·split at h
   ·rename_i n;cases g:o.guard<;>simp only[g]at h
    ·simp at h;subst h;exact⟨rfl,λd f=>by (cases f;exact n),rfl⟩
    ·obtain⟨d,f,h⟩:=bind_some h;cases h;exact⟨rfl,λd f=>by (cases f;exact n),d,f,rfl⟩
   ·simp at h
theorem ot {t:Bool}(u:dZ c ops o=some lo) (h:aK lo.guard e=some t) (y:∀ d f,lo.guard=some (d,f)->Rv μ ι w (e.at d) (a.tmps.getD d undef)) :
 Region.wanted o (yielded ops a.tmps)=t:=by
 obtain⟨_,_,_,g⟩:=gR u;unfold Region.wanted;cases ho:o.guard with
 | none=>
   rw[ho]at g;have q:lo.guard=none:=g;rw[q]at h;cases h;rfl
 | some p=>
   obtain⟨j,f⟩:=p;rw[ho]at g;obtain⟨d,z,g⟩:=g;have m:=y d f g;rw[g]at h;simp only[aK]at h;simp only[yielded,z,Option.bind_some];cases A:e.at d<;>rw[A]at h m<;>simp only[reduceCtorEq]at h
   ·rename_i l;have n:a.tmps[d]? = some (.bool l):=by
     generalize hx:a.tmps.getD d undef=x at m;cases m;by_cases r:d<a.tmps.size
     ·simpa[gF,r] using hx
     ·simp[gF,r,undef]at hx
    rw[n];simpa using h
   ·have n:∀ l,a.tmps[d]? ≠ some (.bool l):=by
     intro l n;have:a.tmps.getD d undef = .bool l:=by simp[gF,n]
     rw[this]at m;cases m
    have B:t=false:=by simpa using h.symm
    subst B;split
    ·rename_i l C;exact absurd C (n l)
    ·simp
theorem qg {lo:bq}(h:bH c o=some lo):∀ x,o.op≠.defer x:=by
 intro x hx;simp[bH,hx]at h
theorem iB {x:Value}(ho:ops[i]? = some o) (h:Region.wanted o (yielded ops a.tmps)=true) (j:∀ x,o.op≠.defer x)
 (d:(execOp a.eval o).run P w = .ok (.value x) w'∨((execOp a.eval o).run P w = .ok .skip w'/\x=undef)) :
 step P (lone (b.atR a (.inRegion ops (i::rest)::k)) cs w) = .next (lone (b.atR (a.put o.dst x) (.inRegion ops rest::k)) cs w'):=by
 have f:=stepGR_op (P:=P) (b:=b) (k:=k) (cs:=cs) (w:=w) (rest:=rest) ho h;rw[Oper.semAt_eq _ _ _ j]at f;have g:∀ x,(b.atR a (.inRegion ops (i::rest)::k)).finish x=b.atR (a.put o.dst x) (.inRegion ops rest::k):=λx=>by
  rw[Frame.finish_atR,ho];rfl
 refine step_lone_go ?_;rw[f];rcases d with d | ⟨d,rfl⟩
 ·simp[stepG.apply,Sem.runT_eq,d,g]
 ·simp[stepG.apply,Sem.runT_eq,d,g]
theorem He {v:Value}{f:Operand}{as:Array Operand}{y:Array TypeId}(ho:ops[i]? = some o) (p:Region.wanted o (yielded ops a.tmps)=true)
 (q:o.op = .call { callee:=.value f,args:=as,argTypes:=y }) (z:Goes P (a.eval f) (as.map a.eval) w (b.atR a (.inRegion ops (i::rest)::k)) cs v w') :
 Steps P (lone (b.atR a (.inRegion ops (i::rest)::k)) cs w) (lone (b.atR (a.put o.dst v) (.inRegion ops rest::k)) cs w'):=by
 obtain⟨d,r,g,h1,h2,h3⟩:=z;have h:(execOp a.eval o).run P w = .ok r g:=by
  simp only[execOp,q,resolve,Sem.run_bind,h1,Result.andThen_ok,h2]
 have t:∀ x,o.op≠.defer x:=by intro x;rw[q];simp
 have j:=stepGR_op (P:=P) (b:=b) (k:=k) (cs:=cs) (w:=w) (rest:=rest) ho p;rw[Oper.semAt_eq _ _ _ t]at j;have u:∀ x,(b.atR a (.inRegion ops (i::rest)::k)).finish x=b.atR (a.put o.dst x) (.inRegion ops rest::k):=λx=>by
  rw[Frame.finish_atR,ho];rfl
 cases r<;>try (exact h3.elim)
 case value v' =>
  obtain⟨rfl,rfl⟩:=h3;exact .one (iB ho p t (.inl h))
 case enter m n =>
  refine .head (m₁:=lone (Frame.enter P m n .normal) (b.atR a (.inRegion ops (i::rest)::k)::cs) g) ?_ ?_
  ·refine step_lone_go ?_;rw[j];simp[stepG.apply,Sem.runT_eq,h,Frame.atR]
  ·have:=h3;dsimp only at this;rwa[u]at this
 case round l m tmps n A=>
  refine .head (m₁:=lone (Frame.round l m tmps n A .normal) (b.atR a (.inRegion ops (i::rest)::k)::cs) g) ?_ ?_
  ·refine step_lone_go ?_;rw[j];simp[stepG.apply,Sem.runT_eq,h,Frame.atR]
  ·have:=h3;dsimp only at this;rwa[u]at this
theorem Pp {l:List Operand}{r:List bF}(h:yu c l=some r):r.length=l.length/\∀ i (h:i<l.length),∃ y,r[i]? = some y/\cP c l[i]=some y:=iU h
theorem Gc {j:bF}{g:List bF}(d:bH c o=some (.call j g)):∃ f as l,o.op = .call { callee:=.value f,args:=as,argTypes:=l } /\ cP c f=some j/\yu c as.toList=some g:=by
 cases ho:o.op
 case call cl=>
  obtain⟨m,as,l⟩:=cl;cases m<;>simp only[bH,ho,reduceCtorEq]at d
  case value f=>
   obtain⟨y,n,d⟩:=bind_some d;obtain⟨p,h,d⟩:=bind_some d;cases d;exact⟨_,_,_,rfl,n,h⟩
  case builtin q=>
   exfalso;unfold eG rU iz mz rV oR at d;repeat' (first | (cases d;done) | (obtain⟨_,_,d⟩:=bind_some d) | (split at d))
 all_goals exfalso
 all_goals simp only[bH,ho,reduceCtorEq,Option.map_eq_some_iff,and_false,exists_false]at d
 all_goals repeat' (first | (cases d;done) | contradiction | (simp only[Option.map_eq_some_iff,reduceCtorEq,and_false,exists_false]at d;done) | (obtain⟨_,_,d⟩:=bind_some d) | (split at d))
theorem Gb {y:bF}(d:bH c o=some (.kN y)):∃ x,o.op = .next x false/\cP c x=some y:=by
 cases ho:o.op
 case next x b=>
  cases b<;>simp only[bH,ho,reduceCtorEq]at d;obtain⟨z,f,h⟩:=cX d;cases h;exact⟨x,rfl,f⟩
 case call cl=>
  exfalso;obtain⟨g,as,j⟩:=cl;cases g<;>simp only[bH,ho,reduceCtorEq]at d
  ·obtain⟨_,_,d⟩:=bind_some d;obtain⟨_,_,d⟩:=bind_some d;cases d
  ·unfold eG rU iz mz rV oR at d;repeat' (first | (cases d;done) | (obtain⟨_,_,d⟩:=bind_some d) | (split at d))
 all_goals exfalso
 all_goals simp only[bH,ho,reduceCtorEq,Option.map_eq_some_iff,and_false,exists_false]at d
 all_goals repeat' (first | (cases d;done) | contradiction | (simp only[Option.map_eq_some_iff,reduceCtorEq,and_false,exists_false]at d;done) | (obtain⟨_,_,d⟩:=bind_some d) | (split at d))
theorem Inv.XW {cmp:Nat->bx->Code->Prop}(I:Inv cmp w0 μ ι δ s w) {id:Nat}{p:Place}{m:Option Nat}{d last last':Nat}{seen seen':List Nat}{t:Option Nat}(y:s.get id=some (.iter m d seen last)) (l:μ id=some p)
 (D:w.heap[p.b]? = some (.mapIter t d seen.toArray last)) :
 Inv cmp w0 μ ι δ (s.put id (.iter m d seen' last')) { w with heap:=w.heap.setIfInBounds p.b (.mapIter t d seen'.toArray last') } /\ Ext μ ι δ w μ ι δ { w with heap:=w.heap.setIfInBounds p.b (.mapIter t d seen'.toArray last') } := by
 obtain⟨R,S,z,T⟩:=I.dR id _ p y l;rw[D]at z;cases z;generalize u:({ w with heap:=w.heap.setIfInBounds p.b (.mapIter t d seen'.toArray last') } : World)=w';have H:w'.heap.size=w.heap.size:=by rw[<- u];simp
 have L:=I.oh id p l;have A:∀ k,k≠p.b->w'.heap[k]? = w.heap[k]? := λk J=>by rw[<- u];exact Array.getElem?_setIfInBounds_ne (Ne.symm J)
 have U:w'.heap[p.b]? = some (.mapIter t d seen'.toArray last'):=by rw[<- u];simp[L.2.2]
 have M:∀ b o v,w.cell? ⟨b,o,none⟩=some v->b≠p.b:=by
  rintro b o v n rfl;simp[World.cell?,D]at n
 have K:∀ b o,ι b o->w'.cell? ⟨b,o,none⟩=w.cell? ⟨b,o,none⟩:=λb o r=>by
  obtain⟨v,n⟩:=I.io b o r;exact gS (A b (M b o v n))
 refine⟨⟨⟨by rw[<- u];exact I.below.os,by rw[<- u];exact I.below.tape,by rw[<- u];exact I.below.output,by rw[H];exact I.below.size,λk J=>by rw[A k (by have:=L.2.1;omega)];exact I.below.block k J⟩,
  λid p l=>by rw[H];exact I.oh id p l,λb o r=>by obtain⟨v,n⟩:=I.io b o r;exact⟨v,(K b o r).trans n⟩,λE b q g B=>?_,?_,λx hx=>?_,I.low,λb o r g=>(I.own b o r g).heap (A b (by obtain⟨v,n⟩:=I.io b o r;exact M b o v n))⟩,
  ⟨λ_ _ h=>h,λ_ _ h=>h,K,by rw[H];exact Nat.le_refl _,λ_ h=>h⟩⟩
 ·rw[St.az]at g;split at g
  ·rename_i C;subst C;cases g;obtain rfl:p=q:=Option.some.inj (l.symm.trans B);exact⟨R,t,U,T⟩
  ·rename_i C;have N:=I.dR E b q g B;have dB:q.b≠p.b:=by
    intro F;cases b with
    | cells m cs=>obtain⟨⟨x,h0⟩,_⟩:=N;rw[F]at h0;simp[World.shape?,D]at h0
    | loop st cv V ps as bo=>exact C (I.sep E id _ _ q p g y rfl rfl B l F)
    | map es=>exact C (I.sep E id _ _ q p g y rfl rfl B l F)
    | iter m d seen last=>exact C (I.sep E id _ _ q p g y rfl rfl B l F)
   exact N.mono (λ_ _ h=>h) (λ_ _ h=>h) K (A _ dB) (λ_ _ h=>h)
 ·intro i j b1 b2 p1 p2 g1 g2 X Y Z m2 e;rw[St.az]at g1 g2;have f:∀ {k:Nat}{b:jU},(if k=id then some (jU.iter m d seen' last') else s.get k)=some b->b.owns=true->∃ O,s.get k=some O/\O.owns=true:=by
   intro k b h ho;split at h
   ·rename_i e;subst e;exact⟨_,y,rfl⟩
   ·exact⟨b,h,ho⟩
  obtain⟨c1,k1,l1⟩:=f g1 X;obtain⟨c2,k2,l2⟩:=f g2 Y;exact I.sep i j c1 c2 p1 p2 k1 k2 l1 l2 Z m2 e
 ·obtain⟨a,b⟩:=I.defers x hx;refine⟨a,?_⟩;rw[A x ?_]
  ·exact b
  ·rintro rfl;rw[D]at b;cases b
theorem Ed (n:Nat) (w:World):∃ t w',(choose (.mapNext n)).run P w = .ok t w'/\(w'=w∨w' = { w with drawn:=w.drawn+1 })/\(0<n->t<n):=by
 by_cases h:n<=1
 ·exact⟨0,w,by simp[choose,Sem.run,Question.forced,h], .inl rfl,λh=>h⟩
 ·exact⟨w.tape w.drawn (.mapNext n) % n,_,by simp[choose,Sem.run,Question.forced,h,Question.cut], .inr rfl,λh=>Nat.mod_lt _ h⟩
def fP (es:Array MapEntry) (seen:Array Nat) (since:Nat):Array (Option MapEntry) :=
 let left:=es.filter λe=>!seen.contains e.born;let old:=left.filter (·.born<since);let new:=left.filter (·.born ≥ since);(if old.isEmpty then #[none] else #[])++(old++new).map some
theorem Ay {es:Array MapEntry}{seen:Array Nat}{since:Nat}{en:MapEntry}(h:some en∈fP es seen since):en∈es/\seen.contains en.born=false:=by
 unfold fP at h;simp only[Array.mem_append,Array.mem_map,Option.some.injEq,exists_eq_right]at h;rcases h with h | h | h
 ·split at h<;>simp at h
 ·rw[Array.mem_filter,Array.mem_filter]at h;exact⟨h.1.1,by simpa using h.1.2⟩
 ·rw[Array.mem_filter,Array.mem_filter]at h;exact⟨h.1.1,by simpa using h.1.2⟩
theorem Az {es:Array MapEntry}{seen:Array Nat}{since:Nat}(h:none∈fP es seen since):∀ en∈es,en.born<since->seen.contains en.born=true:=by
 intro en d f;unfold fP at h;simp only[Array.mem_append,Array.mem_map,reduceCtorEq,and_false,exists_false,or_false]at h;split at h
 ·rename_i g;cases j:seen.contains en.born with
  | true=>rfl
  | false=>
    exfalso;have hm:en∈(es.filter λe=>!seen.contains e.born).filter (·.born<since):=by
     rw[Array.mem_filter,Array.mem_filter];exact⟨⟨d,by rw[j];rfl⟩,by simpa using f⟩
    have h0:=Array.size_pos_of_mem hm;have h1:((es.filter λe=>!seen.contains e.born).filter (·.born<since)).size=0:=by simpa[Array.isEmpty] using g
    omega
 ·simp at h
theorem CJ (es:Array MapEntry) (seen:Array Nat) (since:Nat):0<(fP es seen since).size:=by
 unfold fP;dsimp only;generalize (es.filter λe=>!seen.contains e.born).filter (·.born<since)=old;generalize (es.filter λe=>!seen.contains e.born).filter (·.born ≥ since)=new;split
 ·simp;omega
 ·rename_i h;have:0<old.size:=by
   rcases Nat.eq_zero_or_pos old.size with h0 | h0
   ·exact absurd (by simp[Array.isEmpty,h0]) h
   ·exact h0
  simp;omega
theorem OG {r m since last clock:Nat}{seen:Array Nat}{es:Array MapEntry}{ty:TypeId}(h1:w.heap[r]? = some (.mapIter (some m) since seen last)) (h2:w.heap[m]? = some (.map es clock))
 (j:(!seen.isEmpty && !es.isEmpty && es.all (·.born ≥ last))=false) {t:Nat}{f:World}(g:(choose (.mapNext (fP es seen since).size)).run P w = .ok t f) (h3:f.heap[r]? = some (.mapIter (some m) since seen last)) {h:Option MapEntry}
 (d:(fP es seen since)[t]? = some h) :
 (Instr.next (.pointer (some ⟨r,0,none⟩)) false ty).run P w=(match h with
  | none=>.ok (.tuple #[.bool false]) f
  | some en=>.ok (.tuple #[.bool true,en.key,en.val]) { f with heap:=f.heap.setIfInBounds r (.mapIter (some m) since (seen.push en.born) clock) }):=by
 unfold fP at g d;dsimp only at g d;simp only[Instr.next,Sem.run_bind,jX h1 (by simp),jX h2 (by simp),Result.andThen_ok,j,Bool.false_eq_true,if_false,g,d];cases h with
 | none=>simp[Sem.run_pure]
 | some en=>simp[setObj,Sem.run,h3]
theorem LU {R:LV->St->Prop}(hP:c.P=P) (hi:ops[i]? = some o) (sH:dZ c ops o=some lo) (B:Du P G w0 μ ι δ s w) (b9:Ho μ ι w c e a o)
 (hw:Region.wanted o (yielded ops a.tmps)=true) {y:bF}(h:jJ (y.ev e) s R) (xC:lo.op = .kN y) :
 ∃ v s' b8 ck w' x,R v s'/\Steps P (lone (b.atR a (.inRegion ops (i::rest)::k)) cs w) (lone (b.atR (a.put o.dst x) (.inRegion ops rest::k)) cs w') /\
   Inv (sM P G) w0 b8 ck δ s' w'/\Ext μ ι δ w b8 ck δ w'/\Kept μ s b8 s'/\Rv b8 ck w' v x:=by
 obtain⟨M,_,_,_⟩:=gR sH;rw[xC]at M;obtain⟨x,mC,hx⟩:=Gb M;have N:=b9 x y (by simp[mC,Op.operands]) hx;have O:∀ {u w'},(Instr.next (a.eval x) false o.type).run P w = .ok u w'->step P (lone (b.atR a (.inRegion ops (i::rest)::k)) cs w) = .next (lone (b.atR (a.put o.dst u) (.inRegion ops rest::k)) cs w'):=λS=>
  iB hi hw (qg M) (.inl (by simp[execOp,mC,S]))
 have Rc:∀ {μ:Mu}{ι:Io}{w:World},Rv μ ι w (.cE [.bool false]) (.tuple #[.bool false]):=.cE rfl λj C=>by
  match j,C with
  | 0,_=>exact .bool false
 unfold jJ at h;split at h
 ·rename_i id T;rw[T]at N;generalize gf:a.eval x=av at N O;cases N with
  | aO I =>
    rename_i p;split at h
    ·rename_i D seen f J;obtain⟨U,pb,h1,rfl⟩:=B.inv.dR id _ p J I;refine⟨_,s,μ,ι,w, .tuple #[.bool false],h, .one (O ?_),B.inv,Ext.refl _ _ _ _,Kept.refl _ _,Rc⟩;simp[Instr.next,U,jX h1 (by simp)]
    ·rename_i m D seen f J;split at h
     ·rename_i es V;obtain⟨l,n,r⟩:=h;obtain⟨U,pb,h1,pm,SH,rfl⟩:=B.inv.dR id _ p J I;obtain⟨d,k1,k2,k3⟩:=B.inv.dR m _ pm V SH;have E:∀ j (C:j<d.size),d[j].born=j:=λj C=>by
       have:=(k3 j om).1;simpa[gF,C] using this
      have GD:(!seen.toArray.isEmpty && !d.isEmpty && d.all (·.born ≥ f))=false:=by
       rcases l with rfl | hl
       ·simp
       ·by_cases he:d.size=0
        ·have:d.isEmpty=true:=by simpa[Array.isEmpty] using he
         simp[this]
        ·have h0:d.all (·.born ≥ f)=false:=by
          rw[Array.all_eq_false];exact⟨0,by omega,by have:=E 0 (by omega);simp[this];omega⟩
         simp[h0]
      obtain⟨t,K,oJ,xB,kn⟩:=Ed (P:=P) (fP d seen.toArray D).size w;have kU:cZ w K:=by rcases xB with rfl | rfl;exact cZ.refl _;exact cZ.drew _
      have X:K.heap=w.heap:=by rcases xB with rfl | rfl<;>rfl
      have BL:=kn (CJ _ _ _);have F:=B.inv.same kU;have Y:=B.inv.fk kU;have WY:K.heap[p.b]? = some (.mapIter (some pm.b) D seen.toArray f):=by rw[X];exact h1
      obtain⟨L,H⟩:∃ L,(fP d seen.toArray D)[t]? = some L:=⟨_,Array.getElem?_eq_getElem BL⟩;have gb:L∈fP d seen.toArray D:=Array.mem_of_getElem? H;have bL:=OG (P:=P) (ty:=o.type) h1 k1 GD oJ WY H;have g:∀ {u w'},(Instr.next (.pointer (some ⟨p.b,0,none⟩)) false o.type).run P w = .ok u w'->step P (lone (b.atR a (.inRegion ops (i::rest)::k)) cs w) = .next (lone (b.atR (a.put o.dst u) (.inRegion ops rest::k)) cs w'):=λS=>O (by rw[U];exact S);cases L with
      | none=>
        refine⟨_,s,μ,ι,K, .tuple #[.bool false],r λj C Z=>?_, .one (g bL),F,Y,Kept.refl _ _,Rc⟩;have z:j<d.size:=by omega
        have:=Az gb d[j] (Array.getElem_mem z) (by rw[E j z];exact C);rw[E j z]at this;simpa using this
      | some en=>
        obtain⟨hea,Ab⟩:=Ay gb;obtain⟨j,z,rfl⟩:=Array.getElem_of_mem hea;have Z:j<es.length:=by omega
        have hjs:j ∉ seen:=by rw[E j z]at Ab;simpa using Ab
        obtain⟨I2,x2⟩:=F.XW (seen':=seen++[j]) (last':=es.length) J I WY;have A:seen.toArray.push d[j].born=(seen++[j]).toArray:=by rw[E j z];simp
        have BM:=bL;dsimp only at BM;rw[A]at BM;refine⟨_,_,μ,ι,_,_,n j Z hjs, .one (g BM),I2,Y.trans x2,Kept.put I _, .cE rfl λq hq=>?_⟩;have hk:=k3 j Z;have kV:d.getD j default=d[j]:=by simp[gF,z]
        rw[kV]at hk;have Qr:=Y.trans x2;match q,hq with
        | 0,_=>exact .bool true
        | 1,_=>exact hk.2.2.1.ext Qr
        | 2,_=>exact hk.2.2.2.ext Qr
     ·exact h.elim
    ·exact h.elim
 ·exact h.elim
theorem F4 {t f:TypeId}{n:Nat}{x y:Addr}{r:Bool}(g:P.underlying t=some (.pointer f)) (hs:gU P f=some n) (j:n≠0) (h:(sameAddr x y).run P w = .ok r w) (d:Nat) :
 (Op.equalIn (d+1) t (.pointer (some x)) (.pointer (some y))).run P w = .ok r w:=by
 unfold Op.equalIn;simp[ru g,wT hs,j,h]
theorem rq {t g:TypeId}{u v:Option Addr}(f:P.underlying t=some (.pointer g)) (h:u=none∨v=none) (d:Nat) :
 (Op.equalIn (d+1) t (.pointer u) (.pointer v)).run P w = .ok (u.isNone && v.isNone) w:=by
 unfold Op.equalIn;rcases h with rfl | rfl
 ·simp[ru f]
 ·cases u<;>simp[ru f]
theorem VH {t C:TypeId}{n:Nat}(D:Du P G w0 μ ι δ s w) (j:P.underlying t=some (.pointer C)) (hs:gU P C=some n) (K:n≠0) {x y:LV}{u v:Value}(hx:Rv μ ι w x u) (l:Rv μ ι w y v) {neg:Bool}{R:LV->St->Prop}
 (h:pE G neg x y s R):∃ (r:Bool) (a b:Option Addr),u = .pointer a/\v = .pointer b/\(∀ d,(Op.equalIn (d+1) t u v).run P w = .ok r w)/\R (.bool (if neg=true then !r else r)) s:=by
 unfold pE at h;split at h
 ·rename_i Y off L f;obtain⟨ho,M,N,dB,heq⟩:=h;cases hx with
  | aY vs E O h1 F=>
    rename_i b o;cases l with
    | aY g m q H p =>
      rename_i I z;have p1:=D.Pg ho E O F M;have p2:=D.Pg ho m q p N;have S:=tg (P:=P) (w:=w) (x:=⟨b,o+off,none⟩) (y:=⟨I,z+f,none⟩) p1 p2;refine⟨_,_,_,rfl,rfl,F4 j hs K S,?_⟩;cases A:((⟨b,o+off,none⟩:Addr) == ⟨I,z+f,none⟩) with
      | false=>cases neg<;>exact dB
      | true=>
        have T:=eq_of_beq A;injection T with U Z _
        subst U;have:=heq (Ce _ _ λi B V=>by
         rw[List.length_drop]at B V;have X:=F (off+i) om;have J:=p (f+i) om;have c1:=E (off+i) om;have c2:=m (f+i) om;rw[show z+(f+i)=o+(off+i) from by omega,c1]at c2;rw[<- Option.some.inj c2]at J;have:=Sp X J;simpa[gD,List.getElem?_drop] using this)
        cases neg<;>exact this
 ·cases hx with
  | eS=>
    cases l with
    | aY g m q H p=>exact⟨false,_,_,rfl,rfl,rq j (.inl rfl),by cases neg<;>exact h⟩
 ·cases l with
  | eS=>
    cases hx with
    | aY g m q H p=>exact⟨false,_,_,rfl,rfl,rq j (.inr rfl),by cases neg<;>exact h⟩
 ·cases hx with
  | eS=>cases l with
    | eS=>exact⟨true,_,_,rfl,rfl,rq j (.inl rfl),by cases neg<;>exact h⟩
 ·exact h.elim
theorem IZ {n:Bool}{f g:bF}(d:bH c o=some (.RX n f g)):∃ op t x y h,o.op = .binOp op t x y h/\uu op=false/\n=Kt op/\cP c x=some f/\cP c y=some g/\X6 c.P t=true:=by
 cases ho:o.op
 case binOp op t x y h =>
  simp only[bH,ho]at d;obtain⟨l,m,d⟩:=bind_some d;obtain⟨p,q,d⟩:=bind_some d;split at d
  ·cases d
  ·cases d
  ·split at d
   ·cases d
   ·rename_i r;obtain⟨A,u,d⟩:=bind_some d;split at d
    ·rename_i j;cases d;simp only[Bool.and_eq_true]at j;exact⟨_,_,_,_,_,rfl,by simpa using r,rfl,m,q,j.1.1⟩
    ·cases d
 case call cl=>
  exfalso;obtain⟨z,as,B⟩:=cl;cases z<;>simp only[bH,ho,reduceCtorEq]at d
  ·obtain⟨_,_,d⟩:=bind_some d;obtain⟨_,_,d⟩:=bind_some d;cases d
  ·unfold eG rU iz mz rV oR at d;repeat' (first | (cases d;done) | (obtain⟨_,_,d⟩:=bind_some d) | (split at d))
 all_goals exfalso
 all_goals simp only[bH,ho,reduceCtorEq,Option.map_eq_some_iff,and_false,exists_false]at d
 all_goals repeat' (first | (cases d;done) | contradiction | (simp only[Option.map_eq_some_iff,reduceCtorEq,and_false,exists_false]at d;done) | (obtain⟨_,_,d⟩:=bind_some d) | (split at d))
theorem RW {R:LV->St->Prop}(A:c.P=P) (B:ops[i]? = some o) (C:dZ c ops o=some lo) (p:Du P G w0 μ ι δ s w) (q:Ho μ ι w c e a o)
 (D:Region.wanted o (yielded ops a.tmps)=true) {neg:Bool}{f g:bF}(h:pE G neg (f.ev e) (g.ev e) s R) (heq:lo.op = .RX neg f g) :
 ∃ v s' b8 ck w' x,R v s'/\Steps P (lone (b.atR a (.inRegion ops (i::rest)::k)) cs w) (lone (b.atR (a.put o.dst x) (.inRegion ops rest::k)) cs w') /\
   Inv (sM P G) w0 b8 ck δ s' w'/\Ext μ ι δ w b8 ck δ w'/\Kept μ s b8 s'/\Rv b8 ck w' v x:=by
 obtain⟨j,_,_,_⟩:=gR C;rw[heq]at j;obtain⟨op,t,x,y,L,ho,E,rfl,hx,F,d⟩:=IZ j;subst A;have H:=q x f (by simp[ho,Op.operands]) hx;have l:=q y g (by simp[ho,Op.operands]) F;unfold X6 at d;split at d
 ·rename_i M I;split at d
  ·rename_i n hs;have J:n≠0:=by simpa using d
   obtain⟨r,N,O,h1,h2,u,K⟩:=VH p I hs J H l h;have m:op = .eql∨op = .neq:=by cases op<;>simp[uu]at E ⊢
   rw[h1,h2]at u;have z:=uM (c:=c) (w:=w) (t:=t) (ox:=x) (oy:=y) (op:=op) m (by rcases m with rfl | rfl<;>simp[eqGuard]) rfl rfl (u 9999);refine⟨_,s,μ,ι,w, .bool (if op = .eql then r else !r),K, .one (iB B D (qg j) (.inl ?_)),p.inv,Ext.refl _ _ _ _,Kept.refl _ _,?_⟩
   ·simp only[Sem.run_bind]at z;simp only[execOp,ho,Sem.run_bind,h1,h2];rw[z];rfl
   ·rcases m with rfl | rfl<;>exact .bool _
  ·cases d
 ·cases d
theorem JZ {R:LV->St->Prop}(z:c.P=P) (p:ops[i]? = some o) (A:dZ c ops o=some lo) (r:Du P G w0 μ ι δ s w) (d:Ho μ ι w c e a o)
 (t:Region.wanted o (yielded ops a.tmps)=true) (h:pJ P G lo.fl lo.op e s R) :
 ∃ v s' b8 ck w' x,R v s'/\Steps P (lone (b.atR a (.inRegion ops (i::rest)::k)) cs w) (lone (b.atR (a.put o.dst x) (.inRegion ops rest::k)) cs w') /\
   Inv (sM P G) w0 b8 ck δ s' w'/\Ext μ ι δ w b8 ck δ w'/\Kept μ s b8 s'/\Rv b8 ck w' v x:=by
 obtain⟨u,Z,_,_⟩:=gR A;cases H:jN lo.op with
 | true=>
   rcases kj H with⟨J,g,K⟩ | ⟨y,I⟩ | ⟨n,x,y,heq⟩
   case inr.inl=>exact LU z p A r d t (by rw[I]at h;exact h) I
   case inr.inr=>exact RW z p A r d t (by rw[heq]at h;exact h) heq
   rw[K]at h u;simp only[pJ]at h;have l:=Gc u;obtain⟨f,as,ts,l,L,has⟩:=l;obtain⟨hl,M⟩:=Pp has;have N:=d f J (by simp[l,Op.operands,Call.operands]) L;have O:∀ j,j<(g.map (·.ev e)).length->Rv μ ι w ((g.map (·.ev e)).getD j .top) ((as.map a.eval).getD j undef):=by
    intro j S;have B:j<as.toList.length:=by rw[<- hl];simpa using S
    obtain⟨y,T,C⟩:=M j B;have:=d _ y (by simp only[l,Op.operands,Call.operands];simp only[Array.toList_append,List.mem_append];right;exact List.getElem_mem B) C;have U:j<as.size:=by simpa using B
    simpa[gD,T,gF,U] using this
   obtain⟨lv,s',b8,ck,w',v,q,V,D,hx,E,F⟩:=h w0 μ ι δ w (a.eval f) (as.map a.eval) (b.atR a (.inRegion ops (i::rest)::k)) cs r N (by simp[hl]) O;exact⟨lv,s',b8,ck,w',v,q,He p t l V,D,hx,E,F⟩
 | false=>
   obtain⟨v,s',X,_,Y⟩:=yw h H;obtain⟨x,w',b8,ck,m,D,hx,F,E⟩:=EM u d r.inv X;rw[z]at m;exact⟨v,s',b8,ck,w',x,Y, .one (iB p t (qg u) m),D,hx,E,F⟩
theorem Re.ho (d:c.P=P) (f:c.wJ=G) (g:Du P G w0 μ ι δ s w) (h:∀ t, .tmp t∈o.op.operands.toList->Rv μ ι w (e.at t) (a.tmps.getD t undef)):Ho μ ι w c e a o:=by
 intro x y hx j;exact CG d f g j (λt l=>h t (by rw[<- l];exact hx))
theorem RM {nt:Nat}{d:Option Nat}{v:LV}{x:Value}(f:Fr P G w0 μ ι δ s w nt e a) (g:Inv (sM P G) w0 b8 ck δ s' w') (hx:Ext μ ι δ w b8 ck δ w') (h:∀ t,d=some t->t<nt) (j:Rv b8 ck w' v x) :
 Fr P G w0 b8 ck δ s' w' nt (e.put d v) (a.put d x) :=
 ⟨f.now.ext g hx,(f.re.ext hx).put (λt l=>by rw[f.size];exact h t l) j,by rw[Act.yl];exact f.size⟩
theorem x7:Rv μ ι w (.cE []) undef:=.cE rfl (λi d=>absurd d (Nat.not_lt_zero _))
theorem I8 {nt:Nat}{refs:List Nat}{K:Env->St->Prop}(ops:Array Oper):∀ (l:List bC) (n:Nat) (e:Env) (s:St) (μ:Mu) (ι:Io) (w:World) (a:Act),
 (∀ j,j<l.length->∃ o lo,ops[n+j]? = some o/\l[j]? = some lo/\dZ ⟨P,G,refs,nt⟩ ops o=some lo)->Fr P G w0 μ ι δ s w nt e a->dL P G l e s K ->
 ∃ m s' b8 ck w' g,K m s'/\Steps P (lone (b.atR a (.inRegion ops ((List.range l.length).map (n + ·))::k)) cs w) (lone (b.atR g (.inRegion ops []::k)) cs w')/\Fr P G w0 b8 ck δ s' w' nt m g /\
   Ext μ ι δ w b8 ck δ w'/\Kept μ s b8 s'/\g.defers=a.defers:=by
 intro l;induction l with
 | nil=>
   intro n e s μ ι w a _ f h;exact⟨e,s,μ,ι,w,a,h, .refl _ _,f,Ext.refl _ _ _ _,Kept.refl _ _,rfl⟩
 | cons lo l ih=>
   intro n e s μ ι w a hl f h;obtain⟨o,u,ho,p,r⟩:=hl 0 (Nat.zero_lt_succ _);obtain rfl:lo=u:=by simpa using p
   have D:∀ j,j<l.length->∃ o lo,ops[n+1+j]? = some o/\l[j]? = some lo/\dZ ⟨P,G,refs,nt⟩ ops o=some lo:=λj L=>by
    obtain⟨o,lo,h1,h2,h3⟩:=hl (j+1) (by simpa using L);exact⟨o,lo,by rw[show n+1+j=n+(j+1) from by omega];exact h1,by simpa using h2,h3⟩
   have M:(List.range (lo::l).length).map (n + ·)=n::(List.range l.length).map (n+1 + ·):=by
    rw[List.length_cons,List.range_succ_eq_map,List.map_cons,List.map_map];congr 1;exact List.map_congr_left λx _=>by simp only[Function.comp_apply];omega
   rw[M];obtain⟨_,E,F,_⟩:=gR r;have y:ops[n]? = some o:=ho;simp only[dL]at h;split at h
   ·exact h.elim
   ·rename_i z;have A:=ot r z (λd _ _=>f.re d);have B:step P (lone (b.atR a (.inRegion ops (n::(List.range l.length).map (n+1 + ·))::k)) cs w) = .next (lone (b.atR (a.put o.dst undef) (.inRegion ops ((List.range l.length).map (n+1 + ·))::k)) cs w):=by
     have:=stepR_op_skip (P:=P) (b:=b) (a:=a) (k:=k) (cs:=cs) (w:=w) (ops:=ops) (i:=n) (rest:=(List.range l.length).map (n+1 + ·)) (by rw[y];simpa using A);rw[y]at this;exact this
    have C:Fr P G w0 μ ι δ s w nt (e.put lo.dst (.cE [])) (a.put o.dst undef):=by
     rw[E];exact RM f f.now.inv (Ext.refl _ _ _ _) F x7
    obtain⟨m,s',b8,ck,w',g,q,hs,r1,r2,r3,r4⟩:=ih (n+1) _ s μ ι w _ D C h;exact⟨m,s',b8,ck,w',g,q, .head B hs,r1,r2,r3,r4.trans (Act.mO _ _ _)⟩
   ·rename_i z;have A:=ot r z (λd _ _=>f.re d);obtain⟨v,s1,H,I,J,x,⟨_,N⟩,B,O,hx,R,S⟩:=JZ (b:=b) (k:=k) (cs:=cs) (rest:=(List.range l.length).map (n+1 + ·)) rfl y r f.now (Re.ho rfl rfl f.now (λt _=>f.re t)) A h;have C:Fr P G w0 H I δ s1 J nt (e.put lo.dst v) (a.put o.dst x):=by
     rw[E];exact RM f O hx F S
    obtain⟨m,s',b8,ck,w',g,q,hs,r1,r2,r3,r4⟩:=ih (n+1) _ s1 H I J _ D C N;exact⟨m,s',b8,ck,w',g,q,Steps.trans B hs,r1,hx.trans r2,R.trans r3,r4.trans (Act.mO _ _ _)⟩
end
end Go.Pv
end
