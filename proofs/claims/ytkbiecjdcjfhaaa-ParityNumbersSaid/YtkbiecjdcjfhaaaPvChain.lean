/- Maps, bytes as a string, slices without room. -/
import Derived.Test.YtkbiecjdcjfhaaaPvAlloc
import Derived.MapKept
import Derived.Laws.BytesString
set_option linter.unusedSimpArgs false
set_option linter.unusedVariables false
section
set_option linter.unusedSimpArgs false
namespace Go.Pv
open Go Go.RowKit Go.MapKept
section
variable {P:Program} {w:World} {w0:Bs} {μ:Mu} {ι:Io} {δ:Nat→Prop} {s s':St} {cmp:Nat→LCode→Code→Prop} {c:Ctx} {e:Env} {a:Act} {o:Oper} {v:LV}
theorem keyKind_cases {t:TypeId} {kd:KTy} (h:keyKind P t=some kd) :
  (∃ d,P.underlying t=some d∧(∀ es,kd≠.st es)∧∀ {k:LV} {x:Value},Rv μ ι w k x→keyOk kd k=true→IsKey d x) ∨
  (∃ es fs, kd = .st es ∧ P.underlying t = some (.struct fs) ∧ P.stoodInHeld t = false ∧ fs.toList.all (fun f => f.name != "_") = true ∧ fldsEq P fs.toList = some es) := by
 unfold keyKind at h
 cases hu:P.underlying t with
 | none=>simp [hu] at h
 | some d=>
  rw [hu] at h
  cases d<;>simp only [Option.some.injEq,reduceCtorEq] at h
  case int k=>
   subst h
   refine .inl ⟨_,rfl,fun es h=>(by cases h),fun {k x} hk hok=>?_⟩
   cases hk<;>simp [keyOk] at hok
   exact hok
  case string=>
   subst h
   refine .inl ⟨_,rfl,fun es h=>(by cases h),fun {k x} hk hok=>?_⟩
   cases hk<;>simp [keyOk] at hok
   trivial
  case struct fs=>
   split at h
   ·rename_i es he
    cases h
    unfold eqTy at he
    rw [hu] at he
    simp only at he
    split at he
    ·cases he
    ·rename_i hg
     simp only [Bool.or_eq_true,not_or,Bool.not_eq_true] at hg
     split at he
     ·rename_i hall
      obtain ⟨es',hes,h2⟩:=map_some' he
      cases h2
      exact .inr ⟨_,fs,rfl,rfl,hg.1,hall,hes⟩
     ·cases he
   ·cases h
theorem ra_tail {x:LV} {xs:List LV} {u:Value} {us:List Value} (h:Ra μ ι w (x::xs) (u::us).toArray):Rv μ ι w x u∧Ra μ ι w xs us.toArray:=by
 refine ⟨by simpa using h.2 0 (by simp),by simpa using h.1,fun i hi=>?_⟩
 have:=h.2 (i+1) (by simpa using hi)
 simpa [Array.getD_eq_getD_getElem?] using this
theorem sameInts_rel:∀ {xs ys:List LV} {us vs:List Value},Ra μ ι w xs us.toArray→Ra μ ι w ys vs.toArray→sameInts xs ys=true→us=vs∧∀ u∈us,∃ k n,u = .int k n:=by
 intro xs
 induction xs with
 | nil=>
  intro ys us vs hx hy h
  cases ys<;>simp only [sameInts,Bool.false_eq_true] at h
  have h1:us=[]:=List.length_eq_zero_iff.1 (by simpa using hx.1)
  have h2:vs=[]:=List.length_eq_zero_iff.1 (by simpa using hy.1)
  subst h1;subst h2
  exact ⟨rfl,fun u hu=>by cases hu⟩
 | cons x xs ih=>
  intro ys us vs hx hy h
  cases ys with
  | nil=>cases x<;>simp [sameInts] at h
  | cons y ys=>
   have h1:=hx.1
   have h2:=hy.1
   cases us with
   | nil=>simp at h1
   | cons u us=>
    cases vs with
    | nil=>simp at h2
    | cons v vs=>
     obtain ⟨r1,t1⟩:=ra_tail hx
     obtain ⟨r2,t2⟩:=ra_tail hy
     cases r1<;>(try (simp only [sameInts,Bool.false_eq_true] at h;done))
     cases r2<;>simp only [sameInts,Bool.false_eq_true,Bool.and_eq_true,beq_iff_eq] at h
     obtain ⟨⟨rfl,rfl⟩,h⟩:=h
     obtain ⟨rfl,hall⟩:=ih t1 t2 h
     refine ⟨rfl,fun u hu=>?_⟩
     rcases List.mem_cons.1 hu with rfl | hu
     ·exact ⟨_,_,rfl⟩
     ·exact hall u hu
theorem sameBits_ints {us:Array Value} (h:∀ u∈us.toList,∃ k n,u = .int k n) (m:Nat):Instr.sameBits (m+1) (.agg us) (.agg us)=true:=by
 simp only [Instr.sameBits,beq_self_eq_true,Bool.true_and]
 generalize us.toList=l at h
 induction l with
 | nil=>rfl
 | cons u l ih=>
  obtain ⟨k,n,rfl⟩:=h u (by simp)
  simp only [List.zip_cons_cons,List.all_cons,Bool.and_eq_true]
  refine ⟨?_,ih fun v hv=>h v (by simp [hv])⟩
  cases m<;>simp [Instr.sameBits]
theorem keyEq_rel {d:TypeDesc} {k k':LV} {x x':Value} {b:Bool} (hx:Rv μ ι w k x) (hx':Rv μ ι w k' x') (hk:IsKey d x) (h:keyEq k k'=some b):Instr.sameNow d x x'=some b∧(b=true→x'=x):=by
 cases hx<;>cases hx'<;>simp only [keyEq,reduceCtorEq] at h
 ·split at h
  ·rename_i hkk;subst hkk;cases h
   cases d<;>simp only [IsKey] at hk
   refine ⟨by simp [Instr.sameNow],fun hb=>?_⟩
   have:=eq_of_beq hb
   rw [this]
  ·cases h
 ·cases h
  rename_i b1 b2
  cases d<;>simp only [IsKey] at hk
  have hbe:(b1 == b2)=decide (b1.data.toList=b2.data.toList):=by
   apply Bool.eq_iff_iff.2
   rw [bytes_beq,decide_eq_true_iff]
   constructor
   ·rintro rfl;rfl
   ·intro h
    cases b1;cases b2
    congr 1
    exact Array.ext' h
  refine ⟨by simp [Instr.sameNow,hbe],fun hb=>?_⟩
  rw [← hbe] at hb
  rw [(bytes_beq _ _).1 hb]
theorem mfind_rel {d:TypeDesc} {kd:KTy} (hns:∀ es,kd≠.st es) {k:LV} {x:Value} (hx:Rv μ ι w k x) (hk:IsKey d x):∀ (es:List (LV × LV)) (l:List MapEntry) (i:Nat) (r:Option (Nat × LV)),l.length=es.length →
  (∀ j,j<es.length→Rv μ ι w (es.getD j default).1 (l.getD j default).key∧Rv μ ι w (es.getD j default).2 (l.getD j default).val)→mfind kd k es i=some r →
  match r with
  | none=>Instr.findNow d x l i=some none
  | some (n,v)=>∃ j en,n=i+j∧l[j]? = some en∧Instr.findNow d x l i=some (some (n,en.val))∧Rv μ ι w v en.val∧en.key=x:=by
 have hke:∀ k k',keyEqT kd k k'=keyEq k k':=fun k k'=>by
  cases kd with
  | st es=>exact absurd rfl (hns es)
  | _=>rfl
 intro es
 induction es with
 | nil=>
  intro l i r hl _ h
  cases h
  obtain rfl:=List.length_eq_zero_iff.1 hl
  rfl
 | cons p es ih=>
  obtain ⟨k',v'⟩:=p
  intro l i r hl hr h
  match l,hl with
  | en :: l, hl =>
   have h0:=hr 0 (by simp)
   have h0':Rv μ ι w k' en.key∧Rv μ ι w v' en.val:=by simpa using h0
   simp only [mfind,hke] at h
   cases hq:keyEq k k' with
   | none=>rw [hq] at h;cases h
   | some b=>
    rw [hq] at h
    obtain ⟨hs,he⟩:=keyEq_rel hx h0'.1 hk hq
    cases b with
    | true=>
     cases h
     exact ⟨0,en,rfl,rfl,by simp [Instr.findNow,hs],h0'.2,he rfl⟩
    | false=>
     have:=ih l (i+1) r (by simpa using hl) (fun j hj=>by simpa using hr (j+1) (by simpa using hj)) h
     cases r with
     | none=>simp only at this ⊢;simp [Instr.findNow,hs,this]
     | some q=>
      obtain ⟨n,u⟩:=q
      obtain ⟨j,en',h1,h2,h3,h4,h5⟩:=this
      exact ⟨j+1,en',by omega,by simpa using h2,by simp [Instr.findNow,hs,h3],h4,h5⟩
theorem keyEqSt_rel {kt : TypeId} {fs : Array Field} {es : List (Nat × Nat × EqTy)} (hu : P.underlying kt = some (.struct fs)) (hst : P.stoodInHeld kt = false) (hall : fs.toList.all (fun f => f.name != "_") = true)
  (hes:fldsEq P fs.toList=some es) {k k':LV} {x x':Value} {b:Bool} (hx:Rv μ ι w k x) (hx':Rv μ ι w k' x') (h:keyEqT (.st es) k k'=some b) :
  (Op.equal kt x x').run P w = .ok b w∧(b=true→(Instr.keyThatStays x' x).run P w = .ok x w):=by
 cases hx<;>simp only [keyEqT,reduceCtorEq] at h
 cases hx'<;>simp only [keyEqT,reduceCtorEq] at h
 rename_i xs us hl hr ys vs hl' hr'
 have hf:P.fieldsOf kt=fs:=by simp [Program.fieldsOf,hu]
 have hrun:=run_equalIn_struct (P:=P) w 9999 kt us vs (by rw [hf];exact hu) hst
 split at h
 ·rename_i he
  split at h
  ·rename_i hsame
   cases h
   rw [hf,eqFields_rel (c:=⟨P,[],[],0⟩) 9997 ⟨hl,hr⟩ ⟨hl',hr'⟩ fs.toList es true hall hes he] at hrun
   refine ⟨hrun,fun _=>?_⟩
   have hx0:Ra μ ι w xs us.toList.toArray:=⟨by simpa using hl,by simpa using hr⟩
   have hy0:Ra μ ι w ys vs.toList.toArray:=⟨by simpa using hl',by simpa using hr'⟩
   obtain ⟨he2,hints⟩:=sameInts_rel hx0 hy0 hsame
   obtain rfl:us=vs:=Array.ext' he2
   simp [Instr.keyThatStays,sameBits_ints hints 9999]
  ·cases h
 ·rename_i hne
  rw [hf,eqFields_rel (c:=⟨P,[],[],0⟩) 9997 ⟨hl,hr⟩ ⟨hl',hr'⟩ fs.toList es b hall hes h] at hrun
  refine ⟨hrun,fun hb=>?_⟩
  subst hb
  exact absurd h hne
theorem mfindSt_rel {kt : TypeId} {fs : Array Field} {es0 : List (Nat × Nat × EqTy)} (hu : P.underlying kt = some (.struct fs)) (hst : P.stoodInHeld kt = false) (hall : fs.toList.all (fun f => f.name != "_") = true)
  (hes:fldsEq P fs.toList=some es0) {k:LV} {x:Value} (hx:Rv μ ι w k x):∀ (es:List (LV × LV)) (l:List MapEntry) (i:Nat) (r:Option (Nat × LV)),l.length=es.length →
  (∀ j,j<es.length→Rv μ ι w (es.getD j default).1 (l.getD j default).key∧Rv μ ι w (es.getD j default).2 (l.getD j default).val)→mfind (.st es0) k es i=some r →
  match r with
  | none=>(Instr.findAsking kt x l i).run P w = .ok none w
  | some (n,v)=>∃ j en,n=i+j∧l[j]? = some en∧(Instr.findAsking kt x l i).run P w = .ok (some (n,en.val)) w∧Rv μ ι w v en.val∧(Instr.keyThatStays en.key x).run P w = .ok x w:=by
 intro es
 induction es with
 | nil=>
  intro l i r hl _ h
  cases h
  obtain rfl:=List.length_eq_zero_iff.1 hl
  rfl
 | cons p es ih=>
  obtain ⟨k',v'⟩:=p
  intro l i r hl hr h
  match l,hl with
  | en :: l, hl =>
   have h0:=hr 0 (by simp)
   have h0':Rv μ ι w k' en.key∧Rv μ ι w v' en.val:=by simpa using h0
   simp only [mfind] at h
   cases hq:keyEqT (.st es0) k k' with
   | none=>rw [hq] at h;cases h
   | some b=>
    rw [hq] at h
    obtain ⟨hs,he⟩:=keyEqSt_rel hu hst hall hes hx h0'.1 hq
    cases b with
    | true=>
     cases h
     exact ⟨0,en,rfl,rfl,by simp [Instr.findAsking,hs],h0'.2,he rfl⟩
    | false=>
     have:=ih l (i+1) r (by simpa using hl) (fun j hj=>by simpa using hr (j+1) (by simpa using hj)) h
     cases r with
     | none=>simp only at this ⊢;simp [Instr.findAsking,hs,this]
     | some q=>
      obtain ⟨n,u⟩:=q
      obtain ⟨j,en',h1,h2,h3,h4,h5⟩:=this
      exact ⟨j+1,en',by omega,by simpa using h2,by simp [Instr.findAsking,hs,h3],h4,h5⟩
theorem findKey_rel {kt:TypeId} {kd:KTy} (hkk:keyKind P kt=some kd) {k:LV} {x:Value} (hx:Rv μ ι w k x) (hok:keyOk kd k=true) {es:List (LV × LV)} {l:List MapEntry} (hl:l.length=es.length)
  (hr:∀ j,j<es.length→Rv μ ι w (es.getD j default).1 (l.getD j default).key∧Rv μ ι w (es.getD j default).2 (l.getD j default).val) {r:Option (Nat × LV)} (h:mfind kd k es 0=some r) :
  match r with
  | none=>(Instr.findKey kt x l).run P w = .ok none w
  | some (n,v)=>∃ en,l[n]? = some en∧(Instr.findKey kt x l).run P w = .ok (some (n,en.val)) w∧Rv μ ι w v en.val∧(Instr.keyThatStays en.key x).run P w = .ok x w:=by
 rcases keyKind_cases (μ:=μ) (ι:=ι) (w:=w) hkk with ⟨d,hd,hns,hkey⟩ | ⟨es0,fs,rfl,hu,hst,hall,hes⟩
 ·have hik:=hkey hx hok
  have:=mfind_rel hns hx hik es l 0 r hl hr h
  cases r with
  | none=>exact MapKept.run_findKey hd this
  | some q=>
   obtain ⟨n,v⟩:=q
   obtain ⟨j,en,hj,hen,hfn,hrv,rfl⟩:=this
   obtain rfl:n=j:=by omega
   exact ⟨en,hen,MapKept.run_findKey hd hfn,hrv,MapKept.run_keyThatStays hik⟩
 ·have:=mfindSt_rel hu hst hall hes hx es l 0 r hl hr h
  have hfk:∀ {a},(Instr.findAsking kt x l 0).run P w = .ok a w→(Instr.findKey kt x l).run P w = .ok a w:=fun {a} ha=>by
   cases l with
   | nil=>
    simp only [Instr.findAsking] at ha
    simp [Instr.findKey,ru hu,Instr.findNow]
    simpa using ha
   | cons en l=>
    have hn:Instr.findNow (.struct fs) x (en::l) 0=none:=by simp [Instr.findNow,Instr.sameNow]
    simp [Instr.findKey,ru hu,hn,ha]
  cases r with
  | none=>exact hfk this
  | some q=>
   obtain ⟨n,v⟩:=q
   obtain ⟨j,en,hj,hen,hfn,hrv,hst⟩:=this
   obtain rfl:n=j:=by omega
   exact ⟨en,hen,hfk hfn,hrv,hst⟩
theorem checkKey_sc {em:Bool} (n:Nat) {us:Array Value} : ∀ (fs:List Field) (es:List (Nat × Nat × EqTy)),scFlds P fs=some es→es.all (fun f=>f.1<us.size)=true →
  (forIn fs PUnit.unit (fun f _ => if f.name ≠ "_" then (do let x ← part f.type us f.offset; Instr.checkKey em (n + 1) f.type x; pure (ForInStep.yield PUnit.unit)) else pure (ForInStep.yield PUnit.unit)) : Sem PUnit).run P w = .ok PUnit.unit w := by
 intro fs
 induction fs with
 | nil=>intro es _ _;simp
 | cons f fs ih=>
  intro es hm ha
  unfold scFlds at hm
  rw [List.mapM_cons] at hm
  cases hs:scTy P f.type with
  | none=>simp [hs] at hm
  | some et=>
   cases hl:fs.mapM (fun f=>(scTy P f.type).map fun e=>(f.offset,1,e)) with
   | none=>simp [hs,hl] at hm
   | some es' =>
    simp [hs,hl] at hm
    subst hm
    simp only [List.all_cons,Bool.and_eq_true,decide_eq_true_eq] at ha
    have hp1:(part f.type us f.offset).run P w = .ok us[f.offset] w:=by simp [part,scTy_part (c:=⟨P,[],[],0⟩) hs,ha.1]
    have hck:∀ v:Value,(Instr.checkKey em (n+1) f.type v).run P w = .ok () w:=fun v=>by
     unfold scTy at hs
     cases hu:P.underlying f.type with
     | none=>simp [hu] at hs
     | some d=>
      rw [hu] at hs
      cases d<;>simp only [Option.some.injEq,reduceCtorEq] at hs<;>simp [Instr.checkKey,ru hu]
    have hrest:=ih es' hl ha.2
    by_cases hn : f.name = "_"
    ·simp only [List.forIn_cons,Sem.run_bind,hn,ne_eq,not_true_eq_false,if_false,Result.andThen_ok,Sem.run_pure]
     exact hrest
    ·simp only [List.forIn_cons,Sem.run_bind,hn,ne_eq,not_false_eq_true,if_true,Result.andThen_ok,Sem.run_pure,hp1,hck]
     exact hrest
theorem checkKey_fields {em:Bool} (n:Nat) {us:Array Value} : ∀ (fs:List Field) (es:List (Nat × Nat × EqTy)),fldsEq P fs=some es→es.all (fun f=>f.1<us.size)=true →
  (forIn fs PUnit.unit (fun f _ => if f.name ≠ "_" then (do let x ← part f.type us f.offset; Instr.checkKey em (n + 2) f.type x; pure (ForInStep.yield PUnit.unit)) else pure (ForInStep.yield PUnit.unit)) : Sem PUnit).run P w = .ok PUnit.unit w := by
 intro fs
 induction fs with
 | nil=>intro es _ _;simp
 | cons f fs ih=>
  intro es hm ha
  simp only [fldsEq] at hm
  split at hm
  ·rename_i a hfa
   split at hm
   ·rename_i es' hfs
    cases hm
    rw [List.all_append,Bool.and_eq_true] at ha
    have hrest:=ih es' hfs ha.2
    have key:∃ u,(part f.type us f.offset).run P w = .ok u w∧(Instr.checkKey em (n+2) f.type u).run P w = .ok () w:=by
     rcases fldEq_cases hfa with ⟨et,hs,rfl⟩ | ⟨gs,k,l,hu,hn,hst,hall,hlt,hl,rfl⟩
     ·have h1:f.offset<us.size:=by simpa using ha.1
      refine ⟨us[f.offset],by simp [part,scTy_part (c:=⟨P,[],[],0⟩) hs,h1],?_⟩
      unfold scTy at hs
      cases hu:P.underlying f.type with
      | none=>simp [hu] at hs
      | some d=>
       rw [hu] at hs
       cases d<;>simp only [Option.some.injEq,reduceCtorEq] at hs<;>simp [Instr.checkKey,ru hu]
     ·refine ⟨.agg (us.extract f.offset (f.offset+k)),by simp [part,isAgg,ru hu,rsz hn],?_⟩
      have hall2:l.all (fun p=>p.1<(us.extract f.offset (f.offset+k)).size)=true:=by
       rw [List.all_eq_true]
       intro p hp
       have h1:=scFlds_lt _ hl hlt p hp
       have h2:=List.all_eq_true.1 ha.1 (f.offset+p.1,p.2) (List.mem_map.2 ⟨p,hp,rfl⟩)
       simp only [decide_eq_true_eq] at h2 ⊢
       rw [Array.size_extract]
       omega
      have:=checkKey_sc (P:=P) (w:=w) (em:=em) n gs.toList l hl hall2
      rw [Instr.checkKey]
      simp only [Sem.run_bind,ru hu,Result.andThen_ok]
      rw [← Array.forIn_toList]
      simp at this ⊢
      rw [this]
      rfl
    obtain ⟨u,k1,k2⟩:=key
    by_cases hn : f.name = "_"
    ·simp only [List.forIn_cons,Sem.run_bind,hn,ne_eq,not_true_eq_false,if_false,Result.andThen_ok,Sem.run_pure]
     exact hrest
    ·simp only [List.forIn_cons,Sem.run_bind,hn,ne_eq,not_false_eq_true,if_true,Result.andThen_ok,Sem.run_pure,k1,k2]
     exact hrest
   ·cases hm
  ·cases hm
theorem checkKey_rel {kt:TypeId} {kd:KTy} (hkk:keyKind P kt=some kd) {k:LV} {x:Value} (hx:Rv μ ι w k x) (hok:keyOk kd k=true) (em:Bool):(Instr.checkKey em 10000 kt x).run P w = .ok () w:=by
 rcases keyKind_cases (μ:=μ) (ι:=ι) (w:=w) hkk with ⟨d,hd,hns,hkey⟩ | ⟨es0,fs,rfl,hu,hst,hall,hes⟩
 ·exact MapKept.run_checkKey hd (hkey hx hok) em 9999
 ·cases hx<;>simp only [keyOk,Bool.false_eq_true,Bool.and_eq_true] at hok
  rename_i cs us hl hr
  have ha:es0.all (fun f=>f.1<us.size)=true:=by rw [hl];exact hok.1
  have:=checkKey_fields (P:=P) (w:=w) (em:=em) 9997 fs.toList es0 hes ha
  rw [show (10000:Nat)=9999+1 from rfl,Instr.checkKey]
  simp only [Sem.run_bind,ru hu,Result.andThen_ok]
  rw [← Array.forIn_toList]
  simp at this ⊢
  rw [this]
  rfl
theorem ok_mkmap {t:TypeId} {x:Option Operand} (ho:o.op = .makeMap t x) (I:Inv cmp w0 μ ι δ s w) (hρ:Ho μ ι w c e a o) {kt et:TypeId} (hu:c.P.underlying t=some (.map kt et)) {y:Option Opd} (hy:opdO c x=some y)
  (hr:(LOp.mkmap y).run e s=some (v,s')):OpOk cmp w0 μ ι δ s w c.P a o v s':=by
 have hgo:v = .mref s.n∧s'=s.new (.map [])∧(execOp a.eval o).run c.P w = .ok (.value (.map (some w.heap.size))) { w with heap:=w.heap.push (.map #[] 0) } := by
  cases x with
  | none=>
   cases hy
   cases hr
   exact ⟨rfl,rfl,by simp [execOp,ho,Instr.makeMap]⟩
  | some x=>
   simp only [opdO,Option.map_eq_some_iff] at hy
   obtain ⟨z,hz,rfl⟩:=hy
   have hx:=hρ x z (by simp [ho,Op.operands]) hz
   simp only [LOp.run] at hr
   generalize hav:a.eval x=av at *
   generalize z.ev e=lv at *
   cases hx<;>simp only [reduceCtorEq] at hr
   cases hr
   exact ⟨rfl,rfl,by simp [execOp,ho,hav,Instr.makeMap,ru hu,asInt,asIntOf]⟩
 obtain ⟨rfl,rfl,hrun⟩:=hgo
 let w':World:={ w with heap:=w.heap.push (.map #[] 0) }
 have hs:Same w w':=Same.alloc w _
 have hsz:w'.heap.size=w.heap.size+1:=by simp [w']
 obtain ⟨I2,x2⟩:=(I.same hs).addBlk ⟨w.heap.size,0,0⟩ (.map []) I.hB (by show w.heap.size<w'.heap.size;omega) ⟨#[],by simp [w'],rfl,fun i hi=>absurd hi (Nat.not_lt_zero _)⟩
  (fun _ id b' p' _ _ hm he=>by have:=(I.dom id p' hm).2.2;have he':p'.b=w.heap.size:=he;omega)
 exact ⟨_,w',_,ι, .inl hrun,I2,(I.ext_same hs).trans x2, .mref (p:=⟨w.heap.size,0,0⟩) (by simp [Mu.upd]),Kept.new _ _⟩
theorem rv_zero {t:TypeId} {z:Value} {x:LV} (hz:(c.P.info? t).bind (·.zero)=some z) (hx:constC z=some x):(zeroValue t).run c.P w = .ok z w∧Rv μ ι w x z:=by
 cases hi:c.P.info? t with
 | none=>simp [hi] at hz
 | some i=>
  rw [hi] at hz
  exact ⟨rz hi hz,rv_constC hx⟩
theorem run_lookup_some {t kt et:TypeId} {r clock:Nat} {es:Array MapEntry} {kv:Value} {ok:Bool} (hu:P.underlying t=some (.map kt et)) (hck:∀ em,(Instr.checkKey em 10000 kt kv).run P w = .ok () w)
  (hb:w.heap[r]? = some (.map es clock)) {fr:Option (Nat × Value)} (hf:(Instr.findKey kt kv es.toList).run P w = .ok fr w) {z:Value} (hz:(zeroValue et).run P w = .ok z w) :
  (Instr.lookup t (.map (some r)) kv ok).run P w = .ok (if ok then .tuple #[(match fr with | some (_,v)=>v | none=>z), .bool fr.isSome] else (match fr with | some (_,v)=>v | none=>z)) w:=by
 cases fr with
 | none=>simp [Instr.lookup,ru hu,MapKept.run_getObj_map hb,hck,hf,hz]
 | some q=>simp [Instr.lookup,ru hu,MapKept.run_getObj_map hb,hck,hf,hz]
theorem run_lookup_nil {t kt et:TypeId} {kv:Value} {ok:Bool} (hu:P.underlying t=some (.map kt et)) (hck:∀ em,(Instr.checkKey em 10000 kt kv).run P w = .ok () w) (hf:(Instr.findKey kt kv []).run P w = .ok none w) {z:Value} (hz:(zeroValue et).run P w = .ok z w) :
  (Instr.lookup t (.map none) kv ok).run P w = .ok (if ok then .tuple #[z, .bool false] else z) w:=by
 simp [Instr.lookup,ru hu,hck,hf,hz]
theorem rv_pair {ok:Bool} {x:LV} {u:Value} {b:Bool} (h:Rv μ ι w x u):Rv μ ι w (if ok then .tup [x, .bool b] else x) (if ok then .tuple #[u, .bool b] else u):=by
 cases ok
 ·exact h
 ·refine .tup rfl fun i hi=>?_
  match i,hi with
  | 0,_=>exact h
  | 1,_=>exact .bool b
theorem map_entries {es:List (LV × LV)} {arr:Array MapEntry} (h2:arr.size=es.length) (h3:∀ i,i<es.length→((arr.getD i default).born=i∧isKeyL (es.getD i default).1=true∧Rv μ ι w (es.getD i default).1 (arr.getD i default).key∧Rv μ ι w (es.getD i default).2 (arr.getD i default).val)) :
  arr.toList.length=es.length∧∀ j,j<es.length→Rv μ ι w (es.getD j default).1 (arr.toList.getD j default).key∧Rv μ ι w (es.getD j default).2 (arr.toList.getD j default).val:=by
 refine ⟨by simpa using h2,fun j hj=>?_⟩
 have:=h3 j hj
 have he:arr.toList.getD j default=arr.getD j default:=by simp [List.getD_eq_getElem?_getD,Array.getD_eq_getD_getElem?]
 rw [he]
 exact this.2.2
theorem ok_lookup {t:TypeId} {m k:Operand} {ok:Bool} (ho:o.op = .lookup t m k ok) (I:Inv cmp w0 μ ι δ s w) (hρ:Ho μ ι w c e a o) {kt et:TypeId} (hu:c.P.underlying t=some (.map kt et))
  {kd:KTy} (hk:keyKind c.P kt=some kd) {z:Value} (hz:(c.P.info? et).bind (·.zero)=some z) {lz:LV} (hlz:constC z=some lz) {ym yk:Opd} (hm:opd c m=some ym) (hkk:opd c k=some yk)
  (hr:(LOp.mlook kd lz ok ym yk).run e s=some (v,s')):OpOk cmp w0 μ ι δ s w c.P a o v s':=by
 have hx:=hρ m ym (by simp [ho,Op.operands]) hm
 have hy:=hρ k yk (by simp [ho,Op.operands]) hkk
 obtain ⟨hzr,hzv⟩:=rv_zero (w:=w) (μ:=μ) (ι:=ι) hz hlz
 have hex:∀ {x w'},(Instr.lookup t (a.eval m) (a.eval k) ok).run c.P w = .ok x w'→(execOp a.eval o).run c.P w = .ok (.value x) w':=fun h=>by simp [execOp,ho,h]
 simp only [LOp.run] at hr
 generalize hmv:a.eval m=mv at *
 generalize hkv:a.eval k=kv at *
 generalize ym.ev e=lm at *
 generalize yk.ev e=lk at *
 split at hr
 ·rename_i hok
  have hik:=fun em=>checkKey_rel hk hy hok em
  cases hx<;>simp only [reduceCtorEq] at hr
  case nilm=>
   cases hr
   have hnk:(Instr.findKey kt kv []).run c.P w = .ok none w:=findKey_rel hk hy hok (es:=[]) (l:=[]) rfl (fun j hj=>absurd hj (Nat.not_lt_zero _)) rfl
   exact ⟨_,w,μ,ι, .inl (hex (run_lookup_nil hu hik hnk hzr)),I,Ext.refl _ _ _ _,rv_pair hzv,Kept.refl _ _⟩
  case mref id p hp=>
   split at hr
   ·rename_i es hg
    obtain ⟨r,hf,hr⟩:=bind_some hr
    obtain ⟨arr,h1,h2,h3⟩:=I.blk id _ p hg hp
    obtain ⟨hl,hent⟩:=map_entries h2 h3
    have hres:=findKey_rel hk hy hok hl hent hf
    cases r with
    | none=>
     cases hr
     exact ⟨_,w,μ,ι, .inl (hex (run_lookup_some hu hik h1 hres hzr)),I,Ext.refl _ _ _ _,rv_pair hzv,Kept.refl _ _⟩
    | some q=>
     obtain ⟨n,u⟩:=q
     obtain ⟨en,_,hfn,hrv,_⟩:=hres
     cases hr
     exact ⟨_,w,μ,ι, .inl (hex (run_lookup_some hu hik h1 hfn hzr)),I,Ext.refl _ _ _ _,rv_pair hrv,Kept.refl _ _⟩
   ·cases hr
 ·cases hr
theorem Inv.remap (I:Inv cmp w0 μ ι δ s w) {id:Nat} {p:Place} {es es':List (LV × LV)} {arr arr':Array MapEntry} (hg:s.get id=some (.map es)) (hp:μ id=some p) (hm:w.heap[p.b]? = some (.map arr es.length))
  (hl:arr'.size=es'.length) (hr:∀ i,i<es'.length→((arr'.getD i default).born=i∧isKeyL (es'.getD i default).1=true∧Rv μ ι w (es'.getD i default).1 (arr'.getD i default).key∧Rv μ ι w (es'.getD i default).2 (arr'.getD i default).val)) :
  Inv cmp w0 μ ι δ (s.put id (.map es')) { w with heap:=w.heap.setIfInBounds p.b (.map arr' es'.length) } ∧ Ext μ ι δ w μ ι δ { w with heap:=w.heap.setIfInBounds p.b (.map arr' es'.length) } := by
 generalize hw':({ w with heap:=w.heap.setIfInBounds p.b (.map arr' es'.length) } : World)=w'
 have hsz:w'.heap.size=w.heap.size:=by rw [← hw'];simp
 have hdom:=I.dom id p hp
 have hoth:∀ k,k≠p.b→w'.heap[k]? = w.heap[k]? := fun k hk=>by rw [← hw'];exact Array.getElem?_setIfInBounds_ne (Ne.symm hk)
 have hsame:w'.heap[p.b]? = some (.map arr' es'.length):=by rw [← hw'];simp [hdom.2.2]
 have hcellr:∀ b o v,w.cell? ⟨b,o,none⟩=some v→b≠p.b:=by
  rintro b o v hv rfl
  simp [World.cell?,hm] at hv
 have hcell:∀ b o,ι b o→w'.cell? ⟨b,o,none⟩=w.cell? ⟨b,o,none⟩:=fun b o hi=>by
  obtain ⟨v,hv⟩:=I.io b o hi
  exact cell_of_heap (hoth b (hcellr b o v hv))
 refine ⟨⟨⟨by rw [← hw'];exact I.below.os,by rw [← hw'];exact I.below.tape,by rw [← hw'];exact I.below.output,by rw [hsz];exact I.below.size,fun k hk=>by rw [hoth k (by have:=hdom.2.1;omega)];exact I.below.block k hk⟩,
  fun id p hp=>by rw [hsz];exact I.dom id p hp,fun b o hi=>by obtain ⟨v,hv⟩:=I.io b o hi;exact ⟨v,(hcell b o hi).trans hv⟩,fun id' b q hb hq=>?_,?_,fun x hx=>?_,I.low,fun b o hi hb=>(I.own b o hi hb).heap (hoth b (by obtain ⟨v,hv⟩:=I.io b o hi;exact hcellr b o v hv))⟩,
  ⟨fun _ _ h=>h,fun _ _ h=>h,hcell,by rw [hsz];exact Nat.le_refl _,fun _ h=>h⟩⟩
 ·rw [St.get_put] at hb
  split at hb
  ·rename_i he;subst he;cases hb
   obtain rfl:p=q:=Option.some.inj (hp.symm.trans hq)
   exact ⟨arr',hsame,hl,fun i hi=>⟨(hr i hi).1,(hr i hi).2.1,(hr i hi).2.2.1.mono hcell (fun _ _ h=>h) (fun _ _ h=>h),(hr i hi).2.2.2.mono hcell (fun _ _ h=>h) (fun _ _ h=>h)⟩⟩
  ·rename_i he
   have hrb:=I.blk id' b q hb hq
   have hne:q.b≠p.b:=by
    intro hqe
    cases b with
    | cells m cs=>obtain ⟨⟨x,h0⟩,_⟩:=hrb;rw [hqe] at h0;simp [World.shape?,hm] at h0
    | loop st pend env ps as bo=>exact he (I.sep id' id _ _ q p hb hg rfl rfl hq hp hqe)
    | map es=>exact he (I.sep id' id _ _ q p hb hg rfl rfl hq hp hqe)
    | iter m n0 seen last=>exact he (I.sep id' id _ _ q p hb hg rfl rfl hq hp hqe)
   exact hrb.mono (fun _ _ h=>h) (fun _ _ h=>h) hcell (hoth _ hne) (fun _ _ h=>h)
 ·intro i j b1 b2 p1 p2 g1 g2 o1 o2 m1 m2 e
  rw [St.get_put] at g1 g2
  have f:∀ {k:Nat} {b:Blk},(if k=id then some (Blk.map es') else s.get k)=some b→b.owns=true→∃ b',s.get k=some b'∧b'.owns=true:=by
   intro k b h ho
   split at h
   ·rename_i e;subst e;exact ⟨_,hg,rfl⟩
   ·exact ⟨b,h,ho⟩
  obtain ⟨c1,k1,l1⟩:=f g1 o1
  obtain ⟨c2,k2,l2⟩:=f g2 o2
  exact I.sep i j c1 c2 p1 p2 k1 k2 l1 l2 m1 m2 e
 ·obtain ⟨a,b⟩:=I.defers x hx
  refine ⟨a,?_⟩
  rw [hoth x ?_]
  ·exact b
  ·rintro rfl;rw [hm] at b;cases b
theorem keyOk_isKey {kd:KTy} {k:LV} (h:keyOk kd k=true):isKeyL k=true:=by
 cases k<;>first | rfl | (cases kd<;>simp [keyOk] at h;done)
theorem ok_mupd {t:TypeId} {m k x:Operand} (ho:o.op = .mapUpdate t m k x∨o.op = .insert t m k x) (I:Inv cmp w0 μ ι δ s w) (hρ:Ho μ ι w c e a o) {kt et:TypeId} (hu:c.P.underlying t=some (.map kt et))
  {kd:KTy} (hk:keyKind c.P kt=some kd) {ym yk yx:Opd} (hm:opd c m=some ym) (hkk:opd c k=some yk) (hxx:opd c x=some yx)
  (hr:(LOp.mupd kd ym yk yx).run e s=some (v,s')):OpOk cmp w0 μ ι δ s w c.P a o v s':=by
 have hx:=hρ m ym (by rcases ho with ho | ho<;>simp [ho,Op.operands]) hm
 have hy:=hρ k yk (by rcases ho with ho | ho<;>simp [ho,Op.operands]) hkk
 have hz:=hρ x yx (by rcases ho with ho | ho<;>simp [ho,Op.operands]) hxx
 have hex:∀ {w'},(Instr.mapUpdate t (a.eval m) (a.eval k) (a.eval x)).run c.P w = .ok () w'→(execOp a.eval o).run c.P w = .ok .skip w':=fun h=>by rcases ho with ho | ho<;>simp [execOp,ho,h]
 simp only [LOp.run] at hr
 generalize hmv:a.eval m=mv at *
 generalize hkv:a.eval k=kv at *
 generalize hxv:a.eval x=xv at *
 generalize ym.ev e=lm at *
 generalize yk.ev e=lk at *
 generalize yx.ev e=lx at *
 split at hr
 ·rename_i hok
  have hik:=fun em=>checkKey_rel hk hy hok em
  cases hx<;>simp only [reduceCtorEq] at hr
  case mref id p hp=>
   split at hr
   ·rename_i es hg
    obtain ⟨r,hf,hr⟩:=bind_some hr
    obtain ⟨arr,h1,h2,h3⟩:=I.blk id _ p hg hp
    obtain ⟨hl,hent⟩:=map_entries h2 h3
    have hres:=findKey_rel hk hy hok hl hent hf
    cases r with
    | none=>
     cases hr
     obtain ⟨I',x'⟩:=I.remap (es':=es++[(lk,lx)]) (arr':=arr.push { key:=kv,val:=xv,born:=es.length }) hg hp h1 (by simp [h2]) (fun i hi=>by
      by_cases hlt:i<es.length
      ·have:=h3 i hlt
       have hlt':i<arr.size:=by omega
       simpa [List.getD_eq_getElem?_getD,List.getElem?_append_left hlt,Array.getD_eq_getD_getElem?,Array.getElem?_push,Nat.ne_of_lt hlt'] using this
      ·have hi':i=es.length:=by simp at hi;omega
       subst hi'
       have:(arr.push { key:=kv,val:=xv,born:=es.length }).getD es.length default = { key:=kv,val:=xv,born:=es.length } := by simp [Array.getD_eq_getD_getElem?,← h2]
       rw [this]
       simp only [List.getD_eq_getElem?_getD,List.getElem?_append_right (Nat.le_refl _),Nat.sub_self,List.getElem?_cons_zero,Option.getD_some]
       exact ⟨trivial,keyOk_isKey hok,hy,hz⟩)
     exact ⟨undef,_,μ,ι, .inr ⟨hex (by simp [Instr.mapUpdate,ru hu,MapKept.run_getObj_map h1,hik,hres,MapKept.run_setObj_map _ h1]),rfl⟩,I',x', .tup rfl (fun i hi=>absurd hi (Nat.not_lt_zero _)),Kept.put hp _⟩
    | some q=>
     obtain ⟨n,u⟩:=q
     obtain ⟨en,hen,hfn,hrv,hek⟩:=hres
     cases hr
     have hna:arr[n]? = some en:=by simpa using hen
     have hnlt:n<arr.size:=(Array.getElem?_eq_some_iff.1 hna).1
     obtain ⟨I',x'⟩:=I.remap (es':=es.set n (lk,lx)) (arr':=arr.modify n fun e=>{ e with key:=kv,val:=xv }) hg hp h1 (by simp [h2]) (fun i hi=>by
      have hi':i<es.length:=by simpa using hi
      have hia:i<arr.size:=by omega
      by_cases hin:i=n
      ·subst hin
       have:((arr.modify i fun e=>{ e with key:=kv,val:=xv }).getD i default) = { en with key:=kv,val:=xv } := by
        simp only [Array.getD_eq_getD_getElem?,Array.getElem?_modify,if_true,hna,Option.map_some,Option.getD_some]
       rw [this]
       simp only [List.getD_eq_getElem?_getD,List.getElem?_set,hi',if_true,Option.getD_some]
       exact ⟨by have hb:=(h3 i hi').1;simpa [Array.getD_eq_getD_getElem?,hna] using hb,keyOk_isKey hok,hy,hz⟩
      ·have h4:=h3 i hi'
       have:((arr.modify n fun e=>{ e with key:=kv,val:=xv }).getD i default)=arr.getD i default:=by
        simp only [Array.getD_eq_getD_getElem?,Array.getElem?_modify,if_neg (Ne.symm hin)]
       rw [this]
       have:(es.set n (lk,lx)).getD i default=es.getD i default:=by simp [List.getD_eq_getElem?_getD,List.getElem?_set,Ne.symm hin]
       rw [this]
       exact h4)
     refine ⟨undef,_,μ,ι, .inr ⟨hex ?_,rfl⟩,I',x', .tup rfl (fun i hi=>absurd hi (Nat.not_lt_zero _)),Kept.put hp _⟩
     have hkk':((arr[n]?).map (·.key)).getD kv=en.key:=by rw [hna];rfl
     simp [Instr.mapUpdate,ru hu,MapKept.run_getObj_map h1,hik,hfn,MapKept.run_setObj_map _ h1,hkk',hek]
   ·cases hr
 ·cases hr
theorem look_lenMap {t:TypeId} {x:Operand} (ho:o.op = .call { callee:=.builtin .len,args:=#[x],argTypes:=#[t] }) (I:Inv cmp w0 μ ι δ s w) (hρ:Ho μ ι w c e a o) {kt et:TypeId} (hu:c.P.underlying t=some (.map kt et))
  {y:Opd} (hy:opd c x=some y) (hr:(LOp.lenMap y).run e s=some (v,s')):s'=s∧Looks μ ι w c.P a o v:=by
 have hx:=hρ x y (by simp [ho,Op.operands,Call.operands]) hy
 unfold LOp.run at hr
 dsimp only at hr
 generalize y.ev e=lv at *
 generalize hav:a.eval x=av at *
 cases hx<;>simp only [reduceCtorEq] at hr
 case nilm=>
  cases hr
  exact ⟨rfl,_,by simp only [execOp,ho,resolve,Sem.run_bind,Sem.run_pure,Result.andThen_ok,invoke,builtin,List.map_toArray,List.map_cons,List.map_nil,hav];simp [Builtin.len_,ru hu];rfl, .int _ _⟩
 case mref id p hp=>
  split at hr
  ·rename_i es hg
   cases hr
   obtain ⟨arr,h1,h2,h3⟩:=I.blk id _ p hg hp
   refine ⟨rfl, .int .i64 es.length,?_, .int _ _⟩
   simp only [execOp,ho,resolve,Sem.run_bind,Sem.run_pure,Result.andThen_ok,invoke,builtin,List.map_toArray,List.map_cons,List.map_nil,hav]
   simp [Builtin.len_,ru hu,MapKept.run_getObj_map h1,h2,goInt]
  ·cases hr
theorem look_sliceZ {t:TypeId} {x lo hi mx:Operand} (ho:o.op = .slice t x (some lo) (some hi) (some mx)) (hρ:Ho μ ι w c e a o) {el:TypeId} (hu:c.P.underlying t=some (.slice el)) {n:Nat} (hn:szOf c.P el=some n)
  {y ylo yhi ymx:Opd} (hy:opd c x=some y) (hlo:opd c lo=some ylo) (hhi:opd c hi=some yhi) (hmx:opd c mx=some ymx) (hr:(LOp.sliceZ y ylo yhi ymx).run e s=some (v,s')):s'=s∧Looks μ ι w c.P a o v:=by
 have hx:=hρ x y (by simp [ho,Op.operands]) hy
 have h1:=hρ lo ylo (by simp [ho,Op.operands]) hlo
 have h2:=hρ hi yhi (by simp [ho,Op.operands]) hhi
 have h3:=hρ mx ymx (by simp [ho,Op.operands]) hmx
 unfold LOp.run at hr
 dsimp only at hr
 generalize y.ev e=lv at *
 generalize ylo.ev e=l1 at *
 generalize yhi.ev e=l2 at *
 generalize ymx.ev e=l3 at *
 generalize hav:a.eval x=av at *
 generalize hlv:a.eval lo=lov at *
 generalize hhv:a.eval hi=hiv at *
 generalize hmv:a.eval mx=mxv at *
 cases h1<;>(try (simp only [reduceCtorEq] at hr;done))<;>cases h2<;>(try (simp only [reduceCtorEq] at hr;done))<;>cases h3<;>(try (simp only [reduceCtorEq] at hr;done))
 rename_i k1 l k2 h k3 m
 cases hsl:slLen lv with
 | none=>simp [hsl] at hr
 | some len=>
  simp only [hsl] at hr
  split at hr
  ·rename_i hc
   obtain ⟨rfl,rfl,h0,h4⟩:=hc
   have hshape:∃ ba cap,av = .slice ba len cap∧len≤cap∧(ba=none→len=0∧cap=0):=by
    cases hx<;>simp only [slLen,reduceCtorEq] at hsl<;>cases hsl
    ·exact ⟨_,_,rfl,Nat.le_refl _,fun _=>⟨rfl,rfl⟩⟩
    ·exact ⟨_,_,rfl,Nat.le_refl _,fun h=>by cases h⟩
    ·exact ⟨_,_,rfl,by assumption,fun h=>by cases h⟩
    ·exact ⟨_,_,rfl,by assumption,fun h=>by cases h⟩
   obtain ⟨ba,cap,rfl,hlc,hnil⟩:=hshape
   have hlcap:l≤(cap:Int):=by omega
   have hll:l≤max l 0:=by omega
   have hrun:(execOp a.eval o).run c.P w = .ok (.value (.slice ba 0 0)) w:=by
    simp [execOp,ho,hav,hlv,hhv,hmv,Instr.sliceAt,Instr.slice,ru hu,Instr.sliceBounds,Instr.sliceBound,asIntOf,h0,hlcap,hll,rsz hn]
   cases hx<;>simp only [reduceCtorEq] at hr<;>cases hr
   ·exact ⟨rfl,_,hrun, .nils⟩
   ·exact ⟨rfl,_,hrun, .zs _⟩
   ·exact ⟨rfl,_,hrun, .zs _⟩
   ·exact ⟨rfl,_,hrun, .zs _⟩
  ·cases hr
theorem bytesOf_rel:∀ (cs:List LV) (vs:List Value) (bs:List UInt8),bytesOf cs=some bs→vs.length=cs.length→(∀ i,i<cs.length→Rv μ ι w (cs.getD i .top) (vs.getD i undef)) →
  ∃ ns:List Int,vs=ns.map (Value.int .u8)∧ns.map (fun n=>UInt8.ofNat n.toNat)=bs:=by
 intro cs
 induction cs with
 | nil=>
  intro vs bs h hl _
  cases h
  obtain rfl:=List.length_eq_zero_iff.1 hl
  exact ⟨[],rfl,rfl⟩
 | cons x cs ih=>
  intro vs bs h hl hr
  match vs,hl with
  | v :: vs, hl =>
   have h0:Rv μ ι w x v:=by simpa using hr 0 (by simp)
   unfold bytesOf at h
   split at h
   ·rename_i heq;cases heq
   ·rename_i n r heq
    obtain ⟨bs',hb,h⟩:=bind_some h
    cases h
    simp only [List.cons.injEq] at heq
    obtain ⟨rfl,rfl⟩:=heq
    cases h0
    obtain ⟨ns,h1,h2⟩:=ih vs bs' hb (by simpa using hl) (fun i hi=>by simpa using hr (i+1) (by simpa using hi))
    exact ⟨n::ns,by simp [h1],by simp [h2]⟩
   ·cases h
theorem foldl_push (bs:List UInt8):∀ (r:ByteArray),(bs.foldl (fun r b=>r.push b) r).data.toList=r.data.toList++bs:=by
 induction bs with
 | nil=>intro r;simp
 | cons b bs ih=>intro r;rw [List.foldl_cons,ih];simp [ByteArray.push]
theorem foldl_bytes (ns:List Int):ns.foldl (fun r n=>r.push (UInt8.ofNat n.toNat)) ByteArray.empty=⟨(ns.map (fun n=>UInt8.ofNat n.toNat)).toArray⟩:=by
 have h:=foldl_push (ns.map (fun n=>UInt8.ofNat n.toNat)) ByteArray.empty
 rw [List.foldl_map] at h
 generalize ns.foldl (fun r n=>r.push (UInt8.ofNat n.toNat)) ByteArray.empty=x at *
 cases x
 congr 1
 apply Array.ext'
 simpa using h
theorem look_bytesStr {t dst:TypeId} {x:Operand} (ho:o.op = .convert t dst x) (I:Inv cmp w0 μ ι δ s w) (hρ:Ho μ ι w c e a o) (hk:c.P.underlying dst=some .string) {el:TypeId} (hts:c.P.underlying t=some (.slice el)) (hel:isU8 c.P el=true)
  {y:Opd} (hy:opd c x=some y) (hr:(LOp.bytesStr y).run e s=some (v,s')):s'=s∧Looks μ ι w c.P a o v:=by
 have hx:=hρ x y (by simp [ho,Op.operands]) hy
 have hel':c.P.underlying el=some (.int .u8):=by
  unfold isU8 at hel
  split at hel
  ·assumption
  ·cases hel
 simp only [LOp.run] at hr
 generalize y.ev e=lv at *
 generalize hav:a.eval x=av at *
 obtain ⟨n,hn,hr⟩:=bind_some hr
 obtain ⟨cs,hcs,hr⟩:=bind_some hr
 obtain ⟨bs,hbs,hr⟩:=bind_some hr
 cases hr
 obtain ⟨arr,h1,h2,h3,h4⟩:=rowOf_rel (P:=c.P) I hx hcs
 obtain ⟨ns,hns,hnb⟩:=bytesOf_rel cs arr.toList bs hbs (by simpa using h2.1) (fun i hi=>by
  have:=h2.2 i hi
  simpa [List.getD_eq_getElem?_getD,Array.getD_eq_getD_getElem?] using this)
 have harr:arr=(ns.map (Value.int .u8)).toArray:=by apply Array.ext';simpa using hns
 have hrun:(Conv.bytesToString av).run c.P w = .ok (.string ⟨bs.toArray⟩) w:=by
  cases hx<;>simp only [slLen,reduceCtorEq] at hn<;>cases hn
  ·have:bs=[]:=by
    simp only [rowOf,if_true] at hcs
    cases hcs;cases hbs;rfl
   subst this
   simp [Conv.bytesToString]
   rfl
  all_goals
   have hf:=h1 w (Same.refl w)
   simp only [Builtin.firstCells,Nat.mul_one] at hf
   rw [harr] at hf
   rw [run_bytesToString w _ _ _ ns hf,foldl_bytes,hnb]
 refine ⟨rfl,_,?_, .str _⟩
 simp only [execOp,ho,hav,convert,Sem.run_bind,ru hts,ru hk,Result.andThen_ok]
 have:∀ s,av≠.string s∧(∀ k n,av≠.int k n):=fun s=>by cases hx<;>simp [slLen] at hn<;>simp
 cases hx<;>simp only [slLen,reduceCtorEq] at hn<;>simp only [Sem.run_bind,ru hel',Result.andThen_ok,hrun,Sem.run_pure]
theorem ok_mrange {t:TypeId} {x:Operand} (ho:o.op = .range t x) (I:Inv cmp w0 μ ι δ s w) (hρ:Ho μ ι w c e a o) {kt et:TypeId} (hu:c.P.underlying t=some (.map kt et)) {y:Opd} (hy:opd c x=some y)
  (hr:(LOp.mrange y).run e s=some (v,s')):OpOk cmp w0 μ ι δ s w c.P a o v s':=by
 have hx:=hρ x y (by simp [ho,Op.operands]) hy
 have fin:∀ (m:Option Nat) (n0:Nat) (pb:Option Nat),(match m with | none=>pb=none | some id=>∃ pm,μ id=some pm∧pb=some pm.b) →
   (execOp a.eval o).run c.P w = .ok (.value (.pointer (some ⟨w.heap.size,0,none⟩))) { w with heap:=w.heap.push (.mapIter pb n0 #[] n0) } → OpOk cmp w0 μ ι δ s w c.P a o (.pref s.n 0) (s.new (.iter m n0 [] n0)):=by
  intro m n0 pb hm hrun
  let w':World:={ w with heap:=w.heap.push (.mapIter pb n0 #[] n0) }
  have hs:Same w w':=Same.alloc w _
  have hsz:w'.heap.size=w.heap.size+1:=by simp [w']
  obtain ⟨I2,x2⟩:=(I.same hs).addBlk ⟨w.heap.size,0,0⟩ (.iter m n0 [] n0) I.hB (by show w.heap.size<w'.heap.size;omega) ⟨rfl,pb,by simp [w'],hm⟩
   (fun _ id b' p' _ _ hm he=>by have:=(I.dom id p' hm).2.2;have he':p'.b=w.heap.size:=he;omega)
  exact ⟨_,w',_,ι, .inl hrun,I2,(I.ext_same hs).trans x2, .pref (p:=⟨w.heap.size,0,0⟩) (off:=0) (by simp [Mu.upd]),Kept.new _ _⟩
 simp only [LOp.run] at hr
 generalize y.ev e=lv at *
 generalize hav:a.eval x=av at *
 cases hx<;>simp only [reduceCtorEq] at hr
 case nilm=>
  cases hr
  exact fin none 0 none rfl (by simp [execOp,ho,hav,Instr.range,ru hu])
 case mref id p hp=>
  split at hr
  ·rename_i es hg
   cases hr
   obtain ⟨arr,h1,h2,h3⟩:=I.blk id _ p hg hp
   exact fin (some id) es.length (some p.b) ⟨p,hp,rfl⟩ (by simp [execOp,ho,hav,Instr.range,ru hu,MapKept.run_getObj_map h1])
  ·cases hr
theorem run_getObj' {r:Nat} {ob:Obj} (h:w.heap[r]? = some ob) (hc:∀ c t f,ob≠.cells c t f):(getObj r).run P w = .ok ob w:=by
 cases ob<;>first | (simp [getObj,Sem.run,h];done) | exact absurd rfl (hc _ _ _)
theorem find_born {es:List (LV × LV)} {arr:Array MapEntry} (h2:arr.size=es.length) (h3:∀ i,i<es.length→(arr.getD i default).born=i) {i:Nat} (hi:i<es.length) :
  arr.find? (fun x=>x.born == i)=some (arr.getD i default):=by
 rw [← Array.find?_toList]
 have hia:i<arr.size:=by omega
 refine List.find?_eq_some_iff_append.2 ⟨by simpa using h3 i hi,arr.toList.take i,arr.toList.drop (i+1),?_,fun x hx=>?_⟩
 ·have:arr.getD i default=arr.toList[i]'(by simpa using hia):=by simp [Array.getD_eq_getD_getElem?,hia]
  rw [this]
  have hil:i<arr.toList.length:=by simpa using hia
  conv=>lhs;rw [← List.take_append_drop i arr.toList,List.drop_eq_getElem_cons hil]
 ·obtain ⟨j,hj,rfl⟩:=List.getElem_of_mem hx
  have hji:j<i:=by simp at hj;omega
  have hja:j<arr.size:=by omega
  have hb:=h3 j (by omega)
  have:arr.getD j default=arr[j]:=by simp [Array.getD_eq_getD_getElem?,hja]
  rw [this] at hb
  simp [hb]
  omega
theorem look_mentry {x:Operand} (ho:o.op = .entry x) (I:Inv cmp w0 μ ι δ s w) (hρ:Ho μ ι w c e a o) {y:Opd} (hy:opd c x=some y) (hr:(LOp.mentry y).run e s=some (v,s')):s'=s∧Looks μ ι w c.P a o v:=by
 have hx:=hρ x y (by simp [ho,Op.operands]) hy
 simp only [LOp.run] at hr
 generalize y.ev e=lv at *
 generalize hav:a.eval x=av at *
 cases hx<;>try (cases hr;done)
 case pref id off p hp=>
  split at hr
  ·rename_i id' heq
   obtain ⟨rfl,rfl⟩:id=id'∧off=0:=by injection heq;exact ⟨by assumption,by assumption⟩
   split at hr
   ·rename_i m n0 seen last hg
    split at hr
    ·rename_i es hgm
     split at hr
     ·rename_i i hi
      split at hr
      ·rename_i hc
       obtain ⟨hlast,hlt⟩:=hc
       cases hr
       obtain ⟨hoff,pb,k1,pm,hpm,rfl⟩:=I.blk id _ p hg hp
       obtain ⟨arr,h1,h2,h3⟩:=I.blk m _ pm hgm hpm
       have hfb:=find_born h2 (fun i hi=>(h3 i hi).1) hlt
       have hback:seen.toArray.back? = some i:=by simp [hi]
       refine ⟨rfl, .tuple #[(arr.getD i default).key,(arr.getD i default).val],?_, .tup rfl fun j hj=>?_⟩
       ·rw [hoff] at hav
        simp only [execOp,ho,hav,Instr.entry,Sem.run_bind,run_getObj' k1 (by simp),run_getObj' h1 (by simp),Result.andThen_ok,hback,hfb]
        simp [hlast,Sem.run_bind,run_getObj' h1 (by simp),hfb]
       ·have:=h3 i hlt
        match j,hj with
        | 0,_=>exact this.2.2.1
        | 1,_=>exact this.2.2.2
      ·cases hr
     ·cases hr
    ·cases hr
   ·cases hr
  ·cases hr
theorem look_capZ {t:TypeId} {x:Operand} (ho:o.op = .call { callee:=.builtin .cap,args:=#[x],argTypes:=#[t] }) (hρ:Ho μ ι w c e a o) {el:TypeId} (hu:c.P.underlying t=some (.slice el))
  {y:Opd} (hy:opd c x=some y) (hr:(LOp.capZ y).run e s=some (v,s')):s'=s∧Looks μ ι w c.P a o v:=by
 have hx:=hρ x y (by simp [ho,Op.operands,Call.operands]) hy
 unfold LOp.run at hr
 dsimp only at hr
 generalize y.ev e=lv at *
 generalize hav:a.eval x=av at *
 cases hx<;>simp only [reduceCtorEq] at hr<;>cases hr
 all_goals exact ⟨rfl,_,by simp only [execOp,ho,resolve,Sem.run_bind,Sem.run_pure,Result.andThen_ok,invoke,builtin,List.map_toArray,List.map_cons,List.map_nil,hav];simp [Builtin.cap_,ru hu];rfl, .int _ _⟩
theorem append_zgrows {t u el:TypeId} {ty:TypeId} {k kk:IntKind} {i:TypeInfo} (ht:P.underlying t=some (.slice el)) (hu:P.underlying u=some (.int k)) (hi:P.info? el=some i)
  {n:Nat} (hn:0<n) (hs0:i.size≠0) (hb0:i.bytes≠0) (hbig:n*i.bytes≤2 ^ 32) {zv:Value} (hz:i.zero=some zv) :
  ∃ newCap,n≤newCap∧(Builtin.append_ #[t,u] ty #[.slice none 0 0, .int kk n]).run P w =
   .ok (.slice (some ⟨w.heap.size,0,none⟩) n newCap) (({ w with drawn:=w.drawn+1 } : World).alloc (.cells (#[]++Builtin.zeroCells zv.cells n++Builtin.zeroCells zv.cells (newCap - n)) el)):=by
 have hsz:∀ w':World,(sizeOf el).run P w' = .ok i.size w':=fun w'=>by simp [sizeOf,rti hi]
 have hle:n≤2 ^ 32:=Nat.le_trans (Nat.le_mul_of_pos_right _ (Nat.pos_of_ne_zero hb0)) hbig
 have hcap:¬ (281474976710656<Builtin.nextslicecap n 0*i.bytes):=by
  have h1:=nextcap_le n 0 hn
  have h2:Builtin.nextslicecap n 0*i.bytes≤(2*n+192)*i.bytes:=Nat.mul_le_mul_right _ h1
  have h3:(2*n+192)*i.bytes=2*(n*i.bytes)+192*i.bytes:=by rw [Nat.add_mul,Nat.mul_assoc]
  have h4:i.bytes≤n*i.bytes:=Nat.le_mul_of_pos_left _ (by omega)
  omega
 have hf:(Question.appendCap n 0 el).forced=false:=rfl
 refine ⟨(Question.appendCap n 0 el).cut (w.tape w.drawn (.appendCap n 0 el)),by simp [Question.cut],?_⟩
 have hn0:¬ (n=0):=by omega
 have hti:∀ w':World,(typeInfo el).run P w' = .ok i w':=fun w'=>rti hi
 have hzv:∀ w':World,(zeroValue el).run P w' = .ok zv w':=fun w'=>rz hi hz
 have hwr:IntKind.i64.wrap (n:Int)=n:=wrap_i64 _ (by omega) (by omega)
 have hneg:¬ ((n:Int)<0):=by omega
 have hbb:¬ (281474976710656<(n:Int)*(i.bytes:Int)):=by
  have:((n*i.bytes:Nat):Int)≤((2 ^ 32:Nat):Int):=Int.ofNat_le.2 hbig
  rw [Int.natCast_mul] at this
  omega
 have h63:¬ (9223372036854775807<(n:Int)):=by omega
 have hns:¬ (n*i.size=0):=by
  intro h;rcases Nat.mul_eq_zero.1 h with h | h
  ·exact hn0 h
  ·exact hs0 h
 have hfc:∀ w':World,(Builtin.firstCells i.size 0 (.slice none 0 0)).run P w' = .ok #[] w':=fun w'=>by simp [Builtin.firstCells]
 simp only [Builtin.append_]
 simp [ru ht,ru hu,hsz,hti,asInt,asIntOf,hwr,hneg,hbb,hn0,h63,hcap,hf,hzv,hns,hs0,newRow,hfc]
theorem ok_appz {x y:Operand} {t u:TypeId} (ho:o.op = .call { callee:=.builtin .append,args:=#[x,y],argTypes:=#[t,u] }) (I:Inv cmp w0 μ ι δ s w) (hρ:Ho μ ι w c e a o) {el:TypeId} {d:TypeDesc} {i:TypeInfo} {z:List LV}
  (ht:c.P.underlying t=some (.slice el)) (hu:c.P.underlying u=some d) (hd:isIntD d=true) (hi:c.P.info? el=some i) (hs0:i.size≠0) (hb0:i.bytes≠0) (hz:zeroC c.P el=some z) (hzl:z.length=i.size) {lx ly:Opd} (hlx:opd c x=some lx) (hly:opd c y=some ly)
  (hr:(LOp.appz i.size i.bytes z lx ly).run e s=some (v,s')):OpOk cmp w0 μ ι δ s w c.P a o v s':=by
 have hx:=hρ x lx (by simp [ho,Op.operands,Call.operands]) hlx
 have hy:=hρ y ly (by simp [ho,Op.operands,Call.operands]) hly
 have hdd:∃ k,d = .int k:=by cases d<;>first | exact ⟨_,rfl⟩ | cases hd
 obtain ⟨k,rfl⟩:=hdd
 have hex:∀ {r:Value} {w':World},(Builtin.append_ #[t,u] o.type #[a.eval x,a.eval y]).run c.P w = .ok r w'→(execOp a.eval o).run c.P w = .ok (.value r) w':=fun h=>by
  simp only [execOp,ho,resolve,Sem.run_bind,Sem.run_pure,Result.andThen_ok,invoke,builtin,List.map_toArray,List.map_cons,List.map_nil,h]
 simp only [LOp.run] at hr
 generalize hav:a.eval x=av at *
 generalize hbv:a.eval y=bv at *
 generalize lx.ev e=l1 at *
 generalize ly.ev e=l2 at *
 cases hx<;>(try (simp only [reduceCtorEq] at hr;done))
 cases hy<;>(try (simp only [reduceCtorEq] at hr;done))
 rename_i kk m
 dsimp only at hr
 have hsz:∀ w':World,(sizeOf el).run c.P w' = .ok i.size w':=fun w'=>by simp [sizeOf,rti hi]
 have hti:∀ w':World,(typeInfo el).run c.P w' = .ok i w':=fun w'=>rti hi
 split at hr
 ·rename_i h0
  subst h0
  cases hr
  refine ⟨.slice none 0 0,w,μ,ι, .inl (hex ?_),I,Ext.refl _ _ _ _, .nils,Kept.refl _ _⟩
  simp only [Builtin.append_]
  simp [ru ht,ru hu,hsz,hti,asInt,asIntOf,wrap_i64 0 (by omega) (by omega)]
 ·rename_i h0
  split at hr
  ·rename_i hc
   obtain ⟨hp,hb1,hb2⟩:=hc
   cases hr
   obtain ⟨i',zv,hi',hzv⟩:∃ i' zv,c.P.info? el=some i'∧i'.zero=some zv∧∃ x,constC zv=some x∧cells? x=some z:=by
    unfold zeroC at hz
    obtain ⟨i',h1,hz⟩:=bind_some hz
    obtain ⟨zv,h2,hz⟩:=bind_some hz
    obtain ⟨x,h3,hz⟩:=bind_some hz
    exact ⟨i',zv,h1,h2,x,h3,hz⟩
   obtain rfl:i=i':=Option.some.inj (hi.symm.trans hi')
   obtain ⟨hzv,zx,hzx,hzc⟩:=hzv
   have hdrew:Same w w.drew:=Same.drew w
   have Id:=I.same hdrew
   have xd:=I.ext_same hdrew
   obtain ⟨hz1,hz2,hz3⟩:=cells_rel (rv_constC (μ:=μ) (ι:=ι) (w:=w.drew) hzx) hzc
   have hz4:=Ra.one (μ:=μ) (ι:=ι) (w:=w.drew) ⟨hz1,hz2⟩ (by simpa using hz3)
   obtain ⟨n,rfl⟩:∃ n:Nat,m=n:=⟨m.toNat,by omega⟩
   have hn:0<n:=by omega
   have hb1':n*i.bytes≤2 ^ 32:=by unfold big at hb1;exact_mod_cast hb1
   obtain ⟨nc,hnc,hrun⟩:=append_zgrows (w:=w) (ty:=o.type) (kk:=kk) ht hu hi hn hs0 hb0 hb1' hzv
   have hzp:0<z.length:=by omega
   obtain ⟨q1,q2⟩:=zeroRow_rel (μ:=μ) (ι:=ι) (w:=w.drew) ⟨hz1,hz2⟩ hzp n n (Nat.le_refl _)
   have hra:Ra μ ι w.drew (rep n z) (Builtin.zeroCells zv.cells n):=by
    refine ⟨by rw [zeroCells_size,rep_length,hz1],fun j hj=>?_⟩
    rw [rep_length] at hj
    have:=q2 j hj
    simpa [Builtin.zeroCells,hz1] using this
   have hempty:Ra μ ι w.drew [] #[]:=⟨rfl,fun j hj=>absurd hj (Nat.not_lt_zero _)⟩
   obtain ⟨g1,g2⟩:=grow_row hempty hra (Builtin.zeroCells zv.cells (nc - n))
   rw [List.nil_append] at g1 g2
   have hone':=one_append (one_append (us:=#[]) (fun j hj=>by simp at hj) (zeroCells_one hz4 n)) (zeroCells_one hz4 (nc - n))
   obtain ⟨I2,x2⟩:=Id.newCells el _ (rep n z) g1 hone' g2
   have hto:((n:Int)).toNat=n:=by simp
   rw [hto]
   refine ⟨_,_,_,ι, .inl (hex hrun),I2,xd.trans x2,?_,Kept.new _ _⟩
   have hsz2:zv.cells.size=i.size:=by rw [hz1,hzl]
   exact sref_new (by simp [zeroCells_size,hsz2];rw [← Nat.add_mul];exact Nat.mul_le_mul_right _ (by omega)) hnc
  ·cases hr
theorem new_sound {lo:LOp} (hnew:isNewL lo=true) (hc:compOp c o=some lo) (hρ:Ho μ ι w c e a o) (I:Inv cmp w0 μ ι δ s w) (hr:lo.run e s=some (v,s')):OpOk cmp w0 μ ι δ s w c.P a o v s':=by
 have lk:s'=s∧Looks μ ι w c.P a o v→OpOk cmp w0 μ ι δ s w c.P a o v s':=fun h=>by
  obtain ⟨rfl,h⟩:=h
  exact ok_look I h
 cases ho:o.op
 case range t x=>
  simp only [compOp,ho] at hc
  split at hc
  ·rename_i hu
   obtain ⟨y,hy,hc⟩:=bind_some hc
   cases hc
   exact ok_mrange ho I hρ hu hy hr
  ·cases hc
 case entry x=>
  simp only [compOp,ho] at hc
  obtain ⟨y,hy,rfl⟩:=map_some' hc
  exact lk (look_mentry ho I hρ hy hr)
 case next x b=>
  cases b<;>simp only [compOp,ho,reduceCtorEq] at hc
  obtain ⟨y,hy,rfl⟩:=map_some' hc
  cases hnew
 case makeMap t x=>
  simp only [compOp,ho] at hc
  split at hc
  ·rename_i hu
   obtain ⟨y,hy,hc⟩:=bind_some hc
   cases hc
   exact ok_mkmap ho I hρ hu hy hr
  ·cases hc
 case lookup t m k ok=>
  simp only [compOp,ho] at hc
  split at hc
  ·rename_i hu
   obtain ⟨kd,hk,hc⟩:=bind_some hc
   obtain ⟨z,hz,hc⟩:=bind_some hc
   obtain ⟨lz,hlz,hc⟩:=bind_some hc
   obtain ⟨ym,hm,hc⟩:=bind_some hc
   obtain ⟨yk,hkk,hc⟩:=bind_some hc
   cases hc
   exact ok_lookup ho I hρ hu hk hz hlz hm hkk hr
  ·cases hc
 case mapUpdate t m k x=>
  simp only [compOp,ho] at hc
  split at hc
  ·rename_i hu
   obtain ⟨kd,hk,hc⟩:=bind_some hc
   obtain ⟨ym,hm,hc⟩:=bind_some hc
   obtain ⟨yk,hkk,hc⟩:=bind_some hc
   obtain ⟨yx,hxx,hc⟩:=bind_some hc
   cases hc
   exact ok_mupd (.inl ho) I hρ hu hk hm hkk hxx hr
  ·cases hc
 case insert t m k x=>
  simp only [compOp,ho] at hc
  split at hc
  ·rename_i hu
   obtain ⟨kd,hk,hc⟩:=bind_some hc
   obtain ⟨ym,hm,hc⟩:=bind_some hc
   obtain ⟨yk,hkk,hc⟩:=bind_some hc
   obtain ⟨yx,hxx,hc⟩:=bind_some hc
   cases hc
   exact ok_mupd (.inr ho) I hρ hu hk hm hkk hxx hr
  ·cases hc
 case convert t d x=>
  simp only [compOp,ho] at hc
  split at hc
  ·obtain ⟨_,_,hc⟩:=bind_some hc
   obtain ⟨_,_,hc⟩:=bind_some hc
   cases hc
   cases hnew
  ·rename_i hk
   split at hc
   ·rename_i hts
    split at hc
    ·rename_i hel
     obtain ⟨y,hy,rfl⟩:=map_some' hc
     exact lk (look_bytesStr ho I hρ hk hts hel hy hr)
    ·cases hc
   ·obtain ⟨y,hy,rfl⟩:=map_some' hc
    cases hnew
   ·cases hc
  ·cases hc
 case slice t x l h m=>
  cases m with
  | none=>
   exfalso
   simp only [compOp,ho] at hc
   split at hc
   ·obtain ⟨_,_,hc⟩:=bind_some hc;obtain ⟨_,_,hc⟩:=bind_some hc;obtain ⟨_,_,hc⟩:=bind_some hc;obtain ⟨_,_,hc⟩:=bind_some hc;cases hc;cases hnew
   ·obtain ⟨_,_,hc⟩:=bind_some hc;obtain ⟨_,_,hc⟩:=bind_some hc;obtain ⟨_,_,hc⟩:=bind_some hc;cases hc;cases hnew
   ·obtain ⟨_,_,hc⟩:=bind_some hc;obtain ⟨_,_,hc⟩:=bind_some hc;obtain ⟨_,_,hc⟩:=bind_some hc;obtain ⟨_,_,hc⟩:=bind_some hc;cases hc;cases hnew
   ·cases hc
  | some mx=>
   cases l<;>cases h<;>simp only [compOp,ho,reduceCtorEq] at hc
   split at hc
   ·rename_i hu
    obtain ⟨n,hn,hc⟩:=bind_some hc;obtain ⟨y,hy,hc⟩:=bind_some hc;obtain ⟨y1,hy1,hc⟩:=bind_some hc;obtain ⟨y2,hy2,hc⟩:=bind_some hc;obtain ⟨y3,hy3,hc⟩:=bind_some hc
    cases hc
    exact lk (look_sliceZ ho hρ hu hn hy hy1 hy2 hy3 hr)
   ·cases hc
 case call cl=>
  obtain ⟨cal,as,ts⟩:=cl
  cases cal<;>simp only [compOp,ho,reduceCtorEq] at hc
  case value f=>
   obtain ⟨_,_,hc⟩:=bind_some hc;obtain ⟨_,_,hc⟩:=bind_some hc;cases hc;cases hnew
  case builtin bb=>
   unfold compBuiltin at hc
   split at hc
   ·rename_i x t has hts
    have h1:as = #[x]:=by apply Array.ext';simpa using has
    have h2:ts = #[t]:=by apply Array.ext';simpa using hts
    subst h1;subst h2
    unfold compLen at hc
    split at hc
    ·obtain ⟨_,_,hc⟩:=bind_some hc;cases hc;cases hnew
    ·obtain ⟨_,_,hc⟩:=bind_some hc;cases hc;cases hnew
    ·cases hc;cases hnew
    ·rename_i hu
     obtain ⟨y,hy,hc⟩:=bind_some hc;cases hc
     exact lk (look_lenMap ho I hρ hu hy hr)
    ·cases hc
   ·rename_i x y t u has hts
    have h1:as = #[x,y]:=by apply Array.ext';simpa using has
    have h2:ts = #[t,u]:=by apply Array.ext';simpa using hts
    subst h1;subst h2
    unfold compAppend at hc
    split at hc
    ·rename_i ht
     obtain ⟨d,hu,hc⟩:=bind_some hc;obtain ⟨i,hi,hc⟩:=bind_some hc;obtain ⟨z,hz,hc⟩:=bind_some hc
     split at hc
     ·cases hc
     ·rename_i hno
      simp only [not_or,ne_eq,Decidable.not_not] at hno
      obtain ⟨g0,g1,g3⟩:=hno
      split at hc
      ·split at hc<;>(obtain ⟨_,_,hc⟩:=bind_some hc;obtain ⟨_,_,hc⟩:=bind_some hc;cases hc;cases hnew)
      ·split at hc
       ·rename_i hd
        obtain ⟨lx,hlx,hc⟩:=bind_some hc;obtain ⟨ly,hly,hc⟩:=bind_some hc;cases hc
        exact ok_appz ho I hρ ht hu hd hi g0 g1 hz g3 hlx hly hr
       ·cases hc
    ·cases hc
   ·exfalso
    unfold compCopy at hc
    split at hc
    ·obtain ⟨_,_,hc⟩:=bind_some hc;obtain ⟨_,_,hc⟩:=bind_some hc;obtain ⟨_,_,hc⟩:=bind_some hc;cases hc;cases hnew
    ·cases hc
   ·rename_i x t has hts
    have h1:as = #[x]:=by apply Array.ext';simpa using has
    have h2:ts = #[t]:=by apply Array.ext';simpa using hts
    subst h1;subst h2
    unfold compCap at hc
    split at hc
    ·rename_i hu
     obtain ⟨y,hy,hc⟩:=bind_some hc;cases hc
     exact lk (look_capZ ho hρ hu hy hr)
    ·cases hc
   ·exfalso
    unfold compClr at hc
    split at hc
    ·obtain ⟨_,_,hc⟩:=bind_some hc;obtain ⟨_,_,hc⟩:=bind_some hc;obtain ⟨_,_,hc⟩:=bind_some hc;cases hc;cases hnew
    ·cases hc
   ·obtain ⟨_,_,hc⟩:=bind_some hc;cases hc;cases hnew
   ·obtain ⟨_,_,hc⟩:=bind_some hc;cases hc;cases hnew
   ·cases hc
 all_goals exfalso
 all_goals simp only [compOp,ho,reduceCtorEq,Option.map_eq_some_iff,and_false,exists_false] at hc
 all_goals repeat' (first | (cases hc;cases hnew;done) | (cases hc;done) | (obtain ⟨_,_,rfl⟩:=hc;cases hnew;done) | contradiction | (obtain ⟨_,_,hc⟩:=bind_some hc) | (split at hc))
end
end Go.Pv
end
section
set_option linter.unusedSimpArgs false
set_option linter.unusedVariables false
namespace Go.Pv
open Go Go.RowKit
section
variable {P:Program} {w:World} {w0:Bs} {μ:Mu} {ι:Io} {δ:Nat→Prop} {s s':St} {cmp:Nat→LCode→Code→Prop} {c:Ctx} {e:Env} {a:Act} {o:Oper} {v:LV}
theorem frzTry_ok {l l':List LV} {s s':St} (ι:Io) (f:Nat→Value) (h:frzTry l s=(l',s')) (I:Inv cmp w0 μ ι δ s w) (hv:∀ i,i<l.length→Rv μ ι w (l.getD i .top) (f i)) :
  ∃ ι',Inv cmp w0 μ ι' δ s' w∧Ext μ ι δ w μ ι' δ w∧l'.length=l.length∧(∀ i,i<l.length→Rv μ ι' w (l'.getD i .top) (f i))∧FrzStep μ s s':=by
 unfold frzTry at h
 split at h
 ·rename_i r hr
  subst h
  exact frzAll_ok (frz_ok frzDepth) _ _ _ _ ι f hr I hv
 ·cases h
  exact ⟨ι,I,Ext.refl _ _ _ _,rfl,hv, .refl _ _⟩
theorem ok_append {x y:Operand} {t u:TypeId} (ho:o.op = .call { callee:=.builtin .append,args:=#[x,y],argTypes:=#[t,u] }) (I:Inv cmp w0 μ ι δ s w) (hρ:Ho μ ι w c e a o) {lo:LOp} (hnew:isNewL lo=false) (hc:compAppend c x y t u=some lo)
  (hr:lo.run e s=some (v,s')):OpOk cmp w0 μ ι δ s w c.P a o v s':=by
 unfold compAppend at hc
 cases ht:c.P.underlying t with
 | none=>simp [ht] at hc
 | some ty=>
  rw [ht] at hc
  cases ty<;>simp only [reduceCtorEq] at hc
  rename_i el
  obtain ⟨d,hu,hc⟩:=bind_some hc
  obtain ⟨i,hi,hc⟩:=bind_some hc
  obtain ⟨z,hz,hc⟩:=bind_some hc
  split at hc
  ·cases hc
  ·rename_i hno
   simp only [not_or,ne_eq,Decidable.not_not,Bool.not_eq_false] at hno
   obtain ⟨h0,h1,h3⟩:=hno
   split at hc
   case isFalse=>
    exfalso
    split at hc
    ·obtain ⟨_,_,hc⟩:=bind_some hc;obtain ⟨_,_,hc⟩:=bind_some hc;cases hc;cases hnew
    ·cases hc
   rename_i h2
   split at hc
   ·obtain ⟨lx,hlx,hc⟩:=bind_some hc
    obtain ⟨ly,hly,hc⟩:=bind_some hc
    cases hc
    have hx:=hρ x lx (by simp [ho,Op.operands,Call.operands]) hlx
    have hy:=hρ y ly (by simp [ho,Op.operands,Call.operands]) hly
    unfold LOp.run at hr
    dsimp only at hr
    obtain ⟨n,hn,hr⟩:=bind_some hr
    obtain ⟨new,hnew0,hr⟩:=bind_some hr
    obtain ⟨arr,ha1,ha2,ha3,ha4⟩:=rowOf_rel (P:=c.P) I hy hnew0
    have hl:=lenOf_rel (w:=w) hy hn
    obtain ⟨r,w',μ',ι',hrun,I2,x2,rv,k2⟩:=app_sound (ty:=o.type) ht hu h2 hi h0 h1 hz h3 I hx hl (new:=new) (arr:=arr) ha1 ha2 ha3 ha4 hr
    refine ⟨r,w',μ',ι', .inl ?_,I2,x2,rv,k2⟩
    simp only [execOp,ho,resolve,Sem.run_bind,Sem.run_pure,Result.andThen_ok,invoke,builtin,List.map_toArray,List.map_cons,List.map_nil]
    have:=hrun
    unfold AppRun at this
    rw [this];rfl
   obtain ⟨lx,hlx,hc⟩:=bind_some hc
   obtain ⟨ly,hly,hc⟩:=bind_some hc
   cases hc
   have hx:=hρ x lx (by simp [ho,Op.operands,Call.operands]) hlx
   have hy:=hρ y ly (by simp [ho,Op.operands,Call.operands]) hly
   unfold LOp.run at hr
   dsimp only at hr
   obtain ⟨n,hn,hr⟩:=bind_some hr
   obtain ⟨new0,hnew0,hr⟩:=bind_some hr
   obtain ⟨arr,ha1,ha2,ha3,ha4⟩:=rowOf_rel (P:=c.P) I hy hnew0
   generalize hft:frzTry new0 s=ft at hr
   obtain ⟨new,s1⟩:=ft
   dsimp only at hr
   obtain ⟨ι1,I1,x1,l1,r1,f1⟩:=frzTry_ok ι (fun j=>arr.getD j undef) hft I ha2.2
   have hl:=lenOf_rel (w:=w) hy hn
   obtain ⟨r,w',μ',ι',hrun,I2,x2,rv,k2⟩:=app_sound (ty:=o.type) ht hu h2 hi h0 h1 hz h3 I1 (hx.ext x1) hl (new:=new) (arr:=arr) ha1 ⟨by rw [ha2.1,l1],fun j hj=>r1 j (by rw [← l1];exact hj)⟩ ha3 (by rw [l1];exact ha4) hr
   refine ⟨r,w',μ',ι', .inl ?_,I2,x1.trans x2,rv,(Kept.of_frz f1).trans k2⟩
   simp only [execOp,ho,resolve,Sem.run_bind,Sem.run_pure,Result.andThen_ok,invoke,builtin,List.map_toArray,List.map_cons,List.map_nil]
   have:=hrun
   unfold AppRun at this
   rw [this];rfl
theorem minInt (n len:Nat):Nat.min n len=min n len:=rfl
theorem ok_copy {x y:Operand} {t u:TypeId} (ho:o.op = .call { callee:=.builtin .copy,args:=#[x,y],argTypes:=#[t,u] }) (I:Inv cmp w0 μ ι δ s w) (hρ:Ho μ ι w c e a o) {lo:LOp} (hc:compCopy c x y t=some lo)
  (hr:lo.run e s=some (v,s')):OpOk cmp w0 μ ι δ s w c.P a o v s':=by
 unfold compCopy at hc
 cases ht:c.P.underlying t with
 | none=>simp [ht] at hc
 | some ty =>
  rw [ht] at hc
  cases ty<;>simp only [reduceCtorEq] at hc
  rename_i el
  obtain ⟨sz,hsz,hc⟩:=bind_some hc
  obtain ⟨lx,hlx,hc⟩:=bind_some hc
  obtain ⟨ly,hly,hc⟩:=bind_some hc
  cases hc
  have hx:=hρ x lx (by simp [ho,Op.operands,Call.operands]) hlx
  have hy:=hρ y ly (by simp [ho,Op.operands,Call.operands]) hly
  unfold LOp.run at hr
  dsimp only at hr
  obtain ⟨n,hn,hr'⟩:=bind_some hr
  clear hr
  have hr:=hr'
  clear hr'
  have hl:=lenOf_rel (w:=w) hy hn
  generalize lx.ev e=vx at *
  generalize hav:a.eval x=ax at *
  generalize hbv:a.eval y=ay at *
  have hexec:∀ {r:Value} {w':World},(Builtin.copy_ #[t,u] o.type #[ax,ay]).run c.P w = .ok r w'→(execOp a.eval o).run c.P w = .ok (.value r) w':=fun h=>by
   simp only [execOp,ho,resolve,Sem.run_bind,Sem.run_pure,Result.andThen_ok,invoke,builtin,List.map_toArray,List.map_cons,List.map_nil,hav,hbv,h]
  cases hx<;>try (cases hr;done)
  case nils=>
   cases hr
   refine ⟨.int .i64 0,w,μ,ι, .inl (hexec ?_),I,Ext.refl _ _ _ _, .int _ _,Kept.refl _ _⟩
   obtain ⟨arr,h1,_⟩:∃ arr,(Builtin.firstCells sz 0 ay).run c.P w = .ok arr w∧True:=by
    generalize hly':ly.ev e=vy at *
    cases hy<;>simp only [lenLV,reduceCtorEq] at hn<;>first
     | exact ⟨_,by simp [Builtin.firstCells];rfl,trivial⟩
     | exact ⟨#[],by simp [Builtin.firstCells,loadCells,loadCellsFrom],trivial⟩
   simp only [Builtin.copy_]
   simp [ru ht,hl,rsz hsz,h1,goInt]
  case sref =>
   rename_i id off len es cap p off' hp hcap hlc had
   dsimp only at hr
   obtain ⟨new,hnew,hr'⟩:=bind_some hr
   clear hr
   have hr:=hr'
   clear hr'
   split at hr
   ·rename_i cs hg
    split at hr
    ·rename_i hb
     obtain ⟨hes,hin⟩:=hb
     subst hes
     simp only [Option.some.injEq,Prod.mk.injEq] at hr
     obtain ⟨rfl,rfl⟩:=hr
     obtain ⟨arr,ha1,ha2,ha3,ha4⟩:=rowOf_rel (P:=c.P) I hy hnew
     obtain ⟨_,k1,k2,k3,_,_,_⟩:=I.blk id _ p hg hp
     have hmin:min n len≤len:=Nat.min_le_right _ _
     have hmul:min n len*es≤len*es:=Nat.mul_le_mul_right _ hmin
     have harr:arr.toList.length=new.length:=by simpa using ha2.1
     have hoff:∀ {j},j<new.length→off'=off:=fun {j} hj=>had (by
      rintro rfl
      have:len=0:=by omega
      subst this
      rw [ha4] at hj
      simp at hj)
     have hgd:∀ j,arr.toList.getD j undef=arr.getD j undef:=fun j=>by simp [List.getD_eq_getElem?_getD,Array.getD_eq_getD_getElem?]
     obtain ⟨w',hw',W⟩:=run_storeCells (P:=c.P) p.b (p.off+off') arr.toList 0 w (fun y hy=>by
       obtain ⟨j,hj,rfl⟩:=List.getElem_of_mem hy
       have hj':j<arr.size:=by simpa using hj
       have:=ha3 j hj'
       simpa [Array.getD_eq_getD_getElem?,hj'] using this) (fun j hj=>by
       rw [harr] at hj
       obtain ⟨u,hu,_⟩:=k2 (off+j) (by omega)
       exact ⟨u,by rw [← hu,hoff hj];congr 2;omega⟩) (fun j hj=>by
       rw [harr] at hj
       exact k3 _)
     rw [Nat.add_zero] at W
     have W':Wrote p.b (p.off+off) arr.toList w w':=by
      by_cases h0:new.length=0
      ·have hnil:arr.toList=[]:=List.length_eq_zero_iff.1 (by rw [harr,h0])
       rw [hnil] at W ⊢
       exact ⟨W.os,W.tape,W.output,W.size,W.block,fun i hi=>absurd hi (Nat.not_lt_zero _),fun a _=>W.miss a (by simp;omega),W.frozen,W.shape⟩
      ·have:=hoff (j:=0) (by omega)
       subst this;exact W
     obtain ⟨I',x'⟩:=I.write hg hp new arr.toList harr (by omega) (fun j hj=>by rw [hgd];exact ha2.2 j hj) (fun j hj=>by rw [hgd];exact ha3 j (by simpa using hj)) W'
     refine ⟨.int .i64 (min n len:Nat),w',μ,ι, .inl (hexec ?_),I',x', .int _ _,Kept.put hp _⟩
     have hfc:=ha1 w (Same.refl w)
     simp only [Builtin.copy_]
     simp [ru ht,hl,rsz hsz,minInt,hfc,goInt,hw']
    ·cases hr
   ·cases hr
theorem ok_clr {x:Operand} {t:TypeId} (ho:o.op = .call { callee:=.builtin .clear,args:=#[x],argTypes:=#[t] }) (I:Inv cmp w0 μ ι δ s w) (hρ:Ho μ ι w c e a o) {lo:LOp} (hc:compClr c x t=some lo)
  (hr:lo.run e s=some (v,s')):OpOk cmp w0 μ ι δ s w c.P a o v s':=by
 unfold compClr at hc
 cases ht:c.P.underlying t with
 | none=>simp [ht] at hc
 | some ty =>
  rw [ht] at hc
  cases ty<;>simp only [reduceCtorEq] at hc
  rename_i el
  obtain ⟨sz,hsz,hc⟩:=bind_some hc
  obtain ⟨z,hz,hc⟩:=bind_some hc
  obtain ⟨lx,hlx,hc⟩:=bind_some hc
  cases hc
  have hx:=hρ x lx (by simp [ho,Op.operands,Call.operands]) hlx
  unfold LOp.run at hr
  dsimp only at hr
  generalize lx.ev e=vx at *
  generalize hav:a.eval x=ax at *
  have hexec:∀ {r:Value} {w':World},(Builtin.clear_ #[t] o.type #[ax]).run c.P w = .ok r w'→(execOp a.eval o).run c.P w = .ok (.value r) w':=fun h=>by
   simp only [execOp,ho,resolve,Sem.run_bind,Sem.run_pure,Result.andThen_ok,invoke,builtin,List.map_toArray,List.map_cons,List.map_nil,hav,h]
  cases hx<;>try (cases hr;done)
  case nils=>
   cases hr
   refine ⟨.tuple #[],w,μ,ι, .inl (hexec ?_),I,Ext.refl _ _ _ _, .tup rfl (fun i hi=>absurd hi (Nat.not_lt_zero i)),Kept.refl _ _⟩
   simp only [Builtin.clear_]
   simp [ru ht]
  case zs=>
   cases hr
   refine ⟨.tuple #[],w,μ,ι, .inl (hexec ?_),I,Ext.refl _ _ _ _, .tup rfl (fun i hi=>absurd hi (Nat.not_lt_zero i)),Kept.refl _ _⟩
   simp only [Builtin.clear_]
   simp [ru ht]
  case sref =>
   rename_i id off len es cap p off' hp hcap hlc had
   dsimp only at hr
   cases len with
   | zero=>
    cases hr
    refine ⟨.tuple #[],w,μ,ι, .inl (hexec ?_),I,Ext.refl _ _ _ _, .tup rfl (fun i hi=>absurd hi (Nat.not_lt_zero i)),Kept.refl _ _⟩
    simp only [Builtin.clear_]
    simp [ru ht]
   | succ len=>
    rw [if_neg (by omega)] at hr
    split at hr
    ·rename_i cs hg
     split at hr
     ·rename_i hb
      obtain ⟨hes,hzl,hin⟩:=hb
      subst hes
      simp only [Option.some.injEq,Prod.mk.injEq] at hr
      obtain ⟨rfl,rfl⟩:=hr
      obtain rfl:off'=off:=had (by omega)
      obtain ⟨zv,hzr,hza,hzc⟩:=zeroC_run (μ:=μ) (ι:=ι) (w:=w) hz
      have hz4:=hza.one (by simpa using hzc)
      have hra:Ra μ ι w (rep (len+1) z) (Builtin.zeroCells zv.cells (len+1)):=by
       refine ⟨by rw [zeroCells_size,rep_length,hza.1],fun j hj=>?_⟩
       rw [rep_length] at hj
       by_cases hz0:z.length=0
       ·rw [hz0] at hj;simp at hj
       ·have:=(zeroRow_rel (μ:=μ) (ι:=ι) (w:=w) hza (by omega) (len+1) (len+1) (Nat.le_refl _)).2 j hj
        simpa [Builtin.zeroCells,hza.1] using this
      have ho1:=zeroCells_one hz4 (len+1)
      obtain ⟨_,k1,k2,k3,_,_,_⟩:=I.blk id _ p hg hp
      generalize hnew:rep (len+1) z=new at *
      generalize harrE:Builtin.zeroCells zv.cells (len+1)=arr at *
      have harr:arr.toList.length=new.length:=by simpa using hra.1
      have hnl:new.length=(len+1)*es:=by rw [← hnew,rep_length,hzl]
      have hgd:∀ j,arr.toList.getD j undef=arr.getD j undef:=fun j=>by simp [List.getD_eq_getElem?_getD,Array.getD_eq_getD_getElem?]
      obtain ⟨w',hw',W⟩:=run_storeCells (P:=c.P) p.b (p.off+off') arr.toList 0 w (fun y hy=>by
        obtain ⟨j,hj,rfl⟩:=List.getElem_of_mem hy
        have hj':j<arr.size:=by simpa using hj
        have:=ho1 j hj'
        simpa [Array.getD_eq_getD_getElem?,hj'] using this) (fun j hj=>by
        rw [harr,hnl] at hj
        obtain ⟨u,hu,_⟩:=k2 (off'+j) (by omega)
        exact ⟨u,by rw [← hu];congr 2;omega⟩) (fun j hj=>by
        rw [harr,hnl] at hj
        exact k3 _)
      rw [Nat.add_zero] at W
      obtain ⟨I',x'⟩:=I.write hg hp new arr.toList harr (by omega) (fun j hj=>by rw [hgd];exact hra.2 j hj) (fun j hj=>by rw [hgd];exact ho1 j (by simpa using hj)) W
      refine ⟨.tuple #[],w',μ,ι, .inl (hexec ?_),I',x', .tup rfl (fun i hi=>absurd hi (Nat.not_lt_zero i)),Kept.put hp _⟩
      have hzr':(zeroValue el).run c.P w = .ok zv w:=hzr
      simp only [Builtin.clear_]
      simp [ru ht,hzr',harrE,hw']
     ·cases hr
    ·cases hr
theorem op_sound {lo:LOp} (hc:compOp c o=some lo) (hρ:Ho μ ι w c e a o) (I:Inv cmp w0 μ ι δ s w) (hr:lo.run e s=some (v,s')):OpOk cmp w0 μ ι δ s w c.P a o v s':=by
 cases hnew:isNewL lo with
 | true=>exact new_sound hnew hc hρ I hr
 | false=>
 by_cases hl:Op.looks o.op=true
 ·obtain ⟨rfl,h⟩:=look_sound hl hc hρ I hnew hr
  exact ok_look I h
 ·by_cases hm:Op.makes o.op=true
  ·by_cases hrow:isRow lo=true
   ·exact ok_row I hm hrow hc hρ hr
   ·cases ho:o.op<;>rw [ho] at hm<;>(try (cases hm;done))<;>have hc':=hc<;>simp only [compOp,ho,reduceCtorEq] at hc
    case alloc t=>obtain ⟨z,hz,hc⟩:=bind_some hc;cases hc;exact absurd rfl hrow
    case box t x=>
     obtain ⟨y,hy,hc⟩:=bind_some hc
     cases hc
     cases hb:boxIm c o<;>rw [hb] at hr hrow
     ·exact absurd rfl hrow
     ·exact ok_box ho I hρ hy hr
    case buildSlice t len ps=>
     cases hu:c.P.underlying t with
     | none=>simp [hu] at hc
     | some ty=>
      rw [hu] at hc
      cases ty<;>simp only [reduceCtorEq] at hc
      obtain ⟨sz,hsz,hc⟩:=bind_some hc
      obtain ⟨z,hz,hc⟩:=bind_some hc
      split at hc
      ·cases hc
      ·obtain ⟨ls,hls,hc⟩:=bind_some hc
       cases hc
       exact absurd rfl hrow
    case makeSlice t l k=>
     cases hu:c.P.underlying t with
     | none=>simp [hu] at hc
     | some ty=>
      rw [hu] at hc
      cases ty<;>simp only [reduceCtorEq] at hc
      obtain ⟨i,hi,hc⟩:=bind_some hc
      obtain ⟨z,hz,hc⟩:=bind_some hc
      split at hc
      ·cases hc
      ·obtain ⟨ll,hll,hc⟩:=bind_some hc
       obtain ⟨lk,hlk,hc⟩:=bind_some hc
       cases hc
       exact absurd rfl hrow
  ·cases ho:o.op<;>rw [ho] at hl hm<;>simp only [Op.looks,Op.makes,not_true_eq_false] at hl hm<;>(try (simp only [compOp,ho,reduceCtorEq] at hc;done))<;>simp only [compOp,ho] at hc
   case range t x=>
    exfalso
    split at hc
    ·obtain ⟨_,_,hc⟩:=bind_some hc;cases hc;cases hnew
    ·cases hc
   case entry x=>
    exfalso
    obtain ⟨_,_,rfl⟩:=map_some' hc
    cases hnew
   case next x b=>
    exfalso
    cases b<;>simp only [compOp,ho,reduceCtorEq] at hc
    obtain ⟨_,_,rfl⟩:=map_some' hc
    cases hr
   case makeMap t x=>
    exfalso
    split at hc
    ·obtain ⟨_,_,hc⟩:=bind_some hc;cases hc;cases hnew
    ·cases hc
   case lookup t m k ok=>
    exfalso
    split at hc
    ·obtain ⟨_,_,hc⟩:=bind_some hc;obtain ⟨_,_,hc⟩:=bind_some hc;obtain ⟨_,_,hc⟩:=bind_some hc;obtain ⟨_,_,hc⟩:=bind_some hc;obtain ⟨_,_,hc⟩:=bind_some hc;cases hc;cases hnew
    ·cases hc
   case mapUpdate t m k x=>
    exfalso
    split at hc
    ·obtain ⟨_,_,hc⟩:=bind_some hc;obtain ⟨_,_,hc⟩:=bind_some hc;obtain ⟨_,_,hc⟩:=bind_some hc;obtain ⟨_,_,hc⟩:=bind_some hc;cases hc;cases hnew
    ·cases hc
   case insert t m k x=>
    exfalso
    split at hc
    ·obtain ⟨_,_,hc⟩:=bind_some hc;obtain ⟨_,_,hc⟩:=bind_some hc;obtain ⟨_,_,hc⟩:=bind_some hc;obtain ⟨_,_,hc⟩:=bind_some hc;cases hc;cases hnew
    ·cases hc
   case store t x y=>
    obtain ⟨n,hn,hc⟩:=bind_some hc;obtain ⟨lx,hlx,hc⟩:=bind_some hc;obtain ⟨ly,hly,hc⟩:=bind_some hc;cases hc
    exact ok_store ho I hρ hn hlx hly hr
   case call cl=>
    obtain ⟨cal,as,ts⟩:=cl
    cases cal<;>dsimp only at hc<;>try (cases hc;done)
    case value f=>
     obtain ⟨lf,hlf,hc⟩:=bind_some hc;obtain ⟨las,hlas,hc⟩:=bind_some hc;cases hc
     cases hr
    case builtin b=>
     unfold compBuiltin at hc
     rcases has:as.toList with _ | ⟨x,_ | ⟨y,_ | ⟨z,xs⟩⟩⟩<;>rcases hts:ts.toList with _ | ⟨t,_ | ⟨u,_ | ⟨t3,tl⟩⟩⟩<;>rw [has,hts] at hc<;>cases b<;>(try (cases hc;done))<;>(try (exact absurd rfl hl)) 
     case append=>
      have h1:as = #[x,y]:=by apply Array.ext';simpa using has
      have h2:ts = #[t,u]:=by apply Array.ext';simpa using hts
      subst h1;subst h2
      exact ok_append ho I hρ hnew hc hr
     case copy=>
      have h1:as = #[x,y]:=by apply Array.ext';simpa using has
      have h2:ts = #[t,u]:=by apply Array.ext';simpa using hts
      subst h1;subst h2
      exact ok_copy ho I hρ hc hr
     case clear=>
      have h1:as = #[x]:=by apply Array.ext';simpa using has
      have h2:ts = #[t]:=by apply Array.ext';simpa using hts
      subst h1;subst h2
      exact ok_clr ho I hρ hc hr
     case cap=>
      exfalso
      simp only at hc
      unfold compCap at hc
      split at hc
      ·obtain ⟨_,_,hc⟩:=bind_some hc;cases hc;cases hnew
      ·cases hc
end
end Go.Pv
end
section
namespace Go.Pv
open Go Go.RowKit
inductive Out where
 | normal
 | jmp (j:Jmp)
def cmpR (P:Program) (G:List (Nat × List LV)):Nat→LCode→Code→Prop:=fun nt lc c=>∃ refs,compCode ⟨P,G,refs,nt⟩ c=lc
abbrev Globs:=List (Nat × List LV)
structure Now (P:Program) (G:Globs) (w0:Bs) (μ:Mu) (ι:Io) (δ:Nat→Prop) (s:St) (w:World):Prop where
 inv:Inv (cmpR P G) w0 μ ι δ s w
 glob:∀ x∈G,Rv μ ι w (.pimm x.2 0) (.pointer (some ⟨x.1,0,none⟩))
 /-- In a run that owns all it knows,no immutable cell is a part of a string. -/
 own:ownG G=true→∀ b o,w0.κ b o→PlainB w0.w b∨∃ x∈G,b=x.1∧o<x.2.length
structure Fr (P:Program) (G:Globs) (w0:Bs) (μ:Mu) (ι:Io) (δ:Nat→Prop) (s:St) (w:World) (nt:Nat) (e:Env) (a:Act):Prop where
 now:Now P G w0 μ ι δ s w
 re:Re μ ι w e a.tmps
 size:a.tmps.size=nt
def mark (r:Nat):Deferred:={ target:=.collected r,args:=#[] }
structure Went (μ:Mu) (ι:Io) (δ:Nat→Prop) (s:St) (w:World) (ds:List Deferred) (μ':Mu) (ι':Io) (δ':Nat→Prop) (s':St) (w':World) (ds':List Deferred):Prop where
 ext:Ext μ ι δ w μ' ι' δ' w'
 kept:Kept μ s μ' s'
 marks:∃ rs:List Nat,ds'=rs.map mark++ds∧rs.Nodup∧(∀ r∈rs,¬ δ r)∧∀ r,δ' r↔δ r∨r∈rs
theorem Went.refl {μ:Mu} {ι:Io} {δ:Nat→Prop} {s:St} {w:World} {ds:List Deferred} : Went μ ι δ s w ds μ ι δ s w ds:=
 ⟨Ext.refl _ _ _ _,Kept.refl _ _,[],rfl,List.nodup_nil,fun _ h=>absurd h (List.not_mem_nil),fun r=>by simp⟩
theorem Went.trans {μ μ' μ'':Mu} {ι ι' ι'':Io} {δ δ' δ'':Nat→Prop} {s s' s'':St} {w w' w'':World} {ds ds' ds'':List Deferred}
  (h:Went μ ι δ s w ds μ' ι' δ' s' w' ds') (k:Went μ' ι' δ' s' w' ds' μ'' ι'' δ'' s'' w'' ds''):Went μ ι δ s w ds μ'' ι'' δ'' s'' w'' ds'':=by
 obtain ⟨r1,a1,b1,c1,d1⟩:=h.marks
 obtain ⟨r2,a2,b2,c2,d2⟩:=k.marks
 refine ⟨h.ext.trans k.ext,h.kept.trans k.kept,r2++r1,by rw [a2,a1];simp,?_,fun r hr=>?_,fun r=>?_⟩
 ·refine List.nodup_append.2 ⟨b2,b1,fun x hx y hy e=>?_⟩
  subst e
  exact c2 x hx ((d1 x).2 (.inr hy))
 ·rcases List.mem_append.1 hr with hr | hr
  ·exact fun hd=>c2 r hr ((d1 r).2 (.inl hd))
  ·exact c1 r hr
 ·rw [d2,d1,List.mem_append]
  constructor
  ·rintro ((h | h) | h)<;>simp [h]
  ·rintro (h | h | h)<;>simp [h]
theorem Went.one {μ μ':Mu} {ι ι':Io} {δ:Nat→Prop} {s s':St} {w w':World} {ds:List Deferred} (x:Ext μ ι δ w μ' ι' δ w') (k:Kept μ s μ' s'):Went μ ι δ s w ds μ' ι' δ s' w' ds:=
 ⟨x,k,[],rfl,List.nodup_nil,fun _ h=>absurd h (List.not_mem_nil),fun r=>by simp⟩
section
variable {P:Program} {G:Globs}
theorem Now.ext {w0:Bs} {μ μ':Mu} {ι ι':Io} {δ δ':Nat→Prop} {s s':St} {w w':World} (h:Now P G w0 μ ι δ s w) (I:Inv (cmpR P G) w0 μ' ι' δ' s' w') (x:Ext μ ι δ w μ' ι' δ' w'):Now P G w0 μ' ι' δ' s' w' :=
 ⟨I,fun g hg=>(h.glob g hg).ext x,h.own⟩
def Arr (P:Program) (m:Machine) (b:Frame) (a:Act) (k:List Item) (cs:List Frame) (w:World):Out→Prop
 | .normal=>Steps P m (lone (b.atR a k) cs w)
 | .jmp .ret=>∃ k',Steps P m (lone (b.atR a (.code .ret::k')) cs w)
 | .jmp (.exit id)=>∃ k',exitTo id k'=exitTo id k∧Steps P m (lone (b.atR a (.code (.exit id)::k')) cs w)
theorem Arr.head {m m':Machine} {b:Frame} {a:Act} {k:List Item} {cs:List Frame} {w:World} {o:Out} (h:Steps P m m') (h':Arr P m' b a k cs w o):Arr P m b a k cs w o:=by
 rcases o with _ | _ | id
 ·exact Steps.trans h h'
 ·obtain ⟨k',h'⟩:=h';exact ⟨k',Steps.trans h h'⟩
 ·obtain ⟨k',hk,h'⟩:=h';exact ⟨k',hk,Steps.trans h h'⟩
def CodeOk (P:Program) (G:Globs) (rd:Bool) (nt:Nat) (lc:LCode) (e:Env) (s:St) (Q:Out→Env→St→Prop):Prop:=
 ∀ (c:Code),cmpR P G nt lc c→∀ (w0:Bs) (μ:Mu) (ι:Io) (δ:Nat→Prop) (w:World) (b:Frame) (a:Act) (k:List Item) (cs:List Frame),
  b.roundOf.isSome=rd→Fr P G w0 μ ι δ s w nt e a →
  ∃ o e' s' μ' ι' δ' w' a',Q o e' s'∧Arr P (lone (b.atR a (.code c::k)) cs w) b a' k cs w' o∧Fr P G w0 μ' ι' δ' s' w' nt e' a' ∧
   Went μ ι δ s w a.defers μ' ι' δ' s' w' a'.defers
theorem CodeOk.mono {rd:Bool} {nt:Nat} {lc:LCode} {e:Env} {s:St} {Q Q':Out→Env→St→Prop} (h:CodeOk P G rd nt lc e s Q) (hq:∀ o e s,Q o e s→Q' o e s):CodeOk P G rd nt lc e s Q':=by
 intro c hc w0 μ ι δ w b a k cs hb hf
 obtain ⟨o,e',s',μ',ι',δ',w',a',q,r⟩:=h c hc w0 μ ι δ w b a k cs hb hf
 exact ⟨o,e',s',μ',ι',δ',w',a',hq _ _ _ q,r⟩
section
variable {c:Ctx}
theorem comp_skip {x:Code} (h:compCode c x = .skip):x = .skip∨∃ l,x = .label l:=by
 cases x<;>simp only [compCode,reduceCtorEq] at h
 ·exact .inl rfl
 ·split at h<;>cases h
 ·split at h<;>cases h
 ·split at h<;>(try cases h);split at h<;>cases h
 ·exact .inr ⟨_,rfl⟩
theorem comp_seq {x:Code} {a b:LCode} (h:compCode c x = .seq a b):∃ y z,x = .seq y z∧compCode c y=a∧compCode c z=b:=by
 cases x<;>simp only [compCode,reduceCtorEq] at h
 ·split at h<;>cases h
 ·cases h;exact ⟨_,_,rfl,rfl,rfl⟩
 ·split at h<;>cases h
 ·split at h<;>(try cases h);split at h<;>cases h
theorem comp_cond {x:Code} {y:Opd} {a b:LCode} (h:compCode c x = .cond y a b):∃ t p q,x = .cond t p q∧opd c t=some y∧compCode c p=a∧compCode c q=b:=by
 cases x<;>simp only [compCode,reduceCtorEq] at h
 ·split at h<;>cases h
 ·split at h
  ·rename_i hy;cases h;exact ⟨_,_,_,rfl,hy,rfl,rfl⟩
  ·cases h
 ·split at h<;>(try cases h);split at h<;>cases h
theorem comp_block {x:Code} {id:Nat} {a:LCode} (h:compCode c x = .block id a):∃ y,x = .block id y∧compCode c y=a:=by
 cases x<;>simp only [compCode,reduceCtorEq] at h
 ·split at h<;>cases h
 ·split at h<;>cases h
 ·cases h;exact ⟨_,rfl,rfl⟩
 ·split at h<;>(try cases h);split at h<;>cases h
theorem comp_loop {x:Code} {a:LCode} (h:compCode c x = .loop a):∃ y,x = .loop y∧compCode c y=a:=by
 cases x<;>simp only [compCode,reduceCtorEq] at h
 ·split at h<;>cases h
 ·split at h<;>cases h
 ·cases h;exact ⟨_,rfl,rfl⟩
 ·split at h<;>(try cases h);split at h<;>cases h
theorem comp_scope {x:Code} {a:LCode} (h:compCode c x = .scope a):∃ y,x = .scope y∧compCode c y=a:=by
 cases x<;>simp only [compCode,reduceCtorEq] at h
 ·split at h<;>cases h
 ·split at h<;>cases h
 ·split at h<;>(try cases h);split at h<;>cases h
 ·cases h;exact ⟨_,rfl,rfl⟩
theorem comp_exit {x:Code} {id:Nat} (h:compCode c x = .exit id):x = .exit id:=by
 cases x<;>simp only [compCode,reduceCtorEq] at h
 ·split at h<;>cases h
 ·split at h<;>cases h
 ·split at h<;>(try cases h);split at h<;>cases h
 ·cases h;rfl
theorem comp_ret {x:Code} (h:compCode c x = .ret):x = .ret:=by
 cases x<;>simp only [compCode,reduceCtorEq] at h
 ·split at h<;>cases h
 ·split at h<;>cases h
 ·split at h<;>(try cases h);split at h<;>cases h
 ·rfl
end
section
variable {rd:Bool} {nt:Nat} {e:Env} {s:St} {Q:Out→Env→St→Prop}
theorem ok_skip (h:Q .normal e s):CodeOk P G rd nt .skip e s Q:=by
 rintro c ⟨refs,hc⟩ w0 μ ι δ w b a k cs hb hf
 refine ⟨.normal,e,s,μ,ι,δ,w,a,h,?_,hf,Went.refl⟩
 rcases comp_skip hc with rfl | ⟨l,rfl⟩
 ·exact .one stepR_skip
 ·exact .one stepR_label
theorem ok_exit {id:Nat} (h:Q (.jmp (.exit id)) e s):CodeOk P G rd nt (.exit id) e s Q:=by
 rintro c ⟨refs,hc⟩ w0 μ ι δ w b a k cs hb hf
 obtain rfl:=comp_exit hc
 exact ⟨.jmp (.exit id),e,s,μ,ι,δ,w,a,h,⟨k,rfl, .refl _ _⟩,hf,Went.refl⟩
theorem ok_ret (h:Q (.jmp .ret) e s):CodeOk P G rd nt .ret e s Q:=by
 rintro c ⟨refs,hc⟩ w0 μ ι δ w b a k cs hb hf
 obtain rfl:=comp_ret hc
 exact ⟨.jmp .ret,e,s,μ,ι,δ,w,a,h,⟨k, .refl _ _⟩,hf,Went.refl⟩
def Thn (R:Env→St→Prop) (Q:Out→Env→St→Prop):Out→Env→St→Prop
 | .normal,e,s=>R e s
 | .jmp j,e,s=>Q (.jmp j) e s
theorem ok_seq {x y:LCode} (h:CodeOk P G rd nt x e s (Thn (fun e s=>CodeOk P G rd nt y e s Q) Q)):CodeOk P G rd nt (.seq x y) e s Q:=by
 rintro c ⟨refs,hc⟩ w0 μ ι δ w b a k cs hb hf
 obtain ⟨c1,c2,rfl,h1,h2⟩:=comp_seq hc
 obtain ⟨o,e1,s1,μ1,ι1,δ1,w1,a1,q,har,hf1,hw⟩:=h c1 ⟨refs,h1⟩ w0 μ ι δ w b a (.code c2::k) cs hb hf
 rcases o with _ | _ | id
 ·obtain ⟨o,e2,s2,μ2,ι2,δ2,w2,a2,q2,har2,hf2,hw2⟩:=q c2 ⟨refs,h2⟩ w0 μ1 ι1 δ1 w1 b a1 k cs hb hf1
  exact ⟨o,e2,s2,μ2,ι2,δ2,w2,a2,q2,Arr.head (.head stepR_seq har) har2,hf2,hw.trans hw2⟩
 ·obtain ⟨k',har⟩:=har
  exact ⟨_,e1,s1,μ1,ι1,δ1,w1,a1,q,⟨k', .head stepR_seq har⟩,hf1,hw⟩
 ·obtain ⟨k',hk,har⟩:=har
  exact ⟨_,e1,s1,μ1,ι1,δ1,w1,a1,q,⟨k',hk, .head stepR_seq har⟩,hf1,hw⟩
theorem opd_rel {c:Ctx} {w0:Bs} {μ:Mu} {ι:Io} {δ:Nat→Prop} {w:World} {a:Act} (_hP:c.P=P) (hG:c.globs=G) (hN:Now P G w0 μ ι δ s w) {x:Operand} {y:Opd} (h:opd c x=some y)
  (hr:∀ t,x = .tmp t→Rv μ ι w (e.at t) (a.tmps.getD t undef)):Rv μ ι w (y.ev e) (a.eval x):=by
 cases x with
 | tmp t=>cases h;have:=hr t rfl;simpa [Act.eval] using this
 | const v=>
  simp only [opd,Option.map_eq_some_iff] at h
  obtain ⟨z,hz,rfl⟩:=h
  exact rv_constC hz
 | global g=>
  simp only [opd,Option.map_eq_some_iff] at h
  obtain ⟨z,hz,rfl⟩:=h
  obtain ⟨h1,h2⟩:=List.find?_eq_some_iff_append.1 hz
  have hm:z∈G:=by rw [← hG];exact List.mem_of_find?_eq_some hz
  have:=hN.glob z hm
  have hg:z.1=g:=by simpa using h1
  rw [hg] at this
  exact this
 | func f=>cases h;exact .fn rfl rfl (fun i hi=>absurd hi (Nat.not_lt_zero _)) (fun i hi=>absurd hi (Nat.not_lt_zero _))
theorem ok_cond {y:Opd} {t:Bool} {p q:LCode} (ht:y.ev e = .bool t) (h:CodeOk P G rd nt (if t then p else q) e s Q):CodeOk P G rd nt (.cond y p q) e s Q:=by
 rintro c ⟨refs,hc⟩ w0 μ ι δ w b a k cs hb hf
 obtain ⟨x,c1,c2,rfl,hx,h1,h2⟩:=comp_cond hc
 have hv:=opd_rel (c:=⟨P,G,refs,nt⟩) rfl rfl hf.now hx (fun t _=>hf.re t)
 rw [ht] at hv
 have hev:a.eval x = .bool t:=by generalize a.eval x=z at hv;cases hv;rfl
 obtain ⟨o,e1,s1,μ1,ι1,δ1,w1,a1,q,har,hf1,hw⟩:=h (if t then c1 else c2) ⟨refs,by cases t<;>simpa⟩ w0 μ ι δ w b a k cs hb hf
 exact ⟨o,e1,s1,μ1,ι1,δ1,w1,a1,q,Arr.head (.one (stepR_cond hev)) har,hf1,hw⟩
theorem ok_scope {x:LCode} (h:CodeOk P G rd nt x e s Q):CodeOk P G rd nt (.scope x) e s Q:=by
 rintro c ⟨refs,hc⟩ w0 μ ι δ w b a k cs hb hf
 obtain ⟨c1,rfl,h1⟩:=comp_scope hc
 obtain ⟨o,e1,s1,μ1,ι1,δ1,w1,a1,q,har,hf1,hw⟩:=h c1 ⟨refs,h1⟩ w0 μ ι δ w b a (.inScope c1::k) cs hb hf
 have h0:step P (lone (b.atR a (.code (.scope c1)::k)) cs w) = .next (lone (b.atR a (.code c1::.inScope c1::k)) cs w):=step_lone_go (by simp [stepG,stepG.exec,Frame.atR])
 rcases o with _ | _ | id
 ·refine ⟨_,e1,s1,μ1,ι1,δ1,w1,a1,q,Steps.head h0 (Steps.trans har (.one ?_)),hf1,hw⟩
  exact step_lone_go (by simp [stepG,stepG.exec,Frame.atR])
 ·obtain ⟨k',har⟩:=har
  exact ⟨_,e1,s1,μ1,ι1,δ1,w1,a1,q,⟨k', .head h0 har⟩,hf1,hw⟩
 ·obtain ⟨k',hk,har⟩:=har
  exact ⟨_,e1,s1,μ1,ι1,δ1,w1,a1,q,⟨k',hk, .head h0 har⟩,hf1,hw⟩
def Blkd (id:Nat) (Q:Out→Env→St→Prop):Out→Env→St→Prop
 | .jmp (.exit id'),e,s=>if id'=id then Q .normal e s else Q (.jmp (.exit id')) e s
 | o,e,s=>Q o e s
theorem ok_block {id:Nat} {x:LCode} (h:CodeOk P G rd nt x e s (Blkd id Q)):CodeOk P G rd nt (.block id x) e s Q:=by
 rintro c ⟨refs,hc⟩ w0 μ ι δ w b a k cs hb hf
 obtain ⟨c1,rfl,h1⟩:=comp_block hc
 obtain ⟨o,e1,s1,μ1,ι1,δ1,w1,a1,q,har,hf1,hw⟩:=h c1 ⟨refs,h1⟩ w0 μ ι δ w b a (.inBlock id::k) cs hb hf
 rcases o with _ | _ | id'
 ·exact ⟨_,e1,s1,μ1,ι1,δ1,w1,a1,q,Steps.head stepR_block (Steps.trans har (.one stepR_inBlock)),hf1,hw⟩
 ·obtain ⟨k',har⟩:=har
  exact ⟨_,e1,s1,μ1,ι1,δ1,w1,a1,q,⟨k', .head stepR_block har⟩,hf1,hw⟩
 ·obtain ⟨k',hk,har⟩:=har
  simp only [Blkd] at q
  by_cases hid:id'=id
  ·rw [if_pos hid] at q
   subst hid
   refine ⟨.normal,e1,s1,μ1,ι1,δ1,w1,a1,q,Steps.head stepR_block (Steps.trans har (.one (stepR_exit ?_))),hf1,hw⟩
   rw [hk];simp [exitTo]
  ·rw [if_neg hid] at q
   refine ⟨_,e1,s1,μ1,ι1,δ1,w1,a1,q,⟨k',?_, .head stepR_block har⟩,hf1,hw⟩
   rw [hk]
   simp [exitTo,Ne.symm hid]
theorem ok_loop_inv {x:LCode} (I:Nat→Env→St→Prop) (hI:∀ n e s,I n e s→CodeOk P G rd nt x e s (Thn (fun e s=>∃ m,m<n∧I m e s) Q)) (n:Nat) (h:I n e s):CodeOk P G rd nt (.loop x) e s Q:=by
 rintro c ⟨refs,hc⟩ w0 μ ι δ w b a k cs hb hf
 obtain ⟨c1,rfl,h1⟩:=comp_loop hc
 have key:∀ n e s,I n e s→∀ (μ:Mu) (ι:Io) (δ:Nat→Prop) (w:World) (a:Act),Fr P G w0 μ ι δ s w nt e a→∃ o e' s' μ' ι' δ' w' a',Q o e' s'∧o≠.normal ∧
   Arr P (lone (b.atR a (.inLoop c1::k)) cs w) b a' k cs w' o∧Fr P G w0 μ' ι' δ' s' w' nt e' a'∧Went μ ι δ s w a.defers μ' ι' δ' s' w' a'.defers:=by
  intro n
  induction n using Nat.strongRecOn with
  | ind n ih=>
   intro e s hI' μ ι δ w a hf
   obtain ⟨o,e1,s1,μ1,ι1,δ1,w1,a1,q,har,hf1,hw⟩:=hI n e s hI' c1 ⟨refs,h1⟩ w0 μ ι δ w b a (.inLoop c1::k) cs hb hf
   rcases o with _ | _ | id
   ·obtain ⟨m,hm,him⟩:=q
    obtain ⟨o,e2,s2,μ2,ι2,δ2,w2,a2,q2,hne,har2,hf2,hw2⟩:=ih m hm e1 s1 him μ1 ι1 δ1 w1 a1 hf1
    exact ⟨o,e2,s2,μ2,ι2,δ2,w2,a2,q2,hne,Arr.head (.head stepR_inLoop har) har2,hf2,hw.trans hw2⟩
   ·obtain ⟨k',har⟩:=har
    exact ⟨_,e1,s1,μ1,ι1,δ1,w1,a1,q,(by simp),⟨k', .head stepR_inLoop har⟩,hf1,hw⟩
   ·obtain ⟨k',hk,har⟩:=har
    exact ⟨_,e1,s1,μ1,ι1,δ1,w1,a1,q,(by simp),⟨k',hk, .head stepR_inLoop har⟩,hf1,hw⟩
 obtain ⟨o,e1,s1,μ1,ι1,δ1,w1,a1,q,har,hf1,hw⟩:=hI n e s h c1 ⟨refs,h1⟩ w0 μ ι δ w b a (.inLoop c1::k) cs hb hf
 rcases o with _ | _ | id
 ·obtain ⟨m,hm,him⟩:=q
  obtain ⟨o,e2,s2,μ2,ι2,δ2,w2,a2,q2,hne,har2,hf2,hw2⟩:=key m e1 s1 him μ1 ι1 δ1 w1 a1 hf1
  exact ⟨o,e2,s2,μ2,ι2,δ2,w2,a2,q2,Arr.head (.head stepR_loop har) har2,hf2,hw.trans hw2⟩
 ·obtain ⟨k',har⟩:=har
  exact ⟨_,e1,s1,μ1,ι1,δ1,w1,a1,q,⟨k', .head stepR_loop har⟩,hf1,hw⟩
 ·obtain ⟨k',hk,har⟩:=har
  exact ⟨_,e1,s1,μ1,ι1,δ1,w1,a1,q,⟨k',hk, .head stepR_loop har⟩,hf1,hw⟩
end
end
end Go.Pv
end
section
set_option linter.unusedSimpArgs false
set_option linter.unusedVariables false
namespace Go.Pv
open Go Go.RowKit
section
variable {P:Program} {G:Globs} {w0:Bs} {w:World} {μ:Mu} {ι:Io} {δ:Nat→Prop} {s:St} {c:Ctx}
theorem plain_inv {b:Nat} (h:PlainB w b):∃ cs t lo hi,w.heap[b]? = some (.cells cs t (lo,hi))∧∀ o,(decide (lo≤o) && decide (o<hi))=false:=by
 obtain ⟨⟨x,hx⟩,hf⟩:=h
 unfold World.shape? at hx
 split at hx
 ·rename_i cs t fz hb
  obtain ⟨lo,hi⟩:=fz
  refine ⟨cs,t,lo,hi,hb,fun o=>?_⟩
  have:=hf o
  simpa [World.frozen?,hb] using this
 ·cases hx
theorem run_sameAddr_plain {x y:Addr} (ha:PlainB w x.block) (hb:PlainB w y.block):(sameAddr x y).run P w = .ok (x == y) w:=by
 by_cases hbl:x.block=y.block
 ·simp [sameAddr,hbl]
 ·have hne:(x == y)=false:=by
   rw [beq_eq_false_iff_ne]
   rintro rfl
   exact hbl rfl
  obtain ⟨c1,t1,l1,h1,e1,f1⟩:=plain_inv ha
  obtain ⟨c2,t2,l2,h2,e2,f2⟩:=plain_inv hb
  rw [hne]
  simp [sameAddr,hbl,World.frozen?,e1,e2,f1,f2,noView,viewAt,World.shape?,mayBeOne,stringish]
theorem agreeL_of:∀ (l l':List LV),(∀ i,i<l.length→i<l'.length→agree (l.getD i .top) (l'.getD i .top)=true)→agree.agreeL l l'=true:=by
 intro l
 induction l with
 | nil=>intro l' _;cases l'<;>rfl
 | cons a l ih=>
  intro l' h
  cases l' with
  | nil=>rfl
  | cons b l' =>
   simp only [agree.agreeL,Bool.and_eq_true]
   exact ⟨by simpa using h 0 (by simp) (by simp),ih l' fun i h1 h2=>by simpa using h (i+1) (by simpa using h1) (by simpa using h2)⟩
theorem agree_of {a:LV} {v:Value} (ha:Rv μ ι w a v):∀ {b:LV},Rv μ ι w b v→agree a b=true:=by
 induction ha with
 | int k n=>intro b hb;cases hb<;>simp [agree]
 | str x=>intro b hb;cases hb<;>simp [agree]
 | bool x=>intro b hb;cases hb<;>simp [agree]
 | nils=>intro b hb;cases hb<;>simp [agree]
 | simm vs hc hi h1 h hlc ih=>
  rename_i cs len bb o cap
  intro b hb
  generalize hv:Value.slice (some ⟨bb,o,none⟩) len cap=v at hb
  cases hb with
  | simm vs' hc' hi' h1' h' hlc' =>
   cases hv
   simp only [agree,Bool.and_eq_true,beq_self_eq_true,true_and]
   refine agreeL_of _ _ fun i h2 h3=>ih i h2 ?_
   have e:vs i=vs' i:=Option.some.inj ((hc i h2).symm.trans (hc' i h3))
   rw [e]
   exact h' i h3
  | nils=>cases hv
  | _=>rfl
 | _=>intro b _;cases b<;>rfl
theorem Now.plain (hN:Now P G w0 μ ι δ s w) (ho:ownG G=true) {b o:Nat} (hi:ι b o):PlainB w b∨∃ x∈G,b=x.1∧o<x.2.length:=by
 by_cases hb:w0.heap.size≤b
 ·exact .inl (hN.inv.own b o hi hb)
 ·rcases hN.own ho b o (hN.inv.low b o hi (by omega)) with ⟨⟨x,hx⟩,hf⟩ | h
  ·have he:=hN.inv.below.block b (by omega)
   refine .inl ⟨⟨x,?_⟩,fun o=>?_⟩
   ·unfold World.shape? at hx ⊢;rw [he];exact hx
   ·have:=hf o
    unfold World.frozen? at this ⊢
    dsimp only at this ⊢
    rw [he];exact this
  ·exact .inr h
theorem Now.plainC (hN:Now P G w0 μ ι δ s w) (ho:ownG G=true) {cs:List LV} {vs:Nat→Value} {b o:Nat} (hc:∀ i,i<cs.length→w.cell? ⟨b,o+i,none⟩=some (vs i)) (hi:∀ i,i<cs.length→ι b (o+i))
  (h:∀ i,i<cs.length→Rv μ ι w (cs.getD i .top) (vs i)) (hs:cs.any isSlcL=true):PlainB w b:=by
 obtain ⟨v,hv,hsl⟩:=List.any_eq_true.1 hs
 obtain ⟨i,hil,rfl⟩:=List.getElem_of_mem hv
 rcases hN.plain ho (hi i hil) with h1 | ⟨x,hx,rfl,hlt⟩
 ·exact h1
 ·exfalso
  have hg:=hN.glob x hx
  have hsc:isScalL (x.2.getD (o+i) .top)=true:=by
   unfold ownG at ho
   simp only [Bool.and_eq_true,List.all_eq_true] at ho
   have:=ho.2 x hx (x.2[o+i]) (List.getElem_mem hlt)
   simpa [List.getD_eq_getElem?_getD,hlt] using this
  generalize hva:Value.pointer (some ⟨x.1,0,none⟩)=va at hg
  cases hg with
  | pimm vs' hc' hi' h1' h' =>
   injection hva with hva
   injection hva with hva
   injection hva with e1 e2 e3
   subst e1
   have e0:∀ j,w.cell? ⟨x.1,o+i,none⟩=w.cell? ⟨x.1,j+(o+i),none⟩→True:=fun _ _=>trivial
   rename_i o'
   obtain rfl:o'=0:=by omega
   have k1:=hc' (o+i) hlt
   rw [Nat.zero_add,hc i hil] at k1
   have k2:=h' (o+i) hlt
   rw [← Option.some.inj k1] at k2
   have k3:=h i hil
   have e4:cs.getD i .top=cs[i]:=by simp [List.getD_eq_getElem?_getD,hil]
   rw [e4] at k3
   generalize cs[i]=a at k3 hsl
   generalize x.2.getD (o+i) .top=d at k2 hsc
   generalize vs i=u at k2 k3
   cases k2<;>simp [isScalL] at hsc<;>cases k3<;>simp [isSlcL] at hsl
end
end Go.Pv
end
section
set_option linter.unusedSimpArgs false
namespace Go.Pv
open Go Go.RowKit
def Goes (P:Program) (vf:Value) (vargs:Array Value) (w:World) (c:Frame) (cs:List Frame) (v:Value) (w':World):Prop:=
 ∃ d nx w1,(∀ w,(Deferred.ofValue vf vargs).run P w = .ok d w)∧(invoke d.target d.args).run P w = .ok nx w1 ∧
  match nx with
  | .enter f as=>Steps P (lone (Frame.enter P f as .normal) (c::cs) w1) (lone (c.finish v) cs w')
  | .round l f tmps as bo=>Steps P (lone (Frame.round l f tmps as bo .normal) (c::cs) w1) (lone (c.finish v) cs w')
  | .value v'=>v'=v∧w1=w'
  | _=>False
def CallOk (P:Program) (G:Globs) (f:LV) (args:List LV) (s:St) (Q:LV→St→Prop):Prop:=
 ∀ (w0:Bs) (μ:Mu) (ι:Io) (δ:Nat→Prop) (w:World) (vf:Value) (vargs:Array Value) (c:Frame) (cs:List Frame),Now P G w0 μ ι δ s w→Rv μ ι w f vf→vargs.size=args.length→(∀ i,i<args.length→Rv μ ι w (args.getD i .top) (vargs.getD i undef)) →
  ∃ lv s' μ' ι' w' v,Q lv s'∧Goes P vf vargs w c cs v w'∧Inv (cmpR P G) w0 μ' ι' δ s' w'∧Ext μ ι δ w μ' ι' δ w'∧Kept μ s μ' s'∧Rv μ' ι' w' lv v
theorem CallOk.mono {P:Program} {G:Globs} {f:LV} {args:List LV} {s:St} {Q Q':LV→St→Prop} (h:CallOk P G f args s Q) (hq:∀ v s,Q v s→Q' v s):CallOk P G f args s Q':=by
 intro w0 μ ι δ w vf vargs c cs hN hf hl ha
 obtain ⟨lv,s',μ',ι',w',v,q,r⟩:=h w0 μ ι δ w vf vargs c cs hN hf hl ha
 exact ⟨lv,s',μ',ι',w',v,hq _ _ q,r⟩
def strictOk (fl:Bool) (o:LOp) (e:Env):Bool:=
 match o with
 | .box true x=>!fl || (x.ev e).closed
 | _=>true
def NextOk (v:LV) (s:St) (R:LV→St→Prop):Prop:=
 match v with
 | .pref id 0=>
  match s.get id with
  | some (.iter none _ _ _)=>R (.tup [.bool false]) s
  | some (.iter (some m) n0 seen last) =>
   match s.get m with
   | some (.map es)=>(seen=[]∨0<last) ∧
     (∀ i,i<es.length→i ∉ seen→R (.tup [.bool true,(es.getD i default).1,(es.getD i default).2]) (s.put id (.iter (some m) n0 (seen++[i]) es.length))) ∧
     ((∀ i,i<n0→i<es.length→i∈seen)→R (.tup [.bool false]) s)
   | _=>False
  | _=>False
 | _=>False
theorem NextOk.mono {v:LV} {s:St} {R R':LV→St→Prop} (h:NextOk v s R) (hr:∀ v s,R v s→R' v s):NextOk v s R':=by
 unfold NextOk at *
 split at h
 ·split at h
  ·exact hr _ _ h
  ·split at h
   ·exact ⟨h.1,fun i hi hn=>hr _ _ (h.2.1 i hi hn),fun ha=>hr _ _ (h.2.2 ha)⟩
   ·exact h.elim
  ·exact h.elim
 ·exact h.elim
def EqpOk (G:Globs) (neg:Bool) (x y:LV) (s:St) (R:LV→St→Prop):Prop:=
 match x,y with
 | .pimm cs o, .pimm cs' o'=>ownG G=true∧cs.any isSlcL=true∧cs'.any isSlcL=true∧R (.bool neg) s∧(agree.agreeL (cs.drop o) (cs'.drop o')=true→R (.bool (!neg)) s)
 | .nilp, .pimm _ _=>R (.bool neg) s
 | .pimm _ _, .nilp=>R (.bool neg) s
 | .nilp, .nilp=>R (.bool (!neg)) s
 | _,_=>False
theorem EqpOk.mono {G:Globs} {neg:Bool} {x y:LV} {s:St} {R R':LV→St→Prop} (h:EqpOk G neg x y s R) (hr:∀ v s,R v s→R' v s):EqpOk G neg x y s R':=by
 unfold EqpOk at h ⊢
 split at h
 ·exact ⟨h.1,h.2.1,h.2.2.1,hr _ _ h.2.2.2.1,fun ha=>hr _ _ (h.2.2.2.2 ha)⟩
 ·exact hr _ _ h
 ·exact hr _ _ h
 ·exact hr _ _ h
 ·exact h.elim
def OpGo (P:Program) (G:Globs) (fl:Bool) (o:LOp) (e:Env) (s:St) (R:LV→St→Prop):Prop:=
 match o with
 | .call f as=>CallOk P G (f.ev e) (as.map (·.ev e)) s R
 | .mnext x=>NextOk (x.ev e) s R
 | .eqp n x y=>EqpOk G n (x.ev e) (y.ev e) s R
 | o=>match o.run e s with
  | some (v,s')=>strictOk fl o e=true∧R v s'
  | none=>False
def Chks:List (Nat × Option (Nat × Bool) × LOp)→Env→St→Prop
 | [],_,_=>True
 | (t,g,o)::r,e,s=>(wantedG g e=some false∨(wantedG g e=some true∧o.run e s=some (e.at t,s)))∧Chks r e s
def Chain (P:Program) (G:Globs):List LOper→Env→St→(Env→St→Prop)→Prop
 | [],e,s,K=>K e s
 | o::l,e,s,K=>
  match wantedG o.guard e with
  | none=>False
  | some false=>Chain P G l (e.put o.dst (.tup [])) s K
  | some true=>OpGo P G o.fl o.op e s (fun v s'=>Chks o.chk (e.put o.dst v) s'∧Chain P G l (e.put o.dst v) s' K)
section
variable {P:Program} {G:Globs} {w0:Bs} {μ μ':Mu} {ι ι':Io} {δ:Nat→Prop} {s s':St} {w w':World} {c:Ctx} {e:Env} {a:Act} {b:Frame} {k:List Item} {cs:List Frame} {ops:Array Oper} {o:Oper} {i:Nat} {rest:List Nat} {lo:LOper}
def isCallL:LOp→Bool
 | .call .. | .mnext _ | .eqp .. => true
 | _=>false
theorem opGo_eq {fl:Bool} {lo:LOp} {R:LV→St→Prop} (h:isCallL lo=false):OpGo P G fl lo e s R=(match lo.run e s with | some (v,s')=>strictOk fl lo e=true∧R v s' | none=>False):=by
 cases lo<;>first | rfl | cases h
theorem isCallL_inv {lo:LOp} (h:isCallL lo=true):(∃ f as,lo = .call f as)∨(∃ x,lo = .mnext x)∨∃ n x y,lo = .eqp n x y:=by
 cases lo<;>first | exact .inl ⟨_,_,rfl⟩ | exact .inr (.inl ⟨_,rfl⟩) | exact .inr (.inr ⟨_,_,_,rfl⟩) | cases h
theorem opGo_inv {fl:Bool} {lo:LOp} {R:LV→St→Prop} (h:OpGo P G fl lo e s R) (hn:isCallL lo=false):∃ v s',lo.run e s=some (v,s')∧strictOk fl lo e=true∧R v s':=by
 rw [opGo_eq hn] at h
 cases hr:lo.run e s with
 | none=>rw [hr] at h;exact h.elim
 | some p=>rw [hr] at h;exact ⟨p.1,p.2,rfl,h.1,h.2⟩
theorem OpGo.mono {fl:Bool} {lo:LOp} {R R':LV→St→Prop} (h:OpGo P G fl lo e s R) (hr:∀ v s,R v s→R' v s):OpGo P G fl lo e s R':=by
 cases hc:isCallL lo with
 | true=>
  rcases isCallL_inv hc with ⟨f,as,rfl⟩ | ⟨x,rfl⟩ | ⟨n,x,y,rfl⟩
  ·exact CallOk.mono h hr
  ·exact NextOk.mono h hr
  ·exact EqpOk.mono h hr
 | false=>
  obtain ⟨v,s',h1,h2,h3⟩:=opGo_inv h hc
  rw [opGo_eq hc,h1]
  exact ⟨h2,hr _ _ h3⟩
theorem Chain.mono {K K':Env→St→Prop} (hk:∀ e s,K e s→K' e s):∀ {l:List LOper} {e:Env} {s:St},Chain P G l e s K→Chain P G l e s K':=by
 intro l
 induction l with
 | nil=>intro e s h;exact hk _ _ h
 | cons o l ih=>
  intro e s h
  simp only [Chain] at h ⊢
  split at h
  ·exact h.elim
  ·exact ih h
  ·exact h.mono fun v s hh=>⟨hh.1,ih hh.2⟩
theorem compOper_inv (h:compOper c ops o=some lo):compOp c o=some lo.op∧lo.dst=o.dst∧(∀ d,o.dst=some d→d<c.nt) ∧
  (match o.guard with | none=>lo.guard=none | some (j,want)=>∃ d,(ops[j]?).bind (·.dst)=some d∧lo.guard=some (d,want)):=by
 unfold compOper at h
 obtain ⟨op,hop,h⟩:=bind_some h
 refine ⟨?_,?_⟩
 ·rw [hop];congr 1
  cases hd:o.dst<;>simp only [hd] at h
  ·cases hg:o.guard<;>simp only [hg] at h
   ·simp at h;exact h ▸ rfl
   ·obtain ⟨d,hd',h⟩:=bind_some h
    cases h;rfl
  ·split at h
   ·cases hg:o.guard<;>simp only [hg] at h
    ·simp at h;exact h ▸ rfl
    ·obtain ⟨d,hd',h⟩:=bind_some h
     cases h;rfl
   ·simp at h
 ·cases hd:o.dst<;>simp only [hd] at h
  ·cases hg:o.guard<;>simp only [hg] at h
   ·simp at h;subst h;exact ⟨rfl,fun d hd'=>by (cases hd'),rfl⟩
   ·obtain ⟨d,hd',h⟩:=bind_some h
    cases h;exact ⟨rfl,fun d hd'=>by (cases hd'),d,hd',rfl⟩
  ·split at h
   ·rename_i hlt
    cases hg:o.guard<;>simp only [hg] at h
    ·simp at h;subst h;exact ⟨rfl,fun d hd'=>by (cases hd';exact hlt),rfl⟩
    ·obtain ⟨d,hd',h⟩:=bind_some h
     cases h;exact ⟨rfl,fun d hd'=>by (cases hd';exact hlt),d,hd',rfl⟩
   ·simp at h
theorem wanted_rel {t:Bool} (hlo:compOper c ops o=some lo) (h:wantedG lo.guard e=some t) (hr:∀ d want,lo.guard=some (d,want)→Rv μ ι w (e.at d) (a.tmps.getD d undef)) :
  Region.wanted o (yielded ops a.tmps)=t:=by
 obtain ⟨_,_,_,hg⟩:=compOper_inv hlo
 unfold Region.wanted
 cases ho:o.guard with
 | none=>
  rw [ho] at hg
  have hg':lo.guard=none:=hg
  rw [hg'] at h
  cases h;rfl
 | some p=>
  obtain ⟨j,want⟩:=p
  rw [ho] at hg
  obtain ⟨d,hd,hg⟩:=hg
  have hv:=hr d want hg
  rw [hg] at h
  simp only [wantedG] at h
  simp only [yielded,hd,Option.bind_some]
  cases he:e.at d<;>rw [he] at h hv<;>simp only [reduceCtorEq] at h
  ·rename_i bb
   have hb:a.tmps[d]? = some (.bool bb):=by
    generalize hx:a.tmps.getD d undef=x at hv
    cases hv
    by_cases hlt:d<a.tmps.size
    ·simpa [Array.getD_eq_getD_getElem?,hlt] using hx
    ·simp [Array.getD_eq_getD_getElem?,hlt,undef] at hx
   rw [hb]
   simpa using h
  ·have hb:∀ bb,a.tmps[d]? ≠ some (.bool bb):=by
    intro bb hb
    have:a.tmps.getD d undef = .bool bb:=by simp [Array.getD_eq_getD_getElem?,hb]
    rw [this] at hv
    cases hv
   have ht:t=false:=by simpa using h.symm
   subst ht
   split
   ·rename_i bb hb';exact absurd hb' (hb bb)
   ·simp
theorem ne_defer {lo:LOp} (h:compOp c o=some lo):∀ x,o.op≠.defer x:=by
 intro x hx
 simp [compOp,hx] at h
theorem stepR_value {x:Value} (ho:ops[i]? = some o) (hw:Region.wanted o (yielded ops a.tmps)=true) (hd:∀ x,o.op≠.defer x)
  (hr:(execOp a.eval o).run P w = .ok (.value x) w'∨((execOp a.eval o).run P w = .ok .skip w'∧x=undef)) :
  step P (lone (b.atR a (.inRegion ops (i::rest)::k)) cs w) = .next (lone (b.atR (a.put o.dst x) (.inRegion ops rest::k)) cs w'):=by
 have hg:=stepGR_op (P:=P) (b:=b) (k:=k) (cs:=cs) (w:=w) (rest:=rest) ho hw
 rw [Oper.semAt_eq _ _ _ hd] at hg
 have hf:∀ x,(b.atR a (.inRegion ops (i::rest)::k)).finish x=b.atR (a.put o.dst x) (.inRegion ops rest::k):=fun x=>by
  rw [Frame.finish_atR,ho];rfl
 refine step_lone_go ?_
 rw [hg]
 rcases hr with hr | ⟨hr,rfl⟩
 ·simp [stepG.apply,Sem.runT_eq,hr,hf]
 ·simp [stepG.apply,Sem.runT_eq,hr,hf]
theorem stepR_goes {v:Value} {f:Operand} {as:Array Operand} {ts:Array TypeId} (ho:ops[i]? = some o) (hw:Region.wanted o (yielded ops a.tmps)=true)
  (hop:o.op = .call { callee:=.value f,args:=as,argTypes:=ts }) (hg:Goes P (a.eval f) (as.map a.eval) w (b.atR a (.inRegion ops (i::rest)::k)) cs v w') :
  Steps P (lone (b.atR a (.inRegion ops (i::rest)::k)) cs w) (lone (b.atR (a.put o.dst v) (.inRegion ops rest::k)) cs w'):=by
 obtain ⟨d,nx,w1,h1,h2,h3⟩:=hg
 have hrun:(execOp a.eval o).run P w = .ok nx w1:=by
  simp only [execOp,hop,resolve,Sem.run_bind,h1,Result.andThen_ok,h2]
 have hd:∀ x,o.op≠.defer x:=by intro x;rw [hop];simp
 have hgs:=stepGR_op (P:=P) (b:=b) (k:=k) (cs:=cs) (w:=w) (rest:=rest) ho hw
 rw [Oper.semAt_eq _ _ _ hd] at hgs
 have hf:∀ x,(b.atR a (.inRegion ops (i::rest)::k)).finish x=b.atR (a.put o.dst x) (.inRegion ops rest::k):=fun x=>by
  rw [Frame.finish_atR,ho];rfl
 cases nx<;>try (exact h3.elim)
 case value v' =>
  obtain ⟨rfl,rfl⟩:=h3
  exact .one (stepR_value ho hw hd (.inl hrun))
 case enter f' as' =>
  refine .head (m₁:=lone (Frame.enter P f' as' .normal) (b.atR a (.inRegion ops (i::rest)::k)::cs) w1) ?_ ?_
  ·refine step_lone_go ?_
   rw [hgs]
   simp [stepG.apply,Sem.runT_eq,hrun,Frame.atR]
  ·have:=h3
   dsimp only at this
   rwa [hf] at this
 case round l f' tmps as' bo=>
  refine .head (m₁:=lone (Frame.round l f' tmps as' bo .normal) (b.atR a (.inRegion ops (i::rest)::k)::cs) w1) ?_ ?_
  ·refine step_lone_go ?_
   rw [hgs]
   simp [stepG.apply,Sem.runT_eq,hrun,Frame.atR]
  ·have:=h3
   dsimp only at this
   rwa [hf] at this
theorem opds_get {l:List Operand} {r:List Opd} (h:opds c l=some r):r.length=l.length∧∀ i (h:i<l.length),∃ y,r[i]? = some y∧opd c l[i]=some y:=mapM_get h
theorem compOp_call {lf:Opd} {las:List Opd} (hc:compOp c o=some (.call lf las)):∃ f as ts,o.op = .call { callee:=.value f,args:=as,argTypes:=ts } ∧ opd c f=some lf∧opds c as.toList=some las:=by
 cases ho:o.op
 case call cl=>
  obtain ⟨cal,as,ts⟩:=cl
  cases cal<;>simp only [compOp,ho,reduceCtorEq] at hc
  case value f=>
   obtain ⟨y,hy,hc⟩:=bind_some hc
   obtain ⟨ys,hys,hc⟩:=bind_some hc
   cases hc
   exact ⟨_,_,_,rfl,hy,hys⟩
  case builtin bb=>
   exfalso
   unfold compBuiltin compLen compAppend compCopy compCap compClr at hc
   repeat' (first | (cases hc;done) | (obtain ⟨_,_,hc⟩:=bind_some hc) | (split at hc))
 all_goals exfalso
 all_goals simp only [compOp,ho,reduceCtorEq,Option.map_eq_some_iff,and_false,exists_false] at hc
 all_goals repeat' (first | (cases hc;done) | contradiction | (simp only [Option.map_eq_some_iff,reduceCtorEq,and_false,exists_false] at hc;done) | (obtain ⟨_,_,hc⟩:=bind_some hc) | (split at hc))
theorem compOp_next {y:Opd} (hc:compOp c o=some (.mnext y)):∃ x,o.op = .next x false∧opd c x=some y:=by
 cases ho:o.op
 case next x b=>
  cases b<;>simp only [compOp,ho,reduceCtorEq] at hc
  obtain ⟨z,hz,h⟩:=map_some' hc
  cases h
  exact ⟨x,rfl,hz⟩
 case call cl=>
  exfalso
  obtain ⟨cal,as,ts⟩:=cl
  cases cal<;>simp only [compOp,ho,reduceCtorEq] at hc
  ·obtain ⟨_,_,hc⟩:=bind_some hc;obtain ⟨_,_,hc⟩:=bind_some hc;cases hc
  ·unfold compBuiltin compLen compAppend compCopy compCap compClr at hc
   repeat' (first | (cases hc;done) | (obtain ⟨_,_,hc⟩:=bind_some hc) | (split at hc))
 all_goals exfalso
 all_goals simp only [compOp,ho,reduceCtorEq,Option.map_eq_some_iff,and_false,exists_false] at hc
 all_goals repeat' (first | (cases hc;done) | contradiction | (simp only [Option.map_eq_some_iff,reduceCtorEq,and_false,exists_false] at hc;done) | (obtain ⟨_,_,hc⟩:=bind_some hc) | (split at hc))
theorem Inv.reiter {cmp:Nat→LCode→Code→Prop} (I:Inv cmp w0 μ ι δ s w) {id:Nat} {p:Place} {m:Option Nat} {n0 last last':Nat} {seen seen':List Nat} {pb:Option Nat} (hg:s.get id=some (.iter m n0 seen last)) (hp:μ id=some p)
  (hL:w.heap[p.b]? = some (.mapIter pb n0 seen.toArray last)) :
  Inv cmp w0 μ ι δ (s.put id (.iter m n0 seen' last')) { w with heap:=w.heap.setIfInBounds p.b (.mapIter pb n0 seen'.toArray last') } ∧ Ext μ ι δ w μ ι δ { w with heap:=w.heap.setIfInBounds p.b (.mapIter pb n0 seen'.toArray last') } := by
 obtain ⟨hoff,pb',hL',hpm⟩:=I.blk id _ p hg hp
 rw [hL] at hL'
 cases hL'
 generalize hw':({ w with heap:=w.heap.setIfInBounds p.b (.mapIter pb n0 seen'.toArray last') } : World)=w'
 have hsz:w'.heap.size=w.heap.size:=by rw [← hw'];simp
 have hdom:=I.dom id p hp
 have hoth:∀ k,k≠p.b→w'.heap[k]? = w.heap[k]? := fun k hk=>by rw [← hw'];exact Array.getElem?_setIfInBounds_ne (Ne.symm hk)
 have hsame:w'.heap[p.b]? = some (.mapIter pb n0 seen'.toArray last'):=by rw [← hw'];simp [hdom.2.2]
 have hcellr:∀ b o v,w.cell? ⟨b,o,none⟩=some v→b≠p.b:=by
  rintro b o v hv rfl
  simp [World.cell?,hL] at hv
 have hcell:∀ b o,ι b o→w'.cell? ⟨b,o,none⟩=w.cell? ⟨b,o,none⟩:=fun b o hi=>by
  obtain ⟨v,hv⟩:=I.io b o hi
  exact cell_of_heap (hoth b (hcellr b o v hv))
 refine ⟨⟨⟨by rw [← hw'];exact I.below.os,by rw [← hw'];exact I.below.tape,by rw [← hw'];exact I.below.output,by rw [hsz];exact I.below.size,fun k hk=>by rw [hoth k (by have:=hdom.2.1;omega)];exact I.below.block k hk⟩,
  fun id p hp=>by rw [hsz];exact I.dom id p hp,fun b o hi=>by obtain ⟨v,hv⟩:=I.io b o hi;exact ⟨v,(hcell b o hi).trans hv⟩,fun id' b q hb hq=>?_,?_,fun x hx=>?_,I.low,fun b o hi hb=>(I.own b o hi hb).heap (hoth b (by obtain ⟨v,hv⟩:=I.io b o hi;exact hcellr b o v hv))⟩,
  ⟨fun _ _ h=>h,fun _ _ h=>h,hcell,by rw [hsz];exact Nat.le_refl _,fun _ h=>h⟩⟩
 ·rw [St.get_put] at hb
  split at hb
  ·rename_i he;subst he;cases hb
   obtain rfl:p=q:=Option.some.inj (hp.symm.trans hq)
   exact ⟨hoff,pb,hsame,hpm⟩
  ·rename_i he
   have hrb:=I.blk id' b q hb hq
   have hne:q.b≠p.b:=by
    intro hqe
    cases b with
    | cells m cs=>obtain ⟨⟨x,h0⟩,_⟩:=hrb;rw [hqe] at h0;simp [World.shape?,hL] at h0
    | loop st pend env ps as bo=>exact he (I.sep id' id _ _ q p hb hg rfl rfl hq hp hqe)
    | map es=>exact he (I.sep id' id _ _ q p hb hg rfl rfl hq hp hqe)
    | iter m n0 seen last=>exact he (I.sep id' id _ _ q p hb hg rfl rfl hq hp hqe)
   exact hrb.mono (fun _ _ h=>h) (fun _ _ h=>h) hcell (hoth _ hne) (fun _ _ h=>h)
 ·intro i j b1 b2 p1 p2 g1 g2 o1 o2 m1 m2 e
  rw [St.get_put] at g1 g2
  have f:∀ {k:Nat} {b:Blk},(if k=id then some (Blk.iter m n0 seen' last') else s.get k)=some b→b.owns=true→∃ b',s.get k=some b'∧b'.owns=true:=by
   intro k b h ho
   split at h
   ·rename_i e;subst e;exact ⟨_,hg,rfl⟩
   ·exact ⟨b,h,ho⟩
  obtain ⟨c1,k1,l1⟩:=f g1 o1
  obtain ⟨c2,k2,l2⟩:=f g2 o2
  exact I.sep i j c1 c2 p1 p2 k1 k2 l1 l2 m1 m2 e
 ·obtain ⟨a,b⟩:=I.defers x hx
  refine ⟨a,?_⟩
  rw [hoth x ?_]
  ·exact b
  ·rintro rfl;rw [hL] at b;cases b
theorem run_mapNext (n:Nat) (w:World):∃ t w',(choose (.mapNext n)).run P w = .ok t w'∧(w'=w∨w' = { w with drawn:=w.drawn+1 })∧(0<n→t<n):=by
 by_cases h:n≤1
 ·exact ⟨0,w,by simp [choose,Sem.run,Question.forced,h], .inl rfl,fun h=>h⟩
 ·exact ⟨w.tape w.drawn (.mapNext n) % n,_,by simp [choose,Sem.run,Question.forced,h,Question.cut], .inr rfl,fun h=>Nat.mod_lt _ h⟩
def nextCand (es:Array MapEntry) (seen:Array Nat) (since:Nat):Array (Option MapEntry) :=
 let left:=es.filter fun e=>!seen.contains e.born
 let old:=left.filter (·.born<since)
 let new:=left.filter (·.born ≥ since)
 (if old.isEmpty then #[none] else #[])++(old++new).map some
theorem nextCand_some {es:Array MapEntry} {seen:Array Nat} {since:Nat} {en:MapEntry} (h:some en∈nextCand es seen since):en∈es∧seen.contains en.born=false:=by
 unfold nextCand at h
 simp only [Array.mem_append,Array.mem_map,Option.some.injEq,exists_eq_right] at h
 rcases h with h | h | h
 ·split at h<;>simp at h
 ·rw [Array.mem_filter,Array.mem_filter] at h;exact ⟨h.1.1,by simpa using h.1.2⟩
 ·rw [Array.mem_filter,Array.mem_filter] at h;exact ⟨h.1.1,by simpa using h.1.2⟩
theorem nextCand_none {es:Array MapEntry} {seen:Array Nat} {since:Nat} (h:none∈nextCand es seen since):∀ en∈es,en.born<since→seen.contains en.born=true:=by
 intro en he hb
 unfold nextCand at h
 simp only [Array.mem_append,Array.mem_map,reduceCtorEq,and_false,exists_false,or_false] at h
 split at h
 ·rename_i hemp
  cases hc:seen.contains en.born with
  | true=>rfl
  | false=>
   exfalso
   have hm:en∈(es.filter fun e=>!seen.contains e.born).filter (·.born<since):=by
    rw [Array.mem_filter,Array.mem_filter]
    exact ⟨⟨he,by rw [hc];rfl⟩,by simpa using hb⟩
   have h0:=Array.size_pos_of_mem hm
   have h1:((es.filter fun e=>!seen.contains e.born).filter (·.born<since)).size=0:=by simpa [Array.isEmpty] using hemp
   omega
 ·simp at h
theorem nextCand_pos (es:Array MapEntry) (seen:Array Nat) (since:Nat):0<(nextCand es seen since).size:=by
 unfold nextCand
 dsimp only
 generalize (es.filter fun e=>!seen.contains e.born).filter (·.born<since)=old
 generalize (es.filter fun e=>!seen.contains e.born).filter (·.born ≥ since)=new
 split
 ·simp;omega
 ·rename_i h
  have:0<old.size:=by
   rcases Nat.eq_zero_or_pos old.size with h0 | h0
   ·exact absurd (by simp [Array.isEmpty,h0]) h
   ·exact h0
  simp
  omega
theorem run_next {r m since last clock:Nat} {seen:Array Nat} {es:Array MapEntry} {ty:TypeId} (h1:w.heap[r]? = some (.mapIter (some m) since seen last)) (h2:w.heap[m]? = some (.map es clock))
  (hun:(!seen.isEmpty && !es.isEmpty && es.all (·.born ≥ last))=false) {t:Nat} {w1:World} (hch:(choose (.mapNext (nextCand es seen since).size)).run P w = .ok t w1) (h3:w1.heap[r]? = some (.mapIter (some m) since seen last)) {cd:Option MapEntry}
  (hcd:(nextCand es seen since)[t]? = some cd) :
  (Instr.next (.pointer (some ⟨r,0,none⟩)) false ty).run P w=(match cd with
   | none=>.ok (.tuple #[.bool false]) w1
   | some en=>.ok (.tuple #[.bool true,en.key,en.val]) { w1 with heap:=w1.heap.setIfInBounds r (.mapIter (some m) since (seen.push en.born) clock) }):=by
 unfold nextCand at hch hcd
 dsimp only at hch hcd
 simp only [Instr.next,Sem.run_bind,run_getObj' h1 (by simp),run_getObj' h2 (by simp),Result.andThen_ok,hun,Bool.false_eq_true,if_false,hch,hcd]
 cases cd with
 | none=>simp [Sem.run_pure]
 | some en=>simp [setObj,Sem.run,h3]
theorem next_step {R:LV→St→Prop} (hP:c.P=P) (hi:ops[i]? = some o) (hlo:compOper c ops o=some lo) (hN:Now P G w0 μ ι δ s w) (hρ:Ho μ ι w c e a o)
  (hw:Region.wanted o (yielded ops a.tmps)=true) {y:Opd} (h:NextOk (y.ev e) s R) (hnx:lo.op = .mnext y) :
  ∃ v s' μ' ι' w' x,R v s'∧Steps P (lone (b.atR a (.inRegion ops (i::rest)::k)) cs w) (lone (b.atR (a.put o.dst x) (.inRegion ops rest::k)) cs w') ∧
   Inv (cmpR P G) w0 μ' ι' δ s' w'∧Ext μ ι δ w μ' ι' δ w'∧Kept μ s μ' s'∧Rv μ' ι' w' v x:=by
 obtain ⟨hc,_,_,_⟩:=compOper_inv hlo
 rw [hnx] at hc
 obtain ⟨x,hop,hx⟩:=compOp_next hc
 have hv:=hρ x y (by simp [hop,Op.operands]) hx
 have hst:∀ {u w'},(Instr.next (a.eval x) false o.type).run P w = .ok u w'→step P (lone (b.atR a (.inRegion ops (i::rest)::k)) cs w) = .next (lone (b.atR (a.put o.dst u) (.inRegion ops rest::k)) cs w'):=fun hr=>
  stepR_value hi hw (ne_defer hc) (.inl (by simp [execOp,hop,hr]))
 have hfalse:∀ {μ:Mu} {ι:Io} {w:World},Rv μ ι w (.tup [.bool false]) (.tuple #[.bool false]):=.tup rfl fun j hj=>by
  match j,hj with
  | 0,_=>exact .bool false
 unfold NextOk at h
 split at h
 ·rename_i id hye
  rw [hye] at hv
  generalize hav:a.eval x=av at hv hst
  cases hv with
  | pref hp =>
   rename_i p
   split at h
   ·rename_i n0 seen last hg
    obtain ⟨hoff,pb,h1,rfl⟩:=hN.inv.blk id _ p hg hp
    refine ⟨_,s,μ,ι,w, .tuple #[.bool false],h, .one (hst ?_),hN.inv,Ext.refl _ _ _ _,Kept.refl _ _,hfalse⟩
    simp [Instr.next,hoff,run_getObj' h1 (by simp)]
   ·rename_i m n0 seen last hg
    split at h
    ·rename_i es hgm
     obtain ⟨hseen,hsome,hnone⟩:=h
     obtain ⟨hoff,pb,h1,pm,hpm,rfl⟩:=hN.inv.blk id _ p hg hp
     obtain ⟨arr,k1,k2,k3⟩:=hN.inv.blk m _ pm hgm hpm
     have hborn:∀ j (hj:j<arr.size),arr[j].born=j:=fun j hj=>by
      have:=(k3 j (by omega)).1
      simpa [Array.getD_eq_getD_getElem?,hj] using this
     have hun:(!seen.toArray.isEmpty && !arr.isEmpty && arr.all (·.born ≥ last))=false:=by
      rcases hseen with rfl | hl
      ·simp
      ·by_cases he:arr.size=0
       ·have:arr.isEmpty=true:=by simpa [Array.isEmpty] using he
        simp [this]
       ·have h0:arr.all (·.born ≥ last)=false:=by
         rw [Array.all_eq_false]
         exact ⟨0,by omega,by have:=hborn 0 (by omega);simp [this];omega⟩
        simp [h0]
     obtain ⟨t,w1,hch,hw1,htl⟩:=run_mapNext (P:=P) (nextCand arr seen.toArray n0).size w
     have hs1:Same w w1:=by rcases hw1 with rfl | rfl;exact Same.refl _;exact Same.drew _
     have hhp:w1.heap=w.heap:=by rcases hw1 with rfl | rfl<;>rfl
     have htc:=htl (nextCand_pos _ _ _)
     have hI1:=hN.inv.same hs1
     have hx1:=hN.inv.ext_same hs1
     have hobj1:w1.heap[p.b]? = some (.mapIter (some pm.b) n0 seen.toArray last):=by rw [hhp];exact h1
     obtain ⟨cd,hcd⟩:∃ cd,(nextCand arr seen.toArray n0)[t]? = some cd:=⟨_,Array.getElem?_eq_getElem htc⟩
     have hmem:cd∈nextCand arr seen.toArray n0:=Array.mem_of_getElem? hcd
     have hrun:=run_next (P:=P) (ty:=o.type) h1 k1 hun hch hobj1 hcd
     have hst':∀ {u w'},(Instr.next (.pointer (some ⟨p.b,0,none⟩)) false o.type).run P w = .ok u w'→step P (lone (b.atR a (.inRegion ops (i::rest)::k)) cs w) = .next (lone (b.atR (a.put o.dst u) (.inRegion ops rest::k)) cs w'):=fun hr=>hst (by rw [hoff];exact hr)
     cases cd with
     | none=>
      refine ⟨_,s,μ,ι,w1, .tuple #[.bool false],hnone fun j hj hjl=>?_, .one (hst' hrun),hI1,hx1,Kept.refl _ _,hfalse⟩
      have hja:j<arr.size:=by omega
      have:=nextCand_none hmem arr[j] (Array.getElem_mem hja) (by rw [hborn j hja];exact hj)
      rw [hborn j hja] at this
      simpa using this
     | some en=>
      obtain ⟨hea,hns⟩:=nextCand_some hmem
      obtain ⟨j,hja,rfl⟩:=Array.getElem_of_mem hea
      have hjl:j<es.length:=by omega
      have hjs:j ∉ seen:=by rw [hborn j hja] at hns;simpa using hns
      obtain ⟨I2,x2⟩:=hI1.reiter (seen':=seen++[j]) (last':=es.length) hg hp hobj1
      have hpush:seen.toArray.push arr[j].born=(seen++[j]).toArray:=by rw [hborn j hja];simp
      have hrun':=hrun
      dsimp only at hrun'
      rw [hpush] at hrun'
      refine ⟨_,_,μ,ι,_,_,hsome j hjl hjs, .one (hst' hrun'),I2,hx1.trans x2,Kept.put hp _, .tup rfl fun q hq=>?_⟩
      have hk:=k3 j hjl
      have hget:arr.getD j default=arr[j]:=by simp [Array.getD_eq_getD_getElem?,hja]
      rw [hget] at hk
      have hxx:=hx1.trans x2
      match q,hq with
      | 0,_=>exact .bool true
      | 1,_=>exact hk.2.2.1.ext hxx
      | 2,_=>exact hk.2.2.2.ext hxx
    ·exact h.elim
   ·exact h.elim
 ·exact h.elim
theorem equalIn_ptr {t el:TypeId} {n:Nat} {x y:Addr} {r:Bool} (hu:P.underlying t=some (.pointer el)) (hs:szOf P el=some n) (hn:n≠0) (h:(sameAddr x y).run P w = .ok r w) (d:Nat) :
  (Op.equalIn (d+1) t (.pointer (some x)) (.pointer (some y))).run P w = .ok r w:=by
 unfold Op.equalIn
 simp [ru hu,rsz hs,hn,h]
theorem equalIn_nil {t el:TypeId} {u v:Option Addr} (hu:P.underlying t=some (.pointer el)) (hn:u=none∨v=none) (d:Nat) :
  (Op.equalIn (d+1) t (.pointer u) (.pointer v)).run P w = .ok (u.isNone && v.isNone) w:=by
 unfold Op.equalIn
 rcases hn with rfl | rfl
 ·simp [ru hu]
 ·cases u<;>simp [ru hu]
theorem eqp_rel {t el:TypeId} {n:Nat} (hN:Now P G w0 μ ι δ s w) (hu:P.underlying t=some (.pointer el)) (hs:szOf P el=some n) (hn:n≠0) {x y:LV} {u v:Value} (hx:Rv μ ι w x u) (hy:Rv μ ι w y v) {neg:Bool} {R:LV→St→Prop}
  (h:EqpOk G neg x y s R):∃ (r:Bool) (a b:Option Addr),u = .pointer a∧v = .pointer b∧(∀ d,(Op.equalIn (d+1) t u v).run P w = .ok r w)∧R (.bool (if neg=true then !r else r)) s:=by
 unfold EqpOk at h
 split at h
 ·rename_i cs1 off cs2 off'
  obtain ⟨ho,ha,hb,hne,heq⟩:=h
  cases hx with
  | pimm vs hc hi h1 hr=>
   rename_i b o
   cases hy with
   | pimm vs' hc' hi' h1' hr' =>
    rename_i b' o'
    have p1:=hN.plainC ho hc hi hr ha
    have p2:=hN.plainC ho hc' hi' hr' hb
    have hrun:=run_sameAddr_plain (P:=P) (w:=w) (x:=⟨b,o+off,none⟩) (y:=⟨b',o'+off',none⟩) p1 p2
    refine ⟨_,_,_,rfl,rfl,equalIn_ptr hu hs hn hrun,?_⟩
    cases hbq:((⟨b,o+off,none⟩:Addr) == ⟨b',o'+off',none⟩) with
    | false=>cases neg<;>exact hne
    | true=>
     have he:=eq_of_beq hbq
     injection he with e1 e2 _
     subst e1
     have:=heq (agreeL_of _ _ fun i hi1 hi2=>by
      rw [List.length_drop] at hi1 hi2
      have k1:=hr (off+i) (by omega)
      have k2:=hr' (off'+i) (by omega)
      have c1:=hc (off+i) (by omega)
      have c2:=hc' (off'+i) (by omega)
      rw [show o'+(off'+i)=o+(off+i) from by omega,c1] at c2
      rw [← Option.some.inj c2] at k2
      have:=agree_of k1 k2
      simpa [List.getD_eq_getElem?_getD,List.getElem?_drop] using this)
     cases neg<;>exact this
 ·cases hx with
  | nilp=>
   cases hy with
   | pimm vs' hc' hi' h1' hr'=>exact ⟨false,_,_,rfl,rfl,equalIn_nil hu (.inl rfl),by cases neg<;>exact h⟩
 ·cases hy with
  | nilp=>
   cases hx with
   | pimm vs' hc' hi' h1' hr'=>exact ⟨false,_,_,rfl,rfl,equalIn_nil hu (.inr rfl),by cases neg<;>exact h⟩
 ·cases hx with
  | nilp=>cases hy with
   | nilp=>exact ⟨true,_,_,rfl,rfl,equalIn_nil hu (.inl rfl),by cases neg<;>exact h⟩
 ·exact h.elim
theorem compOp_eqp {n:Bool} {lx ly:Opd} (hc:compOp c o=some (.eqp n lx ly)):∃ op t x y t',o.op = .binOp op t x y t'∧isArith op=false∧n=isNeq op∧opd c x=some lx∧opd c y=some ly∧ptrT c.P t=true:=by
 cases ho:o.op
 case binOp op t x y t' =>
  simp only [compOp,ho] at hc
  obtain ⟨lx',hlx,hc⟩:=bind_some hc
  obtain ⟨ly',hly,hc⟩:=bind_some hc
  split at hc
  ·cases hc
  ·cases hc
  ·split at hc
   ·cases hc
   ·rename_i ha
    obtain ⟨et,het,hc⟩:=bind_some hc
    split at hc
    ·rename_i hp
     cases hc
     simp only [Bool.and_eq_true] at hp
     exact ⟨_,_,_,_,_,rfl,by simpa using ha,rfl,hlx,hly,hp.1.1⟩
    ·cases hc
 case call cl=>
  exfalso
  obtain ⟨cal,as,ts⟩:=cl
  cases cal<;>simp only [compOp,ho,reduceCtorEq] at hc
  ·obtain ⟨_,_,hc⟩:=bind_some hc;obtain ⟨_,_,hc⟩:=bind_some hc;cases hc
  ·unfold compBuiltin compLen compAppend compCopy compCap compClr at hc
   repeat' (first | (cases hc;done) | (obtain ⟨_,_,hc⟩:=bind_some hc) | (split at hc))
 all_goals exfalso
 all_goals simp only [compOp,ho,reduceCtorEq,Option.map_eq_some_iff,and_false,exists_false] at hc
 all_goals repeat' (first | (cases hc;done) | contradiction | (simp only [Option.map_eq_some_iff,reduceCtorEq,and_false,exists_false] at hc;done) | (obtain ⟨_,_,hc⟩:=bind_some hc) | (split at hc))
theorem eqp_step {R:LV→St→Prop} (hP:c.P=P) (hi:ops[i]? = some o) (hlo:compOper c ops o=some lo) (hN:Now P G w0 μ ι δ s w) (hρ:Ho μ ι w c e a o)
  (hw:Region.wanted o (yielded ops a.tmps)=true) {neg:Bool} {lx ly:Opd} (h:EqpOk G neg (lx.ev e) (ly.ev e) s R) (heq:lo.op = .eqp neg lx ly) :
  ∃ v s' μ' ι' w' x,R v s'∧Steps P (lone (b.atR a (.inRegion ops (i::rest)::k)) cs w) (lone (b.atR (a.put o.dst x) (.inRegion ops rest::k)) cs w') ∧
   Inv (cmpR P G) w0 μ' ι' δ s' w'∧Ext μ ι δ w μ' ι' δ w'∧Kept μ s μ' s'∧Rv μ' ι' w' v x:=by
 obtain ⟨hc,_,_,_⟩:=compOper_inv hlo
 rw [heq] at hc
 obtain ⟨op,t,x,y,t',ho,har,rfl,hx,hy,hpt⟩:=compOp_eqp hc
 subst hP
 have hvx:=hρ x lx (by simp [ho,Op.operands]) hx
 have hvy:=hρ y ly (by simp [ho,Op.operands]) hy
 unfold ptrT at hpt
 split at hpt
 ·rename_i el hu
  split at hpt
  ·rename_i n hs
   have hn:n≠0:=by simpa using hpt
   obtain ⟨r,pa,pb,h1,h2,hrun,hR⟩:=eqp_rel hN hu hs hn hvx hvy h
   have hop:op = .eql∨op = .neq:=by cases op<;>simp [isArith] at har ⊢
   rw [h1,h2] at hrun
   have hgo:=eq_close (c:=c) (w:=w) (t:=t) (ox:=x) (oy:=y) (op:=op) hop (by rcases hop with rfl | rfl<;>simp [eqGuard]) rfl rfl (hrun 9999)
   refine ⟨_,s,μ,ι,w, .bool (if op = .eql then r else !r),hR, .one (stepR_value hi hw (ne_defer hc) (.inl ?_)),hN.inv,Ext.refl _ _ _ _,Kept.refl _ _,?_⟩
   ·simp only [Sem.run_bind] at hgo
    simp only [execOp,ho,Sem.run_bind,h1,h2]
    rw [hgo]
    rfl
   ·rcases hop with rfl | rfl<;>exact .bool _
  ·cases hpt
 ·cases hpt
theorem op_step {R:LV→St→Prop} (hP:c.P=P) (hi:ops[i]? = some o) (hlo:compOper c ops o=some lo) (hN:Now P G w0 μ ι δ s w) (hρ:Ho μ ι w c e a o)
  (hw:Region.wanted o (yielded ops a.tmps)=true) (h:OpGo P G lo.fl lo.op e s R) :
  ∃ v s' μ' ι' w' x,R v s'∧Steps P (lone (b.atR a (.inRegion ops (i::rest)::k)) cs w) (lone (b.atR (a.put o.dst x) (.inRegion ops rest::k)) cs w') ∧
   Inv (cmpR P G) w0 μ' ι' δ s' w'∧Ext μ ι δ w μ' ι' δ w'∧Kept μ s μ' s'∧Rv μ' ι' w' v x:=by
 obtain ⟨hc,hdst,_,_⟩:=compOper_inv hlo
 cases hcl:isCallL lo.op with
 | true=>
  rcases isCallL_inv hcl with ⟨lf,las,hcall⟩ | ⟨y,hnx⟩ | ⟨n,x,y,heq⟩
  case inr.inl=>exact next_step hP hi hlo hN hρ hw (by rw [hnx] at h;exact h) hnx
  case inr.inr=>exact eqp_step hP hi hlo hN hρ hw (by rw [heq] at h;exact h) heq
  rw [hcall] at h hc
  simp only [OpGo] at h
  have hop:=compOp_call hc
  obtain ⟨f,as,ts,hop,hf,has⟩:=hop
  obtain ⟨hl,hg⟩:=opds_get has
  have hvf:=hρ f lf (by simp [hop,Op.operands,Call.operands]) hf
  have hva:∀ j,j<(las.map (·.ev e)).length→Rv μ ι w ((las.map (·.ev e)).getD j .top) ((as.map a.eval).getD j undef):=by
   intro j hj
   have hj':j<as.toList.length:=by rw [← hl];simpa using hj
   obtain ⟨y,hy,hoy⟩:=hg j hj'
   have:=hρ _ y (by simp only [hop,Op.operands,Call.operands];simp only [Array.toList_append,List.mem_append];right;exact List.getElem_mem hj') hoy
   have hj2:j<as.size:=by simpa using hj'
   simpa [List.getD_eq_getElem?_getD,hy,Array.getD_eq_getD_getElem?,hj2] using this
  obtain ⟨lv,s',μ',ι',w',v,q,hgo,hI,hx,hk,hr⟩:=h w0 μ ι δ w (a.eval f) (as.map a.eval) (b.atR a (.inRegion ops (i::rest)::k)) cs hN hvf (by simp [hl]) hva
  exact ⟨lv,s',μ',ι',w',v,q,stepR_goes hi hw hop hgo,hI,hx,hk,hr⟩
 | false=>
  obtain ⟨v,s',hrun,_,hR⟩:=opGo_inv h hcl
  obtain ⟨x,w',μ',ι',hex,hI,hx,hr,hk⟩:=op_sound hc hρ hN.inv hrun
  rw [hP] at hex
  exact ⟨v,s',μ',ι',w',x,hR, .one (stepR_value hi hw (ne_defer hc) hex),hI,hx,hk,hr⟩
theorem Re.ho (hP:c.P=P) (hG:c.globs=G) (hN:Now P G w0 μ ι δ s w) (hr:∀ t, .tmp t∈o.op.operands.toList→Rv μ ι w (e.at t) (a.tmps.getD t undef)):Ho μ ι w c e a o:=by
 intro x y hx hy
 exact opd_rel hP hG hN hy (fun t ht=>hr t (by rw [← ht];exact hx))
theorem fr_put {nt:Nat} {d:Option Nat} {v:LV} {x:Value} (hf:Fr P G w0 μ ι δ s w nt e a) (hI:Inv (cmpR P G) w0 μ' ι' δ s' w') (hx:Ext μ ι δ w μ' ι' δ w') (hd:∀ t,d=some t→t<nt) (hv:Rv μ' ι' w' v x) :
  Fr P G w0 μ' ι' δ s' w' nt (e.put d v) (a.put d x) :=
 ⟨hf.now.ext hI hx,(hf.re.ext hx).put (fun t ht=>by rw [hf.size];exact hd t ht) hv,by rw [Act.put_size];exact hf.size⟩
theorem rv_undef:Rv μ ι w (.tup []) undef:=.tup rfl (fun i hi=>absurd hi (Nat.not_lt_zero _))
theorem chain_text {nt:Nat} {refs:List Nat} {K:Env→St→Prop} (ops:Array Oper):∀ (l:List LOper) (n:Nat) (e:Env) (s:St) (μ:Mu) (ι:Io) (w:World) (a:Act),
  (∀ j,j<l.length→∃ o lo,ops[n+j]? = some o∧l[j]? = some lo∧compOper ⟨P,G,refs,nt⟩ ops o=some lo)→Fr P G w0 μ ι δ s w nt e a→Chain P G l e s K →
  ∃ e' s' μ' ι' w' a',K e' s'∧Steps P (lone (b.atR a (.inRegion ops ((List.range l.length).map (n + ·))::k)) cs w) (lone (b.atR a' (.inRegion ops []::k)) cs w')∧Fr P G w0 μ' ι' δ s' w' nt e' a' ∧
   Ext μ ι δ w μ' ι' δ w'∧Kept μ s μ' s'∧a'.defers=a.defers:=by
 intro l
 induction l with
 | nil=>
  intro n e s μ ι w a _ hf h
  exact ⟨e,s,μ,ι,w,a,h, .refl _ _,hf,Ext.refl _ _ _ _,Kept.refl _ _,rfl⟩
 | cons lo l ih=>
  intro n e s μ ι w a hl hf h
  obtain ⟨o,lo',ho,hlo',hc⟩:=hl 0 (Nat.zero_lt_succ _)
  obtain rfl:lo=lo':=by simpa using hlo'
  have hl':∀ j,j<l.length→∃ o lo,ops[n+1+j]? = some o∧l[j]? = some lo∧compOper ⟨P,G,refs,nt⟩ ops o=some lo:=fun j hj=>by
   obtain ⟨o,lo,h1,h2,h3⟩:=hl (j+1) (by simpa using hj)
   exact ⟨o,lo,by rw [show n+1+j=n+(j+1) from by omega];exact h1,by simpa using h2,h3⟩
  have hlist:(List.range (lo::l).length).map (n + ·)=n::(List.range l.length).map (n+1 + ·):=by
   rw [List.length_cons,List.range_succ_eq_map,List.map_cons,List.map_map]
   congr 1
   exact List.map_congr_left fun x _=>by simp only [Function.comp_apply];omega
  rw [hlist]
  obtain ⟨_,hd1,hd2,_⟩:=compOper_inv hc
  have ho':ops[n]? = some o:=ho
  simp only [Chain] at h
  split at h
  ·exact h.elim
  ·rename_i hw
   have hw':=wanted_rel hc hw (fun d _ _=>hf.re d)
   have hst:step P (lone (b.atR a (.inRegion ops (n::(List.range l.length).map (n+1 + ·))::k)) cs w) = .next (lone (b.atR (a.put o.dst undef) (.inRegion ops ((List.range l.length).map (n+1 + ·))::k)) cs w):=by
    have:=stepR_op_skip (P:=P) (b:=b) (a:=a) (k:=k) (cs:=cs) (w:=w) (ops:=ops) (i:=n) (rest:=(List.range l.length).map (n+1 + ·)) (by rw [ho'];simpa using hw')
    rw [ho'] at this
    exact this
   have hf':Fr P G w0 μ ι δ s w nt (e.put lo.dst (.tup [])) (a.put o.dst undef):=by
    rw [hd1];exact fr_put hf hf.now.inv (Ext.refl _ _ _ _) hd2 rv_undef
   obtain ⟨e',s',μ',ι',w',a',q,hs,r1,r2,r3,r4⟩:=ih (n+1) _ s μ ι w _ hl' hf' h
   exact ⟨e',s',μ',ι',w',a',q, .head hst hs,r1,r2,r3,r4.trans (Act.put_defers' _ _ _)⟩
  ·rename_i hw
   have hw':=wanted_rel hc hw (fun d _ _=>hf.re d)
   obtain ⟨v,s1,μ1,ι1,w1,x,⟨_,hch⟩,hst,hI,hx,hk,hr⟩:=op_step (b:=b) (k:=k) (cs:=cs) (rest:=(List.range l.length).map (n+1 + ·)) rfl ho' hc hf.now (Re.ho rfl rfl hf.now (fun t _=>hf.re t)) hw' h
   have hf':Fr P G w0 μ1 ι1 δ s1 w1 nt (e.put lo.dst v) (a.put o.dst x):=by
    rw [hd1];exact fr_put hf hI hx hd2 hr
   obtain ⟨e',s',μ',ι',w',a',q,hs,r1,r2,r3,r4⟩:=ih (n+1) _ s1 μ1 ι1 w1 _ hl' hf' hch
   exact ⟨e',s',μ',ι',w',a',q,Steps.trans hst hs,r1,hx.trans r2,hk.trans r3,r4.trans (Act.put_defers' _ _ _)⟩
end
end Go.Pv
end
