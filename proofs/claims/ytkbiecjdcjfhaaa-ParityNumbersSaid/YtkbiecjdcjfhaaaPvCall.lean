/- A function called: from its body's plain form. -/
import Derived.Test.YtkbiecjdcjfhaaaPvDraw0
import Derived.RangeFuncRecord
import Derived.RangeFuncIn
import Derived.Test.YtkbiecjdcjfhaaaPvComp
set_option linter.unusedSimpArgs false
set_option linter.unusedVariables false
section
set_option linter.unusedSimpArgs false
set_option linter.unusedVariables false
namespace Go.Pv
open Go Go.RowKit
def envGo:List LV→Nat→Env→Env
 | [],_,e=>e
 | v::r,i,e=>envGo r (i+1) (Tr.set e i v)
def envOf (l:List LV):Env:=envGo l 0 .nil
theorem envGo_at:∀ (l:List LV) (i:Nat) (e:Env) (t:Nat),(envGo l i e).at t=if i≤t∧t<i+l.length then l.getD (t - i) .top else e.at t:=by
 intro l
 induction l with
 | nil=>intro i e t;simp [envGo];omega
 | cons v l ih=>
  intro i e t
  rw [envGo,ih,Env.at_set]
  simp only [List.length_cons]
  by_cases h1:t=i
  ·subst h1
   rw [if_neg (by omega),if_pos rfl,if_pos (by omega)]
   simp
  ·by_cases h2:i+1≤t∧t<i+1+l.length
   ·rw [if_pos h2,if_pos (by omega)]
    obtain ⟨j,hj⟩:∃ j,t - i=j+1:=⟨t - i - 1,by omega⟩
    rw [hj,List.getD_cons_succ]
    congr 1;omega
   ·rw [if_neg h2,if_neg h1,if_neg (by omega)]
theorem envOf_at (l:List LV) (t:Nat):(envOf l).at t=l.getD t .top:=by
 unfold envOf
 rw [envGo_at]
 by_cases h:t<l.length
 ·rw [if_pos (by omega)];simp
 ·rw [if_neg (by omega),Env.at_nil,List.getD_eq_getElem?_getD,List.getElem?_eq_none (by omega)];rfl
def resOne (e:Env) (s:St):LRes→Option LV
 | .tmp t=>some (e.at t)
 | .cell t n=>
  match e.at t with
  | .pimm cs off=>mkVal n cs off
  | .pref id off=>match s.get id with | some (.cells _ cs)=>mkVal n cs off | _=>none
  | _=>none
def resVal (rs:List LRes) (e:Env) (s:St):Option LV:=
 match rs.mapM (resOne e s) with
 | some [v]=>some v
 | some vs=>some (.tup vs)
 | none=>none
section
variable {P:Program} {G:Globs} {w0:Bs} {μ:Mu} {ι:Io} {δ δ':Nat→Prop} {s:St} {w:World} {nt:Nat} {e:Env} {a:Act}
theorem res_one {c:Ctx} (hP:c.P=P) {r:ResultVar} {lr:LRes} (hr:compRes c r=some lr) (hf:Fr P G w0 μ ι δ s w nt e a) {v:LV} (h:resOne e s lr=some v) :
  ∃ x,(match r with | .tmp t=>pure (a.tmps.getD t undef) | .cell b t=>(do loadVar t (← asAddr (a.tmps.getD b undef))):Sem Value).run P w = .ok x w∧Rv μ ι w v x:=by
 cases r with
 | tmp t=>
  cases hr
  cases h
  exact ⟨_,by simp,hf.re t⟩
 | cell b t=>
  simp only [compRes] at hr
  obtain ⟨n,hn,hr⟩:=bind_some hr
  cases hr
  rw [hP] at hn
  simp only [resOne] at h
  have hv:=hf.re b
  generalize e.at b=lv at hv h
  generalize hav:a.tmps.getD b undef=av at hv
  cases hv<;>simp only [reduceCtorEq] at h
  ·rename_i vs hc hi ho1 hh
   obtain ⟨u,hu,hru⟩:=loadVar_rel (w:=w) hn (fun i hi=>⟨_,hc i hi,hh i hi⟩) h
   refine ⟨u,?_,hru⟩
   dsimp only;rw [hav];simp only [asAddr,Sem.run_bind,Sem.run_pure,Result.andThen_ok,hu]
  ·rename_i hp
   split at h
   ·rename_i m cs hg
    obtain ⟨u,hu,hru⟩:=loadVar_rel (w:=w) hn (hf.now.inv.cellsAt hg hp) h
    refine ⟨u,?_,hru⟩
    dsimp only;rw [hav];simp only [asAddr,Sem.run_bind,Sem.run_pure,Result.andThen_ok,hu]
   ·cases h
theorem res_list {c:Ctx} (hP:c.P=P) (hf:Fr P G w0 μ ι δ s w nt e a):∀ {rs:List ResultVar} {lrs:List LRes} {vs:List LV},rs.mapM (compRes c)=some lrs→lrs.mapM (resOne e s)=some vs →
  ∃ xs,(rs.mapM (fun r=>(match r with | .tmp t=>pure (a.tmps.getD t undef) | .cell b t=>(do loadVar t (← asAddr (a.tmps.getD b undef))):Sem Value))).run P w = .ok xs w∧Rs μ ι w vs xs:=by
 intro rs
 induction rs with
 | nil=>
  intro lrs vs h1 h2
  simp at h1;subst h1;simp at h2;subst h2
  exact ⟨[],by simp,rfl,fun i hi=>absurd hi (Nat.not_lt_zero _)⟩
 | cons r rs ih=>
  intro lrs vs h1 h2
  rw [List.mapM_cons] at h1
  obtain ⟨lr,hlr,h1⟩:=bind_some h1
  obtain ⟨lrs',hlrs,h1⟩:=bind_some h1
  cases h1
  rw [List.mapM_cons] at h2
  obtain ⟨v,hv,h2⟩:=bind_some h2
  obtain ⟨vs',hvs,h2⟩:=bind_some h2
  cases h2
  obtain ⟨x,hx,hxr⟩:=res_one hP hlr hf hv
  obtain ⟨xs,hxs,hl,hr⟩:=ih hlrs hvs
  refine ⟨x::xs,?_,by simp [hl],fun i hi=>?_⟩
  ·rw [List.mapM_cons]
   simp only [Sem.run_bind,hx,hxs,Result.andThen_ok,Sem.run_pure]
  ·cases i with
   | zero=>simpa using hxr
   | succ i=>simpa using hr i (by simpa using hi)
theorem res_run {c:Ctx} (hP:c.P=P) {fn:Func} {lrs:List LRes} (h1:fn.results.toList.mapM (compRes c)=some lrs) (hf:Fr P G w0 μ ι δ s w nt e a) {v:LV} (h:resVal lrs e s=some v) :
  ∃ x,(results fn a.tmps).run P w = .ok x w∧Rv μ ι w v x:=by
 unfold resVal at h
 have hrun:∀ xs:List Value,(fn.results.toList.mapM (fun r=>(match r with | .tmp t=>pure (a.tmps.getD t undef) | .cell b t=>(do loadVar t (← asAddr (a.tmps.getD b undef))):Sem Value))).run P w = .ok xs w →
   (results fn a.tmps).run P w = .ok (if h:xs.toArray.size=1 then xs.toArray[0] else .tuple xs.toArray) w:=by
  intro xs hxs
  unfold results
  rw [Array.mapM_eq_mapM_toList]
  simp only [Sem.run_bind,map_eq_pure_bind,Sem.run_pure,bind_assoc,pure_bind]
  exact congrArg (fun r=>Result.andThen r (fun (a:List Value) w'=>(Result.ok (if h:a.toArray.size=1 then a.toArray[0] else Value.tuple a.toArray) w':Result Value))) hxs
 split at h
 ·rename_i u hm
  cases h
  obtain ⟨xs,hxs,hl,hr⟩:=res_list hP hf h1 hm
  match xs,hl with
  | [x],_=>exact ⟨x,by have:=hrun _ hxs;simpa using this,by simpa using hr 0 (by simp)⟩
 ·rename_i vs hne hm
  cases h
  obtain ⟨xs,hxs,hl,hr⟩:=res_list hP hf h1 hm
  have hn1:xs.toArray.size≠1:=by
   intro h1
   match vs,hne,hl with
   | [],_,hl=>simp [hl] at h1
   | [u],hne,_=>exact hne u rfl
   | u::u'::r,_,hl=>simp [hl] at h1
  refine ⟨.tuple xs.toArray,?_, .tup (by simpa using hl) (fun i hi=>?_)⟩
  ·have:=hrun _ hxs
   rw [this,dif_neg hn1]
  ·have:=hr i hi
   simpa [List.getD_eq_getElem?_getD,Array.getD_eq_getD_getElem?] using this
 ·cases h
theorem Inv.shut {cmp:Nat→LCode→Code→Prop} (I:Inv cmp w0 μ ι δ' s w) {r:Nat} (hr:δ' r) (hδ:∀ x,δ x→δ' x∧x≠r) :
  Inv cmp w0 μ ι δ s (w.putObj r (.deferred none))∧Ext μ ι δ w μ ι δ (w.putObj r (.deferred none)):=by
 obtain ⟨h1,h2⟩:=I.defers r hr
 have hoth:∀ k,k≠r→(w.putObj r (.deferred none)).heap[k]? = w.heap[k]? := fun k hk=>World.putObj_heap_other hk
 have hcellr:∀ b o v,w.cell? ⟨b,o,none⟩=some v→b≠r:=by
  rintro b o v hv rfl
  simp [World.cell?,h2] at hv
 have hcell:∀ b o,ι b o→(w.putObj r (.deferred none)).cell? ⟨b,o,none⟩=w.cell? ⟨b,o,none⟩:=fun b o hi=>by
  obtain ⟨v,hv⟩:=I.io b o hi
  exact cell_of_heap (hoth b (hcellr b o v hv))
 refine ⟨⟨⟨I.below.os,I.below.tape,I.below.output,by rw [World.putObj_size];exact I.below.size,fun k hk=>by rw [hoth k (by omega)];exact I.below.block k hk⟩,
  fun id p hp=>by rw [World.putObj_size];exact I.dom id p hp,fun b o hi=>by obtain ⟨v,hv⟩:=I.io b o hi;exact ⟨v,(hcell b o hi).trans hv⟩,fun id b p hb hp=>?_,I.sep,fun x hx=>?_,I.low,fun b o hi hb=>(I.own b o hi hb).heap (hoth b (by obtain ⟨v,hv⟩:=I.io b o hi;exact hcellr b o v hv))⟩,
  ⟨fun _ _ h=>h,fun _ _ h=>h,hcell,by rw [World.putObj_size];exact Nat.le_refl _,fun _ h=>h⟩⟩
 ·have hrb:=I.blk id b p hb hp
  have hne:p.b≠r:=by
   rintro rfl
   cases b with
   | cells m cs=>obtain ⟨⟨x,h0⟩,_⟩:=hrb;simp [World.shape?,h2] at h0
   | loop st pend env ps as bo=>obtain ⟨L,hL,_⟩:=hrb;rw [h2] at hL;cases hL
   | map es=>obtain ⟨arr,hL,_⟩:=hrb;rw [h2] at hL;cases hL
   | iter m n0 seen last=>obtain ⟨_,pb,hL,_⟩:=hrb;rw [h2] at hL;cases hL
  exact hrb.mono (fun _ _ h=>h) (fun _ _ h=>h) hcell (hoth _ hne) (fun _ _ h=>h)
 ·obtain ⟨hx1,hx2⟩:=hδ x hx
  obtain ⟨a,b⟩:=I.defers x hx1
  exact ⟨a,by rw [hoth x hx2];exact b⟩
theorem unwind_marks {cmp:Nat→LCode→Code→Prop} {fr:Frame} {cs:List Frame} (hm:fr.mode = .returning):∀ (rs:List Nat) (δ':Nat→Prop) (w:World),rs.Nodup→(∀ r∈rs,¬ δ r)→(∀ r,δ' r↔δ r∨r∈rs)→Inv cmp w0 μ ι δ' s w →
  ∃ w',Steps P (lone { fr with defers:=rs.map mark } cs w) (lone { fr with defers:=[] } cs w')∧Inv cmp w0 μ ι δ s w'∧Ext μ ι δ w μ ι δ w':=by
 intro rs
 induction rs with
 | nil=>
  intro δ' w _ _ hd I
  have:δ'=δ:=funext fun r=>by simpa using hd r
  subst this
  exact ⟨w, .refl _ _,I,Ext.refl _ _ _ _⟩
 | cons r rs ih=>
  intro δ' w hnd hn hd I
  obtain ⟨hr,hnd'⟩:=List.nodup_cons.1 hnd
  have hδr:δ' r:=(hd r).2 (.inr (by simp))
  obtain ⟨I1,x1⟩:=I.shut (δ:=fun x=>δ x∨x∈rs) hδr (fun x hx=>⟨(hd x).2 (hx.imp id (List.mem_cons_of_mem _)),by
   rintro rfl
   rcases hx with hx | hx
   ·exact hn _ (by simp) hx
   ·exact hr hx⟩)
  have hst:=step_collected (P:=P) (fr:={ fr with defers:=(r::rs).map mark }) (cs:=cs) (w:=w) (d:=mark r) (r:=r) (ds:=rs.map mark) (by simp [hm]) rfl rfl (run_takeDeferred (I.defers r hδr).2)
  obtain ⟨w',hs,I',x'⟩:=ih (fun x=>δ x∨x∈rs) _ hnd' (fun x hx=>hn x (List.mem_cons_of_mem _ hx)) (fun _=>Iff.rfl) I1
  refine ⟨w', .head hst hs,I',⟨fun _ _ h=>h,fun _ _ h=>h,fun b o hi=>(x'.cell b o hi).trans (x1.cell b o hi),Nat.le_trans x1.size x'.size,fun _ h=>h⟩⟩
theorem ofValue_run (f:Fn) (first caps args:Array Value) (P:Program) (w:World):(Deferred.ofValue (.func f first caps) args).run P w = .ok { target:=.fn f caps,args:=first++args } w:=by
 simp [Deferred.ofValue]
theorem call_fn {refs : List Nat} {f : FuncId} {fn : Func} {lf : LFunc} {first caps args : List LV} {Q : LV → St → Prop} (hf : P.funcs[f]? = some fn) (hn : (fn.name == "runtime.NumGoroutine") = false)
  (hc:compFunc P G refs fn=some lf) (hlen:(first++args++caps).length≤lf.ntmps)
  (h:CodeOk P G false lf.ntmps lf.body (envOf (first++args++caps)) s (fun o e s'=>(o = .normal∨o = .jmp .ret)∧∃ v,resVal lf.results e s'=some v∧Q v s')):CallOk P G (.fn (.func f) first caps) args s Q:=by
 intro w0 μ ι δ w vf vargs c cs hN hvf hvl hva
 unfold compFunc at hc
 obtain ⟨body,hbody,hc⟩:=bind_some hc
 obtain ⟨lrs,hlrs,hc⟩:=bind_some hc
 cases hc
 cases hvf with
 | fn hl hl' hr hr' =>
  rename_i va vb
  have hinv:(invoke (.fn (.func f) vb) (va++vargs)).run P w = .ok (.enter f (va++vargs++vb)) w:=by
   have hn' : ¬ fn.name = "runtime.NumGoroutine" := by simpa using hn
   simp [invoke,callFunc,hf,hn',hbody]
  have hsz:(va++vargs++vb).size=(first++args++caps).length:=by simp [hl,hl',hvl]
  let b:Frame:={ (default:Frame) with fn:=f,kind:=.normal,roundOf:=none }
  let a:Act:={ tmps:=(va++vargs++vb)++Array.replicate (fn.ntmps - (va++vargs++vb).size) undef,defers:=[] }
  have hfr:Frame.enter P f (va++vargs++vb) .normal=b.atR a [.code body]:=by
   simp [Frame.enter,Frame.atR,hf,hbody,a,b]
  have hat:∀ i,i<(first++args++caps).length→Rv μ ι w ((first++args++caps).getD i .top) ((va++vargs++vb).getD i undef):=by
   intro i hi
   simp only [List.getD_eq_getElem?_getD,Array.getD_eq_getD_getElem?]
   by_cases h1:i<first.length
   ·rw [List.append_assoc,List.getElem?_append_left h1,Array.append_assoc,Array.getElem?_append_left (by omega)]
    have:=hr i h1
    simpa [List.getD_eq_getElem?_getD,Array.getD_eq_getD_getElem?] using this
   ·by_cases h2:i<first.length+args.length
    ·rw [List.append_assoc,List.getElem?_append_right (by omega),List.getElem?_append_left (by omega),Array.append_assoc,Array.getElem?_append_right (by omega),Array.getElem?_append_left (by omega),hl]
     have:=hva (i - first.length) (by omega)
     simpa [List.getD_eq_getElem?_getD,Array.getD_eq_getD_getElem?] using this
    ·have hi':i<first.length+args.length+caps.length:=by simpa [Nat.add_assoc] using hi
     rw [List.getElem?_append_right (by simp;omega),Array.getElem?_append_right (by simp;omega)]
     have:=hr' (i - (first.length+args.length)) (by omega)
     simpa [List.getD_eq_getElem?_getD,Array.getD_eq_getD_getElem?,hl,hvl] using this
  have hF:Fr P G w0 μ ι δ s w fn.ntmps (envOf (first++args++caps)) a:=by
   refine ⟨hN,fun t=>?_,by simp only [a,Array.size_append,Array.size_replicate] at hsz ⊢;simp only at hlen;omega⟩
   rw [envOf_at]
   by_cases ht:t<(first++args++caps).length
   ·have:=hat t ht
    have hx:a.tmps.getD t undef=(va++vargs++vb).getD t undef:=by
     simp only [a,Array.getD_eq_getD_getElem?]
     rw [Array.getElem?_append_left (by omega)]
    rw [hx];exact this
   ·rw [List.getD_eq_getElem?_getD,List.getElem?_eq_none (by omega)]
    exact .top _
  have hD:=fun w=>ofValue_run (.func f) va vb vargs P w
  obtain ⟨o,e',s',μ',ι',δ',w1,a',⟨ho,v,hv,q⟩,har,hF',hW⟩:=h body ⟨refs,rfl⟩ w0 μ ι δ w b a [] (c::cs) rfl hF
  have hend:∃ todo,Steps P (lone (b.atR a [.code body]) (c::cs) w) (lone { b.atR a' todo with mode:=.returning } (c::cs) w1):=by
   rcases ho with rfl | rfl
   ·exact ⟨[],Steps.trans har (.one (stepR_end rfl))⟩
   ·obtain ⟨k',har⟩:=har
    exact ⟨_,Steps.trans har (.one (stepR_ret rfl))⟩
  obtain ⟨todo,hs1⟩:=hend
  obtain ⟨rs,hd,hnd,hnδ,hδ⟩:=hW.marks
  obtain ⟨w2,hs2,I2,x2⟩:=unwind_marks (P:=P) (fr:={ b.atR a' todo with mode:=.returning }) (cs:=c::cs) rfl rs δ' w1 hnd hnδ hδ hF'.now.inv
  have hfr2:{ b.atR a' todo with mode:=FrameMode.returning } = { ({ b.atR a' todo with mode:=FrameMode.returning } : Frame) with defers:=rs.map mark } := by
   have:a'.defers=rs.map mark:=by rw [hd];simp [a]
   simp [Frame.atR,this]
  rw [hfr2] at hs1
  have hx:Ext μ ι δ w μ' ι' δ w2:=⟨hW.ext.mu,hW.ext.io,fun b o hi=>(x2.cell b o (hW.ext.io b o hi)).trans (hW.ext.cell b o hi),Nat.le_trans hW.ext.size x2.size,fun _ h=>h⟩
  have hF2:Fr P G w0 μ' ι' δ s' w2 fn.ntmps e' a':=⟨hN.ext I2 hx,fun t=>(hF'.re t).mono x2.cell (fun _ _ h=>h) (fun _ _ h=>h),hF'.size⟩
  obtain ⟨x,hres,hrv⟩:=res_run (c:=⟨P,G,refs,fn.ntmps⟩) rfl hlrs hF2 hv
  refine ⟨v,s',μ',ι',w2,x,q,⟨_,_,_,hD,hinv,?_⟩,I2,hx,hW.kept,hrv⟩
  show Steps P (lone (Frame.enter P f (va++vargs++vb) .normal) (c::cs) w) (lone (c.finish x) cs w2)
  rw [hfr]
  refine Steps.trans hs1 (Steps.trans hs2 (.one (step_leave_returned ?_)))
  exact ⟨rfl,rfl,rfl,fn,hf,hres⟩
end
end Go.Pv
end
section
set_option linter.unusedSimpArgs false
set_option linter.unusedVariables false
namespace Go.Pv
open Go Go.RowKit
def putPs:List Nat→List LV→Env→Env
 | p::ps,v::vs,e=>putPs ps vs (Tr.set e p v)
 | _,_,e=>e
section
variable {P:Program} {G:Globs} {w0:Bs} {μ μ':Mu} {ι ι':Io} {δ δ':Nat→Prop} {s s':St} {w w':World} {nt:Nat} {e:Env} {a:Act} {rd:Bool}
theorem Inv.less {cmp:Nat→LCode→Code→Prop} (I:Inv cmp w0 μ ι δ' s w) (h:∀ r,δ r→δ' r):Inv cmp w0 μ ι δ s w:=
 ⟨I.below,I.dom,I.io,I.blk,I.sep,fun r hr=>I.defers r (h r hr),I.low,I.own⟩
theorem Inv.reloop {cmp:Nat→LCode→Code→Prop} (I:Inv cmp w0 μ ι δ s w) {id:Nat} {p:Place} {st st':LoopState} {pend pend':Option Jmp} {env:Env} {ps:List Nat} {as bo:LCode} {L:Loop}
  (hg:s.get id=some (.loop st pend env ps as bo)) (hp:μ id=some p) (hL:w.heap[p.b]? = some (.loop L)) :
  Inv cmp w0 μ ι δ (s.put id (.loop st' pend' env ps as bo)) (w.putObj p.b (.loop { L with state:=st',pending:=pend'.map Jmp.code })) ∧
   Ext μ ι δ w μ ι δ (w.putObj p.b (.loop { L with state:=st',pending:=pend'.map Jmp.code })):=by
 obtain ⟨L',hL',h1,h2,h3,h4,h5,h6,h7⟩:=I.blk id _ p hg hp
 rw [hL] at hL'
 cases hL'
 have hdom:=I.dom id p hp
 have hoth:∀ k,k≠p.b→(w.putObj p.b (.loop { L with state:=st',pending:=pend'.map Jmp.code })).heap[k]? = w.heap[k]? := fun k hk=>World.putObj_heap_other hk
 have hcellr:∀ b o v,w.cell? ⟨b,o,none⟩=some v→b≠p.b:=by
  rintro b o v hv rfl
  simp [World.cell?,hL] at hv
 have hcell:∀ b o,ι b o→(w.putObj p.b (.loop { L with state:=st',pending:=pend'.map Jmp.code })).cell? ⟨b,o,none⟩=w.cell? ⟨b,o,none⟩:=fun b o hi=>by
  obtain ⟨v,hv⟩:=I.io b o hi
  exact cell_of_heap (hoth b (hcellr b o v hv))
 have hlt:p.b<w.heap.size:=hdom.2.2
 refine ⟨⟨⟨I.below.os,I.below.tape,I.below.output,by rw [World.putObj_size];exact I.below.size,fun k hk=>by rw [hoth k (by have:=hdom.2.1;omega)];exact I.below.block k hk⟩,
  fun id p hp=>by rw [World.putObj_size];exact I.dom id p hp,fun b o hi=>by obtain ⟨v,hv⟩:=I.io b o hi;exact ⟨v,(hcell b o hi).trans hv⟩,fun id' b q hb hq=>?_,?_,fun x hx=>?_,I.low,fun b o hi hb=>(I.own b o hi hb).heap (hoth b (by obtain ⟨v,hv⟩:=I.io b o hi;exact hcellr b o v hv))⟩,
  ⟨fun _ _ h=>h,fun _ _ h=>h,hcell,by rw [World.putObj_size];exact Nat.le_refl _,fun _ h=>h⟩⟩
 ·rw [St.get_put] at hb
  split at hb
  ·rename_i he;subst he;cases hb
   obtain rfl:p=q:=Option.some.inj (hp.symm.trans hq)
   exact ⟨_,World.putObj_heap_same hlt,rfl,rfl,fun t=>(h3 t).mono hcell (fun _ _ h=>h) (fun _ _ h=>h),h4,h5,h6,h7⟩
  ·rename_i he
   have hrb:=I.blk id' b q hb hq
   have hne:q.b≠p.b:=by
    intro hqe
    cases b with
    | cells m cs=>obtain ⟨⟨x,h0⟩,_⟩:=hrb;rw [hqe] at h0;simp [World.shape?,hL] at h0
    | loop st pend env ps as bo=>exact he (I.sep id' id _ _ q p hb hg rfl rfl hq hp hqe)
    | map es=>exact he (I.sep id' id _ _ q p hb hg rfl rfl hq hp hqe)
    | iter m n0 seen last=>exact he (I.sep id' id _ _ q p hb hg rfl rfl hq hp hqe)
   exact hrb.mono (fun _ _ h=>h) (fun _ _ h=>h) hcell (hoth _ hne) (fun _ _ h=>h)
 ·intro i j b1 b2 p1 p2 g1 g2 o1 o2 m1 m2 e
  rw [St.get_put] at g1 g2
  have f:∀ {k:Nat} {b:Blk},(if k=id then some (Blk.loop st' pend' env ps as bo) else s.get k)=some b→b.owns=true→∃ b',s.get k=some b'∧b'.owns=true:=by
   intro k b h ho
   split at h
   ·rename_i e;subst e;exact ⟨_,hg,rfl⟩
   ·exact ⟨b,h,ho⟩
  obtain ⟨c1,k1,l1⟩:=f g1 o1
  obtain ⟨c2,k2,l2⟩:=f g2 o2
  exact I.sep i j c1 c2 p1 p2 k1 k2 l1 l2 m1 m2 e
 ·obtain ⟨a,b⟩:=I.defers x hx
  refine ⟨a,?_⟩
  rw [hoth x ?_]
  ·exact b
  ·rintro rfl;rw [hL] at b;cases b
theorem putPs_rel:∀ (ps:List Nat) (vs:List LV) (xs:List Value) (e:Env) (tmps:Array Value),vs.length=ps.length→xs.length=ps.length→(∀ i∈ps,i<tmps.size)→(∀ i,i<vs.length→Rv μ ι w (vs.getD i .top) (xs.getD i undef))→Re μ ι w e tmps →
  Re μ ι w (putPs ps vs e) ((ps.zip xs).foldl (fun tmps (t,a)=>tmps.setIfInBounds t a) tmps)∧((ps.zip xs).foldl (fun tmps (t,a)=>tmps.setIfInBounds t a) tmps).size=tmps.size:=by
 intro ps
 induction ps with
 | nil=>intro vs xs e tmps h1 h2 h3 h4 h5;simp [putPs];exact h5
 | cons p ps ih=>
  intro vs xs e tmps h1 h2 h3 h4 h5
  match vs,xs,h1,h2 with
  | v :: vs, x :: xs, h1, h2 =>
   simp only [putPs,List.zip_cons_cons,List.foldl_cons]
   have h0:Re μ ι w (Tr.set e p v) (tmps.setIfInBounds p x):=by
    have:=Re.put (a:={ tmps:=tmps,defers:=[] }) (d:=some p) h5 (fun t ht=>by cases ht;exact h3 p (by simp)) (by simpa using h4 0 (by simp))
    exact this
   obtain ⟨r1,r2⟩:=ih vs xs (Tr.set e p v) (tmps.setIfInBounds p x) (by simpa using h1) (by simpa using h2) (fun i hi=>by simp;exact h3 i (List.mem_cons_of_mem _ hi)) (fun i hi=>by simpa using h4 (i+1) (by simpa using hi)) h0
   exact ⟨r1,by rw [r2];simp⟩
def Round (id:Nat) (Q:LV→St→Prop):Out→Env→St→Prop
 | .normal,_,s=>∃ st pend env ps as bo,s.get id=some (.loop st pend env ps as bo)∧Q (.bool true) (s.put id (.loop .ready none env ps as bo))
 | .jmp j,_,s=>∃ st pend env ps as bo,s.get id=some (.loop st pend env ps as bo)∧Q (.bool false) (s.put id (.loop .done (some j) env ps as bo))
theorem call_yield {id:Nat} {env:Env} {ps:List Nat} {as bo:LCode} {pend:Option Jmp} {args:List LV} {Q:LV→St→Prop} (hg:s.get id=some (.loop .ready pend env ps as bo)) (hl:args.length=ps.length)
  (h:∀ nt,CodeOk P G true nt as (putPs ps args env) s (Thn (fun e1 s1=>∃ pend env ps as' bo',s1.get id=some (.loop .ready pend env ps as' bo') ∧
   CodeOk P G true nt bo e1 (s1.put id (.loop .busy pend env ps as' bo')) (Round id Q)) (fun _ _ _=>False))):CallOk P G (.yld id) args s Q:=by
 intro w0 μ ι δ w vf vargs c cs hN hvf hvl hva
 cases hvf with
 | yld hp=>
  rename_i p
  obtain ⟨L,hL,h1,h2,h3,h4,h5,h6,h7⟩:=hN.inv.blk id _ p hg hp
  have hyl:=run_yield (P:=P) (args:=vargs) hL (by rw [h5,hvl,hl];simp)
  let b:Frame:={ (default:Frame) with fn:=L.fn,kind:=.normal,roundOf:=some p.b }
  let tm:=(L.params.zip vargs).foldl (fun tmps (t,a)=>tmps.setIfInBounds t a) L.tmps
  have hfr:Frame.round p.b L.fn tm L.assign L.body .normal=b.atR { tmps:=tm,defers:=[] } [.code L.assign, .beginRound, .code L.body]:=by
   simp [Frame.round,Frame.atR,b]
  have htm:tm=(ps.zip vargs.toList).foldl (fun tmps (t,a)=>tmps.setIfInBounds t a) L.tmps:=by
   simp only [tm,h5]
   rw [← Array.foldl_toList,Array.toList_zip]
  obtain ⟨hre,hsz⟩:=putPs_rel (μ:=μ) (ι:=ι) (w:=w) ps args vargs.toList env L.tmps hl (by simpa [hvl] using hl) h4 (fun i hi=>by
   have:=hva i hi
   simpa [List.getD_eq_getElem?_getD,Array.getD_eq_getD_getElem?] using this) h3
  rw [← htm] at hre hsz
  have hF:Fr P G w0 μ ι δ s w L.tmps.size (putPs ps args env) { tmps:=tm,defers:=[] } := ⟨hN,hre,hsz⟩
  obtain ⟨o,e1,s1,μ1,ι1,δ1,w1,a1,hq,har,hF1,hW1⟩:=h L.tmps.size L.assign h6 w0 μ ι δ w b _ [.beginRound, .code L.body] (c::cs) rfl hF
  cases o with
  | jmp j=>exact hq.elim
  | normal=>
   obtain ⟨pend1,env1,ps1,as1,bo1,hg1,hbody⟩:=hq
   have hp1:=hW1.ext.mu id p hp
   obtain ⟨L1,hL1,k1,k2,k3,k4,k5,k6,k7⟩:=hF1.now.inv.blk id _ p hg1 hp1
   obtain ⟨I2,x2⟩:=hF1.now.inv.reloop (st':=.busy) (pend':=pend1) hg1 hp1 hL1
   rw [← k2] at I2 x2
   have hbr:(Instr.beginRound p.b).run P w1 = .ok () (w1.putObj p.b (.loop { L1 with state:=.busy })):=run_beginRound hL1 k1
   have hF2:Fr P G w0 μ1 ι1 δ1 (s1.put id (.loop .busy pend1 env1 ps1 as1 bo1)) (w1.putObj p.b (.loop { L1 with state:=.busy })) L.tmps.size e1 a1:=⟨hF1.now.ext I2 x2,hF1.re.ext x2,hF1.size⟩
   obtain ⟨o,e3,s3,μ3,ι3,δ3,w3,a3,hq,har3,hF3,hW3⟩:=hbody L.body h7 w0 μ1 ι1 δ1 _ b a1 [] (c::cs) rfl hF2
   have hp3:=hW3.ext.mu id p hp1
   have hk2:Kept μ1 s1 μ1 (s1.put id (.loop .busy pend1 env1 ps1 as1 bo1)):=Kept.put hp1 _
   have hδ:∀ r,δ r→δ3 r:=fun r hr=>hW3.ext.de r (hW1.ext.de r hr)
   have hst1:Steps P (lone (Frame.round p.b L.fn tm L.assign L.body .normal) (c::cs) w) (lone (b.atR a1 [.code L.body]) (c::cs) (w1.putObj p.b (.loop { L1 with state:=.busy }))):=by
    rw [hfr]
    exact Steps.trans har (.one (stepR_beginRound rfl hbr))
   have fin:∀ (j:Option Jmp),(∃ st pend env ps as bo,s3.get id=some (.loop st pend env ps as bo)∧Q (.bool j.isNone) (s3.put id (.loop (if j.isNone then .ready else .done) j env ps as bo))) →
     (∀ v w',(Instr.endRound p.b (j.map Jmp.code)).run P w3 = .ok v w'→Steps P (lone (b.atR a1 [.code L.body]) (c::cs) (w1.putObj p.b (.loop { L1 with state:=.busy }))) (lone (c.finish v) cs w')) →
     ∃ lv s' μ' ι' w' v,Q lv s'∧Goes P (.func (.yield p.b) #[] #[]) vargs w c cs v w'∧Inv (cmpR P G) w0 μ' ι' δ s' w'∧Ext μ ι δ w μ' ι' δ w'∧Kept μ s μ' s'∧Rv μ' ι' w' lv v:=by
    intro j hgl hst
    obtain ⟨st,pd,env3,ps3,as3,bo3,hg3,hQ⟩:=hgl
    obtain ⟨L3,hL3,m1,m2,m3,m4,m5,m6,m7⟩:=hF3.now.inv.blk id _ p hg3 hp3
    obtain ⟨I4,x4⟩:=hF3.now.inv.reloop (st':=if j.isNone then .ready else .done) (pend':=j) hg3 hp3 hL3
    have her:=run_endRound (P:=P) (j.map Jmp.code) hL3
    have hj:(j.map Jmp.code).isNone=j.isNone:=by cases j<;>rfl
    rw [hj] at her
    have hx:Ext μ ι δ w μ3 ι3 δ3 (w3.putObj p.b (.loop { L3 with state:=if j.isNone then .ready else .done,pending:=j.map Jmp.code })):=((hW1.ext.trans x2).trans hW3.ext).trans x4
    refine ⟨_,_,μ3,ι3,_,_,hQ,⟨_, .round p.b L.fn tm L.assign L.body,w,fun w=>ofValue_run _ _ _ _ P w,?_,?_⟩,I4.less hδ,⟨hx.mu,hx.io,hx.cell,hx.size,fun _ h=>h⟩,?_, .bool _⟩
    ·simp only [invoke,Array.empty_append]
     exact hyl
    ·exact Steps.trans hst1 (hst _ _ her)
    ·exact ((hW1.kept.trans hk2).trans hW3.kept).trans (Kept.put hp3 _)
   rcases o with _ | _ | id'
   ·exact fin none hq fun v w' her=>Steps.trans har3 (.one (stepR_round_end rfl rfl her))
   ·obtain ⟨k',har3⟩:=har3
    exact fin (some .ret) hq fun v w' her=>Steps.trans har3 (.one (stepR_round_ret rfl rfl her))
   ·obtain ⟨k',hk,har3⟩:=har3
    exact fin (some (.exit id')) hq fun v w' her=>Steps.trans har3 (.one (stepR_round_exit rfl rfl hk her))
theorem comp_rangeFunc {c:Ctx} {x:Code} {y:Opd} {ps:List Nat} {as bo:LCode} (h:compCode c x = .rangeFunc y ps as bo):∃ g pa p q,x = .rangeFunc g pa p q∧opd c g=some y∧pa.toList=ps∧(∀ i∈ps,i<c.nt)∧compCode c p=as∧compCode c q=bo:=by
 cases x<;>simp only [compCode,reduceCtorEq] at h
 ·split at h<;>cases h
 ·split at h<;>cases h
 ·split at h
  ·rename_i hy
   split at h
   ·rename_i hps
    cases h
    exact ⟨_,_,_,_,rfl,hy,rfl,fun i hi=>by simpa using List.all_eq_true.1 hps i hi,rfl,rfl⟩
   ·cases h
  ·cases h
def Ranged (id:Nat) (e:Env) (Q:Out→Env→St→Prop) (s:St):Prop:=
 ∃ st pend env ps as bo,s.get id=some (.loop st pend env ps as bo)∧st≠.busy∧(match pend with | none=>Q .normal e (s.put id (.loop .exhausted none env ps as bo)) | some j=>Q (.jmp j) e (s.put id (.loop .exhausted (some j) env ps as bo)))
theorem ok_rangeFunc {y:Opd} {ps:List Nat} {as bo:LCode} {Q:Out→Env→St→Prop} (h:CallOk P G (y.ev e) [.yld s.n] (s.new (.loop .ready none e ps as bo)) (fun _ s'=>Ranged s.n e Q s')):CodeOk P G false nt (.rangeFunc y ps as bo) e s Q:=by
 rintro c ⟨refs,hc⟩ w0 μ ι δ w b a k cs hb hf
 obtain ⟨g,pa,p,q,rfl,hy,hpa,hps,h1,h2⟩:=comp_rangeFunc hc
 have hb0:b.roundOf=none:=by simpa using hb
 have hent:=run_enterLoop_outer (P:=P) (w:=w) b.fn a.tmps pa p q
 let wa:World:={ w with heap:=w.heap.push (.deferred (some [])) }
 let L:Loop:={ state:=.ready,pending:=none,fn:=b.fn,tmps:=a.tmps,params:=pa,assign:=p,body:=q,defers:=w.heap.size }
 let w1:World:={ wa with heap:=wa.heap.push (.loop L) }
 have hsa:Same w wa:=Same.alloc w _
 have hs1:Same wa w1:=Same.alloc wa _
 have hs:Same w w1:=hsa.trans hs1
 have hwa:wa.heap.size=w.heap.size+1:=by simp [wa]
 have hw1:w1.heap.size=w.heap.size+2:=by simp [w1,wa]
 have hr1:w1.heap[w.heap.size]? = some (.deferred (some [])):=by
  rw [hs1.block _ (by rw [hwa];exact Nat.lt_succ_self _)]
  simp [wa]
 have hl1:w1.heap[w.heap.size+1]? = some (.loop L):=by
  rw [← hwa];simp [w1]
 have I1:=hf.now.inv.same hs
 have x1:=hf.now.inv.ext_same hs
 let δ1:Nat→Prop:=fun r=>δ r∨r∈[w.heap.size]
 have I1':Inv (cmpR P G) w0 μ ι δ1 s w1:=⟨I1.below,I1.dom,I1.io,I1.blk,I1.sep,fun r hr=>by
  rcases hr with hr | hr
  ·exact I1.defers r hr
  ·have:r=w.heap.size:=by simpa using hr
   subst this
   exact ⟨hf.now.inv.hB,hr1⟩,I1.low,I1.own⟩
 have hrb:Rb (cmpR P G) μ ι w1 ⟨w.heap.size+1,0,0⟩ (.loop .ready none e ps as bo) :=
  ⟨L,hl1,rfl,rfl,hf.re.ext x1,fun i hi=>by have:=hps i hi;show i<a.tmps.size;rw [hf.size];exact this,by rw [← hpa],⟨refs,by show compCode ⟨P,G,refs,a.tmps.size⟩ p=as;rw [hf.size];exact h1⟩,⟨refs,by show compCode ⟨P,G,refs,a.tmps.size⟩ q=bo;rw [hf.size];exact h2⟩⟩
 obtain ⟨I2,x2⟩:=I1'.addBlk ⟨w.heap.size+1,0,0⟩ (.loop .ready none e ps as bo) (by have:=hf.now.inv.hB;show w0.heap.size≤w.heap.size+1;omega) (by show w.heap.size+1<w1.heap.size;omega) hrb
  (fun _ id b' p' _ _ hm he=>by have:=(hf.now.inv.dom id p' hm).2.2;have he':p'.b=w.heap.size+1:=he;omega)
 have x12:Ext μ ι δ w (μ.upd s.n ⟨w.heap.size+1,0,0⟩) ι δ1 w1:=⟨x2.mu,fun _ _ h=>h,x1.cell,hs.size,fun _ h=>.inl h⟩
 have hN2:Now P G w0 (μ.upd s.n ⟨w.heap.size+1,0,0⟩) ι δ1 (s.new (.loop .ready none e ps as bo)) w1:=hf.now.ext I2 x12
 have hk2:Kept μ s (μ.upd s.n ⟨w.heap.size+1,0,0⟩) (s.new (.loop .ready none e ps as bo)):=Kept.new _ _
 have hyid:(μ.upd s.n ⟨w.heap.size+1,0,0⟩) s.n=some ⟨w.heap.size+1,0,0⟩:=by simp [Mu.upd]
 have hvf:=opd_rel (c:=⟨P,G,refs,nt⟩) rfl rfl hf.now hy (fun t _=>hf.re t)
 let a':Act:={ a with defers:=mark w.heap.size::a.defers }
 obtain ⟨lv,s3,μ3,ι3,w3,v,hR,hgo,I3,x3,hk3,hrv⟩:=h w0 _ ι δ1 w1 (a.eval g) #[.func (.yield (w.heap.size+1)) #[] #[]] (b.atR a' (.inRangeFunc (w.heap.size+1)::k)) cs hN2 (hvf.ext x12) rfl (fun i hi=>by
  have hi0:i=0:=by simpa using hi
  subst hi0
  exact .yld hyid)
 obtain ⟨st,pend,env3,ps3,as3,bo3,hg3,hbusy,hQ⟩:=hR
 have hp3:=x3.mu _ _ hyid
 obtain ⟨L3,hL3,m1,m2,m3,m4,m5,m6,m7⟩:=I3.blk _ _ _ hg3 hp3
 obtain ⟨I4,x4⟩:=I3.reloop (st':=.exhausted) (pend':=pend) hg3 hp3 hL3
 rw [← m2] at I4 x4
 have hel:=run_endLoop (P:=P) hL3 (by rw [m1];exact hbusy)
 obtain ⟨d,nx,w2,g1,g2,g3⟩:=hgo
 have hev:(b.atR a' (.inRangeFunc (w.heap.size+1)::k)).eval=a.eval:=by rw [Frame.eval_atR];rfl
 have hres:(resolve a.eval (rangeCall g (w.heap.size+1)) 0).run P w1 = .ok d w1:=by
  have:=g1 w1
  simpa [resolve,rangeCall,Act.eval] using this
 have hfin:(b.atR a' (.inRangeFunc (w.heap.size+1)::k)).finish v=b.atR a' (.endRangeFunc (w.heap.size+1)::k):=finish_atR_inRangeFunc _ _
 have hsteps:Steps P (lone (b.atR a (.code (.rangeFunc g pa p q)::k)) cs w) (lone (b.atR a' (.endRangeFunc (w.heap.size+1)::k)) cs w3):=by
  have hent':(Instr.enterLoop b.fn a.tmps pa p q b.roundOf).run P w = .ok (w.heap.size+1,[mark w.heap.size]) w1:=by rw [hb0];exact hent
  have hevt:Frame.eval { fn:=b.fn,tmps:=a.tmps,todo:=.inRangeFunc (w.heap.size+1)::k,defers:=mark w.heap.size::a.defers,mode:=.run,kind:=b.kind,roundOf:=b.roundOf } = a.eval:=hev
  have hres':Sem.run P (resolve a.eval { callee:=.value g,args:=#[.const (.func (.yield (w.heap.size+1)) #[] #[])],argTypes:=#[] } 0) w1 = .ok d w1:=hres
  cases nx<;>try (exact g3.elim)
  case value v' =>
   obtain ⟨rfl,rfl⟩:=g3
   refine .one (step_lone_go ?_)
   rw [← hfin]
   simp [stepG,stepG.exec,Frame.atR,Sem.runT_eq,hent',GStep.bare_after,stepG.apply,hevt,Sem.run_bind,hres',g2,Result.andThen,a']
  case enter f' as' =>
   refine .head (m₁:=lone (Frame.enter P f' as' .normal) (b.atR a' (.inRangeFunc (w.heap.size+1)::k)::cs) w2) (step_lone_go ?_) (by rw [← hfin];exact g3)
   simp [stepG,stepG.exec,Frame.atR,Sem.runT_eq,hent',GStep.bare_after,stepG.apply,hevt,Sem.run_bind,hres',g2,Result.andThen,a']
  case round l f' tmps as' bo' =>
   refine .head (m₁:=lone (Frame.round l f' tmps as' bo' .normal) (b.atR a' (.inRangeFunc (w.heap.size+1)::k)::cs) w2) (step_lone_go ?_) (by rw [← hfin];exact g3)
   simp [stepG,stepG.exec,Frame.atR,Sem.runT_eq,hent',GStep.bare_after,stepG.apply,hevt,Sem.run_bind,hres',g2,Result.andThen,a']
 have hend:=stepR_endRangeFunc (b:=b) (a:=a') (k:=k) (cs:=cs) hel
 have hx:Ext μ ι δ w μ3 ι3 δ1 (w3.putObj (w.heap.size+1) (.loop { L3 with state:=.exhausted })):=(x12.trans x3).trans x4
 have hF4:Fr P G w0 μ3 ι3 δ1 (s3.put s.n (.loop .exhausted pend env3 ps3 as3 bo3)) (w3.putObj (w.heap.size+1) (.loop { L3 with state:=.exhausted })) nt e a':=⟨hf.now.ext I4 hx,hf.re.ext hx,hf.size⟩
 have hW:Went μ ι δ s w a.defers μ3 ι3 δ1 (s3.put s.n (.loop .exhausted pend env3 ps3 as3 bo3)) (w3.putObj (w.heap.size+1) (.loop { L3 with state:=.exhausted })) a'.defers:=by
  refine ⟨hx,(hk2.trans hk3).trans (Kept.put hp3 _),[w.heap.size],rfl,by simp,fun r hr hd=>?_,fun r=>Iff.rfl⟩
  have:r=w.heap.size:=by simpa using hr
  subst this
  obtain ⟨_,hh⟩:=hf.now.inv.defers _ hd
  simp at hh
 have hend2:step P (lone (b.atR a' (.endRangeFunc (w.heap.size+1)::k)) cs w3) = .next (lone (b.atR a' (((pend.map Jmp.code).map Item.code).toList++k)) cs (w3.putObj (w.heap.size+1) (.loop { L3 with state:=.exhausted }))):=by
  have h:=hend
  rw [m2] at h ⊢
  exact h
 cases pend with
 | none=>exact ⟨.normal,e,_,μ3,ι3,δ1,_,a',hQ,Steps.trans hsteps (.one hend2),hF4,hW⟩
 | some j=>
  cases j with
  | ret=>exact ⟨.jmp .ret,e,_,μ3,ι3,δ1,_,a',hQ,⟨k,Steps.trans hsteps (.one hend2)⟩,hF4,hW⟩
  | exit id=>exact ⟨.jmp (.exit id),e,_,μ3,ι3,δ1,_,a',hQ,⟨k,rfl,Steps.trans hsteps (.one hend2)⟩,hF4,hW⟩
end
end Go.Pv
end
section
set_option linter.unusedSimpArgs false
set_option linter.unusedVariables false
namespace Go.Pv
open Go Go.RowKit
theorem closedAll_get:∀ {l:List LV} {i:Nat},LV.closed.closedAll l=true→i<l.length→(l.getD i .top).closed=true:=by
 intro l
 induction l with
 | nil=>intro i _ h;exact absurd h (Nat.not_lt_zero _)
 | cons v l ih=>
  intro i h hi
  simp only [LV.closed.closedAll,Bool.and_eq_true] at h
  cases i with
  | zero=>exact h.1
  | succ i=>simpa using ih h.2 (by simpa using hi)
section
variable {P:Program} {G:Globs} {w0:Bs} {μ μ':Mu} {ι ι':Io} {δ:Nat→Prop} {s s':St} {w w':World}
theorem Rv.closed {v:LV} {x:Value} (h:Rv μ ι w v x):v.closed=true→Rv μ' ι w v x:=by
 induction h with
 | top v=>intro hc;cases hc
 | bool b=>intro _;exact .bool b
 | int k n=>intro _;exact .int k n
 | str s=>intro _;exact .str s
 | agg hl _ ih=>intro hc;exact .agg hl fun i hi=>ih i hi (closedAll_get hc hi)
 | tup hl _ ih=>intro hc;exact .tup hl fun i hi=>ih i hi (closedAll_get hc hi)
 | nilp=>intro _;exact .nilp
 | pimm vs hc hi h1 _ ih=>intro hcl;exact .pimm vs hc hi h1 fun i hi=>ih i hi (closedAll_get hcl hi)
 | pref hp=>intro hc;cases hc
 | nils=>intro _;exact .nils
 | zs a=>intro _;exact .zs a
 | simm vs hc hi h1 _ hlc ih=>intro hcl;exact .simm vs hc hi h1 (fun i hi=>ih i hi (closedAll_get hcl hi)) hlc
 | sref hp hcap hlc had=>intro hc;cases hc
 | fn hl hl' _ _ ih ih' =>
  intro hc
  simp only [LV.closed,Bool.and_eq_true] at hc
  exact .fn hl hl' (fun i hi=>ih i hi (closedAll_get hc.1 hi)) (fun i hi=>ih' i hi (closedAll_get hc.2 hi))
 | nilf=>intro _;exact .nilf
 | yld hp=>intro hc;cases hc
 | ifc _ ih=>intro hc;exact .ifc (ih hc)
 | nili=>intro _;exact .nili
 | nilm=>intro _;exact .nilm
 | mref hp=>intro hc;cases hc
structure PureEx (P:Program) (G:Globs) (f:LV) (args:List LV) (R:LV→Prop):Prop where
 cf:f.closed=true
 cargs:LV.closed.closedAll args=true
 call:CallOk P G f args St.empty (fun v s'=>∃ r s'',frz frzDepth v s'=some (r,s'')∧r.closed=true∧R r)
structure PureOk (P:Program) (G:Globs) (f:LV) (args:List LV) (r:LV):Prop where
 cf:f.closed=true
 cargs:LV.closed.closedAll args=true
 cr:r.closed=true
 call:CallOk P G f args St.empty (fun v s'=>∃ s'',frz frzDepth v s'=some (r,s''))
theorem PureOk.ex {f r:LV} {args:List LV} (h:PureOk P G f args r):PureEx P G f args (fun x=>x=r) :=
 ⟨h.cf,h.cargs,CallOk.mono h.call fun v s' hh=>by obtain ⟨s'',hf⟩:=hh;exact ⟨r,s'',hf,h.cr,rfl⟩⟩
theorem pure_callEx (hG:∀ x∈G,LV.closed.closedAll x.2=true) {f:LV} {args:List LV} {R:LV→Prop} (h:PureEx P G f args R) {Q:LV→St→Prop} (hq:∀ r,R r→r.closed=true→Q r s):CallOk P G f args s Q:=by
 intro w0 μ ι δ w vf vargs c cs hN hvf hvl hva
 let w0':Bs:=⟨w,ι⟩
 let μ0:Mu:=fun _=>none
 have hN0:Now P G w0' μ0 ι (fun _=>False) St.empty w:=by
  refine ⟨⟨Below.refl _ _,fun id p hp=>(by cases hp),hN.inv.io,fun id b p _ hp=>(by cases hp),fun _ _ _ _ _ _ hb=>(by cases hb),fun _ hr=>hr.elim,fun b o hi _=>hi,fun b o hi hb=>by obtain ⟨v,hv⟩:=hN.inv.io b o hi;have:=cell_lt hv;exact absurd hb (by show ¬ w.heap.size≤b;omega)⟩,fun x hx=>?_,fun ho b o hi=>hN.plain ho hi⟩
  exact (hN.glob x hx).closed (by simpa [LV.closed] using hG x hx)
 obtain ⟨lv,s1,μ1,ι1,w1,v,⟨r,s2,hfz,hcr,hR⟩,hgo,hI,hx,hk,hrv⟩:=h.call w0' μ0 ι (fun _=>False) w vf vargs c cs hN0 (hvf.closed h.cf) hvl (fun i hi=>(hva i hi).closed (closedAll_get h.cargs hi))
 obtain ⟨ι2,I2,x2,rv2,_⟩:=frz_ok frzDepth lv s1 r s2 ι1 v hfz hI hrv
 have hsame:Same w w1:=Same.of_below I2.below
 have hIw:=hN.inv.same hsame
 have hcell:∀ b o,ι b o→w1.cell? ⟨b,o,none⟩=w.cell? ⟨b,o,none⟩:=hN.inv.cell_same hsame
 have hlow:∀ b o,ι2 b o→b<w.heap.size→ι b o:=I2.low
 have hι:∀ b o,ι b o→ι2 b o:=fun b o hi=>x2.io b o (hx.io b o hi)
 refine ⟨r,s,μ,ι2,w1,v,hq r hR hcr,hgo,⟨hIw.below,hIw.dom,I2.io,fun id b p hb hp=>?_,hIw.sep,hIw.defers,fun b o hi hb=>?_,fun b o hi hb=>?_⟩,⟨fun _ _ h=>h,hι,hcell,hsame.size,fun _ h=>h⟩,Kept.refl _ _,rv2.closed hcr⟩
 ·have hd:=(hN.inv.dom id p hp).2.2
  exact (hIw.blk id b p hb hp).mono (fun _ _ h=>h) hι (fun _ _ _=>rfl) rfl (fun _ i hi=>hlow _ _ hi hd)
 ·have hb':b<w.heap.size:=Nat.lt_of_lt_of_le hb hN.inv.hB
  exact hN.inv.low b o (hlow b o hi hb') hb
 ·by_cases hb':b<w.heap.size
  ·exact hIw.own b o (hlow b o hi hb') hb
  ·exact I2.own b o hi (by show w.heap.size≤b;omega)
theorem pure_call (hG:∀ x∈G,LV.closed.closedAll x.2=true) {f r:LV} {args:List LV} (h:PureOk P G f args r) {Q:LV→St→Prop} (hq:Q r s):CallOk P G f args s Q:=
 pure_callEx hG h.ex fun x hx _=>by subst hx;exact hq
theorem call_frz {f:LV} {args args':List LV} {Q:LV→St→Prop} (hfz:frz.frzAll (frz frzDepth) args s=some (args',s')) (h:CallOk P G f args' s' Q):CallOk P G f args s Q:=by
 intro w0 μ ι δ w vf vargs c cs hN hvf hvl hva
 obtain ⟨ι1,I1,x1,l1,r1,f1⟩:=frzAll_ok (frz_ok frzDepth) _ _ _ _ ι (fun i=>vargs.getD i undef) hfz hN.inv hva
 obtain ⟨lv,s2,μ2,ι2,w2,v,q,hgo,I2,x2,k2,rv⟩:=h w0 μ ι1 δ w vf vargs c cs (hN.ext I1 x1) (hvf.ext x1) (by rw [l1];exact hvl) (fun i hi=>r1 i (by rw [← l1];exact hi))
 exact ⟨lv,s2,μ2,ι2,w2,v,q,hgo,I2,x1.trans x2,(Kept.of_frz f1).trans k2,rv⟩
end
end Go.Pv
end
section
set_option linter.unusedSimpArgs false
set_option linter.unusedVariables false
namespace Go.Pv
open Go Go.RowKit
def LV.old (n:Nat):LV→Bool
 | .sref id _ _ _=>Nat.blt id n
 | .pref id _=>Nat.blt id n
 | .mref id=>Nat.blt id n
 | .yld id=>Nat.blt id n
 | .agg cs=>oldL n cs
 | .tup cs=>oldL n cs
 | .pimm cs _=>oldL n cs
 | .simm cs _=>oldL n cs
 | .fn _ a b=>oldL n a && oldL n b
 | .ifc _ v=>v.old n
 | _=>true
where oldL (n:Nat):List LV→Bool
 | []=>true
 | v::l=>v.old n && oldL n l
def Mu.cut (μ:Mu) (n:Nat):Mu:=fun id=>if id<n then μ id else none
theorem oldL_get {n:Nat} : ∀ {l:List LV} {i:Nat},LV.old.oldL n l=true→i<l.length→(l.getD i .top).old n=true:=by
 intro l
 induction l with
 | nil=>intro i _ h;exact absurd h (Nat.not_lt_zero _)
 | cons v l ih=>
  intro i h hi
  simp only [LV.old.oldL,Bool.and_eq_true] at h
  cases i with
  | zero=>simpa using h.1
  | succ i=>simpa using ih h.2 (by simpa using hi)
def Tr.cut {α:Type} : Tr α→Nat→Tr α
 | .nil,_=>.nil
 | .node l v r,n=>if n=0 then .nil else .node (l.cut (n / 2)) v (r.cut ((n - 1) / 2))
theorem Tr.get_cut {α:Type} (t:Tr α):∀ (n i:Nat),(t.cut n).get i=if i<n then t.get i else none:=by
 induction t with
 | nil=>intro n i;simp [Tr.cut,Tr.get]
 | node l v r ihl ihr=>
  intro n i
  unfold Tr.cut
  by_cases hn:n=0
  ·subst hn;simp [Tr.get]
  ·rw [if_neg hn]
   simp only [Tr.get]
   by_cases hi:i=0
   ·subst hi;rw [if_pos rfl,if_pos (by omega),if_pos rfl]
   ·rw [if_neg hi,if_neg hi]
    by_cases ho:i % 2=1
    ·rw [if_pos ho,if_pos ho,ihl]
     by_cases h:i<n
     ·rw [if_pos (by omega),if_pos h]
     ·rw [if_neg (by omega),if_neg h]
    ·rw [if_neg ho,if_neg ho,ihr]
     by_cases h:i<n
     ·rw [if_pos (by omega),if_pos h]
     ·rw [if_neg (by omega),if_neg h]
def Tr.allB {α:Type} (p:α→Bool):Tr α→Bool
 | .nil=>true
 | .node l v r=>l.allB p && (match v with | some x=>p x | none=>true) && r.allB p
theorem Tr.allB_get {α:Type} {p:α→Bool} (t:Tr α):∀ {i:Nat} {x:α},t.allB p=true→t.get i=some x→p x=true:=by
 induction t with
 | nil=>intro i x _ h;cases h
 | node l v r ihl ihr=>
  intro i x ha h
  simp only [Tr.allB,Bool.and_eq_true] at ha
  simp only [Tr.get] at h
  split at h
  ·subst h;exact ha.1.2
  ·split at h
   ·exact ihl ha.1.1 h
   ·exact ihr ha.2 h
def St.cut (s:St) (n:Nat):St:=⟨n,s.h.cut n⟩
theorem St.get_cut (s:St) (n id:Nat):(s.cut n).get id=if id<n then s.get id else none:=Tr.get_cut _ _ _
def Blk.old (n:Nat):Blk→Bool
 | .cells _ cs=>LV.old.oldL n cs
 | .map es=>es.all fun x=>x.1.old n && x.2.old n
 | .iter m _ _ _=>(match m with | some id=>Nat.blt id n | none=>true)
 | .loop _ _ env _ _ _=>env.allB (LV.old n)
section
variable {w:World} {μ:Mu} {ι:Io}
theorem Mu.cut_some {n id:Nat} {p:Place} (h:μ id=some p) (hn:Nat.blt id n=true):μ.cut n id=some p:=by
 have:id<n:=Nat.le_of_ble_eq_true hn
 simp [Mu.cut,this,h]
theorem Rv.cut {n:Nat} {v:LV} {x:Value} (h:Rv μ ι w v x):v.old n=true→Rv (μ.cut n) ι w v x:=by
 induction h with
 | top v=>intro _;exact .top v
 | bool b=>intro _;exact .bool b
 | int k n=>intro _;exact .int k n
 | str s=>intro _;exact .str s
 | agg hl _ ih=>intro ho;exact .agg hl fun i hi=>ih i hi (oldL_get (by simpa [LV.old] using ho) hi)
 | tup hl _ ih=>intro ho;exact .tup hl fun i hi=>ih i hi (oldL_get (by simpa [LV.old] using ho) hi)
 | nilp=>intro _;exact .nilp
 | pimm vs hc hi h1 _ ih=>intro ho;exact .pimm vs hc hi h1 fun i hi=>ih i hi (oldL_get (by simpa [LV.old] using ho) hi)
 | pref hp=>intro ho;exact .pref (Mu.cut_some hp (by simpa [LV.old] using ho))
 | nils=>intro _;exact .nils
 | zs a=>intro _;exact .zs a
 | simm vs hc hi h1 _ hlc ih=>intro ho;exact .simm vs hc hi h1 (fun i hi=>ih i hi (oldL_get (by simpa [LV.old] using ho) hi)) hlc
 | sref hp hcap hlc had=>intro ho;exact .sref (Mu.cut_some hp (by simpa [LV.old] using ho)) hcap hlc had
 | fn hl hl' _ _ ih ih' =>
  intro ho
  simp only [LV.old,Bool.and_eq_true] at ho
  exact .fn hl hl' (fun i hi=>ih i hi (oldL_get ho.1 hi)) (fun i hi=>ih' i hi (oldL_get ho.2 hi))
 | nilf=>intro _;exact .nilf
 | yld hp=>intro ho;exact .yld (Mu.cut_some hp (by simpa [LV.old] using ho))
 | ifc _ ih=>intro ho;exact .ifc (ih (by simpa [LV.old] using ho))
 | nili=>intro _;exact .nili
 | nilm=>intro _;exact .nilm
 | mref hp=>intro ho;exact .mref (Mu.cut_some hp (by simpa [LV.old] using ho))
theorem Re.cut {n:Nat} {e:Env} {tmps:Array Value} (h:Re μ ι w e tmps) (ho:e.allB (LV.old n)=true):Re (μ.cut n) ι w e tmps:=by
 intro t
 refine (h t).cut ?_
 unfold Env.at
 cases hg:Tr.get e t with
 | none=>rfl
 | some v=>exact Tr.allB_get e ho hg
theorem Rb.cut {cmp:Nat→LCode→Code→Prop} {p:Place} {b:Blk} {n:Nat} (h:Rb cmp μ ι w p b) (ho:b.old n=true):Rb cmp (μ.cut n) ι w p b:=by
 cases b with
 | cells m cs=>
  obtain ⟨h1,h2,h3,h4,h5,h6,h7⟩:=h
  exact ⟨h1,h2,fun i hi=>by obtain ⟨v,a,b,c⟩:=h3 i hi;exact ⟨v,a,b,fun hc=>(c hc).cut (oldL_get (by simpa [Blk.old] using ho) hc)⟩,h4,h5,h6,h7⟩
 | map es=>
  obtain ⟨arr,h1,h2,h3⟩:=h
  refine ⟨arr,h1,h2,fun i hi=>?_⟩
  obtain ⟨k1,k2,k3,k4⟩:=h3 i hi
  have hm:es.getD i default∈es:=by
   have:es.getD i default=es[i]:=by simp [List.getD_eq_getElem?_getD,hi]
   rw [this];exact List.getElem_mem hi
  have:=List.all_eq_true.1 (show (es.all fun x=>x.1.old n && x.2.old n)=true from ho) _ hm
  simp only [Bool.and_eq_true] at this
  exact ⟨k1,k2,k3.cut this.1,k4.cut this.2⟩
 | iter m n0 seen last=>
  obtain ⟨h1,pb,h2,h3⟩:=h
  refine ⟨h1,pb,h2,?_⟩
  cases m with
  | none=>exact h3
  | some id=>obtain ⟨pm,h4,h5⟩:=h3;exact ⟨pm,Mu.cut_some h4 ho,h5⟩
 | loop st pend env ps as bo=>
  obtain ⟨L,h1,h2,h3,h4,h5⟩:=h
  exact ⟨L,h1,h2,h3,h4.cut ho,h5⟩
theorem Mu.cut_inv {n id:Nat} {p:Place} (h:μ.cut n id=some p):id<n∧μ id=some p:=by
 unfold Mu.cut at h
 split at h
 ·exact ⟨by assumption,h⟩
 ·cases h
theorem St.cut_inv {s:St} {n id:Nat} {b:Blk} (h:(s.cut n).get id=some b):id<n∧s.get id=some b:=by
 rw [St.get_cut] at h
 split at h
 ·exact ⟨by assumption,h⟩
 ·cases h
theorem Inv.cut {cmp:Nat→LCode→Code→Prop} {w0:Bs} {δ:Nat→Prop} {s:St} {n:Nat} (I:Inv cmp w0 μ ι δ s w) (ho:(s.cut n).h.allB (Blk.old n)=true):Inv cmp w0 (μ.cut n) ι δ (s.cut n) w:=
 ⟨I.below,fun id p hp=>⟨(Mu.cut_inv hp).1,(I.dom id p (Mu.cut_inv hp).2).2⟩,I.io,
  fun id b p hb hp=>(I.blk id b p (St.cut_inv hb).2 (Mu.cut_inv hp).2).cut (Tr.allB_get _ ho hb),
  fun i j b b' p p' h1 h2 h3 h4 h5 h6=>I.sep i j b b' p p' (St.cut_inv h1).2 (St.cut_inv h2).2 h3 h4 (Mu.cut_inv h5).2 (Mu.cut_inv h6).2,I.defers,I.low,I.own⟩
theorem call_cut {P:Program} {G:Globs} {f:LV} {args:List LV} {s:St} {Q Q':LV→St→Prop} (h:CallOk P G f args s Q)
  (hq:∀ v s',Q v s'→Q' v s'∨(v.old s.n=true∧(s'.cut s.n).h.allB (Blk.old s.n)=true∧Q' v (s'.cut s.n))):CallOk P G f args s Q':=by
 intro w0 μ ι δ w vf vargs c cs hN hvf hvl hva
 obtain ⟨lv,s1,μ1,ι1,w1,v,q,hgo,hI,hx,hk,hrv⟩:=h w0 μ ι δ w vf vargs c cs hN hvf hvl hva
 rcases hq _ _ q with q' | ⟨h1,h2,q'⟩
 ·exact ⟨lv,s1,μ1,ι1,w1,v,q',hgo,hI,hx,hk,hrv⟩
 ·refine ⟨lv,s1.cut s.n,μ1.cut s.n,ι1,w1,v,q',hgo,hI.cut h2,⟨fun id p hp=>?_,hx.io,hx.cell,hx.size,hx.de⟩,⟨Nat.le_refl _,fun id hid hm=>?_,fun id hid hm=>?_⟩,hrv.cut h1⟩
  ·have:=(hN.inv.dom id p hp).1
   simp [Mu.cut,this,hx.mu id p hp]
  ·rw [St.get_cut,if_pos hid]
   exact hk.get id hid hm
  ·have:=hk.free id hid hm
   simp [Mu.cut,this]
end
end Go.Pv
end
section
set_option linter.unusedSimpArgs false
namespace Go.Pv
open Go
def LV.eqB:LV→LV→Bool
 | .top, .top=>true
 | .bool a, .bool b=>a == b
 | .int k a, .int k' b=>k == k' && a == b
 | .str a, .str b=>decide (a.data.toList=b.data.toList)
 | .agg a, .agg b=>eqAll a b
 | .tup a, .tup b=>eqAll a b
 | .nilp, .nilp | .nils, .nils | .zs, .zs | .nilf, .nilf | .nili, .nili | .nilm, .nilm=>true
 | .pimm a i, .pimm b j=>i == j && eqAll a b
 | .simm a i, .simm b j=>i == j && eqAll a b
 | .pref i o, .pref j p=>i == j && o == p
 | .sref a b c d, .sref a' b' c' d'=>a == a' && b == b' && c == c' && d == d'
 | .yld i, .yld j=>i == j
 | .mref i, .mref j=>i == j
 | .ifc t a, .ifc u b=>t == u && a.eqB b
 | .fn f a b, .fn f' a' b'=>decide (f=f') && eqAll a a' && eqAll b b'
 | _,_=>false
where eqAll:List LV→List LV→Bool
 | [],[]=>true
 | a::l,b::r=>a.eqB b && eqAll l r
 | _,_=>false
mutual
theorem LV.eqB_eq:∀ (a b:LV),a.eqB b=true→a=b:=by
 intro a b h
 cases a<;>cases b<;>simp only [LV.eqB,Bool.and_eq_true,beq_iff_eq,reduceCtorEq,decide_eq_true_eq,Bool.false_eq_true] at h
 case bool.bool=>rw [h]
 case int.int=>rw [h.1,h.2]
 case str.str x y=>
  congr 1
  cases x;cases y
  congr 1
  exact Array.ext' h
 case agg.agg=>rw [LV.eqAll_eq _ _ h]
 case tup.tup=>rw [LV.eqAll_eq _ _ h]
 case nilp.nilp=>rfl
 case pimm.pimm=>rw [h.1,LV.eqAll_eq _ _ h.2]
 case pref.pref=>rw [h.1,h.2]
 case nils.nils=>rfl
 case zs.zs=>rfl
 case simm.simm=>rw [h.1,LV.eqAll_eq _ _ h.2]
 case sref.sref=>rw [h.1.1.1,h.1.1.2,h.1.2,h.2]
 case nilf.nilf=>rfl
 case top.top=>rfl
 case yld.yld=>rw [h]
 case ifc.ifc=>rw [h.1,LV.eqB_eq _ _ h.2]
 case nili.nili=>rfl
 case nilm.nilm=>rfl
 case mref.mref=>rw [h]
 case fn.fn f x y g u v=>
  rw [h.1.1,LV.eqAll_eq _ _ h.1.2,LV.eqAll_eq _ _ h.2]
theorem LV.eqAll_eq:∀ (a b:List LV),LV.eqB.eqAll a b=true→a=b:=by
 intro a b h
 cases a<;>cases b<;>simp only [LV.eqB.eqAll,Bool.and_eq_true,Bool.false_eq_true] at h
 ·rfl
 ·rw [LV.eqB_eq _ _ h.1,LV.eqAll_eq _ _ h.2]
end
mutual
theorem LV.eqB_refl:∀ a:LV,a.eqB a=true:=by
 intro a
 cases a<;>simp [LV.eqB]
 case agg l=>exact LV.eqAll_refl l
 case tup l=>exact LV.eqAll_refl l
 case pimm l o=>exact LV.eqAll_refl l
 case simm l n=>exact LV.eqAll_refl l
 case fn f a b=>exact ⟨LV.eqAll_refl a,LV.eqAll_refl b⟩
 case ifc t v=>exact LV.eqB_refl v
theorem LV.eqAll_refl:∀ l:List LV,LV.eqB.eqAll l l=true:=by
 intro l
 cases l with
 | nil=>rfl
 | cons a l=>simp [LV.eqB.eqAll,LV.eqB_refl a,LV.eqAll_refl l]
end
instance:DecidableEq LV:=fun a b=>if h:a.eqB b=true then isTrue (LV.eqB_eq a b h) else isFalse fun e=>h (e ▸ LV.eqB_refl a)
mutual
def EqTy.eqB:EqTy→EqTy→Bool
 | .bool, .bool | .int, .int | .str, .str | .ptr, .ptr | .slc, .slc | .mp, .mp | .fnc, .fnc | .ifc, .ifc=>true
 | .struct a, .struct b=>EqTy.eqAll a b
 | _,_=>false
def EqTy.eqAll:List (Nat × Nat × EqTy)→List (Nat × Nat × EqTy)→Bool
 | [],[]=>true
 | (x,y,t)::l,(x',y',t')::r=>x == x' && y == y' && t.eqB t' && EqTy.eqAll l r
 | _,_=>false
end
mutual
theorem EqTy.eqB_eq:∀ (a b:EqTy),a.eqB b=true→a=b:=by
 intro a b h
 cases a<;>cases b<;>first | rfl | (simp only [EqTy.eqB,Bool.false_eq_true] at h;done) | (simp only [EqTy.eqB] at h;rw [EqTy.eqAll_eq _ _ h])
theorem EqTy.eqAll_eq:∀ (a b:List (Nat × Nat × EqTy)),EqTy.eqAll a b=true→a=b:=by
 intro a b h
 match a,b with
 | [],[]=>rfl
 | [],_::_=>simp [EqTy.eqAll] at h
 | _::_,[]=>simp [EqTy.eqAll] at h
 | (x,y,t)::l,(x',y',t')::r=>
  simp only [EqTy.eqAll,Bool.and_eq_true,beq_iff_eq] at h
  rw [h.1.1.1,h.1.1.2,EqTy.eqB_eq _ _ h.1.2,EqTy.eqAll_eq _ _ h.2]
end
mutual
theorem EqTy.eqB_refl:∀ a:EqTy,a.eqB a=true:=by
 intro a
 cases a<;>first | rfl | (simp only [EqTy.eqB];exact EqTy.eqAll_refl _)
theorem EqTy.eqAll_refl:∀ l:List (Nat × Nat × EqTy),EqTy.eqAll l l=true:=by
 intro l
 match l with
 | []=>rfl
 | (x,y,t)::l=>simp [EqTy.eqAll,EqTy.eqB_refl t,EqTy.eqAll_refl l]
end
instance:DecidableEq EqTy:=fun a b=>if h:a.eqB b=true then isTrue (EqTy.eqB_eq a b h) else isFalse fun e=>h (e ▸ EqTy.eqB_refl a)
deriving instance BEq,ReflBEq,LawfulBEq for Opd
deriving instance BEq,ReflBEq,LawfulBEq for KTy
deriving instance BEq,ReflBEq,LawfulBEq for LOp
deriving instance BEq,ReflBEq,LawfulBEq for LOper
deriving instance BEq,ReflBEq,LawfulBEq for LCode
deriving instance DecidableEq for Jmp
def optEq {α:Type} (f:α→α→Bool):Option α→Option α→Bool
 | none,none=>true
 | some a,some b=>f a b
 | _,_=>false
def Tr.eqB {α:Type} (f:α→α→Bool):Tr α→Tr α→Bool
 | .nil, .nil=>true
 | .node l v r, .node l' v' r'=>optEq f v v' && Tr.eqB f l l' && Tr.eqB f r r'
 | _,_=>false
def kvEq:List (LV × LV)→List (LV × LV)→Bool
 | [],[]=>true
 | (a,b)::l,(a',b')::r=>a.eqB a' && b.eqB b' && kvEq l r
 | _,_=>false
def natsEq:List Nat→List Nat→Bool
 | [],[]=>true
 | a::l,b::r=>Nat.beq a b && natsEq l r
 | _,_=>false
def mdEq:Md→Md→Bool
 | .mut, .mut | .app, .app | .ro, .ro=>true
 | _,_=>false
def Blk.eqB:Blk→Blk→Bool
 | .cells m cs, .cells m' cs'=>mdEq m m' && LV.eqB.eqAll cs cs'
 | .map es, .map es'=>kvEq es es'
 | .iter m n s l, .iter m' n' s' l'=>optEq Nat.beq m m' && Nat.beq n n' && natsEq s s' && Nat.beq l l'
 | .loop st pend env ps as bo, .loop st' pend' env' ps' as' bo'=>decide (st=st') && decide (pend=pend') && Tr.eqB LV.eqB env env' && natsEq ps ps' && as == as' && bo == bo'
 | _,_=>false
def St.eqB (a b:St):Bool:=Nat.beq a.n b.n && Tr.eqB Blk.eqB a.h b.h
theorem optEq_eq {α:Type} {f:α→α→Bool} (hf:∀ a b,f a b=true→a=b) {a b:Option α} (h:optEq f a b=true):a=b:=by
 cases a<;>cases b<;>simp only [optEq,Bool.false_eq_true] at h
 ·rfl
 ·rw [hf _ _ h]
theorem Tr.eqB_eq {α:Type} {f:α→α→Bool} (hf:∀ a b,f a b=true→a=b):∀ {a b:Tr α},Tr.eqB f a b=true→a=b:=by
 intro a
 induction a with
 | nil=>intro b h;cases b<;>simp only [Tr.eqB,Bool.false_eq_true] at h;rfl
 | node l v r ihl ihr=>
  intro b h
  cases b<;>simp only [Tr.eqB,Bool.false_eq_true,Bool.and_eq_true] at h
  rw [optEq_eq hf h.1.1,ihl h.1.2,ihr h.2]
theorem kvEq_eq:∀ {a b:List (LV × LV)},kvEq a b=true→a=b:=by
 intro a
 induction a with
 | nil=>intro b h;cases b<;>simp only [kvEq,Bool.false_eq_true] at h;rfl
 | cons x a ih=>
  intro b h
  obtain ⟨x1,x2⟩:=x
  cases b with
  | nil=>simp only [kvEq,Bool.false_eq_true] at h
  | cons y b=>
   obtain ⟨y1,y2⟩:=y
   simp only [kvEq,Bool.and_eq_true] at h
   rw [LV.eqB_eq _ _ h.1.1,LV.eqB_eq _ _ h.1.2,ih h.2]
theorem natsEq_eq:∀ {a b:List Nat},natsEq a b=true→a=b:=by
 intro a
 induction a with
 | nil=>intro b h;cases b<;>simp only [natsEq,Bool.false_eq_true] at h;rfl
 | cons x a ih=>
  intro b h
  cases b with
  | nil=>simp only [natsEq,Bool.false_eq_true] at h
  | cons y b=>
   simp only [natsEq,Bool.and_eq_true] at h
   rw [Nat.eq_of_beq_eq_true h.1,ih h.2]
theorem mdEq_eq {a b:Md} (h:mdEq a b=true):a=b:=by
 cases a<;>cases b<;>first | rfl | (simp only [mdEq,Bool.false_eq_true] at h)
theorem Blk.eqB_eq {a b:Blk} (h:a.eqB b=true):a=b:=by
 cases a<;>cases b<;>simp only [Blk.eqB,Bool.and_eq_true,Bool.false_eq_true,decide_eq_true_eq,beq_iff_eq] at h
 ·rw [mdEq_eq h.1,LV.eqAll_eq _ _ h.2]
 ·rw [kvEq_eq h]
 ·rw [optEq_eq (fun a b h=>Nat.eq_of_beq_eq_true h) h.1.1.1,Nat.eq_of_beq_eq_true h.1.1.2,natsEq_eq h.1.2,Nat.eq_of_beq_eq_true h.2]
 ·rw [h.1.1.1.1.1,h.1.1.1.1.2,Tr.eqB_eq LV.eqB_eq h.1.1.1.2,natsEq_eq h.1.1.2,h.1.2,h.2]
theorem St.eqB_eq {a b:St} (h:a.eqB b=true):a=b:=by
 cases a;cases b
 simp only [St.eqB,Bool.and_eq_true] at h
 rw [Nat.eq_of_beq_eq_true h.1,Tr.eqB_eq (fun _ _=>Blk.eqB_eq) h.2]
end Go.Pv
end
section
set_option linter.unusedSimpArgs false
set_option linter.unusedVariables false
namespace Go.Pv
open Go Go.RowKit
def LV.beq:LV→LV→Bool
 | .bool a, .bool b=>a == b
 | .int k a, .int k' b=>k == k' && a == b
 | .str a, .str b=>decide (a.data.toList=b.data.toList)
 | .agg a, .agg b=>beqAll a b
 | .tup a, .tup b=>beqAll a b
 | .nilp, .nilp | .nils, .nils | .zs, .zs | .nilf, .nilf | .nili, .nili | .nilm, .nilm=>true
 | .pimm a i, .pimm b j=>i == j && beqAll a b
 | .simm a i, .simm b j=>i == j && beqAll a b
 | .pref i o, .pref j p=>i == j && o == p
 | .sref a b c d, .sref a' b' c' d'=>a == a' && b == b' && c == c' && d == d'
 | .yld i, .yld j=>i == j
 | .mref i, .mref j=>i == j
 | .ifc t a, .ifc u b=>t == u && a.beq b
 | .fn f a b, .fn f' a' b'=>(match f,f' with | .func k, .func k'=>k == k' && beqAll a a' && beqAll b b' | _,_=>false)
 | _,_=>false
where beqAll:List LV→List LV→Bool
 | [],[]=>true
 | a::l,b::r=>a.beq b && beqAll l r
 | _,_=>false
mutual
theorem LV.beq_eq:∀ (a b:LV),a.beq b=true→a=b:=by
 intro a b h
 cases a<;>cases b<;>simp only [LV.beq,Bool.and_eq_true,beq_iff_eq,reduceCtorEq,decide_eq_true_eq,Bool.false_eq_true] at h
 case bool.bool=>rw [h]
 case int.int=>rw [h.1,h.2]
 case str.str x y=>
  congr 1
  cases x;cases y
  congr 1
  exact Array.ext' h
 case agg.agg=>rw [LV.beqAll_eq _ _ h]
 case tup.tup=>rw [LV.beqAll_eq _ _ h]
 case nilp.nilp=>rfl
 case pimm.pimm=>rw [h.1,LV.beqAll_eq _ _ h.2]
 case pref.pref=>rw [h.1,h.2]
 case nils.nils=>rfl
 case zs.zs=>rfl
 case simm.simm=>rw [h.1,LV.beqAll_eq _ _ h.2]
 case sref.sref=>rw [h.1.1.1,h.1.1.2,h.1.2,h.2]
 case nilf.nilf=>rfl
 case yld.yld=>rw [h]
 case ifc.ifc=>rw [h.1,LV.beq_eq _ _ h.2]
 case nili.nili=>rfl
 case nilm.nilm=>rfl
 case mref.mref=>rw [h]
 case fn.fn f x y g u v=>
  cases f<;>cases g<;>simp only [Bool.and_eq_true,beq_iff_eq,Bool.false_eq_true] at h
  rw [h.1.1,LV.beqAll_eq _ _ h.1.2,LV.beqAll_eq _ _ h.2]
theorem LV.beqAll_eq:∀ (a b:List LV),LV.beq.beqAll a b=true→a=b:=by
 intro a b h
 cases a<;>cases b<;>simp only [LV.beq.beqAll,Bool.and_eq_true,Bool.false_eq_true] at h
 ·rfl
 ·rw [LV.beq_eq _ _ h.1,LV.beqAll_eq _ _ h.2]
end
def chksB:List (Nat × Option (Nat × Bool) × LOp)→Env→St→Bool
  | [],_,_=>true
  | (t,g,o)::r,e,s=>
    (match wantedG g e with
     | some false=>true
     | some true=>looksL o && (match o.run e s with | some (v,_)=>v.beq (e.at t) | none=>false)
     | none=>false) && chksB r e s
theorem chksB_ok:∀ {l:List (Nat × Option (Nat × Bool) × LOp)} {e:Env} {s:St},chksB l e s=true→Chks l e s:=by
 intro l
 induction l with
 | nil=>intro e s _;trivial
 | cons p l ih=>
  obtain ⟨t,g,o⟩:=p
  intro e s h
  simp only [chksB,Bool.and_eq_true] at h
  refine ⟨?_,ih h.2⟩
  have h1:=h.1
  split at h1
  ·rename_i hw;exact .inl hw
  ·rename_i hw
   simp only [Bool.and_eq_true] at h1
   obtain ⟨hl,h1⟩:=h1
   refine .inr ⟨hw,?_⟩
   split at h1
   ·rename_i v s' hr
    rw [hr,LV.beq_eq _ _ h1,look_same hl hr]
   ·cases h1
  ·cases h1
inductive Tk where
 | code (rd:Bool) (c:LCode) (e:Env) (s:St)
 | ops (l:List LOper) (e:Env) (s:St)
 | call (f:LV) (args:List LV) (s:St)
inductive Re' where
 | code (o:Out) (e:Env) (s:St)
 | ops (e:Env) (s:St)
 | call (v:LV) (s:St)
abbrev PTab:=List (Nat × List LV × LV)
def PTab.look:PTab→Nat→List LV→Option LV
 | [],_,_=>none
 | (k',as',r)::J,k,as=>if k' == k && LV.beq.beqAll as' as then some r else PTab.look J k as
def PTab.has:PTab→Nat→Bool
 | [],_=>false
 | (k',_,_)::J,k=>k' == k || PTab.has J k
def PTab.lookF (J:PTab) (k:Nat) (as:List LV) (s:St):Option (LV × St) :=
 if J.has k then
  match frz.frzAll (frz frzDepth) as s with
  | some (as',s')=>(match J.look k as' with | some r=>some (r,s') | none=>none)
  | none=>none
 else none
def thenGo (f:Re'→Option (List Re')):List Re'→Option (List Re')
 | []=>some []
 | [r]=>f r
 | r::l=>
  match f r with
  | some a=>(match thenGo f l with | some b=>some (a++b) | none=>none)
  | none=>none
def thenAll (x:Option (List Re')) (f:Re'→Option (List Re')):Option (List Re') :=
 match x with
 | some l=>thenGo f l
 | none=>none
def altAll (f:List LOper→Option (List Re')):List (List LOper)→Option (List Re')
 | []=>some []
 | l::ls=>
  match f l with
  | some a=>(match altAll f ls with | some b=>some (a++b) | none=>none)
  | none=>none
def nexts (v:LV) (s:St):Option (List Re') :=
 match v with
 | .pref id 0=>
  match s.get id with
  | some (.iter none _ _ _)=>some [.call (.tup [.bool false]) s]
  | some (.iter (some m) n0 seen last) =>
   match s.get m with
   | some (.map es) =>
    if seen.isEmpty || Nat.blt 0 last then
     some ((((List.range es.length).filter (fun i=>!seen.contains i)).map fun i=>.call (.tup [.bool true,(es.getD i default).1,(es.getD i default).2]) (s.put id (.iter (some m) n0 (seen++[i]) es.length))) ++
      (if (List.range n0).all (fun i=>!Nat.blt i es.length || seen.contains i) then [.call (.tup [.bool false]) s] else []))
    else none
   | _=>none
  | _=>none
 | _=>none
def eqps (ow neg:Bool) (x y:LV) (s:St):Option (List Re') :=
 match x,y with
 | .pimm cs o, .pimm cs' o' =>
  if (ow && (cs.any isSlcL && cs'.any isSlcL))=true then
   some (.call (.bool neg) s::(if agree.agreeL (cs.drop o) (cs'.drop o')=true then [.call (.bool (!neg)) s] else []))
  else none
 | .nilp, .pimm _ _=>some [.call (.bool neg) s]
 | .pimm _ _, .nilp=>some [.call (.bool neg) s]
 | .nilp, .nilp=>some [.call (.bool (!neg)) s]
 | _,_=>none
def cutR (n:Nat):Re'→Re'
 | .call v s=>if (v.old n && (s.cut n).h.allB (Blk.old n))=true then .call v (s.cut n) else .call v s
 | r=>r
def hasR:List Re'→LV→St→Bool
 | [],_,_=>false
 | .call v s::l,v',s'=>(v.eqB v' && s.eqB s') || hasR l v' s'
 | _::l,v',s'=>hasR l v' s'
def nubR:List Re'→List Re'
 | []=>[]
 | .call v s::l=>if hasR (nubR l) v s=true then nubR l else .call v s::nubR l
 | r::l=>r::nubR l
def mergeR (n:Nat):List Re'→List Re'
 | []=>[]
 | [r]=>[r]
 | l=>nubR (l.map (cutR n))
def mergeO (n:Nat):Option (List Re')→Option (List Re')
 | some l=>some (mergeR n l)
 | none=>none
theorem hasR_mem:∀ {l:List Re'} {v:LV} {s:St},hasR l v s=true→Re'.call v s∈l:=by
 intro l
 induction l with
 | nil=>intro v s h;cases h
 | cons r l ih=>
  intro v s h
  cases r with
  | call v' s' =>
   simp only [hasR,Bool.or_eq_true,Bool.and_eq_true] at h
   rcases h with ⟨h1,h2⟩ | h
   ·rw [LV.eqB_eq _ _ h1,St.eqB_eq h2];exact .head _
   ·exact .tail _ (ih h)
  | _=>exact .tail _ (ih h)
theorem nubR_mem:∀ {l:List Re'} {v:LV} {s:St},Re'.call v s∈l→Re'.call v s∈nubR l:=by
 intro l
 induction l with
 | nil=>intro v s h;cases h
 | cons r l ih=>
  intro v s h
  cases r with
  | call v' s' =>
   simp only [nubR]
   split
   ·rename_i hh
    rcases List.mem_cons.1 h with he | h
    ·cases he;exact hasR_mem hh
    ·exact ih h
   ·rcases List.mem_cons.1 h with he | h
    ·cases he;exact .head _
    ·exact .tail _ (ih h)
  | _=>
   rcases List.mem_cons.1 h with he | h
   ·cases he
   ·exact .tail _ (ih h)
theorem mergeR_mem {n:Nat} {l:List Re'} {v:LV} {s:St} (h:Re'.call v s∈l):Re'.call v s∈mergeR n l∨(v.old n=true∧(s.cut n).h.allB (Blk.old n)=true∧Re'.call v (s.cut n)∈mergeR n l):=by
 unfold mergeR
 split
 ·cases h
 ·exact .inl h
 ·by_cases hc:(v.old n && (s.cut n).h.allB (Blk.old n))=true
  ·have hm:Re'.call v (s.cut n)∈l.map (cutR n):=List.mem_map.2 ⟨_,h,by simp only [cutR];rw [if_pos hc]⟩
   simp only [Bool.and_eq_true] at hc
   exact .inr ⟨hc.1,hc.2,nubR_mem hm⟩
  ·have hm:Re'.call v s∈l.map (cutR n):=List.mem_map.2 ⟨_,h,by simp only [cutR];rw [if_neg hc]⟩
   exact .inl (nubR_mem hm)
def ev (ow:Bool) (T:Nat→Option LFunc) (J:PTab):Nat→Tk→Option (List Re')
 | 0,_=>none
 | n + 1, .code rd c e s =>
  match c with
  | .skip=>some [.code .normal e s]
  | .region l=>thenAll (ev ow T J n (.ops l e s)) fun | .ops e s=>some [.code .normal e s] | _=>none
  | .alts ls=>altAll (fun l=>thenAll (ev ow T J n (.ops l e s)) fun | .ops e s=>some [.code .normal e s] | _=>none) ls
  | .seq a b=>
   thenAll (ev ow T J n (.code rd a e s)) fun
   | .code .normal e s=>ev ow T J n (.code rd b e s)
   | .code (.jmp j) e s=>some [.code (.jmp j) e s]
   | _=>none
  | .cond x a b=>match x.ev e with | .bool t=>ev ow T J n (.code rd (if t then a else b) e s) | _=>none
  | .block id a=>
   thenAll (ev ow T J n (.code rd a e s)) fun
   | .code (.jmp (.exit id')) e s=>if id'=id then some [.code .normal e s] else some [.code (.jmp (.exit id')) e s]
   | .code o e s=>some [.code o e s]
   | _=>none
  | .loop a=>
   thenAll (ev ow T J n (.code rd a e s)) fun
   | .code .normal e s=>ev ow T J n (.code rd (.loop a) e s)
   | .code (.jmp j) e s=>some [.code (.jmp j) e s]
   | _=>none
  | .rangeFunc y ps as bo=>
   if rd then none else
   thenAll (ev ow T J n (.call (y.ev e) [.yld s.n] (s.new (.loop .ready none e ps as bo)))) fun
   | .call _ s' =>
    match s'.get s.n with
    | some (.loop .busy _ _ _ _ _)=>none
    | some (.loop _ none env ps as bo)=>some [.code .normal e (s'.put s.n (.loop .exhausted none env ps as bo))]
    | some (.loop _ (some j) env ps as bo)=>some [.code (.jmp j) e (s'.put s.n (.loop .exhausted (some j) env ps as bo))]
    | _=>none
   | _=>none
  | .exit id=>some [.code (.jmp (.exit id)) e s]
  | .scope a=>ev ow T J n (.code rd a e s)
  | .ret=>some [.code (.jmp .ret) e s]
  | .bad=>none
 | n + 1, .ops l e s =>
  match l with
  | []=>some [.ops e s]
  | o :: l =>
   match wantedG o.guard e with
   | none=>none
   | some false=>ev ow T J n (.ops l (e.put o.dst (.tup [])) s)
   | some true=>
    match o.op with
    | .call f as=>
     thenAll (ev ow T J n (.call (f.ev e) (as.map (·.ev e)) s)) fun
     | .call v s'=>if chksB o.chk (e.put o.dst v) s' then ev ow T J n (.ops l (e.put o.dst v) s') else none
     | _=>none
    | .mnext x=>
     thenAll (nexts (x.ev e) s) fun
     | .call v s'=>if chksB o.chk (e.put o.dst v) s' then ev ow T J n (.ops l (e.put o.dst v) s') else none
     | _=>none
    | .eqp neg x y=>
     thenAll (eqps ow neg (x.ev e) (y.ev e) s) fun
     | .call v s'=>if chksB o.chk (e.put o.dst v) s' then ev ow T J n (.ops l (e.put o.dst v) s') else none
     | _=>none
    | op=>
     match op.run e s with
     | some (v,s')=>if strictOk o.fl op e && chksB o.chk (e.put o.dst v) s' then ev ow T J n (.ops l (e.put o.dst v) s') else none
     | none=>none
 | n + 1, .call f args s =>
  match f with
  | .fn (.func k) first caps=>
   match (match first,caps with | [],[]=>J.lookF k args s | _,_=>none) with
   | some (r,s')=>some [.call r s']
   | none=>
   match T k with
   | some lf=>
    if (first++args++caps).length≤lf.ntmps then
     mergeO s.n (thenAll (ev ow T J n (.code false lf.body (envOf (first++args++caps)) s)) fun
     | .code .normal e s'=>(match resVal lf.results e s' with | some v=>some [.call v s'] | none=>none)
     | .code (.jmp .ret) e s'=>(match resVal lf.results e s' with | some v=>some [.call v s'] | none=>none)
     | _=>none)
    else none
   | none=>none
  | .yld id =>
   match s.get id with
   | some (.loop .ready _ env ps as bo) =>
    if args.length=ps.length then
     thenAll (ev ow T J n (.code true as (putPs ps args env) s)) fun
     | .code .normal e1 s1=>
      (match s1.get id with
      | some (.loop .ready pend env ps as' bo') =>
       thenAll (ev ow T J n (.code true bo e1 (s1.put id (.loop .busy pend env ps as' bo')))) fun
       | .code .normal _ s3=>
        (match s3.get id with
        | some (.loop _ _ env ps as bo)=>some [.call (.bool true) (s3.put id (.loop .ready none env ps as bo))]
        | _=>none)
       | .code (.jmp j) _ s3=>
        (match s3.get id with
        | some (.loop _ _ env ps as bo)=>some [.call (.bool false) (s3.put id (.loop .done (some j) env ps as bo))]
        | _=>none)
       | _=>none
      | _=>none)
     | _=>none
    else none
   | _=>none
  | _=>none
theorem PTab.look_mem:∀ {J:PTab} {k:Nat} {as:List LV} {r:LV},J.look k as=some r→(k,as,r)∈J:=by
 intro J
 induction J with
 | nil=>intro k as r h;cases h
 | cons p J ih=>
  obtain ⟨k',as',r'⟩:=p
  intro k as r h
  simp only [PTab.look] at h
  split at h
  ·rename_i hc
   simp only [Bool.and_eq_true,beq_iff_eq] at hc
   cases h
   rw [hc.1,LV.beqAll_eq _ _ hc.2]
   exact .head _
  ·exact .tail _ (ih h)
theorem thenGo_mem {f:Re'→Option (List Re')} : ∀ {l out:List Re'},thenGo f l=some out→∀ r∈l,∃ o,f r=some o∧∀ x∈o,x∈out:=by
 intro l
 induction l with
 | nil=>intro out _ r hr;cases hr
 | cons r l ih=>
  intro out h r' hr
  cases l with
  | nil=>
   rcases List.mem_singleton.1 hr with rfl
   exact ⟨out,h,fun x hx=>hx⟩
  | cons r2 l=>
   unfold thenGo at h
   ·split at h
    ·rename_i a ha
     split at h
     ·rename_i b hb
      cases h
      rcases List.mem_cons.1 hr with rfl | hr
      ·exact ⟨a,ha,fun x hx=>List.mem_append_left _ hx⟩
      ·obtain ⟨o,ho,hs⟩:=ih hb r' hr
       exact ⟨o,ho,fun x hx=>List.mem_append_right _ (hs x hx)⟩
     ·cases h
    ·cases h
theorem thenAll_mem {x:Option (List Re')} {f:Re'→Option (List Re')} {out:List Re'} (h:thenAll x f=some out):∃ l,x=some l∧∀ r∈l,∃ o,f r=some o∧∀ x∈o,x∈out:=by
 unfold thenAll at h
 split at h
 ·exact ⟨_,rfl,thenGo_mem h⟩
 ·cases h
theorem altAll_mem {f:List LOper→Option (List Re')} : ∀ {ls:List (List LOper)} {out:List Re'},altAll f ls=some out→∀ l∈ls,∃ o,f l=some o∧∀ x∈o,x∈out:=by
 intro ls
 induction ls with
 | nil=>intro out _ l hl;cases hl
 | cons l ls ih=>
  intro out h l' hl'
  simp only [altAll] at h
  split at h
  ·rename_i a ha
   split at h
   ·rename_i b hb
    cases h
    rcases List.mem_cons.1 hl' with rfl | hl'
    ·exact ⟨a,ha,fun x hx=>List.mem_append_left _ hx⟩
    ·obtain ⟨o,ho,hs⟩:=ih hb l' hl'
     exact ⟨o,ho,fun x hx=>List.mem_append_right _ (hs x hx)⟩
   ·cases h
  ·cases h
theorem nexts_ok {v:LV} {s:St} {l:List Re'} (h:nexts v s=some l) {R:LV→St→Prop} (hR:∀ v s,Re'.call v s∈l→R v s):NextOk v s R:=by
 unfold nexts at h
 split at h
 ·rename_i id
  simp only [NextOk]
  split at h
  ·rename_i n0 seen last hg
   cases h
   rw [hg]
   exact hR _ _ (.head _)
  ·rename_i m n0 seen last hg
   split at h
   ·rename_i es hm
    split at h
    ·rename_i hs
     cases h
     rw [hg]
     simp only [hm]
     refine ⟨?_,fun i hi hn=>hR _ _ ?_,fun ha=>hR _ _ ?_⟩
     ·simp only [Bool.or_eq_true,List.isEmpty_iff] at hs
      rcases hs with h | h
      ·exact .inl h
      ·exact .inr (Nat.le_of_ble_eq_true h)
     ·refine List.mem_append_left _ (List.mem_map.2 ⟨i,List.mem_filter.2 ⟨List.mem_range.2 hi,by simpa using hn⟩,rfl⟩)
     ·have:(List.range n0).all (fun i=>!Nat.blt i es.length || seen.contains i)=true:=by
       rw [List.all_eq_true]
       intro i hi
       by_cases hl:i<es.length
       ·simp [ha i (List.mem_range.1 hi) hl]
       ·have:Nat.blt i es.length=false:=by
         cases hb:Nat.blt i es.length with
         | false=>rfl
         | true=>exact absurd (Nat.le_of_ble_eq_true hb) hl
        simp [this]
      rw [if_pos this]
      exact List.mem_append_right _ (.head _)
    ·cases h
   ·cases h
  ·cases h
 ·cases h
theorem eqps_ok {G:Globs} {ow neg:Bool} {x y:LV} {s:St} {l:List Re'} (h:eqps ow neg x y s=some l) (ho:ow=true→ownG G=true) {R:LV→St→Prop} (hR:∀ v s,Re'.call v s∈l→R v s):EqpOk G neg x y s R:=by
 unfold eqps at h
 unfold EqpOk
 split at h
 ·split at h
  ·rename_i hc
   simp only [Bool.and_eq_true] at hc
   cases h
   refine ⟨ho hc.1,hc.2.1,hc.2.2,hR _ _ (.head _),fun ha=>hR _ _ (.tail _ ?_)⟩
   rw [if_pos ha]
   exact .head _
  ·cases h
 ·cases h;exact hR _ _ (.head _)
 ·cases h;exact hR _ _ (.head _)
 ·cases h;exact hR _ _ (.head _)
 ·cases h
section
variable {P:Program} {G:Globs} {T:Nat→Option LFunc} {J:PTab} {ow:Bool}
structure Tab (P:Program) (G:Globs) (T:Nat→Option LFunc) (J:PTab):Prop where
 mixed:P.follows .mixedOrders=true
 fn : ∀ k lf, T k = some lf → ∃ fn refs, P.funcs[k]? = some fn ∧ (fn.name == "runtime.NumGoroutine") = false ∧ compFunc P G refs fn = some lf
 globs:∀ x∈G,LV.closed.closedAll x.2=true
 pure:∀ x∈J,PureOk P G (.fn (.func x.1) [] []) x.2.1 x.2.2
def Says (P:Program) (G:Globs) (t:Tk) (l:List Re'):Prop:=
 match t with
 | .code rd c e s=>∀ nt,CodeOk P G rd nt c e s (fun o e s=>.code o e s∈l)
 | .ops ops e s=>Chain P G ops e s (fun e s=>.ops e s∈l)
 | .call f args s=>CallOk P G f args s (fun v s=>.call v s∈l)
theorem ev_sound (hT:Tab P G T J) (how:ow=true→ownG G=true):∀ (n:Nat) (t:Tk) (l:List Re'),ev ow T J n t=some l→Says P G t l:=by
 intro n
 induction n using Nat.strongRecOn with
 | ind n ih=>
  intro t out h
  cases n with
  | zero=>cases h
  | succ n=>
   have ihn:=ih n (Nat.lt_succ_self n)
   cases t with
   | code rd c e s=>
    cases c with
    | skip=>cases h;exact fun nt=>ok_skip (.head _)
    | exit id=>cases h;exact fun nt=>ok_exit (.head _)
    | ret=>cases h;exact fun nt=>ok_ret (.head _)
    | bad=>cases h
    | region ops=>
     simp only [ev] at h
     obtain ⟨l,hl,hm⟩:=thenAll_mem h
     refine fun nt=>ok_region hT.mixed (Chain.mono (fun e1 s1 hh=>?_) (ihn _ _ hl))
     obtain ⟨o,ho,hs⟩:=hm _ hh
     cases ho
     exact hs _ (.head _)
    | alts ls=>
     simp only [ev] at h
     refine fun nt=>ok_alts hT.mixed fun l hl=>?_
     obtain ⟨o1,ho1,hs1⟩:=altAll_mem h l hl
     obtain ⟨l',hl',hm⟩:=thenAll_mem ho1
     refine Chain.mono (fun e1 s1 hh=>?_) (ihn _ _ hl')
     obtain ⟨o,ho,hs⟩:=hm _ hh
     cases ho
     exact hs1 _ (hs _ (.head _))
    | seq a b=>
     simp only [ev] at h
     obtain ⟨l,hl,hm⟩:=thenAll_mem h
     refine fun nt=>ok_seq (CodeOk.mono (ihn _ _ hl nt) fun o e1 s1 hh=>?_)
     obtain ⟨o',ho,hs⟩:=hm _ hh
     cases o with
     | normal=>exact CodeOk.mono (ihn _ _ ho nt) fun o e s hh=>hs _ hh
     | jmp j=>cases ho;exact hs _ (.head _)
    | cond x a b=>
     simp only [ev] at h
     split at h
     ·rename_i t ht
      exact fun nt=>ok_cond ht (ihn _ _ h nt)
     ·cases h
    | block id a=>
     simp only [ev] at h
     obtain ⟨l,hl,hm⟩:=thenAll_mem h
     refine fun nt=>ok_block (CodeOk.mono (ihn _ _ hl nt) fun o e1 s1 hh=>?_)
     obtain ⟨o',ho,hs⟩:=hm _ hh
     rcases o with _ | _ | id'
     ·cases ho;exact hs _ (.head _)
     ·cases ho;exact hs _ (.head _)
     ·simp only at ho
      split at ho
      ·rename_i hid;cases ho;simp only [Blkd,hid,if_true];exact hs _ (.head _)
      ·rename_i hid;cases ho;simp only [Blkd,hid,if_false];exact hs _ (.head _)
    | scope a=>exact fun nt=>ok_scope (ihn _ _ (show ev ow T J n (.code rd a e s)=some out from h) nt)
    | loop a=>
     intro nt
     refine ok_loop_inv (fun m e s=>m≤n+1∧∃ o,ev ow T J m (.code rd (.loop a) e s)=some o∧∀ x∈o,x∈out) ?_ (n+1) ⟨Nat.le_refl _,out,h,fun x hx=>hx⟩
     rintro m e s ⟨hm,o,hh,hsub⟩
     cases m with
     | zero=>cases hh
     | succ m=>
      simp only [ev] at hh
      obtain ⟨l,hl,hm'⟩:=thenAll_mem hh
      refine CodeOk.mono (ih m (by omega) _ _ hl nt) fun o1 e2 s2 h3=>?_
      obtain ⟨o',ho,hs⟩:=hm' _ h3
      cases o1 with
      | normal=>exact ⟨m,Nat.lt_succ_self m,by omega,o',ho,fun x hx=>hsub x (hs x hx)⟩
      | jmp j=>cases ho;exact hsub _ (hs _ (.head _))
    | rangeFunc y ps as bo=>
     simp only [ev] at h
     cases rd with
     | true=>simp at h
     | false=>
      simp only [Bool.false_eq_true,if_false] at h
      obtain ⟨l,hl,hm⟩:=thenAll_mem h
      refine fun nt=>ok_rangeFunc (CallOk.mono (ihn _ _ hl) fun v1 s1 hh=>?_)
      obtain ⟨o',ho,hs⟩:=hm _ hh
      simp only at ho
      split at ho
      ·cases ho
      ·rename_i st env ps' as' bo' hne hg
       cases ho
       exact ⟨st,none,env,ps',as',bo',hg,fun hb=>hne hb,hs _ (.head _)⟩
      ·rename_i st j env ps' as' bo' hne hg
       cases ho
       exact ⟨st,some j,env,ps',as',bo',hg,fun hb=>hne hb,hs _ (.head _)⟩
      ·cases ho
   | ops l e s =>
    cases l with
    | nil=>cases h;exact .head _
    | cons o l=>
     simp only [ev] at h
     split at h
     ·cases h
     ·rename_i hw
      simp only [Says,Chain,hw]
      exact ihn _ _ h
     ·rename_i hw
      split at h
      ·rename_i f as hop
       obtain ⟨l',hl,hm⟩:=thenAll_mem h
       simp only [Says,Chain,hw,hop,OpGo]
       refine CallOk.mono (ihn _ _ hl) fun v1 s2 hh=>?_
       obtain ⟨o',ho,hs⟩:=hm _ hh
       simp only at ho
       split at ho
       ·rename_i hck
        exact ⟨chksB_ok hck,Chain.mono (fun e s hh=>hs _ hh) (ihn _ _ ho)⟩
       ·cases ho
      ·rename_i x hop
       obtain ⟨l',hl,hm⟩:=thenAll_mem h
       simp only [Says,Chain,hw,hop,OpGo]
       refine nexts_ok hl fun v1 s2 hh=>?_
       obtain ⟨o',ho,hs⟩:=hm _ hh
       simp only at ho
       split at ho
       ·rename_i hck
        exact ⟨chksB_ok hck,Chain.mono (fun e s hh=>hs _ hh) (ihn _ _ ho)⟩
       ·cases ho
      ·rename_i neg x y hop
       obtain ⟨l',hl,hm⟩:=thenAll_mem h
       simp only [Says,Chain,hw,hop,OpGo]
       refine eqps_ok hl how fun v1 s2 hh=>?_
       obtain ⟨o',ho,hs⟩:=hm _ hh
       simp only at ho
       split at ho
       ·rename_i hck
        exact ⟨chksB_ok hck,Chain.mono (fun e s hh=>hs _ hh) (ihn _ _ ho)⟩
       ·cases ho
      ·rename_i hne hne2 hne3
       have hcl:isCallL o.op=false:=by
        cases hc:isCallL o.op with
        | false=>rfl
        | true=>
         rcases isCallL_inv hc with ⟨f,as,hh⟩ | ⟨f,hh⟩ | ⟨n,f,g,hh⟩
         ·exact absurd hh (hne f as)
         ·exact absurd hh (hne2 f)
         ·exact absurd hh (hne3 n f g)
       split at h
       ·rename_i v s1 hr
        split at h
        ·rename_i hck
         simp only [Bool.and_eq_true] at hck
         simp only [Says,Chain,hw]
         rw [opGo_eq hcl,hr]
         exact ⟨hck.1,chksB_ok hck.2,ihn _ _ h⟩
        ·cases h
       ·cases h
   | call f args s =>
    simp only [ev] at h
    split at h
    ·rename_i k first caps
     split at h
     ·rename_i r s' hr
      cases h
      split at hr
      ·unfold PTab.lookF at hr
       split at hr
       ·split at hr
        ·rename_i as' s2 hfz
         split at hr
         ·rename_i r2 hlk
          cases hr
          exact call_frz hfz (pure_call hT.globs (hT.pure _ (PTab.look_mem hlk)) (.head _))
         ·cases hr
        ·cases hr
       ·cases hr
      ·cases hr
     split at h
     ·rename_i lf hlf
      obtain ⟨fn,refs,hf,hn,hc⟩:=hT.fn k lf hlf
      split at h
      ·rename_i hlen
       unfold mergeO at h
       split at h
       case h_2=>cases h
       rename_i l0 hl0
       cases h
       refine call_cut (Q:=fun v s=>Re'.call v s∈l0) ?_ (fun v s' hq=>mergeR_mem hq)
       obtain ⟨l,hl,hm⟩:=thenAll_mem hl0
       refine call_fn hf hn hc hlen (CodeOk.mono (ihn _ _ hl lf.ntmps) fun o1 e1 s1 hh=>?_)
       obtain ⟨o',ho,hs⟩:=hm _ hh
       rcases o1 with _ | _ | id'
       ·simp only at ho
        split at ho
        ·rename_i v hv;cases ho;exact ⟨.inl rfl,v,hv,hs _ (.head _)⟩
        ·cases ho
       ·simp only at ho
        split at ho
        ·rename_i v hv;cases ho;exact ⟨.inr rfl,v,hv,hs _ (.head _)⟩
        ·cases ho
       ·cases ho
      ·cases h
     ·cases h
    ·rename_i id
     split at h
     ·rename_i pend0 env ps as bo hg
      split at h
      ·rename_i hl
       obtain ⟨l,hl1,hm⟩:=thenAll_mem h
       refine call_yield hg hl fun nt=>CodeOk.mono (ihn _ _ hl1 nt) fun o1 e1 s1 hh=>?_
       obtain ⟨o',ho,hs⟩:=hm _ hh
       cases o1 with
       | jmp j=>cases ho
       | normal=>
        simp only at ho
        split at ho
        ·rename_i pend1 env1 ps1 as1 bo1 hg1
         obtain ⟨l2,hl2,hm2⟩:=thenAll_mem ho
         refine ⟨pend1,env1,ps1,as1,bo1,hg1,CodeOk.mono (ihn _ _ hl2 nt) fun o4 e4 s4 hh=>?_⟩
         obtain ⟨o5,ho5,hs5⟩:=hm2 _ hh
         cases o4 with
         | normal=>
          simp only at ho5
          split at ho5
          ·rename_i st pd env3 ps3 as3 bo3 hg3
           cases ho5
           exact ⟨st,pd,env3,ps3,as3,bo3,hg3,hs _ (hs5 _ (.head _))⟩
          ·cases ho5
         | jmp j=>
          simp only at ho5
          split at ho5
          ·rename_i st pd env3 ps3 as3 bo3 hg3
           cases ho5
           exact ⟨st,pd,env3,ps3,as3,bo3,hg3,hs _ (hs5 _ (.head _))⟩
          ·cases ho5
        ·cases ho
      ·cases h
     ·cases h
    ·cases h
def allFrz (r:LV):List Re'→Bool
 | []=>true
 | .call v s::l=>(match frz frzDepth v s with | some (x,_)=>x.beq r && allFrz r l | none=>false)
 | _::_=>false
theorem allFrz_mem {r:LV} : ∀ {l:List Re'},allFrz r l=true→∀ v s,Re'.call v s∈l→∃ s',frz frzDepth v s=some (r,s'):=by
 intro l
 induction l with
 | nil=>intro _ v s h;cases h
 | cons x l ih=>
  intro h v s hm
  cases x<;>simp only [allFrz,Bool.false_eq_true] at h
  split at h
  ·rename_i y s' hf
   simp only [Bool.and_eq_true] at h
   rcases List.mem_cons.1 hm with he | hm
   ·cases he
    exact ⟨s',by rw [hf,LV.beq_eq _ _ h.1]⟩
   ·exact ih h.2 v s hm
  ·cases h
def pureB (T:Nat→Option LFunc) (J:PTab) (n k:Nat) (args:List LV) (r:LV) (ow:Bool:=false):Bool:=
 LV.closed.closedAll args && r.closed && (match ev ow T J n (.call (.fn (.func k) [] []) args St.empty) with | some l=>allFrz r l | none=>false)
theorem pure_ev (hT:Tab P G T J) {n k:Nat} {args:List LV} {r:LV} (h:pureB T J n k args r ow=true) (how:ow=true→ownG G=true:=by intro h;cases h):PureOk P G (.fn (.func k) [] []) args r:=by
 simp only [pureB,Bool.and_eq_true] at h
 obtain ⟨⟨h1,h2⟩,h3⟩:=h
 split at h3
 ·rename_i l hl
  exact ⟨rfl,h1,h2,CallOk.mono (ev_sound hT how _ _ _ hl) fun v s hh=>allFrz_mem h3 v s hh⟩
 ·cases h3
def tabOf (P:Program) (G:Globs) (refs:List (Nat × List Nat)) (k:Nat):Option LFunc:=
 match P.funcs[k]? with
 | some fn => if fn.name == "runtime.NumGoroutine" then none else compFunc P G ((refs.lookup k).getD []) fn
 | none=>none
theorem tabOf_tab {refs:List (Nat × List Nat)} (hm:P.follows .mixedOrders=true) (hG:∀ x∈G,LV.closed.closedAll x.2=true):Tab P G (tabOf P G refs) []:=by
 refine ⟨hm,fun k lf h=>?_,hG,fun x hx=>by cases hx⟩
 unfold tabOf at h
 split at h
 ·rename_i fn hf
  split at h
  ·cases h
  ·rename_i hn
   exact ⟨fn,_,hf,by simpa using hn,h⟩
 ·cases h
theorem Tab.cons (hT:Tab P G T J) {k:Nat} {args:List LV} {r:LV} (h:PureOk P G (.fn (.func k) [] []) args r):Tab P G T ((k,args,r)::J) :=
 ⟨hT.mixed,hT.fn,hT.globs,fun x hx=>by
  rcases List.mem_cons.1 hx with rfl | hx
  ·exact h
  ·exact hT.pure x hx⟩
end
end Go.Pv
end
