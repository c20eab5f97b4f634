/- Operations that make a row of cells. -/
import Derived.Test.YtkbiecjdcjfhaaaPvComp
set_option linter.unusedSimpArgs false
set_option linter.unusedVariables false
section
set_option linter.unusedSimpArgs false
namespace Go.Pv
open Go Go.RowKit
section
variable {w:World} {w0:Bs} {μ:Mu} {ι:Io} {δ:Nat→Prop} {s s':St} {cmp:Nat→LCode→Code→Prop} {c:Ctx} {e:Env} {a:Act} {o:Oper} {v:LV}
theorem wrap_i64 (n:Int) (h0 : -9223372036854775808≤n) (h1:n≤9223372036854775807):IntKind.i64.wrap n=n:=by
 unfold IntKind.wrap
 have e1:(2 ^ 64:Int)=18446744073709551616:=by decide
 have e2:(2 ^ (64 - 1):Int)=9223372036854775808:=by decide
 simp only [IntKind.bits,IntKind.signed,Bool.true_and,decide_eq_true_eq,e1,e2,ge_iff_le]
 split<;>omega
theorem rep_length (n:Nat) (z:List LV):(rep n z).length=n*z.length:=by
 induction n with
 | zero=>simp [rep]
 | succ n ih=>
  unfold rep at ih ⊢
  rw [List.replicate_succ,List.flatten_cons,List.length_append,ih,Nat.succ_mul];omega
theorem rep_getD (z:List LV):∀ (n i:Nat),i<n*z.length→(rep n z).getD i .top=z.getD (i % z.length) .top:=by
 intro n
 induction n with
 | zero=>intro i h;omega
 | succ n ih=>
  intro i h
  unfold rep at ih ⊢
  rw [List.replicate_succ,List.flatten_cons]
  by_cases hi:i<z.length
  ·rw [Nat.mod_eq_of_lt hi]
   simp [List.getD_eq_getElem?_getD,List.getElem?_append_left hi]
  ·rw [Nat.succ_mul] at h
   have:=ih (i - z.length) (by omega)
   rw [List.getD_eq_getElem?_getD,List.getElem?_append_right (by omega),← List.getD_eq_getElem?_getD,this]
   congr 1
   have h0:i - z.length+z.length=i:=by omega
   rw [← Nat.add_mod_right,h0]
theorem zeroRow_rel {z:List LV} {zv:Array Value} (hz:Ra μ ι w z zv) (hp:0<z.length) (m l:Nat) (hl:l≤m) :
    l*z.length≤((Array.range (m*z.length)).map (zv[· % zv.size]!)).size ∧
    ∀ i,i<l*z.length→Rv μ ι w ((rep l z).getD i .top) (((Array.range (m*z.length)).map (zv[· % zv.size]!)).getD i undef):=by
  have hm:l*z.length≤m*z.length:=Nat.mul_le_mul_right _ hl
  refine ⟨by simpa using hm,fun i hi=>?_⟩
  rw [rep_getD z l i hi]
  have h2:=hz.2 (i % z.length) (Nat.mod_lt _ hp)
  have h3:i<m*z.length:=by omega
  have h4:i % z.length<zv.size:=by rw [hz.1];exact Nat.mod_lt _ hp
  rw [Array.getD_eq_getD_getElem?] at h2 ⊢
  simp only [Array.getElem?_map,Array.getElem?_range,h3,if_true,Option.map_some,Option.getD_some,hz.1] 
  simp only [h4,getElem?_pos,Option.getD_some] at h2
  rw [getElem!_pos zv (i % z.length) h4]
  simpa [h4,hz.1] using h2
theorem Ra.one {cs:List LV} {vs:Array Value} (h:Ra μ ι w cs vs) (hc:∀ y∈cs,isCell y=true):∀ i,i<vs.size→(vs.getD i undef).oneCell'=true:=fun i hi=>by
 have hi':i<cs.length:=by rw [← h.1];exact hi
 refine oneCell_rel (h.2 i hi') (hc _ ?_)
 rw [List.getD_eq_getElem?_getD,List.getElem?_eq_getElem hi',Option.getD_some]
 exact List.getElem_mem hi'
theorem splice_mem (new:List LV):∀ (cs:List LV) (off:Nat),(∀ y∈cs,isCell y=true)→(∀ y∈new,isCell y=true)→∀ y∈splice cs off new,isCell y=true:=by
 induction new with
 | nil=>intro cs off h _;exact h
 | cons v new ih=>
  intro cs off h hn
  refine ih _ _ (fun y hy=>?_) (fun y hy=>hn y (by simp [hy]))
  rcases List.mem_or_eq_of_mem_set hy with h1 | rfl
  ·exact h y h1
  ·exact hn _ (by simp)
theorem cells?_isCell {v:LV} {cs:List LV} (h:cells? v=some cs):∀ y∈cs,isCell y=true:=by
 cases v<;>simp only [cells?,reduceCtorEq] at h
 case agg l=>
  split at h
  ·rename_i ha;cases h;simpa using ha
  ·cases h
 all_goals (cases h;simp [isCell])
theorem fillParts_isCell:∀ (ls:List (Nat × Nat × LV)) (cs cs':List LV),fillParts cs ls=some cs'→(∀ y∈cs,isCell y=true)→(cs'.length=cs.length∧∀ y∈cs',isCell y=true):=by
 intro ls
 induction ls with
 | nil=>intro cs cs' h hc;simp [fillParts] at h;rw [← h];exact ⟨rfl,hc⟩
 | cons l ls ih=>
  intro cs cs' h hcs
  obtain ⟨off,size,v⟩:=l
  simp only [fillParts] at h
  cases hc:cells? v with
  | none=>simp [hc] at h
  | some vs=>
   simp only [hc] at h
   split at h
   ·obtain ⟨h1,h2⟩:=ih _ _ h (splice_mem _ _ _ hcs (cells?_isCell hc))
    exact ⟨by rw [h1,splice_length],h2⟩
   ·cases h
theorem rep_mem {n:Nat} {z:List LV} (h:∀ y∈z,isCell y=true):∀ y∈rep n z,isCell y=true:=by
 intro y hy
 unfold rep at hy
 obtain ⟨l,hl,hy⟩:=List.mem_flatten.1 hy
 rw [(List.mem_replicate.1 hl).2] at hy
 exact h y hy
def Rowed (c:Ctx) (a:Act) (o:Oper) (w:World) (T:TypeId) (arr:Array Value) (x:Value):Prop:=
 (execOp a.eval o).run c.P w = .ok (.value x) { w with heap:=w.heap.push (.cells arr T) }
theorem row_sound {lo:LOp} (hm:Op.makes o.op=true) (hl:isRow lo=true) (hc:compOp c o=some lo) (hρ:Ho μ ι w c e a o) (hr:lo.run e s=some (v,s')) :
    ∃ cs arr T x,s'=s.new (.cells .mut cs)∧Rowed c a o w T arr x∧cs.length≤arr.size∧(∀ i,i<cs.length→Rv μ ι w (cs.getD i .top) (arr.getD i undef)) ∧
      (∀ i,i<arr.size→(arr.getD i undef).oneCell'=true)∧∀ μ' ι' w',μ' s.n=some ⟨w.heap.size,0,arr.size⟩→Rv μ' ι' w' v x:=by
  cases ho:o.op<;>rw [ho] at hm<;>(try (cases hm;done))<;>simp only [compOp,ho,reduceCtorEq] at hc
  case alloc t=>
    obtain ⟨z,hz,hc⟩:=bind_some hc;cases hc
    cases hr
    obtain ⟨zv,hzr,hza,hzc⟩:=zeroC_run (μ:=μ) (ι:=ι) (w:=w) hz
    refine ⟨z,zv.cells,t, .pointer (some ⟨w.heap.size,0,none⟩),rfl,?_,Nat.le_of_eq hza.1.symm,hza.2,hza.one hzc,fun μ' ι' w' h=>?_⟩
    · simp [Rowed,execOp,ho,Instr.alloc,hzr,newVar,newRow]
    · exact .pref (off:=0) h
  case box t x=>
    obtain ⟨y,hy,hc⟩:=bind_some hc;cases hc
    have hx:=hρ x y (by simp [ho,Op.operands]) hy
    unfold LOp.run at hr
    split at hr<;>simp only [isRow,reduceCtorEq,Bool.false_eq_true,LOp.box.injEq] at * 
    · rename_i h
      rw [h.1] at hl
      cases hl
    · rename_i h
      rw [← h.2] at hr
      obtain ⟨cs,hcs,hr⟩:=bind_some hr
      cases hr
      obtain ⟨h1,h2,h3⟩:=cells_rel hx hcs
      refine ⟨cs,(a.eval x).cells,t, .pointer (some ⟨w.heap.size,0,none⟩),rfl,?_,Nat.le_of_eq h1.symm,h2,Ra.one (μ:=μ) (ι:=ι) (w:=w) ⟨h1,h2⟩ (by simpa using h3),fun μ' ι' w' h=>?_⟩
      · simp [Rowed,execOp,ho,Instr.box,newVar,newRow]
      · exact .pref (off:=0) h
  case buildSlice t len ps=>
    cases hu:c.P.underlying t with
    | none=>simp [hu] at hc
    | some ty=>
      rw [hu] at hc
      cases ty<;>simp only [reduceCtorEq] at hc
      rename_i el
      obtain ⟨sz,hsz,hc⟩:=bind_some hc
      obtain ⟨z,hz,hc⟩:=bind_some hc
      split at hc
      · cases hc
      · rename_i hno
        simp only [not_or,Nat.not_lt,ne_eq,Decidable.not_not] at hno
        obtain ⟨hs0,hzl,hbig⟩:=hno
        obtain ⟨ls,hls,hc⟩:=bind_some hc
        cases hc
        unfold LOp.run at hr
        dsimp only at hr
        obtain ⟨cs,hf,hr⟩:=bind_some hr
        cases hr
        obtain ⟨zv,hzr,hza,hzc⟩:=zeroC_run (μ:=μ) (ι:=ι) (w:=w) hz
        have hps:∀ x y,x∈ps.toList.map (·.2)→opd c x=some y→Rv μ ι w (y.ev e) (a.eval x):=fun x y hx hy=>hρ x y (by simpa [ho,Op.operands] using hx) hy
        have hmap:(ps.map fun (i,x)=>(i,a.eval x)).toList=maParts a ps.toList:=by simp [maParts]
        obtain ⟨h1,h2⟩:=partsOf_rel (μ:=μ) (ι:=ι) (w:=w) (e:=e) (a:=a) hls hps
        have hra0:len*sz=0→Ra μ ι w (rep len z) ((Array.range (len*sz)).map ((#[]:Array Value)[· % (#[]:Array Value).size]!)):=fun h0=>by
          have hlen:len=0:=by
            rcases Nat.mul_eq_zero.1 h0 with h | h
            · exact h
            · exact absurd h hs0
          subst hlen
          exact ⟨by simp [rep],fun i hi=>by simp [rep] at hi⟩
        have hra1:Ra μ ι w (rep len z) ((Array.range (len*sz)).map (zv.cells[· % zv.cells.size]!)):=by
          have hzp:0<z.length:=by omega
          obtain ⟨k1,k2⟩:=zeroRow_rel hza hzp len len (Nat.le_refl _)
          rw [hzl] at k1 k2
          exact ⟨by rw [rep_length,hzl];simp,fun i hi=>k2 i (by rw [rep_length,hzl] at hi;exact hi)⟩
        have hex:∃ vs',Ra μ ι w cs vs'∧Rowed c a o w el vs' (.slice (some ⟨w.heap.size,0,none⟩) len len):=by
          by_cases h0:len*sz=0
          · obtain ⟨vs',hv1,hv2⟩:=fill_rel (place:=fun i=>some (i*sz,sz)) _ _ _ _ _ (hra0 h0) h1 h2 hf
            refine ⟨vs',hv2,?_⟩
            simp only [Rowed,execOp,ho,Instr.buildSlice,Sem.run_bind,ru hu,rsz hsz,Result.andThen_ok]
            rw [if_neg (by omega),if_pos h0]
            simp only [Sem.run_pure,Sem.run_bind,Result.andThen_ok,hmap,hv1]
            simp [newRow]
          · obtain ⟨vs',hv1,hv2⟩:=fill_rel (place:=fun i=>some (i*sz,sz)) _ _ _ _ _ hra1 h1 h2 hf
            refine ⟨vs',hv2,?_⟩
            simp only [Rowed,execOp,ho,Instr.buildSlice,Sem.run_bind,ru hu,rsz hsz,Result.andThen_ok]
            rw [if_neg (by omega),if_neg h0]
            simp only [Sem.run_pure,Sem.run_bind,Result.andThen_ok,hzr,hmap,hv1]
            simp [newRow]
        obtain ⟨vs',hv2,hrow⟩:=hex
        refine ⟨cs,vs',el, .slice (some ⟨w.heap.size,0,none⟩) len len,rfl,hrow,Nat.le_of_eq hv2.1.symm,hv2.2,hv2.one (fillParts_isCell _ _ _ hf (rep_mem hzc)).2,fun μ' ι' w' h=>?_⟩
        · refine .sref (off:=0) (off':=0) h ?_ (Nat.le_refl _) (fun _=>rfl)
          have:vs'.size=len*sz:=by
            rw [hv2.1]
            have:cs.length=(rep len z).length:=(fillParts_isCell _ _ _ hf (rep_mem hzc)).1
            rw [this,rep_length,hzl]
          simp only;omega
  case makeSlice t l k=>
    cases hu:c.P.underlying t with
    | none=>simp [hu] at hc
    | some ty =>
      rw [hu] at hc
      cases ty<;>simp only [reduceCtorEq] at hc
      rename_i el
      obtain ⟨i,hi,hc⟩:=bind_some hc
      obtain ⟨z,hz,hc⟩:=bind_some hc
      split at hc
      · cases hc
      · rename_i hs0
        obtain ⟨ll,hll,hc⟩:=bind_some hc
        obtain ⟨lk,hlk,hc⟩:=bind_some hc
        cases hc
        have h1:=hρ l ll (by simp [ho,Op.operands]) hll
        have h2:=hρ k lk (by simp [ho,Op.operands]) hlk
        unfold LOp.run at hr
        dsimp only at hr
        generalize ll.ev e=vl at *
        generalize lk.ev e=vk at *
        generalize hal:a.eval l=al at *
        generalize hak:a.eval k=ak at *
        cases h1<;>try (cases hr;done)
        cases h2<;>try (cases hr;done)
        rename_i kl nl kk nk
        dsimp only at hr
        split at hr
        · rename_i hb
          obtain ⟨hb0,hb1,hb2,hb3,hb4⟩:=hb
          cases hr
          obtain ⟨zv,hzr,hza,hzc⟩:=zeroC_run (μ:=μ) (ι:=ι) (w:=w) hz
          have hw1:IntKind.i64.wrap nl=nl:=by unfold big at hb3;exact wrap_i64 _ (by omega) (by omega)
          have hw2:IntKind.i64.wrap nk=nk:=by unfold big at hb3;exact wrap_i64 _ (by omega) (by omega)
          have hzp:0<z.length:=by omega
          have htl:(nk<0 || (i.bytes:Int)*nk > 2 ^ 48)=false:=by
            unfold big at hb2
            have h2':(i.bytes:Int)*nk≤2 ^ 32:=by rw [Int.mul_comm];exact_mod_cast hb2
            simp only [Bool.or_eq_false_iff,decide_eq_false_iff_not]
            omega
          have hnk:nk.toNat*i.size=nk.toNat*z.length:=by rw [hb4]
          obtain ⟨k1,k2⟩:=zeroRow_rel hza hzp nk.toNat nl.toNat (by omega)
          by_cases h0:nk.toNat*i.size=0
          · have hn0:nk.toNat=0:=by
              rcases Nat.mul_eq_zero.1 h0 with h | h
              · exact h
              · exact absurd h hs0
            have hl0:nl.toNat=0:=by omega
            refine ⟨rep nl.toNat z,#[],el, .slice (some ⟨w.heap.size,0,none⟩) nl.toNat nk.toNat,rfl,?_,by simp [hl0,rep],fun j hj=>by simp [hl0,rep] at hj,fun j hj=>by simp at hj,fun μ' ι' w' h=>?_⟩
            · simp only [Rowed,execOp,ho,hal,hak,Instr.makeSlice,Sem.run_bind,ru hu,rti hi,Result.andThen_ok,asInt,asIntOf,Sem.run_pure,hw1,hw2,htl]
              rw [if_neg (by simp;omega)]
              simp only [Sem.run_bind,run_askRoom,Result.andThen_ok,sizeOf,rti hi,Sem.run_pure,h0,if_true]
              simp [newRow,show Array.range 0 = #[] from rfl]
            · exact .sref (off:=0) (off':=0) h (by rw [hn0];simp) (by omega) (fun _=>rfl)
          · refine ⟨rep nl.toNat z,_,el, .slice (some ⟨w.heap.size,0,none⟩) nl.toNat nk.toNat,rfl,?_,by rw [rep_length];exact k1,fun j hj=>k2 j (by rw [rep_length] at hj;exact hj),fun j hj=>?_,fun μ' ι' w' h=>?_⟩
            · simp only [Rowed,execOp,ho,hal,hak,Instr.makeSlice,Sem.run_bind,ru hu,rti hi,Result.andThen_ok,asInt,asIntOf,Sem.run_pure,hw1,hw2,htl]
              rw [if_neg (by simp;omega)]
              simp only [Sem.run_bind,run_askRoom,Result.andThen_ok,sizeOf,rti hi,Sem.run_pure,h0,if_false,hzr]
              simp [newRow,hb4]
            · have hj':j<nk.toNat*z.length:=by simpa using hj
              have hmod:j % zv.cells.size<zv.cells.size:=Nat.mod_lt _ (by rw [hza.1];exact hzp)
              have:=hza.one hzc _ hmod
              rw [Array.getD_eq_getD_getElem?] at this ⊢
              simp only [hmod,getElem?_pos,Option.getD_some] at this
              simp only [Array.getElem?_map,Array.getElem?_range,hj',if_true,Option.map_some,Option.getD_some]
              rw [getElem!_pos zv.cells _ hmod]
              exact this
            · refine .sref (off:=0) (off':=0) h ?_ (by omega) (fun _=>rfl)
              simp [hb4]
        · cases hr
end
end Go.Pv
end
section
set_option linter.unusedSimpArgs false
namespace Go.Pv
open Go Go.RowKit
section
variable {w:World} {w0:Bs} {μ:Mu} {ι:Io} {δ:Nat→Prop} {s s':St} {cmp:Nat→LCode→Code→Prop}
structure FrzStep (μ:Mu) (s s':St):Prop where
 n:s'.n=s.n
 cells:∀ id m cs,s.get id=some (.cells m cs)→∃ m' cs',s'.get id=some (.cells m' cs')∧cs'.length=cs.length∧(m'=m∨(m = .mut∧m' = .app))
 kept:∀ id,μ id=none→s'.get id=s.get id
theorem FrzStep.refl (μ:Mu) (s:St):FrzStep μ s s:=⟨rfl,fun _ m cs h=>⟨m,cs,h,rfl, .inl rfl⟩,fun _ _=>rfl⟩
theorem FrzStep.trans {μ:Mu} {s s' s'':St} (h:FrzStep μ s s') (k:FrzStep μ s' s''):FrzStep μ s s'':=by
 refine ⟨k.n.trans h.n,fun id m cs hg=>?_,fun id hm=>(k.kept id hm).trans (h.kept id hm)⟩
 obtain ⟨m1,c1,g1,l1,e1⟩:=h.cells id m cs hg
 obtain ⟨m2,c2,g2,l2,e2⟩:=k.cells id m1 c1 g1
 refine ⟨m2,c2,g2,l2.trans l1,?_⟩
 rcases e1 with rfl | ⟨rfl,rfl⟩<;>rcases e2 with rfl | ⟨h1,rfl⟩
 ·exact .inl rfl
 ·exact .inr ⟨h1,rfl⟩
 ·exact .inr ⟨rfl,rfl⟩
 ·cases h1
def FrzOk (cmp:Nat→LCode→Code→Prop) (w0:Bs) (μ:Mu) (δ:Nat→Prop) (w:World) (f:LV→St→Option (LV × St)):Prop:=
 ∀ (v:LV) (s:St) (v':LV) (s':St) (ι:Io) (x:Value),f v s=some (v',s')→Inv cmp w0 μ ι δ s w→Rv μ ι w v x →
  ∃ ι',Inv cmp w0 μ ι' δ s' w∧Ext μ ι δ w μ ι' δ w∧Rv μ ι' w v' x∧FrzStep μ s s'
theorem frzAll_ok {f:LV→St→Option (LV × St)} (hf:FrzOk cmp w0 μ δ w f):∀ (cs:List LV) (s:St) (cs':List LV) (s':St) (ι:Io) (xs:Nat→Value),
  frz.frzAll f cs s=some (cs',s')→Inv cmp w0 μ ι δ s w→(∀ i,i<cs.length→Rv μ ι w (cs.getD i .top) (xs i)) →
  ∃ ι',Inv cmp w0 μ ι' δ s' w∧Ext μ ι δ w μ ι' δ w∧cs'.length=cs.length∧(∀ i,i<cs.length→Rv μ ι' w (cs'.getD i .top) (xs i))∧FrzStep μ s s':=by
 intro cs
 induction cs with
 | nil=>
  intro s cs' s' ι xs h I _
  cases h
  exact ⟨ι,I,Ext.refl _ _ _ _,rfl,fun i hi=>absurd hi (Nat.not_lt_zero _),FrzStep.refl _ _⟩
 | cons v cs ih=>
  intro s cs' s' ι xs h I hr
  simp only [frz.frzAll] at h
  obtain ⟨⟨v1,s1⟩,h1,h⟩:=bind_some h
  obtain ⟨⟨r2,s2⟩,h2,h⟩:=bind_some h
  cases h
  obtain ⟨ι1,I1,x1,rv1,f1⟩:=hf v s v1 s1 ι (xs 0) h1 I (by simpa using hr 0 (by simp))
  obtain ⟨ι2,I2,x2,l2,rv2,f2⟩:=ih s1 r2 s2 ι1 (fun i=>xs (i+1)) h2 I1 (fun i hi=>(by simpa using hr (i+1) (by simpa using hi):Rv μ ι w (cs.getD i .top) (xs (i+1))).ext x1)
  refine ⟨ι2,I2,x1.trans x2,by simp [l2],fun i hi=>?_,f1.trans f2⟩
  cases i with
  | zero=>simpa using rv1.ext x2
  | succ i=>simpa using rv2 i (by simpa using hi)
theorem frz_ok : ∀ n, FrzOk cmp w0 μ δ w (frz n) := by
  intro n
  induction n with
  | zero=>intro v s v' s' ι x h;cases h
  | succ n ih =>
    intro v s v' s' ι x h I hv
    simp only [frz] at h
    split at h
    · cases h;exact ⟨ι,I,Ext.refl _ _ _ _,hv,FrzStep.refl _ _⟩
    · rename_i hnc
      clear hnc
      cases hv<;>simp only [reduceCtorEq] at h
      case agg cs vs hl hr=>
        obtain ⟨⟨cs',s1⟩,h1,h⟩:=bind_some h
        cases h
        obtain ⟨ι1,I1,x1,l1,rv1,f1⟩:=frzAll_ok ih cs s cs' s1 ι (fun i=>vs.getD i undef) h1 I hr
        exact ⟨ι1,I1,x1, .agg (by rw [hl,l1]) (fun i hi=>rv1 i (by rw [← l1];exact hi)),f1⟩
      case tup cs vs hl hr=>
        obtain ⟨⟨cs',s1⟩,h1,h⟩:=bind_some h
        cases h
        obtain ⟨ι1,I1,x1,l1,rv1,f1⟩:=frzAll_ok ih cs s cs' s1 ι (fun i=>vs.getD i undef) h1 I hr
        exact ⟨ι1,I1,x1, .tup (by rw [hl,l1]) (fun i hi=>rv1 i (by rw [← l1];exact hi)),f1⟩
      case ifc t v x hv=>
        obtain ⟨⟨v1,s1⟩,h1,h⟩:=bind_some h
        cases h
        obtain ⟨ι1,I1,x1,rv1,f1⟩:=ih v s v1 s1 ι x h1 I hv
        exact ⟨ι1,I1,x1, .ifc rv1,f1⟩
      case fn f la lb va vb hl hl' hr hr' =>
        obtain ⟨⟨la',s1⟩,h1,h⟩:=bind_some h
        obtain ⟨⟨lb',s2⟩,h2,h⟩:=bind_some h
        cases h
        obtain ⟨ι1,I1,x1,l1,rv1,f1⟩:=frzAll_ok ih la s la' s1 ι (fun i=>va.getD i undef) h1 I hr
        obtain ⟨ι2,I2,x2,l2,rv2,f2⟩:=frzAll_ok ih lb s1 lb' s2 ι1 (fun i=>vb.getD i undef) h2 I1 (fun i hi=>(hr' i hi).ext x1)
        exact ⟨ι2,I2,x1.trans x2, .fn (by rw [hl,l1]) (by rw [hl',l2]) (fun i hi=>(rv1 i (by rw [← l1];exact hi)).ext x2) (fun i hi=>rv2 i (by rw [← l2];exact hi)),f1.trans f2⟩
      case sref id off len esz cap p off' hp hcap hlc had=>
        split at h
        · rename_i m cs hg
          split at h
          · rename_i hin
            obtain ⟨⟨cs',s1⟩,h1,h⟩:=bind_some h
            cases h
            have hch:=I.cellsAt1 hg hp
            have hch':∀ i,∃ x,i<cs.length→(w.cell? ⟨p.b,p.off+i,none⟩=some x∧x.oneCell'=true∧Rv μ ι w (cs.getD i .top) x):=fun i=>by
              by_cases hi:i<cs.length
              · obtain ⟨x,hx⟩:=hch i hi;exact ⟨x,fun _=>hx⟩
              · exact ⟨undef,fun h=>absurd h hi⟩
            let f:Nat→Value:=fun i=>Classical.choose (hch' i)
            have hf:∀ i,i<cs.length→(w.cell? ⟨p.b,p.off+i,none⟩=some (f i)∧(f i).oneCell'=true∧Rv μ ι w (cs.getD i .top) (f i)):=fun i hi=>Classical.choose_spec (hch' i) hi
            obtain ⟨ι1,I1,x1,l1,rv1,f1⟩:=frzAll_ok ih cs s cs' s1 ι f h1 I (fun i hi=>(hf i hi).2.2)
            obtain ⟨m1,c1,g1,lc1,e1⟩:=f1.cells id m cs hg
            obtain ⟨ι2,I2,x2,hio⟩:=I1.recell (m':=if m = .mut then .app else m) (cs':=cs') g1 hp (by rw [l1,lc1]) (by
              rcases e1 with rfl | ⟨rfl,rfl⟩
              · by_cases hm:m1 = .mut
                · subst hm;exact .inr ⟨rfl,rfl⟩
                · rw [if_neg hm];exact .inl rfl
              · exact .inl rfl) (fun i x hi hx=>by
              have:=hf i (by rw [← lc1];exact hi)
              rw [this.1] at hx
              cases hx
              exact rv1 i (by rw [← lc1];exact hi))
            have hlen:((cs'.drop off).take (len*esz)).length=len*esz:=by simp;omega
            refine ⟨ι2,I2,x1.trans x2,?_,f1.trans ⟨rfl,fun id' m' c' g'=>?_,fun id' hm=>?_⟩⟩
            · refine .simm (fun i=>f (off+i)) (fun i hi=>?_) (fun i hi=>?_) (fun i hi=>?_) (fun i hi=>?_) hlc<;>rw [hlen] at hi
              · have hc0 : cap ≠ 0 := by rintro rfl; have : len = 0 := by omega
                                         subst this;simp at hi
                rw [had hc0,Nat.add_assoc]
                exact (hf _ (by omega)).1
              · have hc0 : cap ≠ 0 := by rintro rfl; have : len = 0 := by omega
                                         subst this;simp at hi
                rw [had hc0,Nat.add_assoc]
                exact hio (by cases m<;>simp) _ (by omega)
              · exact (hf _ (by omega)).2.1
              · rw [getD_drop_take _ _ _ _ hi]
                exact (rv1 _ (by omega)).ext x2
            · rw [St.get_put]
              by_cases e:id'=id
              · subst e
                rw [g1] at g'
                cases g'
                refine ⟨_,_,if_pos rfl,by rw [l1,lc1],?_⟩
                rcases e1 with rfl | ⟨rfl,rfl⟩
                · by_cases hm:m1 = .mut
                  · subst hm;exact .inr ⟨rfl,rfl⟩
                  · rw [if_neg hm];exact .inl rfl
                · exact .inl rfl
              · exact ⟨m',c',by rw [if_neg e];exact g',rfl, .inl rfl⟩
            · rw [St.get_put,if_neg]
              rintro rfl
              rw [hp] at hm
              cases hm
          · cases h
        · cases h
      case pref id off p hp=>
        split at h
        · rename_i m cs hg
          split at h
          · rename_i hin
            obtain ⟨⟨cs',s1⟩,h1,h⟩:=bind_some h
            cases h
            have hch:=I.cellsAt1 hg hp
            have hch':∀ i,∃ x,i<cs.length→(w.cell? ⟨p.b,p.off+i,none⟩=some x∧x.oneCell'=true∧Rv μ ι w (cs.getD i .top) x):=fun i=>by
              by_cases hi:i<cs.length
              · obtain ⟨x,hx⟩:=hch i hi;exact ⟨x,fun _=>hx⟩
              · exact ⟨undef,fun h=>absurd h hi⟩
            let f:Nat→Value:=fun i=>Classical.choose (hch' i)
            have hf:∀ i,i<cs.length→(w.cell? ⟨p.b,p.off+i,none⟩=some (f i)∧(f i).oneCell'=true∧Rv μ ι w (cs.getD i .top) (f i)):=fun i hi=>Classical.choose_spec (hch' i) hi
            obtain ⟨ι1,I1,x1,l1,rv1,f1⟩:=frzAll_ok ih cs s cs' s1 ι f h1 I (fun i hi=>(hf i hi).2.2)
            obtain ⟨m1,c1,g1,lc1,e1⟩:=f1.cells id m cs hg
            obtain ⟨ι2,I2,x2,hio⟩:=I1.recell (m':=if m = .mut then .app else m) (cs':=cs') g1 hp (by rw [l1,lc1]) (by
              rcases e1 with rfl | ⟨rfl,rfl⟩
              · by_cases hm:m1 = .mut
                · subst hm;exact .inr ⟨rfl,rfl⟩
                · rw [if_neg hm];exact .inl rfl
              · exact .inl rfl) (fun i x hi hx=>by
              have:=hf i (by rw [← lc1];exact hi)
              rw [this.1] at hx
              cases hx
              exact rv1 i (by rw [← lc1];exact hi))
            refine ⟨ι2,I2,x1.trans x2,?_,f1.trans ⟨rfl,fun id' m' c' g'=>?_,fun id' hm=>?_⟩⟩
            · refine .pimm f (fun i hi=>(hf i (by rw [← l1];exact hi)).1) (fun i hi=>hio (by cases m<;>simp) i (by rw [lc1,← l1];exact hi)) (fun i hi=>(hf i (by rw [← l1];exact hi)).2.1) (fun i hi=>(rv1 i (by rw [← l1];exact hi)).ext x2)
            · rw [St.get_put]
              by_cases e:id'=id
              · subst e
                rw [g1] at g'
                cases g'
                refine ⟨_,_,if_pos rfl,by rw [l1,lc1],?_⟩
                rcases e1 with rfl | ⟨rfl,rfl⟩
                · by_cases hm:m1 = .mut
                  · subst hm;exact .inr ⟨rfl,rfl⟩
                  · rw [if_neg hm];exact .inl rfl
                · exact .inl rfl
              · exact ⟨m',c',by rw [if_neg e];exact g',rfl, .inl rfl⟩
            · rw [St.get_put,if_neg]
              rintro rfl
              rw [hp] at hm
              cases hm
          · cases h
        · cases h
end
end Go.Pv
end
section
set_option linter.unusedSimpArgs false
namespace Go.Pv
open Go Go.RowKit
section
variable {P:Program} {w:World} {w0:Bs} {μ:Mu} {ι:Io} {δ:Nat→Prop} {s s':St} {cmp:Nat→LCode→Code→Prop} {c:Ctx} {e:Env} {a:Act} {o:Oper} {v:LV}
def OpOk (cmp:Nat→LCode→Code→Prop) (w0:Bs) (μ:Mu) (ι:Io) (δ:Nat→Prop) (s:St) (w:World) (P:Program) (a:Act) (o:Oper) (v:LV) (s':St):Prop:=
 ∃ x w' μ' ι',((execOp a.eval o).run P w = .ok (.value x) w'∨((execOp a.eval o).run P w = .ok .skip w'∧x=undef)) ∧
  Inv cmp w0 μ' ι' δ s' w'∧Ext μ ι δ w μ' ι' δ w'∧Rv μ' ι' w' v x∧Kept μ s μ' s'
theorem Kept.trans {s'':St} {μ' μ'':Mu} (h:Kept μ s μ' s') (k:Kept μ' s' μ'' s''):Kept μ s μ'' s'' :=
  ⟨Nat.le_trans h.n k.n,fun id hid hm=>(k.get id (Nat.lt_of_lt_of_le hid h.n) (h.free id hid hm)).trans (h.get id hid hm),
   fun id hid hm=>k.free id (Nat.lt_of_lt_of_le hid h.n) (h.free id hid hm)⟩
theorem Kept.of_frz (h:FrzStep μ s s'):Kept μ s μ s':=⟨Nat.le_of_eq h.n.symm,fun id _ hm=>h.kept id hm,fun _ _ h=>h⟩
theorem Mu.upd_none {k:Nat} {p:Place} {id:Nat} (h:id≠k) (hm:μ id=none):μ.upd k p id=none:=by rw [Mu.upd,if_neg h];exact hm
theorem Kept.new (b:Blk) (p:Place):Kept μ s (μ.upd s.n p) (s.new b):=⟨by simp,fun id hid _=>by rw [St.get_new,if_neg (by omega)],fun id hid hm=>Mu.upd_none (by omega) hm⟩
theorem Kept.put {id:Nat} {p:Place} (hp:μ id=some p) (b:Blk):Kept μ s μ (s.put id b):=⟨Nat.le_refl _,fun j _ hm=>(by rw [St.get_put,if_neg];rintro rfl;rw [hp] at hm;cases hm),fun _ _ h=>h⟩
theorem ok_look (I:Inv cmp w0 μ ι δ s w) (h:Looks μ ι w P a o v):OpOk cmp w0 μ ι δ s w P a o v s:=
 let ⟨x,hx,hr⟩:=h;⟨x,w,μ,ι, .inl hx,I,Ext.refl _ _ _ _,hr,Kept.refl _ _⟩
theorem ok_row (I:Inv cmp w0 μ ι δ s w) {lo:LOp} (hm:Op.makes o.op=true) (hl:isRow lo=true) (hc:compOp c o=some lo) (hρ:Ho μ ι w c e a o) (hr:lo.run e s=some (v,s')) :
  OpOk cmp w0 μ ι δ s w c.P a o v s':=by
 obtain ⟨cs,arr,T,x,rfl,hrow,h1,h2,h3,h4⟩:=row_sound hm hl hc hρ hr
 obtain ⟨I',x'⟩:=I.newCells T arr cs h1 h3 h2
 exact ⟨x,_,_,ι, .inl hrow,I',x',h4 _ _ _ (by simp [Mu.upd]),Kept.new _ _⟩
theorem ok_box {t:TypeId} {x:Operand} (ho:o.op = .box t x) (I:Inv cmp w0 μ ι δ s w) (hρ:Ho μ ι w c e a o) {y:Opd} (hy:opd c x=some y) (hr:(LOp.box true y).run e s=some (v,s')) :
  OpOk cmp w0 μ ι δ s w c.P a o v s':=by
 have hx:=hρ x y (by simp [ho,Op.operands]) hy
 unfold LOp.run at hr
 dsimp only at hr
 obtain ⟨⟨v1,s1⟩,h1,hr⟩:=bind_some hr
 obtain ⟨cs,hcs,hr⟩:=bind_some hr
 split at hr
 ·cases hr
 ·cases hr
  obtain ⟨ι1,I1,x1,rv1,f1⟩:=frz_ok frzDepth _ _ _ _ ι _ h1 I hx
  obtain ⟨k1,k2,k3⟩:=cells_rel rv1 hcs
  obtain ⟨I2,x2,hcell⟩:=I1.newImm t (a.eval x).cells
  refine ⟨.pointer (some ⟨w.heap.size,0,none⟩),_,μ,_, .inl ?_,I2,x1.trans x2,?_,Kept.of_frz f1⟩
  ·simp [execOp,ho,Instr.box,newVar,newRow]
  ·have hone:=Ra.one (μ:=μ) (ι:=ι1) (w:=w) ⟨k1,k2⟩ (by simpa using k3)
   refine .pimm (o:=0) (off:=0) (fun i=>(a.eval x).cells.getD i undef) (fun i hi=>?_) (fun i hi=>.inr ⟨rfl,by rw [Nat.zero_add,k1];exact hi⟩) (fun i hi=>hone i (by rw [k1];exact hi)) (fun i hi=>(k2 i hi).ext x2)
   have hi':i<(a.eval x).cells.size:=by rw [k1];exact hi
   rw [Nat.zero_add,hcell]
   simp [Array.getD_eq_getD_getElem?,hi']
theorem ok_store {t:TypeId} {ad x:Operand} (ho:o.op = .store t ad x) (I:Inv cmp w0 μ ι δ s w) (hρ:Ho μ ι w c e a o) {n:Nat} (hn:szOf c.P t=some n) {ya y:Opd} (hya:opd c ad=some ya) (hy:opd c x=some y)
  (hr:(LOp.store n ya y).run e s=some (v,s')):OpOk cmp w0 μ ι δ s w c.P a o v s':=by
 have ha:=hρ ad ya (by simp [ho,Op.operands]) hya
 have hx:=hρ x y (by simp [ho,Op.operands]) hy
 unfold LOp.run at hr
 dsimp only at hr
 generalize ya.ev e=la at *
 generalize y.ev e=lx at *
 generalize haa:a.eval ad=aa at *
 generalize hax:a.eval x=ax at *
 cases ha<;>try (cases hr;done)
 rename_i id off p hp
 cases hcx:cells? lx with
 | none=>rw [hcx] at hr;cases hr
 | some new=>
  rw [hcx] at hr
  dsimp only at hr
  split at hr
  ·rename_i cs hg
   split at hr
   ·rename_i hb
    cases hr
    obtain ⟨k1,k2,k3⟩:=cells_rel hx hcx
    have hone:=Ra.one (μ:=μ) (ι:=ι) (w:=w) ⟨k1,k2⟩ (by simpa using k3)
    obtain ⟨_,h1,h2,h3,_,_,_⟩:=I.blk id _ p hg hp
    have hlen:ax.cells.toList.length=new.length:=by simpa using k1
    obtain ⟨w',hw',W⟩:=run_storeCells (P:=c.P) p.b (p.off+off) ax.cells.toList 0 w (cells_one hx hcx) (fun j hj=>by
      obtain ⟨u,hu,_⟩:=h2 (off+j) (by omega)
      exact ⟨u,by rw [← hu];congr 2;omega⟩) (fun j hj=>by
      exact h3 _)
    rw [Nat.add_zero] at W
    have hgd:∀ i,ax.cells.toList.getD i undef=ax.cells.getD i undef:=fun i=>by simp [List.getD_eq_getElem?_getD,Array.getD_eq_getD_getElem?]
    obtain ⟨I',x'⟩:=I.write hg hp new ax.cells.toList hlen (by omega) (fun i hi=>by rw [hgd];exact k2 i hi) (fun i hi=>by rw [hgd];exact hone i (by simpa using hi)) W
    refine ⟨undef,w',μ,ι, .inr ⟨?_,rfl⟩,I',x', .tup rfl (fun i hi=>absurd hi (Nat.not_lt_zero _)),Kept.put hp _⟩
    have hsz:ax.cells.size=n:=by rw [k1,hb.1]
    have hst:(storeVar t ⟨p.b,p.off+off,none⟩ ax).run c.P w = .ok () w':=by
     simp only [storeVar,Sem.run_bind,rsz hn,Result.andThen_ok,Sem.run_ite]
     rw [if_neg (by simp [hsz])]
     exact hw'
    simp [execOp,ho,haa,hax,Instr.storeAt,Instr.sureAddr,hst]
   ·cases hr
  ·cases hr
theorem rowOf_rel (I:Inv cmp w0 μ ι δ s w) {esz n:Nat} {v:LV} {x:Value} {new:List LV} (hv:Rv μ ι w v x) (h:rowOf s esz n v=some new) :
    ∃ arr,(∀ w',Same w w'→(Builtin.firstCells esz n x).run P w' = .ok arr w')∧Ra μ ι w new arr∧(∀ i,i<arr.size→(arr.getD i undef).oneCell'=true)∧new.length=n*esz:=by
  have key:∀ (b o off:Nat) (cs:List LV),off+n*esz≤cs.length→(∀ i,i<cs.length→∃ x,w.cell? ⟨b,o+i,none⟩=some x∧x.oneCell'=true∧Rv μ ι w (cs.getD i .top) x)→∀ o',(n*esz≠0→o'=o+off) →
      ∃ arr,(∀ w',Same w w'→(loadCells ⟨b,o',none⟩ (n*esz)).run P w' = .ok arr w')∧Ra μ ι w ((cs.drop off).take (n*esz)) arr∧(∀ i,i<arr.size→(arr.getD i undef).oneCell'=true)∧((cs.drop off).take (n*esz)).length=n*esz:=by
    intro b o off cs hin hc o' ho'
    have hch:∀ i,∃ x,i<n*esz→(w.cell? ⟨b,o+off+i,none⟩=some x∧x.oneCell'=true∧Rv μ ι w (cs.getD (off+i) .top) x):=fun i=>by
      by_cases hi:i<n*esz
      · obtain ⟨x,hx,ho,hr⟩:=hc (off+i) (by omega)
        exact ⟨x,fun _=>⟨by rw [← hx];congr 2;omega,ho,hr⟩⟩
      · exact ⟨undef,fun h=>absurd h hi⟩
    let f:Nat→Value:=fun i=>Classical.choose (hch i)
    have hf:∀ i,i<n*esz→(w.cell? ⟨b,o+off+i,none⟩=some (f i)∧(f i).oneCell'=true∧Rv μ ι w (cs.getD (off+i) .top) (f i)):=fun i hi=>Classical.choose_spec (hch i) hi
    have hrun:∀ w',Same w w'→(loadCells ⟨b,o',none⟩ (n*esz)).run P w' = .ok ((List.range (n*esz)).map f).toArray w':=fun w' hs=>by
      have hrun:=run_loadCells (P:=P) (w:=w') b o' ((List.range (n*esz)).map f) (fun j hj=>by
        have hj':j<n*esz:=by simpa using hj
        rw [ho' (by omega),hs.cell (hf j hj').1]
        simp [List.getD_eq_getElem?_getD,hj'])
      rwa [List.length_map,List.length_range] at hrun
    have hlen:((cs.drop off).take (n*esz)).length=n*esz:=by simp;omega
    refine ⟨_,hrun,⟨by simp [hlen],fun i hi=>?_⟩,fun i hi=>?_,hlen⟩
    · rw [hlen] at hi
      rw [getD_drop_take _ _ _ _ hi]
      have:=(hf i hi).2.2
      simpa [Array.getD_eq_getD_getElem?,hi] using this
    · have hi':i<n*esz:=by simpa using hi
      have:=(hf i hi').2.1
      simpa [Array.getD_eq_getD_getElem?,hi'] using this
  cases hv<;>simp only [rowOf,reduceCtorEq] at h
  case nils=>
    split at h
    · rename_i h0;cases h;subst h0
      exact ⟨#[],fun w' _=>by simp [Builtin.firstCells],⟨rfl,fun i hi=>absurd hi (Nat.not_lt_zero _)⟩,fun i hi=>absurd hi (Nat.not_lt_zero _),by simp⟩
    · cases h
  case zs=>
    split at h
    · rename_i h0;cases h;subst h0
      exact ⟨#[],fun w' _=>by simp [Builtin.firstCells,loadCells,loadCellsFrom],⟨rfl,fun i hi=>absurd hi (Nat.not_lt_zero _)⟩,fun i hi=>absurd hi (Nat.not_lt_zero _),by simp⟩
    · cases h
  case str b=>
    split at h
    · rename_i h0;cases h
      obtain ⟨rfl,h0⟩:=h0
      refine ⟨(b.extract 0 n).data.map fun b=>.int .u8 b.toNat,fun w' _=>by simp [Builtin.firstCells],?_,?_,?_⟩
      · have hb:(b.extract 0 n).data.toList=b.data.toList.take n:=by simp
        have he:((b.extract 0 n).data.map fun b=>Value.int .u8 b.toNat)=((b.data.toList.take n).map fun b=>Value.int .u8 b.toNat).toArray:=by
          apply Array.ext';simp
        rw [he]
        refine ⟨by simp,fun i hi=>?_⟩
        have hi':i<(b.data.toList.take n).length:=by simpa using hi
        simp only [List.getD_eq_getElem?_getD,List.getElem?_map,Array.getD_eq_getD_getElem?,List.getElem?_toArray,List.getElem?_eq_getElem hi',Option.map_some,Option.getD_some]
        exact .int _ _
      · intro i hi
        have hi':i<(b.extract 0 n).data.size:=by simpa using hi
        simp only [Array.getD_eq_getD_getElem?,Array.getElem?_map,Array.getElem?_eq_getElem hi',Option.map_some,Option.getD_some]
        rfl
      · have:b.size=b.data.toList.length:=by simp
        simp;omega
    · cases h
  case simm cs len b o cap vs hc hi ho1 hr hlc=>
    split at h
    · rename_i h0;cases h
      have:n*esz≤len*esz:=Nat.mul_le_mul_right _ h0.1
      have:=key b o 0 cs (by omega) (fun i hi=>⟨vs i,hc i hi,ho1 i hi,hr i hi⟩) o (fun _=>rfl)
      simpa [Builtin.firstCells] using this
    · cases h
  case sref id off len es cap p off' hp hcap hlc had=>
    split at h
    · rename_i m cs hg
      split at h
      · rename_i h0;cases h
        have h2:n*esz≤len*esz:=Nat.mul_le_mul_right _ h0.2.1
        have:=key p.b p.off off cs (by omega) (I.cellsAt1 hg hp) (p.off+off') (fun hne=>by
          rw [had (by rintro rfl;have:n=0:=by omega
                      subst this;simp at hne)])
        simpa [Builtin.firstCells] using this
      · cases h
    · cases h
end
end Go.Pv
end
section
set_option linter.unusedSimpArgs false
namespace Go.Pv
open Go Go.RowKit
section
variable {P:Program} {w:World} {w0:Bs} {μ:Mu} {ι:Io} {δ:Nat→Prop} {s s':St} {cmp:Nat→LCode→Code→Prop} {c:Ctx} {e:Env} {a:Act} {o:Oper} {v:LV}
theorem growBy_le (need:Nat):∀ (r c:Nat),Builtin.growBy need r c≤max c (need+need / 4+192):=by
 intro r
 induction r with
 | zero=>intro c;simp [Builtin.growBy];omega
 | succ r ih=>
  intro c
  unfold Builtin.growBy
  split
  ·omega
  ·rename_i h
   have:=ih (c+(c+768) / 4)
   omega
theorem nextcap_le (need old:Nat) (h:old<need):Builtin.nextslicecap need old≤2*need+192:=by
 unfold Builtin.nextslicecap
 split
 ·omega
 ·split
  ·omega
  ·have:=growBy_le need 4 old
   omega
theorem isSeq_cases {d:TypeDesc} (h:isSeq d=true):(∃ e,d = .slice e)∨d = .string:=by
 cases d<;>first | (cases h;done) | exact .inl ⟨_,rfl⟩ | exact .inr rfl
theorem append_fits {t u el:TypeId} {ty:TypeId} {d:TypeDesc} {i:TypeInfo} (ht:P.underlying t=some (.slice el)) (hu:P.underlying u=some d) (hd:isSeq d=true) (hi:P.info? el=some i)
  {base:Option Addr} {sLen sCap n:Nat} {x:Value} (hl:Builtin.lenOf x=Sem.pure n) (hfit:sLen+n≤sCap) {new:Array Value} (hnew:(Builtin.firstCells i.size n x).run P w = .ok new w) {w':World}
  (hst:∀ b,base=some b→(storeCells (b.add (sLen*i.size)) new.toList).run P w = .ok () w') (hno:base=none→w'=w) :
  (Builtin.append_ #[t,u] ty #[.slice base sLen sCap,x]).run P w = .ok (.slice base (sLen+n) sCap) w':=by
 have hsz:(sizeOf el).run P w = .ok i.size w:=by simp [sizeOf,rti hi]
 rcases isSeq_cases hd with ⟨e',rfl⟩ | rfl<;>cases base with
 | none=>
  obtain rfl:=hno rfl
  simp only [Builtin.append_]
  simp [ru ht,ru hu,hsz,hl,hfit,hnew]
 | some b=>
  simp only [Builtin.append_]
  simp [ru ht,ru hu,hsz,hl,hfit,hnew,hst b rfl]
theorem append_grows {t u el:TypeId} {ty:TypeId} {d:TypeDesc} {i:TypeInfo} (ht:P.underlying t=some (.slice el)) (hu:P.underlying u=some d) (hd:isSeq d=true) (hi:P.info? el=some i)
  {base:Option Addr} {sLen sCap n:Nat} {x:Value} (hl:Builtin.lenOf x=Sem.pure n) (hfit:sCap<sLen+n) (hb0:i.bytes≠0) (hbig:(sLen+n)*i.bytes≤2 ^ 32) {zv:Value} (hz:i.zero=some zv)
  {old new:Array Value} (ho1:(Builtin.firstCells i.size sLen (.slice base sLen sCap)).run P w.drew = .ok old w.drew) (hn1:(Builtin.firstCells i.size n x).run P w.drew = .ok new w.drew) :
  ∃ newCap,sLen+n≤newCap∧(Builtin.append_ #[t,u] ty #[.slice base sLen sCap,x]).run P w =
   .ok (.slice (some ⟨w.heap.size,0,none⟩) (sLen+n) newCap) (({ w with drawn:=w.drawn+1 } : World).alloc (.cells (old++new++Builtin.zeroCells zv.cells (newCap - (sLen+n))) el)):=by
 have hsz:∀ w':World,(sizeOf el).run P w' = .ok i.size w':=fun w'=>by simp [sizeOf,rti hi]
 have hle:sLen+n≤2 ^ 32:=Nat.le_trans (Nat.le_mul_of_pos_right _ (Nat.pos_of_ne_zero hb0)) hbig
 have hcap:¬ (281474976710656<Builtin.nextslicecap (sLen+n) sCap*i.bytes):=by
  have h1:=nextcap_le (sLen+n) sCap hfit
  have h2:Builtin.nextslicecap (sLen+n) sCap*i.bytes≤(2*(sLen+n)+192)*i.bytes:=Nat.mul_le_mul_right _ h1
  have h3:(2*(sLen+n)+192)*i.bytes=2*((sLen+n)*i.bytes)+192*i.bytes:=by rw [Nat.add_mul,Nat.mul_assoc]
  have h4:i.bytes≤(sLen+n)*i.bytes:=Nat.le_mul_of_pos_left _ (by omega)
  omega
 have hf:(Question.appendCap (sLen+n) sCap el).forced=false:=rfl
 refine ⟨(Question.appendCap (sLen+n) sCap el).cut (w.tape w.drawn (.appendCap (sLen+n) sCap el)),by simp [Question.cut],?_⟩
 have hn:¬ (sLen+n≤sCap):=by omega
 have h63:¬ (9223372036854775807<(sLen:Int)+(n:Int)):=by omega
 have hti:∀ w':World,(typeInfo el).run P w' = .ok i w':=fun w'=>rti hi
 have hzv:∀ w':World,(zeroValue el).run P w' = .ok zv w':=fun w'=>rz hi hz
 rcases isSeq_cases hd with ⟨e',rfl⟩ | rfl
 ·simp only [Builtin.append_]
  simp [ru ht,ru hu,hsz,hl,hn,hti,hb0,hcap,hf,ho1,hn1,hzv,newRow]
 ·simp only [Builtin.append_]
  simp [ru ht,ru hu,hsz,hl,hn,hti,hb0,hcap,hf,ho1,hn1,hzv,newRow]
theorem Ra.append {xs ys:List LV} {us vs:Array Value} (h:Ra μ ι w xs us) (k:Ra μ ι w ys vs):Ra μ ι w (xs++ys) (us++vs):=by
 refine ⟨by simp [h.1,k.1],fun i hi=>?_⟩
 by_cases hx:i<xs.length
 ·have:=h.2 i hx
  have hu:i<us.size:=by rw [h.1];exact hx
  simpa [List.getD_eq_getElem?_getD,Array.getD_eq_getD_getElem?,List.getElem?_append_left hx,Array.getElem?_append_left hu] using this
 ·have hi':i - xs.length<ys.length:=by simp at hi;omega
  have:=k.2 (i - xs.length) hi'
  have hu:us.size≤i:=by rw [h.1];omega
  have e:i - us.size=i - xs.length:=by rw [h.1]
  simpa [List.getD_eq_getElem?_getD,Array.getD_eq_getD_getElem?,List.getElem?_append_right (Nat.le_of_not_lt hx),Array.getElem?_append_right hu,e] using this
theorem zeroCells_size (z:Array Value) (k:Nat):(Builtin.zeroCells z k).size=k*z.size:=by simp [Builtin.zeroCells]
theorem zeroCells_one {z:Array Value} (hz:∀ i,i<z.size→(z.getD i undef).oneCell'=true) (k:Nat):∀ i,i<(Builtin.zeroCells z k).size→((Builtin.zeroCells z k).getD i undef).oneCell'=true:=by
 intro i hi
 rw [zeroCells_size] at hi
 have hp:0<z.size:=by
  rcases Nat.eq_zero_or_pos z.size with h | h
  ·rw [h] at hi;simp at hi
  ·exact h
 have hm:i % z.size<z.size:=Nat.mod_lt _ hp
 have:=hz _ hm
 rw [Array.getD_eq_getD_getElem?] at this ⊢
 simp only [hm,getElem?_pos,Option.getD_some] at this
 simp only [Builtin.zeroCells,Array.getElem?_map,Array.getElem?_range,hi,if_true,Option.map_some,Option.getD_some]
 rw [getElem!_pos z _ hm]
 exact this
theorem one_append {us vs:Array Value} (h:∀ i,i<us.size→(us.getD i undef).oneCell'=true) (k:∀ i,i<vs.size→(vs.getD i undef).oneCell'=true) :
  ∀ i,i<(us++vs).size→((us++vs).getD i undef).oneCell'=true:=by
 intro i hi
 by_cases hx:i<us.size
 ·have:=h i hx
  simpa [Array.getD_eq_getD_getElem?,Array.getElem?_append_left hx] using this
 ·have:=k (i - us.size) (by simp at hi;omega)
  simpa [Array.getD_eq_getD_getElem?,Array.getElem?_append_right (Nat.le_of_not_lt hx)] using this
theorem lenOf_rel {v:LV} {x:Value} {n:Nat} (hv:Rv μ ι w v x) (h:lenLV v=some n):Builtin.lenOf x=Sem.pure n:=by
 rcases lenLV_rel hv h with ⟨b,k,rfl⟩ | ⟨s,rfl,rfl⟩<;>rfl
theorem grow_row {old new:Array Value} {xs ys:List LV} (h:Ra μ ι w xs old) (k:Ra μ ι w ys new) (z:Array Value) :
  (xs++ys).length≤(old++new++z).size∧∀ i,i<(xs++ys).length→Rv μ ι w ((xs++ys).getD i .top) ((old++new++z).getD i undef):=by
 have hr:=h.append k
 refine ⟨by rw [← hr.1];simp,fun i hi=>?_⟩
 have hi':i<(old++new).size:=by rw [hr.1];exact hi
 have:=hr.2 i hi
 rw [Array.getD_eq_getD_getElem?,Array.getElem?_append_left hi',← Array.getD_eq_getD_getElem?]
 exact this
end
end Go.Pv
end
section
set_option linter.unusedSimpArgs false
set_option linter.unusedVariables false
namespace Go.Pv
open Go Go.RowKit
section
variable {P:Program} {w:World} {w0:Bs} {μ:Mu} {ι:Io} {δ:Nat→Prop} {s s':St} {cmp:Nat→LCode→Code→Prop} {c:Ctx} {e:Env} {a:Act} {o:Oper} {v:LV}
theorem grown_size {old new z:Array Value} {l n k m nc:Nat} (h1:old.size=l*m) (h2:new.size=n*m) (h3:z.size=k*m) (hk:k=nc - (l+n)) (hle:l+n≤nc):nc*m≤(old++new++z).size:=by
 have:nc=l+n+k:=by omega
 subst this
 simp only [Array.size_append,h1,h2,h3]
 rw [Nat.add_mul,Nat.add_mul]
 exact Nat.le_refl _
theorem sref_new {μ:Mu} {ι:Io} {w:World} {k b len nc esz sz:Nat} (h:nc*esz≤sz) (hl:len≤nc):Rv (μ.upd k ⟨b,0,sz⟩) ι w (.sref k 0 len esz) (.slice (some ⟨b,0,none⟩) len nc) :=
 .sref (off:=0) (off':=0) (p:=⟨b,0,sz⟩) (by simp [Mu.upd]) (by simpa using h) hl (fun _=>rfl)
def AppRun (P:Program) (w:World) (t u ty:TypeId) (xv yv:Value) (r:Value) (w':World):Prop:=(Builtin.append_ #[t,u] ty #[xv,yv]).run P w = .ok r w'
theorem app_sound {t u el ty : TypeId} {d : TypeDesc} {i : TypeInfo} {z : List LV} (ht : P.underlying t = some (.slice el)) (hu : P.underlying u = some d) (hd : isSeq d = true) (hi : P.info? el = some i)
    (hs0:i.size≠0) (hb0:i.bytes≠0) (hz:zeroC P el=some z) (hzl:z.length=i.size)
    (I:Inv cmp w0 μ ι δ s w) {lx:LV} {xv yv:Value} (hx:Rv μ ι w lx xv) {n:Nat} (hl:Builtin.lenOf yv=Sem.pure n) {new:List LV} {arr:Array Value}
    (hnew:∀ w',Same w w'→(Builtin.firstCells i.size n yv).run P w' = .ok arr w') (hra:Ra μ ι w new arr) (hone:∀ i,i<arr.size→(arr.getD i undef).oneCell'=true) (hnl:new.length=n*i.size)
    (hr:appendLV i.size i.bytes lx new n s=some (v,s')) :
    ∃ r w' μ' ι',AppRun P w t u ty xv yv r w'∧Inv cmp w0 μ' ι' δ s' w'∧Ext μ ι δ w μ' ι' δ w'∧Rv μ' ι' w' v r∧Kept μ s μ' s':=by
  obtain ⟨i',zv,hi',hzv⟩:∃ i' zv,P.info? el=some i'∧i'.zero=some zv∧∃ x,constC zv=some x∧cells? x=some z:=by
    unfold zeroC at hz
    obtain ⟨i',h1,hz⟩:=bind_some hz
    obtain ⟨zv,h2,hz⟩:=bind_some hz
    obtain ⟨x,h3,hz⟩:=bind_some hz
    exact ⟨i',zv,h1,h2,x,h3,hz⟩
  obtain rfl:i=i':=Option.some.inj (hi.symm.trans hi')
  obtain ⟨hzv,zx,hzx,hzc⟩:=hzv
  obtain ⟨hz1,hz2,hz3⟩:=cells_rel (rv_constC (μ:=μ) (ι:=ι) (w:=w) hzx) hzc
  have hz4:=Ra.one (μ:=μ) (ι:=ι) (w:=w) ⟨hz1,hz2⟩ (by simpa using hz3)
  have harr:arr.size=n*i.size:=by rw [hra.1,hnl]
  have hdrew:Same w w.drew:=Same.drew w
  have Id:=I.same hdrew
  have xd:=I.ext_same hdrew
  have hrad:Ra μ ι w.drew new arr:=⟨hra.1,fun j hj=>(hra.2 j hj).ext xd⟩
  cases hx<;>simp only [appendLV,reduceCtorEq] at hr
  case nils=>
    split at hr
    · rename_i hn;cases hr;subst hn
      refine ⟨.slice none 0 0,w,μ,ι,?_,I,Ext.refl _ _ _ _, .nils,Kept.refl _ _⟩
      exact append_fits ht hu hd hi hl (Nat.le_refl _) (hnew w (Same.refl w)) (fun b h=>by cases h) (fun _=>rfl)
    · rename_i hn
      split at hr
      · rename_i hb;cases hr
        have hold:(Builtin.firstCells i.size 0 (.slice none 0 0)).run P w.drew = .ok #[] w.drew:=by simp [Builtin.firstCells]
        obtain ⟨nc,hnc,hrun⟩:=append_grows (ty:=ty) ht hu hd hi hl (by omega) hb0 (by unfold big at hb;rw [Nat.zero_add];exact hb.1) hzv hold (hnew _ hdrew)
        have hempty:Ra μ ι w.drew [] #[]:=⟨rfl,fun j hj=>absurd hj (Nat.not_lt_zero _)⟩
        obtain ⟨g1,g2⟩:=grow_row hempty hrad (Builtin.zeroCells zv.cells (nc - (0+n)))
        rw [List.nil_append] at g1 g2
        have hone':=one_append (one_append (us:=#[]) (fun j hj=>by simp at hj) hone) (zeroCells_one hz4 (nc - (0+n)))
        obtain ⟨I2,x2⟩:=Id.newCells el _ new g1 hone' g2
        refine ⟨_,_,_,ι,hrun,I2,xd.trans x2,?_,Kept.new _ _⟩
        rw [Nat.zero_add]
        exact sref_new (grown_size (l:=0) (n:=n) (k:=nc - (0+n)) (by simp) harr (by simp [zeroCells_size,hz1,hzl]) rfl hnc) (by omega)
      · cases hr
  case zs za=>
    split at hr
    · rename_i hn;cases hr;subst hn
      refine ⟨.slice (some za) 0 0,w,μ,ι,?_,I,Ext.refl _ _ _ _, .zs _,Kept.refl _ _⟩
      exact append_fits ht hu hd hi hl (Nat.le_refl _) (hnew w (Same.refl w)) (fun b h=>by
        cases h
        have:arr.toList=[]:=List.length_eq_zero_iff.1 (by simpa using harr)
        rw [this];simp [storeCells]) (fun h=>by cases h)
    · rename_i hn
      split at hr
      · rename_i hb;cases hr
        have hold:(Builtin.firstCells i.size 0 (.slice (some za) 0 0)).run P w.drew = .ok #[] w.drew:=by simp [Builtin.firstCells,loadCells,loadCellsFrom]
        obtain ⟨nc,hnc,hrun⟩:=append_grows (ty:=ty) ht hu hd hi hl (by omega) hb0 (by unfold big at hb;rw [Nat.zero_add];exact hb.1) hzv hold (hnew _ hdrew)
        have hempty:Ra μ ι w.drew [] #[]:=⟨rfl,fun j hj=>absurd hj (Nat.not_lt_zero _)⟩
        obtain ⟨g1,g2⟩:=grow_row hempty hrad (Builtin.zeroCells zv.cells (nc - (0+n)))
        rw [List.nil_append] at g1 g2
        have hone':=one_append (one_append (us:=#[]) (fun j hj=>by simp at hj) hone) (zeroCells_one hz4 (nc - (0+n)))
        obtain ⟨I2,x2⟩:=Id.newCells el _ new g1 hone' g2
        refine ⟨_,_,_,ι,hrun,I2,xd.trans x2,?_,Kept.new _ _⟩
        rw [Nat.zero_add]
        exact sref_new (grown_size (l:=0) (n:=n) (k:=nc - (0+n)) (by simp) harr (by simp [zeroCells_size,hz1,hzl]) rfl hnc) (by omega)
      · cases hr
  case sref id off len esz cap p off' hp hcap hlc had=>
    split at hr
    · rename_i hes
      subst hes
      have hold:∀ {s:St} {w:World} {ι:Io} (_:Inv cmp w0 μ ι δ s w) {m:Md} {cs:List LV},s.get id=some (.cells m cs)→off+len*i.size≤cs.length→∃ old,(∀ w',Same w w'→(Builtin.firstCells i.size len (.slice (some ⟨p.b,p.off+off',none⟩) len cap)).run P w' = .ok old w') ∧
          Ra μ ι w ((cs.drop off).take (len*i.size)) old∧(∀ i,i<old.size→(old.getD i undef).oneCell'=true)∧((cs.drop off).take (len*i.size)).length=len*i.size:=by
        intro s w ι I m cs hg hin
        refine rowOf_rel (P:=P) I (.sref hp hcap hlc had) (new:=(cs.drop off).take (len*i.size)) ?_
        simp only [rowOf,hg]
        rw [if_pos ⟨trivial,Nat.le_refl _,hin⟩]
      have hdom:=I.dom id p hp
      split at hr
      · -- written so far
        rename_i cs hg
        split at hr
        · rename_i hb
          cases hr
          obtain ⟨hin,hbig,_⟩:=hb
          have hblk:=I.blk id _ p hg hp
          obtain ⟨⟨sh,hsh⟩,k1,k2,k3,k4,k5,k6⟩:=hblk
          obtain ⟨old,ho1,ho2,ho3,ho4⟩:=hold I hg hin
          obtain ⟨J,hfree⟩:=I.toRo (cs':=[]) hg hp (.inl rfl)
          have hkp:∀ q,Kept μ s (μ.upd s.n q) ((s.put id (.cells .ro [])).new (.cells .mut ((cs.drop off).take (len*i.size)++new))):=by
            refine fun q=>⟨by simp,fun j hj hm=>?_,fun j hj hm=>Mu.upd_none (by omega) hm⟩
            rw [St.get_new,if_neg (by simp;omega),St.get_put,if_neg]
            rintro rfl
            rw [hp] at hm;cases hm
          by_cases hfit:len+n≤cap
          · -- in place
            have hcell:∀ j,j<arr.toList.length→∃ v,w.cell? ⟨p.b,(p.off+off'+len*i.size)+(0+j),none⟩=some v:=fun j hj=>by
              have hj':j<n*i.size:=by rw [← harr];simpa using hj
              have hc0 : cap ≠ 0 := by rintro rfl; have : n = 0 := by omega
                                       subst this;simp at hj'
              have h2:(len+n)*i.size≤cap*i.size:=Nat.mul_le_mul_right _ hfit
              rw [Nat.add_mul] at h2
              obtain ⟨v,hv,_⟩:=k2 (off+len*i.size+j) (by omega)
              exact ⟨v,by rw [← hv,had hc0];congr 2;omega⟩
            have hfro:∀ j,j<arr.toList.length→w.frozen? ⟨p.b,(p.off+off'+len*i.size)+(0+j),none⟩=false:=fun j hj=>by
              have hj':j<n*i.size:=by rw [← harr];simpa using hj
              have hc0 : cap ≠ 0 := by rintro rfl; have : n = 0 := by omega
                                       subst this;simp at hj'
              have h2:(len+n)*i.size≤cap*i.size:=Nat.mul_le_mul_right _ hfit
              rw [Nat.add_mul] at h2
              exact k3 _
            have hgd:∀ j,arr.toList.getD j undef=arr.getD j undef:=fun j=>by simp [List.getD_eq_getElem?_getD,Array.getD_eq_getD_getElem?]
            have hone':∀ y∈arr.toList,y.oneCell'=true:=fun y hy=>by
              obtain ⟨j,hj,rfl⟩:=List.getElem_of_mem hy
              have hj':j<arr.size:=by simpa using hj
              have:=hone j hj'
              simpa [Array.getD_eq_getD_getElem?,hj'] using this
            obtain ⟨w',hw',W⟩:=run_storeCells (P:=P) p.b (p.off+off'+len*i.size) arr.toList 0 w hone' hcell hfro
            rw [Nat.add_zero] at W
            have hnio:∀ j,j<arr.toList.length→¬ ι p.b ((p.off+off'+len*i.size)+j):=fun j hj=>by
              have hj':j<n*i.size:=by rw [← harr];simpa using hj
              have hc0 : cap ≠ 0 := by rintro rfl; have : n = 0 := by omega
                                       subst this;simp at hj'
              have h2:(len+n)*i.size≤cap*i.size:=Nat.mul_le_mul_right _ hfit
              rw [Nat.add_mul] at h2
              have:=k5 rfl (off+len*i.size+j) (by omega)
              rwa [show p.off+(off+len*i.size+j)=p.off+off'+len*i.size+j from by rw [had hc0];omega] at this
            obtain ⟨J2,x2⟩:=J.wroteFree W hdom.2.1 (fun j hj=>by rw [hgd];exact hone j (by simpa using hj)) hnio ⟨sh,hsh⟩ (fun j b q hj hb hq=>hfree j b q p hj hb (by simp) hq hp)
            have hrun:AppRun P w t u ty (.slice (some ⟨p.b,p.off+off',none⟩) len cap) yv (.slice (some ⟨p.b,p.off+off',none⟩) (len+n) cap) w' :=
              append_fits ht hu hd hi hl hfit (hnew w (Same.refl w)) (fun b hb=>by cases hb;rw [add_mk];exact hw') (fun h=>by cases h)
            by_cases hc0:cap=0
            · have hl0:len=0:=by omega
              have hn0:n=0:=by omega
              subst hc0;subst hl0;subst hn0
              have hnew0 : new = [] := by have : new.length = 0 := by rw [hnl]; simp
                                          exact List.length_eq_zero_iff.1 this
              subst hnew0
              obtain ⟨J3,x3⟩:=J2.addBlk ⟨p.b,p.off+off',0⟩ (.cells .mut ((cs.drop off).take (0*i.size)++[])) hdom.2.1 (by rw [W.size];exact hdom.2.2)
                ⟨⟨sh,by rw [W.shape];exact hsh⟩,by simp,fun j hj=>absurd hj (Nat.not_lt_zero _),fun j=>by rw [W.frozen];exact k3 j,fun h=>absurd rfl h,fun _ j hj=>absurd hj (Nat.not_lt_zero _),fun h=>by cases h⟩
                (fun _ j b q hj hb hq=>hfree j b q p hj hb (by simp) hq hp)
              exact ⟨_,w',_,ι,hrun,J3,x2.trans x3, .sref (off:=0) (off':=0) (p:=⟨p.b,p.off+off',0⟩) (by simp [Mu.upd]) (by simp) (by omega) (fun h=>absurd rfl h),hkp _⟩
            · have ho':=had hc0
              subst ho'
              have hcapE:(len+n)*i.size≤cap*i.size:=Nat.mul_le_mul_right _ hfit
              rw [Nat.add_mul] at hcapE
              have hlc':((cs.drop off').take (len*i.size)++new).length=len*i.size+n*i.size:=by rw [List.length_append,ho4,hnl]
              have hcells:∀ j,j<p.cap - off'→∃ v,w'.cell? ⟨p.b,p.off+off'+j,none⟩=some v∧v.oneCell'=true∧(j<((cs.drop off').take (len*i.size)++new).length→Rv μ ι w' (((cs.drop off').take (len*i.size)++new).getD j .top) v):=by
                intro j hj
                obtain ⟨v,hv,hov,hrv⟩:=k2 (off'+j) (by omega)
                by_cases h1:j<len*i.size
                · refine ⟨v,?_,hov,fun _=>?_⟩
                  · rw [W.miss _ (by simp only;omega)];rw [← hv];congr 2;omega
                  · rw [List.getD_eq_getElem?_getD,List.getElem?_append_left (by rw [ho4];exact h1),← List.getD_eq_getElem?_getD,getD_drop_take _ _ _ _ h1]
                    exact (hrv (by omega)).ext x2
                · by_cases h2:j<len*i.size+n*i.size
                  · have hh:=W.hit (j - len*i.size) (by rw [Array.length_toList,harr];omega)
                    rw [show p.off+off'+len*i.size+(j - len*i.size)=p.off+off'+j from by omega] at hh
                    refine ⟨_,hh,by rw [hgd];exact hone _ (by rw [harr];omega),fun _=>?_⟩
                    rw [List.getD_eq_getElem?_getD,List.getElem?_append_right (by rw [ho4];omega),← List.getD_eq_getElem?_getD,ho4,hgd]
                    exact (hra.2 _ (by rw [hnl];omega)).ext x2
                  · refine ⟨v,?_,hov,fun hc=>absurd hc (by rw [hlc'];exact h2)⟩
                    rw [W.miss _ (by simp only [Array.length_toList,harr];omega)];rw [← hv];congr 2;omega
              obtain ⟨J3,x3⟩:=J2.addBlk ⟨p.b,p.off+off',p.cap - off'⟩ (.cells .mut ((cs.drop off').take (len*i.size)++new)) hdom.2.1 (by rw [W.size];exact hdom.2.2)
                ⟨⟨sh,by rw [W.shape];exact hsh⟩,by rw [hlc'];simp only;omega,hcells,fun j=>by rw [W.frozen];exact k3 j,
                  fun h=>absurd rfl h,fun _ j hj=>by have:=k5 rfl (off'+j) (by simp only at hj;omega);rwa [← Nat.add_assoc] at this,fun h=>by cases h⟩
                (fun _ j b q hj hb hq=>hfree j b q p hj hb (by simp) hq hp)
              refine ⟨_,w',_,ι,hrun,J3,x2.trans x3,?_,hkp _⟩
              have:=Rv.sref (μ:=μ.upd s.n ⟨p.b,p.off+off',p.cap - off'⟩) (ι:=ι) (w:=w') (id:=s.n) (off:=0) (len:=len+n) (esz:=i.size) (cap:=cap) (off':=0) (p:=⟨p.b,p.off+off',p.cap - off'⟩) (by simp [Mu.upd]) (by simp only;omega) hfit (fun _=>rfl)
              exact this
          · -- it grows
            obtain ⟨oldd,hd1,hd2,hd3,hd4⟩:=hold Id hg hin
            obtain ⟨nc,hnc,hrun⟩:=append_grows (ty:=ty) ht hu hd hi hl (by omega) hb0 (by unfold big at hbig;exact hbig) hzv (hd1 _ (Same.refl _)) (hnew _ hdrew)
            obtain ⟨g1,g2⟩:=grow_row hd2 hrad (Builtin.zeroCells zv.cells (nc - (len+n)))
            have hone':=one_append (one_append hd3 hone) (zeroCells_one hz4 (nc - (len+n)))
            obtain ⟨I2,x2⟩:=(J.same hdrew).newCells el _ _ g1 hone' g2
            refine ⟨_,_,_,ι,hrun,I2,xd.trans x2,?_,hkp _⟩
            exact sref_new (grown_size (l:=len) (n:=n) (k:=nc - (len+n)) (by rw [hd2.1,hd4]) harr (by rw [zeroCells_size,hz1,hzl]) rfl hnc) hnc
        · cases hr
      · -- appended to so far
        rename_i cs hg
        split at hr
        · rename_i hb
          cases hr
          obtain ⟨hin0,hbig,_⟩:=hb
          have hin:off+len*i.size≤cs.length:=by omega
          have hblk:=I.blk id _ p hg hp
          obtain ⟨⟨sh,hsh⟩,k1,k2,k3,k4,k5,k6⟩:=hblk
          obtain ⟨old,ho1,ho2,ho3,ho4⟩:=hold I hg hin
          obtain ⟨J,hfree⟩:=I.toRo (cs':=cs) hg hp (.inr ⟨rfl,rfl⟩)
          have hkp:∀ q,Kept μ s (μ.upd s.n q) ((s.put id (.cells .ro cs)).new (.cells .app ((cs.drop off).take (len*i.size)++new))):=by
            refine fun q=>⟨by simp,fun j hj hm=>?_,fun j hj hm=>Mu.upd_none (by omega) hm⟩
            rw [St.get_new,if_neg (by simp;omega),St.get_put,if_neg]
            rintro rfl
            rw [hp] at hm;cases hm
          by_cases hfit:len+n≤cap
          · -- in place
            have hcell:∀ j,j<arr.toList.length→∃ v,w.cell? ⟨p.b,(p.off+off'+len*i.size)+(0+j),none⟩=some v:=fun j hj=>by
              have hj':j<n*i.size:=by rw [← harr];simpa using hj
              have hc0 : cap ≠ 0 := by rintro rfl; have : n = 0 := by omega
                                       subst this;simp at hj'
              have h2:(len+n)*i.size≤cap*i.size:=Nat.mul_le_mul_right _ hfit
              rw [Nat.add_mul] at h2
              obtain ⟨v,hv,_⟩:=k2 (off+len*i.size+j) (by omega)
              exact ⟨v,by rw [← hv,had hc0];congr 2;omega⟩
            have hfro:∀ j,j<arr.toList.length→w.frozen? ⟨p.b,(p.off+off'+len*i.size)+(0+j),none⟩=false:=fun j hj=>by
              have hj':j<n*i.size:=by rw [← harr];simpa using hj
              have hc0 : cap ≠ 0 := by rintro rfl; have : n = 0 := by omega
                                       subst this;simp at hj'
              have h2:(len+n)*i.size≤cap*i.size:=Nat.mul_le_mul_right _ hfit
              rw [Nat.add_mul] at h2
              exact k3 _
            have hgd:∀ j,arr.toList.getD j undef=arr.getD j undef:=fun j=>by simp [List.getD_eq_getElem?_getD,Array.getD_eq_getD_getElem?]
            have hone':∀ y∈arr.toList,y.oneCell'=true:=fun y hy=>by
              obtain ⟨j,hj,rfl⟩:=List.getElem_of_mem hy
              have hj':j<arr.size:=by simpa using hj
              have:=hone j hj'
              simpa [Array.getD_eq_getD_getElem?,hj'] using this
            obtain ⟨w',hw',W⟩:=run_storeCells (P:=P) p.b (p.off+off'+len*i.size) arr.toList 0 w hone' hcell hfro
            rw [Nat.add_zero] at W
            have hnio:∀ j,j<arr.toList.length→¬ ι p.b ((p.off+off'+len*i.size)+j):=fun j hj=>by
              have hj':j<n*i.size:=by rw [← harr];simpa using hj
              have hc0 : cap ≠ 0 := by rintro rfl; have : n = 0 := by omega
                                       subst this;simp at hj'
              have h2:(len+n)*i.size≤cap*i.size:=Nat.mul_le_mul_right _ hfit
              rw [Nat.add_mul] at h2
              have:=k6 rfl (off+len*i.size+j) (by omega) (by omega)
              rwa [show p.off+(off+len*i.size+j)=p.off+off'+len*i.size+j from by rw [had hc0];omega] at this
            obtain ⟨J2,x2⟩:=J.wroteFree W hdom.2.1 (fun j hj=>by rw [hgd];exact hone j (by simpa using hj)) hnio ⟨sh,hsh⟩ (fun j b q hj hb hq=>hfree j b q p hj hb (by simp) hq hp)
            have hrun:AppRun P w t u ty (.slice (some ⟨p.b,p.off+off',none⟩) len cap) yv (.slice (some ⟨p.b,p.off+off',none⟩) (len+n) cap) w' :=
              append_fits ht hu hd hi hl hfit (hnew w (Same.refl w)) (fun b hb=>by cases hb;rw [add_mk];exact hw') (fun h=>by cases h)
            by_cases hc0:cap=0
            · have hl0:len=0:=by omega
              have hn0:n=0:=by omega
              subst hc0;subst hl0;subst hn0
              have hnew0 : new = [] := by have : new.length = 0 := by rw [hnl]; simp
                                          exact List.length_eq_zero_iff.1 this
              subst hnew0
              obtain ⟨J3,x3⟩:=J2.addBlk ⟨p.b,p.off+off',0⟩ (.cells .app ((cs.drop off).take (0*i.size)++[])) hdom.2.1 (by rw [W.size];exact hdom.2.2)
                ⟨⟨sh,by rw [W.shape];exact hsh⟩,by simp,fun j hj=>absurd hj (Nat.not_lt_zero _),fun j=>by rw [W.frozen];exact k3 j,fun _ j hj=>by simp at hj,(fun h=>by cases h),fun _ j _ hj=>absurd hj (Nat.not_lt_zero _)⟩
                (fun _ j b q hj hb hq=>hfree j b q p hj hb (by simp) hq hp)
              exact ⟨_,w',_,ι,hrun,J3,x2.trans x3, .sref (off:=0) (off':=0) (p:=⟨p.b,p.off+off',0⟩) (by simp [Mu.upd]) (by simp) (by omega) (fun h=>absurd rfl h),hkp _⟩
            · have ho':=had hc0
              subst ho'
              have hcapE:(len+n)*i.size≤cap*i.size:=Nat.mul_le_mul_right _ hfit
              rw [Nat.add_mul] at hcapE
              have hlc':((cs.drop off').take (len*i.size)++new).length=len*i.size+n*i.size:=by rw [List.length_append,ho4,hnl]
              have hcells:∀ j,j<p.cap - off'→∃ v,w'.cell? ⟨p.b,p.off+off'+j,none⟩=some v∧v.oneCell'=true∧(j<((cs.drop off').take (len*i.size)++new).length→Rv μ ι w' (((cs.drop off').take (len*i.size)++new).getD j .top) v):=by
                intro j hj
                obtain ⟨v,hv,hov,hrv⟩:=k2 (off'+j) (by omega)
                by_cases h1:j<len*i.size
                · refine ⟨v,?_,hov,fun _=>?_⟩
                  · rw [W.miss _ (by simp only;omega)];rw [← hv];congr 2;omega
                  · rw [List.getD_eq_getElem?_getD,List.getElem?_append_left (by rw [ho4];exact h1),← List.getD_eq_getElem?_getD,getD_drop_take _ _ _ _ h1]
                    exact (hrv (by omega)).ext x2
                · by_cases h2:j<len*i.size+n*i.size
                  · have hh:=W.hit (j - len*i.size) (by rw [Array.length_toList,harr];omega)
                    rw [show p.off+off'+len*i.size+(j - len*i.size)=p.off+off'+j from by omega] at hh
                    refine ⟨_,hh,by rw [hgd];exact hone _ (by rw [harr];omega),fun _=>?_⟩
                    rw [List.getD_eq_getElem?_getD,List.getElem?_append_right (by rw [ho4];omega),← List.getD_eq_getElem?_getD,ho4,hgd]
                    exact (hra.2 _ (by rw [hnl];omega)).ext x2
                  · refine ⟨v,?_,hov,fun hc=>absurd hc (by rw [hlc'];exact h2)⟩
                    rw [W.miss _ (by simp only [Array.length_toList,harr];omega)];rw [← hv];congr 2;omega
              obtain ⟨J2',x2'⟩:=J2.addIo (fun b o=>b=p.b∧∃ j,j<n*i.size∧o=p.off+off'+len*i.size+j) (fun b o h=>by rw [h.1];exact hdom.2.1) (fun b o h=>by rw [h.1];exact ⟨⟨sh,by rw [W.shape];exact hsh⟩,fun o=>by rw [W.frozen];exact k3 o⟩) (by
                rintro b o ⟨rfl,j,hj,rfl⟩
                exact ⟨_,W.hit j (by rw [Array.length_toList,harr];exact hj)⟩) (by
                rintro j b q hj hb hq o ⟨he,_⟩
                exact hfree j b q p hj hb (by simp) hq hp he)
              obtain ⟨J3,x3⟩:=J2'.addBlk ⟨p.b,p.off+off',p.cap - off'⟩ (.cells .app ((cs.drop off').take (len*i.size)++new)) hdom.2.1 (by rw [W.size];exact hdom.2.2)
                ⟨⟨sh, by rw [W.shape]; exact hsh⟩, by rw [hlc']; simp only; omega, fun j hj => by
                    obtain ⟨v,h1,h2,h3⟩:=hcells j hj
                    exact ⟨v,h1,h2,fun h=>(h3 h).ext x2'⟩,
                  fun j=>by rw [W.frozen];exact k3 j,
                  fun _ j hj=>by
                    rw [hlc'] at hj
                    by_cases h1:j<len*i.size
                    · refine .inl ?_
                      have:=k4 (by simp) (off'+j) (by omega)
                      rwa [← Nat.add_assoc] at this
                    · exact .inr ⟨rfl,j - len*i.size,by omega,by simp only;omega⟩,
                  (fun h=>by cases h),
                  fun _ j hl hj hx=>by
                    rw [hlc'] at hl
                    rcases hx with hx | ⟨_,k,hk,hx⟩
                    · have:=k6 rfl (off'+j) (by omega) (by simp only at hj;omega)
                      rw [← Nat.add_assoc] at this
                      exact this hx
                    · simp only at hx;omega⟩
                (fun _ j b q hj hb hq=>hfree j b q p hj hb (by simp) hq hp)
              refine ⟨_,w',_,_,hrun,J3,(x2.trans x2').trans x3,?_,hkp _⟩
              have:=Rv.sref (μ:=μ.upd s.n ⟨p.b,p.off+off',p.cap - off'⟩) (ι:=fun b o=>ι b o∨(b=p.b∧∃ j,j<n*i.size∧o=p.off+off'+len*i.size+j)) (w:=w') (id:=s.n) (off:=0) (len:=len+n) (esz:=i.size) (cap:=cap) (off':=0) (p:=⟨p.b,p.off+off',p.cap - off'⟩) (by simp [Mu.upd]) (by simp only;omega) hfit (fun _=>rfl)
              exact this
          · -- it grows
            obtain ⟨oldd,hd1,hd2,hd3,hd4⟩:=hold Id hg hin
            obtain ⟨nc,hnc,hrun⟩:=append_grows (ty:=ty) ht hu hd hi hl (by omega) hb0 (by unfold big at hbig;exact hbig) hzv (hd1 _ (Same.refl _)) (hnew _ hdrew)
            obtain ⟨g1,g2⟩:=grow_row hd2 hrad (Builtin.zeroCells zv.cells (nc - (len+n)))
            have hone':=one_append (one_append hd3 hone) (zeroCells_one hz4 (nc - (len+n)))
            obtain ⟨I2,x2⟩:=(J.same hdrew).newCells el _ _ g1 hone' g2
            obtain ⟨ι3,I3,x3,_⟩:=I2.recell (id:=s.n) (m:=.mut) (m':=.app) (cs':=(cs.drop off).take (len*i.size)++new) (by rw [St.get_new];exact if_pos rfl) (p:=⟨w.drew.heap.size,0,_⟩) (by show Mu.upd μ s.n _ s.n=_;simp [Mu.upd];rfl) rfl (.inr ⟨rfl,rfl⟩) (by
              intro j x hj hx
              have hcell:=World.cell?_alloc_new w.drew (oldd++arr++Builtin.zeroCells zv.cells (nc - (len+n))) el j
              rw [Nat.zero_add] at hx
              have hx':(oldd++arr++Builtin.zeroCells zv.cells (nc - (len+n)))[j]? = some x:=hcell.symm.trans hx
              have:=(g2 j hj).ext x2
              rw [Array.getD_eq_getD_getElem?,hx',Option.getD_some] at this
              exact this)
            refine ⟨_,_,_,ι3,hrun,I3.congr rfl (fun j=>?_),(xd.trans x2).trans x3,?_,hkp _⟩
            · show ((s.put id (.cells .ro cs)).new (.cells .app ((cs.drop off).take (len*i.size)++new))).get j=_
              rw [St.get_put,St.get_new,St.get_new]
              by_cases e:j=s.n
              · rw [if_pos e];exact if_pos e
              · rw [if_neg e]
                have e':¬ j=(s.put id (.cells .ro cs)).n:=e
                rw [if_neg e',if_neg e']
            · exact sref_new (grown_size (l:=len) (n:=n) (k:=nc - (len+n)) (by rw [hd2.1,hd4]) harr (by rw [zeroCells_size,hz1,hzl]) rfl hnc) hnc
        · cases hr
      · cases hr
    · cases hr
end
end Go.Pv
end
