/- Drawn regions: what the static checks say; how a run depends on the environment and the small heap. -/
import Derived.Test.YthcllhhldknkmaaGreatDoorPvChain
set_option linter.unusedSimpArgs false
set_option linter.unusedVariables false
section
set_option linter.unusedSimpArgs false
set_option linter.unusedVariables false
namespace Go.Pv
open Go Go.RowKit
section congr
variable {e e':Env} {s:St}
theorem Opd.congr {x:Opd} (h:∀ t∈x.tmps,e.at t=e'.at t):x.ev e=x.ev e':=by
 cases x with
 | t i=>exact h i (by simp [Opd.tmps])
 | c v=>rfl
theorem opdO_congr {x:Option Opd} (h:∀ t∈optTmps x,e.at t=e'.at t):x.map (·.ev e)=x.map (·.ev e'):=by
 cases x with
 | none=>rfl
 | some x=>simp only [Option.map_some];rw [Opd.congr h]
theorem opds_congr {l:List Opd} (h:∀ t∈l.flatMap (·.tmps),e.at t=e'.at t):l.map (·.ev e)=l.map (·.ev e') :=
 List.map_congr_left fun x hx=>Opd.congr fun t ht=>h t (List.mem_flatMap.2 ⟨x,hx,ht⟩)
theorem parts_congr {l:List (Nat × Nat × Opd)} (h:∀ t∈l.flatMap (fun q=>q.2.2.tmps),e.at t=e'.at t):evParts e l=evParts e' l:=
 List.map_congr_left fun x hx=>by rw [Opd.congr fun t ht=>h t (List.mem_flatMap.2 ⟨x,hx,ht⟩)]
theorem run_congr (lo:LOp) (h:∀ t∈lo.tmps,e.at t=e'.at t):lo.run e s=lo.run e' s:=by
 cases lo<;>simp only [LOp.tmps,List.mem_append] at h<;>try (rfl;done)
 case box im x=>cases im<;>simp only [LOp.run,Opd.congr h]
 case pick a b c=>simp only [LOp.run,Opd.congr (x:=a) fun t ht=>h t (.inl (.inl ht)),Opd.congr (x:=b) fun t ht=>h t (.inl (.inr ht)),Opd.congr (x:=c) fun t ht=>h t (.inr ht)]
 case build z ps=>simp only [LOp.run,parts_congr h]
 case bslice a b z ps=>simp only [LOp.run,parts_congr h]
 case minmax m xs=>simp only [LOp.run,opds_congr h]
 case mkfn f a b=>simp only [LOp.run,opds_congr (l:=a) fun t ht=>h t (.inl ht),opds_congr (l:=b) fun t ht=>h t (.inr ht)]
 case slice z x a b=>simp only [LOp.run,Opd.congr (x:=x) fun t ht=>h t (.inl (.inl ht)),opdO_congr (x:=a) fun t ht=>h t (.inl (.inr ht)),opdO_congr (x:=b) fun t ht=>h t (.inr ht)]
 case sliceStr x a b=>simp only [LOp.run,Opd.congr (x:=x) fun t ht=>h t (.inl (.inl ht)),opdO_congr (x:=a) fun t ht=>h t (.inl (.inr ht)),opdO_congr (x:=b) fun t ht=>h t (.inr ht)]
 case sliceArr z k x a b=>simp only [LOp.run,Opd.congr (x:=x) fun t ht=>h t (.inl (.inl ht)),opdO_congr (x:=a) fun t ht=>h t (.inl (.inr ht)),opdO_congr (x:=b) fun t ht=>h t (.inr ht)]
 case sliceZ x a b d=>simp only [LOp.run,Opd.congr (x:=x) fun t ht=>h t (.inl (.inl (.inl ht))),Opd.congr (x:=a) fun t ht=>h t (.inl (.inl (.inr ht))),Opd.congr (x:=b) fun t ht=>h t (.inl (.inr ht)),Opd.congr (x:=d) fun t ht=>h t (.inr ht)]
 case mupd kd a b d=>simp only [LOp.run,Opd.congr (x:=a) fun t ht=>h t (.inl (.inl ht)),Opd.congr (x:=b) fun t ht=>h t (.inl (.inr ht)),Opd.congr (x:=d) fun t ht=>h t (.inr ht)]
 case mkmap x=>
  cases x with
  | none=>rfl
  | some x=>simp only [LOp.run,Opd.congr (x:=x) h]
 all_goals first
  | (simp only [LOp.run,Opd.congr h];done)
  | (rename_i a b;simp only [LOp.run,Opd.congr (x:=a) fun t ht=>h t (.inl ht),Opd.congr (x:=b) fun t ht=>h t (.inr ht)];done)
theorem wantedG_congr {g:Option (Nat × Bool)} (h:∀ d want,g=some (d,want)→e.at d=e'.at d):wantedG g e=wantedG g e':=by
 cases g with
 | none=>rfl
 | some p=>simp only [wantedG,h p.1 p.2 rfl]
end congr
section pure
variable {e:Env} {s s1 s':St} {v:LV}
theorem look_same {lo:LOp} (hl:looksL lo=true) (h:lo.run e s=some (v,s1)):s1=s:=by
 cases lo<;>(try (cases hl;done))<;>simp only [LOp.run] at h <;>
  repeat' (first | (cases h;rfl) | (cases h;done) | (obtain ⟨_,_,h⟩:=bind_some h) | (split at h))
theorem look_pure {lo:LOp} (hl:looksL lo=true) (hn:isLoadL lo=false) (h:lo.run e s=some (v,s)):lo.run e s'=some (v,s'):=by
 cases lo<;>(try (cases hl;done))<;>(try (cases hn;done))<;>simp only [LOp.run] at h ⊢
 all_goals repeat' (first | (cases h;rfl) | (cases h;done) | (rename_i hh;cases h;exact if_pos hh) | (rename_i hh _ _;cases h;exact if_pos hh) | (rename_i hh _ _ _;cases h;exact if_pos hh) | (obtain ⟨u,hu,h⟩:=bind_some h;simp only [hu,Option.bind_eq_bind,Option.bind_some]) | (split at h))
theorem box_pure {lo:LOp} (hl:isBoxIm lo=true) (hs:strictOk true lo e=true) (h:lo.run e s=some (v,s1)):s1=s∧∀ s',lo.run e s'=some (v,s'):=by
 cases lo<;>(try (cases hl;done))
 rename_i im x
 cases im
 ·cases hl
 ·simp only [strictOk,Bool.not_true,Bool.false_or] at hs
  have hf:∀ s:St,frz frzDepth (x.ev e) s=some (x.ev e,s):=fun s=>by unfold frzDepth;simp [frz,hs]
  simp only [LOp.run,hf] at h ⊢
  simp only [Option.bind_eq_bind,Option.bind_some] at h ⊢
  cases hc:cells? (x.ev e) with
  | none=>rw [hc] at h;cases h
  | some cs=>
   rw [hc] at h
   simp only [Option.bind_some] at h ⊢
   split at h
   ·cases h
   ·rename_i h0
    cases h
    exact ⟨rfl,fun s'=>by rw [if_neg h0]⟩
theorem row_shape {lo:LOp} (hl:isRow lo=true) (h:lo.run e s=some (v,s1)):∃ cs,s1=s.new (.cells .mut cs):=by
 cases lo<;>(try (cases hl;done))
 case box im x=>
  cases im
  ·simp only [LOp.run] at h
   obtain ⟨cs,_,h⟩:=bind_some h
   cases h;exact ⟨_,rfl⟩
  ·cases hl
 case alloc z=>cases h;exact ⟨_,rfl⟩
 case bslice=>
  simp only [LOp.run] at h
  obtain ⟨cs,_,h⟩:=bind_some h
  cases h;exact ⟨_,rfl⟩
 case mkslice=>
  simp only [LOp.run] at h
  split at h
  ·split at h
   ·cases h;exact ⟨_,rfl⟩
   ·cases h
  ·cases h
end pure
section anc
variable {ops:Array Oper}
theorem ancs_fold (acc:List Nat) (b:Nat):∀ (l:List Nat) (x:Nat),(l.foldl (fun s j=>s ||| 2 ^ j ||| acc.getD j 0) x).testBit b=true→x.testBit b=true∨∃ j∈l,j=b∨(acc.getD j 0).testBit b=true:=by
 intro l
 induction l with
 | nil=>intro x h;exact .inl h
 | cons j l ih=>
  intro x h
  rw [List.foldl_cons] at h
  rcases ih _ h with h | ⟨j',hj,h⟩
  ·simp only [Nat.testBit_or,Nat.testBit_two_pow,Bool.or_eq_true,decide_eq_true_eq] at h
   rcases h with (h | h) | h
   ·exact .inl h
   ·exact .inr ⟨j,by simp, .inl h⟩
   ·exact .inr ⟨j,by simp, .inr h⟩
  ·exact .inr ⟨j',List.mem_cons_of_mem _ hj,h⟩
theorem ancs_spec:∀ (os:List Oper) (acc:List Nat),(∀ i,i<acc.length→(ancs os acc).getD i 0=acc.getD i 0) ∧
  ∀ k o,os[k]? = some o→∀ b,((ancs os acc).getD (acc.length+k) 0).testBit b=true→∃ j∈depsOf o,j=b∨(j<acc.length+k∧((ancs os acc).getD j 0).testBit b=true):=by
 intro os
 induction os with
 | nil=>intro acc;exact ⟨fun i _=>rfl,fun k o h=>by simp at h⟩
 | cons o os ih=>
  intro acc
  simp only [ancs]
  obtain ⟨h1,h2⟩:=ih (acc++[(depsOf o).foldl (fun s j=>s ||| 2 ^ j ||| acc.getD j 0) 0])
  have hpre:∀ i,i<acc.length→(acc++[(depsOf o).foldl (fun s j=>s ||| 2 ^ j ||| acc.getD j 0) 0]).getD i 0=acc.getD i 0:=fun i hi=>by
   simp [List.getD_eq_getElem?_getD,List.getElem?_append_left hi]
  refine ⟨fun i hi=>by rw [h1 i (by simp;omega),hpre i hi],fun k o' ho b hb=>?_⟩
  cases k with
  | zero=>
   obtain rfl:o=o':=by simpa using ho
   rw [Nat.add_zero,h1 _ (by simp)] at hb
   have:(acc++[(depsOf o).foldl (fun s j=>s ||| 2 ^ j ||| acc.getD j 0) 0]).getD acc.length 0=(depsOf o).foldl (fun s j=>s ||| 2 ^ j ||| acc.getD j 0) 0:=by simp [List.getD_eq_getElem?_getD]
   rw [this] at hb
   rcases ancs_fold acc b _ _ hb with hb | ⟨j,hj,hb⟩
   ·simp at hb
   ·refine ⟨j,hj,?_⟩
    rcases hb with rfl | hb
    ·exact .inl rfl
    ·have hjl:j<acc.length:=by
      by_cases hlt:j<acc.length
      ·exact hlt
      ·rw [List.getD_eq_getElem?_getD,List.getElem?_eq_none (by omega)] at hb
       simp at hb
     exact .inr ⟨by omega,by rw [h1 j (by simp;omega),hpre j hjl];exact hb⟩
  | succ k=>
   have:=h2 k o' (by simpa using ho) b (by simpa [Nat.add_assoc,Nat.add_comm 1 k] using hb)
   obtain ⟨j,hj,hb'⟩:=this
   refine ⟨j,hj,hb'.imp id (fun h=>⟨by have:=h.1;simp at this;omega,h.2⟩)⟩
theorem anc_listed {L:Nat→Prop} (hL:∀ k,L k→∀ o,ops[k]? = some o→∀ d∈depsOf o,L d):∀ (i:Nat) (o:Oper),ops[i]? = some o→(∀ d∈depsOf o,L d)→∀ b,((ancs ops.toList []).getD i 0).testBit b=true→L b:=by
 intro i
 induction i using Nat.strongRecOn with
 | ind i ih=>
  intro o ho hd b hb
  obtain ⟨j,hj,h⟩:=(ancs_spec ops.toList []).2 i o (by simpa using ho) b (by simpa using hb)
  rcases h with rfl | ⟨hlt,h⟩
  ·exact hd _ hj
  ·have hlt':j<i:=by simpa using hlt
   have hoj:∃ oj,ops[j]? = some oj:=by
    have:i<ops.size:=(Array.getElem?_eq_some_iff.1 ho).1
    exact ⟨ops[j],by simp⟩
   obtain ⟨oj,hoj⟩:=hoj
   exact ih j hlt' oj hoj (hL j (hd j hj) oj hoj) b h
end anc
theorem drawChk_at {ops:Array Oper} {anc:List Nat} {base:List DOp} {late:DOp→Bool} : ∀ (l pre:List DOp),drawChk ops anc base late pre l=true→∀ p x r,l=p++x::r→drawChk1 ops anc base late (pre++p) x r=true:=by
 intro l
 induction l with
 | nil=>intro pre h p x r e;simp at e
 | cons y l ih=>
  intro pre h p x r e
  simp only [drawChk,Bool.and_eq_true] at h
  cases p with
  | nil=>
   simp only [List.nil_append,List.cons.injEq] at e
   obtain ⟨rfl,rfl⟩:=e
   simpa using h.1
  | cons z p=>
   simp only [List.cons_append,List.cons.injEq] at e
   obtain ⟨rfl,rfl⟩:=e
   have:=ih (pre++[y]) h.2 p x r rfl
   simpa using this
structure Known (c:Ctx) (ops:Array Oper) (base:List DOp) (late:DOp→Bool):Prop where
 at_:∀ x∈base,ops[x.1]? = some x.2.1∧compOper c ops x.2.1=some x.2.2
 len:base.length=ops.size
 nd:(base.map (·.1)).Nodup
 all:∀ i,i<ops.size→∃ x∈base,x.1=i
 deps:∀ p x r,base=p++x::r→∀ d∈depsOf x.2.1,∃ y∈p,y.1=d
 wait:∀ p x r,base=p++x::r→floats late x=false→∀ y∈r,floats late y=true→∃ d∈depsOf y.2.1,∀ z∈p,z.1≠d
 reads:∀ x∈base,∀ y∈base,∀ d,y.2.2.dst=some d→d∈readsOf ops x→(y.1≠x.1∧((ancs ops.toList []).getD x.1 0).testBit y.1=true)∨(late y=true∧(y.1=x.1∨((ancs ops.toList []).getD y.1 0).testBit x.1=true))
 dst:∀ x∈base,∀ y∈base,∀ d,x.2.2.dst=some d→y.2.2.dst=some d→x.1=y.1
 later:∀ p x r,base=p++x::r→∀ y∈p,∀ d,x.2.2.dst=some d→d∈readsOf ops y→late x=true∧((ancs ops.toList []).getD x.1 0).testBit y.1=true
 ldst:∀ x∈base,isLoadL x.2.2.op=true→∃ d,x.2.2.dst=some d
 makes:∀ x∈base,isRow x.2.2.op=true→Op.makes x.2.1.op=true
 lateL:∀ x,late x=true→looksL x.2.2.op=true
theorem compDraw_known {c:Ctx} {ops:Array Oper} {ls:List (List LOper)} (h:compDraw c ops=some ls) :
  ∃ (late:DOp→Bool) (nf:List Nat),nf.Nodup∧(∀ i∈nf,i<ops.size)∧(∃ base,Known c ops base late)∧∀ τ∈exts (ancs ops.toList []) nf.length nf,∃ base,Known c ops base late∧drawn (ancs ops.toList []) [] base∈ls∧(base.filter fun x=>!floats late x).map (·.1)=τ∧∀ x∈base,(x.1∈nf↔floats late x=false):=by
 unfold compDraw at h
 dsimp only at h
 split at h
 ·cases h
 ·rename_i all hb
  split at h
  ·rename_i hlo
   obtain ⟨hl,hg⟩:=mapM_get hb
   have hall:∀ (j:Nat) (x:DOp),all[j]? = some x→x.1=j∧ops[j]? = some x.2.1∧compOper c ops x.2.1=some x.2.2:=by
    intro j x hx
    have hj:=(List.getElem?_eq_some_iff.1 hx).1
    obtain ⟨y,hy,hf⟩:=hg j (by rw [← hl];exact hj)
    rw [hx] at hy
    cases hy
    have hr:(List.range ops.size)[j]=j:=by simp
    rw [hr] at hf
    obtain ⟨o,ho,hf⟩:=bind_some hf
    obtain ⟨lo,hlo,hf⟩:=bind_some hf
    cases hf
    exact ⟨rfl,ho,hlo⟩
   obtain ⟨hl2,hg2⟩:=mapM_get h
   have hkeys:all.map (·.1)=List.range ops.size:=by
    apply List.ext_getElem?
    intro j
    rw [List.getElem?_map]
    cases hx:all[j]? with
    | none=>
     have h1:=List.getElem?_eq_none_iff.1 hx
     rw [hl,List.length_range] at h1
     rw [List.getElem?_eq_none (by simpa using h1)]
     rfl
    | some x=>
     have h1:=(List.getElem?_eq_some_iff.1 hx).1
     rw [hl,List.length_range] at h1
     rw [List.getElem?_range h1,Option.map_some,(hall j x hx).1]
   have hall2:∀ τ∈exts (ancs ops.toList []) ((all.filter fun x=>!floats (isLate ops (ancs ops.toList []) all) x).map (·.1)).length ((all.filter fun x=>!floats (isLate ops (ancs ops.toList []) all) x).map (·.1)),∃ base,Known c ops base (isLate ops (ancs ops.toList []) all)∧drawn (ancs ops.toList []) [] base∈ls∧(base.filter fun x=>!floats (isLate ops (ancs ops.toList []) all) x).map (·.1)=τ∧∀ x∈base,(x.1∈(all.filter fun x=>!floats (isLate ops (ancs ops.toList []) all) x).map (·.1)↔floats (isLate ops (ancs ops.toList []) all) x=false):=by
    intro τ hτ
    obtain ⟨j,hj,he⟩:=List.getElem_of_mem hτ
    obtain ⟨l,hl3,hf⟩:=hg2 j hj
    rw [he] at hf
    unfold compOne at hf
    split at hf
    ·cases hf
    ·rename_i base hbm
     split at hf
     ·rename_i hc
      obtain ⟨h1,h2,h3,h5,h4⟩:=hc
      cases hf
      obtain ⟨hbl,hbg⟩:=mapM_get hbm
      have hat0:∀ x∈base,∃ j:Nat,all[j]? = some x:=by
       intro x hx
       obtain ⟨j,hj,rfl⟩:=List.getElem_of_mem hx
       obtain ⟨y,hy,hf⟩:=hbg j (by rw [← hbl];exact hj)
       have:base[j]=y:=by simpa [hj] using hy
       rw [this]
       exact ⟨_,hf⟩
      have hat:∀ x∈base,ops[x.1]? = some x.2.1∧compOper c ops x.2.1=some x.2.2:=by
       intro x hx
       obtain ⟨j,hj⟩:=hat0 x hx
       obtain ⟨k1,k2,k3⟩:=hall j x hj
       rw [k1]
       exact ⟨k2,k3⟩
      have hck:∀ p x r,base=p++x::r→drawChk1 ops (ancs ops.toList []) base (isLate ops (ancs ops.toList []) all) p x r=true:=fun p x r e=>by
       have:=drawChk_at base [] h4 p x r e
       simpa using this
      have hsplit:∀ x∈base,∃ p r,base=p++x::r:=fun x hx=>List.append_of_mem hx
      simp only [drawChk1,Bool.and_eq_true] at hck
      refine ⟨base,⟨hat,h1,h2,?_,?_,?_,?_,?_,?_,?_,?_,?_⟩,List.mem_of_getElem? hl3,h5,fun x hx=>?_⟩
      ·intro i hi
       have:=List.all_eq_true.1 h3 i (by simpa using hi)
       simp only [List.contains_eq_mem,List.mem_map,decide_eq_true_eq] at this
       exact this
      ·intro p x r e d hd
       obtain ⟨⟨⟨⟨⟨⟨a1,a2⟩,a3⟩,a4⟩,a5⟩,a6⟩,a7⟩:=hck p x r e
       have:=List.all_eq_true.1 a1 d hd
       simpa using this
      ·intro p x r e hfl y hy hfy
       obtain ⟨⟨⟨⟨⟨⟨a1,a2⟩,a3⟩,a4⟩,a5⟩,a6⟩,a7⟩:=hck p x r e
       rw [hfl,Bool.false_or] at a2
       have:=List.all_eq_true.1 a2 y hy
       rw [hfy] at this
       simp only [Bool.not_true,Bool.false_or,List.any_eq_true,Bool.not_eq_true',List.contains_eq_mem,List.mem_map,decide_eq_false_iff_not,not_exists,not_and] at this
       obtain ⟨d,hd,hz⟩:=this
       exact ⟨d,hd,fun z hz'=>hz z hz'⟩
      ·intro x hx y hy d hd hr
       obtain ⟨p,r,e⟩:=hsplit x hx
       obtain ⟨⟨⟨⟨⟨⟨a1,a2⟩,a3⟩,a4⟩,a5⟩,a6⟩,a7⟩:=hck p x r e
       have:=List.all_eq_true.1 a3 y hy
       rw [hd] at this
       simpa [hr] using this
      ·intro x hx y hy d hd hd'
       obtain ⟨p,r,e⟩:=hsplit x hx
       obtain ⟨⟨⟨⟨⟨⟨a1,a2⟩,a3⟩,a4⟩,a5⟩,a6⟩,a7⟩:=hck p x r e
       have:=List.all_eq_true.1 a4 y hy
       rw [hd'] at this
       simpa [hd] using this
      ·intro p x r e y hy d hd hr
       obtain ⟨⟨⟨⟨⟨⟨a1,a2⟩,a3⟩,a4⟩,a5⟩,a6⟩,a7⟩:=hck p x r e
       have:=List.all_eq_true.1 a5 y hy
       rw [hd] at this
       simpa [hr] using this
      ·intro x hx hl
       obtain ⟨p,r,e⟩:=hsplit x hx
       obtain ⟨⟨⟨⟨⟨⟨a1,a2⟩,a3⟩,a4⟩,a5⟩,a6⟩,a7⟩:=hck p x r e
       rw [hl] at a6
       simpa [Option.isSome_iff_exists] using a6
      ·intro x hx hl
       obtain ⟨p,r,e⟩:=hsplit x hx
       obtain ⟨⟨⟨⟨⟨⟨a1,a2⟩,a3⟩,a4⟩,a5⟩,a6⟩,a7⟩:=hck p x r e
       rw [hl] at a7
       simpa using a7
      ·intro x hx
       unfold isLate at hx
       rw [Bool.and_eq_true] at hx
       exact hx.1
      ·obtain ⟨j,hj⟩:=hat0 x hx
       have hxa:x∈all:=List.mem_of_getElem? hj
       constructor
       ·intro hm
        obtain ⟨y,hy,hyx⟩:=List.mem_map.1 hm
        obtain ⟨hy1,hy2⟩:=List.mem_filter.1 hy
        obtain ⟨j',hj'⟩:=List.mem_iff_getElem?.1 hy1
        have e1:=(hall j x hj).1
        have e2:=(hall j' y hj').1
        have:j=j':=by omega
        subst this
        rw [hj] at hj'
        cases hj'
        simpa using hy2
       ·intro hf
        exact List.mem_map.2 ⟨x,List.mem_filter.2 ⟨hxa,by simp [hf]⟩,rfl⟩
     ·cases hf
   refine ⟨isLate ops (ancs ops.toList []) all,(all.filter fun x=>!floats (isLate ops (ancs ops.toList []) all) x).map (·.1),?_,?_,?_,hall2⟩
   ·have hs:(List.map (·.1) (all.filter fun x=>!floats (isLate ops (ancs ops.toList []) all) x)).Sublist (all.map (·.1)):=List.filter_sublist.map _
    rw [hkeys] at hs
    exact hs.nodup List.nodup_range
   ·intro i hi
    obtain ⟨x,hx,rfl⟩:=List.mem_map.1 hi
    have hm:x.1∈all.map (·.1):=List.mem_map_of_mem (List.mem_filter.1 hx).1
    rw [hkeys] at hm
    simpa using hm
   ·cases hx:exts (ancs ops.toList []) ((all.filter fun x=>!floats (isLate ops (ancs ops.toList []) all) x).map (·.1)).length ((all.filter fun x=>!floats (isLate ops (ancs ops.toList []) all) x).map (·.1)) with
    | nil=>have:=hlo.2;rw [hx] at this;cases this
    | cons τ r=>
     obtain ⟨base,K,_⟩:=hall2 τ (by rw [hx];simp)
     exact ⟨base,K⟩
  ·cases h
end Go.Pv
end
section
set_option linter.unusedSimpArgs false
set_option linter.unusedVariables false
namespace Go.Pv
open Go Go.RowKit
def DstIs (e:Env) (lo:LOper) (v:LV):Prop:=∀ d,lo.dst=some d→e.at d=v
def POk (pid:Nat→Option Nat) (μ:Mu) (e:Env) (s:St) (x:DOp):Prop:=
 (wantedG x.2.2.guard e=some false∧DstIs e x.2.2 (.tup [])) ∨
 (wantedG x.2.2.guard e=some true∧isRow x.2.2.op=false∧(looksL x.2.2.op=true∨(isBoxIm x.2.2.op=true∧strictOk true x.2.2.op e=true))∧∃ v,DstIs e x.2.2 v∧x.2.2.op.run e s=some (v,s)) ∨
 (wantedG x.2.2.guard e=some true∧isRow x.2.2.op=true∧∃ s0 cs v,pid x.1=some s0.n∧x.2.2.op.run e s0=some (v,s0.new (.cells .mut cs))∧DstIs e x.2.2 v∧μ s0.n=none∧s.get s0.n=some (.cells .mut cs))
section
variable {P:Program} {G:Globs} {refs:List Nat} {nt:Nat} {ops:Array Oper} {base:List DOp} {late:DOp→Bool} {w0:Bs} {δ:Nat→Prop} {μs μ:Mu} {ιs ι:Io} {ss s:St} {ws w:World} {e:Env} {a:Act} {b:Frame} {k:List Item} {cs:List Frame}
theorem POk.congr {pid pid':Nat→Option Nat} {μ':Mu} {e':Env} {s':St} {x:DOp} (h:POk pid μ e s x) (hr:∀ t∈readsOf ops x,e'.at t=e.at t) (hd:∀ d,x.2.2.dst=some d→e'.at d=e.at d)
  (hp:∀ id,pid x.1=some id→pid' x.1=some id) (hs:∀ id,pid x.1=some id→μ id=none→s'.get id=s.get id) (hm:∀ id,pid x.1=some id→μ id=none→μ' id=none)
  (hld:isLoadL x.2.2.op=true→wantedG x.2.2.guard e'=some true→∀ v,DstIs e' x.2.2 v→x.2.2.op.run e s=some (v,s)→x.2.2.op.run e' s'=some (v,s')):POk pid' μ' e' s' x:=by
 have hw:wantedG x.2.2.guard e'=wantedG x.2.2.guard e:=wantedG_congr fun d want hg=>hr d (by simp [readsOf,hg])
 have hrun:∀ s,x.2.2.op.run e' s=x.2.2.op.run e s:=fun s=>run_congr _ fun t ht=>hr t (by simp [readsOf,ht])
 have hdi:∀ v,DstIs e x.2.2 v→DstIs e' x.2.2 v:=fun v h d hd'=>(hd d hd').trans (h d hd')
 rcases h with ⟨h1,h2⟩ | ⟨h1,h2,h3,v,h4,h5⟩ | ⟨h1,h2,s0,cs,v,h3,h4,h5,h6,h7⟩
 ·exact .inl ⟨hw.trans h1,hdi _ h2⟩
 ·refine .inr (.inl ⟨hw.trans h1,h2,?_,v,hdi _ h4,?_⟩)
  ·refine h3.imp id (fun h=>⟨h.1,?_⟩)
   have h32:=h.2
   cases hop:x.2.2.op<;>rw [hop] at h32<;>try rfl
   rename_i im y
   cases im
   ·rfl
   ·have:y.ev e'=y.ev e:=Opd.congr fun t ht=>hr t (by simp [readsOf,hop,LOp.tmps,ht])
    simpa [strictOk,this] using h32
  ·by_cases hl:isLoadL x.2.2.op=true
   ·exact hld hl (hw.trans h1) v (hdi _ h4) h5
   ·rw [hrun]
    rcases h3 with h3 | ⟨h3,h3'⟩
    ·exact look_pure h3 (by simpa using hl) h5
    ·exact (box_pure h3 h3' h5).2 s'
 ·exact .inr (.inr ⟨hw.trans h1,h2,s0,cs,v,hp _ h3,by rw [hrun];exact h4,hdi _ h5,hm _ h3 h6,by rw [hs _ h3 h6];exact h7⟩)
structure Sim (P:Program) (G:Globs) (nt:Nat) (ops:Array Oper) (base:List DOp) (late:DOp→Bool) (w0:Bs) (δ:Nat→Prop) (μs:Mu) (ιs:Io) (ss:St) (ws:World)
  (pend pre rest:List DOp) (listed:Array Bool) (pid:Nat→Option Nat) (μ:Mu) (ι:Io) (e:Env) (s:St) (w:World) (a:Act):Prop where
 now:Now P G w0 μ ι δ s w
 size:a.tmps.size=nt
 re:∀ t,(∀ x∈pend,x.2.2.dst≠some t)→Rv μ ι w (e.at t) (a.tmps.getD t undef)
 pok:∀ x∈pend,POk pid μ e s x
 pinj:∀ i j id,pid i=some id→pid j=some id→i=j
 plt:∀ i id,pid i=some id→id<s.n∧ss.n≤id
 flt:∀ x∈pend,floats late x=true
 lsz:listed.size=ops.size
 lst:∀ x∈base,(listed.getD x.1 false=true↔x ∉ pend∧x ∉ rest)
 cls:∀ k,listed.getD k false=true→∀ o,ops[k]? = some o→∀ d∈depsOf o,listed.getD d false=true
 base:base=pre++rest
 sub:∀ x∈pend,x∈pre
 nd:pend.Nodup
 ext:Ext μs ιs δ ws μ ι δ w
 kept:Kept μs ss μ s
theorem key_inj (K:Known ⟨P,G,refs,nt⟩ ops base late) {x y:DOp} (hx:x∈base) (hy:y∈base) (h:x.1=y.1):x=y:=by
 obtain ⟨h1,h2⟩:=K.at_ x hx
 obtain ⟨h3,h4⟩:=K.at_ y hy
 rw [h] at h1
 have ho:x.2.1=y.2.1:=Option.some.inj (h1.symm.trans h3)
 rw [ho] at h2
 have hl:x.2.2=y.2.2:=Option.some.inj (h2.symm.trans h4)
 exact Prod.ext h (Prod.ext ho hl)
theorem chks_mem:∀ {l:List (Nat × Option (Nat × Bool) × LOp)} {e:Env} {s:St},Chks l e s→∀ q∈l,wantedG q.2.1 e=some false∨(wantedG q.2.1 e=some true∧q.2.2.run e s=some (e.at q.1,s)):=by
 intro l
 induction l with
 | nil=>intro e s _ q hq;exact absurd hq (List.not_mem_nil)
 | cons p l ih=>
  intro e s h q hq
  obtain ⟨h1,h2⟩:=h
  rcases List.mem_cons.1 hq with rfl | hq
  ·exact h1
  ·exact ih h2 q hq
theorem chk_load {anc:List Nat} {pre:List DOp} {x y:DOp} {e':Env} {s':St} (hc:Chks (chkOf anc pre x) e' s') (hx:(looksL x.2.2.op || isBoxIm x.2.2.op)=false) (hy:y∈pre) (hl:isLoadL y.2.2.op=true)
  (hd:∃ d,y.2.2.dst=some d) (ha:isRow x.2.2.op=true∨(anc.getD x.1 0).testBit y.1=false) (hw:wantedG y.2.2.guard e'=some true) {v:LV} (hv:DstIs e' y.2.2 v):y.2.2.op.run e' s'=some (v,s'):=by
 obtain ⟨d,hd⟩:=hd
 have hm:(d,y.2.2.guard,y.2.2.op)∈chkOf anc pre x:=by
  unfold chkOf
  rw [hx]
  simp only [Bool.false_eq_true,if_false]
  refine List.mem_filterMap.2 ⟨y,hy,?_⟩
  have:(isLoadL y.2.2.op && (isRow x.2.2.op || !(anc.getD x.1 0).testBit y.1))=true:=by
   rw [hl,Bool.true_and]
   rcases ha with h | h<;>rw [h]<;>simp
  rw [if_pos this,hd]
  rfl
 rcases chks_mem hc _ hm with h | ⟨_,h⟩
 ·rw [hw] at h;cases h
 ·simp only at h
  rw [hv d hd] at h
  exact h
theorem Sim.greedy (K:Known ⟨P,G,refs,nt⟩ ops base late) {KK:Env→St→Prop} : ∀ (rest:List DOp) (pend pre:List DOp) (listed:Array Bool) (pid:Nat→Option Nat) (e:Env) (s:St),
  Sim P G nt ops base late w0 δ μs ιs ss ws pend pre rest listed pid μ ι e s w a→Chain P G (drawn (ancs ops.toList []) pre rest) e s KK →
  ∃ pend' pre' rest' pid' e' s',Sim P G nt ops base late w0 δ μs ιs ss ws pend' pre' rest' listed pid' μ ι e' s' w a∧Chain P G (drawn (ancs ops.toList []) pre' rest') e' s' KK ∧
   (rest'=[]∨∃ x r,rest'=x::r∧floats late x=false)∧pend'.length+rest'.length=pend.length+rest.length∧(rest'.filter fun x=>!floats late x)=(rest.filter fun x=>!floats late x):=by
 intro rest
 induction rest with
 | nil=>intro pend pre listed pid e s S h;exact ⟨pend,pre,[],pid,e,s,S,h, .inl rfl,rfl,rfl⟩
 | cons x rest ih=>
  intro pend pre listed pid e s S h
  cases hfl:floats late x with
  | false=>exact ⟨pend,pre,x::rest,pid,e,s,S,h, .inr ⟨x,rest,rfl,hfl⟩,rfl,rfl⟩
  | true=>
   have hf:isFloat x.2.2.op=true:=by
    unfold floats at hfl
    rw [Bool.and_eq_true] at hfl
    exact hfl.1
   have hnl:late x=false:=by
    unfold floats at hfl
    rw [Bool.and_eq_true] at hfl
    simpa using hfl.2
   have hxb:x∈base:=by rw [S.base];simp
   have hpreb:∀ y∈pre,y∈base:=fun y hy=>by rw [S.base];exact List.mem_append_left _ hy
   have hnd:(pre++x::rest).Nodup:=by
    have:=K.nd
    rw [S.base] at this
    exact List.Pairwise.of_map (·.1) (fun a b h e=>h (by rw [e])) this
   have hxpre:x ∉ pre:=fun h=>(List.nodup_append.1 hnd).2.2 x h x (by simp) rfl
   have hxrest:x ∉ rest:=(List.nodup_cons.1 (List.nodup_append.1 hnd).2.1).1
   have hlater:∀ y∈pre,∀ d,x.2.2.dst=some d→d ∉ readsOf ops y:=fun y hy d hd hr=>by
    have:=(K.later pre x rest S.base y hy d hd hr).1
    rw [hnl] at this
    cases this
   have hat0:∀ v t,x.2.2.dst≠some t→(e.put x.2.2.dst v).at t=e.at t:=fun v t ht=>by
    cases hd:x.2.2.dst with
    | none=>rfl
    | some d=>rw [hd] at ht;rw [Env.put_some,Env.at_set,if_neg (fun h=>ht (by rw [h]))]
   have hry:∀ v,∀ y∈pend,∀ t∈readsOf ops y,(e.put x.2.2.dst v).at t=e.at t:=fun v y hy t ht=>hat0 v t fun hd=>hlater y (S.sub y hy) t hd ht
   have go:∀ (v:LV) (s':St) (pid':Nat→Option Nat),(s'=s∧pid'=pid)∨(∃ bl,s'=s.new bl∧pid'=fun i=>if i=x.1 then some s.n else pid i) →
     (∀ y∈pend,isLoadL y.2.2.op=true→wantedG y.2.2.guard (e.put x.2.2.dst v)=some true→∀ v',DstIs (e.put x.2.2.dst v) y.2.2 v'→y.2.2.op.run e s=some (v',s)→y.2.2.op.run (e.put x.2.2.dst v) s'=some (v',s')) →
     POk pid' μ (e.put x.2.2.dst v) s' x →
     Sim P G nt ops base late w0 δ μs ιs ss ws (x::pend) (pre++[x]) rest listed pid' μ ι (e.put x.2.2.dst v) s' w a:=by
    intro v s' pid' hs hld hx
    have hat:∀ t,x.2.2.dst≠some t→(e.put x.2.2.dst v).at t=e.at t:=fun t ht=>by
     cases hd:x.2.2.dst with
     | none=>rfl
     | some d=>rw [hd] at ht;rw [Env.put_some,Env.at_set,if_neg (fun h=>ht (by rw [h]))]
    have hinv:Inv (cmpR P G) w0 μ ι δ s' w∧Kept μ s μ s':=by
     rcases hs with ⟨rfl,_⟩ | ⟨bl,rfl,_⟩
     ·exact ⟨S.now.inv,Kept.refl _ _⟩
     ·exact ⟨S.now.inv.phantom bl,by simp,fun id hid _=>by rw [St.get_new,if_neg (by omega)],fun _ _ h=>h⟩
    have hpid:∀ y∈pend,∀ id,pid y.1=some id→pid' y.1=some id∧s'.get id=s.get id:=by
     intro y hy id hid
     have hne:y.1≠x.1:=fun h=>hxpre ((key_inj K (hpreb y (S.sub y hy)) hxb h) ▸ S.sub y hy)
     rcases hs with ⟨rfl,rfl⟩ | ⟨bl,rfl,rfl⟩
     ·exact ⟨hid,rfl⟩
     ·exact ⟨by simp only [if_neg hne];exact hid,by rw [St.get_new,if_neg (by have:=(S.plt _ _ hid).1;omega)]⟩
    refine ⟨⟨hinv.1,S.now.glob,S.now.own⟩,S.size,fun t ht=>?_,fun y hy=>?_,?_,?_,?_,S.lsz,fun y hy=>?_,S.cls,by rw [S.base];simp,?_,?_,S.ext,S.kept.trans hinv.2⟩
    ·rw [hat t (ht x (by simp))]
     exact S.re t fun y hy=>ht y (List.mem_cons_of_mem _ hy)
    ·rcases List.mem_cons.1 hy with rfl | hy
     ·exact hx
     ·refine (S.pok y hy).congr (ops:=ops) (fun t ht=>hat t fun hd=>hlater y (S.sub y hy) t hd ht) (fun d hd=>hat d fun hd'=>?_) (fun id h=>(hpid y hy id h).1) (fun id h _=>(hpid y hy id h).2) (fun _ _ h=>h) (hld y hy)
      exact hxpre ((key_inj K (hpreb y (S.sub y hy)) hxb (K.dst y (hpreb y (S.sub y hy)) x hxb d hd hd')) ▸ S.sub y hy)
    ·rcases hs with ⟨_,rfl⟩ | ⟨bl,_,rfl⟩
     ·exact S.pinj
     ·intro i j id hi hj
      dsimp only at hi hj
      split at hi<;>split at hj
      ·omega
      ·cases hi;have:=(S.plt _ _ hj).1;omega
      ·cases hj;have:=(S.plt _ _ hi).1;omega
      ·exact S.pinj i j id hi hj
    ·rcases hs with ⟨rfl,rfl⟩ | ⟨bl,rfl,rfl⟩
     ·exact S.plt
     ·intro i id hi
      dsimp only at hi
      split at hi
      ·cases hi;exact ⟨by simp,S.kept.n⟩
      ·have:=S.plt i id hi;exact ⟨by simp;omega,this.2⟩
    ·intro y hy
     rcases List.mem_cons.1 hy with rfl | hy
     ·exact hfl
     ·exact S.flt y hy
    ·rw [S.lst y hy]
     simp only [List.mem_cons,not_or]
     constructor
     ·rintro ⟨h1,h2,h3⟩;exact ⟨⟨h2,h1⟩,h3⟩
     ·rintro ⟨⟨h2,h1⟩,h3⟩;exact ⟨h1,h2,h3⟩
    ·intro y hy
     rcases List.mem_cons.1 hy with rfl | hy
     ·simp
     ·exact List.mem_append_left _ (S.sub y hy)
    ·exact List.nodup_cons.2 ⟨fun h=>hxpre (S.sub x h),S.nd⟩
   have hself:∀ t∈readsOf ops x,x.2.2.dst≠some t:=fun t ht hd=>by
    rcases K.reads x hxb x hxb t hd ht with h | h
    ·exact h.1 rfl
    ·rw [hnl] at h
     cases h.1
   have hat:∀ v t,t∈readsOf ops x→(e.put x.2.2.dst v).at t=e.at t:=fun v t ht=>by
    cases hd:x.2.2.dst with
    | none=>rfl
    | some d=>rw [Env.put_some,Env.at_set,if_neg (fun h=>hself t ht (by rw [hd,h]))]
   have hw':∀ v,wantedG x.2.2.guard (e.put x.2.2.dst v)=wantedG x.2.2.guard e:=fun v=>wantedG_congr fun d want hg=>hat v d (by simp [readsOf,hg])
   have hrun':∀ v s,x.2.2.op.run (e.put x.2.2.dst v) s=x.2.2.op.run e s:=fun v s=>run_congr _ fun t ht=>hat v t (by simp [readsOf,ht])
   have hdi:∀ v,DstIs (e.put x.2.2.dst v) x.2.2 v:=fun v d hd=>by rw [hd];simp
   have hcl:isCallL x.2.2.op=false:=by
    cases hc:isCallL x.2.2.op with
    | false=>rfl
    | true=>
     exfalso
     rcases isCallL_inv hc with ⟨f,as,hh⟩ | ⟨f,hh⟩ | ⟨n,f,g,hh⟩<;>rw [hh] at hf<;>cases hf
   have done:∀ pid' v s',Sim P G nt ops base late w0 δ μs ιs ss ws (x::pend) (pre++[x]) rest listed pid' μ ι (e.put x.2.2.dst v) s' w a→Chain P G (drawn (ancs ops.toList []) (pre++[x]) rest) (e.put x.2.2.dst v) s' KK →
     ∃ pend' pre' rest' pid' e' s',Sim P G nt ops base late w0 δ μs ιs ss ws pend' pre' rest' listed pid' μ ι e' s' w a∧Chain P G (drawn (ancs ops.toList []) pre' rest') e' s' KK ∧
     (rest'=[]∨∃ x r,rest'=x::r∧floats late x=false)∧pend'.length+rest'.length=pend.length+(x::rest).length∧(rest'.filter fun x=>!floats late x)=((x::rest).filter fun x=>!floats late x):=by
    intro pid' v s' S' h'
    obtain ⟨pend',pre',rest',pid',e',s',r1,r2,r3,r4,r5⟩:=ih (x::pend) (pre++[x]) listed pid' _ s' S' h'
    exact ⟨pend',pre',rest',pid',e',s',r1,r2,r3,by rw [r4];simp;omega,by rw [r5,List.filter_cons_of_neg (by simp [hfl])]⟩
   simp only [drawn,Chain] at h
   split at h
   ·exact h.elim
   ·rename_i hw
    exact done pid (.tup []) s (go (.tup []) s pid (.inl ⟨rfl,rfl⟩) (fun y hy hl hwy v' hv hr=>by
     rw [← hr];exact run_congr _ fun t ht=>hry _ y hy t (by simp [readsOf,ht])) (.inl ⟨(hw' _).trans hw,hdi _⟩)) h
   ·rename_i hw
    obtain ⟨v,s',hrun,hst,hck,hch⟩:=opGo_inv h hcl
    have hrd:∀ y∈pend,∀ s,y.2.2.op.run (e.put x.2.2.dst v) s=y.2.2.op.run e s:=fun y hy s=>run_congr _ fun t ht=>hry v y hy t (by simp [readsOf,ht])
    cases hrow:isRow x.2.2.op with
    | true=>
     obtain ⟨cs,rfl⟩:=row_shape hrow hrun
     refine done _ v _ (go v _ _ (.inr ⟨_,rfl,rfl⟩) (fun y hy hl hwy v' hv hr=>?_) (.inr (.inr ⟨(hw' v).trans hw,hrow,s,cs,v,if_pos rfl,by rw [hrun'];exact hrun,hdi v,?_,by rw [St.get_new,if_pos rfl]⟩))) hch
     ·exact chk_load hck (by cases hop:x.2.2.op<;>rw [hop] at hrow<;>first | (cases hrow;done) | rfl | (rename_i im _;cases im<;>first | rfl | cases hrow)) (S.sub y hy) hl (K.ldst y (hpreb y (S.sub y hy)) hl) (.inl hrow) hwy hv
     ·exact S.now.inv.mu_n
    | false=>
     have hlb:looksL x.2.2.op=true∨isBoxIm x.2.2.op=true:=by
      unfold isFloat at hf
      rw [hrow,Bool.or_false,Bool.or_eq_true] at hf
      exact hf
     have hss:s'=s:=by
      rcases hlb with hl | hl
      ·exact look_same hl hrun
      ·exact (box_pure hl hst hrun).1
     subst hss
     refine done _ v _ (go v s' pid (.inl ⟨rfl,rfl⟩) (fun y hy hl hwy v' hv hr=>by rw [hrd y hy];exact hr) (.inr (.inl ⟨(hw' v).trans hw,hrow,?_,v,hdi v,by rw [hrun'];exact hrun⟩))) hch
     refine hlb.imp id fun hb=>⟨hb,?_⟩
     cases hop:x.2.2.op<;>try rfl
     rename_i im y
     cases im
     ·rfl
     ·have:y.ev (e.put x.2.2.dst v)=y.ev e:=Opd.congr fun t ht=>hat v t (by simp [readsOf,hop,LOp.tmps,ht])
      rw [hop] at hst
      simpa [strictOk,this] using hst
end
end Go.Pv
end
section
set_option linter.unusedSimpArgs false
set_option linter.unusedVariables false
namespace Go.Pv
open Go Go.RowKit
theorem put_getD_ne (a:Act) (d:Option Nat) (x:Value) (t:Nat) (h:d≠some t):(a.put d x).tmps.getD t undef=a.tmps.getD t undef:=by
 cases d with
 | none=>rfl
 | some d=>
  have hne:d≠t:=fun e=>h (by rw [e])
  simp [Act.put,Array.getD_eq_getD_getElem?,Array.getElem?_setIfInBounds,hne]
theorem put_getD_eq (a:Act) (d:Nat) (x:Value) (h:d<a.tmps.size):(a.put (some d) x).tmps.getD d undef=x:=by
 simp [Act.put,Array.getD_eq_getD_getElem?,h]
theorem env_put_ne (e:Env) (d:Option Nat) (v:LV) (t:Nat) (h:d≠some t):(e.put d v).at t=e.at t:=by
 cases d with
 | none=>rfl
 | some d=>rw [Env.put_some,Env.at_set,if_neg (fun e=>h (by rw [e]))]
theorem listed_set (l:Array Bool) (i j:Nat) (hi:i<l.size):(l.setIfInBounds i true).getD j false=if j=i then true else l.getD j false:=by
 by_cases h:j=i
 ·subst h;simp [Array.getD_eq_getD_getElem?,hi]
 ·have h':i≠j:=Ne.symm h
  simp [Array.getD_eq_getD_getElem?,Array.getElem?_setIfInBounds,h,h']
section
variable {P:Program} {G:Globs} {refs:List Nat} {nt:Nat} {ops:Array Oper} {base:List DOp} {late:DOp→Bool} {w0:Bs} {δ:Nat→Prop} {μs μ:Mu} {ιs ι:Io} {ss s:St} {ws w:World} {e:Env} {a:Act} {b:Frame} {k:List Item} {cs:List Frame}
theorem mem_reads {x:DOp} {t:Nat} (h:.tmp t∈x.2.1.op.operands.toList):t∈readsOf ops x:=by
 unfold readsOf Oper.looksAt
 refine List.mem_append_left _ (List.mem_append_left _ (List.mem_append_left _ ?_))
 exact List.mem_filterMap.2 ⟨.tmp t,h,rfl⟩
theorem ready_ne (K:Known ⟨P,G,refs,nt⟩ ops base late) {listed:Array Bool} (hsz:listed.size=ops.size) (hun:∃ y∈base,listed.getD y.1 false=false):Region.ready .any ops listed≠[]:=by
 obtain ⟨y,hyb,hyl⟩:=hun
 cases hfd:base.find? (fun x=>!listed.getD x.1 false) with
 | none=>
  have:=List.find?_eq_none.1 hfd y hyb
  simp [hyl] at this
 | some x=>
  obtain ⟨h1,as,bs,h2,h3⟩:=List.find?_eq_some_iff_append.1 hfd
  have hxb:x∈base:=by rw [h2];simp
  obtain ⟨hox,_⟩:=K.at_ x hxb
  have hlt:x.1<ops.size:=(Array.getElem?_eq_some_iff.1 hox).1
  intro hnil
  have:x.1∈Region.ready .any ops listed:=by
   unfold Region.ready
   refine List.mem_filter.2 ⟨by simpa using hlt,?_⟩
   have hl':listed.getD x.1 true=false:=by
    have hsz':x.1<listed.size:=by rw [hsz];exact hlt
    simp only [Array.getD_eq_getD_getElem?,Array.getElem?_eq_getElem hsz',Option.getD_some,Bool.not_eq_true',Bool.not_eq_eq_eq_not,Bool.not_true] at h1 ⊢
    exact h1
   rw [hl',hox]
   simp only [Bool.not_false,Bool.true_and,Option.map_some,Option.getD_some,Array.all_eq_true']
   intro ed hed
   cases hb:Region.binds .any ed with
   | false=>simp
   | true=>
    obtain ⟨z,hz,hze⟩:=K.deps as x bs h2 ed.on (List.mem_filterMap.2 ⟨ed,by simpa using hed,by simp [hb]⟩)
    have:=h3 z hz
    rw [hze] at this
    simpa using this
  rw [hnil] at this
  exact absurd this (List.not_mem_nil)
theorem go_succ (m t:Nat) (listed:Array Bool):Region.linearise.go .any ops (m+1) t listed []=(match (Region.ready .any ops listed)[t % (Region.ready .any ops listed).length]? with
      | some i=>Region.linearise.go .any ops m (t / (Region.ready .any ops listed).length) (listed.setIfInBounds i true) [i]
      | none=>[].reverse):=by
  rw [Region.linearise.go]
  rfl
theorem ready_inv {listed:Array Bool} (hsz:listed.size=ops.size) {i:Nat} (hir:i∈Region.ready .any ops listed):i<ops.size∧listed.getD i false=false∧∀ o,ops[i]? = some o→∀ d∈depsOf o,listed.getD d false=true:=by
 unfold Region.ready at hir
 obtain ⟨hi1,hi2⟩:=List.mem_filter.1 hir
 have hilt:i<ops.size:=by simpa using hi1
 have hils:i<listed.size:=by rw [hsz];exact hilt
 simp only [Bool.and_eq_true] at hi2
 obtain ⟨hi2,hi3⟩:=hi2
 refine ⟨hilt,?_,fun o ho d hd=>?_⟩
 ·simp only [Array.getD_eq_getD_getElem?,Array.getElem?_eq_getElem hils,Option.getD_some,Bool.not_eq_true'] at hi2 ⊢
  exact hi2
 ·obtain ⟨ed,hed,hde⟩:=List.mem_filterMap.1 hd
  rw [ho] at hi3
  simp only [Option.map_some,Option.getD_some,Array.all_eq_true'] at hi3
  have:=hi3 ed (by simpa using hed)
  cases hb:Region.binds .any ed with
  | false=>rw [hb] at hde;simp at hde
  | true=>rw [hb] at hde this;simp at hde this;rw [← hde];simpa using this
theorem filter_set {listed:Array Bool} {i:Nat} (hi:i<listed.size) {l:List Nat} (hd:l.Nodup):(l.filter fun j=>!(listed.setIfInBounds i true).getD j false)=(l.filter fun j=>!listed.getD j false).erase i:=by
 rw [List.Nodup.erase_eq_filter (List.Pairwise.filter _ hd),List.filter_filter]
 refine List.filter_congr fun j _=>?_
 rw [listed_set listed i j hi]
 by_cases h:j=i
 ·subst h;simp
 ·simp [h]
theorem cover (K:Known ⟨P,G,refs,nt⟩ ops base late) {nf:List Nat} (hnd:nf.Nodup) (hlt:∀ i∈nf,i<ops.size):∀ (m t:Nat) (listed:Array Bool),listed.size=ops.size→(∀ k,listed.getD k false=true→∀ o,ops[k]? = some o→∀ d∈depsOf o,listed.getD d false=true) →
  ((List.range ops.size).filter fun j=>!listed.getD j false).length=m →
  ((Region.linearise.go .any ops m t listed []).filter fun i=>nf.contains i)∈exts (ancs ops.toList []) (nf.filter fun j=>!listed.getD j false).length (nf.filter fun j=>!listed.getD j false):=by
 intro m
 induction m with
 | zero=>
  intro t listed hsz hcl hm
  have h0:(nf.filter fun j=>!listed.getD j false)=[]:=by
   rw [List.filter_eq_nil_iff]
   intro j hj hb
   have:j∈(List.range ops.size).filter fun j=>!listed.getD j false:=List.mem_filter.2 ⟨by simpa using hlt j hj,hb⟩
   rw [List.length_eq_zero_iff.1 hm] at this
   exact absurd this (List.not_mem_nil)
  rw [h0]
  simp [Region.linearise.go,exts]
 | succ m ih=>
  intro t listed hsz hcl hm
  have hun:∃ y∈base,listed.getD y.1 false=false:=by
   cases hf:(List.range ops.size).filter fun j=>!listed.getD j false with
   | nil=>rw [hf] at hm;simp at hm
   | cons j r=>
    have hj:j∈(List.range ops.size).filter fun j=>!listed.getD j false:=by rw [hf];simp
    obtain ⟨hj1,hj2⟩:=List.mem_filter.1 hj
    obtain ⟨x,hx,rfl⟩:=K.all j (by simpa using hj1)
    exact ⟨x,hx,by simpa using hj2⟩
  have hne:=ready_ne K hsz hun
  have hlen:0<(Region.ready .any ops listed).length:=List.length_pos_iff.2 hne
  rw [go_succ]
  cases hi:(Region.ready .any ops listed)[t % (Region.ready .any ops listed).length]? with
  | none=>
   have:=Nat.mod_lt t hlen
   rw [List.getElem?_eq_none_iff] at hi
   omega
  | some i=>
   dsimp only
   rw [linearise_go_acc,List.reverse_singleton,List.singleton_append]
   generalize t / (Region.ready .any ops listed).length=t'
   obtain ⟨hilt,hil,hdeps⟩:=ready_inv hsz (List.mem_of_getElem? hi)
   have hils:i<listed.size:=by rw [hsz];exact hilt
   have hcls':∀ k,(listed.setIfInBounds i true).getD k false=true→∀ o,ops[k]? = some o→∀ d∈depsOf o,(listed.setIfInBounds i true).getD d false=true:=by
    intro k hk o ho d hd
    rw [listed_set listed i _ hils] at hk ⊢
    split
    ·rfl
    ·split at hk
     ·rename_i hkx;subst hkx;exact hdeps o ho d hd
     ·exact hcl k hk o ho d hd
   have hm':((List.range ops.size).filter fun j=>!(listed.setIfInBounds i true).getD j false).length=m:=by
    rw [filter_set hils List.nodup_range,List.length_erase_of_mem (List.mem_filter.2 ⟨by simpa using hilt,by simp [hil]⟩),hm]
    rfl
   have hI:=ih t' (listed.setIfInBounds i true) (by simp [hsz]) hcls' hm'
   rw [filter_set hils hnd] at hI
   by_cases hin:i∈nf
   ·have him:i∈nf.filter fun j=>!listed.getD j false:=List.mem_filter.2 ⟨hin,by simp [hil]⟩
    rw [List.filter_cons_of_pos (by simpa using hin)]
    obtain ⟨n,hn⟩:∃ n,(nf.filter fun j=>!listed.getD j false).length=n+1:=⟨_,(Nat.succ_pred_eq_of_pos (List.length_pos_of_mem him)).symm⟩
    rw [List.length_erase_of_mem him,hn,Nat.add_sub_cancel] at hI
    rw [hn]
    simp only [exts,List.mem_flatMap]
    refine ⟨i,List.mem_filter.2 ⟨him,?_⟩,List.mem_map.2 ⟨_,hI,rfl⟩⟩
    rw [List.all_eq_true]
    intro j hj
    by_cases hji:j=i
    ·simp [hji]
    ·have hjl:listed.getD j false=false:=by simpa using (List.mem_filter.1 hj).2
     cases hb:((ancs ops.toList []).getD i 0).testBit j with
     | false=>simp
     | true=>
      obtain ⟨o,ho⟩:∃ o,ops[i]? = some o:=⟨ops[i],by simp [hilt]⟩
      have:=anc_listed (L:=fun j=>listed.getD j false=true) hcl i o ho (hdeps o ho) j hb
      rw [hjl] at this
      cases this
   ·rw [List.filter_cons_of_neg (by simpa using hin)]
    have hni:i ∉ nf.filter fun j=>!listed.getD j false:=fun h=>hin (List.mem_filter.1 h).1
    rw [List.erase_of_not_mem hni] at hI
    exact hI
theorem sim_run (K:Known ⟨P,G,refs,nt⟩ ops base late) {nfI:Nat→Bool} (hnf:∀ x∈base,nfI x.1 = !floats late x) {KK:Env→St→Prop} : ∀ (m t:Nat) (pend pre rest:List DOp) (listed:Array Bool) (pid:Nat→Option Nat) (μ:Mu) (ι:Io) (e:Env) (s:St) (w:World) (a:Act),
  Sim P G nt ops base late w0 δ μs ιs ss ws pend pre rest listed pid μ ι e s w a→m=pend.length+rest.length→((Region.linearise.go .any ops m t listed []).filter nfI)=(rest.filter fun x=>!floats late x).map (·.1)→Chain P G (drawn (ancs ops.toList []) pre rest) e s KK →
  (rest=[]∨∃ x r,rest=x::r∧floats late x=false) →
  ∃ e' s' μ' ι' w' a',KK e' s'∧Steps P (lone (b.atR a (.inRegion ops (Region.linearise.go .any ops m t listed [])::k)) cs w) (lone (b.atR a' (.inRegion ops []::k)) cs w') ∧
   Fr P G w0 μ' ι' δ s' w' nt e' a'∧Ext μs ιs δ ws μ' ι' δ w'∧Kept μs ss μ' s'∧a'.defers=a.defers:=by
 intro m
 induction m with
 | zero=>
  intro t pend pre rest listed pid μ ι e s w a S hm hσ hch hrest
  have hp:pend=[]:=List.length_eq_zero_iff.1 (by omega)
  have hr:rest=[]:=List.length_eq_zero_iff.1 (by omega)
  subst hp;subst hr
  exact ⟨e,s,μ,ι,w,a,hch,by simp only [Region.linearise.go,List.reverse_nil];exact .refl _ _,⟨S.now,fun t=>S.re t (fun x hx=>absurd hx (List.not_mem_nil)),S.size⟩,S.ext,S.kept,rfl⟩
 | succ m ih =>
  intro t pend pre rest listed pid μ ι e s w a S hm hσ hch hrest
  have hnd:base.Nodup:=List.Pairwise.of_map (·.1) (fun a b h e=>h (by rw [e])) K.nd
  have hsubb:∀ y∈pend,y∈base:=fun y hy=>by rw [S.base];exact List.mem_append_left _ (S.sub y hy)
  have hrestb:∀ y∈rest,y∈base:=fun y hy=>by rw [S.base];exact List.mem_append_right _ hy
  have hne:Region.ready .any ops listed≠[]:=by
   refine ready_ne K S.lsz ?_
   have:∃ y,y∈pend∨y∈rest:=by
    cases pend with
    | cons y p=>exact ⟨y, .inl (by simp)⟩
    | nil=>
     cases rest with
     | cons y r=>exact ⟨y, .inr (by simp)⟩
     | nil=>simp at hm
   obtain ⟨y,hy⟩:=this
   have hyb:y∈base:=hy.elim (hsubb y) (hrestb y)
   refine ⟨y,hyb,?_⟩
   cases hl:listed.getD y.1 false with
   | false=>rfl
   | true=>
    obtain ⟨h1,h2⟩:=(S.lst y hyb).1 hl
    exact absurd hy (fun h=>h.elim h1 h2)
  rw [go_succ] at hσ ⊢
  have hlen:0<(Region.ready .any ops listed).length:=List.length_pos_iff.2 hne
  cases hi:(Region.ready .any ops listed)[t % (Region.ready .any ops listed).length]? with
  | none=>
   have:=Nat.mod_lt t hlen
   rw [List.getElem?_eq_none_iff] at hi
   omega
  | some i=>
   rw [hi] at hσ
   dsimp only at hσ ⊢
   rw [linearise_go_acc,List.reverse_singleton,List.singleton_append] at hσ ⊢
   generalize t / (Region.ready .any ops listed).length=t' at hσ ⊢
   obtain ⟨hilt,hil,hdeps0⟩:=ready_inv S.lsz (List.mem_of_getElem? hi)
   have hils:i<listed.size:=by rw [S.lsz];exact hilt
   obtain ⟨x,hxb,rfl⟩:=K.all i hilt
   obtain ⟨hox,hcx⟩:=K.at_ x hxb
   obtain ⟨hcop,hdst,hdlt,hgd⟩:=compOper_inv hcx
   have hdeps:∀ d∈depsOf x.2.1,listed.getD d false=true:=hdeps0 x.2.1 hox
   have hanc:∀ j,((ancs ops.toList []).getD x.1 0).testBit j=true→listed.getD j false=true:=anc_listed (L:=fun j=>listed.getD j false=true) S.cls x.1 x.2.1 hox hdeps
   have hnp:∀ y∈pend,((ancs ops.toList []).getD x.1 0).testBit y.1=false:=fun y hy=>by
    cases hb:((ancs ops.toList []).getD x.1 0).testBit y.1 with
    | false=>rfl
    | true=>exact absurd hy ((S.lst y (hsubb y hy)).1 (hanc y.1 hb)).1
   have hnl:∀ y∈pend,late y=false:=fun y hy=>by
    have:=S.flt y hy
    unfold floats at this
    rw [Bool.and_eq_true] at this
    simpa using this.2
   have hre:∀ t∈readsOf ops x,Rv μ ι w (e.at t) (a.tmps.getD t undef):=fun t ht=>S.re t fun y hy hd=>by
    rcases K.reads x hxb y (hsubb y hy) t hd ht with h | h
    ·have:=h.2
     rw [hnp y hy] at this
     cases this
    ·have:=h.1
     rw [hnl y hy] at this
     cases this
   have hρ:Ho μ ι w ⟨P,G,refs,nt⟩ e a x.2.1:=Re.ho rfl rfl S.now fun t ht=>hre t (mem_reads ht)
   have hlisted:∀ j,(listed.setIfInBounds x.1 true).getD j false=if j=x.1 then true else listed.getD j false:=fun j=>listed_set listed x.1 j hils
   have hcls':∀ k,(listed.setIfInBounds x.1 true).getD k false=true→∀ o,ops[k]? = some o→∀ d∈depsOf o,(listed.setIfInBounds x.1 true).getD d false=true:=by
    intro k hk o ho d hd
    rw [hlisted] at hk ⊢
    split
    ·rfl
    ·split at hk
     ·rename_i hkx;subst hkx;rw [hox] at ho;cases ho;exact hdeps d hd
     ·exact S.cls k hk o ho d hd
   by_cases hxp:x∈pend
   · -- done here already
    rw [List.filter_cons_of_neg (by rw [hnf x hxb,S.flt x hxp];simp)] at hσ
    obtain ⟨p1,p2,rfl⟩:=List.append_of_mem hxp
    have hnd':=S.nd
    have hxn:x ∉ p1++p2:=by
     obtain ⟨h1,h2,h3⟩:=List.nodup_append.1 hnd'
     intro h
     rcases List.mem_append.1 h with h | h
     ·exact h3 x h x (by simp) rfl
     ·exact (List.nodup_cons.1 h2).1 h
    have hsub':∀ y∈p1++p2,y∈p1++x::p2:=fun y hy=>by
     rcases List.mem_append.1 hy with h | h
     ·exact List.mem_append_left _ h
     ·exact List.mem_append_right _ (List.mem_cons_of_mem _ h)
    have hxrest:x ∉ rest:=fun h=>by
     rw [S.base] at hnd
     exact (List.nodup_append.1 hnd).2.2 x (S.sub x hxp) x h rfl
    have mk : ∀ (μ' : Mu) (ι' : Io) (w' : World) (val : Value) (v : LV), Inv (cmpR P G) w0 μ' ι' δ s w' → Ext μ ι δ w μ' ι' δ w' → DstIs e x.2.2 v → Rv μ' ι' w' v val →
      (∀ y∈p1++p2,∀ id,pid y.1=some id→μ id=none→μ' id=none)→Kept μs ss μ' s →
      Sim P G nt ops base late w0 δ μs ιs ss ws (p1++p2) pre rest (listed.setIfInBounds x.1 true) pid μ' ι' e s w' (a.put x.2.1.dst val):=by
     intro μ' ι' w' val v hI hx hdi hrv hun hk
     refine ⟨S.now.ext hI hx,by rw [Act.put_size];exact S.size,fun t ht=>?_,fun y hy=>?_,S.pinj,S.plt,fun y hy=>S.flt y (hsub' y hy),by simp [S.lsz],fun y hy=>?_,hcls',S.base,fun y hy=>S.sub y (hsub' y hy),?_,S.ext.trans hx,hk⟩
     ·by_cases hd:x.2.1.dst=some t
      ·rw [hd,put_getD_eq _ _ _ (by rw [S.size];exact hdlt t hd),hdi t (by rw [hdst,hd])]
       exact hrv
      ·rw [put_getD_ne _ _ _ _ hd]
       refine (S.re t fun y hy=>?_).ext hx
       rcases List.mem_append.1 hy with h | h
       ·exact ht y (List.mem_append_left _ h)
       ·rcases List.mem_cons.1 h with rfl | h
        ·rw [hdst];exact hd
        ·exact ht y (List.mem_append_right _ h)
     ·exact (S.pok y (hsub' y hy)).congr (ops:=ops) (fun _ _=>rfl) (fun _ _=>rfl) (fun _ h=>h) (fun _ _ _=>rfl) (hun y hy) (fun _ _ v _ h=>h)
     ·rw [hlisted]
      by_cases hyx:y=x
      ·subst hyx;simp [hxn,hxrest]
      ·have:y.1≠x.1:=fun h=>hyx (key_inj K hy hxb h)
       rw [if_neg this,S.lst y hy]
       simp [hyx]
     ·obtain ⟨h1,h2,h3⟩:=List.nodup_append.1 hnd'
      exact List.nodup_append.2 ⟨h1,(List.nodup_cons.1 h2).2,fun y hy z hz=>h3 y hy z (List.mem_cons_of_mem _ hz)⟩
    have hm':m=(p1++p2).length+rest.length:=by simp at hm ⊢;omega
    have hgw:∀ {tt:Bool},wantedG x.2.2.guard e=some tt→Region.wanted x.2.1 (yielded ops a.tmps)=tt:=fun h=>wanted_rel hcx h fun d want hg=>hre d (by simp [readsOf,hg])
    have fin:∀ (μ':Mu) (ι':Io) (w':World) (val:Value) (v:LV),Inv (cmpR P G) w0 μ' ι' δ s w'→Ext μ ι δ w μ' ι' δ w'→DstIs e x.2.2 v→Rv μ' ι' w' v val →
      (∀ y∈p1++p2,∀ id,pid y.1=some id→μ id=none→μ' id=none)→Kept μs ss μ' s →
      step P (lone (b.atR a (.inRegion ops (x.1::Region.linearise.go .any ops m t' (listed.setIfInBounds x.1 true) [])::k)) cs w) = .next (lone (b.atR (a.put x.2.1.dst val) (.inRegion ops (Region.linearise.go .any ops m t' (listed.setIfInBounds x.1 true) [])::k)) cs w') →
      ∃ e' s' μ' ι' w' a',KK e' s'∧Steps P (lone (b.atR a (.inRegion ops (x.1::Region.linearise.go .any ops m t' (listed.setIfInBounds x.1 true) [])::k)) cs w) (lone (b.atR a' (.inRegion ops []::k)) cs w') ∧
       Fr P G w0 μ' ι' δ s' w' nt e' a'∧Ext μs ιs δ ws μ' ι' δ w'∧Kept μs ss μ' s'∧a'.defers=a.defers:=by
     intro μ' ι' w' val v hI hx hdi hrv hun hk hst
     obtain ⟨e',s',μ2,ι2,w2,a2,q,hs,r1,r2,r3,r4⟩:=ih t' (p1++p2) pre rest (listed.setIfInBounds x.1 true) pid μ' ι' e s w' _ (mk μ' ι' w' val v hI hx hdi hrv hun hk) hm' hσ hch hrest
     exact ⟨e',s',μ2,ι2,w2,a2,q, .head hst hs,r1,r2,r3,r4.trans (Act.put_defers' _ _ _)⟩
    rcases S.pok x hxp with ⟨hw,hdi⟩ | ⟨hw,hnr,hl,v,hdi,hrun⟩ | ⟨hw,hrow,s0,cs0,v,hpid,hrun,hdi,hmn,hsg⟩
    ·refine fin μ ι w undef (.tup []) S.now.inv (Ext.refl _ _ _ _) hdi rv_undef (fun _ _ _ _ h=>h) S.kept ?_
     have:=stepR_op_skip (P:=P) (b:=b) (a:=a) (k:=k) (cs:=cs) (w:=w) (ops:=ops) (i:=x.1) (rest:=Region.linearise.go .any ops m t' (listed.setIfInBounds x.1 true) []) (by rw [hox];simpa using hgw hw)
     rw [hox] at this
     exact this
    ·obtain ⟨val,w',μ',ι',hex,hI,hx,hrv,hk⟩:=op_sound hcop hρ S.now.inv hrun
     exact fin μ' ι' w' val v hI hx hdi hrv (fun y hy id hid hm=>hk.free id (S.plt _ _ hid).1 hm) (S.kept.trans hk) (stepR_value hox (hgw hw) (ne_defer hcop) hex)
    ·obtain ⟨cs',arr,T,val,hs',hrw,h1,h2,h3,h4⟩:=row_sound (K.makes x hxb hrow) hrow hcop hρ hrun
     have hcs:cs0=cs':=by
      have:=congrArg (fun s=>St.get s s0.n) hs'
      simpa using this
     subst hcs
     obtain ⟨I',x1,hrb,hlt,hnb⟩:=S.now.inv.rbNew T arr cs0 h1 h3 h2
     obtain ⟨I2,x2⟩:=I'.place s0.n (S.plt _ _ hpid).1 hmn ⟨w.heap.size,0,arr.size⟩ _ hsg S.now.inv.hB hlt hrb (fun _ j b' p' _ _ hm e=>hnb j p' hm e)
     refine fin _ ι _ val v I2 (x1.trans x2) hdi (h4 _ _ _ (by simp [Mu.upd])) (fun y hy id hid hm=>Mu.upd_none (fun he=>?_) hm) ⟨S.kept.n,S.kept.get,fun id hid hm=>Mu.upd_none (fun he=>?_) (S.kept.free id hid hm)⟩
      (stepR_value hox (hgw hw) (ne_defer hcop) (.inl hrw))
     ·subst he
      have:=S.pinj _ _ _ hid hpid
      exact hxn (key_inj K (hsubb y (hsub' y hy)) hxb this ▸ hy)
     ·have:=(S.plt _ _ hpid).2;omega
   · -- its turn
    have hxr:x∈rest:=by
     by_cases h:x∈rest
     ·exact h
     ·have:=(S.lst x hxb).2 ⟨hxp,h⟩
      rw [hil] at this
      cases this
    rcases hrest with rfl | ⟨y,r,rfl,hyf⟩
    ·exact absurd hxr (List.not_mem_nil)
    ·have hxf:floats late x=false:=by
      rcases List.mem_cons.1 hxr with h | h
      ·rw [h];exact hyf
      ·cases hfx:floats late x with
       | false=>rfl
       | true=>
        obtain ⟨d,hd,hz⟩:=K.wait pre y r S.base hyf x h hfx
        have hdl:=hdeps d hd
        have hdlt':d<ops.size:=by
         rw [← S.lsz]
         apply Classical.byContradiction
         intro hn
         simp [Array.getD_eq_getD_getElem?,hn] at hdl
        obtain ⟨z,hzb,hzd⟩:=K.all d hdlt'
        rw [← hzd] at hdl
        have h2:=((S.lst z hzb).1 hdl).2
        have h3:z∈pre:=by
         have:=hzb
         rw [S.base] at this
         exact (List.mem_append.1 this).resolve_right h2
        exact absurd hzd (hz z h3)
     rw [List.filter_cons_of_pos (by rw [hnf x hxb,hxf];rfl),List.filter_cons_of_pos (by rw [hyf];rfl),List.map_cons] at hσ
     have hxy:x=y:=key_inj K hxb (hrestb y (by simp)) (List.cons.inj hσ).1
     replace hσ:=(List.cons.inj hσ).2
     subst hxy
     have hbn:(pre++x::r).Nodup:=by rw [← S.base];exact hnd
     have hxpre:x ∉ pre:=fun h=>(List.nodup_append.1 hbn).2.2 x h x (by simp) rfl
     have hlater:∀ y∈pend,∀ d,x.2.2.dst=some d→d ∉ readsOf ops y:=fun y hy d hd hr=>by
      have:=(K.later pre x r S.base y (S.sub y hy) d hd hr).2
      rw [hnp y hy] at this
      cases this
     have hgw:∀ {tt:Bool},wantedG x.2.2.guard e=some tt→Region.wanted x.2.1 (yielded ops a.tmps)=tt:=fun h=>wanted_rel hcx h fun d want hg=>hre d (by simp [readsOf,hg])
     have hlb:((looksL x.2.2.op || isBoxIm x.2.2.op)=false∧isRow x.2.2.op=false)∨looksL x.2.2.op=true:=by
      unfold floats at hyf
      rw [Bool.and_eq_false_iff] at hyf
      rcases hyf with hyf | hyf
      ·unfold isFloat at hyf
       rw [Bool.or_eq_false_iff] at hyf
       exact .inl hyf
      ·exact .inr (K.lateL x (by simpa using hyf))
     have mk:∀ (μ':Mu) (ι':Io) (s':St) (w':World) (val:Value) (v:LV),Inv (cmpR P G) w0 μ' ι' δ s' w'→Ext μ ι δ w μ' ι' δ w'→Rv μ' ι' w' v val→Kept μ s μ' s'→(s'=s∨((looksL x.2.2.op || isBoxIm x.2.2.op)=false∧Chks (chkOf (ancs ops.toList []) pre x) (e.put x.2.2.dst v) s')) →
       Sim P G nt ops base late w0 δ μs ιs ss ws pend (pre++[x]) r (listed.setIfInBounds x.1 true) pid μ' ι' (e.put x.2.2.dst v) s' w' (a.put x.2.1.dst val):=by
      intro μ' ι' s' w' val v hI hx hrv hk hck
      have hpd:∀ y∈pend,∀ d,y.2.2.dst=some d→x.2.2.dst≠some d:=fun y hy d hd hd' =>
       hxpre ((key_inj K (hsubb y hy) hxb (K.dst y (hsubb y hy) x hxb d hd hd')) ▸ S.sub y hy)
      refine ⟨S.now.ext hI hx,by rw [Act.put_size];exact S.size,fun t ht=>?_,fun y hy=>?_,S.pinj,fun i id h=>?_,S.flt,by simp [S.lsz],fun y hy=>?_,hcls',by rw [S.base];simp,fun y hy=>List.mem_append_left _ (S.sub y hy),S.nd,S.ext.trans hx,S.kept.trans hk⟩
      ·rw [← hdst]
       by_cases hd:x.2.2.dst=some t
       ·rw [hd,put_getD_eq _ _ _ (by rw [S.size];exact hdlt t (by rw [← hdst];exact hd)),Env.put_some,Env.at_set,if_pos rfl]
        exact hrv
       ·rw [put_getD_ne _ _ _ _ hd,env_put_ne _ _ _ _ hd]
        exact (S.re t ht).ext hx
      ·refine (S.pok y hy).congr (ops:=ops) (fun t ht=>env_put_ne _ _ _ _ fun hd=>hlater y hy t hd ht) (fun d hd=>env_put_ne _ _ _ _ (hpd y hy d hd)) (fun _ h=>h) (fun id h hm=>hk.get id (S.plt _ _ h).1 hm) (fun id h hm=>hk.free id (S.plt _ _ h).1 hm) (fun hl hwy v' hv' hr=>?_)
       rcases hck with rfl | hck
       ·rw [← hr]
        exact run_congr _ fun t ht=>env_put_ne _ _ _ _ fun hd=>hlater y hy t hd (by simp [readsOf,ht])
       ·exact chk_load hck.2 hck.1 (S.sub y hy) hl (K.ldst y (hsubb y hy) hl) (.inr (hnp y hy)) hwy hv'
      ·have:=S.plt i id h;have:=hk.n;omega
      ·rw [hlisted]
       by_cases hyx:y=x
       ·subst hyx
        have:y ∉ r:=(List.nodup_cons.1 (List.nodup_append.1 hbn).2.1).1
        simp [hxp,this]
       ·have:y.1≠x.1:=fun h=>hyx (key_inj K hy hxb h)
        rw [if_neg this,S.lst y hy]
        simp [hyx]
     have fin:∀ (μ':Mu) (ι':Io) (s':St) (w':World) (val:Value) (v:LV),Inv (cmpR P G) w0 μ' ι' δ s' w'→Ext μ ι δ w μ' ι' δ w'→Rv μ' ι' w' v val→Kept μ s μ' s'→(s'=s∨((looksL x.2.2.op || isBoxIm x.2.2.op)=false∧Chks (chkOf (ancs ops.toList []) pre x) (e.put x.2.2.dst v) s')) →
       Chain P G (drawn (ancs ops.toList []) (pre++[x]) r) (e.put x.2.2.dst v) s' KK →
       Steps P (lone (b.atR a (.inRegion ops (x.1::Region.linearise.go .any ops m t' (listed.setIfInBounds x.1 true) [])::k)) cs w) (lone (b.atR (a.put x.2.1.dst val) (.inRegion ops (Region.linearise.go .any ops m t' (listed.setIfInBounds x.1 true) [])::k)) cs w') →
       ∃ e' s' μ' ι' w' a',KK e' s'∧Steps P (lone (b.atR a (.inRegion ops (x.1::Region.linearise.go .any ops m t' (listed.setIfInBounds x.1 true) [])::k)) cs w) (lone (b.atR a' (.inRegion ops []::k)) cs w') ∧
        Fr P G w0 μ' ι' δ s' w' nt e' a'∧Ext μs ιs δ ws μ' ι' δ w'∧Kept μs ss μ' s'∧a'.defers=a.defers:=by
      intro μ' ι' s' w' val v hI hx hrv hk hck hchn hst
      obtain ⟨pend',pre',rest',pid',e',s'',S',hch',hrest',hlen',hfl'⟩:=Sim.greedy K r pend (pre++[x]) (listed.setIfInBounds x.1 true) pid _ s' (mk μ' ι' s' w' val v hI hx hrv hk hck) hchn
      obtain ⟨e2,s2,μ2,ι2,w2,a2,q,hs,r1,r2,r3,r4⟩:=ih t' pend' pre' rest' (listed.setIfInBounds x.1 true) pid' μ' ι' e' s'' w' _ S' (by rw [hlen'];simp at hm;omega) (by rw [hfl'];exact hσ) hch' hrest'
      exact ⟨e2,s2,μ2,ι2,w2,a2,q,Steps.trans hst hs,r1,r2,r3,r4.trans (Act.put_defers' _ _ _)⟩
     simp only [drawn,Chain] at hch
     split at hch
     ·exact hch.elim
     ·rename_i hw
      refine fin μ ι s w undef (.tup []) S.now.inv (Ext.refl _ _ _ _) rv_undef (Kept.refl _ _) (.inl rfl) hch (.one ?_)
      have:=stepR_op_skip (P:=P) (b:=b) (a:=a) (k:=k) (cs:=cs) (w:=w) (ops:=ops) (i:=x.1) (rest:=Region.linearise.go .any ops m t' (listed.setIfInBounds x.1 true) []) (by rw [hox];simpa using hgw hw)
      rw [hox] at this
      exact this
     ·rename_i hw
      have hcx':compOper ⟨P,G,refs,nt⟩ ops x.2.1=some x.2.2:=hcx
      have hgo:OpGo P G true x.2.2.op e s (fun v s'=>Chks (chkOf (ancs ops.toList []) pre x) (e.put x.2.2.dst v) s'∧Chain P G (drawn (ancs ops.toList []) (pre++[x]) r) (e.put x.2.2.dst v) s' KK):=hch
      have hnb:isBoxIm x.2.2.op=false:=by
       rcases hlb with h | h
       ·exact (Bool.or_eq_false_iff.1 h.1).2
       ·cases hop:x.2.2.op<;>rw [hop] at h<;>first | rfl | cases h
      have hgo':OpGo P G x.2.2.fl x.2.2.op e s (fun v s'=>(looksL x.2.2.op=true→s'=s)∧Chks (chkOf (ancs ops.toList []) pre x) (e.put x.2.2.dst v) s'∧Chain P G (drawn (ancs ops.toList []) (pre++[x]) r) (e.put x.2.2.dst v) s' KK):=by
       cases hcl:isCallL x.2.2.op with
       | true=>
        rcases isCallL_inv hcl with ⟨f,as,hcc⟩ | ⟨f,hcc⟩ | ⟨n,f,g,hcc⟩
        ·rw [hcc] at hgo ⊢
         exact CallOk.mono hgo fun v s' h=>⟨(fun h=>by cases h),h⟩
        ·rw [hcc] at hgo ⊢
         simp only [OpGo] at hgo ⊢
         exact NextOk.mono hgo fun v s' h=>⟨(fun h'=>by cases h'),h⟩
        ·rw [hcc] at hgo ⊢
         simp only [OpGo] at hgo ⊢
         exact EqpOk.mono hgo fun v s' h=>⟨(fun h'=>by cases h'),h⟩
       | false=>
        rw [opGo_eq hcl] at hgo ⊢
        cases hr:x.2.2.op.run e s with
        | none=>rw [hr] at hgo;exact hgo.elim
        | some p=>
         rw [hr] at hgo
         refine ⟨?_,(fun hl=>look_same hl hr),hgo.2⟩
         cases hop:x.2.2.op<;>try rfl
         rename_i im y
         have:=hnb
         cases im
         ·rfl
         ·rw [hop] at this;cases this
      obtain ⟨v,s1,μ1,ι1,w1,val,⟨hls,hck,hchn⟩,hst,hI,hx,hk,hrv⟩:=op_step (b:=b) (k:=k) (cs:=cs) (rest:=Region.linearise.go .any ops m t' (listed.setIfInBounds x.1 true) []) rfl hox hcx' S.now hρ (hgw hw) hgo'
      exact fin μ1 ι1 s1 w1 val v hI hx hrv hk (hlb.elim (fun h=>.inr ⟨h.1,hck⟩) fun h=>.inl (hls h)) hchn hst
theorem comp_region {c:Ctx} {x:Code} {l:List LOper} (h:compCode c x = .region l):∃ id ops draw,x = .region id ops draw∧compRegion c ops draw=some [l]:=by
 cases x<;>simp only [compCode,reduceCtorEq] at h
 ·split at h
  ·rename_i hc;cases h;exact ⟨_,_,_,rfl,hc⟩
  ·cases h
  ·cases h
 ·split at h<;>cases h
 ·split at h<;>(try cases h);split at h<;>cases h
theorem comp_alts {c:Ctx} {x:Code} {ls:List (List LOper)} (h:compCode c x = .alts ls):∃ id ops draw,x = .region id ops draw∧compRegion c ops draw=some ls:=by
 cases x<;>simp only [compCode,reduceCtorEq] at h
 ·split at h
  ·cases h
  ·rename_i hc;cases h;exact ⟨_,_,_,rfl,hc⟩
  ·cases h
 ·split at h<;>cases h
 ·split at h<;>(try cases h);split at h<;>cases h
theorem ok_orders (hmx:P.follows .mixedOrders=true) {rd:Bool} {lc:LCode} {ls:List (List LOper)} {Q:Out→Env→St→Prop} (hlc:∀ {c:Ctx} {x:Code},compCode c x=lc→∃ id ops draw,x = .region id ops draw∧compRegion c ops draw=some ls) (h:∀ l∈ls,Chain P G l e s (Q .normal)):CodeOk P G rd nt lc e s Q:=by
 rintro c ⟨refs,hc⟩ w0 μ ι δ w b a k cs hb hf
 obtain ⟨id,ops,draw,rfl,hr⟩:=hlc hc
 cases draw with
 | false=>
  change (ops.toList.mapM (compOper ⟨P,G,refs,nt⟩ ops)).map (fun l=>[l])=some ls at hr
  obtain ⟨l,hr',rfl⟩:=Option.map_eq_some_iff.1 hr
  replace hr:=hr'
  replace h:=h l (by simp)
  obtain ⟨hl,hg⟩:=mapM_get hr
  obtain ⟨e',s',μ',ι',w',a',q,hs,hf',hx,hk,hd⟩:=chain_text (b:=b) (k:=k) (cs:=cs) (refs:=refs) ops l 0 e s μ ι w a (fun j hj=>by
   have hj':j<ops.toList.length:=by rw [← hl];exact hj
   obtain ⟨lo,h1,h2⟩:=hg j hj'
   refine ⟨ops.toList[j],lo,?_,h1,h2⟩
   have hj2:j<ops.size:=by simpa using hj'
   simp [hj2]) hf h
  refine ⟨.normal,e',s',μ',ι',δ,w',a',q,?_,hf',by rw [hd];exact Went.one hx hk⟩
  have hr:(List.range l.length).map (0 + ·)=List.range ops.size:=by
   have:l.length=ops.size:=by rw [hl];simp
   rw [this]
   simp
  rw [hr] at hs
  exact Steps.head stepR_region (Steps.trans hs (.one stepR_region_end))
 | true=>
  change compDraw ⟨P,G,refs,nt⟩ ops=some ls at hr
  obtain ⟨late,nf,hnd,hnlt,⟨base0,K0⟩,hall⟩:=compDraw_known hr
  have hL0:∀ j,(Array.replicate ops.size false).getD j false=false:=fun j=>by simp only [Array.getD_eq_getD_getElem?,Array.getElem?_replicate];split<;>rfl
  have hcov:=cover K0 hnd hnlt ops.size (w.tape w.drawn (.order b.fn id)) (Array.replicate ops.size false) (by simp) (fun k hk=>by rw [hL0] at hk;cases hk) (by
   have:(List.range ops.size).filter (fun j=>!(Array.replicate ops.size false).getD j false)=List.range ops.size:=List.filter_eq_self.2 fun j _=>by rw [hL0];rfl
   rw [this,List.length_range])
  have hfs:(nf.filter fun j=>!(Array.replicate ops.size false).getD j false)=nf:=List.filter_eq_self.2 fun j _=>by rw [hL0];rfl
  rw [hfs] at hcov
  obtain ⟨base,K,hmem,hτ,hin⟩:=hall _ hcov
  replace h:=h _ hmem
  have hsame:=Same.drew w
  have S0:Sim P G nt ops base late w0 δ μ ι s w [] [] base (Array.replicate ops.size false) (fun _=>none) μ ι e s { w with drawn:=w.drawn+1 } a:=by
   refine ⟨hf.now.ext (hf.now.inv.same hsame) (hf.now.inv.ext_same hsame),hf.size,fun t _=>(hf.re t).ext (hf.now.inv.ext_same hsame),fun x hx=>absurd hx (List.not_mem_nil),fun i j id h=>by (cases h),fun i id h=>by (cases h),fun x hx=>absurd hx (List.not_mem_nil),by simp,fun x hx=>?_,fun k hk=>?_,rfl,fun x hx=>absurd hx (List.not_mem_nil),List.nodup_nil,hf.now.inv.ext_same hsame,Kept.refl _ _⟩
   ·rw [hL0]
    simp [hx]
   ·rw [hL0] at hk
    cases hk
  obtain ⟨pend',pre',rest',pid',e1,s1,S1,hch1,hrest1,hlen1,hfl1⟩:=Sim.greedy K base [] [] _ _ e s S0 h
  obtain ⟨e',s',μ',ι',w',a',q,hs,hf',hx,hk,hd⟩:=sim_run (b:=b) (k:=k) (cs:=cs) K (nfI:=fun i=>nf.contains i) (fun x hx=>by
   have:=hin x hx
   cases hff:floats late x with
   | false=>rw [hff] at this;simpa using this
   | true=>rw [hff] at this;simpa using this) ops.size (w.tape w.drawn (.order b.fn id)) pend' pre' rest' _ pid' μ ι e1 s1 _ a S1 (by rw [hlen1,K.len];simp) (by rw [hfl1];exact hτ.symm) hch1 hrest1
  refine ⟨.normal,e',s',μ',ι',δ,w',a',q,?_,hf',by rw [hd];exact Went.one hx hk⟩
  refine Steps.head stepR_region_draw ?_
  have:Region.schedule (P.follows .mixedOrders) ops (w.tape w.drawn (.order b.fn id))=Region.linearise.go .any ops ops.size (w.tape w.drawn (.order b.fn id)) (Array.replicate ops.size false) []:=by
   simp only [Region.schedule,hmx,Bool.true_or,if_true,Region.linearise]
  rw [this]
  exact Steps.trans hs (.one stepR_region_end)
theorem ok_region (hmx:P.follows .mixedOrders=true) {rd:Bool} {l:List LOper} {Q:Out→Env→St→Prop} (h:Chain P G l e s (Q .normal)):CodeOk P G rd nt (.region l) e s Q:=
 ok_orders hmx comp_region fun l' hl'=>by rw [List.mem_singleton.1 hl'];exact h
theorem ok_alts (hmx:P.follows .mixedOrders=true) {rd:Bool} {ls:List (List LOper)} {Q:Out→Env→St→Prop} (h:∀ l∈ls,Chain P G l e s (Q .normal)):CodeOk P G rd nt (.alts ls) e s Q:=
 ok_orders hmx comp_alts h
end
end Go.Pv
end
