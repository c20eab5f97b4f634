/- Rows of cells of one size: elements that are read and written in place. -/
import Derived.Test.YtkbiecjdcjfhaaaPvKM
set_option linter.unusedSimpArgs false
set_option linter.unusedVariables false
namespace Go.Pv
open Go
def wcl {α:Type} (row:α→List LV) (l:List α):List LV:=l.flatMap row
section
variable {α:Type} {row:α→List LV} {m:Nat}
theorem wcl_append (a b:List α):wcl row (a++b)=wcl row a++wcl row b:=by simp [wcl]
theorem wcl_one (x:α):wcl row [x]=row x:=by simp [wcl]
theorem wcl_length (hr:∀ x,(row x).length=m) (l:List α):(wcl row l).length=l.length*m:=by
  induction l with
  | nil=>simp [wcl]
  | cons x l ih=>
    have:(wcl row (x::l))=row x++wcl row l:=by simp [wcl]
    rw [this,List.length_append,hr,ih,List.length_cons,Nat.add_mul,Nat.one_mul,Nat.add_comm]
theorem wcl_split (hr:∀ x,(row x).length=m) {l:List α} {i:Nat} {x:α} (h:l[i]? = some x) (rest:List LV):wcl row l++rest=wcl row (l.take i)++(row x++(wcl row (l.drop (i+1))++rest))∧(wcl row (l.take i)).length=i*m:=by
  obtain ⟨hi,h⟩:=List.getElem?_eq_some_iff.1 h
  have e:l=l.take i++x::l.drop (i+1):=by
    rw [← h,← List.drop_eq_getElem_cons hi,List.take_append_drop]
  have e2:wcl row l=wcl row (l.take i)++(row x++wcl row (l.drop (i+1))):=by
    conv=>lhs;rw [e]
    rw [wcl_append];simp [wcl]
  refine ⟨by rw [e2];simp,?_⟩
  rw [wcl_length hr,List.length_take,Nat.min_eq_left (by omega)]
theorem wcl_row (hr:∀ x,(row x).length=m) {l:List α} {i:Nat} {x:α} (h:l[i]? = some x) (rest:List LV):((wcl row l++rest).drop (i*m)).take m=row x:=by
  obtain ⟨e,hl⟩:=wcl_split hr h rest
  rw [e,← hl,List.drop_left,← hr x,List.take_left]
theorem wcl_ble (hr:∀ x,(row x).length=m) {l:List α} {i:Nat} {x:α} (h:l[i]? = some x) (rest:List LV):i*m+m≤(wcl row l++rest).length:=by
  obtain ⟨e,hl⟩:=wcl_split hr h rest
  rw [e,List.length_append,hl,List.length_append,hr]
  omega
theorem wcl_get (hr:∀ x,(row x).length=m) {l:List α} {i k:Nat} {x:α} (h:l[i]? = some x) (hk:k<m) (rest:List LV):(wcl row l++rest)[i*m+k]? = (row x)[k]? := by
  obtain ⟨e,hl⟩:=wcl_split hr h rest
  have h2:=hr x
  rw [e,← hl,List.getElem?_append_right (by omega),Nat.add_sub_cancel_left,List.getElem?_append_left (by omega)]
theorem wcl_set1 (hr:∀ x,(row x).length=m) {l:List α} {i k:Nat} {x y:α} {v:LV} (h:l[i]? = some x) (hk:k<m) (hy:row y=(row x).set k v) (rest:List LV):(wcl row l++rest).set (i*m+k) v=wcl row (l.set i y)++rest:=by
  obtain ⟨e,hl⟩:=wcl_split hr h rest
  obtain ⟨hi,hx⟩:=List.getElem?_eq_some_iff.1 h
  have h2:=hr x
  have e3:wcl row (l.set i y)++rest=wcl row (l.take i)++(row y++(wcl row (l.drop (i+1))++rest)):=by
    have:=(wcl_split (m:=m) hr (l:=l.set i y) (i:=i) (x:=y) (by simp [hi]) rest).1
    rw [this]
    congr 2
    · rw [List.take_set_of_le (Nat.le_refl i)]
    · rw [List.drop_set_of_lt (by omega)]
  rw [e3,e,← hl,List.set_append_right _ _ (by omega),Nat.add_sub_cancel_left,List.set_append_left _ _ (by omega),hy]
theorem loadN_rw (hr:∀ x,(row x).length=m) {l:List α} {i:Nat} {x:α} (h:l[i]? = some x) {rest:List LV} {s:St} {j:Nat} {md:Md} (hs:s.get j=some (.cells md (wcl row l++rest))):loadLV (some m) (.pref j (i*m)) s=some (.agg (row x)):=by
  have:=wcl_ble hr h rest
  simp only [loadLV,mkVal,hs]
  rw [if_pos this,wcl_row hr h rest]
theorem load_rw (hr:∀ x,(row x).length=m) {l:List α} {i k:Nat} {x:α} {v:LV} (h:l[i]? = some x) (hk:(row x)[k]? = some v) {rest:List LV} {s:St} {j:Nat} {md:Md} (hs:s.get j=some (.cells md (wcl row l++rest))):loadLV none (.pref j (i*m+k)) s=some v:=by
  have hkm:k<m:=by
    have:=(List.getElem?_eq_some_iff.1 hk).1
    rw [hr] at this
    exact this
  simp only [loadLV,hs,mkVal]
  rw [wcl_get hr h hkm,hk]
theorem loadN_rwi (hr:∀ x,(row x).length=m) {l:List α} {i:Nat} {x:α} (h:l[i]? = some x) {s:St} : loadLV (some m) (.pimm (wcl row l) (i*m)) s=some (.agg (row x)):=by
  have h1:=wcl_ble hr h []
  have h2:=wcl_row hr h []
  rw [List.append_nil] at h1 h2
  simp [loadLV,mkVal,h1,h2]
theorem q_storeRw {P:Program} {G:Globs} {K:Env→St→Prop} {lo:List LOper} {e:Env} {s:St} {fl:Bool} (hr:∀ x,(row x).length=m) {a x:Opd} {j i k o:Nat} {l:List α} {c c':α} {v:LV} {rest:List LV} (ha:a.ev e = .pref j o) (ho:o=i*m+k) (hx:x.ev e=v) (hv:cells? v=some [v]) (hs:s.get j=some (.cells .mut (wcl row l++rest))) (hc:l[i]? = some c) (hk:k<m) (hy:row c'=(row c).set k v)
    (h:∀ s',s'.n=s.n→s'.get j=some (.cells .mut (wcl row (l.set i c')++rest))→(∀ id,id≠j→s'.get id=s.get id)→W P G K lo e s'):W P G K (⟨none, .store 1 a x,none,[],fl⟩::lo) e s:=by
  subst ho
  have hb:=wcl_ble hr hc rest
  refine q_gen (v:=zeroVal) rfl (by
    simp only [LOp.run,ha,hx,hv,hs]
    rw [if_pos ⟨rfl,by omega⟩]) (by cases fl<;>rfl) trivial (h (s.put j (.cells .mut (splice (wcl row l++rest) (i*m+k) [v]))) rfl ?_ fun id hid=>by rw [St.get_put,if_neg hid])
  rw [St.get_put,if_pos rfl]
  simp only [splice]
  rw [wcl_set1 hr hc hk hy]
end
def vcells (n:Nat) (f:Nat→LV):List LV:=(List.range n).map f
@[simp] theorem vcells_length (n:Nat) (f:Nat→LV):(vcells n f).length=n:=by simp [vcells]
theorem vcells_get {n i:Nat} {f:Nat→LV} (h:i<n):(vcells n f)[i]? = some (f i):=by simp [vcells,h]
theorem vcells_set {n i:Nat} {x:LV} {f g:Nat→LV} (h:i<n) (hg:∀ j,g j=if j=i then x else f j):(vcells n f).set i x=vcells n g:=by
  apply List.ext_getElem?
  intro j
  by_cases hj:j<n
  · rw [vcells_get hj,hg]
    by_cases e:j=i
    · subst e;rw [List.getElem?_set_self (by simpa using hj),if_pos rfl]
    · rw [List.getElem?_set_ne (by omega),vcells_get hj,if_neg e]
  · rw [List.getElem?_eq_none (by simpa using hj),List.getElem?_eq_none (by simpa using hj)]
theorem vcells_congr {n:Nat} {f g:Nat→LV} (h:∀ j,j<n→f j=g j):vcells n f=vcells n g:=by
  apply List.ext_getElem?
  intro j
  by_cases hj:j<n
  · rw [vcells_get hj,vcells_get hj,h j hj]
  · rw [List.getElem?_eq_none (by simpa using hj),List.getElem?_eq_none (by simpa using hj)]
theorem rep_v (n:Nat) (z:LV):rep n [z]=vcells n fun _=>z:=by
  rw [rep_one]
  apply List.ext_getElem?
  intro j
  by_cases hj:j<n
  · rw [List.getElem?_replicate,vcells_get hj,if_pos hj]
  · rw [List.getElem?_eq_none (by simpa using hj),List.getElem?_eq_none (by simpa using hj)]
section
variable {P:Program} {G:Globs} {K:Env→St→Prop} {l:List LOper} {e:Env} {s:St} {d:Nat} {g:Option (Nat × Bool)} {fl:Bool}
theorem u_mkV {x y:Opd} {n k bytes:Nat} {z:LV} (hg:wantedG g e=some true) (hn:s.n=k) (hx:x.ev e = .int .i64 (n:Int)) (hy:y.ev e = .int .i64 (n:Int)) (hb:n≤1048576) (hby:bytes≤1024) (hk:W P G K l (Tr.set e d (.sref k 0 n 1)) (s.new (.cells .mut (vcells n fun _=>z)))):W P G K (⟨some d, .mkslice 1 bytes [z] x y,g,[],fl⟩::l) e s:=by
  subst hn
  refine q_op hg rfl ?_ hk
  have h1:(n:Int)*(bytes:Nat)≤big:=by
    have:n*bytes≤1048576*1024:=Nat.mul_le_mul hb hby
    unfold big
    exact_mod_cast (by omega:n*bytes≤4294967296)
  have h2:(n:Int)≤big:=by unfold big;omega
  simp only [LOp.run,hx,hy]
  rw [if_pos ⟨by omega,Int.le_refl _,h1,h2,rfl⟩,Int.toNat_natCast,rep_v]
theorem q_storeV {a x:Opd} {i q n:Nat} {v:LV} {f f':Nat→LV} (ha:a.ev e = .pref i q) (hx:x.ev e=v) (hc:cells? v=some [v]) (hs:s.get i=some (.cells .mut (vcells n f))) (hq:q<n) (hf:∀ j,f' j=if j=q then v else f j)
    (h:∀ s',s'.n=s.n→s'.get i=some (.cells .mut (vcells n f'))→(∀ j,j≠i→s'.get j=s.get j)→W P G K l e s'):W P G K (⟨none, .store 1 a x,none,[],fl⟩::l) e s:=
  q_gen (v:=zeroVal) rfl (by
    have:q+1≤(vcells n f).length:=by simp;omega
    simp only [LOp.run,ha,hx,hc,hs]
    rw [if_pos ⟨rfl,this⟩]) (by cases fl<;>rfl) trivial (h (s.put i (.cells .mut (splice (vcells n f) q [v]))) rfl (by rw [St.get_put,if_pos rfl];simp only [splice];rw [vcells_set hq hf]) fun j hj=>by rw [St.get_put,if_neg hj])
end
def MapS (s:St) (M:Nat) (K:List Int):Prop:=∃ E:List (Int × LV),s.get M=some (.map (mG embI E))∧(E.map (·.1)).Nodup∧(∀ p∈E,p.2 = .bool true)∧∀ k,k∈E.map (·.1)↔k∈K
theorem MapS.keep {s s':St} {M:Nat} {K:List Int} (h:MapS s M K) (hs:s'.get M=s.get M):MapS s' M K:=by
  obtain ⟨E,h1,h2⟩:=h
  exact ⟨E,hs.trans h1,h2⟩
theorem MapS.nil {s:St} {M:Nat} (h:s.get M=some (.map [])):MapS s M []:=⟨[],h,by simp,fun p hp=>by simp at hp,fun k=>by simp⟩
theorem look_setE {E:List (Int × LV)} {K:List Int} (h1:∀ p∈E,p.2 = .bool true) (h2:∀ k,k∈E.map (·.1)↔k∈K) (k:Int):(lookG E k).getD (.bool false) = .bool (decide (k∈K)):=by
  cases h:lookG E k with
  | none=>
    have:k ∉ K:=fun hk=>by
      have:=look_mem.2 ((h2 k).2 hk)
      rw [h] at this
      cases this
    simp [this]
  | some v=>
    have hm:=look_in h
    have hk:k∈K:=(h2 k).1 (List.mem_map.2 ⟨_,hm,rfl⟩)
    have:=h1 _ hm
    simp only at this
    subst this
    simp [hk]
theorem MapS.up {s:St} {M:Nat} {K:List Int} {E:List (Int × LV)} (h2:(E.map (·.1)).Nodup) (h3:∀ p∈E,p.2 = .bool true) (h4:∀ k,k∈E.map (·.1)↔k∈K) (k:Int) (h:s.get M=some (.map (mG embI (upG E k (.bool true))))):MapS s M (K++[k]):=by
  refine ⟨_,h,nodup_up E k _ h2,fun p hp=>?_,fun j=>?_⟩
  · rcases up_mem hp with e | e
    · rw [e]
    · exact h3 p e
  · rw [keys_up,h4]
    simp [or_comm]
section
variable {P:Program} {G:Globs} {K:Env→St→Prop} {l:List LOper} {e:Env} {s:St} {fl:Bool}
theorem q_setLook {d M:Nat} {k:Int} {m kx:Opd} {L:List Int} {g:Option (Nat × Bool)} (hS:MapS s M L) (hg:wantedG g e=some true) (hm:m.ev e = .mref M) (hkx:kx.ev e = .int .i64 k)
    (h:∀ b,decide (k∈L)=b→W P G K l (Tr.set e d (.bool b)) s):W P G K (⟨some d, .mlook (.int .i64) (.bool false) false m kx,g,[],fl⟩::l) e s:=by
  obtain ⟨E,h1,h2,h3,h4⟩:=hS
  refine q_lookG1 keyI (M:=M) (k:=k) (L:=E) hg hm hkx h1 ?_
  rw [look_setE h3 h4]
  exact h _ rfl
theorem q_setUp {M:Nat} {k:Int} {m kx v:Opd} {L:List Int} (hS:MapS s M L) (hm:m.ev e = .mref M) (hkx:kx.ev e = .int .i64 k) (hv:v.ev e = .bool true)
    (h:∀ s',s'.n=s.n→MapS s' M (L++[k])→(∀ id,id≠M→s'.get id=s.get id)→W P G K l e s'):W P G K (⟨none, .mupd (.int .i64) m kx v,none,[],fl⟩::l) e s:=by
  obtain ⟨E,h1,h2,h3,h4⟩:=hS
  exact q_updG keyI (M:=M) (k:=k) (L:=E) hm hkx hv h1 (h _ rfl (MapS.up h2 h3 h4 k (by rw [St.get_put,if_pos rfl])) fun id hid=>by rw [St.get_put,if_neg hid])
end
theorem q_setLen {P:Program} {G:Globs} {K:Env→St→Prop} {l:List LOper} {e:Env} {s:St} {fl:Bool} {d M:Nat} {x:Opd} {L:List Int} {g:Option (Nat × Bool)} (hS:MapS s M L) (hL:L.Nodup) (hg:wantedG g e=some true) (hx:x.ev e = .mref M) (h:W P G K l (Tr.set e d (.int .i64 (L.length:Int))) s):W P G K (⟨some d, .lenMap x,g,[],fl⟩::l) e s:=by
  obtain ⟨E,h1,h2,h3,h4⟩:=hS
  refine q_lenM (M:=M) hg hx h1 ?_
  have hp:(E.map (·.1)).Perm L:=(List.perm_ext_iff_of_nodup h2 hL).2 h4
  have:=hp.length_eq
  rw [List.length_map] at this
  rw [mG_length,this]
  exact h
theorem MapS.mem {s:St} {M:Nat} {K K':List Int} (h:MapS s M K) (hk:∀ k,k∈K↔k∈K'):MapS s M K':=by
  obtain ⟨E,h1,h2,h3,h4⟩:=h
  exact ⟨E,h1,h2,h3,fun k=>(h4 k).trans (hk k)⟩
structure Mps (s:St) (n:Nat) (F:Nat→Nat) (K:Nat→List Int):Prop where
  ms:∀ j,j<n→MapS s (F j) (K j)
  lt:∀ j,j<n→F j<s.n
  inj:∀ j j',j<n→j'<n→F j=F j'→j=j'
theorem Mps.keep {s s':St} {n:Nat} {F:Nat→Nat} {K:Nat→List Int} (h:Mps s n F K) (hn:s.n≤s'.n) (hs:∀ j,j<n→s'.get (F j)=s.get (F j)):Mps s' n F K:=
  ⟨fun j hj=>(h.ms j hj).keep (hs j hj),fun j hj=>by have:=h.lt j hj;omega,h.inj⟩
theorem Mps.up {s s':St} {n j:Nat} {F:Nat→Nat} {K K':Nat→List Int} (h:Mps s n F K) (hj:j<n) (hn:s'.n=s.n) (hm:MapS s' (F j) (K' j)) (hs:∀ id,id≠F j→s'.get id=s.get id) (hk:∀ i,i<n→i≠j→K' i=K i):Mps s' n F K' :=
  ⟨fun i hi=>by
    by_cases e:i=j
    · subst e;exact hm
    · rw [hk i hi e]
      exact (h.ms i hi).keep (hs _ fun he=>e (h.inj i j hi hj he)),fun i hi=>by have:=h.lt i hi;omega,h.inj⟩
theorem Mps.snoc {s s':St} {n M:Nat} {F F':Nat→Nat} {K K':Nat→List Int} (h:Mps s n F K) (hn:s.n≤s'.n) (hs:∀ j,j<n→s'.get (F j)=s.get (F j)) (hM:∀ j,j<n→F j≠M) (hl:M<s'.n) (hm:MapS s' M (K' n)) (hF:∀ j,F' j=if j=n then M else F j) (hK:∀ j,j<n→K' j=K j):Mps s' (n+1) F' K' :=
  ⟨fun j hj=>by
    by_cases e:j=n
    · subst e;rw [hF,if_pos rfl];exact hm
    · rw [hF,if_neg e,hK j (by omega)]
      exact (h.ms j (by omega)).keep (hs j (by omega)),fun j hj=>by
    by_cases e:j=n
    · rw [hF,if_pos e];exact hl
    · rw [hF,if_neg e];have:=h.lt j (by omega);omega,fun i j hi hj he=>by
    rw [hF,hF] at he
    by_cases ei:i=n<;>by_cases ej:j=n
    · omega
    · rw [if_pos ei,if_neg ej] at he
      exact absurd he.symm (hM j (by omega))
    · rw [if_neg ei,if_pos ej] at he
      exact absurd he (hM i (by omega))
    · rw [if_neg ei,if_neg ej] at he
      exact h.inj i j (by omega) (by omega) he⟩
theorem Mps.zero (s:St) (F:Nat→Nat) (K:Nat→List Int):Mps s 0 F K:=⟨fun j hj=>absurd hj (by omega),fun j hj=>absurd hj (by omega),fun i j hi=>absurd hi (by omega)⟩
theorem Mps.ext {s:St} {n:Nat} {F:Nat→Nat} {K K':Nat→List Int} (h:Mps s n F K) (hk:∀ i,i<n→∀ x,x∈K i↔x∈K' i):Mps s n F K':=⟨fun j hj=>(h.ms j hj).mem (hk j hj),h.lt,h.inj⟩
end Go.Pv
