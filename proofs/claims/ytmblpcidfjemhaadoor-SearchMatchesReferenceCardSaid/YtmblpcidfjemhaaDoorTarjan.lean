/- A search that numbers what is reached, in order: what it keeps. No program is in sight. -/
set_option linter.unusedSimpArgs false
set_option linter.unusedVariables false
section
namespace Go.Bfs
variable {α:Type} [DecidableEq α]
abbrev Ac (α:Type):=List (α × Int)
def add (acc:Ac α) (p:α) (b:Int):Ac α:=if p∈acc.map (·.1) then acc else acc++[(p,b)]
def adds (acc:Ac α) (l:List α) (b:Int):Ac α:=l.foldl (fun acc p=>add acc p b) acc
def run (succ:α→List α):Nat→Nat→Ac α→Ac α
 | 0,_,acc=>acc
 | f+1,k,acc=>
  match acc[k]? with
  | none=>acc
  | some x=>run succ f (k+1) (adds acc (succ x.1) k)
theorem add_len (acc:Ac α) (p:α) (b:Int):acc.length≤(add acc p b).length:=by unfold add;split<;>simp
theorem adds_len (l:List α):∀ (acc:Ac α) (b:Int),acc.length≤(adds acc l b).length:=by
 induction l with
 | nil=>intro acc b;exact Nat.le_refl _
 | cons p l ih=>intro acc b;exact Nat.le_trans (add_len acc p b) (ih _ _)
theorem adds_snoc (acc:Ac α) (l:List α) (p:α) (b:Int):adds acc (l++[p]) b=add (adds acc l b) p b:=by simp [adds]
theorem add_get {acc:Ac α} {p:α} {b:Int} {i:Nat} (h:i<acc.length):(add acc p b)[i]? = acc[i]? := by
 unfold add;split
 ·rfl
 ·rw [List.getElem?_append_left h]
theorem adds_get {l:List α} : ∀ {acc:Ac α} {b:Int} {i:Nat},i<acc.length→(adds acc l b)[i]? = acc[i]? := by
 induction l with
 | nil=>intros;rfl
 | cons p l ih=>
  intro acc b i h
  have:=ih (acc:=add acc p b) (b:=b) (Nat.lt_of_lt_of_le h (add_len acc p b))
  rw [add_get h] at this
  exact this
theorem add_sub {acc:Ac α} {p:α} {b:Int} {x:α × Int} (h:x∈acc):x∈add acc p b:=by
 unfold add;split
 ·exact h
 ·exact List.mem_append_left _ h
theorem adds_sub {l:List α} : ∀ {acc:Ac α} {b:Int} {x:α × Int},x∈acc→x∈adds acc l b:=by
 induction l with
 | nil=>intro acc b x h;exact h
 | cons p l ih=>intro acc b x h;exact ih (add_sub h)
theorem add_mem (acc:Ac α) (p:α) (b:Int):p∈(add acc p b).map (·.1):=by
 unfold add;split
 ·assumption
 ·simp
theorem adds_mem {l:List α} : ∀ {acc:Ac α} {b:Int} {p:α},p∈l→p∈(adds acc l b).map (·.1):=by
 induction l with
 | nil=>intro acc b p h;cases h
 | cons a l ih=>
  intro acc b p h
  rcases List.mem_cons.1 h with rfl | h
  ·obtain ⟨x,hx,e⟩:=List.mem_map.1 (add_mem acc p b)
   exact List.mem_map.2 ⟨x,adds_sub (l:=l) hx,e⟩
  ·exact ih h
structure Ok (succ:α→List α) (from_:List α) (R:α→Prop) (acc:Ac α):Prop where
 nd:(acc.map (·.1)).Nodup
 rng:∀ x∈acc,R x.1
 way:∀ (i:Nat) (x:α × Int),acc[i]? = some x→(x.2 = -1∧x.1∈from_)∨∃ (j:Nat) (y:α × Int),j<i∧x.2=(j:Int)∧acc[j]? = some y∧x.1∈succ y.1
theorem Ok.nil {β:Type} (succ:β→List β) (from_:List β) (R:β→Prop):Ok succ from_ R []:=⟨by simp,(fun x h=>by cases h),(fun i x h=>by simp at h)⟩
theorem Ok.add {succ:α→List α} {from_:List α} {R:α→Prop} {acc:Ac α} (h:Ok succ from_ R acc) {p:α} {b:Int} (hR:R p) (hb:(b = -1∧p∈from_)∨∃ (j:Nat) (y:α × Int),b=(j:Int)∧acc[j]? = some y∧p∈succ y.1):Ok succ from_ R (add acc p b):=by
 unfold Bfs.add
 split
 ·exact h
 ·rename_i hn
  refine ⟨?_,?_,?_⟩
  ·rw [List.map_append,List.nodup_append]
   exact ⟨h.nd,by simp,fun a ha c hc=>by
    rintro rfl
    rw [List.map_cons,List.map_nil,List.mem_singleton] at hc
    rw [hc] at ha
    exact hn ha⟩
  ·intro x hx
   rcases List.mem_append.1 hx with hx | hx
   ·exact h.rng x hx
   ·rw [List.mem_singleton.1 hx];exact hR
  ·intro i x hx
   by_cases hi:i<acc.length
   ·rw [List.getElem?_append_left hi] at hx
    rcases h.way i x hx with hh | ⟨j,y,h1,h2,h3,h4⟩
    ·exact .inl hh
    ·exact .inr ⟨j,y,h1,h2,by rw [List.getElem?_append_left (by omega)];exact h3,h4⟩
   ·rw [List.getElem?_append_right (by omega)] at hx
    have hi':i - acc.length=0:=by
     have:=(List.getElem?_eq_some_iff.1 hx).1
     simpa using this
    rw [hi'] at hx
    cases hx
    rcases hb with hb | ⟨j,y,h1,h2,h3⟩
    ·exact .inl hb
    ·have hj:=(List.getElem?_eq_some_iff.1 h2).1
     exact .inr ⟨j,y,by omega,h1,by rw [List.getElem?_append_left hj];exact h2,h3⟩
theorem Ok.adds {succ:α→List α} {from_:List α} {R:α→Prop} : ∀ {l:List α} {acc:Ac α} (h:Ok succ from_ R acc) {b:Int} (hR:∀ p∈l,R p) (hb:∀ p∈l,(b = -1∧p∈from_)∨∃ (j:Nat) (y:α × Int),b=(j:Int)∧acc[j]? = some y∧p∈succ y.1),Ok succ from_ R (adds acc l b):=by
 intro l
 induction l with
 | nil=>intro acc h b _ _;exact h
 | cons p l ih=>
  intro acc h b hR hb
  refine ih (h.add (hR p (by simp)) (hb p (by simp))) (fun q hq=>hR q (List.mem_cons_of_mem _ hq)) fun q hq=>?_
  rcases hb q (List.mem_cons_of_mem _ hq) with hh | ⟨j,y,h1,h2,h3⟩
  ·exact .inl hh
  ·exact .inr ⟨j,y,h1,by rw [add_get (List.getElem?_eq_some_iff.1 h2).1];exact h2,h3⟩
theorem Ok.first {succ:α→List α} {from_:List α} {R:α→Prop} (hR:∀ p∈from_,R p):Ok succ from_ R (Bfs.adds [] from_ (-1)):=(Ok.nil succ from_ R).adds hR fun p hp=>.inl ⟨rfl,hp⟩
theorem Ok.step {succ:α→List α} {from_:List α} {R:α→Prop} {acc:Ac α} (h:Ok succ from_ R acc) (hs:∀ p,R p→∀ q∈succ p,R q) {k:Nat} {x:α × Int} (hk:acc[k]? = some x):Ok succ from_ R (Bfs.adds acc (succ x.1) k) :=
 h.adds (fun p hp=>hs _ (h.rng x (List.mem_of_getElem? hk)) p hp) fun p hp=>.inr ⟨k,x,rfl,hk,hp⟩
def Cl (succ:α→List α) (acc:Ac α) (k:Nat):Prop:=∀ (i:Nat) (x:α × Int),i<k→acc[i]? = some x→∀ p∈succ x.1,p∈acc.map (·.1)
theorem Cl.step {succ:α→List α} {acc:Ac α} {k:Nat} (h:Cl succ acc k) {x:α × Int} (hk:acc[k]? = some x):Cl succ (adds acc (succ x.1) k) (k+1):=by
 intro i y hi hy p hp
 have hkl:=(List.getElem?_eq_some_iff.1 hk).1
 rw [adds_get (by omega)] at hy
 by_cases he:i=k
 ·subst he
  rw [hk] at hy;cases hy
  exact adds_mem hp
 ·obtain ⟨z,hz,rfl⟩:=List.mem_map.1 (h i y (by omega) hy p hp)
  exact List.mem_map.2 ⟨z,adds_sub hz,rfl⟩
theorem run_ok {succ:α→List α} {from_:List α} {R:α→Prop} (hs:∀ p,R p→∀ q∈succ p,R q) {N:Nat} (hN:∀ l:List α,l.Nodup→(∀ x∈l,R x)→l.length≤N):∀ (f k:Nat) (acc:Ac α),Ok succ from_ R acc→Cl succ acc k→(∀ p∈from_,p∈acc.map (·.1))→k+f=N+1 →
  Ok succ from_ R (run succ f k acc)∧Cl succ (run succ f k acc) (run succ f k acc).length∧∀ p∈from_,p∈(run succ f k acc).map (·.1):=by
 intro f
 induction f with
 | zero=>
  intro k acc h hc hf hk
  have hl:acc.length≤N:=by
   have:=hN _ h.nd fun x hx=>by obtain ⟨y,hy,rfl⟩:=List.mem_map.1 hx;exact h.rng y hy
   simpa using this
  exact ⟨h,fun i x hi hx=>hc i x (by show i<k;have hi':i<acc.length:=hi;omega) hx,hf⟩
 | succ f ih=>
  intro k acc h hc hf hk
  simp only [run]
  cases hx:acc[k]? with
  | none=>
   have:=List.getElem?_eq_none_iff.1 hx
   exact ⟨h,fun i x hi hx=>hc i x (by show i<k;have hi':i<acc.length:=hi;omega) hx,hf⟩
  | some x=>exact ih (k+1) _ (h.step hs hx) (hc.step hx) (fun p hp=>by
    obtain ⟨z,hz,rfl⟩:=List.mem_map.1 (hf p hp)
    exact List.mem_map.2 ⟨z,adds_sub hz,rfl⟩) (by omega)
def back (acc:Ac α):Nat→Int→List Nat
 | 0,_=>[]
 | f+1,i=>if i<0 then [] else i.toNat::back acc f (match acc[i.toNat]? with | some x=>x.2 | none=>-1)
def idx (p:α):List α→Nat→Option Nat
 | [],_=>none
 | q::r,i=>if p=q then some i else idx p r (i+1)
theorem idx_none {p:α} : ∀ {l:List α} {i:Nat},idx p l i=none↔p ∉ l:=by
 intro l
 induction l with
 | nil=>intro i;simp [idx]
 | cons q r ih=>
  intro i
  simp only [idx]
  split
  ·rename_i h;simp [h]
  ·rename_i h;rw [ih];simp [h]
theorem idx_some {p:α} : ∀ {l:List α} {i j:Nat},idx p l i=some j→i≤j∧l[j - i]? = some p:=by
 intro l
 induction l with
 | nil=>intro i j h;cases h
 | cons q r ih=>
  intro i j h
  simp only [idx] at h
  split at h
  ·rename_i e;cases h;subst e;simp
  ·obtain ⟨a,b⟩:=ih h
   exact ⟨by omega,by rw [show j - i=j - (i+1)+1 by omega];simpa using b⟩
end Go.Bfs
end
section
namespace Go.Aut
abbrev Mv:=Nat→Nat→List (Nat × Bool)
inductive Walk {α:Type} (E:α→α→Prop):Nat→α→α→Prop
 | nil (x:α):Walk E 0 x x
 | cons {n:Nat} {x y z:α} (h:E x y) (k:Walk E n y z):Walk E (n+1) x z
theorem Walk.trans {α:Type} {E:α→α→Prop} {m n:Nat} {x y z:α} (h:Walk E m x y) (k:Walk E n y z):Walk E (m+n) x z:=by
 induction h with
 | nil=>simpa using k
 | cons e _ ih=>rw [Nat.add_right_comm];exact .cons e (ih k)
theorem Walk.fn {α:Type} {E:α→α→Prop} {n:Nat} {x y:α} (h:Walk E n x y):∃ f:Nat→α,f 0=x∧f n=y∧∀ i,i<n→E (f i) (f (i+1)):=by
 induction h with
 | nil x=>exact ⟨fun _=>x,rfl,rfl,fun i hi=>absurd hi (Nat.not_lt_zero _)⟩
 | @cons n x y z e _ ih=>
  obtain ⟨f,h0,h1,h2⟩:=ih
  refine ⟨fun i=>match i with | 0=>x | i+1=>f i,rfl,h1,fun i hi=>?_⟩
  cases i with
  | zero=>simpa [h0] using e
  | succ i=>exact h2 i (by omega)
theorem pig (n:Nat):∀ l:List Nat,l.Nodup→(∀ x∈l,x<n)→l.length≤n:=by
 induction n with
 | zero=>
  intro l _ h
  cases l with
  | nil=>simp
  | cons a l=>exact absurd (h a (by simp)) (Nat.not_lt_zero _)
 | succ n ih=>
  intro l hd h
  by_cases hm:n∈l
  ·have h1:=ih (l.erase n) (hd.erase n) fun x hx=>by
    have a:=h x (List.mem_of_mem_erase hx)
    have b:x≠n:=by rintro rfl;exact (List.Nodup.not_mem_erase hd) hx
    omega
   rw [List.length_erase_of_mem hm] at h1
   omega
  ·have:=ih l hd fun x hx=>by
    have a:=h x hx
    have b:x≠n:=by rintro rfl;exact hm hx
    omega
   omega
structure Tk where
 n:Nat
 back:Nat
 lt:Nat→Nat
 mv:Mv
def Tk.nxt (k:Tk) (p:Nat):Nat:=if p+1=k.n then k.back else p+1
def Tk.pos (k:Tk):Nat→Nat
 | 0=>0
 | i+1=>k.nxt (k.pos i)
abbrev Pl:=Nat × Nat
def Tk.moves (k:Tk) (x:Pl):List (Nat × Bool):=k.mv x.2 (k.lt x.1)
def Tk.after (k:Tk) (x:Pl) (m:Nat × Bool):Pl:=(k.nxt x.1,m.1)
def Tk.E (k:Tk) (x y:Pl):Prop:=∃ m∈k.moves x,k.after x m=y
end Go.Aut
end
section
namespace Go.Fnd
open Go.Aut
abbrev En:=Nat × Int × Nat
def add (acc:List En) (x:En):List En:=if x.1∈acc.map (·.1) then acc else acc++[x]
def adds (acc:List En) (l:List En):List En:=l.foldl add acc
def run (succ:Nat→List En):Nat→Nat→List En→List En
 | 0,_,acc=>acc
 | f+1,k,acc=>
  match acc[k]? with
  | none=>acc
  | some x=>run succ f (k+1) (adds acc (succ x.1))
def firsts (from_:List Nat):List En:=from_.map fun q=>(q,-1,0)
theorem add_len (acc:List En) (p:En):acc.length≤(add acc p).length:=by unfold add;split<;>simp
theorem adds_len (l:List En):∀ acc:List En,acc.length≤(adds acc l).length:=by
 induction l with
 | nil=>intro acc;exact Nat.le_refl _
 | cons p l ih=>intro acc;exact Nat.le_trans (add_len acc p) (ih _)
theorem adds_snoc (acc l:List En) (p:En):adds acc (l++[p])=add (adds acc l) p:=by simp [adds]
theorem add_get {acc:List En} {p:En} {i:Nat} (h:i<acc.length):(add acc p)[i]? = acc[i]? := by
 unfold add;split
 ·rfl
 ·rw [List.getElem?_append_left h]
theorem adds_get {l:List En} : ∀ {acc:List En} {i:Nat},i<acc.length→(adds acc l)[i]? = acc[i]? := by
 induction l with
 | nil=>intros;rfl
 | cons p l ih=>
  intro acc i h
  have:=ih (acc:=add acc p) (Nat.lt_of_lt_of_le h (add_len acc p))
  rw [add_get h] at this
  exact this
theorem run_get {succ:Nat→List En} : ∀ {f k:Nat} {acc:List En} {i:Nat},i<acc.length→(run succ f k acc)[i]? = acc[i]? := by
 intro f
 induction f with
 | zero=>intros;rfl
 | succ f ih=>
  intro k acc i h
  simp only [run]
  cases hx:acc[k]? with
  | none=>rfl
  | some x=>
   have:=ih (k:=k+1) (acc:=adds acc (succ x.1)) (Nat.lt_of_lt_of_le h (adds_len _ _))
   rw [adds_get h] at this
   exact this
theorem add_sub {acc:List En} {p x:En} (h:x∈acc):x∈add acc p:=by
 unfold add;split
 ·exact h
 ·exact List.mem_append_left _ h
theorem adds_sub {l:List En} : ∀ {acc:List En} {x:En},x∈acc→x∈adds acc l:=by
 induction l with
 | nil=>intro acc x h;exact h
 | cons p l ih=>intro acc x h;exact ih (add_sub h)
theorem add_mem (acc:List En) (p:En):p.1∈(add acc p).map (·.1):=by
 unfold add;split
 ·assumption
 ·simp
theorem adds_mem {l:List En} : ∀ {acc:List En} {p:En},p∈l→p.1∈(adds acc l).map (·.1):=by
 induction l with
 | nil=>intro acc p h;cases h
 | cons a l ih=>
  intro acc p h
  rcases List.mem_cons.1 h with rfl | h
  ·obtain ⟨x,hx,e⟩:=List.mem_map.1 (add_mem acc p)
   exact List.mem_map.2 ⟨x,adds_sub (l:=l) hx,e⟩
  ·exact ih h
structure Ok (succ:Nat→List En) (from_:List Nat) (n:Nat) (acc:List En):Prop where
 nd:(acc.map (·.1)).Nodup
 rng:∀ x∈acc,x.1<n
 way:∀ (i:Nat) (x:En),acc[i]? = some x→(x=(x.1,-1,0)∧x.1∈from_)∨∃ (j:Nat) (y:En),j<i∧acc[j]? = some y∧x.2.1=(y.1:Int)∧x∈succ y.1
theorem Ok.nil (succ:Nat→List En) (from_:List Nat) (n:Nat):Ok succ from_ n []:=⟨by simp,(fun x h=>by cases h),(fun i x h=>by simp at h)⟩
theorem Ok.add {succ:Nat→List En} {from_:List Nat} {n:Nat} {acc:List En} (h:Ok succ from_ n acc) {p:En} (hR:p.1<n) (hb:(p=(p.1,-1,0)∧p.1∈from_)∨∃ (j:Nat) (y:En),acc[j]? = some y∧p.2.1=(y.1:Int)∧p∈succ y.1):Ok succ from_ n (Fnd.add acc p):=by
 unfold Fnd.add
 split
 ·exact h
 ·rename_i hn
  refine ⟨?_,?_,?_⟩
  ·rw [List.map_append,List.nodup_append]
   exact ⟨h.nd,by simp,fun a ha c hc=>by
    rintro rfl
    rw [List.map_cons,List.map_nil,List.mem_singleton] at hc
    rw [hc] at ha
    exact hn ha⟩
  ·intro x hx
   rcases List.mem_append.1 hx with hx | hx
   ·exact h.rng x hx
   ·rw [List.mem_singleton.1 hx];exact hR
  ·intro i x hx
   by_cases hi:i<acc.length
   ·rw [List.getElem?_append_left hi] at hx
    rcases h.way i x hx with hh | ⟨j,y,h1,h2,h3⟩
    ·exact .inl hh
    ·exact .inr ⟨j,y,h1,by rw [List.getElem?_append_left (by omega)];exact h2,h3⟩
   ·rw [List.getElem?_append_right (by omega)] at hx
    have hi':i - acc.length=0:=by
     have:=(List.getElem?_eq_some_iff.1 hx).1
     simpa using this
    rw [hi'] at hx
    cases hx
    rcases hb with hb | ⟨j,y,h2,h3⟩
    ·exact .inl hb
    ·have hj:=(List.getElem?_eq_some_iff.1 h2).1
     exact .inr ⟨j,y,by omega,by rw [List.getElem?_append_left hj];exact h2,h3⟩
theorem Ok.adds {succ:Nat→List En} {from_:List Nat} {n:Nat} : ∀ {l:List En} {acc:List En} (h:Ok succ from_ n acc) (hR:∀ p∈l,p.1<n) (hb:∀ p∈l,(p=(p.1,-1,0)∧p.1∈from_)∨∃ (j:Nat) (y:En),acc[j]? = some y∧p.2.1=(y.1:Int)∧p∈succ y.1),Ok succ from_ n (Fnd.adds acc l):=by
 intro l
 induction l with
 | nil=>intro acc h _ _;exact h
 | cons p l ih=>
  intro acc h hR hb
  refine ih (h.add (hR p (by simp)) (hb p (by simp))) (fun q hq=>hR q (List.mem_cons_of_mem _ hq)) fun q hq=>?_
  rcases hb q (List.mem_cons_of_mem _ hq) with hh | ⟨j,y,h2,h3⟩
  ·exact .inl hh
  ·exact .inr ⟨j,y,by rw [add_get (List.getElem?_eq_some_iff.1 h2).1];exact h2,h3⟩
theorem Ok.first {succ:Nat→List En} {from_:List Nat} {n:Nat} (hR:∀ p∈from_,p<n):Ok succ from_ n (Fnd.adds [] (firsts from_)) :=
 (Ok.nil succ from_ n).adds (fun p hp=>by obtain ⟨q,hq,rfl⟩:=List.mem_map.1 hp;exact hR q hq) fun p hp=>by
  obtain ⟨q,hq,rfl⟩:=List.mem_map.1 hp
  exact .inl ⟨rfl,hq⟩
def From (n:Nat) (succ:Nat→List En):Prop:=∀ q,q<n→∀ p∈succ q,p.1<n∧p.2.1=(q:Int)
theorem Ok.step {succ:Nat→List En} {from_:List Nat} {n:Nat} {acc:List En} (h:Ok succ from_ n acc) (hs:From n succ) {k:Nat} {x:En} (hk:acc[k]? = some x):Ok succ from_ n (Fnd.adds acc (succ x.1)) :=
 have hx:=h.rng x (List.mem_of_getElem? hk)
 h.adds (fun p hp=>(hs _ hx p hp).1) fun p hp=>.inr ⟨k,x,hk,(hs _ hx p hp).2,hp⟩
theorem Ok.part {succ:Nat→List En} {from_:List Nat} {n:Nat} {acc:List En} (h:Ok succ from_ n acc) (hs:From n succ) {k:Nat} {x:En} (hk:acc[k]? = some x) {l:List En} (hl:∀ p∈l,p∈succ x.1):Ok succ from_ n (Fnd.adds acc l) :=
 have hx:=h.rng x (List.mem_of_getElem? hk)
 h.adds (fun p hp=>(hs _ hx p (hl p hp)).1) fun p hp=>.inr ⟨k,x,hk,(hs _ hx p (hl p hp)).2,hl p hp⟩
theorem Ok.len {succ:Nat→List En} {from_:List Nat} {n:Nat} {acc:List En} (h:Ok succ from_ n acc):acc.length≤n:=by
 have:=pig n _ h.nd fun x hx=>by
  obtain ⟨y,hy,rfl⟩:=List.mem_map.1 hx
  exact h.rng y hy
 simpa using this
def Cl (succ:Nat→List En) (acc:List En) (k:Nat):Prop:=∀ (i:Nat) (x:En),i<k→acc[i]? = some x→∀ p∈succ x.1,p.1∈acc.map (·.1)
theorem Cl.step {succ:Nat→List En} {acc:List En} {k:Nat} (h:Cl succ acc k) {x:En} (hk:acc[k]? = some x):Cl succ (adds acc (succ x.1)) (k+1):=by
 intro i y hi hy p hp
 have hkl:=(List.getElem?_eq_some_iff.1 hk).1
 rw [adds_get (by omega)] at hy
 by_cases he:i=k
 ·subst he
  rw [hk] at hy;cases hy
  exact adds_mem hp
 ·obtain ⟨z,hz,e⟩:=List.mem_map.1 (h i y (by omega) hy p hp)
  exact List.mem_map.2 ⟨z,adds_sub hz,e⟩
theorem run_ok {succ:Nat→List En} {from_:List Nat} {n:Nat} (hs:From n succ):∀ (f k:Nat) (acc:List En),Ok succ from_ n acc→Cl succ acc k→(∀ p∈from_,p∈acc.map (·.1))→n≤k+f →
  Ok succ from_ n (run succ f k acc)∧Cl succ (run succ f k acc) (run succ f k acc).length∧∀ p∈from_,p∈(run succ f k acc).map (·.1):=by
 intro f
 induction f with
 | zero=>
  intro k acc h hc hf hk
  have hl:=h.len
  exact ⟨h,fun i x hi hx=>hc i x (by have hi':i<acc.length:=hi;omega) hx,hf⟩
 | succ f ih=>
  intro k acc h hc hf hk
  simp only [run]
  cases hx:acc[k]? with
  | none=>
   have:=List.getElem?_eq_none_iff.1 hx
   exact ⟨h,fun i x hi hx=>hc i x (by have hi':i<acc.length:=hi;omega) hx,hf⟩
  | some x=>exact ih (k+1) _ (h.step hs hx) (hc.step hx) (fun p hp=>by
    obtain ⟨z,hz,e⟩:=List.mem_map.1 (hf p hp)
    exact List.mem_map.2 ⟨z,adds_sub hz,e⟩) (by omega)
def all (succ:Nat→List En) (n:Nat) (from_:List Nat):List En:=run succ n 0 (adds [] (firsts from_))
theorem all_ok {succ:Nat→List En} {n:Nat} (hs:From n succ) {from_:List Nat} (hR:∀ p∈from_,p<n):Ok succ from_ n (all succ n from_)∧Cl succ (all succ n from_) (all succ n from_).length∧∀ p∈from_,p∈(all succ n from_).map (·.1) :=
 run_ok hs n 0 _ (Ok.first hR) (fun i x hi=>absurd hi (Nat.not_lt_zero i)) (fun p hp=>by
  have:=adds_mem (l:=firsts from_) (acc:=[]) (p:=(p,-1,0)) (List.mem_map_of_mem hp)
  exact this) (by omega)
inductive Wy (acc:List En):Nat→List Nat→Prop
 | first {i:Nat} {x:En} (h:acc[i]? = some x) (hx:x.2.1 = -1):Wy acc i []
 | step {i j:Nat} {x y:En} {l:List Nat} (h:acc[i]? = some x) (hy:acc[j]? = some y) (hj:j<i) (hx:x.2.1=(y.1:Int)) (k:Wy acc j l):Wy acc i (l++[x.2.2])
theorem Wy.len {acc:List En} {i:Nat} {l:List Nat} (h:Wy acc i l):l.length≤i:=by
 induction h with
 | first=>simp
 | step _ _ hj _ _ ih=>simp;omega
theorem Wy.lt {acc:List En} {i:Nat} {l:List Nat} (h:Wy acc i l):i<acc.length:=by
 cases h with
 | first h _=>exact (List.getElem?_eq_some_iff.1 h).1
 | step h _ _ _ _=>exact (List.getElem?_eq_some_iff.1 h).1
theorem Ok.wy {succ:Nat→List En} {from_:List Nat} {n:Nat} {acc:List En} (h:Ok succ from_ n acc):∀ i,i<acc.length→∃ l,Wy acc i l:=by
 intro i
 induction i using Nat.strongRecOn with
 | ind i ih=>
  intro hi
  have hx:=List.getElem?_eq_getElem hi
  rcases h.way i _ hx with ⟨h1,_⟩ | ⟨j,y,h1,h2,h3,_⟩
  ·exact ⟨[], .first hx (by rw [h1])⟩
  ·obtain ⟨l,hl⟩:=ih j h1 (by omega)
   exact ⟨_, .step hx h2 h1 h3 hl⟩
theorem nodup_at {acc:List En} (hd:(acc.map (·.1)).Nodup) {i j:Nat} {x y:En} (hi:acc[i]? = some x) (hj:acc[j]? = some y) (he:x.1=y.1):i=j:=by
 obtain ⟨h1,h2⟩:=List.getElem?_eq_some_iff.1 hi
 obtain ⟨h3,h4⟩:=List.getElem?_eq_some_iff.1 hj
 have hp:=List.pairwise_iff_getElem.1 (List.nodup_iff_pairwise_ne.1 hd)
 rcases Nat.lt_trichotomy i j with hlt | rfl | hlt
 ·refine absurd ?_ (hp i j (by simpa using h1) (by simpa using h3) hlt)
  rw [List.getElem_map,List.getElem_map,h2,h4,he]
 ·rfl
 ·refine absurd ?_ (hp j i (by simpa using h3) (by simpa using h1) hlt)
  rw [List.getElem_map,List.getElem_map,h2,h4,he]
inductive LW (mv:Mv):Nat→List Nat→Nat→Prop
 | nil (q:Nat):LW mv q [] q
 | cons {q r p a:Nat} {g:Bool} {l:List Nat} (h:(r,g)∈mv q a) (k:LW mv r l p):LW mv q (a::l) p
theorem LW.append {mv:Mv} {q r p:Nat} {l l':List Nat} (h:LW mv q l r) (k:LW mv r l' p):LW mv q (l++l') p:=by
 induction h with
 | nil=>exact k
 | cons e _ ih=>exact .cons e (ih k)
theorem LW.fn {mv:Mv} {q p:Nat} {l:List Nat} (h:LW mv q l p):∃ f:Nat→Nat,f 0=q∧f l.length=p∧∀ i,i<l.length→∃ g,(f (i+1),g)∈mv (f i) (l.getD i 0):=by
 induction h with
 | nil q=>exact ⟨fun _=>q,rfl,rfl,fun i hi=>absurd hi (Nat.not_lt_zero _)⟩
 | @cons q r p a g l e _ ih=>
  obtain ⟨f,h0,h1,h2⟩:=ih
  refine ⟨fun i=>match i with | 0=>q | i+1=>f i,rfl,h1,fun i hi=>?_⟩
  cases i with
  | zero=>exact ⟨g,by simpa [h0] using e⟩
  | succ i=>simpa using h2 i (by simpa using hi)
def sucs (mv:Mv) (L:Nat) (q:Nat):List En:=(List.range L).flatMap fun a=>(mv q a).map fun m=>(m.1,(q:Int),a)
theorem mem_sucs {mv:Mv} {L q:Nat} {x:En} : x∈sucs mv L q↔x.2.2<L∧x.2.1=(q:Int)∧∃ g,(x.1,g)∈mv q x.2.2:=by
 simp only [sucs,List.mem_flatMap,List.mem_range,List.mem_map]
 constructor
 ·rintro ⟨a,ha,m,hm,rfl⟩
  exact ⟨ha,rfl,m.2,hm⟩
 ·rintro ⟨h1,h2,g,h3⟩
  exact ⟨x.2.2,h1,(x.1,g),h3,by rw [← h2]⟩
theorem sucs_from {mv:Mv} {L n:Nat} (hm:∀ q a,q<n→∀ m∈mv q a,m.1<n):From n (sucs mv L):=fun q hq p hp=>by
 obtain ⟨_,h2,g,h3⟩:=mem_sucs.1 hp
 exact ⟨hm q _ hq _ h3,h2⟩
theorem Wy.walk {mv:Mv} {L n:Nat} {from_:List Nat} {acc:List En} (hok:Ok (sucs mv L) from_ n acc) {i:Nat} {l:List Nat} (h:Wy acc i l):∀ {x:En},acc[i]? = some x→(∀ a∈l,a<L)∧∃ q∈from_,LW mv q l x.1:=by
 induction h with
 | @first i x h hx=>
  intro x' hx'
  rw [h] at hx';cases hx'
  rcases hok.way i _ h with ⟨_,h2⟩ | ⟨j,y,_,_,h3,_⟩
  ·exact ⟨by simp,_,h2, .nil _⟩
  ·rw [hx] at h3;omega
 | @step i j x y l h hy hj hx k ih=>
  intro x' hx'
  rw [h] at hx';cases hx'
  obtain ⟨h1,q,hq,hw⟩:=ih hy
  rcases hok.way i _ h with ⟨h2,_⟩ | ⟨j',y',_,h4,h3,h5⟩
  ·rw [h2] at hx
   have:(-1:Int)=(y.1:Int):=hx
   omega
  ·have he:y.1=y'.1:=by rw [h3] at hx;omega
   have hjj:=nodup_at hok.nd hy h4 he
   subst hjj
   rw [hy] at h4;cases h4
   obtain ⟨h6,_,g,h7⟩:=mem_sucs.1 h5
   refine ⟨fun a ha=>?_,q,hq,hw.append (.cons h7 (.nil _))⟩
   rcases List.mem_append.1 ha with ha | ha
   ·exact h1 a ha
   ·rw [List.mem_singleton.1 ha];exact h6
theorem reach_all {mv:Mv} {L n:Nat} (hL:∀ q a m,m∈mv q a→a<L) {from_:List Nat} {acc:List En} (hc:Cl (sucs mv L) acc acc.length) {q p:Nat} {l:List Nat} (hw:LW mv q l p):q∈acc.map (·.1)→p∈acc.map (·.1):=by
 induction hw with
 | nil=>exact id
 | @cons q r p a g l e _ ih=>
  intro hx
  obtain ⟨z,hz,rfl⟩:=List.mem_map.1 hx
  obtain ⟨i,hi⟩:=List.mem_iff_getElem?.1 hz
  exact ih (hc i z (List.getElem?_eq_some_iff.1 hi).1 hi (r,(z.1:Int),a) (mem_sucs.2 ⟨hL _ _ _ e,rfl,g,e⟩))
def lw (S L:List Nat) (i:Nat):Nat:=if i<S.length then S.getD i 0 else L.getD ((i - S.length) % L.length) 0
end Go.Fnd
end
section
namespace Go.Tarjan
inductive Rch (nx:Nat→List Nat):Nat→Nat→Prop
 | refl (u:Nat):Rch nx u u
 | head {u v w:Nat} (h:v∈nx u) (k:Rch nx v w):Rch nx u w
theorem Rch.trans {nx:Nat→List Nat} {u v w:Nat} (h:Rch nx u v) (k:Rch nx v w):Rch nx u w:=by
 induction h with
 | refl=>exact k
 | head e _ ih=>exact .head e (ih k)
theorem Rch.one {nx:Nat→List Nat} {u v:Nat} (h:v∈nx u):Rch nx u v:=.head h (.refl v)
theorem Rch.closed {nx:Nat→List Nat} {u v:Nat} (h:Rch nx u v) {K:Nat→Prop} (hK:∀ a,K a→∀ b∈nx a,K b) (hu:K u):K v:=by
 induction h with
 | refl=>exact hu
 | head e _ ih=>exact ih (hK _ hu _ e)
def upd (f:Nat→Nat) (v x:Nat):Nat→Nat:=fun u=>if u=v then x else f u
@[simp] theorem upd_same (f:Nat→Nat) (v x:Nat):upd f v x v=x:=by simp [upd]
theorem upd_other (f:Nat→Nat) {v u:Nat} (x:Nat) (h:u≠v):upd f v x u=f u:=by simp [upd,h]
structure S where
 idx:Nat→Nat
 low:Nat→Nat
 part:Nat→Nat
 done:Nat→Nat
 cnt:Nat
 stack:List Nat
 path:List Nat
structure Inv (n:Nat) (nx:Nat→List Nat) (s:S):Prop where
 rng:∀ v,s.idx v≠0→v<n∧s.idx v≤s.cnt
 inj:∀ u v,s.idx u≠0→s.idx u=s.idx v→u=v
 mem:∀ v,v∈s.stack↔s.idx v≠0∧s.part v=0
 srt:s.stack.Pairwise fun a b=>s.idx a<s.idx b
 pix:∀ v,s.part v≠0→s.idx v≠0
 psub:∀ v∈s.path,v∈s.stack
 psrt:s.path.Pairwise fun a b=>s.idx a<s.idx b
 dle:∀ v,s.done v≤(nx v).length
 fresh:∀ v,s.idx v=0→s.done v=0
 link:∀ q∈s.path,(∀ w∈s.path,s.idx w≤s.idx q)∨∃ c∈s.path,(nx q)[s.done q]? = some c∧s.idx q<s.idx c∧∀ w∈s.path,s.idx q<s.idx w→s.idx c≤s.idx w
 fin:∀ v∈s.stack,v ∉ s.path→s.done v=(nx v).length∧s.low v<s.idx v
 clo:∀ v,s.part v≠0→∀ u∈nx v,s.part u≠0
 cls:∀ u v,s.part u≠0→s.part v≠0→(s.part u=s.part v↔Rch nx u v∧Rch nx v u)
 root:∀ u,s.part u≠0→∃ r,s.part r=s.part u∧s.idx r=s.part u
 lo:∀ v∈s.stack,∃ w∈s.stack,s.idx w=s.low v∧Rch nx v w∧s.idx w≤s.idx v
 seen:∀ v k u,s.idx v≠0→k<s.done v→(nx v)[k]? = some u→s.idx u≠0∧(s.part v=0→s.part u=0→s.low v≤s.idx u)
 down:∀ p∈s.path,∀ w∈s.stack,s.idx p≤s.idx w→Rch nx p w
 lows:∀ p∈s.path,∀ w∈s.stack,s.idx p<s.idx w→s.low p≤s.low w∨∃ c∈s.stack,(nx p)[s.done p]? = some c∧s.idx p<s.idx c∧s.idx c≤s.idx w∧(c∈s.path∨s.low c≤s.low w)
def S.init:S:=⟨fun _=>0,fun _=>0,fun _=>0,fun _=>0,0,[],[]⟩
theorem inv_init (n:Nat) (nx:Nat→List Nat):Inv n nx S.init:=by
 constructor<;>simp [S.init]
def S.enter (s:S) (v:Nat):S:=⟨upd s.idx v (s.cnt+1),upd s.low v (s.cnt+1),s.part,s.done,s.cnt+1,s.stack++[v],s.path++[v]⟩
def S.edge (s:S) (p u:Nat):S:={ s with low:=if s.part u=0 then upd s.low p (min (s.low p) (s.low u)) else s.low,done:=upd s.done p (s.done p+1) }
def S.popN (s:S):S:={ s with path:=s.path.dropLast }
def S.popR (s:S) (p:Nat):S:={ s with part:=fun w=>if w∈s.stack∧s.idx p≤s.idx w then s.idx p else s.part w,stack:=s.stack.filter fun w=>decide (s.idx w<s.idx p),path:=s.path.dropLast }
section
variable {n:Nat} {nx:Nat→List Nat} {s:S}
theorem Inv.top_max (h:Inv n nx s) {l:List Nat} {p:Nat} (hp:s.path=l++[p]):∀ w∈s.path,w≠p→s.idx w<s.idx p∧w∈l:=by
 intro w hw hne
 have hs:=h.psrt
 rw [hp] at hs hw
 rcases List.mem_append.1 hw with hw | hw
 ·exact ⟨(List.pairwise_append.1 hs).2.2 w hw p (List.mem_singleton.2 rfl),hw⟩
 ·exact absurd (List.mem_singleton.1 hw) hne
theorem Inv.enter (h:Inv n nx s) {v:Nat} (hv:v<n) (h0:s.idx v=0) (ht:s.path=[]∨∃ l p,s.path=l++[p]∧(nx p)[s.done p]? = some v):Inv n nx (s.enter v):=by
 have hpv:s.part v=0:=by
  by_cases hh:s.part v=0
  ·exact hh
  ·exact absurd h0 (h.pix v hh)
 have hns:v ∉ s.stack:=fun hm=>((h.mem v).1 hm).1 h0
 have hnp:v ∉ s.path:=fun hm=>hns (h.psub v hm)
 have ne_s:∀ w∈s.stack,w≠v:=fun w hw e=>hns (e ▸ hw)
 have ne_p:∀ w∈s.path,w≠v:=fun w hw e=>hnp (e ▸ hw)
 have ix:∀ w,w≠v→(s.enter v).idx w=s.idx w:=fun w hw=>upd_other _ _ hw
 have lw:∀ w,w≠v→(s.enter v).low w=s.low w:=fun w hw=>upd_other _ _ hw
 have ixv:(s.enter v).idx v=s.cnt+1:=upd_same _ _ _
 have lwv:(s.enter v).low v=s.cnt+1:=upd_same _ _ _
 have le_s:∀ w∈s.stack,s.idx w≤s.cnt:=fun w hw=>(h.rng w ((h.mem w).1 hw).1).2
 have ixs:∀ w∈s.stack,(s.enter v).idx w=s.idx w:=fun w hw=>ix w (ne_s w hw)
 have stk:(s.enter v).stack=s.stack++[v]:=rfl
 have pth:(s.enter v).path=s.path++[v]:=rfl
 have prt:(s.enter v).part=s.part:=rfl
 have dne:(s.enter v).done=s.done:=rfl
 have cnt:(s.enter v).cnt=s.cnt+1:=rfl
 have mst:∀ {w},w∈(s.enter v).stack→w∈s.stack∨w=v:=fun {w} hw=>by simpa [stk] using hw
 have mpt:∀ {w},w∈(s.enter v).path→w∈s.path∨w=v:=fun {w} hw=>by simpa [pth] using hw
 have lv : ∀ q ∈ s.path, ∃ c, (c ∈ s.path ∨ c = v) ∧ (nx q)[s.done q]? = some c ∧ s.idx q < (s.enter v).idx c ∧ ∀ w, w ∈ s.path ∨ w = v → s.idx q < (s.enter v).idx w → (s.enter v).idx c ≤ (s.enter v).idx w := by
  intro q hq
  rcases h.link q hq with hl | ⟨c,c1,c2,c3,c4⟩
  ·rcases ht with ht | ⟨l,p,hp,hd⟩
   ·rw [ht] at hq;cases hq
   ·have hpm:p∈s.path:=by rw [hp];simp
    have hqp:q=p:=by
     by_cases e:q=p
     ·exact e
     ·have a:=(h.top_max hp q hq e).1
      have b:=hl p hpm
      omega
    subst hqp
    refine ⟨v, .inr rfl,hd,?_,fun w hw hlt=>?_⟩
    ·rw [ixv];have:=le_s q (h.psub q hq);omega
    ·rcases hw with hw | rfl
     ·rw [ix w (ne_p w hw)] at hlt
      have:=hl w hw
      omega
     ·exact Nat.le_refl _
  ·refine ⟨c, .inl c1,c2,by rw [ix c (ne_p c c1)];exact c3,fun w hw hlt=>?_⟩
   rw [ix c (ne_p c c1)]
   rcases hw with hw | rfl
   ·rw [ix w (ne_p w hw)] at hlt ⊢
    exact c4 w hw hlt
   ·rw [ixv]
    have:=le_s c (h.psub c c1)
    omega
 constructor
 ·intro w hw
  by_cases e:w=v
  ·subst e;exact ⟨hv,by rw [ixv,cnt];exact Nat.le_refl _⟩
  ·rw [ix w e] at hw ⊢
   have:=h.rng w hw
   exact ⟨this.1,by rw [cnt];omega⟩
 ·intro a b ha hab
  by_cases e:a=v
  ·by_cases f:b=v
   ·rw [e,f]
   ·subst e
    rw [ixv,ix b f] at hab
    have:=h.rng b (by omega)
    omega
  ·by_cases f:b=v
   ·subst f
    rw [ixv,ix a e] at hab
    rw [ix a e] at ha
    have:=h.rng a ha
    omega
   ·rw [ix a e,ix b f] at hab
    rw [ix a e] at ha
    exact h.inj a b ha hab
 ·intro w
  rw [stk,prt,List.mem_append,List.mem_singleton]
  by_cases e:w=v
  ·subst e
   simp [ixv,hpv]
  ·rw [ix w e,← h.mem w]
   simp [e]
 ·rw [stk]
  refine List.pairwise_append.2 ⟨h.srt.imp_of_mem fun ha hb hab=>by rw [ixs _ ha,ixs _ hb];exact hab,List.pairwise_singleton _ _,fun a ha b hb=>?_⟩
  rw [List.mem_singleton.1 hb,ixs a ha,ixv]
  have:=le_s a ha
  omega
 ·intro w hw
  by_cases e:w=v
  ·subst e;exact absurd hpv hw
  ·rw [ix w e];exact h.pix w hw
 ·intro w hw
  rcases mpt hw with hw | rfl
  ·rw [stk];exact List.mem_append_left _ (h.psub w hw)
  ·rw [stk];simp
 ·rw [pth]
  refine List.pairwise_append.2 ⟨h.psrt.imp_of_mem fun ha hb hab=>by rw [ix _ (ne_p _ ha),ix _ (ne_p _ hb)];exact hab,List.pairwise_singleton _ _,fun a ha b hb=>?_⟩
  rw [List.mem_singleton.1 hb,ix a (ne_p a ha),ixv]
  have:=le_s a (h.psub a ha)
  omega
 ·exact h.dle
 ·intro w hw
  rw [dne]
  by_cases e:w=v
  ·subst e;exact h.fresh _ h0
  ·rw [ix w e] at hw;exact h.fresh w hw
 ·intro q hq
  rcases mpt hq with hq | rfl
  ·obtain ⟨c,c1,c2,c3,c4⟩:=lv q hq
   refine .inr ⟨c,by rw [pth];simpa using c1,c2,by rw [ix q (ne_p q hq)];exact c3,fun w hw hlt=>?_⟩
   rw [ix q (ne_p q hq)] at hlt
   exact c4 w (mpt hw) hlt
  ·refine .inl fun w hw=>?_
   rcases mpt hw with hw | rfl
   ·rw [ix w (ne_p w hw),ixv]
    have:=le_s w (h.psub w hw)
    omega
   ·exact Nat.le_refl _
 ·intro w hw hn
  rcases mst hw with hw | rfl
  ·rw [ixs w hw,lw w (ne_s w hw),dne]
   exact h.fin w hw fun hm=>hn (by rw [pth];exact List.mem_append_left _ hm)
  ·exact absurd (by rw [pth];simp) hn
 ·exact h.clo
 ·exact h.cls
 ·intro u hu
  obtain ⟨r,r1,r2⟩:=h.root u hu
  refine ⟨r,r1,?_⟩
  rw [ix r ?_]
  ·exact r2
  ·rintro rfl
   rw [h0] at r2
   exact hu r2.symm
 ·intro w hw
  rcases mst hw with hw | rfl
  ·obtain ⟨x,x1,x2,x3,x4⟩:=h.lo w hw
   exact ⟨x,by rw [stk];exact List.mem_append_left _ x1,by rw [ixs x x1,lw w (ne_s w hw)];exact x2,x3,by rw [ixs x x1,ixs w hw];exact x4⟩
  ·exact ⟨w,by rw [stk];simp,by rw [ixv,lwv], .refl _,Nat.le_refl _⟩
 ·intro a k u ha hk hu
  rw [dne] at hk
  by_cases e:a=v
  ·subst e
   rw [h.fresh _ h0] at hk
   exact absurd hk (Nat.not_lt_zero _)
  ·rw [ix a e] at ha
   obtain ⟨b1,b2⟩:=h.seen a k u ha hk hu
   have hne:u≠v:=by rintro rfl;exact b1 h0
   rw [ix u hne,lw a e]
   exact ⟨b1,b2⟩
 ·intro p hp0 w hw hle
  rcases mpt hp0 with hp | rfl
  ·rcases mst hw with hw | rfl
   ·rw [ix p (ne_p p hp),ixs w hw] at hle
    exact h.down p hp w hw hle
   ·rcases ht with ht | ⟨l,t,hpt,hd⟩
    ·rw [ht] at hp;cases hp
    ·have htm:t∈s.path:=by rw [hpt];simp
     have hle2:s.idx p≤s.idx t:=by
      by_cases e:p=t
      ·rw [e];exact Nat.le_refl _
      ·exact Nat.le_of_lt (h.top_max hpt p hp e).1
     exact (h.down p hp t (h.psub t htm) hle2).trans (.one (List.mem_of_getElem? hd))
  ·rcases mst hw with hw | rfl
   ·rw [ixv,ixs w hw] at hle
    have:=le_s w hw
    omega
   ·exact .refl _
 ·intro p hp0 w hw hlt
  rcases mpt hp0 with hp | rfl
  ·rcases mst hw with hw | rfl
   ·rw [ix p (ne_p p hp),ixs w hw] at hlt
    rw [lw p (ne_p p hp),lw w (ne_s w hw),dne]
    rcases h.lows p hp w hw hlt with hh | ⟨c,c1,c2,c3,c4,c5⟩
    ·exact .inl hh
    ·refine .inr ⟨c,by rw [stk];exact List.mem_append_left _ c1,c2,by rw [ix p (ne_p p hp),ixs c c1];exact c3,by rw [ixs c c1,ixs w hw];exact c4,?_⟩
     rw [lw c (ne_s c c1)]
     exact c5.imp (fun hm=>by rw [pth];exact List.mem_append_left _ hm) id
   ·obtain ⟨c,c1,c2,c3,c4⟩:=lv p hp
    have hcs:c∈(s.enter w).stack:=by
     rw [stk]
     rcases c1 with c1 | rfl
     ·exact List.mem_append_left _ (h.psub c c1)
     ·simp
    refine .inr ⟨c,hcs,c2,by rw [ix p (ne_p p hp)];exact c3,?_, .inl (by rw [pth];simpa using c1)⟩
    rcases c1 with c1 | rfl
    ·rw [ix c (ne_p c c1),ixv]
     have:=le_s c (h.psub c c1)
     omega
    ·exact Nat.le_refl _
  ·rcases mst hw with hw | rfl
   ·rw [ixv,ixs w hw] at hlt
    have:=le_s w hw
    omega
   ·exact absurd hlt (Nat.lt_irrefl _)
theorem Inv.low_le (h:Inv n nx s) {u:Nat} (hu:u∈s.stack):s.low u≤s.idx u:=by
 obtain ⟨w,_,w2,_,w4⟩:=h.lo u hu
 omega
theorem Inv.edge (h:Inv n nx s) {l:List Nat} {p u:Nat} (hp:s.path=l++[p]) (hu:(nx p)[s.done p]? = some u) (hi:s.idx u≠0):Inv n nx (s.edge p u):=by
 have hpm:p∈s.path:=by rw [hp];simp
 have hps:=h.psub p hpm
 have hpi:=(h.mem p).1 hps
 have hlt:s.done p<(nx p).length:=by
  have:=(List.getElem?_eq_some_iff.1 hu).1
  exact this
 have hus:s.part u=0→u∈s.stack:=fun h0=>(h.mem u).2 ⟨hi,h0⟩
 have dn:∀ w,w≠p→(s.edge p u).done w=s.done w:=fun w hw=>upd_other _ _ hw
 have dnp:(s.edge p u).done p=s.done p+1:=upd_same _ _ _
 have lw:∀ w,w≠p→(s.edge p u).low w=s.low w:=fun w hw=>by
  simp only [S.edge]
  split
  ·exact upd_other _ _ hw
  ·rfl
 have lwle:(s.edge p u).low p≤s.low p:=by
  simp only [S.edge]
  split
  ·rw [upd_same];omega
  ·exact Nat.le_refl _
 have lwu:s.part u=0→(s.edge p u).low p≤s.low u:=fun h0=>by
  simp only [S.edge,h0,if_true,upd_same];omega
 have lwor:(s.edge p u).low p=s.low p∨s.part u=0∧(s.edge p u).low p=s.low u:=by
  by_cases h0:s.part u=0
  ·simp only [S.edge,h0,if_true,upd_same]
   by_cases hle:s.low p≤s.low u
   ·left;omega
   ·right;exact ⟨trivial,by omega⟩
  ·left;simp only [S.edge,h0,if_false]
 have edge:Rch nx p u:=.one (List.mem_of_getElem? hu)
 refine ⟨h.rng,h.inj,h.mem,h.srt,h.pix,h.psub,h.psrt,?_,?_,?_,?_,h.clo,h.cls,h.root,?_,?_,h.down,?_⟩
 ·intro w
  by_cases e:w=p
  ·subst e;rw [dnp];exact hlt
  ·rw [dn w e];exact h.dle w
 ·intro w hw
  have e:w≠p:=by rintro rfl;exact hpi.1 hw
  rw [dn w e];exact h.fresh w hw
 ·intro q hq
  by_cases e:q=p
  ·subst e
   refine .inl fun w hw=>?_
   by_cases f:w=q
   ·rw [f];exact Nat.le_refl _
   ·exact Nat.le_of_lt (h.top_max hp w hw f).1
  ·have:=h.link q hq
   rw [← dn q e] at this
   exact this
 ·intro w hw hn
  have e:w≠p:=by rintro rfl;exact hn hpm
  rw [dn w e,lw w e]
  exact h.fin w hw hn
 ·intro v hv
  by_cases e:v=p
  ·subst e
   rcases lwor with e1 | ⟨h0,e1⟩
   ·rw [e1];exact h.lo v hv
   ·obtain ⟨w,w1,w2,w3,w4⟩:=h.lo u (hus h0)
    refine ⟨w,w1,by rw [e1];exact w2,edge.trans w3,?_⟩
    have a:=h.low_le hv
    have b:s.idx w≤s.idx v:=by omega
    exact b
  ·rw [lw v e];exact h.lo v hv
 ·intro v k x hv hk hx
  by_cases e:v=p
  ·subst e
   rw [dnp] at hk
   by_cases hkk:k=s.done v
   ·subst hkk
    rw [hu] at hx
    cases hx
    refine ⟨hi,fun _ h0=>?_⟩
    have a:=lwu h0
    have b:=h.low_le (hus h0)
    exact Nat.le_trans a b
   ·obtain ⟨a,b⟩:=h.seen v k x hv (by omega) hx
    exact ⟨a,fun c d=>Nat.le_trans lwle (b c d)⟩
  ·rw [dn v e] at hk
   rw [lw v e]
   exact h.seen v k x hv hk hx
 ·intro q hq w hw hltw
  by_cases e:q=p
  ·subst e
   left
   have hwne:w≠q:=by rintro rfl;exact Nat.lt_irrefl _ hltw
   rw [lw w hwne]
   rcases h.lows q hq w hw hltw with hh | ⟨c,c1,c2,c3,c4,c5⟩
   ·exact Nat.le_trans lwle hh
   ·rw [hu] at c2
    cases c2
    have h0:=((h.mem u).1 c1).2
    rcases c5 with c5 | c5
    ·have hne:u≠q:=by rintro rfl;exact Nat.lt_irrefl _ c3
     have:=(h.top_max hp u c5 hne).1
     have c3':s.idx q<s.idx u:=c3
     omega
    ·exact Nat.le_trans (lwu h0) c5
  ·rw [lw q e,dn q e]
   by_cases f:w=p
   ·subst f
    right
    rcases h.link q hq with hl | ⟨c,c1,c2,c3,c4⟩
    ·have:=hl w hpm
     have hltw':s.idx q<s.idx w:=hltw
     omega
    ·exact ⟨c,h.psub c c1,c2,c3,c4 w hpm hltw, .inl c1⟩
   ·rw [lw w f]
    rcases h.lows q hq w hw hltw with hh | ⟨c,c1,c2,c3,c4,c5⟩
    ·exact .inl hh
    ·refine .inr ⟨c,c1,c2,c3,c4,?_⟩
     by_cases g:c=p
     ·subst g;exact .inl hpm
     ·rw [lw c g];exact c5
theorem Inv.lows_top (h:Inv n nx s) {l:List Nat} {p:Nat} (hp:s.path=l++[p]) (hd:s.done p=(nx p).length):∀ w∈s.stack,s.idx p≤s.idx w→s.low p≤s.low w:=by
 intro w hw hle
 have hpm:p∈s.path:=by rw [hp];simp
 by_cases e:s.idx p=s.idx w
 ·have:=h.inj p w ((h.mem p).1 (h.psub p hpm)).1 e
  rw [this];exact Nat.le_refl _
 ·rcases h.lows p hpm w hw (by omega) with hh | ⟨c,_,c2,_⟩
  ·exact hh
  ·rw [hd,List.getElem?_eq_none (Nat.le_refl _)] at c2
   cases c2
theorem Inv.link_pop (h:Inv n nx s) {l:List Nat} {p:Nat} (hp:s.path=l++[p]):∀ q∈l,(∀ w∈l,s.idx w≤s.idx q)∨∃ c∈l,(nx q)[s.done q]? = some c∧s.idx q<s.idx c∧∀ w∈l,s.idx q<s.idx w→s.idx c≤s.idx w:=by
 intro q hq
 have hmem:∀ w∈l,w∈s.path:=fun w hw=>by rw [hp];exact List.mem_append_left _ hw
 have hs:=h.psrt
 rw [hp] at hs
 have hlt:∀ w∈l,s.idx w<s.idx p:=fun w hw=>(List.pairwise_append.1 hs).2.2 w hw p (List.mem_singleton.2 rfl)
 rcases h.link q (hmem q hq) with hl | ⟨c,c1,c2,c3,c4⟩
 ·exact .inl fun w hw=>hl w (hmem w hw)
 ·by_cases e:c=p
  ·left
   intro w hw
   by_cases f:s.idx q<s.idx w
   ·have a:=c4 w (hmem w hw) f
    have b:=hlt w hw
    rw [e] at a
    omega
   ·omega
  ·right
   have hc:c∈l:=by
    rw [hp] at c1
    rcases List.mem_append.1 c1 with h | h
    ·exact h
    ·exact absurd (List.mem_singleton.1 h) e
   exact ⟨c,hc,c2,c3,fun w hw hlt=>c4 w (hmem w hw) hlt⟩
theorem Inv.popN (h:Inv n nx s) {l:List Nat} {p:Nat} (hp:s.path=l++[p]) (hd:s.done p=(nx p).length) (hl:s.low p<s.idx p):Inv n nx s.popN:=by
 have hdl:s.popN.path=l:=by simp [S.popN,hp]
 have hmem:∀ w∈l,w∈s.path:=fun w hw=>by rw [hp];exact List.mem_append_left _ hw
 have hsrt:=h.psrt
 rw [hp] at hsrt
 have hnl:p ∉ l:=fun hm=>Nat.lt_irrefl _ ((List.pairwise_append.1 hsrt).2.2 p hm p (List.mem_singleton.2 rfl))
 have hor:∀ w∈s.path,w∈l∨w=p:=fun w hw=>by rw [hp] at hw;simpa using hw
 refine ⟨h.rng,h.inj,h.mem,h.srt,h.pix,fun v hv=>h.psub v (hmem v (hdl ▸ hv)),by rw [hdl];exact (List.pairwise_append.1 hsrt).1,h.dle,h.fresh,?_,?_,h.clo,h.cls,h.root,h.lo,h.seen,fun q hq=>h.down q (hmem q (hdl ▸ hq)),?_⟩
 ·rw [hdl];exact h.link_pop hp
 ·intro v hv hn
  rw [hdl] at hn
  by_cases e:v=p
  ·subst e;exact ⟨hd,hl⟩
  ·exact h.fin v hv fun hm=>by
    rcases hor v hm with hm | hm
    ·exact hn hm
    ·exact e hm
 ·intro q hq w hw hlt
  rw [hdl] at hq ⊢
  rcases h.lows q (hmem q hq) w hw hlt with hh | ⟨c,c1,c2,c3,c4,c5⟩
  ·exact .inl hh
  ·refine .inr ⟨c,c1,c2,c3,c4,?_⟩
   rcases c5 with c5 | c5
   ·rcases hor c c5 with c5 | rfl
    ·exact .inl c5
    ·exact .inr (h.lows_top hp hd w hw c4)
   ·exact .inr c5
theorem Inv.popR (h:Inv n nx s) {l:List Nat} {p:Nat} (hp:s.path=l++[p]) (hd:s.done p=(nx p).length) (hl:¬ s.low p<s.idx p):Inv n nx (s.popR p):=by
 have hdl:(s.popR p).path=l:=by simp [S.popR,hp]
 have hmem:∀ w∈l,w∈s.path:=fun w hw=>by rw [hp];exact List.mem_append_left _ hw
 have hpm:p∈s.path:=by rw [hp];simp
 have hps:=h.psub p hpm
 have hpi:=(h.mem p).1 hps
 have hsrt:=h.psrt
 rw [hp] at hsrt
 have hlt:∀ w∈l,s.idx w<s.idx p:=fun w hw=>(List.pairwise_append.1 hsrt).2.2 w hw p (List.mem_singleton.2 rfl)
 have hor:∀ w∈s.path,w∈l∨w=p:=fun w hw=>by rw [hp] at hw;simpa using hw
 have hlp:s.low p=s.idx p:=by have:=h.low_le hps;omega
 have hR:∀ w∈s.stack,s.idx p≤s.idx w→s.done w=(nx w).length∧s.idx p≤s.low w∧(w=p∨s.low w<s.idx w):=by
  intro w hw hle
  have h1:=h.lows_top hp hd w hw hle
  by_cases e:w=p
  ·subst e;exact ⟨hd,by omega, .inl rfl⟩
  ·have hn:w ∉ s.path:=fun hm=>by have:=(h.top_max hp w hm e).1;omega
   obtain ⟨a,b⟩:=h.fin w hw hn
   exact ⟨a,by omega, .inr b⟩
 have hedge:∀ w∈s.stack,s.idx p≤s.idx w→∀ u∈nx w,s.part u≠0∨(u∈s.stack∧s.idx p≤s.idx u):=by
  intro w hw hle u hu
  obtain ⟨k,hk⟩:=List.mem_iff_getElem?.1 hu
  obtain ⟨a,b,_⟩:=hR w hw hle
  have hwm:=(h.mem w).1 hw
  obtain ⟨c,d⟩:=h.seen w k u hwm.1 (by rw [a];exact (List.getElem?_eq_some_iff.1 hk).1) hk
  by_cases e:s.part u=0
  ·right
   have:=d hwm.2 e
   exact ⟨(h.mem u).2 ⟨c,e⟩,by omega⟩
  ·exact .inl e
 have hback:∀ (m:Nat) (w:Nat),w∈s.stack→s.idx p≤s.idx w→s.idx w=m→Rch nx w p:=by
  intro m
  induction m using Nat.strongRecOn with
  | ind m ih=>
   intro w hw hle hm
   obtain ⟨_,b,c⟩:=hR w hw hle
   rcases c with rfl | c
   ·exact .refl _
   ·obtain ⟨x,x1,x2,x3,x4⟩:=h.lo w hw
    exact x3.trans (ih (s.idx x) (by omega) x x1 (by omega) rfl)
 have hreach:∀ w∈s.stack,s.idx p≤s.idx w→Rch nx p w∧Rch nx w p:=fun w hw hle=>⟨h.down p hpm w hw hle,hback _ w hw hle rfl⟩
 have pin:∀ w,w∈s.stack→s.idx p≤s.idx w→(s.popR p).part w=s.idx p:=fun w hw hle=>by simp only [S.popR];rw [if_pos ⟨hw,hle⟩]
 have pout:∀ w,¬ (w∈s.stack∧s.idx p≤s.idx w)→(s.popR p).part w=s.part w:=fun w hn=>by simp only [S.popR];rw [if_neg hn]
 have stk:∀ w,w∈(s.popR p).stack↔w∈s.stack∧s.idx w<s.idx p:=fun w=>by simp [S.popR]
 have pz:∀ w,(s.popR p).part w=0→s.part w=0:=fun w hw=>by
  by_cases e:w∈s.stack∧s.idx p≤s.idx w
  ·rw [pin w e.1 e.2] at hw;exact absurd hw hpi.1
  ·rw [pout w e] at hw;exact hw
 have hcl:∀ u v,Rch nx u v→s.part u≠0→s.part v≠0:=fun u v hr hu=>hr.closed (K:=fun x=>s.part x≠0) h.clo hu
 refine ⟨h.rng,h.inj,?_,?_,?_,?_,by rw [hdl];exact (List.pairwise_append.1 hsrt).1,h.dle,h.fresh,by rw [hdl];exact h.link_pop hp,?_,?_,?_,?_,?_,?_,?_,?_⟩
 ·intro v
  rw [stk]
  by_cases e:v∈s.stack∧s.idx p≤s.idx v
  ·rw [pin v e.1 e.2]
   constructor
   ·intro hh;omega
   ·intro hh;exact absurd hh.2 hpi.1
  ·rw [pout v e]
   show _↔s.idx v≠0∧s.part v=0
   rw [← h.mem v]
   constructor
   ·exact fun hh=>hh.1
   ·intro hh
    exact ⟨hh,by
     by_cases f:s.idx p≤s.idx v
     ·exact absurd ⟨hh,f⟩ e
     ·omega⟩
 ·exact h.srt.filter _
 ·intro v hv
  by_cases e:v∈s.stack∧s.idx p≤s.idx v
  ·exact ((h.mem v).1 e.1).1
  ·rw [pout v e] at hv;exact h.pix v hv
 ·intro v hv
  rw [hdl] at hv
  exact (stk v).2 ⟨h.psub v (hmem v hv),hlt v hv⟩
 ·intro v hv hn
  rw [hdl] at hn
  obtain ⟨v1,v2⟩:=(stk v).1 hv
  refine h.fin v v1 fun hm=>?_
  rcases hor v hm with hm | rfl
  ·exact hn hm
  ·exact Nat.lt_irrefl _ v2
 ·intro v hv u hu
  by_cases e:v∈s.stack∧s.idx p≤s.idx v
  ·rcases hedge v e.1 e.2 u hu with g | ⟨g1,g2⟩
   ·exact fun hz=>g (pz u hz)
   ·rw [pin u g1 g2];exact hpi.1
  ·rw [pout v e] at hv
   exact fun hz=>h.clo v hv u hu (pz u hz)
 ·intro u v hu hv
  by_cases e:u∈s.stack∧s.idx p≤s.idx u
  ·by_cases f:v∈s.stack∧s.idx p≤s.idx v
   ·rw [pin u e.1 e.2,pin v f.1 f.2]
    obtain ⟨a,b⟩:=hreach u e.1 e.2
    obtain ⟨c,d⟩:=hreach v f.1 f.2
    exact ⟨fun _=>⟨b.trans c,d.trans a⟩,fun _=>rfl⟩
   ·rw [pin u e.1 e.2,pout v f]
    rw [pout v f] at hv
    constructor
    ·intro hh
     obtain ⟨r,r1,r2⟩:=h.root v hv
     have:r=p:=h.inj r p (by rw [r2];exact hv) (by rw [r2,hh])
     rw [this,hpi.2] at r1
     exact absurd r1.symm hv
    ·rintro ⟨_,hb⟩
     exact absurd ((h.mem u).1 e.1).2 (hcl v u hb hv)
  ·rw [pout u e] at hu
   by_cases f:v∈s.stack∧s.idx p≤s.idx v
   ·rw [pout u e,pin v f.1 f.2]
    constructor
    ·intro hh
     obtain ⟨r,r1,r2⟩:=h.root u hu
     have:r=p:=h.inj r p (by rw [r2];exact hu) (by rw [r2,hh])
     rw [this,hpi.2] at r1
     exact absurd r1.symm hu
    ·rintro ⟨ha,_⟩
     exact absurd ((h.mem v).1 f.1).2 (hcl u v ha hu)
   ·rw [pout v f] at hv
    rw [pout u e,pout v f]
    exact h.cls u v hu hv
 ·intro u hu
  by_cases e:u∈s.stack∧s.idx p≤s.idx u
  ·exact ⟨p,by rw [pin u e.1 e.2,pin p hps (Nat.le_refl _)],by rw [pin u e.1 e.2];rfl⟩
  ·rw [pout u e] at hu
   obtain ⟨r,r1,r2⟩:=h.root u hu
   have hr:s.part r≠0:=by rw [r1];exact hu
   refine ⟨r,?_,by rw [pout u e];exact r2⟩
   rw [pout u e,pout r fun hh=>hr ((h.mem r).1 hh.1).2]
   exact r1
 ·intro v hv
  obtain ⟨v1,v2⟩:=(stk v).1 hv
  obtain ⟨w,w1,w2,w3,w4⟩:=h.lo v v1
  exact ⟨w,(stk w).2 ⟨w1,Nat.lt_of_le_of_lt w4 v2⟩,w2,w3,w4⟩
 ·intro v k u hv hk hu
  obtain ⟨a,b⟩:=h.seen v k u hv hk hu
  exact ⟨a,fun c d=>b (pz v c) (pz u d)⟩
 ·intro q hq w hw hle
  rw [hdl] at hq
  exact h.down q (hmem q hq) w ((stk w).1 hw).1 hle
 ·intro q hq w hw hltw
  rw [hdl] at hq ⊢
  obtain ⟨w1,w2⟩:=(stk w).1 hw
  rcases h.lows q (hmem q hq) w w1 hltw with hh | ⟨c,c1,c2,c3,c4,c5⟩
  ·exact .inl hh
  ·have hcp:s.idx c<s.idx p:=Nat.lt_of_le_of_lt c4 w2
   refine .inr ⟨c,(stk c).2 ⟨c1,hcp⟩,c2,c3,c4,c5.imp (fun hm=>?_) id⟩
   rcases hor c hm with hm | rfl
   ·exact hm
   ·exact absurd hcp (Nat.lt_irrefl _)
theorem Inv.shut (h:Inv n nx s) (hp:s.path=[]):s.stack=[]:=by
 have key:∀ (m:Nat) (v:Nat),v∈s.stack→s.idx v=m→False:=by
  intro m
  induction m using Nat.strongRecOn with
  | ind m ih=>
   intro v hv hm
   obtain ⟨_,b⟩:=h.fin v hv (by rw [hp];exact List.not_mem_nil)
   obtain ⟨w,w1,w2,_,_⟩:=h.lo v hv
   exact ih (s.idx w) (by omega) w w1 rfl
 cases hs:s.stack with
 | nil=>rfl
 | cons v r=>exact (key _ v (by rw [hs];simp) rfl).elim
theorem Inv.final (h:Inv n nx s) (hp:s.path=[]) (hall:∀ v,v<n→s.idx v≠0):∀ u v,u<n→v<n→s.part u≠0∧(s.part u=s.part v↔Rch nx u v∧Rch nx v u):=by
 have hs:=h.shut hp
 have hpz:∀ v,v<n→s.part v≠0:=fun v hv hz=>by
  have:=(h.mem v).2 ⟨hall v hv,hz⟩
  rw [hs] at this;cases this
 exact fun u v hu hv=>⟨hpz u hu,h.cls u v (hpz u hu) (hpz v hv)⟩
end
end Go.Tarjan
end
section
namespace Go.Aut
open Go.Bfs Go.Tarjan
def Tk.succ (k:Tk) (x:Pl):List Pl:=(k.moves x).map (k.after x)
end Go.Aut
end
section
set_option linter.unusedSimpArgs false
set_option linter.unusedVariables false
namespace Go.Fnd
open Go.Aut
theorem Wy.mono {acc acc':List En} (h:∀ (i:Nat) (x:En),acc[i]? = some x→acc'[i]? = some x) {i:Nat} {l:List Nat} (hw:Wy acc i l):Wy acc' i l:=by
 induction hw with
 | first h1 h2=>exact .first (h _ _ h1) h2
 | step h1 h2 h3 h4 _ ih=>exact .step (h _ _ h1) (h _ _ h2) h3 h4 ih
theorem Wy.uniq {succ:Nat→List En} {from_:List Nat} {n:Nat} {acc:List En} (hok:Ok succ from_ n acc) {i:Nat} {l:List Nat} (h:Wy acc i l):∀ {l':List Nat},Wy acc i l'→l=l':=by
 induction h with
 | first h1 h2=>
  intro l' k
  cases k with
  | first=>rfl
  | step k1 k2 k3 k4 k5=>
   rw [h1] at k1
   cases k1
   omega
 | step h1 h2 h3 h4 _ ih=>
  intro l' k
  cases k with
  | first k1 k2=>
   rw [h1] at k1
   cases k1
   omega
  | step k1 k2 k3 k4 k5=>
   rw [h1] at k1
   cases k1
   have he:=nodup_at hok.nd h2 k2 (by omega)
   subst he
   rw [ih k5]
structure WR (acc:List En) (ws:List (Nat × List Nat)):Prop where
 len:ws.length=acc.length
 el:∀ (i:Nat) (x:En),acc[i]? = some x→∃ l,ws[i]? = some (x.1,l)∧Wy acc i l
theorem WR.nil:WR [] []:=⟨rfl,fun i x h=>by simp at h⟩
theorem app_get {α:Type} {l t:List α} {i:Nat} {x:α} (h:l[i]? = some x):(l++t)[i]? = some x:=by
 rw [List.getElem?_append_left (List.getElem?_eq_some_iff.1 h).1];exact h
theorem WR.more {acc:List En} {ws:List (Nat × List Nat)} (h:WR acc ws) {x:En} {l:List Nat} (hw:Wy (acc++[x]) acc.length l):WR (acc++[x]) (ws++[(x.1,l)]):=by
 refine ⟨by simp [h.len],fun i y hy=>?_⟩
 by_cases hi:i<acc.length
 ·rw [List.getElem?_append_left hi] at hy
  obtain ⟨l',h1,h2⟩:=h.el i y hy
  exact ⟨l',app_get h1,h2.mono fun _ _ hz=>app_get hz⟩
 ·have hl:=(List.getElem?_eq_some_iff.1 hy).1
  have hi':i=acc.length:=by simp at hl;omega
  subst hi'
  have hx:y=x:=by
   rw [List.getElem?_append_right (Nat.le_refl _),Nat.sub_self] at hy
   exact (Option.some.inj hy).symm
  subst hx
  refine ⟨l,?_,hw⟩
  rw [List.getElem?_append_right (by rw [h.len];exact Nat.le_refl _),h.len,Nat.sub_self]
  rfl
theorem last_get {α:Type} {l:List α} {x:α} : (l++[x])[l.length]? = some x:=by simp
theorem WR.first {acc:List En} {ws:List (Nat × List Nat)} (h:WR acc ws) (q:Nat):WR (acc++[(q,-1,0)]) (ws++[(q,[])]) :=
 h.more (x:=(q,-1,0)) (.first last_get rfl)
theorem WR.step {acc:List En} {ws:List (Nat × List Nat)} (h:WR acc ws) {p q a i:Nat} {l:List Nat} (hi:ws[i]? = some (q,l)):WR (acc++[(p,(q:Int),a)]) (ws++[(p,l++[a])]):=by
 have hil:i<acc.length:=by rw [← h.len];exact (List.getElem?_eq_some_iff.1 hi).1
 obtain ⟨l',h1,h2⟩:=h.el i _ (List.getElem?_eq_getElem hil)
 rw [hi] at h1
 have h3:=Option.some.inj h1
 have e1:q=acc[i].1:=congrArg Prod.fst h3
 have e2:l=l':=congrArg Prod.snd h3
 subst e2
 refine h.more (x:=(p,(q:Int),a)) ?_
 exact .step (x:=(p,(q:Int),a)) last_get (app_get (List.getElem?_eq_getElem hil)) hil (by rw [e1]) (h2.mono fun _ _ hz=>app_get hz)
theorem WR.has {acc:List En} {ws:List (Nat × List Nat)} (h:WR acc ws):ws.map (·.1)=acc.map (·.1):=by
 apply List.ext_getElem?
 intro i
 rw [List.getElem?_map,List.getElem?_map]
 cases ha:acc[i]? with
 | none=>
  rw [List.getElem?_eq_none (by rw [h.len];exact List.getElem?_eq_none_iff.1 ha)]
  rfl
 | some x=>
  obtain ⟨l,h1,_⟩:=h.el i x ha
  rw [h1];rfl
end Go.Fnd
end
