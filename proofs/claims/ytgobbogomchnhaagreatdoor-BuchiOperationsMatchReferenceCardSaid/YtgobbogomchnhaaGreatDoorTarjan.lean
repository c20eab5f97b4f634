/- A search that numbers what is reached, in order: what it keeps. No program is in sight. -/
set_option linter.unusedSimpArgs false
set_option linter.unusedVariables false
section
namespace Go.Bfs
variable {α:Type} [DecidableEq α]
abbrev Ac (α:Type):=List (α × Int)
def add (acc:Ac α) (p:α) (b:Int):Ac α:=if p∈acc.map (·.1) then acc else acc++[(p,b)]
def adds (acc:Ac α) (l:List α) (b:Int):Ac α:=l.foldl (fun acc p=>add acc p b) acc
def run (succ:α→List α):Nat→Nat→Ac α→Ac α
 | 0,_,acc=>acc
 | f+1,k,acc=>
  match acc[k]? with
  | none=>acc
  | some x=>run succ f (k+1) (adds acc (succ x.1) k)
theorem add_len (acc:Ac α) (p:α) (b:Int):acc.length≤(add acc p b).length:=by unfold add;split<;>simp
theorem add_get {acc:Ac α} {p:α} {b:Int} {i:Nat} (h:i<acc.length):(add acc p b)[i]? = acc[i]? := by
 unfold add;split
 ·rfl
 ·rw [List.getElem?_append_left h]
theorem adds_get {l:List α} : ∀ {acc:Ac α} {b:Int} {i:Nat},i<acc.length→(adds acc l b)[i]? = acc[i]? := by
 induction l with
 | nil=>intros;rfl
 | cons p l ih=>
  intro acc b i h
  have:=ih (acc:=add acc p b) (b:=b) (Nat.lt_of_lt_of_le h (add_len acc p b))
  rw [add_get h] at this
  exact this
theorem add_sub {acc:Ac α} {p:α} {b:Int} {x:α × Int} (h:x∈acc):x∈add acc p b:=by
 unfold add;split
 ·exact h
 ·exact List.mem_append_left _ h
theorem adds_sub {l:List α} : ∀ {acc:Ac α} {b:Int} {x:α × Int},x∈acc→x∈adds acc l b:=by
 induction l with
 | nil=>intro acc b x h;exact h
 | cons p l ih=>intro acc b x h;exact ih (add_sub h)
theorem add_mem (acc:Ac α) (p:α) (b:Int):p∈(add acc p b).map (·.1):=by
 unfold add;split
 ·assumption
 ·simp
theorem adds_mem {l:List α} : ∀ {acc:Ac α} {b:Int} {p:α},p∈l→p∈(adds acc l b).map (·.1):=by
 induction l with
 | nil=>intro acc b p h;cases h
 | cons a l ih=>
  intro acc b p h
  rcases List.mem_cons.1 h with rfl | h
  ·obtain ⟨x,hx,e⟩:=List.mem_map.1 (add_mem acc p b)
   exact List.mem_map.2 ⟨x,adds_sub (l:=l) hx,e⟩
  ·exact ih h
structure Ok (succ:α→List α) (from_:List α) (R:α→Prop) (acc:Ac α):Prop where
 nd:(acc.map (·.1)).Nodup
 rng:∀ x∈acc,R x.1
 way:∀ (i:Nat) (x:α × Int),acc[i]? = some x→(x.2 = -1∧x.1∈from_)∨∃ (j:Nat) (y:α × Int),j<i∧x.2=(j:Int)∧acc[j]? = some y∧x.1∈succ y.1
theorem Ok.nil {β:Type} (succ:β→List β) (from_:List β) (R:β→Prop):Ok succ from_ R []:=⟨by simp,(fun x h=>by cases h),(fun i x h=>by simp at h)⟩
theorem Ok.add {succ:α→List α} {from_:List α} {R:α→Prop} {acc:Ac α} (h:Ok succ from_ R acc) {p:α} {b:Int} (hR:R p) (hb:(b = -1∧p∈from_)∨∃ (j:Nat) (y:α × Int),b=(j:Int)∧acc[j]? = some y∧p∈succ y.1):Ok succ from_ R (add acc p b):=by
 unfold Bfs.add
 split
 ·exact h
 ·rename_i hn
  refine ⟨?_,?_,?_⟩
  ·rw [List.map_append,List.nodup_append]
   exact ⟨h.nd,by simp,fun a ha c hc=>by
    rintro rfl
    rw [List.map_cons,List.map_nil,List.mem_singleton] at hc
    rw [hc] at ha
    exact hn ha⟩
  ·intro x hx
   rcases List.mem_append.1 hx with hx | hx
   ·exact h.rng x hx
   ·rw [List.mem_singleton.1 hx];exact hR
  ·intro i x hx
   by_cases hi:i<acc.length
   ·rw [List.getElem?_append_left hi] at hx
    rcases h.way i x hx with hh | ⟨j,y,h1,h2,h3,h4⟩
    ·exact .inl hh
    ·exact .inr ⟨j,y,h1,h2,by rw [List.getElem?_append_left (by omega)];exact h3,h4⟩
   ·rw [List.getElem?_append_right (by omega)] at hx
    have hi':i - acc.length=0:=by
     have:=(List.getElem?_eq_some_iff.1 hx).1
     simpa using this
    rw [hi'] at hx
    cases hx
    rcases hb with hb | ⟨j,y,h1,h2,h3⟩
    ·exact .inl hb
    ·have hj:=(List.getElem?_eq_some_iff.1 h2).1
     exact .inr ⟨j,y,by omega,h1,by rw [List.getElem?_append_left hj];exact h2,h3⟩
theorem Ok.adds {succ:α→List α} {from_:List α} {R:α→Prop} : ∀ {l:List α} {acc:Ac α} (h:Ok succ from_ R acc) {b:Int} (hR:∀ p∈l,R p) (hb:∀ p∈l,(b = -1∧p∈from_)∨∃ (j:Nat) (y:α × Int),b=(j:Int)∧acc[j]? = some y∧p∈succ y.1),Ok succ from_ R (adds acc l b):=by
 intro l
 induction l with
 | nil=>intro acc h b _ _;exact h
 | cons p l ih=>
  intro acc h b hR hb
  refine ih (h.add (hR p (by simp)) (hb p (by simp))) (fun q hq=>hR q (List.mem_cons_of_mem _ hq)) fun q hq=>?_
  rcases hb q (List.mem_cons_of_mem _ hq) with hh | ⟨j,y,h1,h2,h3⟩
  ·exact .inl hh
  ·exact .inr ⟨j,y,h1,by rw [add_get (List.getElem?_eq_some_iff.1 h2).1];exact h2,h3⟩
theorem Ok.first {succ:α→List α} {from_:List α} {R:α→Prop} (hR:∀ p∈from_,R p):Ok succ from_ R (Bfs.adds [] from_ (-1)):=(Ok.nil succ from_ R).adds hR fun p hp=>.inl ⟨rfl,hp⟩
theorem Ok.step {succ:α→List α} {from_:List α} {R:α→Prop} {acc:Ac α} (h:Ok succ from_ R acc) (hs:∀ p,R p→∀ q∈succ p,R q) {k:Nat} {x:α × Int} (hk:acc[k]? = some x):Ok succ from_ R (Bfs.adds acc (succ x.1) k) :=
 h.adds (fun p hp=>hs _ (h.rng x (List.mem_of_getElem? hk)) p hp) fun p hp=>.inr ⟨k,x,rfl,hk,hp⟩
def Cl (succ:α→List α) (acc:Ac α) (k:Nat):Prop:=∀ (i:Nat) (x:α × Int),i<k→acc[i]? = some x→∀ p∈succ x.1,p∈acc.map (·.1)
theorem Cl.step {succ:α→List α} {acc:Ac α} {k:Nat} (h:Cl succ acc k) {x:α × Int} (hk:acc[k]? = some x):Cl succ (adds acc (succ x.1) k) (k+1):=by
 intro i y hi hy p hp
 have hkl:=(List.getElem?_eq_some_iff.1 hk).1
 rw [adds_get (by omega)] at hy
 by_cases he:i=k
 ·subst he
  rw [hk] at hy;cases hy
  exact adds_mem hp
 ·obtain ⟨z,hz,rfl⟩:=List.mem_map.1 (h i y (by omega) hy p hp)
  exact List.mem_map.2 ⟨z,adds_sub hz,rfl⟩
def back (acc:Ac α):Nat→Int→List Nat
 | 0,_=>[]
 | f+1,i=>if i<0 then [] else i.toNat::back acc f (match acc[i.toNat]? with | some x=>x.2 | none=>-1)
def idx (p:α):List α→Nat→Option Nat
 | [],_=>none
 | q::r,i=>if p=q then some i else idx p r (i+1)
theorem idx_none {p:α} : ∀ {l:List α} {i:Nat},idx p l i=none↔p ∉ l:=by
 intro l
 induction l with
 | nil=>intro i;simp [idx]
 | cons q r ih=>
  intro i
  simp only [idx]
  split
  ·rename_i h;simp [h]
  ·rename_i h;rw [ih];simp [h]
theorem idx_some {p:α} : ∀ {l:List α} {i j:Nat},idx p l i=some j→i≤j∧l[j - i]? = some p:=by
 intro l
 induction l with
 | nil=>intro i j h;cases h
 | cons q r ih=>
  intro i j h
  simp only [idx] at h
  split at h
  ·rename_i e;cases h;subst e;simp
  ·obtain ⟨a,b⟩:=ih h
   exact ⟨by omega,by rw [show j - i=j - (i+1)+1 by omega];simpa using b⟩
end Go.Bfs
end
section
namespace Go.Aut
abbrev Mv:=Nat→Nat→List (Nat × Bool)
inductive Walk {α:Type} (E:α→α→Prop):Nat→α→α→Prop
 | nil (x:α):Walk E 0 x x
 | cons {n:Nat} {x y z:α} (h:E x y) (k:Walk E n y z):Walk E (n+1) x z
theorem Walk.trans {α:Type} {E:α→α→Prop} {m n:Nat} {x y z:α} (h:Walk E m x y) (k:Walk E n y z):Walk E (m+n) x z:=by
 induction h with
 | nil=>simpa using k
 | cons e _ ih=>rw [Nat.add_right_comm];exact .cons e (ih k)
theorem Walk.fn {α:Type} {E:α→α→Prop} {n:Nat} {x y:α} (h:Walk E n x y):∃ f:Nat→α,f 0=x∧f n=y∧∀ i,i<n→E (f i) (f (i+1)):=by
 induction h with
 | nil x=>exact ⟨fun _=>x,rfl,rfl,fun i hi=>absurd hi (Nat.not_lt_zero _)⟩
 | @cons n x y z e _ ih=>
  obtain ⟨f,h0,h1,h2⟩:=ih
  refine ⟨fun i=>match i with | 0=>x | i+1=>f i,rfl,h1,fun i hi=>?_⟩
  cases i with
  | zero=>simpa [h0] using e
  | succ i=>exact h2 i (by omega)
theorem pig (n:Nat):∀ l:List Nat,l.Nodup→(∀ x∈l,x<n)→l.length≤n:=by
 induction n with
 | zero=>
  intro l _ h
  cases l with
  | nil=>simp
  | cons a l=>exact absurd (h a (by simp)) (Nat.not_lt_zero _)
 | succ n ih=>
  intro l hd h
  by_cases hm:n∈l
  ·have h1:=ih (l.erase n) (hd.erase n) fun x hx=>by
    have a:=h x (List.mem_of_mem_erase hx)
    have b:x≠n:=by rintro rfl;exact (List.Nodup.not_mem_erase hd) hx
    omega
   rw [List.length_erase_of_mem hm] at h1
   omega
  ·have:=ih l hd fun x hx=>by
    have a:=h x hx
    have b:x≠n:=by rintro rfl;exact hm hx
    omega
   omega
structure Tk where
 n:Nat
 back:Nat
 lt:Nat→Nat
 mv:Mv
def Tk.nxt (k:Tk) (p:Nat):Nat:=if p+1=k.n then k.back else p+1
def Tk.pos (k:Tk):Nat→Nat
 | 0=>0
 | i+1=>k.nxt (k.pos i)
abbrev Pl:=Nat × Nat
def Tk.moves (k:Tk) (x:Pl):List (Nat × Bool):=k.mv x.2 (k.lt x.1)
def Tk.after (k:Tk) (x:Pl) (m:Nat × Bool):Pl:=(k.nxt x.1,m.1)
def Tk.E (k:Tk) (x y:Pl):Prop:=∃ m∈k.moves x,k.after x m=y
end Go.Aut
end
section
namespace Go.Tarjan
inductive Rch (nx:Nat→List Nat):Nat→Nat→Prop
 | refl (u:Nat):Rch nx u u
 | head {u v w:Nat} (h:v∈nx u) (k:Rch nx v w):Rch nx u w
theorem Rch.trans {nx:Nat→List Nat} {u v w:Nat} (h:Rch nx u v) (k:Rch nx v w):Rch nx u w:=by
 induction h with
 | refl=>exact k
 | head e _ ih=>exact .head e (ih k)
theorem Rch.one {nx:Nat→List Nat} {u v:Nat} (h:v∈nx u):Rch nx u v:=.head h (.refl v)
theorem Rch.closed {nx:Nat→List Nat} {u v:Nat} (h:Rch nx u v) {K:Nat→Prop} (hK:∀ a,K a→∀ b∈nx a,K b) (hu:K u):K v:=by
 induction h with
 | refl=>exact hu
 | head e _ ih=>exact ih (hK _ hu _ e)
def upd (f:Nat→Nat) (v x:Nat):Nat→Nat:=fun u=>if u=v then x else f u
@[simp] theorem upd_same (f:Nat→Nat) (v x:Nat):upd f v x v=x:=by simp [upd]
theorem upd_other (f:Nat→Nat) {v u:Nat} (x:Nat) (h:u≠v):upd f v x u=f u:=by simp [upd,h]
structure S where
 idx:Nat→Nat
 low:Nat→Nat
 part:Nat→Nat
 done:Nat→Nat
 cnt:Nat
 stack:List Nat
 path:List Nat
structure Inv (n:Nat) (nx:Nat→List Nat) (s:S):Prop where
 rng:∀ v,s.idx v≠0→v<n∧s.idx v≤s.cnt
 inj:∀ u v,s.idx u≠0→s.idx u=s.idx v→u=v
 mem:∀ v,v∈s.stack↔s.idx v≠0∧s.part v=0
 srt:s.stack.Pairwise fun a b=>s.idx a<s.idx b
 pix:∀ v,s.part v≠0→s.idx v≠0
 psub:∀ v∈s.path,v∈s.stack
 psrt:s.path.Pairwise fun a b=>s.idx a<s.idx b
 dle:∀ v,s.done v≤(nx v).length
 fresh:∀ v,s.idx v=0→s.done v=0
 link:∀ q∈s.path,(∀ w∈s.path,s.idx w≤s.idx q)∨∃ c∈s.path,(nx q)[s.done q]? = some c∧s.idx q<s.idx c∧∀ w∈s.path,s.idx q<s.idx w→s.idx c≤s.idx w
 fin:∀ v∈s.stack,v ∉ s.path→s.done v=(nx v).length∧s.low v<s.idx v
 clo:∀ v,s.part v≠0→∀ u∈nx v,s.part u≠0
 cls:∀ u v,s.part u≠0→s.part v≠0→(s.part u=s.part v↔Rch nx u v∧Rch nx v u)
 root:∀ u,s.part u≠0→∃ r,s.part r=s.part u∧s.idx r=s.part u
 lo:∀ v∈s.stack,∃ w∈s.stack,s.idx w=s.low v∧Rch nx v w∧s.idx w≤s.idx v
 seen:∀ v k u,s.idx v≠0→k<s.done v→(nx v)[k]? = some u→s.idx u≠0∧(s.part v=0→s.part u=0→s.low v≤s.idx u)
 down:∀ p∈s.path,∀ w∈s.stack,s.idx p≤s.idx w→Rch nx p w
 lows:∀ p∈s.path,∀ w∈s.stack,s.idx p<s.idx w→s.low p≤s.low w∨∃ c∈s.stack,(nx p)[s.done p]? = some c∧s.idx p<s.idx c∧s.idx c≤s.idx w∧(c∈s.path∨s.low c≤s.low w)
def S.init:S:=⟨fun _=>0,fun _=>0,fun _=>0,fun _=>0,0,[],[]⟩
def S.enter (s:S) (v:Nat):S:=⟨upd s.idx v (s.cnt+1),upd s.low v (s.cnt+1),s.part,s.done,s.cnt+1,s.stack++[v],s.path++[v]⟩
section
variable {n:Nat} {nx:Nat→List Nat} {s:S}
theorem Inv.top_max (h:Inv n nx s) {l:List Nat} {p:Nat} (hp:s.path=l++[p]):∀ w∈s.path,w≠p→s.idx w<s.idx p∧w∈l:=by
 intro w hw hne
 have hs:=h.psrt
 rw [hp] at hs hw
 rcases List.mem_append.1 hw with hw | hw
 ·exact ⟨(List.pairwise_append.1 hs).2.2 w hw p (List.mem_singleton.2 rfl),hw⟩
 ·exact absurd (List.mem_singleton.1 hw) hne
theorem Inv.enter (h:Inv n nx s) {v:Nat} (hv:v<n) (h0:s.idx v=0) (ht:s.path=[]∨∃ l p,s.path=l++[p]∧(nx p)[s.done p]? = some v):Inv n nx (s.enter v):=by
 have hpv:s.part v=0:=by
  by_cases hh:s.part v=0
  ·exact hh
  ·exact absurd h0 (h.pix v hh)
 have hns:v ∉ s.stack:=fun hm=>((h.mem v).1 hm).1 h0
 have hnp:v ∉ s.path:=fun hm=>hns (h.psub v hm)
 have ne_s:∀ w∈s.stack,w≠v:=fun w hw e=>hns (e ▸ hw)
 have ne_p:∀ w∈s.path,w≠v:=fun w hw e=>hnp (e ▸ hw)
 have ix:∀ w,w≠v→(s.enter v).idx w=s.idx w:=fun w hw=>upd_other _ _ hw
 have lw:∀ w,w≠v→(s.enter v).low w=s.low w:=fun w hw=>upd_other _ _ hw
 have ixv:(s.enter v).idx v=s.cnt+1:=upd_same _ _ _
 have lwv:(s.enter v).low v=s.cnt+1:=upd_same _ _ _
 have le_s:∀ w∈s.stack,s.idx w≤s.cnt:=fun w hw=>(h.rng w ((h.mem w).1 hw).1).2
 have ixs:∀ w∈s.stack,(s.enter v).idx w=s.idx w:=fun w hw=>ix w (ne_s w hw)
 have stk:(s.enter v).stack=s.stack++[v]:=rfl
 have pth:(s.enter v).path=s.path++[v]:=rfl
 have prt:(s.enter v).part=s.part:=rfl
 have dne:(s.enter v).done=s.done:=rfl
 have cnt:(s.enter v).cnt=s.cnt+1:=rfl
 have mst:∀ {w},w∈(s.enter v).stack→w∈s.stack∨w=v:=fun {w} hw=>by simpa [stk] using hw
 have mpt:∀ {w},w∈(s.enter v).path→w∈s.path∨w=v:=fun {w} hw=>by simpa [pth] using hw
 have lv : ∀ q ∈ s.path, ∃ c, (c ∈ s.path ∨ c = v) ∧ (nx q)[s.done q]? = some c ∧ s.idx q < (s.enter v).idx c ∧ ∀ w, w ∈ s.path ∨ w = v → s.idx q < (s.enter v).idx w → (s.enter v).idx c ≤ (s.enter v).idx w := by
  intro q hq
  rcases h.link q hq with hl | ⟨c,c1,c2,c3,c4⟩
  ·rcases ht with ht | ⟨l,p,hp,hd⟩
   ·rw [ht] at hq;cases hq
   ·have hpm:p∈s.path:=by rw [hp];simp
    have hqp:q=p:=by
     by_cases e:q=p
     ·exact e
     ·have a:=(h.top_max hp q hq e).1
      have b:=hl p hpm
      omega
    subst hqp
    refine ⟨v, .inr rfl,hd,?_,fun w hw hlt=>?_⟩
    ·rw [ixv];have:=le_s q (h.psub q hq);omega
    ·rcases hw with hw | rfl
     ·rw [ix w (ne_p w hw)] at hlt
      have:=hl w hw
      omega
     ·exact Nat.le_refl _
  ·refine ⟨c, .inl c1,c2,by rw [ix c (ne_p c c1)];exact c3,fun w hw hlt=>?_⟩
   rw [ix c (ne_p c c1)]
   rcases hw with hw | rfl
   ·rw [ix w (ne_p w hw)] at hlt ⊢
    exact c4 w hw hlt
   ·rw [ixv]
    have:=le_s c (h.psub c c1)
    omega
 constructor
 ·intro w hw
  by_cases e:w=v
  ·subst e;exact ⟨hv,by rw [ixv,cnt];exact Nat.le_refl _⟩
  ·rw [ix w e] at hw ⊢
   have:=h.rng w hw
   exact ⟨this.1,by rw [cnt];omega⟩
 ·intro a b ha hab
  by_cases e:a=v
  ·by_cases f:b=v
   ·rw [e,f]
   ·subst e
    rw [ixv,ix b f] at hab
    have:=h.rng b (by omega)
    omega
  ·by_cases f:b=v
   ·subst f
    rw [ixv,ix a e] at hab
    rw [ix a e] at ha
    have:=h.rng a ha
    omega
   ·rw [ix a e,ix b f] at hab
    rw [ix a e] at ha
    exact h.inj a b ha hab
 ·intro w
  rw [stk,prt,List.mem_append,List.mem_singleton]
  by_cases e:w=v
  ·subst e
   simp [ixv,hpv]
  ·rw [ix w e,← h.mem w]
   simp [e]
 ·rw [stk]
  refine List.pairwise_append.2 ⟨h.srt.imp_of_mem fun ha hb hab=>by rw [ixs _ ha,ixs _ hb];exact hab,List.pairwise_singleton _ _,fun a ha b hb=>?_⟩
  rw [List.mem_singleton.1 hb,ixs a ha,ixv]
  have:=le_s a ha
  omega
 ·intro w hw
  by_cases e:w=v
  ·subst e;exact absurd hpv hw
  ·rw [ix w e];exact h.pix w hw
 ·intro w hw
  rcases mpt hw with hw | rfl
  ·rw [stk];exact List.mem_append_left _ (h.psub w hw)
  ·rw [stk];simp
 ·rw [pth]
  refine List.pairwise_append.2 ⟨h.psrt.imp_of_mem fun ha hb hab=>by rw [ix _ (ne_p _ ha),ix _ (ne_p _ hb)];exact hab,List.pairwise_singleton _ _,fun a ha b hb=>?_⟩
  rw [List.mem_singleton.1 hb,ix a (ne_p a ha),ixv]
  have:=le_s a (h.psub a ha)
  omega
 ·exact h.dle
 ·intro w hw
  rw [dne]
  by_cases e:w=v
  ·subst e;exact h.fresh _ h0
  ·rw [ix w e] at hw;exact h.fresh w hw
 ·intro q hq
  rcases mpt hq with hq | rfl
  ·obtain ⟨c,c1,c2,c3,c4⟩:=lv q hq
   refine .inr ⟨c,by rw [pth];simpa using c1,c2,by rw [ix q (ne_p q hq)];exact c3,fun w hw hlt=>?_⟩
   rw [ix q (ne_p q hq)] at hlt
   exact c4 w (mpt hw) hlt
  ·refine .inl fun w hw=>?_
   rcases mpt hw with hw | rfl
   ·rw [ix w (ne_p w hw),ixv]
    have:=le_s w (h.psub w hw)
    omega
   ·exact Nat.le_refl _
 ·intro w hw hn
  rcases mst hw with hw | rfl
  ·rw [ixs w hw,lw w (ne_s w hw),dne]
   exact h.fin w hw fun hm=>hn (by rw [pth];exact List.mem_append_left _ hm)
  ·exact absurd (by rw [pth];simp) hn
 ·exact h.clo
 ·exact h.cls
 ·intro u hu
  obtain ⟨r,r1,r2⟩:=h.root u hu
  refine ⟨r,r1,?_⟩
  rw [ix r ?_]
  ·exact r2
  ·rintro rfl
   rw [h0] at r2
   exact hu r2.symm
 ·intro w hw
  rcases mst hw with hw | rfl
  ·obtain ⟨x,x1,x2,x3,x4⟩:=h.lo w hw
   exact ⟨x,by rw [stk];exact List.mem_append_left _ x1,by rw [ixs x x1,lw w (ne_s w hw)];exact x2,x3,by rw [ixs x x1,ixs w hw];exact x4⟩
  ·exact ⟨w,by rw [stk];simp,by rw [ixv,lwv], .refl _,Nat.le_refl _⟩
 ·intro a k u ha hk hu
  rw [dne] at hk
  by_cases e:a=v
  ·subst e
   rw [h.fresh _ h0] at hk
   exact absurd hk (Nat.not_lt_zero _)
  ·rw [ix a e] at ha
   obtain ⟨b1,b2⟩:=h.seen a k u ha hk hu
   have hne:u≠v:=by rintro rfl;exact b1 h0
   rw [ix u hne,lw a e]
   exact ⟨b1,b2⟩
 ·intro p hp0 w hw hle
  rcases mpt hp0 with hp | rfl
  ·rcases mst hw with hw | rfl
   ·rw [ix p (ne_p p hp),ixs w hw] at hle
    exact h.down p hp w hw hle
   ·rcases ht with ht | ⟨l,t,hpt,hd⟩
    ·rw [ht] at hp;cases hp
    ·have htm:t∈s.path:=by rw [hpt];simp
     have hle2:s.idx p≤s.idx t:=by
      by_cases e:p=t
      ·rw [e];exact Nat.le_refl _
      ·exact Nat.le_of_lt (h.top_max hpt p hp e).1
     exact (h.down p hp t (h.psub t htm) hle2).trans (.one (List.mem_of_getElem? hd))
  ·rcases mst hw with hw | rfl
   ·rw [ixv,ixs w hw] at hle
    have:=le_s w hw
    omega
   ·exact .refl _
 ·intro p hp0 w hw hlt
  rcases mpt hp0 with hp | rfl
  ·rcases mst hw with hw | rfl
   ·rw [ix p (ne_p p hp),ixs w hw] at hlt
    rw [lw p (ne_p p hp),lw w (ne_s w hw),dne]
    rcases h.lows p hp w hw hlt with hh | ⟨c,c1,c2,c3,c4,c5⟩
    ·exact .inl hh
    ·refine .inr ⟨c,by rw [stk];exact List.mem_append_left _ c1,c2,by rw [ix p (ne_p p hp),ixs c c1];exact c3,by rw [ixs c c1,ixs w hw];exact c4,?_⟩
     rw [lw c (ne_s c c1)]
     exact c5.imp (fun hm=>by rw [pth];exact List.mem_append_left _ hm) id
   ·obtain ⟨c,c1,c2,c3,c4⟩:=lv p hp
    have hcs:c∈(s.enter w).stack:=by
     rw [stk]
     rcases c1 with c1 | rfl
     ·exact List.mem_append_left _ (h.psub c c1)
     ·simp
    refine .inr ⟨c,hcs,c2,by rw [ix p (ne_p p hp)];exact c3,?_, .inl (by rw [pth];simpa using c1)⟩
    rcases c1 with c1 | rfl
    ·rw [ix c (ne_p c c1),ixv]
     have:=le_s c (h.psub c c1)
     omega
    ·exact Nat.le_refl _
  ·rcases mst hw with hw | rfl
   ·rw [ixv,ixs w hw] at hlt
    have:=le_s w hw
    omega
   ·exact absurd hlt (Nat.lt_irrefl _)
theorem Inv.shut (h:Inv n nx s) (hp:s.path=[]):s.stack=[]:=by
 have key:∀ (m:Nat) (v:Nat),v∈s.stack→s.idx v=m→False:=by
  intro m
  induction m using Nat.strongRecOn with
  | ind m ih=>
   intro v hv hm
   obtain ⟨_,b⟩:=h.fin v hv (by rw [hp];exact List.not_mem_nil)
   obtain ⟨w,w1,w2,_,_⟩:=h.lo v hv
   exact ih (s.idx w) (by omega) w w1 rfl
 cases hs:s.stack with
 | nil=>rfl
 | cons v r=>exact (key _ v (by rw [hs];simp) rfl).elim
end
end Go.Tarjan
end
section
namespace Go.Aut
open Go.Bfs Go.Tarjan
def Tk.succ (k:Tk) (x:Pl):List Pl:=(k.moves x).map (k.after x)
end Go.Aut
end
