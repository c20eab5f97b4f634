/- Trees of sets of states, and how a letter turns them: what package tree computes, in plain lists. -/
set_option linter.unusedSimpArgs false
set_option linter.unusedVariables false
namespace Go.Tre
structure Nd where
  name:Int
  par:Int
  set:List Int
deriving DecidableEq,Inhabited
def below (t:List Nd) (j:Int):List Int:=(t.filter fun n=>decide (n.par=j)).flatMap (·.set)
theorem below_append (a b:List Nd) (j:Int):below (a++b) j=below a j++below b j:=by simp [below]
theorem below_one (n:Nd) (j:Int):below [n] j=if n.par=j then n.set else []:=by
  by_cases h:n.par=j<;>simp [below,h]
structure NdOk (N:Nat) (d:List Nd) (n:Nd):Prop where
  root:d.length=0→n.par = -1
  par:0<d.length→0≤n.par∧n.par<d.length
  name:1≤n.name∧n.name≤2*N∧n.name ∉ d.map (·.name)
  ne:n.set≠[]
  rng:∀ x∈n.set,0≤x∧x<N
  inc:n.set.Pairwise (· < ·)
  sub:0<d.length→∀ x∈n.set,x∈(d.getD n.par.toNat default).set∧x ∉ below d n.par
def Ok (N:Nat) (t:List Nd):Prop:=∀ i,i<t.length→NdOk N (t.take i) (t.getD i default)
def Tr (N:Nat) (t:List Nd):Prop:=Ok N t∧∀ i,i<t.length→(below t (i:Int)).length≠(t.getD i default).set.length
theorem getD_take {α:Type} {l:List α} {d:α} {i j:Nat} (h:i<j):(l.take j).getD i d=l.getD i d:=by
  simp [List.getD_eq_getElem?_getD,List.getElem?_take,h]
theorem take_one {α:Type} (l:List α) (d:α) {k:Nat} (h:k<l.length):l.take (k+1)=l.take k++[l.getD k d]:=by
  rw [List.take_add_one,List.getD_eq_getElem?_getD,List.getElem?_eq_getElem h];rfl
theorem Ok.snoc {N:Nat} {d:List Nd} {n:Nd} (h:Ok N d) (k:NdOk N d n):Ok N (d++[n]):=by
  intro i hi
  rw [List.length_append,List.length_singleton] at hi
  by_cases e:i<d.length
  · have h1:=h i e
    rw [List.take_append_of_le_length (by omega)]
    have:(d++[n]).getD i default=d.getD i default:=by simp [List.getD_eq_getElem?_getD,List.getElem?_append_left e]
    rw [this]
    exact h1
  · have e:i=d.length:=by omega
    subst e
    have:(d++[n]).getD d.length default=n:=by simp [List.getD_eq_getElem?_getD]
    rw [this,List.take_append_of_le_length (Nat.le_refl _),List.take_length]
    exact k
theorem Ok.take {N:Nat} {t:List Nd} (h:Ok N t) (i:Nat):Ok N (t.take i):=by
  intro j hj
  rw [List.length_take] at hj
  have:=h j (by omega)
  rw [List.take_take,Nat.min_eq_left (by omega),getD_take (by omega)]
  exact this
theorem Ok.nodup {N:Nat} {t:List Nd} (h:Ok N t) (j:Int) (hj:0≤j):(below t j).Nodup:=by
  have key:∀ k,k≤t.length→(below (t.take k) j).Nodup:=by
    intro k
    induction k with
    | zero=>intro _;simp [below]
    | succ k ih=>
      intro hk
      rw [take_one t default (by omega),below_append,below_one]
      have h1:=h k (by omega)
      split
      · rename_i hp
        have hl:(t.take k).length=k:=by rw [List.length_take];omega
        have h0:0<(t.take k).length:=by
          rcases Nat.eq_zero_or_pos (t.take k).length with e | e
          · have:=h1.root e;omega
          · exact e
        refine List.nodup_append.2 ⟨ih (by omega),h1.inc.imp fun h=>by omega,fun x hx y hy e=>?_⟩
        subst e
        have:=(h1.sub h0 x hy).2
        rw [hp] at this
        exact this hx
      · rw [List.append_nil];exact ih (by omega)
  have:=key t.length (Nat.le_refl _)
  rwa [List.take_length] at this
structure Gn where
  name:Int
  par:Int
  set:List Int
  kept:List Int
  old:Bool
  good:Bool
  gone:Bool
deriving Inhabited
def canon (N:Nat) (K:List Int):List Int:=((List.range N).map fun (n:Nat)=>(n:Int)).filter fun x=>decide (x∈K)
theorem mem_canon {N:Nat} {K:List Int} {x:Int} : x∈canon N K↔x∈K∧0≤x∧x<N:=by
  unfold canon
  rw [List.mem_filter,List.mem_map]
  constructor
  · rintro ⟨⟨n,hn,rfl⟩,h⟩
    have:=List.mem_range.1 hn
    exact ⟨by simpa using h,by omega,by omega⟩
  · rintro ⟨h1,h2,h3⟩
    exact ⟨⟨x.toNat,List.mem_range.2 (by omega),by omega⟩,by simpa using h1⟩
theorem range_inc (N:Nat):((List.range N).map fun (n:Nat)=>(n:Int)).Pairwise (· < ·):=by
  rw [List.pairwise_map]
  exact List.pairwise_lt_range.imp fun h=>by omega
theorem canon_inc (N:Nat) (K:List Int):(canon N K).Pairwise (· < ·):=(range_inc N).filter _
theorem canon_length (N:Nat) (K:List Int):(canon N K).length≤N:=by
  have h:=List.length_filter_le (fun x=>decide (x∈K)) ((List.range N).map fun (n:Nat)=>(n:Int))
  simpa [canon] using h
theorem inc_ext:∀ {a b:List Int},a.Pairwise (· < ·)→b.Pairwise (· < ·)→(∀ x,x∈a↔x∈b)→a=b
  | [],[],_,_,_=>rfl
  | [],y::b,_,_,h=>absurd ((h y).2 (by simp)) (by simp)
  | x::a,[],_,_,h=>absurd ((h x).1 (by simp)) (by simp)
  | x :: a, y :: b, ha, hb, h => by
    rw [List.pairwise_cons] at ha hb
    have e:x=y:=by
      have h1:=(h x).1 (by simp)
      have h2:=(h y).2 (by simp)
      rcases List.mem_cons.1 h1 with e | h1
      · exact e
      · rcases List.mem_cons.1 h2 with e | h2
        · exact e.symm
        · have:=ha.1 y h2;have:=hb.1 x h1;omega
    subst e
    congr 1
    refine inc_ext ha.2 hb.2 fun z=>?_
    have hz:=h z
    simp only [List.mem_cons] at hz
    constructor
    · intro hm
      rcases hz.1 (.inr hm) with e | e
      · have:=ha.1 z hm;omega
      · exact e
    · intro hm
      rcases hz.2 (.inr hm) with e | e
      · have:=hb.1 z hm;omega
      · exact e
abbrev Mv:=List (Int × Bool)
def rch (mv:Nat→Mv) (set:List Int) (p:Int × Bool→Bool):List Int:=set.flatMap fun x=>((mv x.toNat).filter p).map (·.1)
def gnOld (N:Nat) (mv:Nat→Mv) (n:Nd):Gn:=⟨n.name,n.par,n.set,canon N (rch mv n.set fun _=>true),true,false,false⟩
def gnNew (N:Nat) (mv:Nat→Mv) (i:Nat) (n:Nd):Gn:=⟨0,i,[],canon N (rch mv n.set fun m=>m.2),false,false,false⟩
def grown (N:Nat) (mv:Nat→Mv) (t:List Nd):List Gn:=t.map (gnOld N mv)++t.mapIdx fun k n=>gnNew N mv k n
def takn (d:List Gn) (j:Int):List Int:=(d.filter fun n=>decide (n.par=j)).flatMap (·.kept)
theorem takn_append (a b:List Gn) (j:Int):takn (a++b) j=takn a j++takn b j:=by simp [takn]
theorem takn_one (n:Gn) (j:Int):takn [n] j=if n.par=j then n.kept else []:=by
  by_cases h:n.par=j<;>simp [takn,h]
def divK (d:List Gn) (n:Gn):List Int:=if 0≤n.par then n.kept.filter fun x=>decide (x∈(d.getD n.par.toNat default).kept) && !decide (x∈takn d n.par) else n.kept
def divN (d:List Gn) (n:Gn):Gn:={ n with kept:=divK d n,gone:=decide ((divK d n).length=0) }
def foldS {α β:Type} (f:List β→α→β) (l:List α):List β:=l.foldl (fun d n=>d++[f d n]) []
theorem foldS_snoc {α β:Type} (f:List β→α→β) (l:List α) (x:α):foldS f (l++[x])=foldS f l++[f (foldS f l) x]:=by simp [foldS]
theorem foldS_length {α β:Type} (f:List β→α→β) (l:List α):(foldS f l).length=l.length:=by
  have h:∀ (l:List α) (d:List β),(l.foldl (fun d n=>d++[f d n]) d).length=d.length+l.length:=by
    intro l
    induction l with
    | nil=>intro d;simp
    | cons x l ih=>intro d;rw [List.foldl_cons,ih];simp;omega
  simpa [foldS] using h l []
def divide (l:List Gn):List Gn:=foldS divN l
def under (l:List Gn) (j:Int):Nat:=((l.filter fun n=>decide (n.par=j)).map (·.kept.length)).sum
theorem under_append (a b:List Gn) (j:Int):under (a++b) j=under a j+under b j:=by simp [under]
theorem under_one (n:Gn) (j:Int):under [n] j=if n.par=j then n.kept.length else 0:=by
  by_cases h:n.par=j<;>simp [under,h]
def colG (d:List Gn) (n:Gn):Bool:=n.gone || (decide (0≤n.par) && ((d.getD n.par.toNat default).good || (d.getD n.par.toNat default).gone))
def colN (l:List Gn) (d:List Gn) (n:Gn):Gn:={ n with gone:=colG d n,good:=!colG d n && decide (under l (d.length:Int)=n.kept.length) }
def collapse (l:List Gn):List Gn:=foldS (colN l) l
def nxt (used:List Int):Nat→Int→Int
  | 0,n=>n+1
  | f+1,n=>if n+1∈used then nxt used f (n+1) else n+1
def namS (used:List Int) (f:Nat):Int→List Gn→List Gn
  | _,[]=>[]
  | n,x::l=>if x.old || x.gone then x::namS used f n l else { x with name:=nxt used (f - n.toNat) n } :: namS used f (nxt used (f - n.toNat) n) l
def usedOf (l:List Gn):List Int:=(l.filter (·.old)).map (·.name)
def named (f:Nat) (l:List Gn):List Gn:=namS (usedOf l) f 0 l
def place (l:List Gn) (i:Int):Int:=if 0≤i then (if (l.getD i.toNat default).gone then 0 else (((l.take i.toNat).filter fun n=>!n.gone).length:Int)) else i
def leave (l:List Gn):List Nd:=(l.filter fun n=>!n.gone).map fun n=>⟨n.name,place l n.par,n.kept⟩
def goods (l:List Gn):List Int:=(l.filter fun n=>!n.gone && n.good).map (·.name)
def bads (l:List Gn):List Int:=(l.filter fun n=>n.gone && n.old).map (·.name)
def listOf (N:Nat) (mv:Nat→Mv) (t:List Nd):List Gn:=named (2*N) (collapse (divide (grown N mv t)))
def step (N:Nat) (mv:Nat→Mv) (t:List Nd):List Nd:=leave (listOf N mv t)
def evG (N:Nat) (mv:Nat→Mv) (t:List Nd):List Int:=(goods (listOf N mv t)).mergeSort fun a b=>decide (a≤b)
def evB (N:Nat) (mv:Nat→Mv) (t:List Nd):List Int:=(bads (listOf N mv t)).mergeSort fun a b=>decide (a≤b)
end Go.Tre
