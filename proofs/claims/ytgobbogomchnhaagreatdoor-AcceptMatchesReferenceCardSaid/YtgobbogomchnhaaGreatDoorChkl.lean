/- Accepting runs given as paths: plain. -/
import Derived.Test.YtgobbogomchnhaaGreatDoorSufp
import Derived.Test.YtgobbogomchnhaaGreatDoorNewtrack
set_option linter.unusedSimpArgs false
set_option linter.unusedVariables false
section
set_option linter.unusedSimpArgs false
set_option linter.unusedVariables false
namespace Go.Proofs.YtgobbogomchnhaaGreatDoor
open Go Go.Pv Go.Aut Go.Bfs
open Classical
def pbef (S P:List Int):Nat:=max P.length S.length
def pper (L Q:List Int):Nat:=Q.length / Nat.gcd Q.length L.length*L.length
structure CK (B:Bu) (S L P Q:List Int):Prop where
 vb:Vb B
 fm:Fm S L∧AllB S B.L∧AllB L B.L
 q1:1≤Q.length
 st:lett P Q 0∈B.start
 mv:∀ i,i<pbef S P+pper L Q→∃ g,(lett P Q (i+1),g)∈mvs B (lett P Q i) (lett S L i)
 gd:∃ i,pbef S P≤i∧i<pbef S P+pper L Q∧(lett P Q (i+1),true)∈mvs B (lett P Q i) (lett S L i)
theorem pper_dvd {L Q:List Int} : Q.length ∣ pper L Q∧L.length ∣ pper L Q:=by
 unfold pper
 have hg1:=Nat.gcd_dvd_left Q.length L.length
 have hg2:=Nat.gcd_dvd_right Q.length L.length
 refine ⟨?_,Nat.dvd_mul_left _ _⟩
 obtain ⟨c,hc⟩:=hg2
 obtain ⟨a,ha⟩:=hg1
 by_cases h0:Nat.gcd Q.length L.length=0
 ·rw [h0,Nat.div_zero,Nat.zero_mul]
  exact Nat.dvd_zero _
 ·have hd:Q.length / Nat.gcd Q.length L.length=a:=by
   conv=>lhs;lhs;rw [ha]
   exact Nat.mul_div_cancel_left a (by omega)
  rw [hd]
  refine ⟨c,?_⟩
  conv=>lhs;rhs;rw [hc]
  conv=>rhs;lhs;rw [ha]
  rw [Nat.mul_assoc,Nat.mul_left_comm]
theorem pper_pos {L Q:List Int} (hQ:1≤Q.length) (hL:1≤L.length):1≤pper L Q:=by
 unfold pper
 have h1:Nat.gcd Q.length L.length≤Q.length:=Nat.le_of_dvd hQ (Nat.gcd_dvd_left _ _)
 have h2:0<Nat.gcd Q.length L.length:=Nat.gcd_pos_of_pos_left _ hQ
 have h3:1≤Q.length / Nat.gcd Q.length L.length:=Nat.div_pos h1 h2
 exact Nat.mul_le_mul h3 hL
theorem lett_cong {S L:List Int} {a b:Nat} (ha:S.length≤a) (hb:S.length≤b) (h:(a - S.length) % L.length=(b - S.length) % L.length):lett S L a=lett S L b:=by
 simp only [lett]
 rw [if_neg (by omega),if_neg (by omega),h]
def red (b p i:Nat):Nat:=if i<b then i else b+(i - b) % p
theorem lett_red {S L:List Int} {b p:Nat} (hb:S.length≤b) (hp:L.length ∣ p) (i j:Nat):lett S L (i+j)=lett S L (red b p i+j):=by
 unfold red
 split
 ·rfl
 ·obtain ⟨c,rfl⟩:=hp
  refine lett_cong (by omega) (by omega) ?_
  have e1:i+j - S.length=(i - b)+(b+j - S.length):=by omega
  have e2:b+(i - b) % (L.length*c)+j - S.length=(i - b) % (L.length*c)+(b+j - S.length):=by omega
  rw [e1,e2,Nat.add_mod,Nat.add_mod ((i - b) % (L.length*c)),Nat.mod_mul_right_mod]
theorem mvs_bmv {B:Bu} {p a x:Int} {g:Bool} (h:(x,g)∈mvs B p a):(x.toNat,g)∈bmv B p.toNat a.toNat:=List.mem_map.2 ⟨(x,g),h,rfl⟩
theorem ck_acc {B:Bu} {S L P Q:List Int} (h:CK B S L P Q):AW B S L:=by
 obtain ⟨d1,d2⟩:=pper_dvd (L:=L) (Q:=Q)
 have hp:=pper_pos h.q1 h.fm.1.2.1
 have hbS:S.length≤pbef S P:=Nat.le_max_right _ _
 have hbP:P.length≤pbef S P:=Nat.le_max_left _ _
 have hmv:∀ i,∃ g,(lett P Q (i+1),g)∈mvs B (lett P Q i) (lett S L i):=by
  intro i
  have hr:red (pbef S P) (pper L Q) i<pbef S P+pper L Q:=by
   unfold red
   split
   ·omega
   ·have:=Nat.mod_lt (i - pbef S P) (show pper L Q > 0 by omega)
    omega
  obtain ⟨g,hg⟩:=h.mv _ hr
  refine ⟨g,?_⟩
  have e1:=lett_red (L:=Q) hbP d1 i 1
  have e2:=lett_red (L:=Q) hbP d1 i 0
  have e3:=lett_red (L:=L) hbS d2 i 0
  simp only [Nat.add_zero] at e2 e3
  rw [e1,e2,e3]
  exact hg
 refine ⟨h.vb,h.fm,fun i=>(lett P Q i).toNat,fun i=>decide ((lett P Q (i+1),true)∈mvs B (lett P Q i) (lett S L i)),?_,fun i=>?_,fun T=>?_⟩
 ·show (((lett P Q 0).toNat:Nat):Int)∈B.start
  rw [(start_nat h.vb h.st).1]
  exact h.st
 ·show ((lett P Q (i+1)).toNat,decide ((lett P Q (i+1),true)∈mvs B (lett P Q i) (lett S L i)))∈bmv B (lett P Q i).toNat (lett S L i).toNat
  by_cases hg:(lett P Q (i+1),true)∈mvs B (lett P Q i) (lett S L i)
  ·rw [decide_eq_true hg]
   exact mvs_bmv hg
  ·rw [decide_eq_false hg]
   obtain ⟨g,hg'⟩:=hmv i
   cases g with
   | true=>exact absurd hg' hg
   | false=>exact mvs_bmv hg'
 ·obtain ⟨i,h1,h2,h3⟩:=h.gd
  refine ⟨i+pper L Q*T,?_,?_⟩
  ·have:1*T≤pper L Q*T:=Nat.mul_le_mul_right _ hp
   omega
  ·show decide _=true
   refine decide_eq_true ?_
   have key:∀ {X Y:List Int} (j:Nat),X.length≤pbef S P→Y.length ∣ pper L Q→lett X Y (i+pper L Q*T+j)=lett X Y (i+j):=by
    intro X Y j hX hY
    obtain ⟨c,hc⟩:=hY
    refine lett_cong (by omega) (by omega) ?_
    have e:i+pper L Q*T+j - X.length=(i+j - X.length)+Y.length*(c*T):=by
     rw [hc,Nat.mul_assoc]
     omega
    rw [e,Nat.add_mul_mod_self_left]
   have e1:=key (X:=P) (Y:=Q) 1 hbP d1
   have e2:=key (X:=P) (Y:=Q) 0 hbP d1
   have e3:=key (X:=S) (Y:=L) 0 hbS d2
   simp only [Nat.add_zero] at e2 e3
   rw [e1,e2,e3]
   exact h3
inductive WL {α:Type} (succ:α→List α) (from_:List α):List α→α→Prop
 | nil {x:α} (h:x∈from_):WL succ from_ [] x
 | snoc {l:List α} {x y:α} (h:WL succ from_ l x) (k:y∈succ x):WL succ from_ (l++[x]) y
theorem WL.fn {α:Type} {succ:α→List α} {from_:List α} {l:List α} {x:α} (h:WL succ from_ l x):∃ f:Nat→α,f 0∈from_∧f l.length=x∧(∀ i,i<l.length→f (i+1)∈succ (f i))∧∀ i,i<l.length→l[i]? = some (f i):=by
 induction h with
 | @nil x h=>exact ⟨fun _=>x,h,rfl,(fun i hi=>absurd hi (Nat.not_lt_zero _)),fun i hi=>absurd hi (Nat.not_lt_zero _)⟩
 | @snoc l x y h k ih=>
  obtain ⟨f,h1,h2,h3,h4⟩:=ih
  have hl:(l++[x]).length=l.length+1:=by simp
  refine ⟨fun i=>if i≤l.length then f i else y,?_,?_,fun i hi=>?_,fun i hi=>?_⟩
  ·show (if 0≤l.length then f 0 else y)∈from_
   rw [if_pos (Nat.zero_le _)];exact h1
  ·show (if (l++[x]).length≤l.length then _ else y)=y
   rw [if_neg (by omega)]
  ·show (if i+1≤l.length then f (i+1) else y)∈succ (if i≤l.length then f i else y)
   rw [hl] at hi
   rw [if_pos (show i≤l.length by omega)]
   by_cases hi2:i<l.length
   ·rw [if_pos (by omega)];exact h3 i hi2
   ·rw [if_neg (by omega)]
    have:i=l.length:=by omega
    rw [this,h2];exact k
  ·show (l++[x])[i]? = some (if i≤l.length then f i else y)
   rw [hl] at hi
   rw [if_pos (show i≤l.length by omega)]
   by_cases hi2:i<l.length
   ·rw [List.getElem?_append_left hi2];exact h4 i hi2
   ·have:i=l.length:=by omega
    rw [this,h2,List.getElem?_append_right (Nat.le_refl _),Nat.sub_self];rfl
def wayR (acc:Ac Pl):Nat→Int→List Pl
 | 0,_=>[]
 | f+1,n=>if n<0 then [] else match acc[n.toNat]? with
  | none=>[]
  | some x=>x.1::wayR acc f x.2
theorem wayR_ok {succ:Pl→List Pl} {from_:List Pl} {R:Pl→Prop} {acc:Ac Pl} (h:Bfs.Ok succ from_ R acc):∀ (k:Nat) (x:Pl × Int),acc[k]? = some x→∀ f,k≤f→WL succ from_ (wayR acc f x.2).reverse x.1∧(wayR acc f x.2).length≤k∧∀ p∈wayR acc f x.2,R p:=by
 intro k
 induction k using Nat.strongRecOn with
 | ind k ih=>
  intro x hx f hf
  rcases h.way k x hx with ⟨h1,h2⟩ | ⟨j,y,h1,h2,h3,h4⟩
  ·have he:wayR acc f x.2=[]:=by
    rw [h1]
    cases f<;>rfl
   rw [he]
   exact ⟨.nil h2,Nat.zero_le _,fun p hp=>by cases hp⟩
  ·obtain ⟨g,rfl⟩:∃ g,f=g+1:=⟨f - 1,by omega⟩
   obtain ⟨k1,k2,k3⟩:=ih j h1 y h3 g (by omega)
   have he:wayR acc (g+1) x.2=y.1::wayR acc g y.2:=by
    rw [h2]
    simp only [wayR]
    rw [if_neg (by omega),Int.toNat_natCast,h3]
   rw [he,List.reverse_cons]
   refine ⟨.snoc k1 h4,by simp only [List.length_cons];omega,fun p hp=>?_⟩
   rcases List.mem_cons.1 hp with rfl | hp
   ·exact h.rng y (List.mem_of_getElem? h3)
   ·exact k3 p hp
def wayS (acc:Ac Pl) (x:Pl):List Nat:=
 match acc[(idx x (acc.map (·.1)) 0).getD 0]? with
 | none=>[]
 | some y=>((wayR acc acc.length y.2).reverse).map (·.2)
theorem wayS_ok {succ:Pl→List Pl} {from_:List Pl} {R:Pl→Prop} {acc:Ac Pl} (h:Bfs.Ok succ from_ R acc) {x:Pl} (hx:x∈acc.map (·.1)):∃ l:List Pl,wayS acc x=l.map (·.2)∧WL succ from_ l x∧l.length<acc.length∧∀ p∈l,R p:=by
 obtain ⟨i,hi⟩:=List.mem_iff_getElem?.1 hx
 have hid:=idx_get h.nd hi
 rw [List.getElem?_map] at hi
 cases hy:acc[i]? with
 | none=>rw [hy] at hi;cases hi
 | some y=>
  rw [hy] at hi
  have hyx:y.1=x:=by simpa using hi
  have hil:=(List.getElem?_eq_some_iff.1 hy).1
  obtain ⟨k1,k2,k3⟩:=wayR_ok h i y hy acc.length (by omega)
  rw [hyx] at k1
  refine ⟨(wayR acc acc.length y.2).reverse,?_,k1,by rw [List.length_reverse];omega,fun p hp=>k3 p (List.mem_reverse.1 hp)⟩
  unfold wayS
  rw [hid,Option.getD_some,hy]
theorem zget (l:List Nat) (i:Nat):(zints l).getD i 0=((l.getD i 0:Nat):Int):=by
 simp only [zints,List.getD_eq_getElem?_getD,List.getElem?_map]
 cases l[i]?<;>rfl
theorem bmv_mvs {B:Bu} (hv:Vb B) {p a:Nat} (hp:p<B.next.length) {q:Nat} {g:Bool} (h:(q,g)∈bmv B p a):((q:Int),g)∈mvs B (p:Int) (a:Int):=by
 simp only [bmv] at h
 obtain ⟨m,hm,he⟩:=List.mem_map.1 h
 have hrow:mvs B (p:Int) (a:Int)=(B.next.getD p []).getD a []:=by simp [mvs]
 rw [hrow]
 obtain ⟨k,hk⟩:=List.mem_iff_getElem?.1 hm
 obtain ⟨hk1,hk2⟩:=List.getElem?_eq_some_iff.1 hk
 have hr:=hv.2.2.2.2 p hp
 have ha:a<(B.next.getD p []).length:=by
  apply Classical.byContradiction
  intro hn
  have:(B.next.getD p []).getD a []=[]:=by rw [List.getD_eq_getElem?_getD,List.getElem?_eq_none (by omega)];rfl
  rw [this] at hk1
  exact absurd hk1 (Nat.not_lt_zero k)
 have h0:=(hr.2 a ha k hk1).1
 have hgd:((B.next.getD p []).getD a []).getD k (0,false)=m:=by rw [List.getD_eq_getElem?_getD,hk];rfl
 rw [hgd] at h0
 have h1:m.1.toNat=q:=congrArg Prod.fst he
 have h2:m.2=g:=congrArg Prod.snd he
 have:m=((q:Int),g):=Prod.ext (by show m.1=(q:Int);omega) h2
 rw [← this]
 exact hm
theorem run_ck {B:Bu} {S L:List Int} {ls:List Nat} {bk:Nat} (hok:Vb B) (hbk:bk<ls.length) (hlet:∀ i,i<ls.length→(ls.getD i 0:Int)<B.L) (hfm:Fm S L∧AllB S B.L∧AllB L B.L)
  (hw:∀ i,((tkOf B ls bk).word i:Int)=lett S L i) {x y:Pl} {m:Int × Bool} (hxn:InT B ls x) (hm:m∈bms B ls x) (hg:m.2=true) (hy:y=(tkOf B ls bk).after x (nat2 m)) {l1 l2:List Pl} (h1:WL (tkOf B ls bk).succ (firsts B) l1 x) (h2:WL (tkOf B ls bk).succ [y] l2 x) :
  CK B S L (zints (l1.map (·.2))) (zints (x.2::l2.map (·.2))):=by
 obtain ⟨f,f0,f1,f2,f3⟩:=h1.fn
 obtain ⟨c,c0,c1,c2,c3⟩:=h2.fn
 rw [List.mem_singleton] at c0
 let G:Nat→Pl:=fun i=>match i with | 0=>x | i+1=>c i
 have Gn:G (l2.length+1)=x:=c1
 have Gs:∀ i,i<l2.length+1→∃ m'∈(tkOf B ls bk).moves (G i),(tkOf B ls bk).after (G i) m'=G (i+1)∧(i=0→m'.2=true):=by
  intro i hi
  cases i with
  | zero=>
   refine ⟨nat2 m,?_,?_,fun _=>hg⟩
   ·show nat2 m∈(tkOf B ls bk).moves x
    rw [moves_map]
    exact List.mem_map_of_mem hm
   ·show (tkOf B ls bk).after x (nat2 m)=c 0
    rw [c0,hy]
  | succ i=>
   obtain ⟨m',k1,k2⟩:=Tk.mem_succ.1 (c2 i (by omega))
   exact ⟨m',k1,k2,fun h=>by cases h⟩
 generalize hn2:l2.length+1=n2 at *
 have hn2p:0<n2:=by omega
 generalize hn1:l1.length=n1 at *
 let R:Nat→Pl:=fun i=>if i<n1 then f i else G ((i - n1) % n2)
 have RE : ∀ i, ∃ m' ∈ (tkOf B ls bk).moves (R i), (tkOf B ls bk).after (R i) m' = R (i + 1) ∧ (n1 ≤ i → (i - n1) % n2 = 0 → m'.2 = true) := by
  intro i
  by_cases hi:i<n1
  ·obtain ⟨m',k1,k2⟩:=Tk.mem_succ.1 (f2 i hi)
   have e1:R i=f i:=if_pos hi
   have e2:R (i+1)=f (i+1):=by
    by_cases hi2:i+1<n1
    ·exact if_pos hi2
    ·have:i+1=n1:=by omega
     show (if i+1<n1 then f (i+1) else G ((i+1 - n1) % n2))=_
     rw [if_neg hi2,this,Nat.sub_self,Nat.zero_mod,f1]
   rw [e1,e2]
   exact ⟨m',k1,k2,fun h=>by omega⟩
  ·have e1:R i=G ((i - n1) % n2):=if_neg hi
   have hlt:=Nat.mod_lt (i - n1) hn2p
   obtain ⟨m',k1,k2,k3⟩:=Gs _ hlt
   have e2:R (i+1)=G ((i - n1) % n2+1):=by
    show (if i+1<n1 then f (i+1) else G ((i+1 - n1) % n2))=_
    rw [if_neg (by omega),show i+1 - n1=(i - n1)+1 by omega]
    generalize i - n1=d at *
    have hdm:d=n2*(d / n2)+d % n2:=(Nat.div_add_mod d n2).symm
    have h4:(d+1) % n2=(d % n2+1) % n2:=by
     have h5:d+1=n2*(d / n2)+(d % n2+1):=by omega
     rw [h5,Nat.mul_add_mod]
    rw [h4]
    by_cases hl:d % n2+1=n2
    ·rw [hl,Nat.mod_self,Gn]
    ·rw [Nat.mod_eq_of_lt (by omega:d % n2+1<n2)]
   rw [e1,e2]
   exact ⟨m',k1,k2,fun _ h=>k3 h⟩
 have R0:R 0∈firsts B:=by
  by_cases hi:0<n1
  ·have:R 0=f 0:=if_pos hi
   rw [this];exact f0
  ·have hz:n1=0:=by omega
   have:R 0=f 0:=by
    show (if 0<n1 then f 0 else G ((0 - n1) % n2))=_
    rw [if_neg hi,hz,Nat.sub_self,Nat.zero_mod]
    show x=f 0
    rw [← f1,hz]
   rw [this];exact f0
 have hpos:∀ i,(R i).1=(tkOf B ls bk).pos i:=by
  intro i
  induction i with
  | zero=>
   obtain ⟨z,hz,he⟩:=List.mem_map.1 R0
   rw [← he];rfl
  | succ i ih=>
   obtain ⟨m',_,k2,_⟩:=RE i
   rw [← k2]
   simp only [Tk.after,Tk.pos,ih]
 have hin:∀ i,InT B ls (R i):=by
  intro i
  induction i with
  | zero=>exact firsts_in hok (by omega) _ R0
  | succ i ih=>
   obtain ⟨m',k1,k2,_⟩:=RE i
   exact inT_succ hok hbk hlet ih _ (Tk.mem_succ.2 ⟨m',k1,k2⟩)
 have hst:∀ i,lett (zints (l1.map (·.2))) (zints (x.2::l2.map (·.2))) i=(((R i).2:Nat):Int):=by
  intro i
  have hlq:(zints (x.2::l2.map (·.2))).length=n2:=by simp [hn2]
  have hlp:(zints (l1.map (·.2))).length=n1:=by simp [hn1]
  unfold lett
  rw [hlp,hlq,zget,zget]
  by_cases hi:i<n1
  ·rw [if_pos hi]
   have e1:R i=f i:=if_pos hi
   rw [e1,List.getD_eq_getElem?_getD,List.getElem?_map,f3 i hi]
   rfl
  ·rw [if_neg hi]
   have e1:R i=G ((i - n1) % n2):=if_neg hi
   have hlt:=Nat.mod_lt (i - n1) hn2p
   rw [e1]
   cases hj:(i - n1) % n2 with
   | zero=>rfl
   | succ j=>
    show (((l2.map (·.2)).getD j 0:Nat):Int)=(((c j).2:Nat):Int)
    rw [List.getD_eq_getElem?_getD,List.getElem?_map,c3 j (by omega)]
    rfl
 have hmoves:∀ i,∃ g,(lett (zints (l1.map (·.2))) (zints (x.2::l2.map (·.2))) (i+1),g)∈mvs B (lett (zints (l1.map (·.2))) (zints (x.2::l2.map (·.2))) i) (lett S L i)∧(n1≤i→(i - n1) % n2=0→g=true):=by
  intro i
  obtain ⟨m',k1,k2,k3⟩:=RE i
  refine ⟨m'.2,?_,k3⟩
  rw [hst,hst,← hw]
  refine bmv_mvs hok (hin i).2 ?_
  have e:(R (i+1)).2=m'.1:=by rw [← k2];rfl
  rw [e]
  simp only [Tk.moves,hpos] at k1
  exact k1
 have hP:(zints (l1.map (·.2))).length=n1:=by simp [hn1]
 have hQ:(zints (x.2::l2.map (·.2))).length=n2:=by simp [hn2]
 obtain ⟨d1,d2⟩:=pper_dvd (L:=L) (Q:=zints (x.2::l2.map (·.2)))
 have hpp:=pper_pos (L:=L) (Q:=zints (x.2::l2.map (·.2))) (by rw [hQ];omega) hfm.1.2.1
 have hbf:n1≤pbef S (zints (l1.map (·.2))):=by unfold pbef;rw [hP];exact Nat.le_max_left _ _
 refine ⟨hok,hfm,by rw [hQ];omega,?_,fun i _=>?_,?_⟩
 ·rw [hst]
  obtain ⟨z,hz,he⟩:=List.mem_map.1 R0
  rw [← he]
  show ((z.toNat:Nat):Int)∈B.start
  rw [(start_nat hok hz).1]
  exact hz
 ·obtain ⟨g,hg,_⟩:=hmoves i
  exact ⟨g,hg⟩
 ·rw [hQ] at d1
  generalize pbef S (zints (l1.map (·.2)))=b at *
  generalize pper L (zints (x.2::l2.map (·.2)))=p at *
  have hnp:n2≤p:=Nat.le_of_dvd (by omega) d1
  have hr:=Nat.mod_lt (b - n1) hn2p
  have hdm:=Nat.div_add_mod (b - n1) n2
  generalize hdq:(b - n1) / n2=q at *
  generalize hdr:(b - n1) % n2=r at *
  by_cases hr0:r=0
  ·refine ⟨b,Nat.le_refl _,by omega,?_⟩
   obtain ⟨g,hg1,hg2⟩:=hmoves b
   rw [hg2 hbf (by rw [hdr];exact hr0)] at hg1
   exact hg1
  ·refine ⟨b+(n2 - r),by omega,by omega,?_⟩
   obtain ⟨g,hg1,hg2⟩:=hmoves (b+(n2 - r))
   have:(b+(n2 - r) - n1) % n2=0:=by
    have e:b+(n2 - r) - n1=n2*(q+1):=by rw [Nat.mul_add,Nat.mul_one];omega
    rw [e,Nat.mul_mod_right]
   rw [hg2 (by omega) this] at hg1
   exact hg1
end Go.Proofs.YtgobbogomchnhaaGreatDoor
end
section
set_option linter.unusedSimpArgs false
set_option linter.unusedVariables false
namespace Go.Proofs.YtgobbogomchnhaaGreatDoor
open Go Go.Pv Go.Aut Go.Bfs
open Classical
theorem Turned.uniq {B:Bu} {ls:List Nat} {bk:Nat} {ps:List Pl} {x y x' y':Pl} {ok ok':Bool} (h:Turned B ls bk ps x y ok) (k:Turned B ls bk ps x' y' ok'):x=x'∧y=y'∧ok=ok':=by
 rcases h with ⟨rfl,i,j,m,a1,a2,a3,a4,a5⟩ | ⟨rfl,a1,a2,a3⟩<;>rcases k with ⟨rfl,i',j',m',b1,b2,b3,b4,b5⟩ | ⟨rfl,b1,b2,b3⟩
 ·have h1:¬ (i'<i∨i'=i∧j'<j):=fun hh=>a5 i' j' x' m' hh b1 b2 b3
  have h2:¬ (i<i'∨i=i'∧j<j'):=fun hh=>b5 i j x m hh a1 a2 a3
  have e1:i=i':=by omega
  have e2:j=j':=by omega
  subst e1
  subst e2
  rw [a1] at b1
  cases b1
  rw [a2] at b2
  cases b2
  exact ⟨rfl,a4.trans b4.symm,rfl⟩
 ·exact absurd a3 (b3 i j x m a1 a2)
 ·exact absurd b3 (a3 i' j' x' m' b1 b2)
 ·exact ⟨a1.trans b1.symm,a2.trans b2.symm,rfl⟩
def RunD (B:Bu) (ls:List Nat) (bk:Nat) (P Q:List Nat) (ok:Bool):Prop:=
 ∃ x y,Turned B ls bk ((srun B ls bk (firsts B)).map (·.1)) x y ok∧(ok=true→P=wayS (srun B ls bk (firsts B)) x∧Q=x.2::wayS (srun B ls bk [y]) x)∧(ok=false→P=[]∧Q=[])
theorem RunD.uniq {B:Bu} {ls:List Nat} {bk:Nat} {P Q P' Q':List Nat} {ok ok':Bool} (h:RunD B ls bk P Q ok) (k:RunD B ls bk P' Q' ok'):P=P'∧Q=Q'∧ok=ok':=by
 obtain ⟨x,y,h1,h2,h3⟩:=h
 obtain ⟨x',y',k1,k2,k3⟩:=k
 obtain ⟨rfl,rfl,rfl⟩:=h1.uniq k1
 cases ok with
 | true=>exact ⟨(h2 rfl).1.trans (k2 rfl).1.symm,(h2 rfl).2.trans (k2 rfl).2.symm,rfl⟩
 | false=>exact ⟨(h3 rfl).1.trans (k3 rfl).1.symm,(h3 rfl).2.trans (k3 rfl).2.symm,rfl⟩
theorem turned_in {B:Bu} {ls:List Nat} {bk:Nat} (hok:Vb B) (hbk:bk<ls.length) (hlet:∀ i,i<ls.length→(ls.getD i 0:Int)<B.L) {x y:Pl}
  (h:Turned B ls bk ((srun B ls bk (firsts B)).map (·.1)) x y true):x∈(srun B ls bk (firsts B)).map (·.1)∧InT B ls x∧InT B ls y∧(∃ m,m∈bms B ls x∧m.2=true∧y=(tkOf B ls bk).after x (nat2 m))∧x∈(srun B ls bk [y]).map (·.1):=by
 have hpos:0<ls.length:=by omega
 obtain ⟨h1,h2,h3⟩:=srun_ok hok hbk hlet (firsts_in hok hpos)
 rcases h with ⟨_,i,k,m,hi,hk,hh,hy,_⟩ | ⟨h,_⟩
 ·have hx:=List.mem_of_getElem? hi
  have hxi:InT B ls x:=by
   obtain ⟨z,hz,rfl⟩:=List.mem_map.1 hx
   exact h1.rng z hz
  have hm:=List.mem_of_getElem? hk
  have hyi:InT B ls y:=by
   refine inT_succ hok hbk hlet hxi _ (Tk.mem_succ.2 ⟨nat2 m,?_,hy.symm⟩)
   rw [moves_map]
   exact List.mem_map_of_mem hm
  obtain ⟨k1,k2,k3⟩:=srun_ok (from_:=[y]) hok hbk hlet (fun p hp=>by rw [List.mem_singleton.1 hp];exact hyi)
  obtain ⟨g,a,ha⟩:=hh
  rw [← hy] at ha
  exact ⟨hx,hxi,hyi,⟨m,hm,g,hy⟩,(found_iff k1 k2 k3 x).2 ⟨y,List.mem_singleton.2 rfl,a,ha⟩⟩
 ·cases h
theorem wayS_len {B:Bu} {ls:List Nat} {bk:Nat} (hok:Vb B) (hbk:bk<ls.length) (hlet:∀ i,i<ls.length→(ls.getD i 0:Int)<B.L) {from_:List Pl} (hin:∀ p∈from_,InT B ls p) {x:Pl} (hx:x∈(srun B ls bk from_).map (·.1)) :
  (wayS (srun B ls bk from_) x).length≤ls.length*B.next.length:=by
 obtain ⟨h1,_,_⟩:=srun_ok hok hbk hlet hin
 obtain ⟨l,e,_,hl,_⟩:=wayS_ok h1 hx
 have:=inT_len h1.nd fun x hx=>by obtain ⟨y,hy,rfl⟩:=List.mem_map.1 hx;exact h1.rng y hy
 rw [List.length_map] at this
 rw [e,List.length_map]
 omega
theorem RunD.ck {B:Bu} {S L:List Int} {ls:List Nat} {bk:Nat} (hok:Vb B) (hbk:bk<ls.length) (hbig:ls.length≤200) (hlet:∀ i,i<ls.length→(ls.getD i 0:Int)<B.L) (hfm:Fm S L∧AllB S B.L∧AllB L B.L)
  (hw:∀ i,((tkOf B ls bk).word i:Int)=lett S L i) {P Q:List Nat} {ok:Bool} (h:RunD B ls bk P Q ok) :
  (ok=true→CK B S L (zints P) (zints Q))∧(ok=false→P=[]∧Q=[]∧¬ AW B S L)∧P.length≤600000∧Q.length≤600001:=by
 obtain ⟨x,y,h1,h2,h3⟩:=h
 have hpos:0<ls.length:=by omega
 have hNb:ls.length*B.next.length≤600000:=by
  have:ls.length*B.next.length≤200*3000:=Nat.mul_le_mul hbig hok.2.2.1
  omega
 cases ok with
 | true=>
  obtain ⟨rfl,rfl⟩:=h2 rfl
  obtain ⟨a1,a2,a3,⟨m,a4,a5,a6⟩,a7⟩:=turned_in hok hbk hlet h1
  obtain ⟨k1,_,_⟩:=srun_ok hok hbk hlet (firsts_in hok hpos)
  obtain ⟨g1,_,_⟩:=srun_ok (from_:=[y]) hok hbk hlet (fun p hp=>by rw [List.mem_singleton.1 hp];exact a3)
  have b1:=wayS_len hok hbk hlet (firsts_in hok hpos) a1
  have b2:=wayS_len hok hbk hlet (from_:=[y]) (fun p hp=>by rw [List.mem_singleton.1 hp];exact a3) a7
  obtain ⟨l1,e1,w1,_,_⟩:=wayS_ok k1 a1
  obtain ⟨l2,e2,w2,_,_⟩:=wayS_ok g1 a7
  refine ⟨fun _=>?_,(fun h=>by cases h),by omega,by rw [List.length_cons];omega⟩
  rw [e1,e2]
  exact run_ck hok hbk hlet hfm hw a2 a4 a5 a6 w1 w2
 | false=>
  obtain ⟨rfl,rfl⟩:=h3 rfl
  refine ⟨(fun h=>by cases h),fun _=>⟨rfl,rfl,fun hA=>?_⟩,by simp,by simp⟩
  have h4:=turned_iff hok hpos hbk hlet h1
  have h5:(tkOf B ls bk).word=fun i=>(lett S L i).toNat:=funext fun i=>by rw [← hw i];rfl
  rw [h5] at h4
  exact Bool.false_ne_true (h4.2 hA.2.2)
end Go.Proofs.YtgobbogomchnhaaGreatDoor
end
section
set_option linter.unusedSimpArgs false
set_option linter.unusedVariables false
namespace Go.Proofs.YtgobbogomchnhaaGreatDoor
open Go Go.Pv Go.Aut Go.Bfs
open Classical
def RunA (B:Bu) (S L:List Int) (P Q:List Nat) (ok:Bool):Prop:=
 (¬ (Vb B∧Fm S L∧AllB S B.L∧AllB L B.L)∧P=[]∧Q=[]∧ok=false) ∨
 ((Vb B∧Fm S L∧AllB S B.L∧AllB L B.L)∧∃ sl' ll' ls,Nrm S L sl' ll'∧ls=(sl'++ll').map Int.toNat∧sl'.length<ls.length∧ls.length≤200∧(∀ i,i<ls.length→(ls.getD i 0:Int)<B.L)∧(∀ i,((tkOf B ls sl'.length).word i:Int)=lett S L i)∧RunD B ls sl'.length P Q ok)
theorem RunA.facts {B:Bu} {S L:List Int} {P Q:List Nat} {ok:Bool} (h:RunA B S L P Q ok):ok=decide (AW B S L)∧ok=decide (CK B S L (zints P) (zints Q))∧(ok=false→P=[]∧Q=[])∧P.length≤600000∧Q.length≤600001:=by
 rcases h with ⟨h1,rfl,rfl,rfl⟩ | ⟨⟨hv,hfm⟩,sl',ll',ls,hn,hls,hbk,hbig,hlet,hw,hD⟩
 ·exact ⟨(decide_eq_false fun h=>h1 ⟨h.1,h.2.1⟩).symm,(decide_eq_false fun h=>absurd h.q1 (by simp [zints])).symm,fun _=>⟨rfl,rfl⟩,by simp,by simp⟩
 ·obtain ⟨a,b,c,d⟩:=hD.ck hv hbk hbig hlet hfm hw
  cases ok with
  | true=>
   have hc:=a rfl
   exact ⟨(decide_eq_true (ck_acc hc)).symm,(decide_eq_true hc).symm,(fun h=>by cases h),c,d⟩
  | false=>
   obtain ⟨e1,e2,e3⟩:=b rfl
   exact ⟨(decide_eq_false e3).symm,(decide_eq_false fun h=>e3 (ck_acc h)).symm,fun _=>⟨e1,e2⟩,c,d⟩
theorem RunA.same {B:Bu} {S L S' L':List Int} {P Q P' Q':List Nat} {ok ok':Bool} (h:RunA B S L P Q ok) (k:RunA B S' L' P' Q' ok') (hr:Vb B∧Fm S L∧AllB S B.L∧AllB L B.L) (hr':Vb B∧Fm S' L'∧AllB S' B.L∧AllB L' B.L) {a b:List Int} (hs:Nrm S L a b) (hs':Nrm S' L' a b):P=P'∧Q=Q'∧ok=ok':=by
 rcases h with ⟨h1,_⟩ | ⟨_,sl',ll',ls,hn,hls,_,_,_,_,hD⟩
 ·exact absurd hr h1
 rcases k with ⟨k1,_⟩ | ⟨_,tl',ml',ms,kn,kls,_,_,_,_,kD⟩
 ·exact absurd hr' k1
 obtain ⟨rfl,rfl⟩:=hn.uniq hs
 obtain ⟨rfl,rfl⟩:=kn.uniq hs'
 subst hls
 subst kls
 exact hD.uniq kD
end Go.Proofs.YtgobbogomchnhaaGreatDoor
end
