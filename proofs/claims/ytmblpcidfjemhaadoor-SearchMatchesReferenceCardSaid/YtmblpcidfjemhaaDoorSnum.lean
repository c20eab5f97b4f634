/- search: a state is numbered. -/
import Derived.Test.YtmblpcidfjemhaaDoorBase
import Derived.Test.YtmblpcidfjemhaaDoorLitr
import Derived.Test.YtmblpcidfjemhaaDoorPvQ
import Derived.Test.YtmblpcidfjemhaaDoorTarjan
set_option linter.unusedSimpArgs false
set_option linter.unusedVariables false
section
set_option linter.unusedSimpArgs false
set_option linter.unusedVariables false
namespace Go.Proofs.YtmblpcidfjemhaaDoor
open Go Go.Pv Go.Aut Go.Fnd
open Classical
def ecell (x:En):List LV:=[.int .i64 (x.1:Int), .int .i64 x.2.1, .int .i64 (x.2.2:Int)]
def ecells (l:List En):List LV:=(l.map ecell).flatten
theorem ecells_rows (l:List En):∀ r∈l.map ecell,r.length=3:=fun r hr=>by obtain ⟨x,_,rfl⟩:=List.mem_map.1 hr;rfl
theorem ecells_append (a b:List En):ecells (a++b)=ecells a++ecells b:=by simp [ecells]
theorem ecells_one (x:En):ecells [x]=ecell x:=by simp [ecells]
theorem ecells_take {l:List En} {i:Nat} {x:En} (h:l[i]? = some x):((ecells l).drop (i*3)).take 3=ecell x:=
  fl_take (ecells_rows l) (by rw [List.getElem?_map,h];rfl)
theorem ecells_length (l:List En):(ecells l).length=l.length*3:=by
  have:=fl_len (ecells_rows l)
  simpa [ecells] using this
theorem ecell_take (x:En):(ecell x).take 3=ecell x:=rfl
theorem ecell_drop (x:En):(ecell x).drop 0=ecell x:=rfl
theorem ecell_0 (x:En):(ecell x)[0]? = some (.int .i64 (x.1:Int)):=rfl
structure NS (n0:Nat) (s:St) (jk jl K n:Nat) (lv:LV) (acc:List En):Prop where
  le:n0≤s.n
  k0:n0≤jk
  k1:jk<s.n
  l0:n0≤jl
  l1:jl<s.n
  c0:n0≤K
  c1:K<s.n
  n1:jk≠jl
  n2:jk≠K
  n3:jl≠K
  gk:s.get jk=some (.cells .mut [.sref K 0 n 1])
  gl:s.get jl=some (.cells .mut [lv])
  gK:s.get K=some (.cells .mut (bcells n fun q=>decide (q∈acc.map (·.1))))
  sk:SkC s lv 3 (ecells acc) acc.length
  low:∀ id,uses lv id→n0≤id∧id≠jk∧id≠jl∧id≠K
theorem NS.keep {n0:Nat} {s s':St} {jk jl K n:Nat} {lv:LV} {acc:List En} (h:NS n0 s jk jl K n lv acc) (hn:s.n≤s'.n) (hs:∀ id,n0≤id→id<s.n→s'.get id=s.get id):NS n0 s' jk jl K n lv acc:=
  ⟨Nat.le_trans h.le hn,h.k0,Nat.lt_of_lt_of_le h.k1 hn,h.l0,Nat.lt_of_lt_of_le h.l1 hn,h.c0,Nat.lt_of_lt_of_le h.c1 hn,h.n1,h.n2,h.n3,by rw [hs _ h.k0 h.k1];exact h.gk,by rw [hs _ h.l0 h.l1];exact h.gl,by rw [hs _ h.c0 h.c1];exact h.gK,
    h.sk.mono hn fun id hu=>hs id (h.low id hu).1 (h.sk.lt hu),h.low⟩
set_option maxHeartbeats 8000000 in
theorem snumber_ok {n0:Nat} {s:St} {jk jl K n:Nat} {lv:LV} {acc:List En} (hN:NS n0 s jk jl K n lv acc) (hl:acc.length≤1000000) {x:En} (hx:x.1<n) :
    CallOk Tryd.prog GL (.fn (.func 39) [] [.pref jk 0, .pref jl 0]) [.agg (ecell x)] s
    (fun _ s'=>∃ lv',NS n0 s' jk jl K n lv' (Fnd.add acc x)∧s.n≤s'.n∧∀ id,id<n0→s'.get id=s.get id):=by
  refine call_fn (first:=[]) (caps:=[.pref jk 0, .pref jl 0]) Tryd.func39 (by decide +kernel) c39 (Nat.le_of_ble_eq_true rfl) (CodeOk.mono (Q:=fun o e s'=>(o = .normal∨o = .jmp .ret)∧∃ lv',NS n0 s' jk jl K n lv' (Fnd.add acc x)∧s.n≤s'.n∧∀ id,id<n0→s'.get id=s.get id) ?_ fun o e s' hh=>by
    exact ⟨hh.1, .tup [],by simp [l39,resVal],hh.2⟩)
  have e0:(envOf ([]++[.agg (ecell x)]++[.pref jk 0, .pref jl 0])).at 0 = .agg (ecell x):=by rw [envOf_at];rfl
  have e1:(envOf ([]++[.agg (ecell x)]++[.pref jk 0, .pref jl 0])).at 1 = .pref jk 0:=by rw [envOf_at];rfl
  have e2:(envOf ([]++[.agg (ecell x)]++[.pref jk 0, .pref jl 0])).at 2 = .pref jl 0:=by rw [envOf_at];rfl
  generalize envOf ([]++[.agg (ecell x)]++[.pref jk 0, .pref jl 0])=e at *
  refine Cd.out ?_
  unfold l39
  dsimp only [jA,jG,qN,qF,qI,qO,ql]
  have gk:=hN.gk
  have gl:=hN.gl
  have gK:=hN.gK
  have hcx:(LV.agg (ecell x)).closed=true:=rfl
  have hpc:cells? (.agg (ecell x))=some (ecell x):=rfl
  have hb:(bcells n fun q=>decide (q∈acc.map (·.1)))[x.1]? = some (.bool (decide (x.1∈acc.map (·.1)))):=bcells_get hx
  have hxI:(x.1:Int)<(n:Int):=by omega
  have c0:=ecell_0 x
  have hia:∀ s,iaLV 1 (.sref K 0 n 1) (.int .i64 (x.1:Int)) s=some (.pref K x.1,s):=fun s=>by
    have:=iaS (esz:=1) (j:=K) (off:=0) (len:=n) (i:=x.1) (k:=.i64) (s:=s) hxI
    simpa using this
  by_cases hmem:x.1∈acc.map (·.1)
  · rw [decide_eq_true hmem] at hb
    repeat' (first | refine gA (And.intro @ecell_take (And.intro @hia (And.intro @hb @c0))) ?_ | (refine gB (And.intro @ecell_take (And.intro @hia (And.intro @hb @c0))) ?_;intro bb hbb;cases bb<;>(try simp only [hbs,if_false,reduceCtorEq] at hbb)) | fail)
    refine ⟨.inl trivial,lv,?_,Nat.le_refl _,fun _ _=>trivial⟩
    rw [Fnd.add,if_pos hmem]
    exact hN
  · rw [decide_eq_false hmem] at hb
    have hacc:Fnd.add acc x=acc++[x]:=by rw [Fnd.add,if_neg hmem]
    rw [hacc]
    repeat' (first | refine gA (And.intro @ecell_take (And.intro @hia (And.intro @hb @c0))) ?_ | (refine gB (And.intro @ecell_take (And.intro @hia (And.intro @hb @c0))) ?_;intro bb hbb;cases bb<;>(try simp only [hbs,if_false,reduceCtorEq] at hbb)) | fail)
    refine q_storeB (i:=K) (q:=x.1) (b:=true) (f':=fun q=>decide (q∈(acc++[x]).map (·.1))) ef ef gK hx (fun j=>?_) (fun s1 a1 a2 a3=>?_)
    · by_cases hj:j=x.1
      · subst hj;simp
      · simp [hj]
    have gk1:=(a3 jk hN.n2).trans gk
    have gl1:=(a3 jl hN.n3).trans gl
    have sk1:SkC s1 lv 3 (ecells acc) acc.length:=hN.sk.mono (by omega) fun id hu=>a3 id (hN.low id hu).2.2.2
    clear gk gl
    repeat' (first | refine gA @ecell_take ?_ | (refine gB @ecell_take ?_;intro bb hbb;cases bb<;>(try simp only [hbs,if_false,reduceCtorEq] at hbb)) | fail)
    refine q_appC (n:=acc.length) (esz:=3) (xv:=.agg (ecell x)) (yv:=lv) (vs:=ecell x) ef rfl rfl rfl rfl ef sk1 (by decide) (by omega) (fun s2 j2 b1 b2 b3 b4=>?_)
    have hl1:=hN.l1
    have hk1:=hN.k1
    have hc1:=hN.c1
    have h0:=hN.low
    have gl2:s2.get jl=some (.cells .mut [lv]):=(b4 jl (by omega) fun hu=>(h0 _ hu).2.2.1 rfl).trans gl1
    have gk2:s2.get jk=some (.cells .mut [.sref K 0 n 1]):=(b4 jk (by omega) fun hu=>(h0 _ hu).2.1 rfl).trans gk1
    have gK2:=(b4 K (by omega) fun hu=>(h0 _ hu).2.2.2 rfl).trans a2
    have hj2:j2<s2.n:=b2.lt (uses_sref.2 rfl)
    have hle:=hN.le
    have k0:=hN.k0
    have l0:=hN.l0
    have c0':=hN.c0
    repeat' (first | refine gA trivial ?_ | (refine gB trivial ?_;intro bb hbb;cases bb<;>(try simp only [hbs,if_false,reduceCtorEq] at hbb)) | fail)
    refine ⟨.inl trivial, .sref j2 0 (acc.length+1) 3,⟨by rw [St.n_put];omega,k0,by rw [St.n_put];omega,l0,by rw [St.n_put];omega,c0',by rw [St.n_put];omega,hN.n1,hN.n2,hN.n3,by rw [St.get_put,if_neg hN.n1];exact gk2,by rw [St.get_put,if_pos rfl],by rw [St.get_put,if_neg (Ne.symm hN.n3)];exact gK2,?_,fun id hu=>?_⟩,by rw [St.n_put];omega,fun id hid=>?_⟩
    · rw [ecells_append,ecells_one,List.length_append,List.length_singleton]
      exact b2.mono (by rw [St.n_put];omega) fun id hu=>by
        rw [St.get_put,if_neg (by have:=uses_sref.1 hu;omega)]
    · have:=uses_sref.1 hu
      exact ⟨by omega,by omega,by omega,by omega⟩
    · rw [St.get_put,if_neg (by omega),b4 id (by omega) fun hu=>by have:=(h0 _ hu).1;omega,a3 id (by omega)]
end Go.Proofs.YtmblpcidfjemhaaDoor
end
section
set_option linter.unusedSimpArgs false
set_option linter.unusedVariables false
namespace Go.Proofs.YtmblpcidfjemhaaDoor
open Go Go.Pv Go.Aut Go.Bfs
open Classical
def pcell (p:Pl):List LV:=[.int .i64 (p.1:Int), .int .i64 (p.2:Int)]
def pcells:List Pl→List LV
  | []=>[]
  | p::r=>.int .i64 (p.1:Int)::.int .i64 (p.2:Int)::pcells r
def pent:List Pl→Nat→List (LV × LV)
  | [],_=>[]
  | p::r,i=>(.agg (pcell p), .int .i64 (i:Int))::pent r (i+1)
structure FS (n0:Nat) (Kp:Nat→Prop) (s0:St) (s:St) (jf M:Nat) (pv bv:LV) (acc:Ac Pl):Prop where
  le:n0≤s.n
  j0:n0≤jf
  j1:jf<s.n
  m0:n0≤M
  m1:M<s.n
  ne:M≠jf
  gj:s.get jf=some (.cells .mut [.mref M,pv,bv])
  gM:s.get M=some (.map (pent (acc.map (·.1)) 0))
  sp:SkC s pv 2 (pcells (acc.map (·.1))) acc.length
  sb:SkC s bv 1 (ints (acc.map (·.2))) acc.length
  dp:∀ id,uses pv id→n0≤id∧id≠jf∧id≠M
  db:∀ id,uses bv id→n0≤id∧id≠jf∧id≠M
  dd:∀ id,uses pv id→¬ uses bv id
  kp:∀ id,Kp id→id<s.n∧id≠jf∧id≠M∧¬ uses pv id∧¬ uses bv id
  old:∀ id,Kp id→s.get id=s0.get id
theorem FS.keep {n0:Nat} {Kp:Nat→Prop} {s0 s s':St} {jf M:Nat} {pv bv:LV} {acc:Ac Pl} (h:FS n0 Kp s0 s jf M pv bv acc) (hn:s.n≤s'.n) (hs:∀ id,id<s.n→s'.get id=s.get id):FS n0 Kp s0 s' jf M pv bv acc:=by
  have h1:=h.j1
  have h2:=h.m1
  have h3:=h.le
  exact ⟨by omega,h.j0,by omega,h.m0,by omega,h.ne,by rw [hs _ h1];exact h.gj,by rw [hs _ h2];exact h.gM,h.sp.mono hn fun id hu=>hs id (h.sp.lt hu),h.sb.mono hn fun id hu=>hs id (h.sb.lt hu),h.dp,h.db,h.dd,
    fun id hk=>by have:=h.kp id hk;exact ⟨by omega,this.2⟩,fun id hk=>by rw [hs id (h.kp id hk).1];exact h.old id hk⟩
theorem FS.rebase {n0:Nat} {Kp Kp':Nat→Prop} {s0 s0' s:St} {jf M:Nat} {pv bv:LV} {acc:Ac Pl} (h:FS n0 Kp s0 s jf M pv bv acc) (hk:∀ id,Kp' id→id<s.n∧id≠jf∧id≠M∧¬ uses pv id∧¬ uses bv id) (ho:∀ id,Kp' id→s.get id=s0'.get id):FS n0 Kp' s0' s jf M pv bv acc:=
  ⟨h.le,h.j0,h.j1,h.m0,h.m1,h.ne,h.gj,h.gM,h.sp,h.sb,h.dp,h.db,h.dd,hk,ho⟩
end Go.Proofs.YtmblpcidfjemhaaDoor
end
