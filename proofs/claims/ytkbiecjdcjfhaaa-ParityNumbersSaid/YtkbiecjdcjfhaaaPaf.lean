/- parity's search: what the letters make of a tree. -/
import Derived.Test.YtkbiecjdcjfhaaaPns
set_option linter.unusedSimpArgs false
set_option linter.unusedVariables false
namespace Go.Proofs.Ytkbiecjdcjfhaaa
open Go Go.Pv Go.Tre
open Classical
theorem stT_TrB {B:Bu} (hN:B.next.length≤10) (t:List Nd) (a:Nat):TrB (stT B t a):=by
  by_cases hok:okT B t
  · have hP:=named_p (collapse_p (divide_p (grown_p (mv:=fun q=>mvs B q a) hok.2 (by omega))))
    have e:stT B t a=leave (listOf B.next.length (fun q=>mvs B q a) t):=by unfold stT;rw [if_pos hok];rfl
    have hll:(listOf B.next.length (fun q=>mvs B q a) t).length=2*t.length:=by
      unfold listOf named
      rw [namS_length]
      unfold collapse divide
      rw [foldS_length,foldS_length]
      simp [grown];omega
    have htl:=hok.1
    rw [e]
    have hP':∀ n∈listOf B.next.length (fun q=>mvs B q a) t,Gp _ n:=hP.2
    generalize listOf B.next.length (fun q=>mvs B q a) t=l at *
    refine ⟨?_,fun n hn=>?_,fun n hn=>?_⟩
    · unfold leave
      rw [List.length_map]
      have:=List.length_filter_le (fun n:Gn=>!n.gone) l
      omega
    · obtain ⟨m,hm,rfl⟩:=List.mem_map.1 hn
      exact (hP' m (List.mem_filter.1 hm).1).len
    · obtain ⟨m,hm,rfl⟩:=List.mem_map.1 hn
      have:=place_rng l m.par (hP' m (List.mem_filter.1 hm).1).par
      show -1≤place l m.par∧place l m.par≤6000
      omega
  · have e:stT B t a=[]:=by unfold stT;rw [if_neg hok]
    rw [e]
    exact ⟨by simp,fun n hn=>absurd hn (by simp),fun n hn=>absurd hn (by simp)⟩
noncomputable def afT (B:Bu) (ts:List (List Nd)) (t:List Nd):Nat→List (List Nd)
  | 0=>ts
  | a+1=>addK keyT (afT B ts t a) (stT B t a)
theorem idxK_self {α:Type} (key:α→List UInt8) (l:List α) (x:α):idxK key (addK key l x) (key x)=idxK key l (key x):=by
  unfold addK
  split
  · rfl
  · rename_i h
    have h1:=idxK_le key l (key x)
    unfold idxK at *
    rw [List.findIdx_append,if_neg h]
    simp
    omega
theorem afT_pre (B:Bu) (ts:List (List Nd)) (t:List Nd) (a b:Nat):∃ m,afT B ts t (a+b)=afT B ts t a++m∧m.length≤b:=by
  induction b with
  | zero=>exact ⟨[],by simp,by simp⟩
  | succ b ih=>
    obtain ⟨m,h1,h2⟩:=ih
    obtain ⟨m2,h3,h4⟩:=addK_pre keyT (afT B ts t (a+b)) (stT B t (a+b))
    refine ⟨m++m2,?_,by simp;omega⟩
    show addK keyT (afT B ts t (a+b)) (stT B t (a+b))=_
    rw [h3,h1,List.append_assoc]
theorem afT_idx (B:Bu) (ts:List (List Nd)) (t:List Nd) {a b:Nat} (h:a<b):idxK keyT (afT B ts t b) (keyT (stT B t a))=idxK keyT (afT B ts t a) (keyT (stT B t a))∧idxK keyT (afT B ts t b) (keyT (stT B t a))<(afT B ts t b).length:=by
  have h1:=idxK_self keyT (afT B ts t a) (stT B t a)
  have h2:=idxK_add keyT (afT B ts t a) (stT B t a)
  obtain ⟨m,h3,-⟩:=afT_pre B ts t (a+1) (b - (a+1))
  rw [show a+1+(b - (a+1))=b by omega] at h3
  have h4:afT B ts t (a+1)=addK keyT (afT B ts t a) (stT B t a):=rfl
  rw [h3,h4,idxK_pre _ _ _ _ (by rw [h1];exact h2),h1]
  exact ⟨rfl,by rw [List.length_append];omega⟩
theorem afT_same (B:Bu) (ts:List (List Nd)) (t:List Nd) (n:Nat) (h:∀ a,a<n→idxK keyT ts (keyT (stT B t a))<ts.length):afT B ts t n=ts:=by
  induction n with
  | zero=>rfl
  | succ n ih=>
    show addK keyT (afT B ts t n) (stT B t n)=ts
    rw [ih fun a ha=>h a (by omega)]
    unfold addK
    rw [if_pos (h n (by omega))]
theorem wcl_rcells {α:Type} [Inhabited α] (row:α→List LV) (l:List α):wcl row l=rcells l.length fun i=>row (l.getD i default):=by
  unfold wcl rcells
  rw [List.flatMap_def]
  congr 1
  apply List.ext_getElem?
  intro i
  by_cases h:i<l.length
  · rw [List.getElem?_map,List.getElem?_map,List.getElem?_eq_getElem h,List.getElem?_range h]
    simp [List.getD_eq_getElem?_getD,h]
  · rw [List.getElem?_eq_none (by simpa using h),List.getElem?_eq_none (by simpa using h)]
theorem rcells_congr {n:Nat} {f g:Nat→List LV} (h:∀ i,i<n→f i=g i):rcells n f=rcells n g:=by
  unfold rcells
  congr 1
  exact List.map_congr_left fun i hi=>h i (List.mem_range.1 hi)
section
variable {s s':St} {Z:Nat} {B:Bu} {sv nv:LV} {most:Int} {ts:List (List Nd)} {xs:List (Nat × List Int)} {O F:Nat→Prop} {tv pv xv:LV} {TN SN:Nat} {tcs pcs:List LV} {xr:List (Nat × LV)}
theorem SX.memo (h:SX s Z B sv nv most ts xs O F tv pv xv TN SN tcs pcs xr) {n j jp:Nat} {rows:List (Nat × LV × LV)} (hn:n<ts.length) (hpv:pv = .sref jp 0 ts.length 1) (hj:¬ O j) (hjs:j<s.n) (hg:s.get j=some (.cells .mut (wcl srow rows))) (hm:Memo s B ts (ts.getD n []) (.sref j 0 rows.length 3)) (hn':s'.n=s.n) (hp:s'.get jp=some (.cells .mut (pcs.set n (.sref j 0 rows.length 3)))) (ho:∀ id,id≠jp→s'.get id=s.get id) :
    SX s' Z B sv nv most ts xs (fun id=>O id∨id=j) (fun id=>F id∨id=j) tv pv xv TN SN tcs (pcs.set n (.sref j 0 rows.length 3)) xr:=by
  subst hpv
  have hup:uses (.sref jp 0 ts.length 1) jp:=uses_sref.2 rfl
  have hjp:=h.ou jp (.inr (.inl hup))
  have hjj:j≠jp:=fun e=>hj (e ▸ hjp.1)
  have hpl:pcs.length=ts.length:=by have:=h.p.1;omega
  have hTp:TN≠jp:=fun e=>SkC.notmap h.p h.tn (e ▸ hup)
  have hSp:SN≠jp:=fun e=>SkC.notmap h.p h.sn (e ▸ hup)
  have hOj:∀ id,O id→id≠j:=fun id ho e=>hj (e ▸ ho)
  refine ⟨(ho Z (fun e=>hjp.2 e.symm)).trans h.blk,h.t.mono (by omega) fun id hu=>ho id fun e=>h.d1 id hu (e ▸ hup),⟨by rw [List.length_set];exact h.p.1, .inr ⟨jp,rfl,by omega,by have:=h.ol jp hjp.1;omega,hp⟩⟩,h.x.mono (by omega) fun id hu=>ho id fun e=>h.d3 jp hup (e ▸ hu),(ho TN hTp).trans h.tn,(ho SN hSp).trans h.sn,h.tt,fun i hi=>?_,h.xl,h.xx,⟨.inl h.oZ.1, .inl h.oZ.2.1, .inl h.oZ.2.2⟩,fun id hu=>⟨.inl (h.ou id hu).1,(h.ou id hu).2⟩,fun i hi id hu=>?_,fun id hf=>?_,fun id hid=>?_,h.d1,h.d2,h.d3,h.ne⟩
  · by_cases e:i=n
    · subst e
      have e1:(pcs.set i (.sref j 0 rows.length 3)).getD i .top = .sref j 0 rows.length 3:=by simp [List.getD_eq_getElem?_getD,hpl,hi]
      rw [e1]
      exact hm.keep fun id hu=>ho id (by have:=uses_sref.1 hu;omega)
    · have e1:(pcs.set n (.sref j 0 rows.length 3)).getD i .top=pcs.getD i .top:=by simp [List.getD_eq_getElem?_getD,List.getElem?_set_ne (Ne.symm e)]
      rw [e1]
      exact (h.pm i hi).keep fun id hu=>ho id fun e=>(h.fo id (h.om i hi id hu)).2.2.2.2.2.1 (e ▸ hup)
  · by_cases e:i=n
    · subst e
      have e1:(pcs.set i (.sref j 0 rows.length 3)).getD i .top = .sref j 0 rows.length 3:=by simp [List.getD_eq_getElem?_getD,hpl,hi]
      rw [e1] at hu
      exact .inr (uses_sref.1 hu)
    · have e1:(pcs.set n (.sref j 0 rows.length 3)).getD i .top=pcs.getD i .top:=by simp [List.getD_eq_getElem?_getD,List.getElem?_set_ne (Ne.symm e)]
      rw [e1] at hu
      exact .inl (h.om i hi id hu)
  · rcases hf with hf | rfl
    · have:=h.fo id hf;exact ⟨.inl this.1,this.2⟩
    · exact ⟨.inr rfl,fun e=>hj (e ▸ h.oZ.1),fun e=>hj (e ▸ h.oZ.2.1),fun e=>hj (e ▸ h.oZ.2.2),fun hu=>hj (h.ou _ (.inl hu)).1,fun hu=>hj (h.ou _ (.inr (.inl hu))).1,fun hu=>hj (h.ou _ (.inr (.inr hu))).1⟩
  · rcases hid with hid | rfl
    · have:=h.ol id hid;omega
    · omega
end
set_option maxHeartbeats 16000000 in
theorem saft_ok {s:St} {Z:Nat} {B:Bu} {sv nv:LV} {most:Int} {ts:List (List Nd)} {xs:List (Nat × List Int)} {O F:Nat→Prop} (hB:IsB (.agg [.int .i64 B.L,sv,nv]) B sv nv) (hv:Vb B) (hN:B.next.length≤10) (hlim:∀ q a,(mvs B q a).length≤1000000) (hS:SR s Z B sv nv most ts xs O F) {n:Nat} (hn:n<ts.length) (hcap:ts.length≤90000) :
    CallOk Try.prog GL (.fn (.func 40) [] []) [.pref Z 0, .int .i64 (n:Int)] s (fun r s'=>∃ O' F' j rows,SR s' Z B sv nv most (afT B ts (ts.getD n []) B.L.toNat) xs O' F'∧(∀ id,F id→F' id)∧(∀ id,O id→O' id)∧(∀ id,O' id→O id∨s.n≤id)∧r = .sref j 0 rows.length 3∧F' j∧s'.get j=some (.cells .mut (wcl srow rows))∧(rows.length:Int)=B.L ∧
      (∀ a,a<rows.length→(rows.getD a default).1=idxK keyT (afT B ts (ts.getD n []) B.L.toNat) (keyT (stT B (ts.getD n []) a))∧(rows.getD a default).1<(afT B ts (ts.getD n []) B.L.toNat).length∧IsInts (rows.getD a default).2.1 (stG B (ts.getD n []) a)∧IsInts (rows.getD a default).2.2 (stB B (ts.getD n []) a)) ∧
      s.n≤s'.n∧(∀ id,F id→s'.get id=s.get id)∧∀ id,id<s.n→¬ O id→s'.get id=s.get id):=by
  obtain ⟨tv,pv,xv,TN,SN,tcs,pcs,xr,hX⟩:=hS
  have hL1:=hv.1
  have hL64:=hv.2.1
  obtain ⟨Ln,hLn⟩:∃ Ln:Nat,B.L=(Ln:Int):=⟨B.L.toNat,by omega⟩
  have hLt:B.L.toNat=Ln:=by omega
  rw [hLt]
  refine call_fn (first:=[]) (caps:=[]) Try.func40 (by decide +kernel) c40 (Nat.le_of_ble_eq_true rfl) (CodeOk.mono (Q:=fun o e s'=>(o = .normal∨o = .jmp .ret)∧∃ O' F' j rows,SR s' Z B sv nv most (afT B ts (ts.getD n []) Ln) xs O' F'∧(∀ id,F id→F' id)∧(∀ id,O id→O' id)∧(∀ id,O' id→O id∨s.n≤id)∧e.at 4 = .sref j 0 rows.length 3∧F' j∧s'.get j=some (.cells .mut (wcl srow rows))∧(rows.length:Int)=B.L ∧
      (∀ a,a<rows.length→(rows.getD a default).1=idxK keyT (afT B ts (ts.getD n []) Ln) (keyT (stT B (ts.getD n []) a))∧(rows.getD a default).1<(afT B ts (ts.getD n []) Ln).length∧IsInts (rows.getD a default).2.1 (stG B (ts.getD n []) a)∧IsInts (rows.getD a default).2.2 (stB B (ts.getD n []) a)) ∧
      s.n≤s'.n∧(∀ id,F id→s'.get id=s.get id)∧∀ id,id<s.n→¬ O id→s'.get id=s.get id) ?_ fun o e s' hh=>by
    obtain ⟨h1,h2⟩:=hh
    exact ⟨h1,_,by simp [l40,resVal,resOne],h2⟩)
  have e0:(envOf ([]++[.pref Z 0, .int .i64 (n:Int)]++[])).at 0 = .pref Z 0:=by rw [envOf_at];rfl
  have e1:(envOf ([]++[.pref Z 0, .int .i64 (n:Int)]++[])).at 1 = .int .i64 (n:Int):=by rw [envOf_at];rfl
  generalize envOf ([]++[.pref Z 0, .int .i64 (n:Int)]++[])=e at *
  refine Cd.out ?_
  unfold l40
  dsimp only [jA,jB,jG,jH,qM,qL,qN,qF,qS,qI,qA,qB,qC,qm,ql]
  have hblk:=hX.blk
  have hnI:(n:Int)<(ts.length:Int):=by omega
  obtain ⟨jp,hpv,hjp,hgp⟩:=hX.p.pos (by omega)
  subst hpv
  have hpl:pcs.length=ts.length:=by have:=hX.p.1;omega
  have hpn:pcs[n]? = some (pcs.getD n .top):=by rw [List.getD_eq_getElem?_getD,List.getElem?_eq_getElem (by omega)];rfl
  have htvc:=hX.t.cell
  have hxvc:=hX.x.cell
  rcases hX.pm n hn with hnil | ⟨j,rows,hrow,hrg,hrl,hrr⟩
  · rw [hnil] at hpn
    have hXB:=Bx.mk hX
    repeat' (first | refine gA (And.intro @hblk (And.intro @iaS (And.intro @hgp (And.intro @hpn @hLn)))) ?_ | (refine gB (And.intro @hblk (And.intro @iaS (And.intro @hgp (And.intro @hpn @hLn)))) ?_;intro bb hbb;cases bb<;>(try simp only [hbs,if_false,reduceCtorEq] at hbb)<;>(try first | (exfalso;omega) | exact hbb.elim)) | apply qc_seq | fail)
    refine u_mkR (n:=Ln) (k:=s.n) (m:=3) wN rfl ef ef (by omega) (by decide) rfl ?_
    have hf1:∀ id,id<s.n→(s.new (.cells .mut (rcells Ln fun _=>[.int .i64 0, .nils, .nils]))).get id=s.get id:=fun id hid=>by rw [St.get_new,if_neg (by omega)]
    have hg1:(s.new (.cells .mut (rcells Ln fun _=>[.int .i64 0, .nils, .nils]))).get s.n=some (.cells .mut (rcells Ln fun _=>[.int .i64 0, .nils, .nils])):=by rw [St.get_new,if_pos rfl]
    have hn1:(s.new (.cells .mut (rcells Ln fun _=>[.int .i64 0, .nils, .nils]))).n=s.n+1:=rfl
    have hX1:=hX.keep (s':=s.new (.cells .mut (rcells Ln fun _=>[.int .i64 0, .nils, .nils]))) (by omega) fun id hid=>hf1 id (hX.ol id hid)
    generalize s.new (.cells .mut (rcells Ln fun _=>[.int .i64 0, .nils, .nils]))=s1 at *
    generalize hte:ts.getD n []=t at *
    repeat' (first | refine gA trivial ?_ | (refine gB trivial ?_;intro bb hbb;cases bb<;>(try simp only [hbs,if_false,reduceCtorEq] at hbb)<;>(try first | (exfalso;omega) | exact hbb.elim)) | apply qc_seq | fail)
    refine qc_loop (fun m e s1=>∃ (k:Nat) (O1:Nat→Prop) (rw':Nat→Nat × LV × LV),m=Ln - k∧k≤Ln∧SR s1 Z B sv nv most (afT B ts t k) xs O1 F∧(∀ id,O id→O1 id)∧(∀ id,O1 id→O id∨s.n≤id)∧¬ O1 s.n∧s.n<s1.n∧s1.get s.n=some (.cells .mut (rcells Ln fun a=>if a<k then srow (rw' a) else [.int .i64 0, .nils, .nils])) ∧
      (∀ a,a<k→(rw' a).1=idxK keyT (afT B ts t a) (keyT (stT B t a))∧IsInts (rw' a).2.1 (stG B t a)∧IsInts (rw' a).2.2 (stB B t a))∧(∀ id,F id→s1.get id=s.get id)∧(∀ id,id<s.n→¬ O id→s1.get id=s.get id)∧e.at 0 = .pref Z 0∧e.at 1 = .int .i64 (n:Int)∧e.at 5 = .sref s.n 0 Ln 3∧e.at 23 = .sref s.n 0 Ln 3∧e.at 24 = .int .i64 (Ln:Int)∧e.at 25 = .int .i64 (k:Int)) _
      ⟨0,O,fun _=>default,rfl,by omega,⟨_,_,_,_,_,_,_,_,hX1⟩,fun id h=>h,fun id h=>.inl h,fun h=>by have:=hX.ol _ h;omega,by omega,by simpa using hg1,fun a ha=>absurd ha (by omega),fun id hf=>hf1 id (hX.ol id (hX.fo id hf).1),fun id hid _=>hf1 id hid,ef,ef,ef,ef,ef,by simp only [lk,sv1,sv2,sv3,Nat.reduceEqDiff,Nat.reduceAdd,Nat.reduceLeDiff,reduceIte,if_false,if_true,mkVal,unLV,List.map,optTmps];rfl⟩ ?_
    clear e0 e1 hX1 hg1 hf1 hn1 hblk hgp hpn hXB
    clear e s1
    rintro m e s1 ⟨k,O1,rw',rfl,hk,hS1,hO1,hO2,hO3,hn1,hg1,hrw,hF1,ho1,e0,e1,e5,e23,e24,e25⟩
    obtain ⟨tv1,pv1,xv1,TN1,SN1,tcs1,pcs1,xr1,hX1⟩:=hS1
    obtain ⟨mm,hmm,hml⟩:=afT_pre B ts t 0 k
    rw [Nat.zero_add] at hmm
    have hmm':afT B ts t k=ts++mm:=hmm
    have hnk:n<(afT B ts t k).length:=by rw [hmm',List.length_append];omega
    have hlk:(afT B ts t k).length≤90064:=by rw [hmm',List.length_append];omega
    have htn:(afT B ts t k).getD n []=t:=by
      rw [hmm',← hte,List.getD_eq_getElem?_getD,List.getElem?_append_left hn,← List.getD_eq_getElem?_getD]
    have hnI1:(n:Int)<((afT B ts t k).length:Int):=by omega
    have htnB:=Bx.mk htn
    clear hmm hmm' hml
    by_cases hkl:k<Ln
    · have hkI:(k:Int)<(Ln:Int):=by omega
      have hwk:IntKind.i64.wrap ((k:Int)+1)=((k+1:Nat):Int):=by rw [wrap_i64 _ (by omega) (by omega)];rfl
      obtain ⟨rs,htr⟩:=hX1.tt n hnk
      rw [htn] at htr
      clear htn
      obtain ⟨jt,htv,hjt,hgt⟩:=hX1.t.pos (by omega)
      subst htv
      have htl:tcs1.length=(afT B ts t k).length:=by have:=hX1.t.1;omega
      have htcn:tcs1[n]? = some (tcs1.getD n .top):=by rw [List.getD_eq_getElem?_getD,List.getElem?_eq_getElem (by omega)];rfl
      have hstep:=tstep_ok hB hv (by omega) htr (a:=k) (by omega) fun q=>hlim q k
      have hblk1:=hX1.blk
      have hsc1:isCell sv=true:=by obtain ⟨_,h1,_⟩:=hB;exact h1.sl.cell
      have hnc1:isCell nv=true:=by obtain ⟨_,_,_,h2⟩:=hB;exact h2.sl.cell
      generalize tcs1.getD n .top=tvn at *
      have hXB:=Bx.mk hX1
      have hrB:=Bx.mk (And.intro hrw (And.intro hF1 (And.intro ho1 hg1)))
      clear hX1 hrw hF1 ho1 hg1
      repeat' (first | refine gA (And.intro @hblk1 (And.intro @iaS (And.intro @hgt (And.intro @htcn @hLn)))) ?_ | (refine gB (And.intro @hblk1 (And.intro @iaS (And.intro @hgt (And.intro @htcn @hLn)))) ?_;intro bb hbb;cases bb<;>(try simp only [hbs,if_false,reduceCtorEq] at hbb)<;>(try first | (exfalso;omega) | exact hbb.elim)) | apply qc_seq | fail)
      have hZ1:=hXB.out.ol Z hXB.out.oZ.1
      have hblk2:(s1.new (.cells .mut [.nils, .nils])).get Z=some (.cells .mut [.int .i64 B.L,sv,nv, .int .i64 most, .sref jt 0 (afT B ts t k).length 1,pv1, .mref TN1,xv1, .mref SN1]):=by rw [St.get_new,if_neg (by omega)];exact hblk1
      have hgt2:(s1.new (.cells .mut [.nils, .nils])).get jt=some (.cells .mut tcs1):=by rw [St.get_new,if_neg (by omega)];exact hgt
      have hnb2:(s1.new (.cells .mut [.nils, .nils])).get s1.n=some (.cells .mut [.nils, .nils]):=by rw [St.get_new,if_pos rfl]
      have hf2:∀ id,id<s1.n→(s1.new (.cells .mut [.nils, .nils])).get id=s1.get id:=fun id hid=>by rw [St.get_new,if_neg (by omega)]
      have hn2:(s1.new (.cells .mut [.nils, .nils])).n=s1.n+1:=rfl
      refine q_gen (v:=.pref s1.n 0) (s':=s1.new (.cells .mut [.nils, .nils])) rfl rfl rfl ⟨.inr ⟨rfl,by simp [LOp.run,lk,sv1,sv2,sv3,Nat.reduceEqDiff,Nat.reduceAdd,Nat.reduceLeDiff,reduceIte,if_false,if_true,mkVal,unLV,List.map,optTmps,Env.put_some,hblk2,mkVal,hLn]⟩, .inr ⟨rfl,by simp [LOp.run,lk,sv1,sv2,sv3,Nat.reduceEqDiff,Nat.reduceAdd,Nat.reduceLeDiff,reduceIte,if_false,if_true,mkVal,unLV,List.map,optTmps,Env.put_some,hblk2,mkVal]⟩, .inr ⟨rfl,by simp [LOp.run,lk,sv1,sv2,sv3,Nat.reduceEqDiff,Nat.reduceAdd,Nat.reduceLeDiff,reduceIte,if_false,if_true,mkVal,unLV,List.map,optTmps,Env.put_some,hgt2,mkVal,htcn]⟩,trivial⟩ ?_
      simp only [Env.put_some]
      have hX2:=hXB.out.keep (s':=s1.new (.cells .mut [.nils, .nils])) (by omega) fun id hid=>hf2 id (hXB.out.ol id hid)
      generalize s1.new (.cells .mut [.nils, .nils])=s2 at *
      have hX2B:=Bx.mk (And.intro hX2 hf2)
      clear hX2 hf2 hblk2 hgt2 hblk1 hgt
      refine q_pureEx hG0 hstep wN (by simp only [List.map,lk,sv1,sv2,sv3,Nat.reduceEqDiff,Nat.reduceAdd,Nat.reduceLeDiff,reduceIte,if_false,if_true,mkVal,unLV,List.map,optTmps,hLn]) fun r hr hrc=>⟨trivial,?_⟩
      simp only [Env.put_some]
      obtain ⟨tv',gv,bv',rs',rfl,htr',hgi,hbi⟩:=hr
      have hgc:=hgi.sl.cell
      have hbc:=hbi.sl.cell
      have htc':=htr'.sl.cell
      clear hstep
      repeat' (first | refine gA trivial ?_ | (refine gB trivial ?_;intro bb hbb;cases bb<;>(try simp only [hbs,if_false,reduceCtorEq] at hbb)<;>(try first | (exfalso;omega) | exact hbb.elim)) | apply qc_seq | fail)
      have hnb3:(s2.put s1.n (.cells .mut [gv,bv'])).get s1.n=some (.cells .mut [gv,bv']):=by rw [St.get_put,if_pos rfl]
      have hf3:∀ id,id≠s1.n→(s2.put s1.n (.cells .mut [gv,bv'])).get id=s2.get id:=fun id hid=>by rw [St.get_put,if_neg hid]
      have hn3:(s2.put s1.n (.cells .mut [gv,bv'])).n=s2.n:=rfl
      have hnO:¬ O1 s1.n:=fun h=>by have:=hXB.out.ol _ h;omega
      have hX3:=hX2B.out.1.keep (s':=s2.put s1.n (.cells .mut [gv,bv'])) (by omega) fun id hid=>hf3 id fun e=>hnO (e ▸ hid)
      generalize s2.put s1.n (.cells .mut [gv,bv'])=s3 at *
      have htnc:=tnum_ok ⟨_,_,_,_,_,_,_,_,hX3⟩ htr' (stT_TrB hN t k) (by omega)
      have hX3B:=Bx.mk (And.intro hX3 hf3)
      clear hX3 hf3
      repeat' (first | refine gA @hnb3 ?_ | (refine gB @hnb3 ?_;intro bb hbb;cases bb<;>(try simp only [hbs,if_false,reduceCtorEq] at hbb)<;>(try first | (exfalso;omega) | exact hbb.elim)) | apply qc_seq | fail)
      refine q_call wN (fv:=.fn (.func 37) [] []) (vs:=[.pref Z 0,tv']) ef (by simp only [List.map,lk,sv1,sv2,sv3,Nat.reduceEqDiff,Nat.reduceAdd,Nat.reduceLeDiff,reduceIte,if_false,if_true,mkVal,unLV,List.map,optTmps]) (CallOk.mono htnc fun x s4 hh=>?_)
      obtain ⟨rfl,hS4,hn4,hF4,ho4⟩:=hh
      have hnb4:s4.get s1.n=some (.cells .mut [gv,bv']):=(ho4 _ (by omega) hnO).trans hnb3
      refine ⟨⟨.inr ⟨rfl,by simp [LOp.run,lk,sv1,sv2,sv3,Nat.reduceEqDiff,Nat.reduceAdd,Nat.reduceLeDiff,reduceIte,if_false,if_true,mkVal,unLV,List.map,optTmps,Env.put_some,hnb4,mkVal]⟩,trivial⟩,?_⟩
      simp only [Env.put_some]
      have h4B:=Bx.mk (And.intro hS4 (And.intro hF4 ho4))
      clear htnc hS4 hF4 ho4
      have hcg:cells? (.agg [gv,bv'])=some [gv,bv']:=by
        have:[gv,bv'].all isCell=true:=by simp only [List.all_cons,List.all_nil,Bool.and_true,hgc,hbc]
        simp only [cells?,this,if_true]
      refine u_build (vs:=srow (idxK keyT (afT B ts t k) (keyT (stT B t k)),gv,bv')) wN (by
        simp only [evParts,List.map,lk,sv1,sv2,sv3,Nat.reduceEqDiff,Nat.reduceAdd,Nat.reduceLeDiff,reduceIte,if_false,if_true,mkVal,unLV,List.map,optTmps]
        simp [fillParts,hcg,cells_int,splice,srow]) ?_
      repeat' (first | refine gA @iaS ?_ | (refine gB @iaS ?_;intro bb hbb;cases bb<;>(try simp only [hbs,if_false,reduceCtorEq] at hbb)<;>(try first | (exfalso;omega) | exact hbb.elim)) | apply qc_seq | fail)
      have hg4:s4.get s.n=some (.cells .mut (rcells Ln fun a=>if a<k then srow (rw' a) else [.int .i64 0, .nils, .nils])):=by
        rw [h4B.out.2.2 s.n (by omega) hO3,hX3B.out.2 s.n (by omega),hX2B.out.2 s.n hn1]
        exact hrB.out.2.2.2
      have hcs:cells? (.agg (srow (idxK keyT (afT B ts t k) (keyT (stT B t k)),gv,bv')))=some (srow (idxK keyT (afT B ts t k) (keyT (stT B t k)),gv,bv')):=by
        have:(srow (idxK keyT (afT B ts t k) (keyT (stT B t k)),gv,bv')).all isCell=true:=by simp only [srow,List.all_cons,List.all_nil,Bool.and_true,hgc,hbc];rfl
        simp only [cells?,this,if_true]
      refine q_storeR (i:=s.n) (q:=k) (n:=Ln) (m:=3) (f:=fun a=>if a<k then srow (rw' a) else [.int .i64 0, .nils, .nils]) (f':=fun a=>if a<k+1 then srow (if a=k then (idxK keyT (afT B ts t k) (keyT (stT B t k)),gv,bv') else rw' a) else [.int .i64 0, .nils, .nils]) ef ef hcs rfl hg4 (fun i=>by split<;>rfl) hkl (fun j=>by
        by_cases e:j=k
        · subst e;simp
        · by_cases e2:j<k
          · simp [e,e2,show j<k+1 by omega]
          · simp [e,e2,show ¬ j<k+1 by omega]) (fun s5 hn5 hg5 ho5=>?_)
      have hsr:SR s5 Z B sv nv most (afT B ts t (k+1)) xs (fun id=>O1 id∨s3.n≤id∧id<s4.n) F:=by
        obtain ⟨a1,a2,a3,a4,a5,a6,a7,a8,hX4⟩:=h4B.out.1
        exact ⟨a1,a2,a3,a4,a5,a6,a7,a8,hX4.keep (by omega) fun id hid=>ho5 id fun e=>by
          rcases hid with hid | hid
          · exact hO3 (e ▸ hid)
          · omega⟩
      have hrw2:∀ a,a<k+1→((fun a=>if a=k then (idxK keyT (afT B ts t k) (keyT (stT B t k)),gv,bv') else rw' a) a).1=idxK keyT (afT B ts t a) (keyT (stT B t a))∧IsInts ((fun a=>if a=k then (idxK keyT (afT B ts t k) (keyT (stT B t k)),gv,bv') else rw' a) a).2.1 (stG B t a)∧IsInts ((fun a=>if a=k then (idxK keyT (afT B ts t k) (keyT (stT B t k)),gv,bv') else rw' a) a).2.2 (stB B t a):=fun a ha=>by
        by_cases e:a=k
        · subst e;simp only [if_true];exact ⟨trivial,hgi,hbi⟩
        · simp only [if_neg e];exact hrB.out.1 a (by omega)
      have hfr:(∀ id,F id→s5.get id=s.get id)∧∀ id,id<s.n→¬ O id→s5.get id=s.get id:=by
        refine ⟨fun id hf=>?_,fun id h1 h2=>?_⟩
        · have hfo:=(hXB.out.fo id hf).1
          have hlt:=hXB.out.ol id hfo
          rw [ho5 id (fun e=>hO3 (e ▸ hfo)),h4B.out.2.1 id hf,hX3B.out.2 id (by omega),hX2B.out.2 id hlt]
          exact hrB.out.2.1 id hf
        · rw [ho5 id (by omega),h4B.out.2.2 id (by omega) (fun h=>by rcases hO2 id h with h | h;exact h2 h;omega),hX3B.out.2 id (by omega),hX2B.out.2 id (by omega)]
          exact hrB.out.2.2.1 id h1 h2
      have hfB:=Bx.mk (And.intro hsr (And.intro hrw2 (And.intro hg5 hfr)))
      clear hsr hrw2 hg5 hfr ho5 h4B hX3B hX2B hXB hrB hg4
      repeat' (first | refine gA @hwk ?_ | (refine gB @hwk ?_;intro bb hbb;cases bb<;>(try simp only [hbs,if_false,reduceCtorEq] at hbb)<;>(try first | (exfalso;omega) | exact hbb.elim)) | apply qc_seq | fail)
      refine ⟨Ln - (k+1),by omega,k+1,_,_,rfl,by omega,hfB.out.1,fun id h=>.inl (hO1 id h),fun id h=>?_,fun h=>?_,by omega,hfB.out.2.2.1,hfB.out.2.1,hfB.out.2.2.2.1,hfB.out.2.2.2.2,?_⟩
      · rcases h with h | h
        · exact hO2 id h
        · right;omega
      · rcases h with h | h
        · exact hO3 h
        · omega
      · simp only [lk,sv1,sv2,sv3,Nat.reduceEqDiff,Nat.reduceAdd,Nat.reduceLeDiff,reduceIte,if_false,if_true,mkVal,unLV,List.map,optTmps,hwk,e0,e1,e5,e23,e24,and_self]
    · have hk':k=Ln:=by omega
      subst hk'
      obtain ⟨jp1,hpv1,hjp1,hgp1⟩:=hX1.p.pos (by omega)
      have hpl1:pcs1.length=(afT B ts t k).length:=by have:=hX1.p.1;omega
      have hblk1:=hX1.blk
      have hpvO:=hX1.ou jp1 (.inr (.inl (by rw [hpv1];exact uses_sref.2 rfl)))
      have hZp:Z≠jp1:=fun e=>hpvO.2 e.symm
      have hjs:s.n≠jp1:=fun e=>hO3 (e ▸ hpvO.1)
      subst hpv1
      have hrows:∃ rows:List (Nat × LV × LV),rows.length=k∧s1.get s.n=some (.cells .mut (wcl srow rows))∧∀ a,a<k→rows.getD a default=rw' a:=by
        have hgd:∀ a,a<k→((List.range k).map rw').getD a default=rw' a:=fun a ha=>by simp [List.getD_eq_getElem?_getD,ha]
        refine ⟨(List.range k).map rw',by simp,?_,hgd⟩
        rw [hg1,wcl_rcells,List.length_map,List.length_range]
        congr 2
        refine rcells_congr fun i hi=>?_
        rw [if_pos hi,hgd i hi]
      obtain ⟨rows,hr1,hr2,hr3⟩:=hrows
      have hfacts:∀ a,a<rows.length→(rows.getD a default).1=idxK keyT (afT B ts t k) (keyT (stT B t a))∧(rows.getD a default).1<(afT B ts t k).length∧IsInts (rows.getD a default).2.1 (stG B t a)∧IsInts (rows.getD a default).2.2 (stB B t a):=fun a ha=>by
        have ha':a<k:=by omega
        rw [hr3 a ha']
        obtain ⟨h1,h2,h3⟩:=hrw a ha'
        obtain ⟨i1,i2⟩:=afT_idx B ts t ha'
        rw [h1,← i1]
        exact ⟨rfl,i2,h2,h3⟩
      have hmemo:Memo s1 B (afT B ts t k) ((afT B ts t k).getD n []) (.sref s.n 0 rows.length 3):=.inr ⟨s.n,rows,rfl,hr2,by omega,by rw [htn];exact hfacts⟩
      have hfin:=fun s' h1 h2 h3=>hX1.memo (s':=s') (n:=n) (j:=s.n) (jp:=jp1) (rows:=rows) hnk rfl hO3 hn1 hr2 hmemo h1 h2 h3
      have hXB:=Bx.mk (And.intro hfin (And.intro hfacts (And.intro hF1 (And.intro ho1 (And.intro hX1 hr2)))))
      clear hfin hfacts hF1 ho1 hX1 hr2 hg1 hrw hmemo hr3
      rw [← hr1] at e5
      have hrlB:=Bx.mk hr1
      clear hr1
      repeat' (first | refine gA (And.intro @hblk1 @iaS) ?_ | (refine gB (And.intro @hblk1 @iaS) ?_;intro bb hbb;cases bb<;>(try simp only [hbs,if_false,reduceCtorEq] at hbb)<;>(try first | (exfalso;omega) | exact hbb.elim)) | apply qc_seq | fail)
      refine q_storeG (i:=jp1) (o:=n) (n:=1) (v:=.sref s.n 0 rows.length 3) (vs:=[.sref s.n 0 rows.length 3]) (cs:=pcs1) (cs':=pcs1.set n (.sref s.n 0 rows.length 3)) ef ef rfl hgp1 rfl (by omega) rfl ?_
      have hgp2:(s1.put jp1 (.cells .mut (pcs1.set n (.sref s.n 0 rows.length 3)))).get jp1=some (.cells .mut (pcs1.set n (.sref s.n 0 rows.length 3))):=by rw [St.get_put,if_pos rfl]
      have hf2:∀ id,id≠jp1→(s1.put jp1 (.cells .mut (pcs1.set n (.sref s.n 0 rows.length 3)))).get id=s1.get id:=fun id hid=>by rw [St.get_put,if_neg hid]
      have hn2:(s1.put jp1 (.cells .mut (pcs1.set n (.sref s.n 0 rows.length 3)))).n=s1.n:=rfl
      have hblk2:=(hf2 Z hZp).trans hblk1
      have hpn2:(pcs1.set n (.sref s.n 0 rows.length 3))[n]? = some (.sref s.n 0 rows.length 3):=by rw [List.getElem?_set_self (by omega)]
      generalize s1.put jp1 (.cells .mut (pcs1.set n (.sref s.n 0 rows.length 3)))=s2 at *
      have hS2:=hXB.out.1 s2 hn2 hgp2 hf2
      have hSB:=Bx.mk (And.intro hS2 hf2)
      clear hS2 hf2 hgp1 hblk1
      repeat' (first | refine gA (And.intro @hblk2 (And.intro @iaS (And.intro @hgp2 @hpn2))) ?_ | (refine gB (And.intro @hblk2 (And.intro @iaS (And.intro @hgp2 @hpn2))) ?_;intro bb hbb;cases bb<;>(try simp only [hbs,if_false,reduceCtorEq] at hbb)<;>(try first | (exfalso;omega) | exact hbb.elim)) | apply qc_seq | fail)
      have hr1:=hrlB.out
      have hX1:=hXB.out.2.2.2.2.1
      refine ⟨.inr trivial,_,_,s.n,rows,⟨_,_,_,_,_,_,_,_,hSB.out.1⟩,fun id h=>.inl h,fun id h=>.inl (hO1 id h),fun id h=>?_,ef, .inr rfl,(hSB.out.2 s.n hjs).trans hXB.out.2.2.2.2.2,by omega,hXB.out.2.1,by omega,fun id hf=>?_,fun id h1 h2=>?_⟩
      · rcases h with h | rfl
        · exact hO2 id h
        · exact .inr (Nat.le_refl _)
      · rw [hSB.out.2 id fun e=>(hX1.fo id hf).2.2.2.2.2.1 (e ▸ uses_sref.2 rfl)]
        exact hXB.out.2.2.1 id hf
      · rw [hSB.out.2 id fun e=>by
          rcases hO2 jp1 hpvO.1 with h | h
          · exact h2 (e ▸ h)
          · omega]
        exact hXB.out.2.2.2.1 id h1 h2
  · have hmo:=hX.om n hn j (by rw [hrow];exact uses_sref.2 rfl)
    rw [hrow] at hpn
    have hsame:=afT_same B ts (ts.getD n []) Ln fun a ha=>by
      have:=hrr a (by omega)
      rw [← this.1];exact this.2.1
    have hXB:=Bx.mk hX
    have hrB:=Bx.mk (And.intro hrr (And.intro hsame hmo))
    clear hX hrr hsame hmo
    repeat' (first | refine gA (And.intro @hblk (And.intro @iaS (And.intro @hgp @hpn))) ?_ | (refine gB (And.intro @hblk (And.intro @iaS (And.intro @hgp @hpn))) ?_;intro bb hbb;cases bb<;>(try simp only [hbs,if_false,reduceCtorEq] at hbb)<;>(try first | (exfalso;omega) | exact hbb.elim)) | apply qc_seq | fail)
    refine ⟨.inr trivial,O,F,j,rows,?_,fun id h=>h,fun id h=>h,fun id h=>.inl h,ef,hrB.out.2.2,hrg,hrl,?_,Nat.le_refl _,fun _ _=>trivial,fun _ _ _=>trivial⟩
    · rw [hrB.out.2.1];exact ⟨_,_,_,_,_,_,_,_,hXB.out⟩
    · rw [hrB.out.2.1];exact hrB.out.1
end Go.Proofs.Ytkbiecjdcjfhaaa
