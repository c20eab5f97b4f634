/- parity's search: the rows of one state after the other. -/
import Derived.Test.YtkbiecjdcjfhaaaPaf
set_option linter.unusedSimpArgs false
set_option linter.unusedVariables false
namespace Go.Proofs.Ytkbiecjdcjfhaaa
open Go Go.Pv Go.Tre
open Classical
abbrev Xs:=List (Nat × List Int)
noncomputable def rcA (B:Bu) (t:List Nd) (r:List Int) (a:Nat):List Int:=recN (marks (stG B t a) (stB B t a) r.length) r
noncomputable def prA (B:Bu) (t:List Nd) (r:List Int) (a:Nat):Nat:=recPr (marks (stG B t a) (stB B t a) r.length) r
noncomputable def kA (B:Bu) (ts1:List (List Nd)) (t:List Nd) (a:Nat):Nat:=idxK keyT ts1 (keyT (stT B t a))
noncomputable def xsA (B:Bu) (ts1:List (List Nd)) (t:List Nd) (r:List Int) (xs:Xs):Nat→Xs
  | 0=>xs
  | a+1=>addK keyX (xsA B ts1 t r xs a) (kA B ts1 t a,rcA B t r a)
noncomputable def nxA (B:Bu) (ts1:List (List Nd)) (t:List Nd) (r:List Int) (xs:Xs) (a:Nat):Nat:=idxK keyX (xsA B ts1 t r xs a) (keyX (kA B ts1 t a,rcA B t r a))
noncomputable def sq (B:Bu) (ts0:List (List Nd)) (xs0:Xs):Nat→List (List Nd) × Xs
  | 0=>(ts0,xs0)
  | n+1=>
    let c:=sq B ts0 xs0 n
    let x:=c.2.getD n default
    let t:=c.1.getD x.1 []
    (afT B c.1 t B.L.toNat,xsA B (afT B c.1 t B.L.toNat) t x.2 c.2 B.L.toNat)
noncomputable def sqN (B:Bu) (ts0:List (List Nd)) (xs0:Xs) (n:Nat):List Int:=(List.range B.L.toNat).map fun a=>(nxA B (sq B ts0 xs0 (n+1)).1 ((sq B ts0 xs0 n).1.getD ((sq B ts0 xs0 n).2.getD n default).1 []) ((sq B ts0 xs0 n).2.getD n default).2 (sq B ts0 xs0 n).2 a:Int)
noncomputable def sqP (B:Bu) (ts0:List (List Nd)) (xs0:Xs) (n:Nat):List Int:=(List.range B.L.toNat).map fun a=>(prA B ((sq B ts0 xs0 n).1.getD ((sq B ts0 xs0 n).2.getD n default).1 []) ((sq B ts0 xs0 n).2.getD n default).2 a:Int)
def XOk (N:Nat) (ts:List (List Nd)) (xs:Xs):Prop:=∀ x∈xs,x.1<ts.length∧RecV x.2∧x.2.length=2*N
theorem addK_mem {α:Type} {key:α→List UInt8} {l:List α} {x y:α} (h:y∈addK key l x):y∈l∨y=x:=by
  unfold addK at h
  split at h
  · exact .inl h
  · rcases List.mem_append.1 h with h | h
    · exact .inl h
    · exact .inr (List.mem_singleton.1 h)
theorem xsA_ok {B:Bu} {N:Nat} {ts1:List (List Nd)} {t:List Nd} {r:List Int} {xs:Xs} (h:XOk N ts1 xs) (hr:RecV r) (hl:r.length=2*N) {n:Nat} (hk:∀ a,a<n→kA B ts1 t a<ts1.length):XOk N ts1 (xsA B ts1 t r xs n):=by
  induction n with
  | zero=>exact h
  | succ n ih=>
    intro x hx
    rcases addK_mem hx with hx | rfl
    · exact ih (fun a ha=>hk a (by omega)) x hx
    · exact ⟨hk n (by omega),recN_ok hr,by show (recN _ r).length=2*N;rw [(recN_perm _ r).length_eq];exact hl⟩
theorem xsA_pre (B:Bu) (ts1:List (List Nd)) (t:List Nd) (r:List Int) (xs:Xs) (n:Nat):∃ m,xsA B ts1 t r xs n=xs++m∧m.length≤n:=by
  induction n with
  | zero=>exact ⟨[],by simp [xsA],by simp⟩
  | succ n ih=>
    obtain ⟨m,h1,h2⟩:=ih
    obtain ⟨m2,h3,h4⟩:=addK_pre keyX (xsA B ts1 t r xs n) (kA B ts1 t n,rcA B t r n)
    refine ⟨m++m2,?_,by simp;omega⟩
    show addK keyX (xsA B ts1 t r xs n) _=_
    rw [h3,h1,List.append_assoc]
theorem xsA_mono (B:Bu) (ts1:List (List Nd)) (t:List Nd) (r:List Int) (xs:Xs) {n m:Nat} (h:n≤m):(xsA B ts1 t r xs n).length≤(xsA B ts1 t r xs m).length:=by
  induction h with
  | refl=>exact Nat.le_refl _
  | step h ih=>
    rename_i m
    obtain ⟨d,h1,-⟩:=addK_pre keyX (xsA B ts1 t r xs m) (kA B ts1 t m,rcA B t r m)
    have h2:xsA B ts1 t r xs (m+1)=xsA B ts1 t r xs m++d:=h1
    rw [h2,List.length_append]
    omega
set_option maxHeartbeats 16000000 in
theorem rows_it {Z b most:Nat} {B:Bu} {sv nv:LV} {ts0:List (List Nd)} {xs0:Xs} {O F:Nat→Prop} (hB:IsB (.agg [.int .i64 B.L,sv,nv]) B sv nv) (hv:Vb B) (hN:B.next.length≤10) (hlim:∀ q a,(mvs B q a).length≤1000000) (hmost:most≤1000) (y:LV) (s:St) (hS:SR s Z B sv nv (most:Int) ts0 xs0 O F) (hb:s.get b=some (.cells .mut [.pref Z 0])) (hbl:b<s.n) (hbO:¬ O b) (hx0:XOk B.next.length ts0 xs0) (ht0:ts0.length≤1) (hxl:xs0.length≤most)
    (I:Nat→(Nat→Prop)→St→Prop) (C0:Nat→Prop) (hc:isCell y=true) (h0:I 0 C0 s) (hCl:∀ n C s1,I n C s1→∀ id,C id→id<s1.n) (hCO:∀ id,C0 id→¬ O id∧id≠b)
    (hst:∀ n C s1 s2,I n C s1→s1.n≤s2.n→(∀ id,C id→s2.get id=s1.get id)→I n C s2)
    (hy:∀ n C s1 nv pv,I n C s1→IsInts nv (sqN B ts0 xs0 n)→IsInts pv (sqP B ts0 xs0 n)→n<(sq B ts0 xs0 n).2.length→(sq B ts0 xs0 (n+1)).2.length≤most→CallOk Try.prog GL y [nv,pv] s1 (fun r s2=>r = .bool true∧s1.n≤s2.n∧∃ C',I (n+1) C' s2∧(∀ id,C' id→C id∨s1.n≤id)∧∀ id,id<s1.n→¬ C id→s2.get id=s1.get id)) :
    CallOk Try.prog GL (.fn (.func 39) [] [.pref b 0]) [y] s (fun _ s'=>s.n≤s'.n∧∃ n C O' F' ts xs,I n C s'∧SR s' Z B sv nv (most:Int) ts xs O' F'∧(∀ j,j<n→j<(sq B ts0 xs0 j).2.length)∧(∀ j,j≤n→(sq B ts0 xs0 j).2.length≤most)∧((xs=(sq B ts0 xs0 n).2∧n=xs.length)∨most<xs.length∧n<(sq B ts0 xs0 n).2.length∧most<(sq B ts0 xs0 (n+1)).2.length)):=by
  refine call_fn (first:=[]) (caps:=[.pref b 0]) Try.func39 (by decide +kernel) c39 (Nat.le_of_ble_eq_true rfl) (CodeOk.mono (Q:=fun o e s'=>(o = .normal∨o = .jmp .ret)∧s.n≤s'.n∧∃ n C O' F' ts xs,I n C s'∧SR s' Z B sv nv (most:Int) ts xs O' F'∧(∀ j,j<n→j<(sq B ts0 xs0 j).2.length)∧(∀ j,j≤n→(sq B ts0 xs0 j).2.length≤most)∧((xs=(sq B ts0 xs0 n).2∧n=xs.length)∨most<xs.length∧n<(sq B ts0 xs0 n).2.length∧most<(sq B ts0 xs0 (n+1)).2.length)) ?_ fun o e s' hh=>by
    obtain ⟨h1,h2⟩:=hh
    exact ⟨h1, .tup [],by simp [l39,resVal],h2⟩)
  have e0:(envOf ([]++[y]++[.pref b 0])).at 0=y:=by rw [envOf_at];rfl
  have e1:(envOf ([]++[y]++[.pref b 0])).at 1 = .pref b 0:=by rw [envOf_at];rfl
  generalize envOf ([]++[y]++[.pref b 0])=e at *
  refine Cd.out ?_
  unfold l39
  dsimp only [jA,jB,jG,qM,qL,qN,qF,qS,qI,qA,qB,qC,qm,ql]
  have hL1:=hv.1
  have hL64:=hv.2.1
  obtain ⟨Ln,hLn⟩:∃ Ln:Nat,B.L=(Ln:Int):=⟨B.L.toNat,by omega⟩
  have hLt:B.L.toNat=Ln:=by omega
  repeat' (first | refine gN trivial ?_ | (refine gB trivial ?_;intro bb hbb;cases bb<;>(try simp only [hbs,if_false,reduceCtorEq] at hbb)<;>(try first | (exfalso;omega) | exact hbb.elim)) | fail)
  refine qc_loop (fun m e s1=>∃ (n:Nat) (C O1 F1:Nat→Prop),m=most+1 - n∧n≤most∧I n C s1∧SR s1 Z B sv nv (most:Int) (sq B ts0 xs0 n).1 (sq B ts0 xs0 n).2 O1 F1∧XOk B.next.length (sq B ts0 xs0 n).1 (sq B ts0 xs0 n).2∧(sq B ts0 xs0 n).1.length≤1+n*64∧(∀ j,j<n→j<(sq B ts0 xs0 j).2.length)∧(∀ j,j≤n→(sq B ts0 xs0 j).2.length≤most)∧n≤(sq B ts0 xs0 n).2.length∧s1.get b=some (.cells .mut [.pref Z 0])∧b<s1.n∧¬ O1 b∧¬ C b∧(∀ id,C id→¬ O1 id)∧s.n≤s1.n∧e.at 0=y∧e.at 1 = .pref b 0∧e.at 3 = .int .i64 (n:Int)) _
    ⟨0,C0,O,F,rfl,by omega,h0,hS,hx0,by show ts0.length≤_;omega,fun j hj=>absurd hj (by omega),fun j hj=>(Nat.le_zero.1 hj) ▸ hxl,Nat.zero_le _,hb,hbl,hbO,fun h=>(hCO b h).2 rfl,fun id h=>(hCO id h).1,Nat.le_refl _,ef,ef,by simp only [lk,sv1,sv2,sv3,Nat.reduceEqDiff,Nat.reduceAdd,Nat.reduceLeDiff,reduceIte,if_false,if_true,mkVal,unLV,List.map,optTmps];rfl⟩ ?_
  clear e0 e1 h0 hS hb hbl hbO hCO
  clear e
  rintro m e s1 ⟨n,C,O1,F1,rfl,hn,hI,hS1,hx1,htl,hj1,hj2,hnx,hb,hbl,hbO,hCb,hCO,hn1,e0,e1,e3⟩
  have hsq1:sq B ts0 xs0 (n+1)=(afT B (sq B ts0 xs0 n).1 ((sq B ts0 xs0 n).1.getD ((sq B ts0 xs0 n).2.getD n default).1 []) B.L.toNat,xsA B (afT B (sq B ts0 xs0 n).1 ((sq B ts0 xs0 n).1.getD ((sq B ts0 xs0 n).2.getD n default).1 []) B.L.toNat) ((sq B ts0 xs0 n).1.getD ((sq B ts0 xs0 n).2.getD n default).1 []) ((sq B ts0 xs0 n).2.getD n default).2 (sq B ts0 xs0 n).2 B.L.toNat):=rfl
  have hyn:=hy n C
  unfold sqN sqP at hyn
  rw [hsq1] at hyn
  simp only [hLt] at hyn
  have hxm:=hj2 n (Nat.le_refl _)
  rw [hLt] at hsq1
  have hsB:=Bx.mk hsq1
  generalize htsE:(sq B ts0 xs0 n).1=ts at *
  generalize hxsE:(sq B ts0 xs0 n).2=xs at *
  obtain ⟨tv,pv,xv,TN,SN,tcs,pcs,xr,hX⟩:=hS1
  have hblk:=hX.blk
  have hxvl:=hX.x.len
  have hXB:=Bx.mk hX
  clear hX hsq1
  have hCl1:=hCl n C s1 hI
  have hIB:=Bx.mk (And.intro hI (And.intro hyn hst))
  clear hI hyn
  have hxl1:=hXB.out.xl
  by_cases hnl:n<xs.length
  · have hnI:(n:Int)<(xs.length:Int):=by omega
    obtain ⟨jx,hxv,hjx,hgx⟩:=hXB.out.x.pos (by omega)
    subst hxv
    have hxi:xr[n]? = some (xr.getD n default):=by rw [List.getD_eq_getElem?_getD,List.getElem?_eq_getElem (by omega)];rfl
    have hxx:=hXB.out.xx n hnl
    have hxo:=hx1 _ (getD_mem hnl)
    generalize hxnE:xs.getD n default=xn at *
    obtain ⟨kx,r⟩:=xn
    simp only at hxx hxo
    generalize hteq:ts.getD kx []=t at *
    repeat' (first | refine gN (And.intro @hb (And.intro @hblk (And.intro @hxvl @hLn))) ?_ | (refine gB (And.intro @hb (And.intro @hblk (And.intro @hxvl @hLn))) ?_;intro bb hbb;cases bb<;>(try simp only [hbs,if_false,reduceCtorEq] at hbb)<;>(try first | (exfalso;omega) | exact hbb.elim)) | fail)
    refine u_mkV (n:=Ln) (k:=s1.n) (z:=.int .i64 0) wN rfl ef ef (by omega) (by decide) ?_
    have hb2:(s1.new (.cells .mut (vcells Ln fun _=>.int .i64 0))).get b=some (.cells .mut [.pref Z 0]):=by rw [St.get_new,if_neg (by omega)];exact hb
    have hZ1:=hXB.out.ol Z hXB.out.oZ.1
    have hblk2:(s1.new (.cells .mut (vcells Ln fun _=>.int .i64 0))).get Z=some (.cells .mut [.int .i64 B.L,sv,nv, .int .i64 (most:Int),tv,pv, .mref TN, .sref jx 0 xs.length 2, .mref SN]):=by rw [St.get_new,if_neg (by omega)];exact hblk
    repeat' (first | refine gN (And.intro @hb2 (And.intro @hblk2 @hLn)) ?_ | (refine gB (And.intro @hb2 (And.intro @hblk2 @hLn)) ?_;intro bb hbb;cases bb<;>(try simp only [hbs,if_false,reduceCtorEq] at hbb)<;>(try first | (exfalso;omega) | exact hbb.elim)) | fail)
    refine u_mkV (n:=Ln) (k:=s1.n+1) (z:=.int .i64 0) wN rfl ef ef (by omega) (by decide) ?_
    have hf3:∀ id,id<s1.n→((s1.new (.cells .mut (vcells Ln fun _=>.int .i64 0))).new (.cells .mut (vcells Ln fun _=>.int .i64 0))).get id=s1.get id:=fun id hid=>by rw [St.get_new,if_neg (by simp;omega),St.get_new,if_neg (by omega)]
    have hA1:((s1.new (.cells .mut (vcells Ln fun _=>.int .i64 0))).new (.cells .mut (vcells Ln fun _=>.int .i64 0))).get s1.n=some (.cells .mut (vcells Ln fun _=>.int .i64 0)):=by rw [St.get_new,if_neg (by simp),St.get_new,if_pos rfl]
    have hA2:((s1.new (.cells .mut (vcells Ln fun _=>.int .i64 0))).new (.cells .mut (vcells Ln fun _=>.int .i64 0))).get (s1.n+1)=some (.cells .mut (vcells Ln fun _=>.int .i64 0)):=by rw [St.get_new,if_pos (by simp)]
    have hn3:((s1.new (.cells .mut (vcells Ln fun _=>.int .i64 0))).new (.cells .mut (vcells Ln fun _=>.int .i64 0))).n=s1.n+2:=rfl
    generalize (s1.new (.cells .mut (vcells Ln fun _=>.int .i64 0))).new (.cells .mut (vcells Ln fun _=>.int .i64 0))=s3 at *
    clear hb2 hblk2
    have hX3:=hXB.out.keep (s':=s3) (by omega) fun id hid=>hf3 id (hXB.out.ol id hid)
    have hb3:=(hf3 b hbl).trans hb
    have hblk3:=hX3.blk
    have hgx3:=(hf3 jx hjx).trans hgx
    have hlx:loadLV none (.pref jx (n*2)) s3=some (.int .i64 (kx:Int)):=by
      have:=load_rw xrow_len hxi (k:=0) (v:=.int .i64 ((xr.getD n default).1:Int)) rfl (rest:=[]) (s:=s3) (j:=jx) (md:=.mut) (by rw [List.append_nil];exact hgx3)
      rw [hxx.1] at this
      exact this
    have haft:=saft_ok (s:=s3) (n:=kx) hB hv hN hlim ⟨_,_,_,_,_,_,_,_,hX3⟩ hxo.1 (by omega)
    rw [hteq,hLt] at haft
    have hf3B:=Bx.mk (And.intro hf3 (And.intro hA1 hA2))
    clear hX3 hf3 hA1 hA2 hblk hgx
    repeat' (first | refine gN (And.intro @hb3 (And.intro @hblk3 (And.intro @iaS @hlx))) ?_ | (refine gB (And.intro @hb3 (And.intro @hblk3 (And.intro @iaS @hlx))) ?_;intro bb hbb;cases bb<;>(try simp only [hbs,if_false,reduceCtorEq] at hbb)<;>(try first | (exfalso;omega) | exact hbb.elim)) | fail)
    refine q_call wN (fv:=.fn (.func 40) [] []) (vs:=[.pref Z 0, .int .i64 (kx:Int)]) ef (by simp only [List.map,lk,sv1,sv2,sv3,Nat.reduceEqDiff,Nat.reduceAdd,Nat.reduceLeDiff,reduceIte,if_false,if_true,mkVal,unLV,List.map,optTmps]) (CallOk.mono haft fun res s4 hh=>⟨trivial,?_⟩)
    obtain ⟨O2,F2,jr,rows,hS4,hF2,hO2,hO2',rfl,hFj,hgr,hrl,hrf,hn4,hF4,ho4⟩:=hh
    simp only [Env.put_some]
    have hb4:s4.get b=some (.cells .mut [.pref Z 0]):=(ho4 b (by omega) hbO).trans hb3
    have hA14:s4.get s1.n=some (.cells .mut (vcells Ln fun _=>.int .i64 0)):=(ho4 _ (by omega) fun h=>by have:=hXB.out.ol _ h;omega).trans hf3B.out.2.1
    have hA24:s4.get (s1.n+1)=some (.cells .mut (vcells Ln fun _=>.int .i64 0)):=(ho4 _ (by omega) fun h=>by have:=hXB.out.ol _ h;omega).trans hf3B.out.2.2
    have hO2b:¬ O2 b:=fun h=>by rcases hO2' b h with h | h;exact hbO h;omega
    have hO2C:∀ id,C id→¬ O2 id:=fun id hc h=>by
      rcases hO2' id h with h | h
      · exact hCO id hc h
      · have:=hCl1 id hc;omega
    have hO2A:¬ O2 s1.n∧¬ O2 (s1.n+1):=⟨fun h=>by rcases hO2' _ h with h | h;(have:=hXB.out.ol _ h;omega);omega,fun h=>by rcases hO2' _ h with h | h;(have:=hXB.out.ol _ h;omega);omega⟩
    have hC4:∀ id,C id→s4.get id=s1.get id:=fun id hc=>(ho4 id (by have:=hCl1 id hc;omega) (hCO id hc)).trans (hf3B.out.1 id (hCl1 id hc))
    have hts1l:(afT B ts t Ln).length≤ts.length+64:=by
      obtain ⟨m,h1,h2⟩:=afT_pre B ts t 0 Ln
      rw [Nat.zero_add] at h1
      have h3:afT B ts t Ln=ts++m:=h1
      rw [h3,List.length_append];omega
    generalize hts1:afT B ts t Ln=ts1 at *
    have hrl':rows.length=Ln:=by omega
    have h4B:=Bx.mk (And.intro hS4 (And.intro hrf (And.intro hO2C hC4)))
    clear haft hS4 hrf hO2C hC4 hF4 ho4 hf3B hgx3 hlx hb3 hblk3
    repeat' (first | refine gN trivial ?_ | (refine gB trivial ?_;intro bb hbb;cases bb<;>(try simp only [hbs,if_false,reduceCtorEq] at hbb)<;>(try first | (exfalso;omega) | exact hbb.elim)) | fail)
    refine qc_loop (fun m e s5=>∃ (i:Nat) (O3:Nat→Prop),m=Ln - i∧i≤Ln∧SR s5 Z B sv nv (most:Int) ts1 (xsA B ts1 t r xs i) O3 F2∧(∀ id,O2 id→O3 id)∧(∀ id,O3 id→O2 id∨s4.n≤id)∧(xsA B ts1 t r xs i).length≤most∧s4.n≤s5.n ∧
      s5.get s1.n=some (.cells .mut (vcells Ln fun j=>.int .i64 (if j<i then (nxA B ts1 t r xs j:Int) else 0)))∧s5.get (s1.n+1)=some (.cells .mut (vcells Ln fun j=>.int .i64 (if j<i then (prA B t r j:Int) else 0))) ∧
      (∀ id,F2 id→s5.get id=s4.get id)∧(∀ id,id<s4.n→¬ O2 id→id≠s1.n→id≠s1.n+1→s5.get id=s4.get id)∧e.at 0=y∧e.at 1 = .pref b 0∧e.at 3 = .int .i64 (n:Int)∧e.at 4 = .sref s1.n 0 Ln 1∧e.at 5 = .sref (s1.n+1) 0 Ln 1∧e.at 40 = .sref jr 0 rows.length 3∧e.at 41 = .int .i64 (rows.length:Int)∧e.at 42 = .int .i64 (i:Int)) _
      ⟨0,O2,rfl,by omega,h4B.out.1,fun id h=>h,fun id h=>.inl h,hxm,Nat.le_refl _,by simpa using hA14,by simpa using hA24,fun _ _=>rfl,fun _ _ _ _ _=>rfl,ef,ef,ef,ef,ef,ef,ef,by simp only [lk,sv1,sv2,sv3,Nat.reduceEqDiff,Nat.reduceAdd,Nat.reduceLeDiff,reduceIte,if_false,if_true,mkVal,unLV,List.map,optTmps];rfl⟩ ?_
    clear e0 e1 e3 hA14 hA24
    clear e
    rintro m e s5 ⟨i,O3,rfl,hi,hS5,hO3,hO3',hxi5,hn5,hA15,hA25,hF5,ho5,e0,e1,e3,e4,e5,e40,e41,e42⟩
    obtain ⟨tv5,pv5,xv5,TN5,SN5,tcs5,pcs5,xr5,hX5⟩:=hS5
    obtain ⟨mm,hmm,hml⟩:=xsA_pre B ts1 t r xs i
    have hn5l:n<(xsA B ts1 t r xs i).length:=by rw [hmm,List.length_append];omega
    have hxs5:(xsA B ts1 t r xs i).getD n default=(kx,r):=by
      rw [hmm,List.getD_eq_getElem?_getD,List.getElem?_append_left hnl,← List.getD_eq_getElem?_getD];exact hxnE
    have hb5:s5.get b=some (.cells .mut [.pref Z 0]):=(ho5 b (by omega) hO2b (by omega) (by omega)).trans hb4
    have hgr5:s5.get jr=some (.cells .mut (wcl srow rows)):=(hF5 jr hFj).trans hgr
    clear hmm hml
    by_cases hil:i<Ln
    · have hiI:(i:Int)<(rows.length:Int):=by omega
      have hiL:(i:Int)<(Ln:Int):=by omega
      have hwi:IntKind.i64.wrap ((i:Int)+1)=((i+1:Nat):Int):=by rw [wrap_i64 _ (by omega) (by omega)];rfl
      have hri:rows[i]? = some (rows.getD i default):=by rw [List.getD_eq_getElem?_getD,List.getElem?_eq_getElem (by omega)];rfl
      have hrow:=h4B.out.2.1 i (by omega)
      have hld:=loadN_rw srow_len hri (rest:=[]) (s:=s5) (j:=jr) (md:=.mut) (by rw [List.append_nil];exact hgr5)
      generalize rows.getD i default=rw1 at *
      obtain ⟨k1,gv,bv1⟩:=rw1
      simp only at hrow
      unfold srow at hld
      simp only at hld
      have hgc:=hrow.2.2.1.sl.cell
      have hbc:=hrow.2.2.2.sl.cell
      obtain ⟨jx5,hxv5,hjx5,hgx5⟩:=hX5.x.pos (by omega)
      subst hxv5
      have hxl5:=hX5.xl
      have hxi5':xr5[n]? = some (xr5.getD n default):=by rw [List.getD_eq_getElem?_getD,List.getElem?_eq_getElem (by omega)];rfl
      have hxx5:=hX5.xx n hn5l
      rw [hxs5] at hxx5
      have hxi5B:Bx (xr5[n]? = some (xr5.getD n default)):=⟨hxi5'⟩
      have hrcE:Bx ((xr5.getD n default).2=(xr5.getD n default).2):=⟨rfl⟩
      obtain ⟨recv,hrcE⟩:∃ recv,Bx ((xr5.getD n default).2=recv):=⟨_,⟨rfl⟩⟩
      rw [hrcE.out] at hxx5
      have hnI5:(n:Int)<((xsA B ts1 t r xs i).length:Int):=by omega
      have hblk5:=hX5.blk
      have hXB5:=Bx.mk hX5
      have hst:=recstep_ok hxx5.2 hxo.2.1 hrow.2.2.1 hrow.2.2.2
      have hrowB:=Bx.mk hrow
      clear hrow
      have hfr:=Bx.mk (And.intro hA15 (And.intro hA25 (And.intro hF5 ho5)))
      clear hX5 hxs5 hA15 hA25 hF5 ho5 hri hxi5' hgr5
      repeat' (first | refine gA (And.intro @iaS @hld) ?_ | (refine gB (And.intro @iaS @hld) ?_;intro bb hbb;cases bb<;>(try simp only [hbs,if_false,reduceCtorEq] at hbb)<;>(try first | (exfalso;omega) | exact hbb.elim)) | apply qc_seq | fail)
      have hf6:∀ id,id<s5.n→((s5.new (.cells .mut [.int .i64 0, .nils, .nils])).put s5.n (.cells .mut [.int .i64 (k1:Int),gv,bv1])).get id=s5.get id:=fun id hid=>by rw [St.get_put,if_neg (by omega),St.get_new,if_neg (by omega)]
      have hnb6:((s5.new (.cells .mut [.int .i64 0, .nils, .nils])).put s5.n (.cells .mut [.int .i64 (k1:Int),gv,bv1])).get s5.n=some (.cells .mut [.int .i64 (k1:Int),gv,bv1]):=by rw [St.get_put,if_pos rfl]
      have hn6:((s5.new (.cells .mut [.int .i64 0, .nils, .nils])).put s5.n (.cells .mut [.int .i64 (k1:Int),gv,bv1])).n=s5.n+1:=rfl
      have hb6:=(hf6 b (by omega)).trans hb5
      have hX6:=hXB5.out.keep (s':=(s5.new (.cells .mut [.int .i64 0, .nils, .nils])).put s5.n (.cells .mut [.int .i64 (k1:Int),gv,bv1])) (by omega) fun id hid=>hf6 id (hXB5.out.ol id hid)
      have hgx6:=(hf6 jx5 hjx5).trans hgx5
      have hlr:=load_rw xrow_len hxi5B.out (k:=1) (v:=recv) (by unfold xrow;rw [hrcE.out];rfl) (rest:=[]) (s:=(s5.new (.cells .mut [.int .i64 0, .nils, .nils])).put s5.n (.cells .mut [.int .i64 (k1:Int),gv,bv1])) (j:=jx5) (md:=.mut) (by rw [List.append_nil];exact hgx6)
      generalize (s5.new (.cells .mut [.int .i64 0, .nils, .nils])).put s5.n (.cells .mut [.int .i64 (k1:Int),gv,bv1])=s6 at *
      have hblk6:=hX6.blk
      have hX6B:=Bx.mk (And.intro hX6 hf6)
      clear hX6 hf6 hblk5 hb5 hgx5 hgx6 hld
      repeat' (first | refine gA (And.intro @hb6 (And.intro @hblk6 (And.intro @iaS (And.intro @hlr @hnb6)))) ?_ | (refine gB (And.intro @hb6 (And.intro @hblk6 (And.intro @iaS (And.intro @hlr @hnb6)))) ?_;intro bb hbb;cases bb<;>(try simp only [hbs,if_false,reduceCtorEq] at hbb)<;>(try first | (exfalso;omega) | exact hbb.elim)) | apply qc_seq | fail)
      refine q_pureEx hG0 hst wN (by simp only [List.map,lk,sv1,sv2,sv3,Nat.reduceEqDiff,Nat.reduceAdd,Nat.reduceLeDiff,reduceIte,if_false,if_true,mkVal,unLV,List.map,optTmps]) fun res hres hrc=>⟨trivial,?_⟩
      simp only [Env.put_some]
      obtain ⟨rv',rfl,hrv'⟩:=hres
      have hrvc:=hrv'.sl.cell
      clear hst
      repeat' (first | refine gA (And.intro @hb6 @hnb6) ?_ | (refine gB (And.intro @hb6 @hnb6) ?_;intro bb hbb;cases bb<;>(try simp only [hbs,if_false,reduceCtorEq] at hbb)<;>(try first | (exfalso;omega) | exact hbb.elim)) | apply qc_seq | fail)
      have hc1:cells? rv'=some [rv']:=sl_cells hrv'.sl
      refine u_build (vs:=[.int .i64 (k1:Int),rv']) wN (by
        simp only [evParts,List.map,lk,sv1,sv2,sv3,Nat.reduceEqDiff,Nat.reduceAdd,Nat.reduceLeDiff,reduceIte,if_false,if_true,mkVal,unLV,List.map,optTmps]
        simp [fillParts,hc1,cells_int,splice]) ?_
      have hk1:k1≤1000000:=by have:=hrowB.out.2.1;omega
      have hrl2:(rcA B t r i).length≤6000:=by unfold rcA;rw [(recN_perm _ r).length_eq,hxo.2.2];omega
      have hxn:=xnum_ok (k:=k1) ⟨_,_,_,_,_,_,_,_,hX6B.out.1⟩ (r:=rcA B t r i) hrv' hrl2 hk1 (by omega)
      refine q_call wN (fv:=.fn (.func 36) [] []) (vs:=[.pref Z 0, .agg [.int .i64 (k1:Int),rv']]) ef (by simp only [List.map,lk,sv1,sv2,sv3,Nat.reduceEqDiff,Nat.reduceAdd,Nat.reduceLeDiff,reduceIte,if_false,if_true,mkVal,unLV,List.map,optTmps]) (CallOk.mono hxn fun x s7 hh=>⟨trivial,?_⟩)
      obtain ⟨rfl,hS7,hn7,hF7,ho7⟩:=hh
      simp only [Env.put_some]
      have hkE:k1=kA B ts1 t i:=hrowB.out.1
      have hS7':SR s7 Z B sv nv (most:Int) ts1 (xsA B ts1 t r xs (i+1)) (fun id=>O3 id∨s6.n≤id∧id<s7.n) F2:=by
        rw [hkE] at hS7;exact hS7
      have hnx:idxK keyX (xsA B ts1 t r xs i) (keyX (k1,rcA B t r i))=nxA B ts1 t r xs i:=by rw [hkE];rfl
      rw [hnx]
      have hA17:s7.get s1.n=some (.cells .mut (vcells Ln fun j=>.int .i64 (if j<i then (nxA B ts1 t r xs j:Int) else 0))):=by
        rw [ho7 _ (by omega) (fun h=>by rcases hO3' _ h with h | h;exact hO2A.1 h;omega),hX6B.out.2 _ (by omega)]
        exact hfr.out.1
      have hA27:s7.get (s1.n+1)=some (.cells .mut (vcells Ln fun j=>.int .i64 (if j<i then (prA B t r j:Int) else 0))):=by
        rw [ho7 _ (by omega) (fun h=>by rcases hO3' _ h with h | h;exact hO2A.2 h;omega),hX6B.out.2 _ (by omega)]
        exact hfr.out.2.1
      have hb7:s7.get b=some (.cells .mut [.pref Z 0]):=(ho7 b (by omega) (fun h=>by rcases hO3' _ h with h | h;exact hO2b h;omega)).trans hb6
      have h7F:(∀ id,F2 id→s7.get id=s4.get id)∧(∀ id,id<s4.n→¬ O2 id→id≠s1.n→id≠s1.n+1→s7.get id=s4.get id):=by
        refine ⟨fun id hf=>?_,fun id h1 h2 h3 h4=>?_⟩
        · have hlt:=hXB5.out.ol id (hXB5.out.fo id hf).1
          rw [hF7 id hf,hX6B.out.2 id hlt]
          exact hfr.out.2.2.1 id hf
        · rw [ho7 id (by omega) (fun h=>by rcases hO3' _ h with h | h;exact h2 h;omega),hX6B.out.2 id (by omega)]
          exact hfr.out.2.2.2 id h1 h2 h3 h4
      have h7B:=Bx.mk (And.intro hS7' h7F)
      clear hxn hS7 hS7' hF7 ho7 hfr hX6B hb6 hblk6 hnb6 hlr h7F hkE
      repeat' (first | refine gA (And.intro @iaS @hb7) ?_ | (refine gB (And.intro @iaS @hb7) ?_;intro bb hbb;cases bb<;>(try simp only [hbs,if_false,reduceCtorEq] at hbb)<;>(try first | (exfalso;omega) | exact hbb.elim)) | apply qc_seq | fail)
      refine q_storeV (n:=Ln) (q:=i) (v:=.int .i64 (nxA B ts1 t r xs i:Int)) (f:=fun j=>.int .i64 (if j<i then (nxA B ts1 t r xs j:Int) else 0)) (f':=fun j=>.int .i64 (if j<i+1 then (nxA B ts1 t r xs j:Int) else 0)) ef ef rfl hA17 hil (fun j=>by
        by_cases e:j=i
        · subst e;simp
        · by_cases e2:j<i
          · simp [e,e2,show j<i+1 by omega]
          · simp [e,e2,show ¬ j<i+1 by omega]) (fun s8 hn8 hg8 ho8=>?_)
      have hA28:=(ho8 (s1.n+1) (by omega)).trans hA27
      have hb8:=(ho8 b (by omega)).trans hb7
      repeat' (first | refine gA (And.intro @iaS @hb8) ?_ | (refine gB (And.intro @iaS @hb8) ?_;intro bb hbb;cases bb<;>(try simp only [hbs,if_false,reduceCtorEq] at hbb)<;>(try first | (exfalso;omega) | exact hbb.elim)) | apply qc_seq | fail)
      refine q_storeV (n:=Ln) (q:=i) (v:=.int .i64 (prA B t r i:Int)) (f:=fun j=>.int .i64 (if j<i then (prA B t r j:Int) else 0)) (f':=fun j=>.int .i64 (if j<i+1 then (prA B t r j:Int) else 0)) ef (by simp only [lk,sv1,sv2,sv3,Nat.reduceEqDiff,Nat.reduceAdd,Nat.reduceLeDiff,reduceIte,if_false,if_true,mkVal,unLV,List.map,optTmps];rfl) rfl hA28 hil (fun j=>by
        by_cases e:j=i
        · subst e;simp
        · by_cases e2:j<i
          · simp [e,e2,show j<i+1 by omega]
          · simp [e,e2,show ¬ j<i+1 by omega]) (fun s9 hn9 hg9 ho9=>?_)
      have hb9:=(ho9 b (by omega)).trans hb8
      have hg89:=(ho9 s1.n (by omega)).trans hg8
      obtain ⟨tv9,pv9,xv9,TN9,SN9,tcs9,pcs9,xr9,hX7⟩:=h7B.out.1
      have hO7A:∀ id,(O3 id∨s6.n≤id∧id<s7.n)→id≠s1.n∧id≠s1.n+1:=fun id h=>by
        refine ⟨fun e=>?_,fun e=>?_⟩
        · subst e
          rcases h with h | h
          · rcases hO3' _ h with h | h
            · exact hO2A.1 h
            · omega
          · omega
        · subst e
          rcases h with h | h
          · rcases hO3' _ h with h | h
            · exact hO2A.2 h
            · omega
          · omega
      have hX9:=hX7.keep (s':=s9) (by omega) fun id hid=>by
        have:=hO7A id hid
        rw [ho9 id this.2,ho8 id this.1]
      have hblk9:=hX9.blk
      have hxl9:=hX9.x.len
      have h9F:(∀ id,F2 id→s9.get id=s4.get id)∧(∀ id,id<s4.n→¬ O2 id→id≠s1.n→id≠s1.n+1→s9.get id=s4.get id):=by
        refine ⟨fun id hf=>?_,fun id h1 h2 h3 h4=>?_⟩
        · have:=hO7A id (.inl (hXB5.out.fo id hf).1)
          rw [ho9 id this.2,ho8 id this.1]
          exact h7B.out.2.1 id hf
        · rw [ho9 id h4,ho8 id h3]
          exact h7B.out.2.2 id h1 h2 h3 h4
      have h9B:=Bx.mk (And.intro hX9 (And.intro h9F (And.intro hg89 hg9)))
      clear hX9 h9F hg89 hg9 hg8 ho8 ho9 hA17 hA27 hA28 hb7 hb8 hX7 h7B
      repeat' (first | refine gA (And.intro @hb9 (And.intro @hblk9 @hxl9)) ?_ | (refine gB (And.intro @hb9 (And.intro @hblk9 @hxl9)) ?_;intro bb hbb;cases bb<;>(try simp only [hbs,if_false,reduceCtorEq] at hbb)<;>(try first | (exfalso;omega) | exact hbb.elim)) | apply qc_seq | fail)
      · refine ⟨Ln - (i+1),by omega,i+1,_,rfl,by omega,⟨_,_,_,_,_,_,_,_,h9B.out.1⟩,fun id h=>.inl (hO3 id h),fun id h=>?_,by omega,by omega,h9B.out.2.2.1,h9B.out.2.2.2,h9B.out.2.1.1,h9B.out.2.1.2,?_⟩
        · rcases h with h | h
          · exact hO3' id h
          · right;omega
        · simp only [lk,sv1,sv2,sv3,Nat.reduceEqDiff,Nat.reduceAdd,Nat.reduceLeDiff,reduceIte,if_false,if_true,mkVal,unLV,List.map,optTmps,hwi,e0,e1,e3,e4,e5,e40,e41,e42,and_self]
      · refine ⟨.inr trivial,by omega,n,C,_,F2,ts1,_,hIB.out.2.2 n C s1 s9 hIB.out.1 (by omega) fun id hc=>?_,⟨_,_,_,_,_,_,_,_,h9B.out.1⟩,hj1,hj2, .inr ⟨by omega,by rw [hxsE];exact hnl,?_⟩⟩
        · have hlt:=hCl1 id hc
          rw [h9B.out.2.1.2 id (by omega) (h4B.out.2.2.1 id hc) (by omega) (by omega)]
          exact h4B.out.2.2.2 id hc
        · rw [hsB.out]
          have:=xsA_mono B ts1 t r xs (show i+1≤Ln by omega)
          show most<(xsA B ts1 t r xs Ln).length
          omega
    · have hi':i=Ln:=by omega
      subst hi'
      have hvx:∀ f:Nat→Nat,(vcells i fun j=>.int .i64 (if j<i then (f j:Int) else 0))=ints ((List.range i).map fun j=>(f j:Int)):=fun f=>by
        unfold vcells ints
        rw [List.map_map]
        refine List.map_congr_left fun j hj=>?_
        simp [List.mem_range.1 hj]
      rw [hvx] at hA15 hA25
      have hI5:=hIB.out.2.2 n C s1 s5 hIB.out.1 (by omega) fun id hc=>by
        have hlt:=hCl1 id hc
        rw [ho5 id (by omega) (h4B.out.2.2.1 id hc) (by omega) (by omega)]
        exact h4B.out.2.2.2 id hc
      have hyc:=hIB.out.2.1
      have hnxl:((List.range i).map fun a=>(nxA B ts1 t r xs a:Int)).length=i:=by simp
      have hprl:((List.range i).map fun a=>(prA B t r a:Int)).length=i:=by simp
      have hmx:maxLen=9223372036854775807:=by decide
      have hnr:∀ x∈((List.range i).map fun a=>(nxA B ts1 t r xs a:Int)),inI64 x:=fun x hx=>by
        obtain ⟨a,ha,rfl⟩:=List.mem_map.1 hx
        have ha':=List.mem_range.1 ha
        obtain ⟨m,h1,h2⟩:=xsA_pre B ts1 t r xs a
        have h3:=idxK_le keyX (xsA B ts1 t r xs a) (keyX (kA B ts1 t a,rcA B t r a))
        rw [h1,List.length_append] at h3
        have h4:nxA B ts1 t r xs a≤xs.length+m.length:=by unfold nxA;rw [h1];exact h3
        unfold inI64
        omega
      have hpr:∀ x∈((List.range i).map fun a=>(prA B t r a:Int)),inI64 x:=fun x hx=>by
        obtain ⟨a,ha,rfl⟩:=List.mem_map.1 hx
        have h3:=recPr_rng (marks (stG B t a) (stB B t a) r.length) r
        have h4:prA B t r a≤2*r.length+1:=h3.2
        have h5:=hxo.2.2
        unfold inI64
        omega
      have hz1:frz frzDepth (.sref s1.n 0 i 1) s5=some (.simm (ints ((List.range i).map fun a=>(nxA B ts1 t r xs a:Int))) i,s5.put s1.n (.cells .app (ints ((List.range i).map fun a=>(nxA B ts1 t r xs a:Int))))):=frz_srefN (len:=i) 38 hA15 (by simp) (ints_closed _)
      have hA26:(s5.put s1.n (.cells .app (ints ((List.range i).map fun a=>(nxA B ts1 t r xs a:Int))))).get (s1.n+1)=some (.cells .mut (ints ((List.range i).map fun a=>(prA B t r a:Int)))):=by rw [St.get_put,if_neg (by omega)];exact hA25
      have hz2:frz frzDepth (.sref (s1.n+1) 0 i 1) (s5.put s1.n (.cells .app (ints ((List.range i).map fun a=>(nxA B ts1 t r xs a:Int)))))=some (.simm (ints ((List.range i).map fun a=>(prA B t r a:Int))) i,(s5.put s1.n (.cells .app (ints ((List.range i).map fun a=>(nxA B ts1 t r xs a:Int))))).put (s1.n+1) (.cells .app (ints ((List.range i).map fun a=>(prA B t r a:Int))))):=frz_srefN (len:=i) 38 hA26 (by simp) (ints_closed _)
      have hf6:∀ id,id≠s1.n→id≠s1.n+1→((s5.put s1.n (.cells .app (ints ((List.range i).map fun a=>(nxA B ts1 t r xs a:Int))))).put (s1.n+1) (.cells .app (ints ((List.range i).map fun a=>(prA B t r a:Int))))).get id=s5.get id:=fun id h1 h2=>by rw [St.get_put,if_neg h2,St.get_put,if_neg h1]
      have hn6:((s5.put s1.n (.cells .app (ints ((List.range i).map fun a=>(nxA B ts1 t r xs a:Int))))).put (s1.n+1) (.cells .app (ints ((List.range i).map fun a=>(prA B t r a:Int))))).n=s5.n:=rfl
      generalize (s5.put s1.n (.cells .app (ints ((List.range i).map fun a=>(nxA B ts1 t r xs a:Int))))).put (s1.n+1) (.cells .app (ints ((List.range i).map fun a=>(prA B t r a:Int))))=s6 at *
      have hI6:=hIB.out.2.2 n C s5 s6 hI5 (by omega) fun id hc=>hf6 id (by have:=hCl1 id hc;omega) (by have:=hCl1 id hc;omega)
      have hyc6:=hyc s6 (.simm (ints ((List.range i).map fun a=>(nxA B ts1 t r xs a:Int))) i) (.simm (ints ((List.range i).map fun a=>(prA B t r a:Int))) i) hI6 ⟨by rw [hnxl];exact .simm _ _,by rw [hnxl];omega,hnr⟩ ⟨by rw [hprl];exact .simm _ _,by rw [hprl];omega,hpr⟩ hnl hxi5
      have hcall:CallOk Try.prog GL y [.sref s1.n 0 i 1, .sref (s1.n+1) 0 i 1] s5 _:=call_frz (args':=[.simm (ints ((List.range i).map fun a=>(nxA B ts1 t r xs a:Int))) i, .simm (ints ((List.range i).map fun a=>(prA B t r a:Int))) i]) (s':=s6) (by simp only [frz.frzAll,hz1,hz2,Option.bind_eq_bind,Option.bind_some]) hyc6
      have hO3A:∀ id,O3 id→id≠s1.n∧id≠s1.n+1∧¬ C id:=fun id h=>by
        rcases hO3' _ h with h | h
        · exact ⟨fun e=>hO2A.1 (e ▸ h),fun e=>hO2A.2 (e ▸ h),fun hc=>h4B.out.2.2.1 id hc h⟩
        · exact ⟨by omega,by omega,fun hc=>by have:=hCl1 id hc;omega⟩
      have hX6:=hX5.keep (s':=s6) (by omega) fun id hid=>hf6 id (hO3A id hid).1 (hO3A id hid).2.1
      have hb6:=(hf6 b (by omega) (by omega)).trans hb5
      have hO3l:=hX5.ol
      have hXB6:=Bx.mk (And.intro hX6 (And.intro hX5.ol hxs5))
      clear hyc hyc6 hz1 hz2 hA26 hA15 hA25 hI5 hI6 hX6 hX5 hF5 ho5 hf6 hxs5
      repeat' (first | refine gA trivial ?_ | (refine gB trivial ?_;intro bb hbb;cases bb<;>(try simp only [hbs,if_false,reduceCtorEq] at hbb)<;>(try first | (exfalso;omega) | exact hbb.elim)) | apply qc_seq | fail)
      refine q_call wN (fv:=y) (vs:=[.sref s1.n 0 i 1, .sref (s1.n+1) 0 i 1]) ef (by simp only [List.map,lk,sv1,sv2,sv3,Nat.reduceEqDiff,Nat.reduceAdd,Nat.reduceLeDiff,reduceIte,if_false,if_true,mkVal,unLV,List.map,optTmps,e4,e5]) (CallOk.mono hcall fun x s7 hh=>⟨trivial,?_⟩)
      obtain ⟨rfl,hn7,C',hI7,hC',ho7⟩:=hh
      simp only [Env.put_some]
      have hwn:IntKind.i64.wrap ((n:Int)+1)=((n+1:Nat):Int):=by rw [wrap_i64 _ (by omega) (by omega)];rfl
      have hX7:=hXB6.out.1.keep (s':=s7) hn7 fun id hid=>ho7 id (by have:=hXB6.out.2.1 id hid;omega) (hO3A id hid).2.2
      have hb7:=(ho7 b (by omega) hCb).trans hb6
      have hxs1:XOk B.next.length ts1 (xsA B ts1 t r xs i):=by
        refine xsA_ok (fun x hx=>?_) hxo.2.1 hxo.2.2 fun a ha=>?_
        · have h:=hx1 x hx
          obtain ⟨m,h1,-⟩:=afT_pre B ts t 0 i
          rw [Nat.zero_add] at h1
          have h3:afT B ts t i=ts++m:=h1
          rw [hts1] at h3
          exact ⟨by rw [h3,List.length_append];omega,h.2⟩
        · have h:=h4B.out.2.1 a (by omega)
          have h1:kA B ts1 t a=(rows.getD a default).1:=h.1.symm
          rw [h1];exact h.2.1
      obtain ⟨mx,hmx1,-⟩:=xsA_pre B ts1 t r xs i
      have hlen1:xs.length≤(xsA B ts1 t r xs i).length:=by rw [hmx1,List.length_append];omega
      clear hmx1
      have hsq:=hsB.out
      have hFB:=Bx.mk (And.intro hI7 (And.intro hX7 (And.intro hxs1 (And.intro hC' hsq))))
      clear hI7 hX7 hxs1 hC' hcall ho7 hb6 hXB6 hsq
      repeat' (first | refine gA @hwn ?_ | (refine gB @hwn ?_;intro bb hbb;cases bb<;>(try simp only [hbs,if_false,reduceCtorEq] at hbb)<;>(try first | (exfalso;omega) | exact hbb.elim)) | apply qc_seq | fail)
      have hsq:=hFB.out.2.2.2.2
      refine ⟨most+1 - (n+1),by omega,n+1,C',O3,F2,rfl,by omega,hFB.out.1,?_,?_,?_,fun j hj=>?_,fun j hj=>?_,?_,hb7,by omega,fun h=>(fun h'=>h') (by rcases hO3' _ h with h | h;exact hO2b h;omega),fun h=>by rcases hFB.out.2.2.2.1 b h with h | h;exact hCb h;omega,fun id hc ho=>?_,by omega,?_⟩
      · rw [hsq];exact ⟨_,_,_,_,_,_,_,_,hFB.out.2.1⟩
      · rw [hsq];exact hFB.out.2.2.1
      · rw [hsq];show ts1.length≤_;omega
      · by_cases e:j=n
        · subst e;rw [hxsE];exact hnl
        · exact hj1 j (by omega)
      · by_cases e:j=n+1
        · subst e;rw [hsq];exact hxi5
        · exact hj2 j (by omega)
      · rw [hsq];show n+1≤(xsA B ts1 t r xs i).length;omega
      · rcases hFB.out.2.2.2.1 id hc with h | h
        · exact (hO3A id ho).2.2 h
        · have:=hO3l id ho
          omega
      · simp only [lk,sv1,sv2,sv3,Nat.reduceEqDiff,Nat.reduceAdd,Nat.reduceLeDiff,reduceIte,if_false,if_true,mkVal,unLV,List.map,optTmps,hwn,e0,e1,and_self]
  · have hnx':n=xs.length:=by omega
    have hsq:=hsB.out
    repeat' (first | refine gN (And.intro @hb (And.intro @hblk @hxvl)) ?_ | (refine gB (And.intro @hb (And.intro @hblk @hxvl)) ?_;intro bb hbb;cases bb<;>(try simp only [hbs,if_false,reduceCtorEq] at hbb)<;>(try first | (exfalso;omega) | exact hbb.elim)) | fail)
    exact ⟨.inl trivial,hn1,n,C,O1,F1,ts,xs,hIB.out.1,⟨_,_,_,_,_,_,_,_,hXB.out⟩,hj1,hj2, .inl ⟨hxsE.symm,hnx'⟩⟩
end Go.Proofs.Ytkbiecjdcjfhaaa
