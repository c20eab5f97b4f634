/- maps.Keys, slices.AppendSeq, slices.Collect, slices.Sorted: the keys of a map in order. -/
import Derived.Test.YtkbiecjdcjfhaaaTsri
import Derived.Test.YtkbiecjdcjfhaaaTnam
set_option linter.unusedSimpArgs false
set_option linter.unusedVariables false
namespace Go.Proofs.Ytkbiecjdcjfhaaa
open Go Go.Pv Go.Tre
open Classical
def keysAt (E:List (Int × LV)) (seen:List Nat):List Int:=seen.map fun a=>(E.getD a default).1
theorem keysAt_snoc (E:List (Int × LV)) (seen:List Nat) (a:Nat):keysAt E (seen++[a])=keysAt E seen++[(E.getD a default).1]:=by simp [keysAt]
theorem keysAt_nodup {E:List (Int × LV)} (hE:(E.map (·.1)).Nodup):∀ {seen:List Nat},seen.Nodup→(∀ a∈seen,a<E.length)→(keysAt E seen).Nodup:=by
  intro seen hn hs
  unfold keysAt
  rw [List.nodup_iff_pairwise_ne,List.pairwise_map]
  refine List.Pairwise.imp_of_mem (R:=fun a b=>a≠b) (fun {a b} ha hb hab he=>hab ?_) (List.nodup_iff_pairwise_ne.1 hn)
  have hal:=hs a ha
  have hbl:=hs b hb
  have h1:(E.map (·.1))[a]'(by rw [List.length_map];exact hal)=(E.map (·.1))[b]'(by rw [List.length_map];exact hbl):=by
    simpa [List.getD_eq_getElem?_getD,hal,hbl] using he
  have hp:=List.pairwise_iff_getElem.1 hE
  rcases Nat.lt_trichotomy a b with h | h | h
  · exact absurd h1 (hp a b (by rw [List.length_map];exact hal) (by rw [List.length_map];exact hbl) h)
  · exact h
  · exact absurd h1.symm (hp b a (by rw [List.length_map];exact hbl) (by rw [List.length_map];exact hal) h)
set_option maxHeartbeats 8000000 in
theorem keys1_it {E:List (Int × LV)} {M b:Nat} (hE:(E.map (·.1)).Nodup) (y:LV) (s:St) (hb:s.get b=some (.cells .mut [.mref M])) (I:List Int→St→Prop) (hc:isCell y=true) (h0:I [] s) (hM:∀ ks s1,I ks s1→s1.get M=some (.map (mG embI E)))
    (hst:∀ ks s1 s2,I ks s1→s.n≤s1.n→s1.n≤s2.n→(∀ i,i≠s.n→i<s1.n→s2.get i=s1.get i)→I ks s2)
    (hy:∀ ks x s1,ks.length<E.length→x ∉ ks→I ks s1→s.n<s1.n→CallOk Try.prog GL y [.int .i64 x] s1 (fun r s2=>s1.n≤s2.n∧s2.get s.n=s1.get s.n∧r = .bool true∧I (ks++[x]) s2)) :
    CallOk Try.prog GL (.fn (.func 79) [] [.pref b 0]) [y] s (fun _ s'=>s.n≤s'.n∧∃ ks,ks.Nodup∧(∀ x,x∈ks↔x∈E.map (·.1))∧I ks s'):=by
  refine call_fn (first:=[]) (caps:=[.pref b 0]) Try.func79 (by decide +kernel) c79 (Nat.le_of_ble_eq_true rfl) (CodeOk.mono (Q:=fun o e s'=>(o = .normal∨o = .jmp .ret)∧s.n≤s'.n∧∃ ks,ks.Nodup∧(∀ x,x∈ks↔x∈E.map (·.1))∧I ks s') ?_ fun o e s' hh=>by
    obtain ⟨h1,h2⟩:=hh
    exact ⟨h1, .tup [],by simp [l79,resVal],h2⟩)
  have e0:(envOf ([]++[y]++[.pref b 0])).at 0=y:=by rw [envOf_at];rfl
  have e1:(envOf ([]++[y]++[.pref b 0])).at 1 = .pref b 0:=by rw [envOf_at];rfl
  generalize envOf ([]++[y]++[.pref b 0])=e at *
  refine Cd.out ?_
  unfold l79
  dsimp only [jA,qm,ql]
  have hMs:=hM [] s h0
  have h0B:=Bx.mk h0
  clear h0
  repeat' (first | refine gN @hb ?_ | (refine gB @hb ?_;intro bb hbb;cases bb<;>(try simp only [hbs,if_false,reduceCtorEq] at hbb)<;>(try first | (exfalso;omega) | exact hbb.elim)) | fail)
  refine q_mrange (n:=s.n) (M:=M) rfl ef hMs ?_
  repeat' (first | refine gN trivial ?_ | (refine gB trivial ?_;intro bb hbb;cases bb<;>(try simp only [hbs,if_false,reduceCtorEq] at hbb)<;>(try first | (exfalso;omega) | exact hbb.elim)) | fail)
  refine qc_loop (fun m e s1=>∃ seen:List Nat,m=E.length - seen.length∧seen.Nodup∧(∀ a∈seen,a<E.length)∧s.n<s1.n∧I (keysAt E seen) s1∧s1.get s.n=some (.iter (some M) (mG embI E).length seen (mG embI E).length)∧e.at 0=y∧e.at 5 = .pref s.n 0) _
    ⟨[],rfl,List.nodup_nil,fun a ha=>absurd ha (by simp),by simp,hst [] s _ h0B.out (Nat.le_refl _) (by simp) fun i hi _=>by rw [St.get_new,if_neg hi],by rw [St.get_new,if_pos rfl],ef,ef⟩ ?_
  clear e0 e1 h0B hMs
  clear e
  rintro m e s1 ⟨seen,rfl,hs1,hs2,hn1,hI,hIt,e0,e5⟩
  have hEs:=hM _ _ hI
  have hIB:=Bx.mk hI
  clear hI
  refine qc_seqR ?_
  refine qc_region hm ?_
  refine q_mnext (M:=M) (it:=s.n) (seen:=seen) ef hIt hEs (by
    cases seen with
    | nil=>exact .inl rfl
    | cons a l=>right;have:=hs2 a (by simp);rw [mG_length];omega) (fun a ha hna=>?_) (fun hall=>?_)
  · rw [mG_length] at ha
    have hEa:E[a]? = some (E.getD a default):=by rw [List.getD_eq_getElem?_getD,List.getElem?_eq_getElem ha];rfl
    have hgd:=mG_getD embI hEa
    have hxn:=seen_new hE hs2 ha hna
    have hsn3:(seen++[a]).Nodup:=List.nodup_append.2 ⟨hs1,by simp,fun x hx y hy e=>by rw [List.mem_singleton] at hy;subst hy;exact hna (e ▸ hx)⟩
    have hsn4:∀ x∈seen++[a],x<E.length:=fun x hx=>by
      rcases List.mem_append.1 hx with hx | hx
      · exact hs2 x hx
      · rw [List.mem_singleton.1 hx];exact ha
    have hsl:seen.length<E.length:=by
      have:=seen_le (n:=E.length) hsn3 hsn4
      rw [List.length_append,List.length_singleton] at this
      omega
    have hIt2:(s1.put s.n (.iter (some M) (mG embI E).length (seen++[a]) (mG embI E).length)).get s.n=some (.iter (some M) (mG embI E).length (seen++[a]) (mG embI E).length):=by rw [St.get_put,if_pos rfl]
    have hI2:=hst _ s1 (s1.put s.n (.iter (some M) (mG embI E).length (seen++[a]) (mG embI E).length)) hIB.out (by omega) (by simp) fun i hi _=>by rw [St.get_put,if_neg hi]
    have hEs2:=hM _ _ hI2
    have hn2:(s1.put s.n (.iter (some M) (mG embI E).length (seen++[a]) (mG embI E).length)).n=s1.n:=rfl
    generalize s1.put s.n (.iter (some M) (mG embI E).length (seen++[a]) (mG embI E).length)=s2 at *
    have hIB2:=Bx.mk (And.intro hI2 (And.intro hsn3 hsn4))
    clear hI2 hIB hIt hEs hsn3 hsn4
    repeat' (first | refine gN trivial ?_ | (refine gB trivial ?_;intro bb hbb;cases bb<;>(try simp only [hbs,if_false,reduceCtorEq] at hbb)<;>(try first | (exfalso;omega) | exact hbb.elim)) | fail)
    refine q_mentry (M:=M) (i:=a) (last:=(mG embI E).length) ef hIt2 hEs2 rfl (by rw [mG_length];exact ha) ?_
    rw [hgd]
    have hks:=keysAt_snoc E seen a
    have hxn':(E.getD a default).1 ∉ keysAt E seen:=hxn
    generalize (E.getD a default).1=x at *
    unfold embI
    have hyc:=hy (keysAt E seen) x s2 (by unfold keysAt;rw [List.length_map];exact hsl) hxn' hIB2.out.1 (by omega)
    rw [← hks] at hyc
    repeat' (first | refine gN trivial ?_ | (refine gB trivial ?_;intro bb hbb;cases bb<;>(try simp only [hbs,if_false,reduceCtorEq] at hbb)<;>(try first | (exfalso;omega) | exact hbb.elim)) | fail)
    refine q_call wN (fv:=y) (vs:=[.int .i64 x]) ef (by simp only [List.map,lk,sv1,sv2,sv3,Nat.reduceEqDiff,Nat.reduceAdd,Nat.reduceLeDiff,reduceIte,if_false,if_true,mkVal,unLV,List.map,optTmps]) (CallOk.mono hyc fun r s3 hh=>⟨trivial,?_⟩)
    obtain ⟨hn3,hk3,rfl,hI3⟩:=hh
    simp only [Env.put_some]
    have hIt3:=hk3.trans hIt2
    have hfB:=Bx.mk (And.intro hI3 hIt3)
    clear hyc hI3 hIt3 hk3 hIt2 hEs2
    repeat' (first | refine gN trivial ?_ | (refine gB trivial ?_;intro bb hbb;cases bb<;>(try simp only [hbs,if_false,reduceCtorEq] at hbb)<;>(try first | (exfalso;omega) | exact hbb.elim)) | fail)
    refine ⟨E.length - (seen++[a]).length,by rw [List.length_append,List.length_singleton];omega,seen++[a],rfl,hIB2.out.2.1,hIB2.out.2.2,by omega,hfB.out.1,hfB.out.2,?_⟩
    simp only [lk,sv1,sv2,sv3,Nat.reduceEqDiff,Nat.reduceAdd,Nat.reduceLeDiff,reduceIte,if_false,if_true,mkVal,unLV,List.map,optTmps,e0,e5,and_self]
  · have hall':∀ a,a<E.length→a∈seen:=fun a ha=>hall a (by rw [mG_length];exact ha) (by rw [mG_length];exact ha)
    repeat' (first | refine gN trivial ?_ | (refine gB trivial ?_;intro bb hbb;cases bb<;>(try simp only [hbs,if_false,reduceCtorEq] at hbb)<;>(try first | (exfalso;omega) | exact hbb.elim)) | fail)
    refine ⟨.inl trivial,by omega,keysAt E seen,keysAt_nodup hE hs1 hs2,fun x=>?_,hIB.out⟩
    have:=seenK_all (c:=fun _=>true) (K:=E.map (·.1)) (fun k=>Iff.rfl) hs2 hall' x
    unfold seenK at this
    simpa [keysAt] using this
abbrev apA:LCode:=.region [{ dst:=some 5,op:=.mv (.t 7) }]
abbrev apB:LCode:=.block 1 (.region [{ dst:=some 8,op:=.load none (.t 2) },{ dst:=some 9,op:=.mv (.t 5) },{ dst:=some 10,op:=.bslice 1 1 [.int .i64 0] [(0,1, .t 9)] },{ dst:=some 11,op:=.append 1 8 (.t 8) (.t 10) },{ dst:=none,op:=.store 1 (.t 2) (.t 11) }])
set_option maxHeartbeats 8000000 in
theorem appseq_ok {E:List (Int × LV)} {M b:Nat} (hE:(E.map (·.1)).Nodup) (hlen:E.length≤6000) (s:St) (hb:s.get b=some (.cells .mut [.mref M])) (hM:s.get M=some (.map (mG embI E))) (hbM:b<s.n∧M<s.n) :
    CallOk Try.prog GL (.fn (.func 84) [] []) [.nils, .fn (.func 79) [] [.pref b 0]] s (fun r s'=>s.n≤s'.n∧(∀ id,id<s.n→s'.get id=s.get id)∧∃ ks,ks.Nodup∧(∀ x,x∈ks↔x∈E.map (·.1))∧SkC s' r 1 (ints ks) ks.length∧(ks=[]→r = .nils)∧∀ id,uses r id→s.n≤id):=by
  refine call_fn (first:=[]) (caps:=[]) Try.func84 (by decide +kernel) c84 (Nat.le_of_ble_eq_true rfl) (CodeOk.mono (Q:=fun o e s'=>(o = .normal∨o = .jmp .ret)∧s.n≤s'.n∧(∀ id,id<s.n→s'.get id=s.get id)∧∃ ks,ks.Nodup∧(∀ x,x∈ks↔x∈E.map (·.1))∧SkC s' (e.at 4) 1 (ints ks) ks.length∧(ks=[]→e.at 4 = .nils)∧∀ id,uses (e.at 4) id→s.n≤id) ?_ fun o e s' hh=>by
    obtain ⟨h1,h2⟩:=hh
    exact ⟨h1,_,by simp [l84,resVal,resOne],h2⟩)
  have e0:(envOf ([]++[.nils, .fn (.func 79) [] [.pref b 0]]++[])).at 0 = .nils:=by rw [envOf_at];rfl
  have e1:(envOf ([]++[.nils, .fn (.func 79) [] [.pref b 0]]++[])).at 1 = .fn (.func 79) [] [.pref b 0]:=by rw [envOf_at];rfl
  generalize envOf ([]++[.nils, .fn (.func 79) [] [.pref b 0]]++[])=e at *
  refine Cd.out ?_
  unfold l84
  dsimp only [jA,jG,qm,ql]
  refine qc_seqR ?_
  refine qc_region hm ?_
  refine q_run0 (v:=.pref s.n 0) (s':=s.new (.cells .mut [.nils])) (by simp only [LOp.run,lk,sv1,sv2,sv3,Nat.reduceEqDiff,Nat.reduceAdd,Nat.reduceLeDiff,reduceIte,if_false,if_true,mkVal,unLV,List.map,optTmps,e0];try rfl) ?_
  repeat' (first | refine gN trivial ?_ | (refine gB trivial ?_;intro bb hbb;cases bb<;>(try simp only [hbs,if_false,reduceCtorEq] at hbb)<;>(try first | (exfalso;omega) | exact hbb.elim)) | fail)
  refine qc_range (yv:=.fn (.func 79) [] [.pref b 0]) ef ?_
  have e2:Env.at (((Tr.set e 2 (LV.pref s.n 0)).set 4 LV.nils).set 6 (LV.fn (.func 79) [] [LV.pref b 0])) 2 = .pref s.n 0:=by simp only [lk,sv1,sv2,sv3,Nat.reduceEqDiff,Nat.reduceAdd,Nat.reduceLeDiff,reduceIte,if_false,if_true,mkVal,unLV,List.map,optTmps]
  generalize (((Tr.set e 2 (LV.pref s.n 0)).set 4 LV.nils).set 6 (LV.fn (.func 79) [] [LV.pref b 0]))=e' at *
  rw [St.n_new]
  refine CallOk.mono (keys1_it (M:=M) (b:=b) hE (.yld (s.n+1)) ((s.new (.cells .mut [.nils])).new (.loop .ready none e' [7] apA apB)) (by rw [St.get_new,if_neg (by simp;omega),St.get_new,if_neg (by omega)];exact hb)
    (fun ks st=>st.get (s.n+1)=some (.loop .ready none e' [7] apA apB)∧s.n+2≤st.n∧(∀ id,id<s.n→st.get id=s.get id)∧ks.length≤E.length∧∃ v,st.get s.n=some (.cells .mut [v])∧SkC st v 1 (ints ks) ks.length∧(ks=[]→v = .nils)∧∀ id,uses v id→s.n+2<id) rfl ?_ ?_ ?_ ?_) ?_
  · refine ⟨by rw [St.get_new,if_pos (by simp)],by simp,fun id hid=>by rw [St.get_new,if_neg (by simp;omega),St.get_new,if_neg (by omega)],by simp, .nils,by rw [St.get_new,if_neg (by simp),St.get_new,if_pos rfl],SkC.nil _ _,fun _=>rfl,fun id hu=>absurd hu (uses_nils id)⟩
  · rintro ks st ⟨-,-,h1,-⟩
    rw [h1 M hbM.2];exact hM
  · rintro ks st st2 ⟨h1,h2,h3,h3b,v,h4,h5,h6,h7⟩ - hn2 hk
    simp only [St.n_new] at hk
    exact ⟨(hk _ (by omega) (by omega)).trans h1,by omega,fun id hid=>(hk id (by omega) (by omega)).trans (h3 id hid),h3b,v,(hk _ (by omega) (by omega)).trans h4,h5.mono hn2 fun id hu=>hk id (by have:=h7 id hu;omega) (h5.lt hu),h6,h7⟩
  · rintro ks x st hkl hxk ⟨h1,h2,h3,h3b,v,h4,h5,h6,h7⟩ hn2
    simp only [St.n_new] at hn2 ⊢
    refine qc_yield h1 rfl fun nt'=>?_
    show Cd Try.prog GL true nt' apA (Tr.set e' 7 (.int .i64 x)) st _
    have hvc:=h5.cell
    have h5B:=Bx.mk (And.intro h5 (And.intro h6 (And.intro h7 (And.intro h3 h1))))
    clear h5 h6 h7 h3 h1
    repeat' (first | refine gN trivial ?_ | (refine gB trivial ?_;intro bb hbb;cases bb<;>(try simp only [hbs,if_false,reduceCtorEq] at hbb)<;>(try first | (exfalso;omega) | exact hbb.elim)) | fail)
    refine ⟨h5B.out.2.2.2.2,?_⟩
    have hgs:(st.put (s.n+1) (.loop .busy none e' [7] apA apB)).get s.n=some (.cells .mut [v]):=by rw [St.get_put,if_neg (by omega)];exact h4
    have hgl:(st.put (s.n+1) (.loop .busy none e' [7] apA apB)).get (s.n+1)=some (.loop .busy none e' [7] apA apB):=by rw [St.get_put,if_pos rfl]
    have hS1:=h5B.out.1.mono (s':=st.put (s.n+1) (.loop .busy none e' [7] apA apB)) (by simp) fun id hu=>by
      have:=h5B.out.2.2.1 id hu
      rw [St.get_put,if_neg (by omega)]
    have ho1:∀ id,id≠s.n+1→(st.put (s.n+1) (.loop .busy none e' [7] apA apB)).get id=st.get id:=fun id hid=>by rw [St.get_put,if_neg hid]
    have hn1:(st.put (s.n+1) (.loop .busy none e' [7] apA apB)).n=st.n:=rfl
    generalize st.put (s.n+1) (.loop .busy none e' [7] apA apB)=s1 at *
    have h7:=h5B.out.2.2.1
    have h3:=h5B.out.2.2.2.1
    repeat' (first | refine gN @hgs ?_ | (refine gB @hgs ?_;intro bb hbb;cases bb<;>(try simp only [hbs,if_false,reduceCtorEq] at hbb)<;>(try first | (exfalso;omega) | exact hbb.elim)) | fail)
    refine q_appC (n:=ks.length) (esz:=1) (xv:=.int .i64 x) (yv:=v) (vs:=[.int .i64 x]) (cells:=ints ks) ef rfl rfl rfl rfl ef hS1 (by decide) (by omega) (fun s3 j a1 a4 a5 a6=>?_)
    have hgs3:s3.get s.n=some (.cells .mut [v]):=by rw [a6 _ (by omega) fun hu=>by have:=h7 _ hu;omega];exact hgs
    have hgl3:s3.get (s.n+1)=some (.loop .busy none e' [7] apA apB):=by rw [a6 _ (by omega) fun hu=>by have:=h7 _ hu;omega];exact hgl
    have hk3:s3.get (s.n+2)=st.get (s.n+2):=by rw [a6 _ (by omega) fun hu=>by have:=h7 _ hu;omega];exact ho1 _ (by omega)
    have ho3:∀ id,id<s.n→s3.get id=s.get id:=fun id hid=>by
      rw [a6 _ (by omega) fun hu=>by have:=h7 _ hu;omega,ho1 _ (by omega)];exact h3 id hid
    have hS3B:=Bx.mk (And.intro a4 (And.intro hgl3 (And.intro hk3 ho3)))
    clear a4 a6 hgl3 hk3 ho3 hS1 hgs hgl ho1 h7 h3 h5B
    repeat' (first | refine gN @hgs3 ?_ | (refine gB @hgs3 ?_;intro bb hbb;cases bb<;>(try simp only [hbs,if_false,reduceCtorEq] at hbb)<;>(try first | (exfalso;omega) | exact hbb.elim)) | fail)
    refine ⟨.busy,none,e',[7],apA,apB,by rw [St.get_put,if_neg (by omega)];exact hS3B.out.2.1,by simp;omega,?_,rfl,by rw [St.get_put,if_pos rfl],by simp;omega,fun id hid=>?_,by rw [List.length_append,List.length_singleton];omega, .sref j 0 (ks.length+1) 1,?_,?_,fun h=>absurd h (by simp),fun id hu=>?_⟩
    · rw [St.get_put,if_neg (by omega),St.get_put,if_neg (by omega)];exact hS3B.out.2.2.1
    · rw [St.get_put,if_neg (by omega),St.get_put,if_neg (by omega)];exact hS3B.out.2.2.2 id hid
    · rw [St.get_put,if_neg (by omega),St.get_put,if_pos rfl]
    · have hi:ints (ks++[x])=ints ks++[.int .i64 x]:=by simp [ints]
      rw [hi,List.length_append,List.length_singleton]
      exact hS3B.out.1.mono (by simp) fun id hu=>by
        have:=uses_sref.1 hu
        rw [St.get_put,if_neg (by omega),St.get_put,if_neg (by omega)]
    · have:=uses_sref.1 hu;omega
  · rintro r s' ⟨hn,ks,hnd,hmem,h1,h2,h3,h3b,v,h4,h5,h6,h7⟩
    refine ⟨.ready,none,e',[7],apA,apB,h1,by simp,?_⟩
    simp only [Blkd,Thn]
    have hg:(s'.put (s.n+1) (.loop .exhausted none e' [7] apA apB)).get s.n=some (.cells .mut [v]):=by rw [St.get_put,if_neg (by omega)];exact h4
    have hS1:=h5.mono (s':=s'.put (s.n+1) (.loop .exhausted none e' [7] apA apB)) (by simp) fun id hu=>by
      have:=h7 id hu
      rw [St.get_put,if_neg (by omega)]
    have ho1:∀ id,id<s.n→(s'.put (s.n+1) (.loop .exhausted none e' [7] apA apB)).get id=s.get id:=fun id hid=>by rw [St.get_put,if_neg (by omega)];exact h3 id hid
    have hn1:(s'.put (s.n+1) (.loop .exhausted none e' [7] apA apB)).n=s'.n:=rfl
    generalize s'.put (s.n+1) (.loop .exhausted none e' [7] apA apB)=s2 at *
    have hB:=Bx.mk (And.intro hS1 (And.intro h6 (And.intro h7 ho1)))
    have hvc:=h5.cell
    clear h5 h6 h7 hS1 ho1 h3
    repeat' (first | refine gN @hg ?_ | (refine gB @hg ?_;intro bb hbb;cases bb<;>(try simp only [hbs,if_false,reduceCtorEq] at hbb)<;>(try first | (exfalso;omega) | exact hbb.elim)) | fail)
    refine ⟨.inr trivial,by omega,hB.out.2.2.2,ks,hnd,hmem,?_⟩
    simp only [lk,sv1,sv2,sv3,Nat.reduceEqDiff,Nat.reduceAdd,Nat.reduceLeDiff,reduceIte,if_false,if_true,mkVal,unLV,List.map,optTmps]
    exact ⟨hB.out.1,hB.out.2.1,fun id hu=>by have:=hB.out.2.2.1 id hu;omega⟩
theorem keys_ok {M:Nat} (s:St):CallOk Try.prog GL (.fn (.func 67) [] []) [.mref M] s (fun r s'=>r = .fn (.func 79) [] [.pref s.n 0]∧s'=s.new (.cells .mut [.mref M])):=by
  refine call_fn (first:=[]) (caps:=[]) Try.func67 (by decide +kernel) c67 (Nat.le_of_ble_eq_true rfl) (CodeOk.mono (Q:=fun o e s'=>(o = .normal∨o = .jmp .ret)∧e.at 2 = .fn (.func 79) [] [.pref s.n 0]∧s'=s.new (.cells .mut [.mref M])) ?_ fun o e s' hh=>by
    obtain ⟨h1,h2,h3⟩:=hh
    exact ⟨h1,_,by simp [l67,resVal,resOne,h2],rfl,h3⟩)
  have e0:(envOf ([]++[.mref M]++[])).at 0 = .mref M:=by rw [envOf_at];rfl
  generalize envOf ([]++[.mref M]++[])=e at *
  refine Cd.out ?_
  unfold l67
  dsimp only [jA,qm]
  refine qc_seqR ?_
  refine qc_region hm ?_
  refine q_run0 (v:=.pref s.n 0) (s':=s.new (.cells .mut [.mref M])) (by simp only [LOp.run,lk,sv1,sv2,sv3,Nat.reduceEqDiff,Nat.reduceAdd,Nat.reduceLeDiff,reduceIte,if_false,if_true,mkVal,unLV,List.map,optTmps,e0];try rfl) ?_
  repeat' (first | refine gN trivial ?_ | (refine gB trivial ?_;intro bb hbb;cases bb<;>(try simp only [hbs,if_false,reduceCtorEq] at hbb)<;>(try first | (exfalso;omega) | exact hbb.elim)) | fail)
  exact ⟨.inr trivial,ef,trivial⟩
theorem srt_eq {ks K:List Int} (h1:ks.Nodup) (h2:K.Pairwise (· < ·)) (h3:∀ x,x∈ks↔x∈K):srt ks=K:=by
  have hp:(srt ks).Perm ks:=List.mergeSort_perm _ _
  have hs:(srt ks).Pairwise (· ≤ ·):=by
    have:=List.pairwise_mergeSort (le:=fun a b:Int=>decide (a≤b)) (fun a b c h1 h2=>by simp at *;omega) (fun a b=>by simp;omega) ks
    exact this.imp fun h=>by simpa using h
  have hn:(srt ks).Nodup:=hp.nodup_iff.2 h1
  refine inc_ext ((hs.and (List.nodup_iff_pairwise_ne.1 hn)).imp fun h=>by omega) h2 fun x=>?_
  rw [hp.mem_iff]
  exact h3 x
theorem sorted_ok {M b:Nat} {K:List Int} (s:St) (hK:K.Pairwise (· < ·)) (hlen:K.length≤6000) (hb:s.get b=some (.cells .mut [.mref M])) (hM:MapS s M K) (hbM:b<s.n∧M<s.n) :
    CallOk Try.prog GL (.fn (.func 66) [] []) [.fn (.func 79) [] [.pref b 0]] s (fun r s'=>s.n≤s'.n∧(∀ id,id<s.n→s'.get id=s.get id)∧SkC s' r 1 (ints K) K.length∧∀ id,uses r id→s.n≤id):=by
  obtain ⟨E,hE1,hE2,hE3,hE4⟩:=hM
  have hKn:K.Nodup:=hK.imp fun h=>by omega
  have hEl:E.length=K.length:=by
    have:=((List.perm_ext_iff_of_nodup hE2 hKn).2 hE4).length_eq
    rwa [List.length_map] at this
  have hap:=appseq_ok hE2 (by omega) s hb hE1 hbM
  have hcol:CallOk Try.prog GL (.fn (.func 78) [] []) [.fn (.func 79) [] [.pref b 0]] s (fun r s'=>s.n≤s'.n∧(∀ id,id<s.n→s'.get id=s.get id)∧∃ ks,ks.Nodup∧(∀ x,x∈ks↔x∈E.map (·.1))∧SkC s' r 1 (ints ks) ks.length∧(ks=[]→r = .nils)∧∀ id,uses r id→s.n≤id):=by
    refine call_fn (first:=[]) (caps:=[]) Try.func78 (by decide +kernel) c78 (Nat.le_of_ble_eq_true rfl) (CodeOk.mono (Q:=fun o e s'=>(o = .normal∨o = .jmp .ret)∧∃ r,e.at 2=r∧s.n≤s'.n∧(∀ id,id<s.n→s'.get id=s.get id)∧∃ ks,ks.Nodup∧(∀ x,x∈ks↔x∈E.map (·.1))∧SkC s' r 1 (ints ks) ks.length∧(ks=[]→r = .nils)∧∀ id,uses r id→s.n≤id) ?_ fun o e s' hh=>by
      obtain ⟨h1,r,h2,h3⟩:=hh
      exact ⟨h1,_,by simp [l78,resVal,resOne,h2],h3⟩)
    have e0:(envOf ([]++[.fn (.func 79) [] [.pref b 0]]++[])).at 0 = .fn (.func 79) [] [.pref b 0]:=by rw [envOf_at];rfl
    generalize envOf ([]++[.fn (.func 79) [] [.pref b 0]]++[])=e at *
    refine Cd.out ?_
    unfold l78
    dsimp only [jA,qm]
    repeat' (first | refine gN trivial ?_ | (refine gB trivial ?_;intro bb hbb;cases bb<;>(try simp only [hbs,if_false,reduceCtorEq] at hbb)<;>(try first | (exfalso;omega) | exact hbb.elim)) | fail)
    refine q_call wN (fv:=.fn (.func 84) [] []) (vs:=[.nils, .fn (.func 79) [] [.pref b 0]]) ef (by simp only [List.map,lk,sv1,sv2,sv3,Nat.reduceEqDiff,Nat.reduceAdd,Nat.reduceLeDiff,reduceIte,if_false,if_true,mkVal,unLV,List.map,optTmps]) (CallOk.mono hap fun r s2 hh=>⟨trivial,?_⟩)
    simp only [Env.put_some]
    have hB:=Bx.mk hh
    clear hh hap
    repeat' (first | refine gN trivial ?_ | (refine gB trivial ?_;intro bb hbb;cases bb<;>(try simp only [hbs,if_false,reduceCtorEq] at hbb)<;>(try first | (exfalso;omega) | exact hbb.elim)) | fail)
    exact ⟨.inr trivial,r,ef,hB.out⟩
  refine call_fn (first:=[]) (caps:=[]) Try.func66 (by decide +kernel) c66 (Nat.le_of_ble_eq_true rfl) (CodeOk.mono (Q:=fun o e s'=>(o = .normal∨o = .jmp .ret)∧∃ r,e.at 2=r∧s.n≤s'.n∧(∀ id,id<s.n→s'.get id=s.get id)∧SkC s' r 1 (ints K) K.length∧∀ id,uses r id→s.n≤id) ?_ fun o e s' hh=>by
    obtain ⟨h1,r,h2,h3⟩:=hh
    exact ⟨h1,_,by simp [l66,resVal,resOne,h2],h3⟩)
  have e0:(envOf ([]++[.fn (.func 79) [] [.pref b 0]]++[])).at 0 = .fn (.func 79) [] [.pref b 0]:=by rw [envOf_at];rfl
  generalize envOf ([]++[.fn (.func 79) [] [.pref b 0]]++[])=e at *
  refine Cd.out ?_
  unfold l66
  dsimp only [jA,qG,qm]
  repeat' (first | refine gN trivial ?_ | (refine gB trivial ?_;intro bb hbb;cases bb<;>(try simp only [hbs,if_false,reduceCtorEq] at hbb)<;>(try first | (exfalso;omega) | exact hbb.elim)) | fail)
  refine q_call wN (fv:=.fn (.func 78) [] []) (vs:=[.fn (.func 79) [] [.pref b 0]]) ef (by simp only [List.map,lk,sv1,sv2,sv3,Nat.reduceEqDiff,Nat.reduceAdd,Nat.reduceLeDiff,reduceIte,if_false,if_true,mkVal,unLV,List.map,optTmps,e0]) (CallOk.mono hcol fun r s2 hh=>⟨trivial,?_⟩)
  simp only [Env.put_some]
  obtain ⟨hn2,ho2,ks,hk1,hk2,hk3,hk4,hk5⟩:=hh
  have hkl:ks.length=E.length:=by
    have:=((List.perm_ext_iff_of_nodup hk1 hE2).2 hk2).length_eq
    rwa [List.length_map] at this
  have hsrt:=srt_eq hk1 hK fun x=>(hk2 x).trans (hE4 x)
  have hsc:=sortS hk3 (by omega)
  rw [hsrt] at hsc
  have hrc:=hk3.cell
  have hoB:=Bx.mk (And.intro ho2 hk5)
  clear hap hcol hE1 hb ho2 hk5 hk3
  repeat' (first | refine gN trivial ?_ | (refine gB trivial ?_;intro bb hbb;cases bb<;>(try simp only [hbs,if_false,reduceCtorEq] at hbb)<;>(try first | (exfalso;omega) | exact hbb.elim)) | fail)
  refine q_call wN (fv:=.fn (.func 68) [] []) (vs:=[r]) ef (by simp only [List.map,lk,sv1,sv2,sv3,Nat.reduceEqDiff,Nat.reduceAdd,Nat.reduceLeDiff,reduceIte,if_false,if_true,mkVal,unLV,List.map,optTmps]) (CallOk.mono hsc fun x s3 hh=>⟨trivial,?_⟩)
  simp only [Env.put_some]
  obtain ⟨hS3,hn3,ho3⟩:=hh
  have hfB:Bx (s.n≤s3.n∧(∀ id,id<s.n→s3.get id=s.get id)∧SkC s3 r 1 (ints K) K.length∧∀ id,uses r id→s.n≤id):=⟨by
    refine ⟨by omega,fun id hid=>?_,?_,hoB.out.2⟩
    · rw [ho3 id fun hu=>by have:=hoB.out.2 id hu;omega]
      exact hoB.out.1 id hid
    · rw [show K.length=ks.length by omega];exact hS3⟩
  clear hsc hS3 ho3
  repeat' (first | refine gN trivial ?_ | (refine gB trivial ?_;intro bb hbb;cases bb<;>(try simp only [hbs,if_false,reduceCtorEq] at hbb)<;>(try first | (exfalso;omega) | exact hbb.elim)) | fail)
  exact ⟨.inr trivial,r,ef,hfB.out⟩
end Go.Proofs.Ytkbiecjdcjfhaaa
