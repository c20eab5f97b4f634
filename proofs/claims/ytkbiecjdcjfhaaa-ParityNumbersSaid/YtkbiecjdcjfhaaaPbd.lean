/- parity.Build. -/
import Derived.Test.YtkbiecjdcjfhaaaPrw
import Derived.Test.YtkbiecjdcjfhaaaPns
import Derived.Test.YtkbiecjdcjfhaaaValid
set_option linter.unusedSimpArgs false
set_option linter.unusedVariables false
namespace Go.Proofs.Ytkbiecjdcjfhaaa
open Go Go.Pv Go.Tre
open Classical
theorem rows_ok {Z:Nat} (s:St):CallOk Try.prog GL (.fn (.func 22) [] []) [.pref Z 0] s (fun r s'=>r = .fn (.func 39) [] [.pref s.n 0]∧s'=s.new (.cells .mut [.pref Z 0])):=by
  refine call_fn (first:=[]) (caps:=[]) Try.func22 (by decide +kernel) c22 (Nat.le_of_ble_eq_true rfl) (CodeOk.mono (Q:=fun o e s'=>(o = .normal∨o = .jmp .ret)∧e.at 2 = .fn (.func 39) [] [.pref s.n 0]∧s'=s.new (.cells .mut [.pref Z 0])) ?_ fun o e s' hh=>by
    obtain ⟨h1,h2,h3⟩:=hh
    exact ⟨h1,_,by simp [l22,resVal,resOne,h2],rfl,h3⟩)
  have e0:(envOf ([]++[.pref Z 0]++[])).at 0 = .pref Z 0:=by rw [envOf_at];rfl
  generalize envOf ([]++[.pref Z 0]++[])=e at *
  refine Cd.out ?_
  unfold l22
  dsimp only [jA,qm]
  refine qc_seqR ?_
  refine qc_region hm ?_
  refine q_run0 (v:=.pref s.n 0) (s':=s.new (.cells .mut [.pref Z 0])) (by simp only [LOp.run,lk,sv1,sv2,sv3,Nat.reduceEqDiff,Nat.reduceAdd,Nat.reduceLeDiff,reduceIte,if_false,if_true,mkVal,unLV,List.map,optTmps,e0];try rfl) ?_
  repeat' (first | refine gN trivial ?_ | (refine gB trivial ?_;intro bb hbb;cases bb<;>(try simp only [hbs,if_false,reduceCtorEq] at hbb)<;>(try first | (exfalso;omega) | exact hbb.elim)) | fail)
  exact ⟨.inr trivial,ef,trivial⟩
noncomputable def sqB (B:Bu) (n:Nat):List (List Nd) × Xs:=sq B [trS B] [(0,recS (2*B.next.length))] n
def Fits (B:Bu) (most n:Nat):Prop:=n=(sqB B n).2.length∧(∀ j,j<n→j<(sqB B j).2.length)∧∀ j,j≤n→(sqB B j).2.length≤most
def Over (B:Bu) (most:Nat):Prop:=∃ n,(∀ j,j≤n→j<(sqB B j).2.length∧(sqB B j).2.length≤most)∧most<(sqB B (n+1)).2.length
noncomputable def nxB (B:Bu) (n:Nat):List Int:=sqN B [trS B] [(0,recS (2*B.next.length))] n
noncomputable def prB (B:Bu) (n:Nat):List Int:=sqP B [trS B] [(0,recS (2*B.next.length))] n
def RowsM (s:St) (v:LV) (f:Nat→List Int) (n:Nat):Prop:=∃ R,SkC s v 1 R n∧LV.closed.closedAll R=true∧∀ j,j<n→IsInts (R.getD j .top) (f j)
theorem RowsM.mono {s s':St} {v:LV} {f:Nat→List Int} {n:Nat} (h:RowsM s v f n) (hn:s.n≤s'.n) (hs:∀ id,uses v id→s'.get id=s.get id):RowsM s' v f n:=by
  obtain ⟨R,h1,h2⟩:=h
  exact ⟨R,h1.mono hn hs,h2⟩
theorem closedAll_app {l m:List LV} : LV.closed.closedAll (l++m)=(LV.closed.closedAll l && LV.closed.closedAll m):=by
  induction l with
  | nil=>simp [LV.closed.closedAll]
  | cons a l ih=>simp [LV.closed.closedAll,ih,Bool.and_assoc]
theorem RowsM.app {s':St} {v' xv:LV} {f:Nat→List Int} {n:Nat} {R:List LV} (hc:LV.closed.closedAll R=true) (hr:∀ j,j<n→IsInts (R.getD j .top) (f j)) (hl:R.length=n) (hx:IsInts xv (f n)) (h:SkC s' v' 1 (R++[xv]) (n+1)):RowsM s' v' f (n+1):=by
  refine ⟨_,h,?_,fun j hj=>?_⟩
  · rw [closedAll_app,hc]
    simp [LV.closed.closedAll,hx.closed]
  · by_cases e:j<n
    · have:=hr j e
      rwa [List.getD_eq_getElem?_getD,List.getElem?_append_left (by omega),← List.getD_eq_getElem?_getD]
    · have:j=n:=by omega
      subst this
      rw [List.getD_eq_getElem?_getD,List.getElem?_append_right (by omega),hl]
      simpa using hx
abbrev pbA:LCode:=.seq (.region [{ dst:=some 8,op:=.mv (.t 30) }]) (.region [{ dst:=some 9,op:=.mv (.t 31) }])
abbrev pbB:LCode:=.block 1 (.seq (.region [{ dst:=some 32,op:=.faddr 2 (.t 6) },{ dst:=some 33,op:=.load none (.t 32) },{ dst:=some 34,op:=.mv (.t 8) },{ dst:=some 35,op:=.bslice 1 1 [.nils] [(0,(1, .t 34))] },{ dst:=some 36,op:=.append 1 24 (.t 33) (.t 35) },{ dst:=some 37,op:=.faddr 2 (.t 6) },{ dst:=none,op:=.store 1 (.t 37) (.t 36) }]) (.region [{ dst:=some 38,op:=.faddr 3 (.t 6) },{ dst:=some 39,op:=.load none (.t 38) },{ dst:=some 40,op:=.mv (.t 9) },{ dst:=some 41,op:=.bslice 1 1 [.nils] [(0,(1, .t 40))] },{ dst:=some 42,op:=.append 1 24 (.t 39) (.t 41) },{ dst:=some 43,op:=.faddr 3 (.t 6) },{ dst:=none,op:=.store 1 (.t 43) (.t 42) }]))
def PAns (B:Bu) (most:Nat) (s:St) (r:LV) (s':St):Prop:=s.n≤s'.n∧(∀ id,id<s.n→s'.get id=s.get id)∧((∃ n v1 v2,r = .tup [.agg [.int .i64 B.L, .int .i64 0,v1,v2], .int .i64 0]∧Fits B most n∧RowsM s' v1 (nxB B) n∧RowsM s' v2 (prB B) n∧(∀ id,uses v1 id∨uses v2 id→s.n≤id))∨(r = .tup [.agg [.int .i64 0, .int .i64 0, .nils, .nils], .int .i64 2]∧Over B most))
theorem sq_mono (B:Bu) (n:Nat):(sqB B n).2.length≤(sqB B (n+1)).2.length:=by
  have h:=xsA_mono B (sqB B (n+1)).1 ((sqB B n).1.getD ((sqB B n).2.getD n default).1 []) ((sqB B n).2.getD n default).2 (sqB B n).2 (Nat.zero_le B.L.toNat)
  exact h
theorem RowsM.lt {s:St} {v:LV} {f:Nat→List Int} {n id:Nat} (h:RowsM s v f n) (hu:uses v id):id<s.n:=by
  obtain ⟨R,h1,-⟩:=h
  exact h1.lt hu
def PbI (B:Bu) (s:St) (e':Env) (lo:Nat) (n:Nat) (C:Nat→Prop) (st:St):Prop:=
  ∃ v1 v2,C=(fun id=>id<s.n+2∨id=lo∨uses v1 id∨uses v2 id)∧st.get lo=some (.loop .ready none e' [30,31] pbA pbB)∧lo<st.n∧st.get s.n=some (.cells .mut [.int .i64 0, .int .i64 0, .nils, .nils])∧st.get (s.n+1)=some (.cells .mut [.int .i64 B.L, .int .i64 0,v1,v2])∧(∀ id,id<s.n→st.get id=s.get id)∧RowsM st v1 (nxB B) n∧RowsM st v2 (prB B) n∧(∀ id,uses v1 id→lo<id∧¬ uses v2 id)∧∀ id,uses v2 id→lo<id
set_option maxHeartbeats 16000000 in
theorem build_ok {bv:LV} {B:Bu} {sv nv:LV} {most:Nat} (hB:IsB bv B sv nv) (hv:Vb B) (hN:B.next.length≤10) (hl:B.start.length≤64) (hlim:∀ q a,(mvs B q a).length≤1000000) (hm1:1≤most) (hmost:most≤1000) (s:St) :
    CallOk Try.prog GL (.fn (.func 7) [] []) [bv, .int .i64 (most:Int)] s (fun r s'=>PAns B most s r s'):=by
  have hcl:=hB.closed
  have hval:=bvalid_ok hB
  simp only [hv,decide_true] at hval
  obtain ⟨rfl,hs,hn⟩:=hB
  have hsc:=hs.closed
  have hnc:=hn.closed
  have hB:IsB (.agg [.int .i64 B.L,sv,nv]) B sv nv:=⟨rfl,hs,hn⟩
  obtain ⟨vs,hn'⟩:=hn
  have hsc1:=hs.sl.cell
  have hnc1:=hn'.sl.cell
  refine call_fn (first:=[]) (caps:=[]) Try.func7 (by decide +kernel) c7 (Nat.le_of_ble_eq_true rfl) (CodeOk.mono (Q:=fun o e s'=>(o = .normal∨o = .jmp .ret)∧∃ k c er,e.at 4 = .pref k 0∧s'.get k=some (.cells .mut c)∧e.at 5=er∧c.length=4∧PAns B most s (.tup [.agg c,er]) s') ?_ fun o e s' hh=>by
    obtain ⟨h1,k,c,er,h2,h3,h4,h5,h6⟩:=hh
    match c,h5,h3,h6 with
    | [c1,c2,c3,c4],_,h3,h6=>exact ⟨h1,_,by simp [l7,resVal,resOne,h2,h3,h4,mkVal],h6⟩)
  have e0:(envOf ([]++[LV.agg [.int .i64 B.L,sv,nv], .int .i64 (most:Int)]++[])).at 0 = .agg [.int .i64 B.L,sv,nv]:=by rw [envOf_at];rfl
  have e1:(envOf ([]++[LV.agg [.int .i64 B.L,sv,nv], .int .i64 (most:Int)]++[])).at 1 = .int .i64 (most:Int):=by rw [envOf_at];rfl
  generalize envOf ([]++[LV.agg [.int .i64 B.L,sv,nv], .int .i64 (most:Int)]++[])=e at *
  refine Cd.out ?_
  unfold l7
  dsimp only [jA,jC,jG,qM,qN,qF,qS,qC,qO,qP,qG,qm,ql]
  repeat' (first | refine gA @hcl ?_ | (refine gB @hcl ?_;intro bb hbb;cases bb<;>(try simp only [hbs,if_false,reduceCtorEq] at hbb)<;>(try first | (exfalso;omega) | exact hbb.elim)) | apply qc_seq | fail)
  refine q_pure hG0 hval wN (by simp only [List.map,lk,sv1,sv2,sv3,Nat.reduceEqDiff,Nat.reduceAdd,Nat.reduceLeDiff,reduceIte,if_false,if_true,mkVal,unLV,List.map,optTmps]) trivial ?_
  simp only [Env.put_some]
  repeat' (first | refine gA @hcl ?_ | (refine gB @hcl ?_;intro bb hbb;cases bb<;>(try simp only [hbs,if_false,reduceCtorEq] at hbb)<;>(try first | (exfalso;omega) | exact hbb.elim)) | apply qc_seq | fail)
  refine u_build (vs:=[.int .i64 B.L, .int .i64 0, .nils, .nils]) wN (by
    simp only [evParts,List.map,lk,sv1,sv2,sv3,Nat.reduceEqDiff,Nat.reduceAdd,Nat.reduceLeDiff,reduceIte,if_false,if_true,mkVal,unLV,List.map,optTmps]
    simp [fillParts,cells_int,splice]) ?_
  have hns:=fun s=>newS_ok hB hv hN hl (most:Int) s
  have hcl2:(LV.agg [.int .i64 B.L, .int .i64 0, .nils, .nils]).closed=true:=rfl
  repeat' (first | refine gA @hcl ?_ | (refine gB @hcl ?_;intro bb hbb;cases bb<;>(try simp only [hbs,if_false,reduceCtorEq] at hbb)<;>(try first | (exfalso;omega) | exact hbb.elim)) | apply qc_seq | fail)
  have hkA:(((s.new (.cells .mut [.int .i64 0, .int .i64 0, .nils, .nils])).new (.cells .mut [.int .i64 0, .int .i64 0, .nils, .nils])).put (s.n+1) (.cells .mut [.int .i64 B.L, .int .i64 0, .nils, .nils])).get s.n=some (.cells .mut [.int .i64 0, .int .i64 0, .nils, .nils]):=by rw [St.get_put,if_neg (by omega),St.get_new,if_neg (by simp),St.get_new,if_pos rfl]
  have hkP:(((s.new (.cells .mut [.int .i64 0, .int .i64 0, .nils, .nils])).new (.cells .mut [.int .i64 0, .int .i64 0, .nils, .nils])).put (s.n+1) (.cells .mut [.int .i64 B.L, .int .i64 0, .nils, .nils])).get (s.n+1)=some (.cells .mut [.int .i64 B.L, .int .i64 0, .nils, .nils]):=by rw [St.get_put,if_pos rfl]
  have hoA:∀ id,id<s.n→(((s.new (.cells .mut [.int .i64 0, .int .i64 0, .nils, .nils])).new (.cells .mut [.int .i64 0, .int .i64 0, .nils, .nils])).put (s.n+1) (.cells .mut [.int .i64 B.L, .int .i64 0, .nils, .nils])).get id=s.get id:=fun id hid=>by rw [St.get_put,if_neg (by omega),St.get_new,if_neg (by simp;omega),St.get_new,if_neg (by omega)]
  have hnA:(((s.new (.cells .mut [.int .i64 0, .int .i64 0, .nils, .nils])).new (.cells .mut [.int .i64 0, .int .i64 0, .nils, .nils])).put (s.n+1) (.cells .mut [.int .i64 B.L, .int .i64 0, .nils, .nils])).n=s.n+2:=rfl
  generalize ((s.new (.cells .mut [.int .i64 0, .int .i64 0, .nils, .nils])).new (.cells .mut [.int .i64 0, .int .i64 0, .nils, .nils])).put (s.n+1) (.cells .mut [.int .i64 B.L, .int .i64 0, .nils, .nils])=sA at *
  refine q_call wN (fv:=.fn (.func 21) [] []) (vs:=[.agg [.int .i64 B.L,sv,nv], .int .i64 (most:Int)]) ef (by simp only [List.map,lk,sv1,sv2,sv3,Nat.reduceEqDiff,Nat.reduceAdd,Nat.reduceLeDiff,reduceIte,if_false,if_true,mkVal,unLV,List.map,optTmps]) (CallOk.mono (hns sA) fun x s1 hh=>⟨trivial,?_⟩)
  simp only [Env.put_some]
  obtain ⟨Z,O,rfl,hS,hn1,hO,ho1⟩:=hh
  have hk1:=(ho1 s.n (by omega)).trans hkA
  have hkP1:=(ho1 (s.n+1) (by omega)).trans hkP
  have ho1':∀ id,id<s.n→s1.get id=s.get id:=fun id hid=>(ho1 id (by omega)).trans (hoA id hid)
  have hZO:s.n+2≤Z∧Z<s1.n:=by
    obtain ⟨tv,pv,xv,TN,SN,tcs,pcs,xr,hX⟩:=hS
    exact ⟨by have:=hO Z hX.oZ.1;omega,hX.ol Z hX.oZ.1⟩
  have hOl:∀ id,O id→id<s1.n:=by
    obtain ⟨tv,pv,xv,TN,SN,tcs,pcs,xr,hX⟩:=hS
    exact hX.ol
  have hSB:=Bx.mk (And.intro hS (And.intro hO ho1'))
  clear hS hO ho1 ho1' hoA hkA hkP hns hval hcl2
  repeat' (first | refine gA @hcl ?_ | (refine gB @hcl ?_;intro bb hbb;cases bb<;>(try simp only [hbs,if_false,reduceCtorEq] at hbb)<;>(try first | (exfalso;omega) | exact hbb.elim)) | apply qc_seq | fail)
  refine q_call wN (fv:=.fn (.func 22) [] []) (vs:=[.pref Z 0]) ef (by simp only [List.map,lk,sv1,sv2,sv3,Nat.reduceEqDiff,Nat.reduceAdd,Nat.reduceLeDiff,reduceIte,if_false,if_true,mkVal,unLV,List.map,optTmps]) (CallOk.mono (rows_ok s1) fun x s2 hh=>⟨trivial,?_⟩)
  simp only [Env.put_some]
  obtain ⟨rfl,rfl⟩:=hh
  repeat' (first | refine gA @hcl ?_ | (refine gB @hcl ?_;intro bb hbb;cases bb<;>(try simp only [hbs,if_false,reduceCtorEq] at hbb)<;>(try first | (exfalso;omega) | exact hbb.elim)) | apply qc_seq | fail)
  refine qc_range (yv:=.fn (.func 39) [] [.pref s1.n 0]) ef ?_
  obtain ⟨e',hE⟩:∃ e':Env,e'=((((((((((((((((((((((((Tr.set e 2 (LV.pimm [.int .i64 B.L,sv,nv] 0)).set 4 (.pref s.n 0)).set 5 (.int .i64 0)).set 10 (.agg [.int .i64 B.L,sv,nv])).set 11 (.bool true)).set 12 (.bool !true)).set 13 (.bool false)).set 14 (.int .i64 most)).set 15 (.bool false)).set 16 (.bool false)).set 17 (.bool false)).set 18 (.int .i64 most)).set 19 (.bool false)).set 20 (.bool false)).set 22 (.pimm [.int .i64 B.L,sv,nv] 0)).set 23 (.int .i64 B.L)).set 24 (.agg [.int .i64 B.L, .int .i64 0, .nils, .nils])).set 6 (.pref (s.n+1) 0)).set 25 (.agg [.int .i64 B.L,sv,nv])).set 26 (.int .i64 most)).set 27 (.pref Z 0)).set 7 (.pref Z 0)).set 28 (.pref Z 0)).set 29 (.fn (.func 39) [] [.pref s1.n 0])):=⟨_,rfl⟩
  have e1:e'.at 1 = .int .i64 (most:Int):=by rw [hE];simp only [lk,sv1,sv2,sv3,Nat.reduceEqDiff,Nat.reduceAdd,Nat.reduceLeDiff,reduceIte,if_false,if_true,mkVal,unLV,List.map,optTmps,e1]
  have e4:e'.at 4 = .pref s.n 0:=by rw [hE];simp only [lk,sv1,sv2,sv3,Nat.reduceEqDiff,Nat.reduceAdd,Nat.reduceLeDiff,reduceIte,if_false,if_true,mkVal,unLV,List.map,optTmps]
  have e6:e'.at 6 = .pref (s.n+1) 0:=by rw [hE];simp only [lk,sv1,sv2,sv3,Nat.reduceEqDiff,Nat.reduceAdd,Nat.reduceLeDiff,reduceIte,if_false,if_true,mkVal,unLV,List.map,optTmps]
  have e7:e'.at 7 = .pref Z 0:=by rw [hE];simp only [lk,sv1,sv2,sv3,Nat.reduceEqDiff,Nat.reduceAdd,Nat.reduceLeDiff,reduceIte,if_false,if_true,mkVal,unLV,List.map,optTmps]
  rw [← hE,St.n_new]
  clear hE e0
  have hSr:∃ tv pv xv TN SN tcs pcs xr,SX ((s1.new (.cells .mut [.pref Z 0])).new (.loop .ready none e' [30,31] pbA pbB)) Z B sv nv (most:Int) [trS B] [(0,recS (2*B.next.length))] O (fun _=>False) tv pv xv TN SN tcs pcs xr:=by
    obtain ⟨tv,pv,xv,TN,SN,tcs,pcs,xr,hX⟩:=hSB.out.1
    exact ⟨tv,pv,xv,TN,SN,tcs,pcs,xr,hX.keep (by simp;omega) fun id hid=>by have:=hOl id hid;rw [St.get_new,if_neg (by simp;omega),St.get_new,if_neg (by omega)]⟩
  refine CallOk.mono (rows_it (Z:=Z) (b:=s1.n) (most:=most) (B:=B) (O:=O) hB hv hN hlim hmost (.yld (s1.n+1)) ((s1.new (.cells .mut [.pref Z 0])).new (.loop .ready none e' [30,31] pbA pbB)) hSr (by rw [St.get_new,if_neg (by simp),St.get_new,if_pos rfl]) (by simp;omega) (fun h=>by have:=hOl _ h;omega) ?_ (by simp) (by simpa using hm1)
    (PbI B s e' (s1.n+1)) (fun id=>id<s.n+2∨id=s1.n+1∨uses .nils id∨uses .nils id) rfl ?_ ?_ ?_ ?_ ?_) ?_
  · intro x hx
    rw [List.mem_singleton.1 hx]
    exact ⟨by simp,recS_ok (by omega),recS_len _⟩
  · exact ⟨.nils, .nils,rfl,by rw [St.get_new,if_pos (by simp)],by simp,by rw [St.get_new,if_neg (by simp;omega),St.get_new,if_neg (by omega)];exact hk1,by rw [St.get_new,if_neg (by simp;omega),St.get_new,if_neg (by omega)];exact hkP1,fun id hid=>by rw [St.get_new,if_neg (by simp;omega),St.get_new,if_neg (by omega)];exact hSB.out.2.2 id hid,⟨[],SkC.nil _ _,rfl,fun j hj=>by omega⟩,⟨[],SkC.nil _ _,rfl,fun j hj=>by omega⟩,fun id hu=>absurd hu (uses_nils id),fun id hu=>absurd hu (uses_nils id)⟩
  · rintro n C st ⟨v1,v2,rfl,h1,h2,h3,h4,h5,h6,h7,h8,h9⟩ id hc
    rcases hc with h | h | h | h
    · omega
    · omega
    · exact h6.lt h
    · exact h7.lt h
  · intro id hc
    rcases hc with h | h | h | h
    · exact ⟨fun ho=>by have:=hSB.out.2.1 id ho;omega,by omega⟩
    · exact ⟨fun ho=>by have:=hOl id ho;omega,by omega⟩
    · exact absurd h (uses_nils id)
    · exact absurd h (uses_nils id)
  · rintro n C st st2 ⟨v1,v2,rfl,h1,h2,h3,h4,h5,h6,h7,h8,h9⟩ hn2 hk
    exact ⟨v1,v2,rfl,(hk _ (.inr (.inl rfl))).trans h1,by omega,(hk _ (.inl (by omega))).trans h3,(hk _ (.inl (by omega))).trans h4,fun id hid=>(hk id (.inl (by omega))).trans (h5 id hid),h6.mono hn2 fun id hu=>hk id (.inr (.inr (.inl hu))),h7.mono hn2 fun id hu=>hk id (.inr (.inr (.inr hu))),h8,h9⟩
  · rintro n C st xv1 xv2 ⟨v1,v2,rfl,h1,h2,h3,h4,h5,h6,h7,h8,h9⟩ hx1 hx2 hnl hnm
    refine qc_yield h1 rfl fun nt'=>?_
    show Cd Try.prog GL true nt' pbA (Tr.set (Tr.set e' 30 xv1) 31 xv2) st _
    have hx1c:=hx1.sl.cell
    have hx2c:=hx2.sl.cell
    have hv1c:isCell v1=true:=by obtain ⟨R,h,-⟩:=h6;exact h.cell
    have hv2c:isCell v2=true:=by obtain ⟨R,h,-⟩:=h7;exact h.cell
    have hnm':n+1≤most:=by
      have:=sq_mono B n
      have h1':n<(sqB B n).2.length:=hnl
      have h2':(sqB B (n+1)).2.length≤most:=hnm
      omega
    have hB1:=Bx.mk (And.intro h1 (And.intro h3 (And.intro h5 (And.intro h6 (And.intro h7 (And.intro h8 (And.intro h9 (And.intro hx1 hx2))))))))
    clear h3 h5 h6 h7 h8 h9 hx1 hx2
    repeat' (first | refine gN trivial ?_ | (refine gB trivial ?_;intro bb hbb;cases bb<;>(try simp only [hbs,if_false,reduceCtorEq] at hbb)<;>(try first | (exfalso;omega) | exact hbb.elim)) | fail)
    refine ⟨hB1.out.1,?_⟩
    have hk4:(st.put (s1.n+1) (.loop .busy none e' [30,31] pbA pbB)).get (s.n+1)=some (.cells .mut [.int .i64 B.L, .int .i64 0,v1,v2]):=by rw [St.get_put,if_neg (by omega)];exact h4
    have hgl:(st.put (s1.n+1) (.loop .busy none e' [30,31] pbA pbB)).get (s1.n+1)=some (.loop .busy none e' [30,31] pbA pbB):=by rw [St.get_put,if_pos rfl]
    have ho1:∀ id,id≠s1.n+1→(st.put (s1.n+1) (.loop .busy none e' [30,31] pbA pbB)).get id=st.get id:=fun id hid=>by rw [St.get_put,if_neg hid]
    have hn1':(st.put (s1.n+1) (.loop .busy none e' [30,31] pbA pbB)).n=st.n:=rfl
    generalize st.put (s1.n+1) (.loop .busy none e' [30,31] pbA pbB)=st1 at *
    clear h1 h4
    repeat' (first | refine gN @hk4 ?_ | (refine gB @hk4 ?_;intro bb hbb;cases bb<;>(try simp only [hbs,if_false,reduceCtorEq] at hbb)<;>(try first | (exfalso;omega) | exact hbb.elim)) | fail)
    have hR1:=hB1.out.2.2.2.1
    have hR2:=hB1.out.2.2.2.2.1
    have hu1:=hB1.out.2.2.2.2.2.1
    have hu2:=hB1.out.2.2.2.2.2.2.1
    have hx1:=hB1.out.2.2.2.2.2.2.2.1
    have hx2:=hB1.out.2.2.2.2.2.2.2.2
    obtain ⟨R1,hS1,hc1,hr1⟩:=hR1
    obtain ⟨R2,hS2,hc2,hr2⟩:=hR2
    have hl1:R1.length=n:=by have:=hS1.1;omega
    have hl2:R2.length=n:=by have:=hS2.1;omega
    have hl1t:∀ id,uses v1 id→id<st.n:=fun id hu=>hS1.lt hu
    have hl2t:∀ id,uses v2 id→id<st.n:=fun id hu=>hS2.lt hu
    have hS1':=hS1.mono (s':=st1) (by omega) fun id hu=>ho1 id (by have:=(hu1 id hu).1;omega)
    have hS2':=hS2.mono (s':=st1) (by omega) fun id hu=>ho1 id (by have:=hu2 id hu;omega)
    refine q_appC (n:=n) (esz:=1) (xv:=xv1) (yv:=v1) (vs:=[xv1]) (cells:=R1) ef (sl_cells hx1.sl) rfl rfl (by simp [LV.closed.closedAll,hx1.closed]) ef hS1' (by decide) (by omega) (fun st2 j1 a1 a4 a5 a6=>?_)
    have hk42:st2.get (s.n+1)=some (.cells .mut [.int .i64 B.L, .int .i64 0,v1,v2]):=by rw [a6 _ (by omega) fun hu=>by have:=hu1 _ hu;omega];exact hk4
    have hg2:st2.get (s1.n+1)=some (.loop .busy none e' [30,31] pbA pbB):=by rw [a6 _ (by omega) fun hu=>by have:=hu1 _ hu;omega];exact hgl
    have hS22:=hS2'.mono (s':=st2) a5 fun id hu=>a6 id (by have:=hl2t id hu;omega) fun h=>(hu1 id h).2 hu
    have hB2:=Bx.mk (And.intro a4 (And.intro a6 (And.intro hS22 (And.intro hg2 (And.intro hr1 hr2)))))
    clear a4 a6 hS22 hg2 hS1 hS2 hS1' hS2' hk4 hgl hr1 hr2 hu1 hu2 hx1 hx2 hl1t hl2t
    repeat' (first | refine gN @hk42 ?_ | (refine gB @hk42 ?_;intro bb hbb;cases bb<;>(try simp only [hbs,if_false,reduceCtorEq] at hbb)<;>(try first | (exfalso;omega) | exact hbb.elim)) | fail)
    have hf3:∀ id,id≠s.n+1→(st2.put (s.n+1) (.cells .mut [.int .i64 B.L, .int .i64 0, .sref j1 0 (n+1) 1,v2])).get id=st2.get id:=fun id hid=>by rw [St.get_put,if_neg hid]
    have hk43:(st2.put (s.n+1) (.cells .mut [.int .i64 B.L, .int .i64 0, .sref j1 0 (n+1) 1,v2])).get (s.n+1)=some (.cells .mut [.int .i64 B.L, .int .i64 0, .sref j1 0 (n+1) 1,v2]):=by rw [St.get_put,if_pos rfl]
    have hn3:(st2.put (s.n+1) (.cells .mut [.int .i64 B.L, .int .i64 0, .sref j1 0 (n+1) 1,v2])).n=st2.n:=rfl
    generalize st2.put (s.n+1) (.cells .mut [.int .i64 B.L, .int .i64 0, .sref j1 0 (n+1) 1,v2])=st3 at *
    have hu1:=hB1.out.2.2.2.2.2.1
    have hu2:=hB1.out.2.2.2.2.2.2.1
    have hS23:=hB2.out.2.2.1.mono (s':=st3) (by omega) fun id hu=>hf3 id (by have:=hu2 id hu;omega)
    refine q_appC (n:=n) (esz:=1) (xv:=xv2) (yv:=v2) (vs:=[xv2]) (cells:=R2) ef (sl_cells hB1.out.2.2.2.2.2.2.2.2.sl) rfl rfl (by simp [LV.closed.closedAll,hB1.out.2.2.2.2.2.2.2.2.closed]) ef hS23 (by decide) (by omega) (fun st4 j2 b1 b4 b5 b6=>?_)
    have hk44:st4.get (s.n+1)=some (.cells .mut [.int .i64 B.L, .int .i64 0, .sref j1 0 (n+1) 1,v2]):=by rw [b6 _ (by omega) fun hu=>by have:=hu2 _ hu;omega];exact hk43
    have hB3:=Bx.mk (And.intro b4 b6)
    clear b4 b6 hS23 hu1 hu2
    repeat' (first | refine gN @hk44 ?_ | (refine gB @hk44 ?_;intro bb hbb;cases bb<;>(try simp only [hbs,if_false,reduceCtorEq] at hbb)<;>(try first | (exfalso;omega) | exact hbb.elim)) | fail)
    have hj1t:j1<st2.n:=hB2.out.1.lt (uses_sref.2 rfl)
    have hj2t:j2<st4.n:=hB3.out.1.lt (uses_sref.2 rfl)
    have hu1:=hB1.out.2.2.2.2.2.1
    have hu2:=hB1.out.2.2.2.2.2.2.1
    have hl1t:∀ id,uses v1 id→id<st.n:=fun id hu=>hB1.out.2.2.2.1.lt hu
    have hl2t:∀ id,uses v2 id→id<st.n:=fun id hu=>hB1.out.2.2.2.2.1.lt hu
    have h14:∀ id,id<st.n→id≠s1.n+1→id≠s.n+1→¬ uses v1 id→¬ uses v2 id→st4.get id=st.get id:=fun id h1 h2 h3 h4 h5=>by
      rw [hB3.out.2 id (by omega) h5,hf3 id h3,hB2.out.2.1 id (by omega) h4,ho1 id h2]
    have hg4:st4.get (s1.n+1)=some (.loop .busy none e' [30,31] pbA pbB):=by
      rw [hB3.out.2 _ (by omega) fun hu=>by have:=hu2 _ hu;omega,hf3 _ (by omega)];exact hB2.out.2.2.2.1
    have hfin:∀ id,id≠s.n+1→id≠s1.n+1→((st4.put (s.n+1) (.cells .mut [.int .i64 B.L, .int .i64 0, .sref j1 0 (n+1) 1, .sref j2 0 (n+1) 1])).put (s1.n+1) (.loop .ready none e' [30,31] pbA pbB)).get id=st4.get id:=fun id h1 h2=>by rw [St.get_put,if_neg h2,St.get_put,if_neg h1]
    refine ⟨.busy,none,e',[30,31],pbA,pbB,by rw [St.get_put,if_neg (by omega)];exact hg4,rfl,by simp;omega,_,⟨.sref j1 0 (n+1) 1, .sref j2 0 (n+1) 1,rfl,by rw [St.get_put,if_pos rfl],by simp;omega,?_,?_,fun id hid=>?_,?_,?_,fun id hu=>?_,fun id hu=>?_⟩,fun id hc=>?_,fun id hid hnc=>?_⟩
    · rw [hfin _ (by omega) (by omega),h14 _ (by omega) (by omega) (by omega) (fun hu=>by have:=(hu1 _ hu).1;omega) fun hu=>by have:=hu2 _ hu;omega]
      exact hB1.out.2.1
    · rw [St.get_put,if_neg (by omega),St.get_put,if_pos rfl]
    · rw [hfin _ (by omega) (by omega),h14 _ (by omega) (by omega) (by omega) (fun hu=>by have:=(hu1 _ hu).1;omega) fun hu=>by have:=hu2 _ hu;omega]
      exact hB1.out.2.2.1 id hid
    · refine RowsM.app hc1 hB2.out.2.2.2.2.1 hl1 hB1.out.2.2.2.2.2.2.2.1 (hB2.out.1.mono (by simp;omega) fun id hu=>?_)
      have:=uses_sref.1 hu
      subst this
      rw [hfin _ (by omega) (by omega),hB3.out.2 _ (by omega) fun hu=>by have:=hl2t _ hu;omega,hf3 _ (by omega)]
    · refine RowsM.app hc2 hB2.out.2.2.2.2.2 hl2 hB1.out.2.2.2.2.2.2.2.2 (hB3.out.1.mono (by simp) fun id hu=>?_)
      have:=uses_sref.1 hu
      subst this
      rw [hfin _ (by omega) (by omega)]
    · have:=uses_sref.1 hu
      exact ⟨by omega,fun hu2=>by have:=uses_sref.1 hu2;omega⟩
    · have:=uses_sref.1 hu
      omega
    · rcases hc with h | h | h | h
      · exact .inl (.inl h)
      · exact .inl (.inr (.inl h))
      · have:=uses_sref.1 h;exact .inr (by omega)
      · have:=uses_sref.1 h;exact .inr (by omega)
    · have h1:¬ id<s.n+2:=fun h=>hnc (.inl h)
      have h2:id≠s1.n+1:=fun h=>hnc (.inr (.inl h))
      rw [hfin _ (by omega) h2,h14 id hid h2 (by omega) (fun h=>hnc (.inr (.inr (.inl h)))) fun h=>hnc (.inr (.inr (.inr h)))]
  · rintro r s' ⟨hn,n,C,O',F',ts,xs,⟨v1,v2,rfl,h1,h2,h3,h4,h5,h6,h7,h8,h9⟩,hS',hj1,hj2,hend⟩
    refine ⟨.ready,none,e',[30,31],pbA,pbB,h1,by simp,?_⟩
    simp only [Blkd,Thn]
    obtain ⟨tv,pv,xv,TN,SN,tcs,pcs,xr,hX⟩:=hS'
    have hblk:(s'.put (s1.n+1) (.loop .exhausted none e' [30,31] pbA pbB)).get Z=some (.cells .mut [.int .i64 B.L,sv,nv, .int .i64 (most:Int),tv,pv, .mref TN,xv, .mref SN]):=by rw [St.get_put,if_neg (by omega)];exact hX.blk
    have hxl:=hX.x.len
    have hk4:(s'.put (s1.n+1) (.loop .exhausted none e' [30,31] pbA pbB)).get s.n=some (.cells .mut [.int .i64 0, .int .i64 0, .nils, .nils]):=by rw [St.get_put,if_neg (by omega)];exact h3
    have hk6:(s'.put (s1.n+1) (.loop .exhausted none e' [30,31] pbA pbB)).get (s.n+1)=some (.cells .mut [.int .i64 B.L, .int .i64 0,v1,v2]):=by rw [St.get_put,if_neg (by omega)];exact h4
    have ho1:∀ id,id≠s1.n+1→(s'.put (s1.n+1) (.loop .exhausted none e' [30,31] pbA pbB)).get id=s'.get id:=fun id hid=>by rw [St.get_put,if_neg (by omega)]
    have hn1':(s'.put (s1.n+1) (.loop .exhausted none e' [30,31] pbA pbB)).n=s'.n:=rfl
    generalize s'.put (s1.n+1) (.loop .exhausted none e' [30,31] pbA pbB)=s2 at *
    have hv1c:isCell v1=true:=by obtain ⟨R,h,-⟩:=h6;exact h.cell
    have hv2c:isCell v2=true:=by obtain ⟨R,h,-⟩:=h7;exact h.cell
    have hB1:=Bx.mk (And.intro h5 (And.intro h6 (And.intro h7 (And.intro h8 (And.intro h9 (And.intro hj1 hj2))))))
    clear h1 h3 h4 h5 h6 h7 h8 h9 hj1 hj2 hX
    by_cases hov:most<xs.length
    · have hovI:(most:Int)<(xs.length:Int):=by omega
      have hOv:Over B most:=by
        rcases hend with ⟨h1,h2⟩ | ⟨-,h1,h2⟩
        · exfalso
          have:=hB1.out.2.2.2.2.2.2 n (Nat.le_refl _)
          rw [← h1] at this;omega
        · refine ⟨n,fun j hj=>⟨?_,hB1.out.2.2.2.2.2.2 j hj⟩,h2⟩
          by_cases e:j=n
          · subst e;exact h1
          · exact hB1.out.2.2.2.2.2.1 j (by omega)
      clear hend
      repeat' (first | refine gA (And.intro @hblk (And.intro @hxl @hk4)) ?_ | (refine gB (And.intro @hblk (And.intro @hxl @hk4)) ?_;intro bb hbb;cases bb<;>(try simp only [hbs,if_false,reduceCtorEq] at hbb)<;>(try first | (exfalso;omega) | exact hbb.elim)) | apply qc_seq | fail)
      refine u_build (vs:=[.int .i64 0, .int .i64 0, .nils, .nils]) wN (by
        simp only [evParts,List.map,lk,sv1,sv2,sv3,Nat.reduceEqDiff,Nat.reduceAdd,Nat.reduceLeDiff,reduceIte,if_false,if_true,mkVal,unLV,List.map,optTmps]
        simp [fillParts]) ?_
      repeat' (first | refine gA (And.intro @hblk (And.intro @hxl @hk4)) ?_ | (refine gB (And.intro @hblk (And.intro @hxl @hk4)) ?_;intro bb hbb;cases bb<;>(try simp only [hbs,if_false,reduceCtorEq] at hbb)<;>(try first | (exfalso;omega) | exact hbb.elim)) | apply qc_seq | fail)
      refine ⟨.inr trivial,s.n,_,_,ef,by rw [St.get_put,if_pos rfl],ef,rfl,by simp;omega,fun id hid=>?_, .inr ⟨ef,hOv⟩⟩
      rw [St.get_put,if_neg (by omega),ho1 _ (by omega)];exact hB1.out.1 id hid
    · have hovI:(xs.length:Int)≤(most:Int):=by omega
      have hF:Fits B most n:=by
        rcases hend with ⟨h1,h2⟩ | ⟨h1,-⟩
        · exact ⟨by rw [h1] at h2;exact h2,hB1.out.2.2.2.2.2.1,hB1.out.2.2.2.2.2.2⟩
        · omega
      clear hend
      repeat' (first | refine gA (And.intro @hblk (And.intro @hxl (And.intro @hk4 @hk6))) ?_ | (refine gB (And.intro @hblk (And.intro @hxl (And.intro @hk4 @hk6))) ?_;intro bb hbb;cases bb<;>(try simp only [hbs,if_false,reduceCtorEq] at hbb)<;>(try first | (exfalso;omega) | exact hbb.elim)) | apply qc_seq | fail)
      refine ⟨.inr trivial,s.n,_,_,ef,by rw [St.get_put,if_pos rfl],ef,rfl,by simp;omega,fun id hid=>?_, .inl ⟨n,v1,v2,ef,hF,hB1.out.2.1.mono (by simp;omega) fun id hu=>?_,hB1.out.2.2.1.mono (by simp;omega) fun id hu=>?_,fun id hu=>?_⟩⟩
      · rw [St.get_put,if_neg (by omega),ho1 _ (by omega)];exact hB1.out.1 id hid
      · have:=(hB1.out.2.2.2.1 id hu).1
        rw [St.get_put,if_neg (by omega),ho1 _ (by omega)]
      · have:=hB1.out.2.2.2.2.1 id hu
        rw [St.get_put,if_neg (by omega),ho1 _ (by omega)]
      · rcases hu with hu | hu
        · have:=(hB1.out.2.2.2.1 id hu).1;omega
        · have:=hB1.out.2.2.2.2.1 id hu;omega
end Go.Proofs.Ytkbiecjdcjfhaaa
