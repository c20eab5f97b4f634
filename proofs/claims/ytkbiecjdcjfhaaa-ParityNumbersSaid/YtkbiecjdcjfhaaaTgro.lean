/- tree.grown. -/
import Derived.Test.YtkbiecjdcjfhaaaTrea
import Derived.Test.YtkbiecjdcjfhaaaTval
set_option linter.unusedSimpArgs false
set_option linter.unusedVariables false
namespace Go.Proofs.Ytkbiecjdcjfhaaa
open Go Go.Pv Go.Tre
open Classical
abbrev GR:=Gn × LV × Nat
def grow (r:GR):List LV:=[.int .i64 r.1.name, .int .i64 r.1.par,r.2.1, .mref r.2.2, .bool r.1.old, .bool r.1.good, .bool r.1.gone]
theorem grow_len (r:GR):(grow r).length=7:=rfl
theorem cells_grow (r:GR) (h:isCell r.2.1=true):cells? (.agg (grow r))=some (grow r):=by
  have:(grow r).all isCell=true:=by simp only [grow,List.all_cons,List.all_nil,Bool.and_true,h];rfl
  simp only [cells?,this,if_true]
theorem cells_nd (a b:Int) {v:LV} (h:isCell v=true):cells? (.agg [.int .i64 a, .int .i64 b,v])=some [.int .i64 a, .int .i64 b,v]:=by
  have:[LV.int .i64 a, .int .i64 b,v].all isCell=true:=by simp only [List.all_cons,List.all_nil,Bool.and_true,h];rfl
  simp only [cells?,this,if_true]
theorem cells_mref (M:Nat):cells? (.mref M)=some [.mref M]:=rfl
theorem cells_bool (b:Bool):cells? (.bool b)=some [.bool b]:=rfl
theorem cells_int (k:IntKind) (b:Int):cells? (.int k b)=some [.int k b]:=rfl
theorem sg_notmap {s:St} {v:LV} {esz n M:Nat} {cells:List LV} {K:List Int} (h:Sg s v esz cells n) (hm:MapS s M K):¬ uses v M:=by
  intro hu
  obtain ⟨_,⟨rfl,_⟩ | ⟨j,r,rfl,_,h2⟩⟩:=h
  · exact uses_nils M hu
  · have:=uses_sref.1 hu
    subst this
    obtain ⟨E,h3,_⟩:=hm
    rw [h2] at h3
    cases h3
structure GS (s:St) (lo:Nat) (v:LV) (R:List GR):Prop where
  sg:Sg s v 7 (wcl grow R) R.length
  sets:∀ r∈R,IsInts r.2.1 r.1.set
  mp:Mps s R.length (fun i=>(R.getD i default).2.2) (fun i=>(R.getD i default).1.kept)
  low:(∀ id,uses v id→lo≤id)∧∀ r∈R,lo≤r.2.2
theorem GS.nil (s:St) (lo:Nat):GS s lo .nils []:=⟨Sg.nil s 7,fun r h=>absurd h (by simp),Mps.zero _ _ _,fun id h=>absurd h (uses_nils id),fun r h=>absurd h (by simp)⟩
theorem GS.mono {s s':St} {lo:Nat} {v:LV} {R:List GR} (h:GS s lo v R) (hn:s.n≤s'.n) (hg:∀ id,id<s.n→s'.get id=s.get id):GS s' lo v R:=
  ⟨h.sg.mono hn fun id hu=>hg id (h.sg.lt hu),h.sets,h.mp.keep hn fun j hj=>hg _ (h.mp.lt j hj),h.low⟩
theorem GS.at_lt {s:St} {lo:Nat} {v:LV} {R:List GR} (h:GS s lo v R):∀ r∈R,r.2.2<s.n:=fun r hr=>by
  obtain ⟨i,hi,rfl⟩:=List.getElem_of_mem hr
  have:=h.mp.lt i hi
  simpa [List.getD_eq_getElem?_getD,hi] using this
theorem GS.snoc {s s':St} {lo:Nat} {v:LV} {R:List GR} (h:GS s lo v R) {g:Gn} {sv:LV} {M:Nat} (hm:MapS s M g.kept) (hM:∀ r∈R,r.2.2<M) (hl:lo≤M∧M<s.n) (hsv:IsInts sv g.set) {j:Nat} (hj:s.n≤j) (hSg:Sg s' (.sref j 0 (R.length+1) 7) 7 (wcl grow R++grow (g,sv,M)) (R.length+1)) (hn:s.n≤s'.n) (hg:∀ id,id<s.n→¬ uses v id→s'.get id=s.get id):GS s' lo (.sref j 0 (R.length+1) 7) (R++[(g,sv,M)]):=by
  have hgD:∀ i,i<R.length→(R++[(g,sv,M)]).getD i default=R.getD i default:=fun i hi=>by simp [List.getD_eq_getElem?_getD,List.getElem?_append_left hi]
  have hgL:(R++[(g,sv,M)]).getD R.length default=(g,sv,M):=by simp [List.getD_eq_getElem?_getD]
  refine ⟨by rw [List.length_append,List.length_singleton,wcl_append,wcl_one];exact hSg,fun r hr=>?_,?_,fun id hu=>by have:=uses_sref.1 hu;omega,fun r hr=>?_⟩
  · rcases List.mem_append.1 hr with hr | hr
    · exact h.sets r hr
    · rw [List.mem_singleton.1 hr];exact hsv
  · rw [List.length_append,List.length_singleton]
    refine h.mp.snoc (M:=M) hn (fun i hi=>hg _ (h.mp.lt i hi) (sg_notmap h.sg (h.mp.ms i hi))) (fun i hi=>?_) (by omega) (by simp only [hgL];exact hm.keep (hg _ hl.2 (sg_notmap h.sg hm))) (fun i=>?_) (fun i hi=>by simp only [hgD i hi])
    · have:=hM (R.getD i default) (by rw [List.getD_eq_getElem?_getD,List.getElem?_eq_getElem hi];simp)
      omega
    · by_cases e:i=R.length
      · subst e;simp only [hgL,if_true]
      · rw [if_neg e]
        by_cases hi:i<R.length
        · simp only [hgD i hi]
        · have h1:(R++[(g,sv,M)]).getD i default=default:=by rw [List.getD_eq_getElem?_getD,List.getElem?_eq_none (by rw [List.length_append,List.length_singleton];omega)];rfl
          have h2:R.getD i default=default:=by rw [List.getD_eq_getElem?_getD,List.getElem?_eq_none (by omega)];rfl
          simp only [h1,h2]
  · rcases List.mem_append.1 hr with hr | hr
    · exact h.low.2 r hr
    · rw [List.mem_singleton.1 hr];exact hl.1
theorem mapIdx_snoc {α β:Type} (f:Nat→α→β) (l:List α) (x:α):(l++[x]).mapIdx f=l.mapIdx f++[f l.length x]:=by simp [List.mapIdx_append]
def SetsIn (N:Nat) (t:List Nd):Prop:=∀ n∈t,∀ x∈n.set,0≤x∧x<(N:Int)
set_option maxHeartbeats 16000000 in
theorem grown_ok {bv:LV} {B:Bu} {sv nv tv:LV} (hB:IsB bv B sv nv) {t:List Nd} {rs:List (Int × Int × LV)} (ht:IsTr tv t rs) {a:Nat} (hr:SetsIn B.next.length t) (hrow:∀ q,q<B.next.length→a<(B.next.getD q []).length) (hlim:∀ q,(mvs B q a).length≤1000000)
    (htgt:∀ q,q<B.next.length→∀ m∈mvs B q a,0≤m.1∧m.1<B.next.length) (s:St) :
    CallOk Try.prog GL (.fn (.func 62) [] []) [bv,tv, .int .i64 (a:Int)] s (fun r s'=>∃ R,GS s' s.n r R∧R.map (·.1)=grown B.next.length (fun q=>mvs B q a) t∧s.n≤s'.n∧∀ id,id<s.n→s'.get id=s.get id):=by
  have hcl:=hB.closed
  have hreach:=fun (setv:LV) (set:List Int) (h1:IsInts setv set) (h2:∀ x∈set,0≤x∧x<B.next.length) (p:Int × Bool→Bool) (fv:LV) hp s=>reached_ok hB h1 (a:=a) (p:=p) (fv:=fv) h2 hrow hlim hp s
  obtain ⟨rfl,hs,hn⟩:=hB
  have hnc:=hn.closed
  have hsc:=hs.closed
  have htc:=ht.closed
  obtain ⟨vs,hn'⟩:=hn
  have hsc1:=hs.sl.cell
  have hnc1:=hn'.sl.cell
  have htl:=ht.sl.len
  have hlm:=ht.lim
  have hcan:∀ (set:List Int) (p:Int × Bool→Bool),(∀ x∈set,0≤x∧x<(B.next.length:Int))→∀ k,k∈rch (fun q=>mvs B q a) set p↔k∈canon B.next.length (rch (fun q=>mvs B q a) set p):=fun set p hset k=>by
    rw [mem_canon]
    refine ⟨fun h=>⟨h,?_⟩,fun h=>h.1⟩
    unfold rch at h
    obtain ⟨x,hx,h⟩:=List.mem_flatMap.1 h
    obtain ⟨m,hm,rfl⟩:=List.mem_map.1 h
    have:=hset x hx
    exact htgt x.toNat (by omega) m (List.mem_filter.1 hm).1
  refine call_fn (first:=[]) (caps:=[]) Try.func62 (by decide +kernel) c62 (Nat.le_of_ble_eq_true rfl) (CodeOk.mono (Q:=fun o e s'=>(o = .normal∨o = .jmp .ret)∧∃ R,GS s' s.n (e.at 6) R∧R.map (·.1)=grown B.next.length (fun q=>mvs B q a) t∧s.n≤s'.n∧∀ id,id<s.n→s'.get id=s.get id) ?_ fun o e s' hh=>by
    obtain ⟨h1,h2⟩:=hh
    exact ⟨h1,_,by simp [l62,resVal,resOne],h2⟩)
  have e0:(envOf ([]++[LV.agg [.int .i64 B.L,sv,nv],tv, .int .i64 (a:Int)]++[])).at 0 = .agg [.int .i64 B.L,sv,nv]:=by rw [envOf_at];rfl
  have e1:(envOf ([]++[LV.agg [.int .i64 B.L,sv,nv],tv, .int .i64 (a:Int)]++[])).at 1=tv:=by rw [envOf_at];rfl
  have e2:(envOf ([]++[LV.agg [.int .i64 B.L,sv,nv],tv, .int .i64 (a:Int)]++[])).at 2 = .int .i64 (a:Int):=by rw [envOf_at];rfl
  generalize envOf ([]++[LV.agg [.int .i64 B.L,sv,nv],tv, .int .i64 (a:Int)]++[])=e at *
  refine Cd.out ?_
  unfold l62
  dsimp only [jA,jG,qN,qF,qS,qI,qA,qB,qC,qO,qm,ql]
  repeat' (first | refine gN @htl ?_ | (refine gB @htl ?_;intro bb hbb;cases bb<;>(try simp only [hbs,if_false,reduceCtorEq] at hbb)<;>(try first | (exfalso;omega) | exact hbb.elim)) | fail)
  refine qc_loop (fun m e s1=>∃ (k:Nat) (v:LV) (R:List GR),m=t.length - k∧k≤t.length∧s.n≤s1.n∧GS s1 s.n v R∧R.map (·.1)=(t.take k).map (gnOld B.next.length fun q=>mvs B q a)∧(∀ id,id<s.n→s1.get id=s.get id)∧e.at 1=tv∧e.at 2 = .int .i64 (a:Int)∧e.at 3 = .pimm [.int .i64 B.L,sv,nv] 0∧e.at 7=v∧e.at 14=tv∧e.at 15 = .int .i64 (t.length:Int)∧e.at 16 = .int .i64 (k:Int)) _
    ⟨0, .nils,[],rfl,by omega,by omega,GS.nil _ _,by simp,fun id hid=>rfl,ef,ef,ef,ef,ef,ef,by simp only [lk,sv1,sv2,sv3,Nat.reduceEqDiff,Nat.reduceAdd,Nat.reduceLeDiff,reduceIte,if_false,if_true,mkVal,unLV,List.map,optTmps];rfl⟩ ?_
  clear e0 e1 e2
  clear e
  rintro m e s1 ⟨k,v,R,rfl,hk,hn1,hG,hRm,ho,e1,e2,e3,e7,e14,e15,e16⟩
  by_cases hkl:k<t.length
  · have hkI:(k:Int)<(t.length:Int):=by omega
    have hwk:IntKind.i64.wrap ((k:Int)+1)=((k+1:Nat):Int):=by rw [wrap_i64 _ (by omega) (by omega)];rfl
    have hld:=fun s=>ht.get hkl s
    have hnd:=ht.nd k hkl
    have htk:=take_one t default hkl
    have hmem:t.getD k default∈t:=by rw [List.getD_eq_getElem?_getD,List.getElem?_eq_getElem hkl];simp
    have hset:=hnd.set
    have hsvc:=hset.sl.cell
    generalize t.getD k default=n at *
    generalize (rs.getD k default).2.2=xv at *
    have hrc:=fun s=>hreach xv n.set hset (hr n hmem) (fun _=>true) _ gr1_ok s
    have hgB:=Bx.mk (And.intro hG (And.intro hRm (And.intro ho htk)))
    have hg1:((s1.new (.cells .mut [.int .i64 0, .int .i64 0, .nils])).put s1.n (.cells .mut [.int .i64 n.name, .int .i64 n.par,xv])).get s1.n=some (.cells .mut [.int .i64 n.name, .int .i64 n.par,xv]):=by rw [St.get_put,if_pos rfl]
    have hG1:=hG.mono (s':=(s1.new (.cells .mut [.int .i64 0, .int .i64 0, .nils])).put s1.n (.cells .mut [.int .i64 n.name, .int .i64 n.par,xv])) (by simp) fun id hid=>by rw [St.get_put,if_neg (by omega),St.get_new,if_neg (by omega)]
    have ho1:∀ id,id<s.n→((s1.new (.cells .mut [.int .i64 0, .int .i64 0, .nils])).put s1.n (.cells .mut [.int .i64 n.name, .int .i64 n.par,xv])).get id=s.get id:=fun id hid=>by rw [St.get_put,if_neg (by omega),St.get_new,if_neg (by omega)];exact ho id hid
    have hn2:((s1.new (.cells .mut [.int .i64 0, .int .i64 0, .nils])).put s1.n (.cells .mut [.int .i64 n.name, .int .i64 n.par,xv])).n=s1.n+1:=rfl
    have hGB:=Bx.mk (And.intro hG1 ho1)
    clear hG hRm ho htk hG1 ho1
    repeat' (first | refine gN (And.intro (@iaN _ _ _ ht.sl) @hld) ?_ | (refine gB (And.intro (@iaN _ _ _ ht.sl) @hld) ?_;intro bb hbb;cases bb<;>(try simp only [hbs,if_false,reduceCtorEq] at hbb)<;>(try first | (exfalso;omega) | exact hbb.elim)) | fail)
    generalize (s1.new (.cells .mut [.int .i64 0, .int .i64 0, .nils])).put s1.n (.cells .mut [.int .i64 n.name, .int .i64 n.par,xv])=s2 at *
    repeat' (first | refine gN @hg1 ?_ | (refine gB @hg1 ?_;intro bb hbb;cases bb<;>(try simp only [hbs,if_false,reduceCtorEq] at hbb)<;>(try first | (exfalso;omega) | exact hbb.elim)) | fail)
    refine q_call wN (fv:=.fn (.func 73) [] []) (vs:=[.agg [.int .i64 B.L,sv,nv],xv, .int .i64 (a:Int), .fn (.func 74) [] []]) ef (by simp only [List.map,lk,sv1,sv2,sv3,Nat.reduceEqDiff,Nat.reduceAdd,Nat.reduceLeDiff,reduceIte,if_false,if_true,mkVal,unLV,List.map,optTmps]) (CallOk.mono (hrc _) fun r s3 hh=>⟨trivial,?_⟩)
    obtain ⟨M,rfl,hM1,hM2,hM3,ho3⟩:=hh
    simp only [Env.put_some]
    have hg3:=(ho3 _ (by omega)).trans hg1
    have hG3:=hGB.out.1.mono (by omega) ho3
    have hM4:=hM3.mem (hcan n.set (fun _=>true) (hr n hmem))
    have hlt:∀ r∈R,r.2.2<M:=fun r hr=>by have:=hGB.out.1.at_lt r hr;omega
    have hsg:=hG3.sg
    have hRl:R.length≤3000:=by
      have:=congrArg List.length hgB.out.2.1
      simp only [List.length_map,List.length_take] at this
      omega
    have hRB:=Bx.mk (And.intro hG3 (And.intro hM4 (And.intro hlt hset)))
    clear hrc hM3 hG3 hM4 hlt hset
    repeat' (first | refine gN @hg3 ?_ | (refine gB @hg3 ?_;intro bb hbb;cases bb<;>(try simp only [hbs,if_false,reduceCtorEq] at hbb)<;>(try first | (exfalso;omega) | exact hbb.elim)) | fail)
    refine u_build (vs:=grow (gnOld B.next.length (fun q=>mvs B q a) n,xv,M)) wN (by simp [evParts,lk,sv1,sv2,sv3,Nat.reduceEqDiff,Nat.reduceAdd,Nat.reduceLeDiff,reduceIte,if_false,if_true,mkVal,unLV,List.map,optTmps,fillParts,cells_nd _ _ hsvc,cells_mref,cells_bool,cells_int,splice,grow,gnOld]) ?_
    refine q_appG (n:=R.length) (esz:=7) (xv:=.agg (grow (gnOld B.next.length (fun q=>mvs B q a) n,xv,M))) (yv:=v) (vs:=grow (gnOld B.next.length (fun q=>mvs B q a) n,xv,M)) (cells:=wcl grow R) ef (cells_grow _ hsvc) rfl rfl (Stays.mref (M:=M) (by simp [grow])) ef hsg (by decide) (by omega) (fun s4 j a1 a2 a3 a4 a5 a6=>?_)
    have hG5:=hRB.out.1.snoc (g:=gnOld B.next.length (fun q=>mvs B q a) n) hRB.out.2.1 hRB.out.2.2.1 ⟨by omega,hM2⟩ hRB.out.2.2.2 a1 a4 a5 a6
    have ho5:∀ id,id<s.n→s4.get id=s.get id:=fun id hid=>by
      rw [a6 id (by omega) fun hu=>by have:=hRB.out.1.low.1 id hu;omega,ho3 id (by omega)]
      exact hGB.out.2 id hid
    have hfB:=Bx.mk (And.intro hG5 ho5)
    clear hG5 ho5 a3 a4 a6 hRB hGB hsg hg3 hg1 ho3
    repeat' (first | refine gN @hwk ?_ | (refine gB @hwk ?_;intro bb hbb;cases bb<;>(try simp only [hbs,if_false,reduceCtorEq] at hbb)<;>(try first | (exfalso;omega) | exact hbb.elim)) | fail)
    refine ⟨t.length - (k+1),by omega,k+1,_,_,rfl,by omega,by omega,hfB.out.1,?_,hfB.out.2,?_⟩
    · rw [List.map_append,hgB.out.2.1,hgB.out.2.2.2,List.map_append];rfl
    · simp only [lk,sv1,sv2,sv3,Nat.reduceEqDiff,Nat.reduceAdd,Nat.reduceLeDiff,reduceIte,if_false,if_true,mkVal,unLV,List.map,optTmps,hwk,e1,e2,e3,e14,e15,and_self]
  · have hk':k=t.length:=by omega
    subst hk'
    rw [List.take_length] at hRm
    have hgB:=Bx.mk (And.intro hG (And.intro hRm ho))
    clear hG hRm ho
    repeat' (first | refine gN @htl ?_ | (refine gB @htl ?_;intro bb hbb;cases bb<;>(try simp only [hbs,if_false,reduceCtorEq] at hbb)<;>(try first | (exfalso;omega) | exact hbb.elim)) | fail)
    refine qc_loop (fun m e s2=>∃ (k:Nat) (v:LV) (R:List GR),m=t.length - k∧k≤t.length∧s.n≤s2.n∧GS s2 s.n v R∧R.map (·.1)=t.map (gnOld B.next.length fun q=>mvs B q a)++(t.take k).mapIdx (gnNew B.next.length fun q=>mvs B q a)∧(∀ id,id<s.n→s2.get id=s.get id)∧e.at 2 = .int .i64 (a:Int)∧e.at 3 = .pimm [.int .i64 B.L,sv,nv] 0∧e.at 7=v∧e.at 32=tv∧e.at 33 = .int .i64 (t.length:Int)∧e.at 34 = .int .i64 (k:Int)) _
      ⟨0,v,R,rfl,by omega,hn1,hgB.out.1,by rw [hgB.out.2.1];simp,hgB.out.2.2,ef,ef,ef,ef,ef,by simp only [lk,sv1,sv2,sv3,Nat.reduceEqDiff,Nat.reduceAdd,Nat.reduceLeDiff,reduceIte,if_false,if_true,mkVal,unLV,List.map,optTmps];rfl⟩ ?_
    clear e1 e2 e3 e7 e14 e15 e16 hgB hn1 hkl hbb
    clear e s1 v R
    rintro m e s1 ⟨k,v,R,rfl,hk,hn1,hG,hRm,ho,e2,e3,e7,e32,e33,e34⟩
    by_cases hkl:k<t.length
    · have hkI:(k:Int)<(t.length:Int):=by omega
      have hwk:IntKind.i64.wrap ((k:Int)+1)=((k+1:Nat):Int):=by rw [wrap_i64 _ (by omega) (by omega)];rfl
      have hld:=fun s=>ht.get hkl s
      have hnd:=ht.nd k hkl
      have htk:=take_one t default hkl
      have hmem:t.getD k default∈t:=by rw [List.getD_eq_getElem?_getD,List.getElem?_eq_getElem hkl];simp
      have hset:=hnd.set
      have hsvc:=hset.sl.cell
      generalize t.getD k default=n at *
      generalize (rs.getD k default).2.2=xv at *
      have hrc:=fun s=>hreach xv n.set hset (hr n hmem) (fun m=>m.2) _ gr2_ok s
      have hgB:=Bx.mk (And.intro hG (And.intro hRm (And.intro ho htk)))
      have hg1:((s1.new (.cells .mut [.int .i64 0, .int .i64 0, .nils])).put s1.n (.cells .mut [.int .i64 n.name, .int .i64 n.par,xv])).get s1.n=some (.cells .mut [.int .i64 n.name, .int .i64 n.par,xv]):=by rw [St.get_put,if_pos rfl]
      have hG1:=hG.mono (s':=(s1.new (.cells .mut [.int .i64 0, .int .i64 0, .nils])).put s1.n (.cells .mut [.int .i64 n.name, .int .i64 n.par,xv])) (by simp) fun id hid=>by rw [St.get_put,if_neg (by omega),St.get_new,if_neg (by omega)]
      have ho1:∀ id,id<s.n→((s1.new (.cells .mut [.int .i64 0, .int .i64 0, .nils])).put s1.n (.cells .mut [.int .i64 n.name, .int .i64 n.par,xv])).get id=s.get id:=fun id hid=>by rw [St.get_put,if_neg (by omega),St.get_new,if_neg (by omega)];exact ho id hid
      have hn2:((s1.new (.cells .mut [.int .i64 0, .int .i64 0, .nils])).put s1.n (.cells .mut [.int .i64 n.name, .int .i64 n.par,xv])).n=s1.n+1:=rfl
      have hGB:=Bx.mk (And.intro hG1 ho1)
      clear hG hRm ho htk hG1 ho1
      repeat' (first | refine gN (And.intro (@iaN _ _ _ ht.sl) @hld) ?_ | (refine gB (And.intro (@iaN _ _ _ ht.sl) @hld) ?_;intro bb hbb;cases bb<;>(try simp only [hbs,if_false,reduceCtorEq] at hbb)<;>(try first | (exfalso;omega) | exact hbb.elim)) | fail)
      generalize (s1.new (.cells .mut [.int .i64 0, .int .i64 0, .nils])).put s1.n (.cells .mut [.int .i64 n.name, .int .i64 n.par,xv])=s2 at *
      repeat' (first | refine gN @hg1 ?_ | (refine gB @hg1 ?_;intro bb hbb;cases bb<;>(try simp only [hbs,if_false,reduceCtorEq] at hbb)<;>(try first | (exfalso;omega) | exact hbb.elim)) | fail)
      refine q_call wN (fv:=.fn (.func 73) [] []) (vs:=[.agg [.int .i64 B.L,sv,nv],xv, .int .i64 (a:Int), .fn (.func 75) [] []]) ef (by simp only [List.map,lk,sv1,sv2,sv3,Nat.reduceEqDiff,Nat.reduceAdd,Nat.reduceLeDiff,reduceIte,if_false,if_true,mkVal,unLV,List.map,optTmps]) (CallOk.mono (hrc _) fun r s3 hh=>⟨trivial,?_⟩)
      obtain ⟨M,rfl,hM1,hM2,hM3,ho3⟩:=hh
      simp only [Env.put_some]
      have hg3:=(ho3 _ (by omega)).trans hg1
      have hG3:=hGB.out.1.mono (by omega) ho3
      have hM4:=hM3.mem (hcan n.set (fun m=>m.2) (hr n hmem))
      have hlt:∀ r∈R,r.2.2<M:=fun r hr=>by have:=hGB.out.1.at_lt r hr;omega
      have hsg:=hG3.sg
      have hRl:R.length≤6000:=by
        have:=congrArg List.length hgB.out.2.1
        simp only [List.length_map,List.length_append,List.length_mapIdx,List.length_take] at this
        omega
      have hRB:=Bx.mk (And.intro hG3 (And.intro hM4 hlt))
      clear hrc hM3 hG3 hM4 hlt hset
      repeat' (first | refine gN @hg3 ?_ | (refine gB @hg3 ?_;intro bb hbb;cases bb<;>(try simp only [hbs,if_false,reduceCtorEq] at hbb)<;>(try first | (exfalso;omega) | exact hbb.elim)) | fail)
      refine u_build (vs:=[.int .i64 0, .int .i64 (k:Int), .nils]) wN (by simp [evParts,lk,sv1,sv2,sv3,Nat.reduceEqDiff,Nat.reduceAdd,Nat.reduceLeDiff,reduceIte,if_false,if_true,mkVal,unLV,List.map,optTmps,fillParts,cells_mref,cells_bool,cells_int,splice]) ?_
      repeat' (first | refine gN @hg3 ?_ | (refine gB @hg3 ?_;intro bb hbb;cases bb<;>(try simp only [hbs,if_false,reduceCtorEq] at hbb)<;>(try first | (exfalso;omega) | exact hbb.elim)) | fail)
      refine u_build (vs:=grow (gnNew B.next.length (fun q=>mvs B q a) k n, .nils,M)) wN (by simp [evParts,lk,sv1,sv2,sv3,Nat.reduceEqDiff,Nat.reduceAdd,Nat.reduceLeDiff,reduceIte,if_false,if_true,mkVal,unLV,List.map,optTmps,fillParts,cells_nd (v:=.nils) _ _ rfl,cells_mref,cells_bool,cells_int,splice,grow,gnNew]) ?_
      refine q_appG (n:=R.length) (esz:=7) (xv:=.agg (grow (gnNew B.next.length (fun q=>mvs B q a) k n, .nils,M))) (yv:=v) (vs:=grow (gnNew B.next.length (fun q=>mvs B q a) k n, .nils,M)) (cells:=wcl grow R) ef (cells_grow _ rfl) rfl rfl (Stays.mref (M:=M) (by simp [grow])) ef hsg (by decide) (by omega) (fun s4 j a1 a2 a3 a4 a5 a6=>?_)
      have hnil:IsInts .nils (gnNew B.next.length (fun q=>mvs B q a) k n).set:=⟨.nil,by simp [gnNew],fun x hx=>by simp [gnNew] at hx⟩
      have hG5:=hRB.out.1.snoc (g:=gnNew B.next.length (fun q=>mvs B q a) k n) hRB.out.2.1 hRB.out.2.2 ⟨by omega,hM2⟩ hnil a1 a4 a5 a6
      have ho5:∀ id,id<s.n→s4.get id=s.get id:=fun id hid=>by
        rw [a6 id (by omega) fun hu=>by have:=hRB.out.1.low.1 id hu;omega,ho3 id (by omega)]
        exact hGB.out.2 id hid
      have hfB:=Bx.mk (And.intro hG5 ho5)
      clear hG5 ho5 a3 a4 a6 hRB hGB hsg hg3 hg1 ho3 hnil
      repeat' (first | refine gN @hwk ?_ | (refine gB @hwk ?_;intro bb hbb;cases bb<;>(try simp only [hbs,if_false,reduceCtorEq] at hbb)<;>(try first | (exfalso;omega) | exact hbb.elim)) | fail)
      refine ⟨t.length - (k+1),by omega,k+1,_,_,rfl,by omega,by omega,hfB.out.1,?_,hfB.out.2,?_⟩
      · have hdl:(t.take k).length=k:=by rw [List.length_take];omega
        rw [List.map_append,hgB.out.2.1,hgB.out.2.2.2,mapIdx_snoc,hdl,List.append_assoc];rfl
      · simp only [lk,sv1,sv2,sv3,Nat.reduceEqDiff,Nat.reduceAdd,Nat.reduceLeDiff,reduceIte,if_false,if_true,mkVal,unLV,List.map,optTmps,hwk,e2,e3,e32,e33,and_self]
    · have hk':k=t.length:=by omega
      subst hk'
      rw [List.take_length] at hRm
      have hgB:=Bx.mk (And.intro hG (And.intro hRm ho))
      clear hG hRm ho
      repeat' (first | refine gN trivial ?_ | (refine gB trivial ?_;intro bb hbb;cases bb<;>(try simp only [hbs,if_false,reduceCtorEq] at hbb)<;>(try first | (exfalso;omega) | exact hbb.elim)) | fail)
      refine ⟨.inr trivial,R,?_,hgB.out.2.1,hn1,hgB.out.2.2⟩
      simp only [lk,sv1,sv2,sv3,Nat.reduceEqDiff,Nat.reduceAdd,Nat.reduceLeDiff,reduceIte,if_false,if_true,mkVal,unLV,List.map,optTmps,e7]
      exact hgB.out.1
end Go.Proofs.Ytkbiecjdcjfhaaa
