/- search.parts' visit: the recursive search for the parts. -/
import Derived.Test.YtmblpcidfjemhaaDoorSway
import Derived.Test.YtmblpcidfjemhaaDoorSmall
set_option linter.unusedSimpArgs false
set_option linter.unusedVariables false
namespace Go.Proofs.YtmblpcidfjemhaaDoor
open Go Go.Pv Go.Aut Go.Tarjan
open Classical
def nxB (B:Bu) (q:Nat):List Nat:=(Fnd.sucs (bmv B) B.L.toNat q).map (·.1)
theorem psuc_pre {r:List Moves} {q:Nat} : ∀ (d a k:Nat),a<r.length→d=r.length - a→k≤(r.getD a []).length→∃ t,psuc r q r.length 0=psuc r q a k++t:=by
  intro d
  induction d with
  | zero=>intro a k h1 h2;omega
  | succ d ih=>
    intro a k h1 h2 h3
    have h4:∃ t,psuc r q a (r.getD a []).length=psuc r q a k++t:=by
      refine ⟨((r.getD a []).drop k).map fun m=>(m.1.toNat,(q:Int),a),?_⟩
      unfold psuc
      rw [List.take_length,List.append_assoc,← List.map_append,List.take_append_drop]
    obtain ⟨t,ht⟩:=h4
    rw [← psuc_row] at ht
    by_cases ha:a+1<r.length
    · obtain ⟨t',ht'⟩:=ih (a+1) 0 ha (by omega) (Nat.zero_le _)
      exact ⟨t++t',by rw [ht',ht,List.append_assoc]⟩
    · have:r.length=a+1:=by omega
      exact ⟨t,by rw [this];exact ht⟩
theorem nxB_all {B:Bu} (hok:Vb B) {q:Nat} (hq:q<B.next.length):nxB B q=(psuc (B.next.getD q []) q (B.next.getD q []).length 0).map (·.1):=by
  unfold nxB
  rw [row_lenB hok hq,psuc_all]
theorem nxB_get {B:Bu} (hok:Vb B) {q a k:Nat} (hq:q<B.next.length) (ha:a<(B.next.getD q []).length) (hk:k<((B.next.getD q []).getD a []).length):(nxB B q)[(psuc (B.next.getD q []) q a k).length]? = some (((B.next.getD q []).getD a []).getD k (0,false)).1.toNat:=by
  rw [nxB_all hok hq]
  obtain ⟨t,ht⟩:=psuc_pre (r:=B.next.getD q []) (q:=q) _ a (k+1) ha rfl hk
  rw [ht,psuc_next hk,List.getElem?_map,List.getElem?_append_left (by simp),List.getElem?_append_right (Nat.le_refl _),Nat.sub_self]
  rfl
structure VS (n:Nat) (vis:LV) (T:S) (s:St) (kv:LV):Prop where
  n9:9≤s.n
  g0:s.get 0=some (.cells .mut (fcells n T.part))
  g1:s.get 1=some (.cells .mut [.sref 0 0 n 1])
  g2:s.get 2=some (.cells .mut (fcells n T.idx))
  g3:s.get 3=some (.cells .mut [.sref 2 0 n 1])
  g4:s.get 4=some (.cells .mut (fcells n T.low))
  g5:s.get 5=some (.cells .mut [.sref 4 0 n 1])
  g6:s.get 6=some (.cells .mut [kv])
  g7:s.get 7=some (.cells .mut [.int .i64 (T.cnt:Int)])
  g8:s.get 8=some (.cells .mut [vis])
  sk:Sk s kv T.stack
  low:∀ id,uses kv id→9≤id
theorem VS.turn {n:Nat} {vis:LV} {T T':S} {s s':St} {kv:LV} (h:VS n vis T s kv) (hn:s.n≤s'.n) (g0:s'.get 0=some (.cells .mut (fcells n T'.part))) (g2:s'.get 2=some (.cells .mut (fcells n T'.idx))) (g4:s'.get 4=some (.cells .mut (fcells n T'.low))) (g7:s'.get 7=some (.cells .mut [.int .i64 (T'.cnt:Int)]))
    (ho:∀ id,id≠0→id≠2→id≠4→id≠7→id<s.n→s'.get id=s.get id) (hs:T'.stack=T.stack):VS n vis T' s' kv:=
  have h9:=h.n9
  ⟨by omega,g0,(ho 1 (by omega) (by omega) (by omega) (by omega) (by omega)).trans h.g1,g2,(ho 3 (by omega) (by omega) (by omega) (by omega) (by omega)).trans h.g3,g4,(ho 5 (by omega) (by omega) (by omega) (by omega) (by omega)).trans h.g5,
    (ho 6 (by omega) (by omega) (by omega) (by omega) (by omega)).trans h.g6,g7,(ho 8 (by omega) (by omega) (by omega) (by omega) (by omega)).trans h.g8,by rw [hs];exact h.sk.mono hn fun id hu=>by have:=h.low id hu;exact ho id (by omega) (by omega) (by omega) (by omega) (h.sk.lt hu),h.low⟩
theorem VS.keep {n:Nat} {vis:LV} {T:S} {s s':St} {kv:LV} (h:VS n vis T s kv) (hn:s.n≤s'.n) (ho:∀ id,id<s.n→s'.get id=s.get id):VS n vis T s' kv:=
  have h9:=h.n9
  h.turn hn ((ho 0 (by omega)).trans h.g0) ((ho 2 (by omega)).trans h.g2) ((ho 4 (by omega)).trans h.g4) ((ho 7 (by omega)).trans h.g7) (fun id _ _ _ _ hid=>ho id hid) rfl
theorem VS.congr {n:Nat} {vis:LV} {T T':S} {s:St} {kv:LV} (h:VS n vis T s kv) (h1:T'.part=T.part) (h2:T'.idx=T.idx) (h3:T'.low=T.low) (h4:T'.cnt=T.cnt) (h5:T'.stack=T.stack):VS n vis T' s kv:=
  h.turn (Nat.le_refl _) (by rw [h1];exact h.g0) (by rw [h2];exact h.g2) (by rw [h3];exact h.g4) (by rw [h4];exact h.g7) (fun _ _ _ _ _ _=>rfl) h5
theorem VS.box {n:Nat} {vis:LV} {T T':S} {s s1:St} {kv kv':LV} (h:VS n vis T s kv) (hn:s.n≤s1.n) (ho:∀ id,id<9→id≠6→s1.get id=s.get id) (g6:s1.get 6=some (.cells .mut [kv'])) (hk:Sk s1 kv' T'.stack) (hlow:∀ id,uses kv' id→9≤id)
    (h1:T'.part=T.part) (h2:T'.idx=T.idx) (h3:T'.low=T.low) (h4:T'.cnt=T.cnt):VS n vis T' s1 kv' :=
  have h9:=h.n9
  ⟨by omega,by rw [h1];exact (ho 0 (by omega) (by omega)).trans h.g0,(ho 1 (by omega) (by omega)).trans h.g1,by rw [h2];exact (ho 2 (by omega) (by omega)).trans h.g2,(ho 3 (by omega) (by omega)).trans h.g3,by rw [h3];exact (ho 4 (by omega) (by omega)).trans h.g4,(ho 5 (by omega) (by omega)).trans h.g5,g6,by rw [h4];exact (ho 7 (by omega) (by omega)).trans h.g7,(ho 8 (by omega) (by omega)).trans h.g8,hk,hlow⟩
def VP (T0:S) (ent0:List Nat) (T:S) (ent:List Nat):Prop:=T.path=T0.path∧ent0.length≤ent.length∧(∀ w,T0.idx w≠0→T.idx w≠0)∧∀ w∈T0.path,T.done w=T0.done w
def VE (v:Nat) (bv:List LV) (e:Env):Prop:=e.at 0 = .int .i64 (v:Int)∧e.at 1 = .pref 7 0∧e.at 2 = .pref 3 0∧e.at 3 = .pref 5 0∧e.at 4 = .pref 6 0∧e.at 5 = .pimm bv 0∧e.at 6 = .pref 8 0∧e.at 7 = .pref 1 0
def FRM (s:St) (kv:LV) (s':St) (kv':LV):Prop:=s.n≤s'.n∧(∀ id,9≤id→id<s.n→¬ uses kv id→s'.get id=s.get id)∧∀ id,uses kv' id→uses kv id∨s.n≤id
theorem FRM.refl (s:St) (kv:LV):FRM s kv s kv:=⟨Nat.le_refl _,fun _ _ _ _=>rfl,fun _ h=>.inl h⟩
theorem FRM.trans {s s1 s2:St} {kv k1 k2:LV} (h:FRM s kv s1 k1) (h':FRM s1 k1 s2 k2):FRM s kv s2 k2:=by
  obtain ⟨a1,a2,a3⟩:=h
  obtain ⟨b1,b2,b3⟩:=h'
  refine ⟨by omega,fun id h9 hid hu=>(b2 id h9 (by omega) fun hu'=>?_).trans (a2 id h9 hid hu),fun id hu=>?_⟩
  · rcases a3 id hu' with h | h
    · exact hu h
    · omega
  · rcases b3 id hu with h | h
    · rcases a3 id h with h | h
      · exact .inl h
      · exact .inr h
    · exact .inr (by omega)
theorem FRM.keep {s s1:St} {kv:LV} (hn:s.n≤s1.n) (h:∀ id,9≤id→id<s.n→s1.get id=s.get id):FRM s kv s1 kv:=⟨hn,fun id h9 hid _=>h id h9 hid,fun _ h=>.inl h⟩
def VL (T0:S) (ent0:List Nat) (v d:Nat) (T:S) (ent:List Nat):Prop:=T.path=T0.path++[v]∧ent0.length+1≤ent.length∧(∀ w,T0.idx w≠0→T.idx w≠0)∧(∀ w∈T0.path,T.done w=T0.done w)∧T.done v=d
theorem stack_le {n:Nat} {nx:Nat→List Nat} {T:S} (hI:Inv n nx T):T.stack.length≤n:=by
  have hnd:T.stack.Nodup:=by
    rw [List.nodup_iff_pairwise_ne]
    exact hI.srt.imp fun h e=>by rw [e] at h;exact Nat.lt_irrefl _ h
  exact Go.Aut.pig n T.stack hnd fun x hx=>(hI.rng x ((hI.mem x).1 hx).1).1
set_option maxHeartbeats 16000000 in
theorem visit_ok {v0:LV} {B:Bu} {sv nv:LV} (hB:IsB v0 B sv nv) (hok:Vb B) {vis:LV} (hvis:vis = .fn (.func 37) [] [.pref 7 0, .pref 3 0, .pref 5 0, .pref 6 0, .pimm [.int .i64 B.L,sv,nv] 0, .pref 8 0, .pref 1 0]) :
    ∀ (f:Nat) (T:S) (ent:List Nat) (s:St) (kv:LV) (v:Nat),f=B.next.length - ent.length→Inv B.next.length (nxB B) T→En B.next.length T ent→VS B.next.length vis T s kv→v<B.next.length→T.idx v=0→(T.path=[]∨∃ l p,T.path=l++[p]∧(nxB B p)[T.done p]? = some v) →
      CallOk Tryd.prog GL vis [.int .i64 (v:Int)] s (fun _ s'=>∃ T' ent' kv',Inv B.next.length (nxB B) T'∧En B.next.length T' ent'∧VS B.next.length vis T' s' kv'∧T'.idx v≠0∧VP T ent T' ent'∧FRM s kv s' kv'):=by
  obtain ⟨rfl,hst',vs,hn⟩:=hB
  have hc1:=hst'.sl.cell
  have hc2:=hn.sl.cell
  have hnl:=hn.sl.len
  have hn3:=hok.2.2.1
  obtain ⟨n,hnn⟩:∃ n,B.next.length=n:=⟨_,rfl⟩
  intro f
  induction f using Nat.strongRecOn with
  | ind f IH=>
  intro T ent s kv v hf hI hE hS hv hv0 hpt
  rw [hnn] at hf hI hE hS hv hn3 ⊢
  have IH':∀ (T:S) (ent:List Nat) (s:St) (kv:LV) (v:Nat),n - ent.length<f→Inv n (nxB B) T→En n T ent→VS n vis T s kv→v<n→T.idx v=0→(T.path=[]∨∃ l p,T.path=l++[p]∧(nxB B p)[T.done p]? = some v) →
      CallOk Tryd.prog GL vis [.int .i64 (v:Int)] s (fun _ s'=>∃ T' ent' kv',Inv n (nxB B) T'∧En n T' ent'∧VS n vis T' s' kv'∧T'.idx v≠0∧VP T ent T' ent'∧FRM s kv s' kv'):=fun T ent s kv v h=>by
    have:=IH (n - ent.length) h T ent s kv v
    rw [hnn] at this
    exact this rfl
  clear IH
  have hlss:=hE.less hv hv0
  have hcnt:=hE.len
  have hvI:(v:Int)<(n:Int):=by omega
  have hwc:IntKind.i64.wrap ((T.cnt:Int)+1)=((T.cnt+1:Nat):Int):=by rw [wrap_i64 _ (by omega) (by omega)];rfl
  subst hvis
  refine call_fn (first:=[]) (caps:=[.pref 7 0, .pref 3 0, .pref 5 0, .pref 6 0, .pimm [.int .i64 B.L,sv,nv] 0, .pref 8 0, .pref 1 0]) Tryd.func37 (by decide +kernel) c37 (Nat.le_of_ble_eq_true rfl) (CodeOk.mono (Q:=fun o e s'=>(o = .normal∨o = .jmp .ret)∧∃ T' ent' kv',Inv n (nxB B) T'∧En n T' ent'∧VS n _ T' s' kv'∧T'.idx v≠0∧VP T ent T' ent'∧FRM s kv s' kv') ?_ fun o e s' hh=>by
    exact ⟨hh.1, .tup [],by simp [l37,resVal],hh.2⟩)
  have hVE:VE v [.int .i64 B.L,sv,nv] (envOf ([]++[.int .i64 (v:Int)]++[.pref 7 0, .pref 3 0, .pref 5 0, .pref 6 0, .pimm [.int .i64 B.L,sv,nv] 0, .pref 8 0, .pref 1 0])):=by
    refine ⟨?_,?_,?_,?_,?_,?_,?_,?_⟩<;>(rw [envOf_at];rfl)
  generalize envOf ([]++[.int .i64 (v:Int)]++[.pref 7 0, .pref 3 0, .pref 5 0, .pref 6 0, .pimm [.int .i64 B.L,sv,nv] 0, .pref 8 0, .pref 1 0])=e at *
  obtain ⟨e0,e1,e2,e3,e4,e5,e6,e7⟩:=hVE
  refine Cd.out ?_
  unfold l37
  dsimp only [jA,jB,jG,jH,qM,qL,qN,qF,qS,qI,qA,qB,qC,qm,ql]
  generalize hvis:LV.fn (.func 37) [] [.pref 7 0, .pref 3 0, .pref 5 0, .pref 6 0, .pimm [.int .i64 B.L,sv,nv] 0, .pref 8 0, .pref 1 0]=vis at *
  have h9:=hS.n9
  have g7:=hS.g7
  repeat' (first | refine gA @hwc ?_ | (refine gB @hwc ?_;intro bb hbb;cases bb<;>(try simp only [hbs,if_false,reduceCtorEq] at hbb)) | fail)
  rw [hwc]
  generalize hs1:s.put 7 (.cells .mut [.int .i64 ((T.cnt+1:Nat):Int)])=s1
  have n1:s1.n=s.n:=by rw [← hs1];rfl
  have o1:∀ id,id≠7→s1.get id=s.get id:=fun id h=>by rw [← hs1,St.get_put,if_neg h]
  have g71:s1.get 7=some (.cells .mut [.int .i64 ((T.cnt+1:Nat):Int)]):=by rw [← hs1,St.get_put,if_pos rfl]
  have g31:=(o1 3 (by omega)).trans hS.g3
  have g51:=(o1 5 (by omega)).trans hS.g5
  have g21:=(o1 2 (by omega)).trans hS.g2
  have g41:=(o1 4 (by omega)).trans hS.g4
  clear hs1 g7
  repeat' (first | refine gA (And.intro @iaS @hwc) ?_ | (refine gB (And.intro @iaS @hwc) ?_;intro bb hbb;cases bb<;>(try simp only [hbs,if_false,reduceCtorEq] at hbb)) | fail)
  refine q_storeFk (i:=2) (v:=v) (n:=n) (y:=T.cnt+1) (f:=T.idx) (f':=(T.enter v).idx) (by simp only [lk,sv1,sv2,sv3,Nat.reduceEqDiff,Nat.reduceAdd,Nat.reduceLeDiff,reduceIte,if_false,if_true,mkVal,unLV,List.map,optTmps,Nat.zero_add,Nat.mul_one]) ef g21 hv (fun j=>rfl) (fun s' h=>?_) (fun s2 n2 h2 o2=>?_)
  · have k5:=(h 5 (by omega)).trans g51
    have k7:=(h 7 (by omega)).trans g71
    simp only [Chks,wantedG,LOp.run,lk,sv1,sv2,sv3,Nat.reduceEqDiff,Nat.reduceAdd,Nat.reduceLeDiff,reduceIte,if_false,if_true,mkVal,unLV,List.map,optTmps,e1,e3]
    simp [k5,k7,mkVal]
  have g42:=(o2 4 (by omega)).trans g41
  repeat' (first | refine gA (And.intro @iaS @hwc) ?_ | (refine gB (And.intro @iaS @hwc) ?_;intro bb hbb;cases bb<;>(try simp only [hbs,if_false,reduceCtorEq] at hbb)) | fail)
  refine q_storeF (i:=4) (v:=v) (n:=n) (y:=T.cnt+1) (f:=T.low) (f':=(T.enter v).low) (by simp only [lk,sv1,sv2,sv3,Nat.reduceEqDiff,Nat.reduceAdd,Nat.reduceLeDiff,reduceIte,if_false,if_true,mkVal,unLV,List.map,optTmps,Nat.zero_add,Nat.mul_one]) ef g42 hv (fun j=>rfl) (fun s3 n3 h3 o3=>?_)
  have hS3:VS n vis ⟨(T.enter v).idx,(T.enter v).low,T.part,T.done,T.cnt+1,T.stack,T.path⟩ s3 kv:=
    hS.turn (by omega) (by rw [o3 0 (by omega),o2 0 (by omega),o1 0 (by omega)];exact hS.g0) (by rw [o3 2 (by omega)];exact h2) h3 (by rw [o3 7 (by omega),o2 7 (by omega)];exact g71) (fun id a b c d hid=>by rw [o3 id c,o2 id b,o1 id d]) rfl
  have g63:=hS3.g6
  clear g71 g31 g51 g21 g41 g42 h2 h3
  repeat' (first | refine gA trivial ?_ | (refine gB trivial ?_;intro bb hbb;cases bb<;>(try simp only [hbs,if_false,reduceCtorEq] at hbb)) | fail)
  have hsl:=stack_le hI
  refine q_app1 (v:=v) (ls:=T.stack) ef ef hS3.sk (by omega) (fun s4 j4 k1 k2 k3 k4=>?_)
  have g64:s4.get 6=some (.cells .mut [kv]):=(k4 6 (by omega) fun hu=>by have:=hS3.low _ hu;omega).trans g63
  repeat' (first | refine gA trivial ?_ | (refine gB trivial ?_;intro bb hbb;cases bb<;>(try simp only [hbs,if_false,reduceCtorEq] at hbb)) | fail)
  have hN4:VS n vis (T.enter v) (s4.put 6 (.cells .mut [.sref j4 0 (T.stack.length+1) 1])) (.sref j4 0 (T.stack.length+1) 1):=by
    refine hS3.box (by have:s4.n=(s4.put 6 (.cells .mut [.sref j4 0 (T.stack.length+1) 1])).n:=rfl;omega) (fun id h1 h2=>?_) (by rw [St.get_put,if_pos rfl]) ?_ (fun id hu=>by have:=uses_sref.1 hu;omega) rfl rfl rfl rfl
    · rw [St.get_put,if_neg h2,k4 id (by omega) fun hu=>by have:=hS3.low _ hu;omega]
    · refine .inr ⟨j4,[],by simp [S.enter],by rw [St.n_put];omega,?_⟩
      rw [St.get_put,if_neg (by omega),k3]
      simp [S.enter]
  have hI4:=hI.enter hv hv0 hpt
  have hE4:=hE.enter hv hv0
  have hvP:v ∉ T.path:=fun h=>((hI.mem v).1 (hI.psub v h)).1 hv0
  have hVL4:VL T ent v 0 (T.enter v) (v::ent):=⟨rfl,by simp,fun w hw=>by
    by_cases e:w=v
    · subst e;simp [S.enter]
    · simp only [S.enter,upd_other _ _ e];exact hw,fun w _=>rfl,hI.fresh v hv0⟩
  have hF4:FRM s kv (s4.put 6 (.cells .mut [.sref j4 0 (T.stack.length+1) 1])) (.sref j4 0 (T.stack.length+1) 1):=⟨by rw [St.n_put];omega,fun id h9 hid hu=>by
    rw [St.get_put,if_neg (by omega),k4 id (by omega) hu,o3 id (by omega),o2 id (by omega),o1 id (by omega)],fun id hu=>.inr (by have:=uses_sref.1 hu;omega)⟩
  generalize s4.put 6 (.cells .mut [.sref j4 0 (T.stack.length+1) 1])=s5 at *
  generalize LV.sref j4 0 (T.stack.length+1) 1=k5 at *
  generalize hT5:T.enter v=T5 at *
  generalize he5:v::ent=ent5 at *
  have g1:vs[v]? = some (vs.getD v .top):=hn.get (by omega)
  obtain ⟨ws,hr⟩:=hn.row v (by omega)
  have hmv0:=(hok.2.2.2.2 v (by omega)).2
  have hLI:B.L=((B.next.getD v []).length:Int):=((hok.2.2.2.2 v (by omega)).1).symm
  have hL64:=hok.2.1
  have hng:=fun a c ha hc=>nxB_get hok (q:=v) (a:=a) (k:=c) (by omega) ha hc
  have hna:=nxB_all hok (q:=v) (by omega)
  have hrl:=hr.sl.len
  have hpr:=psuc_row (B.next.getD v []) v
  have hpn:=fun a c (hc:c<((B.next.getD v []).getD a []).length)=>psuc_next (r:=B.next.getD v []) (q:=v) (a:=a) hc
  generalize hrow:B.next.getD v []=row at *
  generalize hrv:vs.getD v .top=rv at *
  rw [hnn] at hmv0
  have hiav:∀ s,iaLV 1 nv (.int .i64 (v:Int)) s=some (.pimm vs v,s):=fun s=>by
    have:=iaN (esz:=1) (k:=.i64) (s:=s) (i:=v) hn.sl (by omega)
    simpa using this
  repeat' (first | refine gA (And.intro @hiav (And.intro @g1 @hrl)) ?_ | (refine gB (And.intro @hiav (And.intro @g1 @hrl)) ?_;intro bb hbb;cases bb<;>(try simp only [hbs,if_false,reduceCtorEq] at hbb)) | fail)
  refine qc_loop (fun m e s1=>∃ (a:Nat) (T':S) (ent':List Nat) (kv':LV),m=row.length - a∧a≤row.length∧Inv n (nxB B) T'∧En n T' ent'∧VS n vis T' s1 kv'∧VL T ent v (psuc row v a 0).length T' ent'∧FRM s kv s1 kv'∧VE v [.int .i64 B.L,sv,nv] e∧e.at 32=rv∧e.at 33 = .int .i64 (row.length:Int)∧e.at 34 = .int .i64 (a:Int)) _
    ⟨0,T5,ent5,k5,rfl,by omega,hI4,hE4,hN4,hVL4,hF4,by simp only [VE,lk,sv1,sv2,sv3,Nat.reduceEqDiff,Nat.reduceAdd,Nat.reduceLeDiff,reduceIte,if_false,if_true,mkVal,unLV,List.map,optTmps,e0,e1,e2,e3,e4,e5,e6,e7,and_self],ef,ef,by simp only [lk,sv1,sv2,sv3,Nat.reduceEqDiff,Nat.reduceAdd,Nat.reduceLeDiff,reduceIte,if_false,if_true,mkVal,unLV,List.map,optTmps];rfl⟩ ?_
  clear hI4 hE4 hN4 hVL4 hF4 g63 g64 k1 k2 k3 k4 hS3 n3 o3 n2 o2 n1 o1 e0 e1 e2 e3 e4 e5 e6 e7 hwc h9
  clear s1 s2 s3 s4 s5 k5 j4 e
  rintro m e s1 ⟨a,T',ent',kv',rfl,ha,hI',hE',hN,hVL,hF,⟨e0,e1,e2,e3,e4,e5,e6,e7⟩,e32,e33,e34⟩
  by_cases hal:a<row.length
  · -- a letter
    have haI:(a:Int)<(row.length:Int):=by omega
    have hwa:IntKind.i64.wrap ((a:Int)+1)=((a+1:Nat):Int):=by rw [wrap_i64 _ (by omega) (by omega)];rfl
    have g2:ws[a]? = some (ws.getD a .top):=hr.get hal
    have hm':=hr.row a hal
    have hmo:=hmv0 a hal
    have hnga:=fun c hc=>hng a c hal hc
    have hpna:=hpn a
    have hpra:=hpr a
    generalize hms:row.getD a []=ms at *
    generalize hmv:ws.getD a .top=mv at *
    have hml:=hm'.sl.len
    have hmlen:=hm'.len
    have hmx:maxLen=9223372036854775807:=by decide
    have hiaa:∀ s,iaLV 1 rv (.int .i64 (a:Int)) s=some (.pimm ws a,s):=fun s=>by
      have:=iaN (esz:=1) (k:=.i64) (s:=s) (i:=a) hr.sl (by omega)
      simpa using this
    repeat' (first | refine gA (And.intro @hiaa (And.intro @g2 @hml)) ?_ | (refine gB (And.intro @hiaa (And.intro @g2 @hml)) ?_;intro bb hbb;cases bb<;>(try simp only [hbs,if_false,reduceCtorEq] at hbb)) | fail)
    · exfalso;omega
    refine qc_loop (fun m e s1=>∃ (c:Nat) (T':S) (ent':List Nat) (kv':LV),m=ms.length - c∧c≤ms.length∧Inv n (nxB B) T'∧En n T' ent'∧VS n vis T' s1 kv'∧VL T ent v (psuc row v a c).length T' ent'∧FRM s kv s1 kv'∧VE v [.int .i64 B.L,sv,nv] e∧e.at 32=rv∧e.at 33 = .int .i64 (row.length:Int)∧e.at 34 = .int .i64 (a:Int)∧e.at 38=mv∧e.at 39 = .int .i64 (ms.length:Int)∧e.at 40 = .int .i64 (c:Int)) _
      ⟨0,T',ent',kv',rfl,by omega,hI',hE',hN,hVL,hF,by simp only [VE,lk,sv1,sv2,sv3,Nat.reduceEqDiff,Nat.reduceAdd,Nat.reduceLeDiff,reduceIte,if_false,if_true,mkVal,unLV,List.map,optTmps,e0,e1,e2,e3,e4,e5,e6,e7,and_self],ef,ef,ef,ef,ef,by simp only [lk,sv1,sv2,sv3,Nat.reduceEqDiff,Nat.reduceAdd,Nat.reduceLeDiff,reduceIte,if_false,if_true,mkVal,unLV,List.map,optTmps];rfl⟩ ?_
    clear hI' hE' hN hVL hF e0 e1 e2 e3 e4 e5 e6 e7 e32 e33 e34 hbb
    clear T' ent' kv' s1 e
    rintro m e s1 ⟨c,T',ent',kv',rfl,hc,hI',hE',hN,hVL,hF,⟨e0,e1,e2,e3,e4,e5,e6,e7⟩,e32,e33,e34,e38,e39,e40⟩
    by_cases hcl:c<ms.length
    · -- a move
      have hcI:(c:Int)<(ms.length:Int):=by omega
      have hwc:IntKind.i64.wrap ((c:Int)+1)=((c+1:Nat):Int):=by rw [wrap_i64 _ (by omega) (by omega)];rfl
      have hld:=fun s=>loadN_moves (s:=s) hcl
      have hmr:=hmo c hcl
      have hgu:=hnga c hcl
      have hpc:=hpna c hcl
      generalize hmd:ms.getD c (0,false)=md at *
      obtain ⟨u,hu⟩:∃ u:Nat,md.1=(u:Int):=⟨md.1.toNat,by omega⟩
      have hu2:md.1.toNat=u:=by omega
      rw [hu2] at hgu hpc
      rw [hu] at hld
      have hun:u<n:=by omega
      have huI:(u:Int)<(n:Int):=by omega
      have g2':=hN.g2
      have g3':=hN.g3
      have h9:=hN.n9
      have gi:(fcells n T'.idx)[u]? = some (.int .i64 (T'.idx u:Int)):=fcells_get hun
      repeat' (first | refine gA (And.intro (@iaN _ _ _ hm'.sl) @hld) ?_ | (refine gB (And.intro (@iaN _ _ _ hm'.sl) @hld) ?_;intro bb hbb;cases bb<;>(try simp only [hbs,if_false,reduceCtorEq] at hbb)) | fail)
      · exfalso;omega
      generalize hs2:(s1.new (.cells .mut [.int .i64 0, .bool false])).put s1.n (.cells .mut [.int .i64 (u:Int), .bool md.2])=s2
      have n2:s2.n=s1.n+1:=by rw [← hs2];rfl
      have o2:∀ id,id<s1.n→s2.get id=s1.get id:=fun id h=>by rw [← hs2,St.get_put,if_neg (by omega),St.get_new,if_neg (by omega)]
      have g12:s2.get s1.n=some (.cells .mut [.int .i64 (u:Int), .bool md.2]):=by rw [← hs2,St.get_put,if_pos rfl]
      have hN2:=hN.keep (by omega) o2
      have hF2:FRM s1 kv' s2 kv':=FRM.keep (by omega) fun id _ h=>o2 id h
      have hu12:¬ uses kv' s1.n:=fun h=>by have:=hN.sk.lt h;omega
      have k2:=hN2.g2
      have k3:=hN2.g3
      clear hs2 hN g2' g3'
      refine qc_mid (fun e s3=>∃ (T2:S) (ent2:List Nat) (kv2:LV),Inv n (nxB B) T2∧En n T2 ent2∧VS n vis T2 s3 kv2∧VL T ent v (psuc row v a c).length T2 ent2∧T2.idx u≠0∧FRM s kv s3 kv2∧s3.get s1.n=some (.cells .mut [.int .i64 (u:Int), .bool md.2])∧VE v [.int .i64 B.L,sv,nv] e∧e.at 12 = .pref s1.n 0∧e.at 32=rv∧e.at 33 = .int .i64 (row.length:Int)∧e.at 34 = .int .i64 (a:Int)∧e.at 38=mv∧e.at 39 = .int .i64 (ms.length:Int)∧e.at 40 = .int .i64 (c:Int)) ?_ ?_
      · repeat' (first | refine gA (And.intro @iaS @gi) ?_ | (refine gB (And.intro @iaS @gi) ?_;intro bb hbb;cases bb<;>(try simp only [hbs,if_false,reduceCtorEq] at hbb)) | fail)
        · exact ⟨T',ent',kv',hI',hE',hN2,hVL,by omega,hF.trans hF2,g12,by simp only [VE,lk,sv1,sv2,sv3,Nat.reduceEqDiff,Nat.reduceAdd,Nat.reduceLeDiff,reduceIte,if_false,if_true,mkVal,unLV,List.map,optTmps,e0,e1,e2,e3,e4,e5,e6,e7,and_self],by simp only [lk,sv1,sv2,sv3,Nat.reduceEqDiff,Nat.reduceAdd,Nat.reduceLeDiff,reduceIte,if_false,if_true,mkVal,unLV,List.map,optTmps,e32,e33,e34,e38,e39,e40,and_self]⟩
        · have k8:=hN2.g8
          repeat' (first | refine gA trivial ?_ | (refine gB trivial ?_;intro bb hbb;cases bb<;>(try simp only [hbs,if_false,reduceCtorEq] at hbb)) | fail)
          have hu0:T'.idx u=0:=by omega
          have hE'le:=hE'.le
          obtain ⟨q1,q2,q3,q4,q5⟩:=hVL
          refine q_call wN (fv:=vis) (vs:=[.int .i64 (u:Int)]) ef (by simp only [List.map,lk,sv1,sv2,sv3,Nat.reduceEqDiff,Nat.reduceAdd,Nat.reduceLeDiff,reduceIte,if_false,if_true,mkVal,unLV,List.map,optTmps]) (CallOk.mono (IH' T' ent' s2 kv' u (by omega) hI' hE' hN2 hun hu0 (.inr ⟨T.path,v,q1,by rw [q5];exact hgu⟩)) fun r s3 hh=>⟨trivial,?_⟩)
          obtain ⟨T2,ent2,kv2,hI2,hE2,hN3,hu3,⟨p1,p2,p3,p4⟩,hF3⟩:=hh
          simp only [Env.put_some]
          repeat' (first | refine gA trivial ?_ | (refine gB trivial ?_;intro bb hbb;cases bb<;>(try simp only [hbs,if_false,reduceCtorEq] at hbb)) | fail)
          refine ⟨T2,ent2,kv2,hI2,hE2,hN3,⟨p1.trans q1,by omega,fun w hw=>p3 w (q3 w hw),fun w hw=>(p4 w (by rw [q1];exact List.mem_append_left _ hw)).trans (q4 w hw),(p4 v (by rw [q1];simp)).trans q5⟩,hu3,hF.trans (hF2.trans hF3),(hF3.2.1 s1.n h9 (by omega) hu12).trans g12,by simp only [VE,lk,sv1,sv2,sv3,Nat.reduceEqDiff,Nat.reduceAdd,Nat.reduceLeDiff,reduceIte,if_false,if_true,mkVal,unLV,List.map,optTmps,e0,e1,e2,e3,e4,e5,e6,e7,and_self],by simp only [lk,sv1,sv2,sv3,Nat.reduceEqDiff,Nat.reduceAdd,Nat.reduceLeDiff,reduceIte,if_false,if_true,mkVal,unLV,List.map,optTmps,e32,e33,e34,e38,e39,e40,and_self]⟩
      clear hI' hE' hN2 hF hF2 hu12 k2 k3 g12 gi o2 n2 e0 e1 e2 e3 e4 e5 e6 e7 e32 e33 e34 e38 e39 e40 hVL
      generalize s1.n=b12 at *
      clear T' ent' kv' s1 s2 e
      rintro e s1 ⟨T',ent',kv',hI',hE',hN,hVL,hui,hF,g12,⟨e0,e1,e2,e3,e4,e5,e6,e7⟩,e12,e32,e33,e34,e38,e39,e40⟩
      have gp:(fcells n T'.part)[u]? = some (.int .i64 (T'.part u:Int)):=fcells_get hun
      have gl:(fcells n T'.low)[v]? = some (.int .i64 (T'.low v:Int)):=fcells_get hv
      have gm:(fcells n T'.low)[u]? = some (.int .i64 (T'.low u:Int)):=fcells_get hun
      have k0:=hN.g0
      have k1:=hN.g1
      have k4:=hN.g4
      have k5:=hN.g5
      obtain ⟨q1,q2,q3,q4,q5⟩:=hVL
      have hIe:=hI'.edge q1 (by rw [q5];exact hgu) hui
      have hEe:En n (T'.edge v u) ent':=hE'.same rfl rfl
      have hVe:VL T ent v (psuc row v a (c+1)).length (T'.edge v u) ent':=⟨q1,q2,q3,fun w hw=>by
        have hne:w≠v:=fun e=>hvP (e ▸ hw)
        simp only [S.edge,upd_other _ _ hne]
        exact q4 w hw,by rw [hpc];simp [S.edge,q5]⟩
      repeat' (first | refine gA (And.intro @iaS @gp) ?_ | (refine gB (And.intro @iaS @gp) ?_;intro bb hbb;cases bb<;>(try simp only [hbs,if_false,reduceCtorEq] at hbb)) | fail)
      · have hz:T'.part u≠0:=by omega
        refine ⟨ms.length - (c+1),by omega,c+1,T'.edge v u,ent',kv',rfl,by omega,hIe,hEe,hN.congr rfl rfl (by simp [S.edge,hz]) rfl rfl,hVe,hF,by simp only [VE,lk,sv1,sv2,sv3,Nat.reduceEqDiff,Nat.reduceAdd,Nat.reduceLeDiff,reduceIte,if_false,if_true,mkVal,unLV,List.map,optTmps,e0,e1,e2,e3,e4,e5,e6,e7,and_self],?_⟩
        simp only [lk,sv1,sv2,sv3,Nat.reduceEqDiff,Nat.reduceAdd,Nat.reduceLeDiff,reduceIte,if_false,if_true,mkVal,unLV,List.map,optTmps,hwc,e32,e33,e34,e38,e39,and_self]
      · have hz:T'.part u=0:=by omega
        have hmin:min (T'.low v:Int) (T'.low u:Int)=((min (T'.low v) (T'.low u):Nat):Int):=by omega
        repeat' (first | refine gA (And.intro @iaS (And.intro @gl @gm)) ?_ | (refine gB (And.intro @iaS (And.intro @gl @gm)) ?_;intro bb hbb;cases bb<;>(try simp only [hbs,if_false,reduceCtorEq] at hbb)) | fail)
        refine q_storeF (i:=4) (v:=v) (n:=n) (y:=min (T'.low v) (T'.low u)) (f:=T'.low) (f':=(T'.edge v u).low) (by simp only [lk,sv1,sv2,sv3,Nat.reduceEqDiff,Nat.reduceAdd,Nat.reduceLeDiff,reduceIte,if_false,if_true,mkVal,unLV,List.map,optTmps,Nat.zero_add,Nat.mul_one]) ef k4 hv (fun j=>by simp [S.edge,hz,upd]) (fun s2 n2 h2 o2=>?_)
        repeat' (first | refine gA trivial ?_ | (refine gB trivial ?_;intro bb hbb;cases bb<;>(try simp only [hbs,if_false,reduceCtorEq] at hbb)) | fail)
        refine ⟨ms.length - (c+1),by omega,c+1,T'.edge v u,ent',kv',rfl,by omega,hIe,hEe,hN.turn (by omega) ((o2 0 (by omega)).trans k0) ((o2 2 (by omega)).trans hN.g2) h2 ((o2 7 (by omega)).trans hN.g7) (fun id _ _ h _ _=>o2 id h) rfl,hVe,hF.trans (FRM.keep (by omega) fun id h9 _=>o2 id (by omega)),by simp only [VE,lk,sv1,sv2,sv3,Nat.reduceEqDiff,Nat.reduceAdd,Nat.reduceLeDiff,reduceIte,if_false,if_true,mkVal,unLV,List.map,optTmps,e0,e1,e2,e3,e4,e5,e6,e7,and_self],?_⟩
        simp only [lk,sv1,sv2,sv3,Nat.reduceEqDiff,Nat.reduceAdd,Nat.reduceLeDiff,reduceIte,if_false,if_true,mkVal,unLV,List.map,optTmps,hwc,e32,e33,e34,e38,e39,and_self]
    · have hce:c=ms.length:=by omega
      repeat' (first | refine gA trivial ?_ | (refine gB trivial ?_;intro bb hbb;cases bb<;>(try simp only [hbs,if_false,reduceCtorEq] at hbb)) | fail)
      · refine ⟨row.length - (a+1),by omega,a+1,T',ent',kv',rfl,by omega,hI',hE',hN,by rw [hpra,← hce];exact hVL,hF,by simp only [VE,lk,sv1,sv2,sv3,Nat.reduceEqDiff,Nat.reduceAdd,Nat.reduceLeDiff,reduceIte,if_false,if_true,mkVal,unLV,List.map,optTmps,e0,e1,e2,e3,e4,e5,e6,e7,and_self],?_⟩
        simp only [lk,sv1,sv2,sv3,Nat.reduceEqDiff,Nat.reduceAdd,Nat.reduceLeDiff,reduceIte,if_false,if_true,mkVal,unLV,List.map,optTmps,hwa,e32,e33,and_self]
      · exfalso;omega
  · -- all moves are done
    have hae:a=row.length:=by omega
    subst hae
    obtain ⟨q1,q2,q3,q4,q5⟩:=hVL
    have hdv:T'.done v=(nxB B v).length:=by rw [q5,hna];simp
    have hvp:v∈T'.path:=by rw [q1];simp
    have hvi:=((hI'.mem v).1 (hI'.psub v hvp)).1
    have gl:(fcells n T'.low)[v]? = some (.int .i64 (T'.low v:Int)):=fcells_get hv
    have gi:(fcells n T'.idx)[v]? = some (.int .i64 (T'.idx v:Int)):=fcells_get hv
    have k2:=hN.g2
    have k3:=hN.g3
    have k4:=hN.g4
    have k5:=hN.g5
    have hdl:(T.path++[v]).dropLast=T.path:=by simp
    repeat' (first | refine gA trivial ?_ | (refine gB trivial ?_;intro bb hbb;cases bb<;>(try simp only [hbs,if_false,reduceCtorEq] at hbb)) | fail)
    rotate_left
    · exfalso;omega
    refine qc_seq ?_
    repeat' (first | refine gA (And.intro @iaS (And.intro @gl @gi)) ?_ | (refine gB (And.intro @iaS (And.intro @gl @gi)) ?_;intro bb hbb;cases bb<;>(try simp only [hbs,if_false,reduceCtorEq] at hbb)) | fail)
    rotate_left
    · -- not yet
      have hlv:T'.low v<T'.idx v:=by omega
      exact ⟨.inr trivial,T'.popN,ent',kv',hI'.popN q1 hdv hlv,hE'.same rfl rfl,hN.congr rfl rfl rfl rfl rfl,hvi,⟨by simp only [S.popN,q1,hdl],by omega,q3,q4⟩,hF⟩
    · -- a part is whole
      have hnl':¬ T'.low v<T'.idx v:=by omega
      have hIR:=hI'.popR q1 hdv hnl'
      have hfin:∀ (st r':List Nat) (kv2:LV) (s2:St),st++v::r'=T'.stack→VS n vis ⟨T'.idx,T'.low,pps T'.part (v::r') (T'.idx v),T'.done,T'.cnt,st,T.path⟩ s2 kv2→VS n vis (T'.popR v) s2 kv2:=by
        intro st r' kv2 s2 hst hPS
        have hsrt:=hI'.srt
        rw [← hst] at hsrt
        obtain ⟨c1,c2⟩:=sorted_cut hsrt
        refine hPS.congr ?_ rfl rfl rfl ?_
        · funext w
          simp only [S.popR,pps]
          rw [← hst]
          by_cases h:w∈v::r'
          · rw [if_pos h,if_pos ((c1 w).1 h)]
          · rw [if_neg h,if_neg fun hh=>h ((c1 w).2 hh)]
        · simp only [S.popR]
          rw [← hst,c2]
      refine qc_loop (fun m e s2=>∃ (st pd:List Nat) (kv2:LV) (x:Int),m=st.length∧st++pd=T'.stack∧(pd=[]∧x = -1∨∃ y r',pd=y::r'∧x=(y:Int))∧(v∈st∨∃ r',pd=v::r')∧VS n vis ⟨T'.idx,T'.low,pps T'.part pd (T'.idx v),T'.done,T'.cnt,st,T.path⟩ s2 kv2∧FRM s kv s2 kv2∧VE v [.int .i64 B.L,sv,nv] e∧e.at 13 = .int .i64 x) _
        ⟨T'.stack,[],kv',-1,rfl,by simp, .inl ⟨rfl,rfl⟩, .inl (hI'.psub v hvp),hN.congr (by funext w;simp [pps]) rfl rfl rfl rfl,hF,by simp only [VE,lk,sv1,sv2,sv3,Nat.reduceEqDiff,Nat.reduceAdd,Nat.reduceLeDiff,reduceIte,if_false,if_true,mkVal,unLV,List.map,optTmps,e0,e1,e2,e3,e4,e5,e6,e7,and_self],ef⟩ ?_
      clear k2 k3 k4 k5 hN hF hbb e0 e1 e2 e3 e4 e5 e6 e7 e32 e33 e34
      clear kv' s1 e
      rintro m e s1 ⟨st,pd,kv',x,rfl,hst,hx,hvs,hN,hF,⟨e0,e1,e2,e3,e4,e5,e6,e7⟩,e13⟩
      have hEnd:∀ r',pd=v::r'→∃ T2 ent2 kv2,Inv n (nxB B) T2∧En n T2 ent2∧VS n vis T2 s1 kv2∧T2.idx v≠0∧VP T ent T2 ent2∧FRM s kv s1 kv2:=fun r' h=>by
        subst h
        exact ⟨T'.popR v,ent',kv',hIR,hE'.same rfl rfl,hfin st r' kv' s1 hst hN,hvi,⟨by simp only [S.popR,q1,hdl],by omega,q3,q4⟩,hF⟩
      rcases List.eq_nil_or_concat st with hst0 | ⟨st',y,hst0⟩
      · have hpv:∃ r',pd=v::r':=by
          rcases hvs with h | h
          · rw [hst0] at h;cases h
          · exact h
        obtain ⟨r',hr'⟩:=hpv
        have hxv:x=(v:Int):=by
          rcases hx with ⟨h,_⟩ | ⟨y,r2,h,hxy⟩
          · rw [hr'] at h;cases h
          · rw [hr'] at h;cases h;exact hxy
        refine qc_seq ?_
        repeat' (first | refine gA trivial ?_ | (refine gB trivial ?_;intro bb hbb;cases bb<;>(try simp only [hbs,if_false,reduceCtorEq] at hbb)) | fail)
        all_goals first | (exfalso;omega) | skip
        exact ⟨.inl trivial,hEnd r' hr'⟩
      · rw [List.concat_eq_append] at hst0
        subst hst0
        have h6:=hN.sk
        obtain ⟨j7,c7,hv7,hj7,hg7⟩:=h6.pos
        subst hv7
        have hl7:slLen (.sref j7 0 (st'.length+1) 1)=some (st'.length+1):=rfl
        have hys:y∈T'.stack:=by rw [← hst];simp
        have hyn:y<n:=(hI'.rng y ((hI'.mem y).1 hys).1).1
        have hyI:(y:Int)<(n:Int):=by omega
        have hsl7:st'.length+1≤n:=by
          have:=stack_le hI'
          rw [← hst] at this
          simp only [List.length_append,List.length_cons,List.length_nil] at this
          omega
        have hw7:IntKind.i64.wrap (((st'.length+1:Nat):Int) - 1)=(st'.length:Int):=by rw [wrap_i64 _ (by omega) (by omega)];omega
        have hlt7:(st'.length:Int)<((st'.length+1:Nat):Int):=by omega
        have hgt:=nints_top st' y c7
        have k6:=hN.g6
        have h9:=hN.n9
        have hj9:=hN.low j7 (uses_sref.2 rfl)
        refine qc_seq ?_
        repeat' (first | refine gA (And.intro @iaS (And.intro @hl7 (And.intro @hw7 @hgt))) ?_ | (refine gB (And.intro @iaS (And.intro @hl7 (And.intro @hw7 @hgt))) ?_;intro bb hbb;cases bb<;>(try simp only [hbs,if_false,reduceCtorEq] at hbb)) | fail)
        · refine ⟨.inl trivial,?_⟩
          rcases hx with ⟨_,h⟩ | ⟨y',r',h1,h2⟩
          · exfalso;omega
          · obtain rfl:y'=v:=by omega
            exact hEnd r' h1
        refine q_sliceS wN (j:=j7) (n:=st'.length+1) (m:=st'.length) ef ef (by omega) ?_
        repeat' (first | refine gA trivial ?_ | (refine gB trivial ?_;intro bb hbb;cases bb<;>(try simp only [hbs,if_false,reduceCtorEq] at hbb)) | fail)
        generalize hs2:s1.put 6 (.cells .mut [.sref j7 0 st'.length 1])=s2
        have n2:s2.n=s1.n:=by rw [← hs2];rfl
        have o2:∀ id,id≠6→s2.get id=s1.get id:=fun id h=>by rw [← hs2,St.get_put,if_neg h]
        have g62:s2.get 6=some (.cells .mut [.sref j7 0 st'.length 1]):=by rw [← hs2,St.get_put,if_pos rfl]
        have hN2:VS n vis ⟨T'.idx,T'.low,pps T'.part pd (T'.idx v),T'.done,T'.cnt,st',T.path⟩ s2 (.sref j7 0 st'.length 1) :=
          hN.box (by omega) (fun id h h'=>o2 id h') g62 (Sk.pop (by omega) ((o2 j7 (by omega)).trans hg7)) (fun id hu=>by have:=uses_sref.1 hu;omega) rfl rfl rfl rfl
        have hF2:FRM s1 (.sref j7 0 (st'.length+1) 1) s2 (.sref j7 0 st'.length 1):=⟨by omega,fun id h _ _=>o2 id (by omega),fun id hu=>.inl (by rw [uses_sref.1 hu];exact uses_sref.2 rfl)⟩
        have k0:=hN2.g0
        have k1:=hN2.g1
        have k2:=hN2.g2
        have k3:=hN2.g3
        clear hs2 k6 hN
        repeat' (first | refine gA (And.intro @iaS @gi) ?_ | (refine gB (And.intro @iaS @gi) ?_;intro bb hbb;cases bb<;>(try simp only [hbs,if_false,reduceCtorEq] at hbb)) | fail)
        refine q_storeF (i:=0) (v:=y) (n:=n) (y:=T'.idx v) (f:=pps T'.part pd (T'.idx v)) (f':=pps T'.part (y::pd) (T'.idx v)) (by simp only [lk,sv1,sv2,sv3,Nat.reduceEqDiff,Nat.reduceAdd,Nat.reduceLeDiff,reduceIte,if_false,if_true,mkVal,unLV,List.map,optTmps,Nat.zero_add,Nat.mul_one]) ef k0 hyn (fun j=>by
          by_cases h:j=y
          · simp [pps,h]
          · simp [pps,h]) (fun s3 n3 h3 o3=>?_)
        repeat' (first | refine gA trivial ?_ | (refine gB trivial ?_;intro bb hbb;cases bb<;>(try simp only [hbs,if_false,reduceCtorEq] at hbb)) | fail)
        refine ⟨st'.length,by simp,st',y::pd, .sref j7 0 st'.length 1,(y:Int),rfl,by rw [← hst];simp, .inr ⟨y,pd,rfl,rfl⟩,?_,hN2.turn (by omega) h3 ((o3 2 (by omega)).trans hN2.g2) ((o3 4 (by omega)).trans hN2.g4) ((o3 7 (by omega)).trans hN2.g7) (fun id h _ _ _ _=>o3 id h) rfl,hF.trans (hF2.trans (FRM.keep (by omega) fun id h9 _=>o3 id (by omega))),by simp only [VE,lk,sv1,sv2,sv3,Nat.reduceEqDiff,Nat.reduceAdd,Nat.reduceLeDiff,reduceIte,if_false,if_true,mkVal,unLV,List.map,optTmps,e0,e1,e2,e3,e4,e5,e6,e7,and_self],ef⟩
        rcases hvs with hv | ⟨r',rfl⟩
        · rcases List.mem_append.1 hv with hv | hv
          · exact .inl hv
          · exact .inr ⟨pd,by rw [List.mem_singleton.1 hv]⟩
        · exfalso
          rcases hx with ⟨h,_⟩ | ⟨y2,r2,h,hxy⟩
          · cases h
          · cases h;omega
end Go.Proofs.YtmblpcidfjemhaaDoor
