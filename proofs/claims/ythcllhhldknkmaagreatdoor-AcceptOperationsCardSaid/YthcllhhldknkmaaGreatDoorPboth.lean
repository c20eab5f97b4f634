/- buchi.Both. -/
import Derived.Test.YthcllhhldknkmaaGreatDoorPauto
import Derived.Test.YthcllhhldknkmaaGreatDoorTauto
set_option linter.unusedSimpArgs false
set_option linter.unusedVariables false
namespace Go.Proofs.YthcllhhldknkmaaGreatDoor
open Go Go.Pv
open Classical
theorem hasI_take {l:List Nat} {k q:Nat} (h:l[k]? = some q) (m:Nat):tcells3 m (l.take (k+1))=tcells3 m (l.take k)++pc3 m q:=by
  rw [List.take_add_one,h,tcells3_append]
  simp [tcells3]
theorem tcells3_cl (m:Nat):∀ l:List Nat,LV.closed.closedAll (tcells3 m l)=true
  | []=>rfl
  | p::l=>by simp [tcells3,LV.closed.closedAll,LV.closed,tcells3_cl m l]
theorem stP_len (A B:Bu):(stP A B).length=A.start.length*B.start.length:=fm_len fun x _=>by simp
theorem stP_get {A B:Bu} {i j:Nat} {x y:Int} (hi:A.start[i]? = some x) (hj:B.start[j]? = some y):(stP A B)[i*B.start.length+j]? = some (pcode B.next.length x.toNat y.toNat 0):=by
  unfold stP
  rw [fm_get (List.getElem?_eq_some_iff.1 hj).1 (fun x _=>by simp) hi,List.getElem?_map,hj];rfl
theorem st_rng {B:Bu} (ok:Vb B) {i:Nat} {x:Int} (h:B.start[i]? = some x):0≤x∧x<B.next.length:=by
  obtain ⟨h1,h2⟩:=List.getElem?_eq_some_iff.1 h
  have:=ok.2.2.2.1 i h1
  rw [List.getD_eq_getElem?_getD,h] at this
  exact ⟨this.1,this.2.1⟩
theorem mv_rng {B:Bu} (ok:Vb B) {q a:Nat} (hq:q<B.next.length) {m:Int × Bool} (h:m∈rowM B q a):0≤m.1∧m.1<B.next.length∧(a:Int)<B.L:=by
  have hrow:=ok.2.2.2.2 q hq
  obtain ⟨k,hk⟩:=List.mem_iff_getElem?.1 h
  obtain ⟨h1,h2⟩:=List.getElem?_eq_some_iff.1 hk
  have ha:a<(B.next.getD q []).length:=by
    rcases Nat.lt_or_ge a (B.next.getD q []).length with h3 | h3
    · exact h3
    · have:rowM B q a=[]:=by unfold rowM;rw [List.getD_eq_getElem?_getD (l:=B.next.getD q []),List.getElem?_eq_none h3];rfl
      rw [this] at h1
      exact absurd h1 (Nat.not_lt_zero _)
  have:=hrow.2 a ha k h1
  have hg:((B.next.getD q []).getD a []).getD k (0,false)=m:=by
    have hm':((B.next.getD q []).getD a [])[k]? = some m:=hk
    rw [List.getD_eq_getElem?_getD,hm'];rfl
  rw [hg] at this
  exact ⟨this.1,this.2.1,by have:=hrow.1;omega⟩
theorem mv_len {B:Bu} (ok:Vb B) {q:Nat} (hq:q<B.next.length) (a:Nat):(rowM B q a).length≤2*B.next.length:=by
  have hrow:=ok.2.2.2.2 q hq
  rcases Nat.lt_or_ge a (B.next.getD q []).length with h3 | h3
  · exact mok_len' (hrow.2 a h3)
  · have:rowM B q a=[]:=by unfold rowM;rw [List.getD_eq_getElem?_getD (l:=B.next.getD q []),List.getElem?_eq_none h3];rfl
    rw [this];simp
theorem pidx {na m p:Nat} (h:p<na*m*2):p / 2 / m<na∧p / 2 % m<m∧p % 2<2:=by
  have hm:0<m:=by
    rcases Nat.eq_zero_or_pos m with h0 | h0
    · rw [h0] at h;omega
    · exact h0
  exact ⟨(Nat.div_lt_iff_lt_mul hm).2 (by omega),Nat.mod_lt _ hm,Nat.mod_lt _ (by decide)⟩
theorem grB_ok {A B:Bu} (okA:Vb A) (okB:Vb B) (hL:A.L=B.L) {most:Int} (hN:((A.next.length*B.next.length*2:Nat):Int)≤most) (hm:most≤3000):GrfOk (grB A B) most where
  L1:=okA.1
  L2:=okA.2.1
  N3:=hN
  m3:=hm
  stN:=fun p hp=>by
    obtain ⟨x,hx,hp⟩:=List.mem_flatMap.1 hp
    obtain ⟨y,hy,rfl⟩:=List.mem_map.1 hp
    obtain ⟨i,hi⟩:=List.mem_iff_getElem?.1 hx
    obtain ⟨j,hj⟩:=List.mem_iff_getElem?.1 hy
    have h1:=st_rng okA hi
    have h2:=st_rng okB hj
    exact pcode_lt (by omega) (by omega) (by decide)
  stl:=by
    show (stP A B).length≤_
    rw [stP_len]
    have h1:=start_len okA
    have h2:=start_len okB
    have:A.start.length*B.start.length≤A.next.length*B.next.length:=Nat.mul_le_mul h1 h2
    omega
  mvN:=fun p a hp m hm=>by
    obtain ⟨h1,h2,h3⟩:=pidx hp
    obtain ⟨mx,hx,hm⟩:=List.mem_flatMap.1 hm
    obtain ⟨my,hy,rfl⟩:=List.mem_map.1 hm
    have k1:=mv_rng okA h1 hx
    have k2:=mv_rng okB h2 hy
    exact pcode_lt (by omega) (by omega) (Nat.mod_lt _ (by decide))
  mvl := fun p a hp => by
    obtain ⟨h1,h2,h3⟩:=pidx hp
    show (mvX A B _ _ _ a).length≤_
    have e:(mvX A B (p / 2 / B.next.length) (p / 2 % B.next.length) (p % 2) a).length=(rowM A (p / 2 / B.next.length) a).length*(rowM B (p / 2 % B.next.length) a).length:=fm_len fun mx _=>by simp
    rw [e]
    have k1:=mv_len okA h1 a
    have k2:=mv_len okB h2 a
    have h5:=Nat.mul_le_mul k1 k2
    have h6:2*A.next.length*(2*B.next.length)=2*(A.next.length*B.next.length*2):=by
      rw [Nat.mul_assoc,Nat.mul_left_comm A.next.length,Nat.mul_comm (A.next.length*B.next.length) 2]
    omega
theorem closed_tup1 {v:LV} {k:IntKind} {n:Int} : (LV.tup [v, .int k n]).closed=v.closed:=by simp [LV.closed,LV.closed.closedAll]
theorem frz_aut' {s:St} {stv nxv:LV} {C:Bu} {T1 T2:Nat→Prop} (f1:FZ T1 (fun v'=>IsInts v' C.start) 38 stv s) (f2:FZ T2 (fun v'=>IsNext v' C.next) 38 nxv s) (hd:∀ id,T1 id→¬ T2 id) :
    ∃ r s' sv nv,frz frzDepth (.tup [.agg [.int .i64 C.L,stv,nxv], .int .i64 0]) s=some (.tup [r, .int .i64 0],s')∧IsB r C sv nv:=by
  obtain ⟨v1,s1,a1,a2,a3,a4⟩:=f1 s fun _ _=>rfl
  obtain ⟨v2,s2,b1,b2,b3,b4⟩:=f2 s1 fun id hid=>a4 id fun h=>hd id h hid
  by_cases hc:(LV.agg [.int .i64 C.L,stv,nxv]).closed=true
  · have hc':stv.closed=true∧nxv.closed=true:=by simpa [LV.closed,LV.closed.closedAll] using hc
    rw [frz_closed hc'.1] at a1
    rw [frz_closed hc'.2] at b1
    cases a1
    cases b1
    exact ⟨_,s,stv,nxv,frz_closed (by rw [closed_tup1];exact hc),rfl,a2,b2⟩
  · have hc0:(LV.agg [.int .i64 C.L,stv,nxv]).closed=false:=by simpa using hc
    refine ⟨.agg [.int .i64 C.L,v1,v2],s2,v1,v2,?_,rfl,a2,b2⟩
    have hb:frz 38 (.int .i64 C.L) s=some (.int .i64 C.L,s):=frz_closed rfl
    have hz:frz 39 (.int .i64 0) s2=some (.int .i64 0,s2):=frz_closed rfl
    have hag:frz 39 (.agg [.int .i64 C.L,stv,nxv]) s=some (.agg [.int .i64 C.L,v1,v2],s2):=by
      show frz (38+1) _ s=_
      unfold frz
      rw [hc0]
      simp only [Bool.false_eq_true,if_false,frz.frzAll,hb,a1,b1,Option.bind_eq_bind,Option.bind_some]
    have ht0:(LV.tup [.agg [.int .i64 C.L,stv,nxv], .int .i64 0]).closed=false:=by
      rw [closed_tup1];exact hc0
    show frz (39+1) _ s=_
    unfold frz
    rw [ht0]
    simp only [Bool.false_eq_true,if_false,frz.frzAll,hag,hz,Option.bind_eq_bind,Option.bind_some]
set_option maxHeartbeats 16000000 in
theorem pboth_ok {vA vB:LV} {A B:Bu} {sa na sb nb:LV} (hA:IsB vA A sa na) (hB:IsB vB B sb nb) (okA:Vb A) (okB:Vb B) (hL:A.L=B.L) {most:Int} (h1:1≤most) (hN:((A.next.length*B.next.length*2:Nat):Int)≤most) (h3:most≤3000) :
    PE 19 [vA,vB, .int .i64 most] (fun r=>∃ v C sv nv,r = .tup [v, .int .i64 0]∧IsB v C sv nv∧AutoR (grB A B) C):=by
  have hcA:=hA.closed
  have hcB:=hB.closed
  have hA0:=hA
  have hB0:=hB
  have hbA:=bvalid_ok hA
  have hbB:=bvalid_ok hB
  rw [decide_eq_true okA] at hbA
  rw [decide_eq_true okB] at hbB
  have hgr:=grB_ok okA okB hL hN h3
  have hau:=fun {fv:LV} (hs:Sl fv (tcells3 B.next.length (stP A B)) (stP A B).length) (s:St)=>pauto_ok hA hB okA okB hL (g:=grB A B) rfl hgr hs (s:=s)
  have hsL:=stP_len A B
  have hsg:=fun i j x y=>stP_get (A:=A) (B:=B) (i:=i) (j:=j) (x:=x) (y:=y)
  have hgL:(grB A B).L=A.L:=rfl
  simp only [hgL] at hau
  have hs1:=start_len okA
  have hs2:=start_len okB
  have hs3:A.start.length*B.start.length≤A.next.length*B.next.length:=Nat.mul_le_mul hs1 hs2
  have hn3A:=okA.2.2.1
  have hn3B:=okB.2.2.1
  have hstA:=fun i x=>st_rng okA (i:=i) (x:=x)
  have hstB:=fun i x=>st_rng okB (i:=i) (x:=x)
  obtain ⟨rfl,htA,vsA,hnA⟩:=hA
  obtain ⟨rfl,htB,vsB,hnB⟩:=hB
  have hc1:=htA.sl.cell
  have hc2:=hnA.sl.cell
  have hc3:=htB.sl.cell
  have hc4:=hnB.sl.cell
  have hl1:=htA.sl.len
  have hl2:=htB.sl.len
  generalize stP A B=sp at *
  refine q_fnExR Tryz.func19 (by decide +kernel) c19 (Nat.le_of_ble_eq_true rfl) (by
    have a1:sa.closed=true∧na.closed=true:=by simpa [LV.closed,LV.closed.closedAll] using hcA
    have a2:sb.closed=true∧nb.closed=true:=by simpa [LV.closed,LV.closed.closedAll] using hcB
    simp [LV.closed.closedAll,LV.closed,a1,a2]) ?_
  have e0:(envOf [LV.agg [.int .i64 A.L,sa,na],LV.agg [.int .i64 B.L,sb,nb], .int .i64 most]).at 0 = .agg [.int .i64 A.L,sa,na]:=by rw [envOf_at];rfl
  have e1:(envOf [LV.agg [.int .i64 A.L,sa,na],LV.agg [.int .i64 B.L,sb,nb], .int .i64 most]).at 1 = .agg [.int .i64 B.L,sb,nb]:=by rw [envOf_at];rfl
  have e2:(envOf [LV.agg [.int .i64 A.L,sa,na],LV.agg [.int .i64 B.L,sb,nb], .int .i64 most]).at 2 = .int .i64 most:=by rw [envOf_at];rfl
  generalize envOf [LV.agg [.int .i64 A.L,sa,na],LV.agg [.int .i64 B.L,sb,nb], .int .i64 most]=e at *
  unfold l19
  dsimp only [jA,jC,jG,qM,qL,qN,qF,qS,qI,qA,qB,qC,qO,qP,qG,qm,ql]
  have hmul:binLV .mul (.int .i64 ((A.start.length:Nat):Int)) (.int .i64 ((B.start.length:Nat):Int))=some (.int .i64 ((A.start.length*B.start.length:Nat):Int)):=by
    simp only [binLV,if_true,intBin]
    rw [← Int.natCast_mul,wrap_i64 _ (by omega) (by omega)]
  have hLx:Hd (A.L=B.L):=⟨hL⟩
  have hpr:((A.start.length*B.start.length:Nat):Int)≤most:=by omega
  clear hL hgL
  repeat' (first | refine gA trivial ?_ | (refine gB trivial ?_;intro bb hbb;cases bb<;>(try simp only [hbs,if_false,reduceCtorEq] at hbb)) | apply qc_seq | fail)
  refine q_pure hG0 (hbA) (by first | exact wN | (apply wG;(simp only [lk,Nat.reduceEqDiff,reduceIte,e0,e1,e2];(try rfl);done))) (by simp only [List.map,lk,Nat.reduceEqDiff,reduceIte,e0,e1,e2];try rfl) (by first | trivial | (simp only [Chks,wantedG,LOp.run,Env.put_some,Env.put_none,lk,sv1,sv2,sv3,Nat.reduceEqDiff,Nat.reduceAdd,Nat.reduceLeDiff,reduceIte,if_false,if_true,mkVal,unLV,List.map,optTmps,beq_self_eq_true,reduceCtorEq,false_or,true_and,and_true,Option.some.injEq, *];done)) ?_
  simp only [Env.put_some]
  repeat' (first | refine gA trivial ?_ | (refine gB trivial ?_;intro bb hbb;cases bb<;>(try simp only [hbs,if_false,reduceCtorEq] at hbb)) | apply qc_seq | fail)
  refine q_pure hG0 (hbB) (by first | exact wN | (apply wG;(simp only [lk,Nat.reduceEqDiff,reduceIte,e0,e1,e2];(try rfl);done))) (by simp only [List.map,lk,Nat.reduceEqDiff,reduceIte,e0,e1,e2];try rfl) (by first | trivial | (simp only [Chks,wantedG,LOp.run,Env.put_some,Env.put_none,lk,sv1,sv2,sv3,Nat.reduceEqDiff,Nat.reduceAdd,Nat.reduceLeDiff,reduceIte,if_false,if_true,mkVal,unLV,List.map,optTmps,beq_self_eq_true,reduceCtorEq,false_or,true_and,and_true,Option.some.injEq, *];done)) ?_
  simp only [Env.put_some]
  repeat' (first | refine gA @hmul ?_ | (refine gB @hmul ?_;intro bb hbb;cases bb<;>(try simp only [hbs,if_false,reduceCtorEq] at hbb)) | apply qc_seq | fail)
  all_goals first
    | (exfalso;have:=hLx.out;omega)
    | skip
  clear hbA hbB hmul
  clear hcA hcB
  have hszA:sp.length≤9000000:=by
    have:A.start.length*B.start.length≤3000*3000:=Nat.mul_le_mul (by omega) (by omega)
    omega
  have hsp:∀ i j,i<A.start.length→j<B.start.length→i*B.start.length+j<A.start.length*B.start.length:=fun i j hi hj=>by
    have:(i+1)*B.start.length≤A.start.length*B.start.length:=Nat.mul_le_mul_right _ hi
    rw [Nat.add_mul,Nat.one_mul] at this
    omega
  refine qc_loop (fun m e s=>∃ (i:Nat) (lv:LV),m=A.start.length - i∧i≤A.start.length∧SkC s lv 3 (tcells3 B.next.length (sp.take (i*B.start.length))) (i*B.start.length)∧s.get 0=some (.cells .mut [.int .i64 0, .nils, .nils])∧0<s.n∧(∀ id,uses lv id→0<id)∧e.at 2 = .int .i64 most∧e.at 3 = .pimm [.int .i64 A.L,sa,na] 0∧e.at 4 = .pimm [.int .i64 B.L,sb,nb] 0∧e.at 6 = .pref 0 0∧e.at 8=lv∧e.at 49=sa∧e.at 50 = .int .i64 (A.start.length:Int)∧e.at 51 = .int .i64 (i:Int)) _
    ⟨0, .nils,rfl,by omega,by rw [Nat.zero_mul];exact SkC.nil _ _,by rw [St.get_new];rfl,by simp [n_empty],fun id h=>absurd h (uses_nils id),ef,ef,ef,ef,ef,ef,ef,by simp only [lk,sv1,sv2,sv3,Nat.reduceEqDiff,Nat.reduceAdd,Nat.reduceLeDiff,reduceIte,if_false,if_true,mkVal,unLV,List.map,optTmps];rfl⟩ ?_
  clear e0 e1 e2
  clear e
  rintro m e s ⟨i,lv,rfl,hi,hS,g0,hn0,hlv0,e2,e3,e4,e6,e8,e49,e50,e51⟩
  by_cases hil:i<A.start.length
  · have hiI:(i:Int)<(A.start.length:Int):=by omega
    have hw:IntKind.i64.wrap ((i:Int)+1)=((i+1:Nat):Int):=by rw [wrap_i64 _ (by omega) (by omega)];rfl
    obtain ⟨x,hx⟩:∃ x,A.start[i]? = some x:=⟨_,List.getElem?_eq_getElem hil⟩
    have hgx:(ints A.start)[i]? = some (.int .i64 x):=by simp [ints,hx]
    have hia:=fun s=>iaN htA.sl (esz:=1) (k:=.i64) (s:=s) hiI
    simp only [Nat.mul_one] at hia
    have hx0:=hstA i x hx
    repeat' (first | refine gA (And.intro @hia @hgx) ?_ | (refine gB (And.intro @hia @hgx) ?_;intro bb hbb;cases bb<;>(try simp only [hbs,if_false,reduceCtorEq] at hbb)) | apply qc_seq | fail)
    · exfalso;omega
    clear hia hgx
    refine qc_loop (fun m e s=>∃ (j:Nat) (lv:LV),m=B.start.length - j∧j≤B.start.length∧SkC s lv 3 (tcells3 B.next.length (sp.take (i*B.start.length+j))) (i*B.start.length+j)∧s.get 0=some (.cells .mut [.int .i64 0, .nils, .nils])∧0<s.n∧(∀ id,uses lv id→0<id)∧e.at 2 = .int .i64 most∧e.at 3 = .pimm [.int .i64 A.L,sa,na] 0∧e.at 4 = .pimm [.int .i64 B.L,sb,nb] 0∧e.at 6 = .pref 0 0∧e.at 8=lv∧e.at 10 = .int .i64 x∧e.at 49=sa∧e.at 50 = .int .i64 (A.start.length:Int)∧e.at 51 = .int .i64 (i:Int)∧e.at 56=sb∧e.at 57 = .int .i64 (B.start.length:Int)∧e.at 58 = .int .i64 (j:Int)) _
      ⟨0,lv,rfl,by omega,hS,g0,hn0,hlv0,ef,ef,ef,ef,ef,ef,ef,ef,ef,ef,ef,by simp only [lk,sv1,sv2,sv3,Nat.reduceEqDiff,Nat.reduceAdd,Nat.reduceLeDiff,reduceIte,if_false,if_true,mkVal,unLV,List.map,optTmps];rfl⟩ ?_
    clear hS g0 hn0 hlv0 e2 e3 e4 e6 e8 e49 e50 e51
    clear lv e s
    rintro m e s ⟨j,lv,rfl,hj,hS,g0,hn0,hlv0,e2,e3,e4,e6,e8,e10,e49,e50,e51,e56,e57,e58⟩
    by_cases hjl:j<B.start.length
    · have hjI:(j:Int)<(B.start.length:Int):=by omega
      have hwj:IntKind.i64.wrap ((j:Int)+1)=((j+1:Nat):Int):=by rw [wrap_i64 _ (by omega) (by omega)];rfl
      obtain ⟨y,hy⟩:∃ y,B.start[j]? = some y:=⟨_,List.getElem?_eq_getElem hjl⟩
      have hgy:(ints B.start)[j]? = some (.int .i64 y):=by simp [ints,hy]
      have hib:=fun s=>iaN htB.sl (esz:=1) (k:=.i64) (s:=s) hjI
      simp only [Nat.mul_one] at hib
      have hy0:=hstB j y hy
      have hq:=hsg i j x y hx hy
      have hpp:=pcode_parts (m:=B.next.length) (x:=x.toNat) (y:=y.toNat) (t:=0) (by omega) (by decide)
      have htk:=hasI_take hq B.next.length
      have hlt:=hsp i j hil hjl
      have e1:pc3 B.next.length (pcode B.next.length x.toNat y.toNat 0)=[.int .i64 x, .int .i64 y, .int .i64 0]:=by
        show [LV.int .i64 _,LV.int .i64 _,LV.int .i64 _]=_
        rw [hpp.1,hpp.2.1,hpp.2.2,show ((x.toNat:Nat):Int)=x by omega,show ((y.toNat:Nat):Int)=y by omega]
        rfl
      rw [e1] at htk
      clear hpp hq e1 hx hy hx0 hy0
      repeat' (first | refine gA (And.intro @hib @hgy) ?_ | (refine gB (And.intro @hib @hgy) ?_;intro bb hbb;cases bb<;>(try simp only [hbs,if_false,reduceCtorEq] at hbb)) | apply qc_seq | fail)
      · exfalso;omega
      refine q_gen (v:=.agg [.int .i64 x, .int .i64 y, .int .i64 0]) (s':=s) wN (by simp only [LOp.run,lk,sv1,sv2,sv3,Nat.reduceEqDiff,Nat.reduceAdd,Nat.reduceLeDiff,reduceIte,if_false,if_true,mkVal,unLV,List.map,optTmps,evParts,fillParts];rfl) rfl trivial ?_
      simp only [Env.put_some]
      refine q_appC (n:=i*B.start.length+j) (esz:=3) (xv:=.agg [.int .i64 x, .int .i64 y, .int .i64 0]) (yv:=lv) (vs:=[.int .i64 x, .int .i64 y, .int .i64 0]) ef rfl rfl rfl rfl ef hS (by decide) (by omega) (fun s2 j2 a1 a2 a3 a4=>?_)
      have g02:s2.get 0=some (.cells .mut [.int .i64 0, .nils, .nils]):=by rw [a4 0 hn0 fun hu=>by have:=hlv0 _ hu;omega];exact g0
      clear hib hgy hS
      repeat' (first | refine gA trivial ?_ | (refine gB trivial ?_;intro bb hbb;cases bb<;>(try simp only [hbs,if_false,reduceCtorEq] at hbb)) | apply qc_seq | fail)
      refine ⟨B.start.length - (j+1),by omega,j+1, .sref j2 0 (i*B.start.length+j+1) 3,rfl,by omega,by rw [← Nat.add_assoc,htk];exact a2,g02,by omega,fun id hu=>by obtain rfl:=uses_sref.1 hu;omega,?_⟩
      simp only [lk,sv1,sv2,sv3,Nat.reduceEqDiff,Nat.reduceAdd,Nat.reduceLeDiff,reduceIte,if_false,if_true,mkVal,unLV,List.map,optTmps,hwj,e2,e3,e4,e6,e10,e49,e50,e51,e56,e57,and_self]
    · have hj':j=B.start.length:=by omega
      subst hj'
      repeat' (first | refine gA trivial ?_ | (refine gB trivial ?_;intro bb hbb;cases bb<;>(try simp only [hbs,if_false,reduceCtorEq] at hbb)) | apply qc_seq | fail)
      · refine ⟨A.start.length - (i+1),by omega,i+1,lv,rfl,by omega,by rw [Nat.add_mul,Nat.one_mul];exact hS,g0,hn0,hlv0,?_⟩
        simp only [lk,sv1,sv2,sv3,Nat.reduceEqDiff,Nat.reduceAdd,Nat.reduceLeDiff,reduceIte,if_false,if_true,mkVal,unLV,List.map,optTmps,hw,e2,e3,e4,e6,e8,e49,e50,and_self]
      · exfalso;omega
  · have hi':i=A.start.length:=by omega
    subst hi'
    rw [← hsL,List.take_length] at hS
    repeat' (first | refine gA trivial ?_ | (refine gB trivial ?_;intro bb hbb;cases bb<;>(try simp only [hbs,if_false,reduceCtorEq] at hbb)) | apply qc_seq | fail)
    rotate_left
    · exfalso;omega
    obtain ⟨fv,s2,z1,z2,z3,z4⟩:=fz_skc 38 hS (tcells3_cl _ _) s fun _ _=>rfl
    have hau2:=hau z2 s2
    have hfrz:frz.frzAll (frz frzDepth) [.int .i64 A.L,lv, .int .i64 most, .fn (.func 49) [] [.pimm [.int .i64 A.L,sa,na] 0, .pimm [.int .i64 B.L,sb,nb] 0]] s=some ([.int .i64 A.L,fv, .int .i64 most, .fn (.func 49) [] [.pimm [.int .i64 A.L,sa,na] 0, .pimm [.int .i64 B.L,sb,nb] 0]],s2):=by
      have y1:frz 40 (.int .i64 A.L) s=some (.int .i64 A.L,s):=frz_closed rfl
      have y2:frz 40 (.int .i64 most) s2=some (.int .i64 most,s2):=frz_closed rfl
      have b1:=hA0.closed
      have b2:=hB0.closed
      have y3:frz 40 (.fn (.func 49) [] [.pimm [.int .i64 A.L,sa,na] 0, .pimm [.int .i64 B.L,sb,nb] 0]) s2=some (.fn (.func 49) [] [.pimm [.int .i64 A.L,sa,na] 0, .pimm [.int .i64 B.L,sb,nb] 0],s2):=frz_closed (by
        have d1:sa.closed=true∧na.closed=true:=by simpa [LV.closed,LV.closed.closedAll] using b1
        have d2:sb.closed=true∧nb.closed=true:=by simpa [LV.closed,LV.closed.closedAll] using b2
        simp [LV.closed,LV.closed.closedAll,d1,d2])
      have y4:frz 40 lv s=some (fv,s2):=z1
      show frz.frzAll (frz 40) _ s=_
      simp only [frz.frzAll,y1,y2,y3,y4,Option.bind_eq_bind,Option.bind_some]
    refine q_call wN (fv:=.fn (.func 51) [] []) (vs:=[.int .i64 A.L,lv, .int .i64 most, .fn (.func 49) [] [.pimm [.int .i64 A.L,sa,na] 0, .pimm [.int .i64 B.L,sb,nb] 0]]) ef (by simp only [List.map,lk,sv1,sv2,sv3,Nat.reduceEqDiff,Nat.reduceAdd,Nat.reduceLeDiff,reduceIte,if_false,if_true,mkVal,unLV,List.map,optTmps,e3,e4]) (call_frz hfrz (CallOk.mono hau2 fun r s3 hh=>⟨trivial,?_⟩))
    obtain ⟨stv,nxv,C,T1,T2,rfl,hTR,f1,f2,f3,f4,⟨f5,f6⟩,f7,f8⟩:=hh
    have g2:s3.get 0=some (.cells .mut [.int .i64 0, .nils, .nils]):=by rw [f8 0 (by omega),z4 0 fun hu=>by have:=hlv0 _ hu;omega];exact g0
    simp only [Env.put_some]
    have hs2n:0<s2.n:=by omega
    have fin:∀ S:St,(∀ id,T1 id∨T2 id→S.get id=s3.get id)→∃ r s',frz frzDepth (.tup [.agg [.int .i64 B.L,stv,nxv], .int .i64 0]) S=some (r,s')∧r.closed=true∧∃ v C sv nv,r = .tup [v, .int .i64 0]∧IsB v C sv nv∧AutoR (grB A B) C:=fun S hS=>by
      obtain ⟨r,s',sv',nv',a1,a2⟩:=frz_aut' (f1.stable (s':=S) fun id hid=>hS id (.inl hid)) (f2.stable (s':=S) fun id hid=>hS id (.inr hid)) f3
      rw [show C.L=A.L from hTR.L,hLx.out] at a1
      exact ⟨_,s',a1,by rw [closed_tup1];exact a2.closed,r,C,sv',nv',rfl,a2,hTR⟩
    have fb:∀ id,T1 id∨T2 id→id≠0:=fun id hid=>by
      have:=f4 id hid
      omega
    clear f7 f8 hau hau2 hfrz z1 z2 z3 z4 hS g0 hn0 hlv0 f1 f2 f3 f4 hTR
    repeat' (first | refine gA trivial ?_ | (refine gB trivial ?_;intro bb hbb;cases bb<;>(try simp only [hbs,if_false,reduceCtorEq] at hbb)) | apply qc_seq | fail)
    refine ⟨.inr trivial, .tup [.agg [.int .i64 B.L,stv,nxv], .int .i64 0],by simp [resVal,resOne,mkVal,lk,St.get_put,e6],fin _ fun id hid=>?_⟩
    rw [St.get_put,if_neg (fb id hid)]
end Go.Proofs.YthcllhhldknkmaaGreatDoor
