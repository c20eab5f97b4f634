/- The reference's Both. -/
import Derived.Test.YtmblpcidfjemhaaDoorBpn
set_option linter.unusedSimpArgs false
set_option linter.unusedVariables false
set_option maxRecDepth 100000
namespace Go.Proofs.YtmblpcidfjemhaaDoor
open Go Go.Pv
open Classical
set_option maxHeartbeats 32000000 in
theorem rboth_ok {vA vB:LV} {A B:Bu} {sa na sb nb:LV} (hA:IsB vA A sa na) (hB:IsB vB B sb nb) (hsz:A.next.length*B.next.length*2≤3000) {most:Int} :
    PE 26 [vA,vB, .int .i64 most] (BothA A B most):=by
  have hcA:=hA.closed
  have hcB:=hB.closed
  have hbA:=rbvalid_ok hA
  have hbB:=rbvalid_ok hB
  have hgO:=fun (okA:Vb A) (okB:Vb B) (hL:A.L=B.L)=>grB_ok (most:=3000) okA okB hL (by omega) (by omega)
  obtain ⟨rfl,hsa,va,hna⟩:=hA
  obtain ⟨rfl,hsb,vb,hnb⟩:=hB
  have ca1:=hsa.sl.cell
  have ca2:=hna.sl.cell
  have cb1:=hsb.sl.cell
  have cb2:=hnb.sl.cell
  have hla:=hna.sl.len
  have hlb:=hnb.sl.len
  have hlsa:=hsa.sl.len
  have hlsb:=hsb.sl.len
  refine q_fnExR Tryd.func26 (by decide +kernel) c26 (Nat.le_of_ble_eq_true rfl) (by
    have a1:sa.closed=true∧na.closed=true:=by simpa [LV.closed,LV.closed.closedAll] using hcA
    have a2:sb.closed=true∧nb.closed=true:=by simpa [LV.closed,LV.closed.closedAll] using hcB
    simp [LV.closed.closedAll,LV.closed,a1,a2]) ?_
  have e0:(envOf [LV.agg [.int .i64 A.L,sa,na],LV.agg [.int .i64 B.L,sb,nb], .int .i64 most]).at 0 = .agg [.int .i64 A.L,sa,na]:=by rw [envOf_at];rfl
  have e1:(envOf [LV.agg [.int .i64 A.L,sa,na],LV.agg [.int .i64 B.L,sb,nb], .int .i64 most]).at 1 = .agg [.int .i64 B.L,sb,nb]:=by rw [envOf_at];rfl
  have e2:(envOf [LV.agg [.int .i64 A.L,sa,na],LV.agg [.int .i64 B.L,sb,nb], .int .i64 most]).at 2 = .int .i64 most:=by rw [envOf_at];rfl
  generalize envOf [LV.agg [.int .i64 A.L,sa,na],LV.agg [.int .i64 B.L,sb,nb], .int .i64 most]=e at *
  unfold l26
  dsimp only [jA,jB,jC,jG,qM,qL,qN,qF,qS,qI,qA,qB,qC,qO,qP,qG,qm,ql]
  have hfe:∀ (c:Int) (S:St) (e':Env),BothA A B most (.tup [.agg [.int .i64 0, .nils, .nils], .int .i64 c])→e'.at 6 = .pref 0 0→e'.at 7 = .int .i64 c→S.get 0=some (.cells .mut [.int .i64 0, .nils, .nils])→∃ v,resVal [(.cell 6 (some 3)),(.tmp 7)] e' S=some v∧∃ r s',frz frzDepth v S=some (r,s')∧r.closed=true∧BothA A B most r:=fun c S e' h h6 h7 hg=>
    ⟨.tup [.agg [.int .i64 0, .nils, .nils], .int .i64 c],by simp [resVal,resOne,h6,h7,mkVal,lk,hg],_,_,frzD_closed rfl,rfl,h⟩
  repeat' (first | refine gA trivial ?_ | (refine gB trivial ?_;intro bb hbb;cases bb<;>(try simp only [hbs,if_false,reduceCtorEq] at hbb)) | apply qc_seq | fail)
  refine q_pureB hG0 (hbA) (by first | exact wN | (apply wG;(simp only [lk,Nat.reduceEqDiff,reduceIte,e0,e1,e2];(try rfl);done))) (by simp only [List.map,lk,Nat.reduceEqDiff,reduceIte,e0,e1,e2];try rfl) (fun bb hbb=>⟨by first | trivial | (simp only [Chks,wantedG,LOp.run,Env.put_some,Env.put_none,lk,sv1,sv2,sv3,Nat.reduceEqDiff,Nat.reduceAdd,Nat.reduceLeDiff,reduceIte,if_false,if_true,mkVal,unLV,List.map,optTmps,beq_self_eq_true,reduceCtorEq,false_or,true_and,and_true,Option.some.injEq, *];done),?_⟩)
  simp only [Env.put_some]
  cases bb<;>simp only [decide_eq_true_eq,decide_eq_false_iff_not] at hbb
  · repeat' (first | refine gA trivial ?_ | (refine gB trivial ?_;intro bb hbb;cases bb<;>(try simp only [hbs,if_false,reduceCtorEq] at hbb)) | apply qc_seq | fail)
    refine q_run0 (v:=.agg [.int .i64 0, .nils, .nils]) (by simp only [LOp.run,lk,sv1,sv2,sv3,Nat.reduceEqDiff,Nat.reduceAdd,Nat.reduceLeDiff,reduceIte,if_false,if_true,mkVal,unLV,List.map,optTmps,evParts,fillParts];rfl) ?_
    repeat' (first | refine gA trivial ?_ | (refine gB trivial ?_;intro bb hbb;cases bb<;>(try simp only [hbs,if_false,reduceCtorEq] at hbb)) | apply qc_seq | fail)
    exact ⟨.inr trivial,hfe 1 _ _ (.inl ⟨fun h=>hbb h.1,rfl⟩) ef ef (by simp [St.get_put])⟩
  have okA:=hbb
  clear hbb hbA
  repeat' (first | refine gA trivial ?_ | (refine gB trivial ?_;intro bb hbb;cases bb<;>(try simp only [hbs,if_false,reduceCtorEq] at hbb)) | apply qc_seq | fail)
  refine q_pureB hG0 (hbB) (by first | exact wN | (apply wG;(simp only [lk,Nat.reduceEqDiff,reduceIte,e0,e1,e2];(try rfl);done))) (by simp only [List.map,lk,Nat.reduceEqDiff,reduceIte,e0,e1,e2];try rfl) (fun bb hbb=>⟨by first | trivial | (simp only [Chks,wantedG,LOp.run,Env.put_some,Env.put_none,lk,sv1,sv2,sv3,Nat.reduceEqDiff,Nat.reduceAdd,Nat.reduceLeDiff,reduceIte,if_false,if_true,mkVal,unLV,List.map,optTmps,beq_self_eq_true,reduceCtorEq,false_or,true_and,and_true,Option.some.injEq, *];done),?_⟩)
  simp only [Env.put_some]
  cases bb<;>simp only [decide_eq_true_eq,decide_eq_false_iff_not] at hbb
  · repeat' (first | refine gA trivial ?_ | (refine gB trivial ?_;intro bb hbb;cases bb<;>(try simp only [hbs,if_false,reduceCtorEq] at hbb)) | apply qc_seq | fail)
    refine q_run0 (v:=.agg [.int .i64 0, .nils, .nils]) (by simp only [LOp.run,lk,sv1,sv2,sv3,Nat.reduceEqDiff,Nat.reduceAdd,Nat.reduceLeDiff,reduceIte,if_false,if_true,mkVal,unLV,List.map,optTmps,evParts,fillParts];rfl) ?_
    repeat' (first | refine gA trivial ?_ | (refine gB trivial ?_;intro bb hbb;cases bb<;>(try simp only [hbs,if_false,reduceCtorEq] at hbb)) | apply qc_seq | fail)
    exact ⟨.inr trivial,hfe 1 _ _ (.inl ⟨fun h=>hbb h.2.1,rfl⟩) ef ef (by simp [St.get_put])⟩
  have okB:=hbb
  clear hbb hbB
  have hs1:=start_len okA
  have hs2:=start_len okB
  have hs3:A.start.length*B.start.length≤A.next.length*B.next.length:=Nat.mul_le_mul hs1 hs2
  have hn3A:=okA.2.2.1
  have hn3B:=okB.2.2.1
  have hsL:=stP_len A B
  repeat' (first | refine gA trivial ?_ | (refine gB trivial ?_;intro bb hbb;cases bb<;>(try simp only [hbs,if_false,reduceCtorEq] at hbb)) | apply qc_seq | fail)
  rotate_left
  · refine q_run0 (v:=.agg [.int .i64 0, .nils, .nils]) (by simp only [LOp.run,lk,sv1,sv2,sv3,Nat.reduceEqDiff,Nat.reduceAdd,Nat.reduceLeDiff,reduceIte,if_false,if_true,mkVal,unLV,List.map,optTmps,evParts,fillParts];rfl) ?_
    repeat' (first | refine gA trivial ?_ | (refine gB trivial ?_;intro bb hbb;cases bb<;>(try simp only [hbs,if_false,reduceCtorEq] at hbb)) | apply qc_seq | fail)
    exact ⟨.inr trivial,hfe 1 _ _ (.inl ⟨fun h=>by have:=h.2.2.2.2;omega,rfl⟩) ef ef (by simp [St.get_put])⟩
  · refine q_run0 (v:=.agg [.int .i64 0, .nils, .nils]) (by simp only [LOp.run,lk,sv1,sv2,sv3,Nat.reduceEqDiff,Nat.reduceAdd,Nat.reduceLeDiff,reduceIte,if_false,if_true,mkVal,unLV,List.map,optTmps,evParts,fillParts];rfl) ?_
    repeat' (first | refine gA trivial ?_ | (refine gB trivial ?_;intro bb hbb;cases bb<;>(try simp only [hbs,if_false,reduceCtorEq] at hbb)) | apply qc_seq | fail)
    exact ⟨.inr trivial,hfe 1 _ _ (.inl ⟨fun h=>by have:=h.2.2.2.1;omega,rfl⟩) ef ef (by simp [St.get_put])⟩
  · refine q_run0 (v:=.agg [.int .i64 0, .nils, .nils]) (by simp only [LOp.run,lk,sv1,sv2,sv3,Nat.reduceEqDiff,Nat.reduceAdd,Nat.reduceLeDiff,reduceIte,if_false,if_true,mkVal,unLV,List.map,optTmps,evParts,fillParts];rfl) ?_
    repeat' (first | refine gA trivial ?_ | (refine gB trivial ?_;intro bb hbb;cases bb<;>(try simp only [hbs,if_false,reduceCtorEq] at hbb)) | apply qc_seq | fail)
    exact ⟨.inr trivial,hfe 1 _ _ (.inl ⟨fun h=>absurd h.2.2.1 (by assumption),rfl⟩) ef ef (by simp [St.get_put])⟩
  rename (A.L=B.L)=>hL
  rename (1≤most)=>hm1
  rename (most≤3000)=>hm3
  have hgr:=hgO okA okB hL
  clear hgO
  refine q_gen (v:=.agg [.int .i64 B.L, .nils, .nils]) (s':=St.empty.new (.cells .mut [.int .i64 0, .nils, .nils])) wN (by simp only [LOp.run,lk,sv1,sv2,sv3,Nat.reduceEqDiff,Nat.reduceAdd,Nat.reduceLeDiff,reduceIte,if_false,if_true,mkVal,unLV,List.map,optTmps,evParts,fillParts,hL];rfl) rfl trivial ?_
  simp only [Env.put_some]
  refine q_alk (m:=1) rfl trivial ?_
  refine q_storeG (i:=1) (o:=0) (n:=3) (cs:=[.int .i64 0, .nils, .nils]) (vs:=[.int .i64 B.L, .nils, .nils]) (cs':=[.int .i64 B.L, .nils, .nils]) (v:=.agg [.int .i64 B.L, .nils, .nils]) ef ef rfl (by simp [St.get_new,n_empty]) rfl (by decide) rfl ?_
  generalize hs4:((St.empty.new (.cells .mut [.int .i64 0, .nils, .nils])).new (.cells .mut [.int .i64 0, .nils, .nils])).put 1 (.cells .mut [.int .i64 B.L, .nils, .nils])=s4
  have n4:s4.n=2:=by rw [← hs4];rfl
  have k0:s4.get 0=some (.cells .mut [.int .i64 0, .nils, .nils]):=by rw [← hs4];simp [St.get_put,St.get_new,n_empty]
  have k1:s4.get 1=some (.cells .mut [.int .i64 B.L, .nils, .nils]):=by rw [← hs4,St.get_put,if_pos rfl]
  clear hs4
  have hT:TB (s4.new (.cells .mut [])) B.L B.next.length (.sref 2 0 0 3) .nils .nils [] [] []:=by
    refine ⟨⟨by omega,by rw [St.n_new,n4];omega,by rw [St.get_new,n4,if_neg (by omega)];exact k0,by rw [St.get_new,n4,if_neg (by omega)];exact k1,⟨rfl, .inl ⟨rfl,rfl⟩⟩,⟨[],rfl,⟨rfl, .inl ⟨rfl,rfl⟩⟩,fun i hi=>absurd hi (Nat.not_lt_zero _)⟩,fun id hu=>?_,fun id hu=>absurd hu (uses_nils id)⟩,⟨rfl, .inr ⟨2,rfl,by rw [St.n_new,n4];omega,by rw [St.get_new,n4,if_pos rfl];rfl⟩⟩,fun id hu=>?_⟩
    · rcases hu with hu | hu<;>exact absurd hu (uses_nils id)
    · have:=uses_sref.1 hu
      rintro (h | h | h | h)
      · omega
      · omega
      · exact absurd h (uses_nils id)
      · exact absurd h (uses_nils id)
  clear k0 k1
  replace hL:Bx (A.L=B.L):=⟨hL⟩
  repeat' (first | refine gA @hlsa ?_ | (refine gB @hlsa ?_;intro bb hbb;cases bb<;>(try simp only [hbs,if_false,reduceCtorEq] at hbb)) | apply qc_seq | fail)
  generalize s4.new (.cells .mut [])=s5 at *
  generalize LV.sref 2 0 0 3=ov0 at *
  clear n4
  clear s4
  obtain ⟨nB,hnB⟩:∃ nB,B.start.length=nB:=⟨_,rfl⟩
  have hgA:∀ {i:Nat} {z:Int},A.start[i]? = some z→(ints A.start)[i]? = some (.int .i64 z):=fun h=>by simp [ints,h]
  have hgB:∀ {i:Nat} {z:Int},B.start[i]? = some z→(ints B.start)[i]? = some (.int .i64 z):=fun h=>by simp [ints,h]
  refine qc_loop (fun q e s=>∃ (i:Nat) (ov stv:LV),q=A.start.length - i∧i≤A.start.length∧TB s B.L B.next.length ov stv .nils ((stP A B).take (i*nB)) ((List.range (i*nB)).map fun (j:Nat)=>(j:Int)) []∧e.at 2 = .int .i64 most∧e.at 3 = .pimm [.int .i64 A.L,sa,na] 0∧e.at 4 = .pimm [.int .i64 B.L,sb,nb] 0∧e.at 6 = .pref 0 0∧e.at 8 = .pref 1 0∧e.at 9=ov∧e.at 10 = .int .i64 (i:Int)) _
    ⟨0,ov0, .nils,rfl,by omega,by simpa using hT,ef,ef,ef,ef,ef,ef,by simp only [lk,sv1,sv2,sv3,Nat.reduceEqDiff,Nat.reduceAdd,Nat.reduceLeDiff,reduceIte,if_false,if_true,mkVal,unLV,List.map,optTmps];rfl⟩ ?_
  clear e0 e1 e2 hT
  clear e s5 ov0
  rintro q e s ⟨i,ov,stv,rfl,hi,hT,e2,e3,e4,e6,e8,e9,e10⟩
  by_cases hil:i<A.start.length
  · have hiI:(i:Int)<(A.start.length:Int):=by omega
    have hwi:IntKind.i64.wrap ((i:Int)+1)=((i+1:Nat):Int):=by rw [wrap_i64 _ (by omega) (by omega)];rfl
    obtain ⟨z,hz⟩:∃ z,A.start[i]? = some z:=⟨_,List.getElem?_eq_getElem hil⟩
    have hzr:=st_rng okA hz
    have hgz:=hgA hz
    have hia:∀ s,iaLV 1 sa (.int .i64 (i:Int)) s=some (.pimm (ints A.start) i,s):=fun s=>by
      have:=iaN (esz:=1) (k:=.i64) (s:=s) (i:=i) hsa.sl hiI
      simpa using this
    repeat' (first | refine gA @hlsa ?_ | (refine gB @hlsa ?_;intro bb hbb;cases bb<;>(try simp only [hbs,if_false,reduceCtorEq] at hbb)) | apply qc_seq | fail)
    any_goals (exfalso;omega)
    refine qc_loop (fun q e s=>∃ (k:Nat) (ov stv:LV),q=nB - k∧k≤nB∧TB s B.L B.next.length ov stv .nils ((stP A B).take (i*nB+k)) ((List.range (i*nB+k)).map fun (j:Nat)=>(j:Int)) []∧e.at 2 = .int .i64 most∧e.at 3 = .pimm [.int .i64 A.L,sa,na] 0∧e.at 4 = .pimm [.int .i64 B.L,sb,nb] 0∧e.at 6 = .pref 0 0∧e.at 8 = .pref 1 0∧e.at 9=ov∧e.at 10 = .int .i64 (i:Int)∧e.at 11 = .int .i64 (k:Int)) _
      ⟨0,ov,stv,rfl,by omega,hT,ef,ef,ef,ef,ef,ef,ef,by simp only [lk,sv1,sv2,sv3,Nat.reduceEqDiff,Nat.reduceAdd,Nat.reduceLeDiff,reduceIte,if_false,if_true,mkVal,unLV,List.map,optTmps];rfl⟩ ?_
    clear e2 e3 e4 e6 e8 e9 e10 hT hbb
    clear e s ov stv
    rintro q e s ⟨k,ov,stv,rfl,hk,hT,e2,e3,e4,e6,e8,e9,e10,e11⟩
    by_cases hkl:k<nB
    · have hkI:(k:Int)<(nB:Int):=by omega
      have hwk:IntKind.i64.wrap ((k:Int)+1)=((k+1:Nat):Int):=by rw [wrap_i64 _ (by omega) (by omega)];rfl
      obtain ⟨y,hy⟩:∃ y,B.start[k]? = some y:=⟨_,List.getElem?_eq_getElem (by omega)⟩
      have hyr:=st_rng okB hy
      have hgy:=hgB hy
      have hsg:=stP_get hz hy
      rw [hnB] at hsg
      have hib:∀ s,iaLV 1 sb (.int .i64 (k:Int)) s=some (.pimm (ints B.start) k,s):=fun s=>by
        have:=iaN (esz:=1) (k:=.i64) (s:=s) (i:=k) hsb.sl (by omega)
        simpa using this
      have hqs:i*nB+k<(stP A B).length:=(List.getElem?_eq_some_iff.1 hsg).1
      have htk:(stP A B).take (i*nB+(k+1))=(stP A B).take (i*nB+k)++[pcode B.next.length z.toNat y.toNat 0]:=by
        rw [show i*nB+(k+1)=i*nB+k+1 by omega,List.take_add_one,hsg];rfl
      have hrk:((List.range (i*nB+(k+1))).map fun (j:Nat)=>(j:Int))=((List.range (i*nB+k)).map fun (j:Nat)=>(j:Int))++[((i*nB+k:Nat):Int)]:=by
        rw [show i*nB+(k+1)=i*nB+k+1 by omega,List.range_succ];simp
      have hl1:((stP A B).take (i*nB+k)).length=i*nB+k:=by simp;omega
      have hl2:((List.range (i*nB+k)).map fun (j:Nat)=>(j:Int)).length=i*nB+k:=by simp
      obtain ⟨pp1,pp2,pp3⟩:=pcode_parts (m:=B.next.length) (x:=z.toNat) (y:=y.toNat) (t:=0) (by omega) (by decide)
      rw [Int.toNat_of_nonneg hzr.1] at pp1
      rw [Int.toNat_of_nonneg hyr.1] at pp2
      have hqm:i*nB+k≤3000:=by omega
      generalize i*nB+k=u at *
      generalize (stP A B).take u=ps at *
      generalize ((List.range u).map fun (j:Nat)=>(j:Int))=S0 at *
      generalize pcode B.next.length z.toNat y.toNat 0=pc at *
      have hol:=hT.od.len
      rw [hl1] at hol
      have g1:=hT.ob.g1
      repeat' (first | refine gA (And.intro @hlsb @hol) ?_ | (refine gB (And.intro @hlsb @hol) ?_;intro bb hbb;cases bb<;>(try simp only [hbs,if_false,reduceCtorEq] at hbb)) | apply qc_seq | fail)
      any_goals (exfalso;omega)
      refine q_appEk (n:=S0.length) (esz:=1) (xv:=.int .i64 (u:Int)) (yv:=stv) (vs:=[.int .i64 (u:Int)]) ef rfl rfl rfl rfl ef hT.ob.ss trivial (by decide) (by omega) (fun s3 j3 a1 a2 a3 a4=>?_)
      have hT2:=hT.start a1 a2 a3 a4
      have k3:s3.get 1=some (.cells .mut [.int .i64 B.L,stv, .nils]):=by
        rw [a4 1 hT.ob.on fun hu=>by have:=hT.ob.lo 1 (.inl hu);omega];exact g1
      clear hT g1 a1 a2 a3 a4
      repeat' (first | refine gA (And.intro @hia (And.intro @hgz (And.intro @hib @hgy))) ?_ | (refine gB (And.intro @hia (And.intro @hgz (And.intro @hib @hgy))) ?_;intro bb hbb;cases bb<;>(try simp only [hbs,if_false,reduceCtorEq] at hbb)) | apply qc_seq | fail)
      rw [hl2] at hT2
      generalize s3.put 1 (.cells .mut [.int .i64 B.L, .sref j3 0 (u+1) 1, .nils])=s4 at *
      generalize LV.sref j3 0 (u+1) 1=stv2 at *
      clear k3
      refine q_gen (v:=.agg [.int .i64 z, .int .i64 y, .int .i64 0]) (s':=s4) wN (by simp only [LOp.run,lk,sv1,sv2,sv3,Nat.reduceEqDiff,Nat.reduceAdd,Nat.reduceLeDiff,reduceIte,if_false,if_true,mkVal,unLV,List.map,optTmps,evParts,fillParts];rfl) (by first | rfl | decide) trivial ?_
      simp only [Env.put_some]
      refine q_appEk (n:=ps.length) (esz:=3) (xv:=.agg [.int .i64 z, .int .i64 y, .int .i64 0]) (yv:=ov) (vs:=[.int .i64 z, .int .i64 y, .int .i64 0]) ef rfl rfl rfl rfl ef hT2.od
        ⟨chk_ld (p:=.pimm [.int .i64 A.L,sa,na] 1) (v:=sa) ef rfl ef,chk_ld (p:=.pimm (ints A.start) i) (v:=.int .i64 z) ef (load_imm hgz) ef,chk_ld (p:=.pimm [.int .i64 B.L,sb,nb] 1) (v:=sb) ef rfl ef,chk_ld (p:=.pimm (ints B.start) k) (v:=.int .i64 y) ef (load_imm hgy) ef,trivial⟩
        (by decide) (by omega) (fun s5 j5 a1 a2 a3 a4=>?_)
      have hod:SkE s5 (.sref j5 0 (ps.length+1) 3) 3 (tcells3 B.next.length (ps++[pc])) (ps++[pc]).length:=by
        have h1:tcells3 B.next.length (ps++[pc])=tcells3 B.next.length ps++[.int .i64 z, .int .i64 y, .int .i64 0]:=by
          rw [tcells3_append]
          simp only [tcells3,List.append_nil]
          rw [← pp1,← pp2]
          show _++pc3 _ _=_
          unfold pc3
          rw [pp3]
          rfl
        rw [h1,List.length_append]
        exact SkC.e a2
      have hT3:=hT2.od' hod a3 (fun id hu=>.inr (by have:=uses_sref.1 hu;omega)) a4
      clear hT2 hod a1 a2 a3 a4
      repeat' (first | refine gA trivial ?_ | (refine gB trivial ?_;intro bb hbb;cases bb<;>(try simp only [hbs,if_false,reduceCtorEq] at hbb)) | apply qc_seq | fail)
      exact ⟨nB - (k+1),by omega,k+1,_,_,rfl,by omega,by rw [htk,hrk];exact hT3,ef,ef,ef,ef,ef,ef,ef,ef⟩
    · have hke:k=nB:=by omega
      have hwr:i*nB+k=(i+1)*nB:=by rw [hke,Nat.add_mul,Nat.one_mul]
      rw [hwr] at hT
      repeat' (first | refine gA @hlsb ?_ | (refine gB @hlsb ?_;intro bb hbb;cases bb<;>(try simp only [hbs,if_false,reduceCtorEq] at hbb)) | apply qc_seq | fail)
      any_goals (exfalso;omega)
      exact ⟨A.start.length - (i+1),by omega,i+1,ov,stv,rfl,by omega,hT,ef,ef,ef,ef,ef,ef,ef⟩
  · have hie:i=A.start.length:=by omega
    have hts:(stP A B).take (i*nB)=stP A B:=by rw [hie,← hnB,← hsL,List.take_length]
    have htl:i*nB=(stP A B).length:=by rw [hie,← hnB,← hsL]
    rw [hts,htl] at hT
    have hol:=hT.od.len
    have hs0R:Pre (stP A B) (grB A B).R:=by
      rw [← s0_is okA okB]
      exact runN_pre _ _ _ _
    have g0:=hT.ob.g0
    repeat' (first | refine gA (And.intro @hlsa @hol) ?_ | (refine gB (And.intro @hlsa @hol) ?_;intro bb hbb;cases bb<;>(try simp only [hbs,if_false,reduceCtorEq] at hbb)) | apply qc_seq | fail)
    any_goals (exfalso;omega)
    rotate_left
    · have hbig:most<((grB A B).R.length:Int):=by have:=pre_len hs0R;omega
      refine q_run0 (v:=.agg [.int .i64 0, .nils, .nils]) (by simp only [LOp.run,lk,sv1,sv2,sv3,Nat.reduceEqDiff,Nat.reduceAdd,Nat.reduceLeDiff,reduceIte,if_false,if_true,mkVal,unLV,List.map,optTmps,evParts,fillParts];rfl) ?_
      repeat' (first | refine gA trivial ?_ | (refine gB trivial ?_;intro bb hbb;cases bb<;>(try simp only [hbs,if_false,reduceCtorEq] at hbb)) | apply qc_seq | fail)
      exact ⟨.inr trivial,hfe 2 _ _ (.inr (.inl ⟨⟨okA,okB,hL.out,hm1,hm3⟩,hbig,rfl⟩)) ef ef (by simp [St.get_put])⟩
    have hlm:((stP A B).length:Int)≤most:=hbb
    obtain ⟨ST,hST⟩:∃ ST,Bx (((List.range (stP A B).length).map fun (j:Nat)=>(j:Int))=ST):=⟨_,⟨rfl⟩⟩
    rw [hST.out] at hT
    have hNN:(grB A B).N≤3000:=by have:=hgr.N3;omega
    have hRl:=gr_len hgr (Pre.refl (grB A B).R)
    obtain ⟨gN,hgN⟩:∃ gN,(grB A B).N=gN:=⟨_,rfl⟩
    rw [hgN] at hNN hRl
    refine qc_loop (fun q e s=>∃ (i:Nat) (ps:List Nat) (ov nxv:LV),q=gN+1 - i∧i≤ps.length∧(ps.length:Int)≤most∧runN (grB A B).suc (gN+1 - i) i ps=(grB A B).R∧TB s B.L B.next.length ov stv nxv ps ST (((grB A B).R.take i).map (rowB2 A B))∧e.at 2 = .int .i64 most∧e.at 3 = .pimm [.int .i64 A.L,sa,na] 0∧e.at 4 = .pimm [.int .i64 B.L,sb,nb] 0∧e.at 6 = .pref 0 0∧e.at 8 = .pref 1 0∧e.at 9=ov∧e.at 12 = .int .i64 (i:Int)) _
      ⟨0,stP A B,ov, .nils,rfl,Nat.zero_le _,hlm,by rw [← s0_is okA okB,← hgN];rfl,hT,ef,ef,ef,ef,ef,ef,by simp only [lk,sv1,sv2,sv3,Nat.reduceEqDiff,Nat.reduceAdd,Nat.reduceLeDiff,reduceIte,if_false,if_true,mkVal,unLV,List.map,optTmps];rfl⟩ ?_
    clear e2 e3 e4 e6 e8 e9 e10 hT hie hil hi hbb hts htl hol g0 hlm hs0R
    clear e s ov
    rintro q e s ⟨i,ps,ov,nxv,rfl,hip,hpm,hrun,hT,e2,e3,e4,e6,e8,e9,e12⟩
    have hpre:Pre ps (grB A B).R:=by rw [← hrun];exact runN_pre _ _ _ _
    have hpl:=gr_len hgr hpre
    rw [hgN] at hpl
    have hol:=hT.od.len
    by_cases hil:i<ps.length
    · have hiI:(i:Int)<(ps.length:Int):=by omega
      have hwi:IntKind.i64.wrap ((i:Int)+1)=((i+1:Nat):Int):=by rw [wrap_i64 _ (by omega) (by omega)];rfl
      obtain ⟨p,hp⟩:∃ p,ps[i]? = some p:=⟨_,List.getElem?_eq_getElem hil⟩
      have hpR:=pre_get hpre hp
      have hpN:p<A.next.length*B.next.length*2:=(gr_ok hgr).2.1 p (List.mem_of_getElem? hpR)
      have hrun2:runN (grB A B).suc (gN+1 - (i+1)) (i+1) (addsN ps ((grB A B).suc p))=(grB A B).R:=by
        rw [← hrun,show gN+1 - i=(gN+1 - (i+1))+1 by omega,run_step hp]
      have hRT:((grB A B).R.take (i+1)).map (rowB2 A B)=((grB A B).R.take i).map (rowB2 A B)++[rowB2 A B p]:=by rw [List.take_add_one,hpR];simp
      have hNl:(((grB A B).R.take i).map (rowB2 A B)).length≤3000:=by simp;omega
      generalize hN0:((grB A B).R.take i).map (rowB2 A B)=N0 at *
      have hpre2:Pre (addsN ps ((grB A B).suc p)) (grB A B).R:=by rw [← hrun2];exact runN_pre _ _ _ _
      have hmpos:0<B.next.length:=Nat.pos_of_ne_zero fun h=>by rw [h] at hpN;simp at hpN
      have hx0:p / 2 / B.next.length<A.next.length:=by
        rw [Nat.div_lt_iff_lt_mul hmpos];omega
      have hy0:p / 2 % B.next.length<B.next.length:=Nat.mod_lt _ hmpos
      have ht0:p % 2<2:=Nat.mod_lt _ (by decide)
      obtain ⟨pc1,pc2,pc3'⟩:px B.next.length p=((p / 2 / B.next.length:Nat):Int)∧py B.next.length p=((p / 2 % B.next.length:Nat):Int)∧pt p=((p % 2:Nat):Int):=⟨rfl,rfl,rfl⟩
      have hmv:∀ a,(grB A B).mv p a=mvX A B (p / 2 / B.next.length) (p / 2 % B.next.length) (p % 2) a:=fun a=>rfl
      generalize p / 2 / B.next.length=x0 at *
      generalize p / 2 % B.next.length=y0 at *
      generalize p % 2=t0 at *
      repeat' (first | refine gA @hol ?_ | (refine gB @hol ?_;intro bb hbb;cases bb<;>(try simp only [hbs,if_false,reduceCtorEq] at hbb)) | apply qc_seq | fail)
      any_goals (exfalso;omega)
      have hT1:=hT.keep (s':=s.new (.cells .mut [])) (by simp) fun id hu=>by rw [St.get_new,if_neg (by have:=hT.lt hu;omega)]
      have hR1:RW (s.new (.cells .mut [])) (.sref s.n 0 0 1) [] []:=⟨rfl,⟨rfl, .inr ⟨s.n,rfl,by simp,by simp [St.get_new]⟩⟩,fun i hi=>absurd hi (Nat.not_lt_zero _)⟩
      have hD1:∀ id,uses (.sref s.n 0 0 1) id→¬ TV ov stv nxv id:=fun id hu hu'=>by
        have:=uses_sref.1 hu
        have:=hT.lt hu'
        omega
      generalize LV.sref s.n 0 0 1=rv0 at *
      generalize s.new (.cells .mut [])=s1 at *
      obtain ⟨Ln,hLt⟩:∃ Ln:Nat,B.L.toNat=Ln:=⟨_,rfl⟩
      have hLB:=okB.1
      have hLB2:=okB.2.1
      have hLA:A.L.toNat=Ln:=by rw [hL.out];exact hLt
      refine qc_loop (fun q e s=>∃ (x:Nat) (ov rv:LV) (cells:List LV),q=Ln - x∧x≤Ln∧TB s B.L B.next.length ov stv nxv (addsN ps ((List.range x).flatMap ((grB A B).sa p))) ST N0∧RW s rv ((List.range x).map fun a=>insL [] ((grB A B).ren ((grB A B).mv p a))) cells∧(∀ id,uses rv id→¬ TV ov stv nxv id)∧e.at 2 = .int .i64 most∧e.at 3 = .pimm [.int .i64 A.L,sa,na] 0∧e.at 4 = .pimm [.int .i64 B.L,sb,nb] 0∧e.at 6 = .pref 0 0∧e.at 8 = .pref 1 0∧e.at 9=ov∧e.at 12 = .int .i64 (i:Int)∧e.at 13=rv∧e.at 14 = .int .i64 (x:Int)) _
        ⟨0,ov,rv0,[],rfl,by omega,hT1,hR1,hD1,ef,ef,ef,ef,ef,ef,ef,ef,by simp only [lk,sv1,sv2,sv3,Nat.reduceEqDiff,Nat.reduceAdd,Nat.reduceLeDiff,reduceIte,if_false,if_true,mkVal,unLV,List.map,optTmps];rfl⟩ ?_
      clear e2 e3 e4 e6 e8 e9 e12 hT hT1 hR1 hD1 hbb hol
      clear e s s1 rv0 ov
      rintro q e s ⟨x,ov,rv,cells,rfl,hx,hT,hR,hD,e2,e3,e4,e6,e8,e9,e12,e13,e14⟩
      have g1:=hT.ob.g1
      by_cases hxl:x<Ln
      · have hxI:(x:Int)<B.L:=by omega
        have hwx:IntKind.i64.wrap ((x:Int)+1)=((x+1:Nat):Int):=by rw [wrap_i64 _ (by omega) (by omega)];rfl
        have hxr:x<(A.next.getD x0 []).length:=by
          have h1:=(okA.2.2.2.2 x0 hx0).1
          have h2:=hL.out
          omega
        have hyr:x<(B.next.getD y0 []).length:=by have:=(okB.2.2.2.2 y0 hy0).1;omega
        obtain ⟨wa,hra⟩:=hna.row x0 hx0
        obtain ⟨wb,hrb⟩:=hnb.row y0 hy0
        have ga1:va[x0]? = some (va.getD x0 .top):=hna.get hx0
        have gb1:vb[y0]? = some (vb.getD y0 .top):=hnb.get hy0
        have ga2:wa[x]? = some (wa.getD x .top):=hra.get hxr
        have gb2:wb[x]? = some (wb.getD x .top):=hrb.get hyr
        have hma:=hra.row x hxr
        have hmb:=hrb.row x hyr
        have hmoA:=(okA.2.2.2.2 x0 hx0).2 x hxr
        have hmoB:=(okB.2.2.2.2 y0 hy0).2 x hyr
        have hlA:=mok_len' hmoA
        have hlB:=mok_len' hmoB
        have hmvx:=hmv x
        unfold mvX at hmvx
        have hsA:(A.next.getD x0 []).getD x []=rowM A x0 x:=rfl
        have hsB:(B.next.getD y0 []).getD x []=rowM B y0 x:=rfl
        rw [hsA] at hma hmoA hlA
        rw [hsB] at hmb hmoB hlB
        have hmla:=hma.sl.len
        have hmlb:=hmb.sl.len
        have ia1:∀ s,iaLV 1 na (.int .i64 (x0:Int)) s=some (.pimm va x0,s):=fun s=>by
          have:=iaN (esz:=1) (k:=.i64) (s:=s) (i:=x0) hna.sl (by omega)
          simpa using this
        have ib1:∀ s,iaLV 1 nb (.int .i64 (y0:Int)) s=some (.pimm vb y0,s):=fun s=>by
          have:=iaN (esz:=1) (k:=.i64) (s:=s) (i:=y0) hnb.sl (by omega)
          simpa using this
        have ia2:∀ s,iaLV 1 (va.getD x0 .top) (.int .i64 (x:Int)) s=some (.pimm wa x,s):=fun s=>by
          have:=iaN (esz:=1) (k:=.i64) (s:=s) (i:=x) hra.sl (by omega)
          simpa using this
        have ib2:∀ s,iaLV 1 (vb.getD y0 .top) (.int .i64 (x:Int)) s=some (.pimm wb x,s):=fun s=>by
          have:=iaN (esz:=1) (k:=.i64) (s:=s) (i:=x) hrb.sl (by omega)
          simpa using this
        have hml6:(rowM A x0 x).length*(rowM B y0 x).length≤6000:=by
          have h1:(rowM A x0 x).length*(rowM B y0 x).length≤(2*A.next.length)*(2*B.next.length):=Nat.mul_le_mul hlA hlB
          have h2:(2*A.next.length)*(2*B.next.length)=2*(A.next.length*B.next.length*2):=by
            rw [Nat.mul_mul_mul_comm];omega
          omega
        have hpp:(addsN ps ((List.range x).flatMap ((grB A B).sa p)))[i]? = some p:=pre_get (addsN_pre _ _) hp
        have hnext:addsN ps ((List.range (x+1)).flatMap ((grB A B).sa p))=addsN (addsN ps ((List.range x).flatMap ((grB A B).sa p))) ((grB A B).sa p x):=by
          rw [List.range_succ,List.flatMap_append,addsN_append];simp
        have hRT2:((List.range (x+1)).map fun a=>insL [] ((grB A B).ren ((grB A B).mv p a)))=((List.range x).map fun a=>insL [] ((grB A B).ren ((grB A B).mv p a)))++[insL [] ((grB A B).ren ((grB A B).mv p x))]:=by rw [List.range_succ];simp
        have hR0l:((List.range x).map fun a=>insL [] ((grB A B).ren ((grB A B).mv p a))).length=x:=by simp
        have hprex:∀ j k,(j<(rowM A x0 x).length∨j=(rowM A x0 x).length∧k=0)→Pre (addsN (addsN ps ((List.range x).flatMap ((grB A B).sa p))) ((mvJK B.next.length t0 (rowM A x0 x) (rowM B y0 x) j k).map (·.1))) (grB A B).R:=fun j k h=>by
          obtain ⟨r,hr⟩:=mvJK_pre (m:=B.next.length) (t:=t0) (ns:=rowM B y0 x) h
          have hsa:(grB A B).sa p x=(mvJK B.next.length t0 (rowM A x0 x) (rowM B y0 x) j k).map (·.1)++r.map (·.1):=by
            show ((grB A B).mv p x).map (·.1)=_
            rw [hmvx,hr,List.map_append]
          obtain ⟨l2,h2⟩:=fm_split (f:=(grB A B).sa p) (L:=A.L.toNat) (x:=x) (by omega) hsa
          have h3:(grB A B).suc p=(List.range A.L.toNat).flatMap ((grB A B).sa p):=rfl
          rw [h3,h2] at hpre2
          rw [← addsN_append]
          exact pre_adds.trans hpre2
        have hsaX:(grB A B).sa p x=((grB A B).mv p x).map (·.1):=rfl
        generalize hpx:addsN ps ((List.range x).flatMap ((grB A B).sa p))=px' at *
        generalize hR0:((List.range x).map fun a=>insL [] ((grB A B).ren ((grB A B).mv p a)))=R0 at *
        generalize rowM A x0 x=ms at *
        generalize rowM B y0 x=ns at *
        have hpxl:i<px'.length:=(List.getElem?_eq_some_iff.1 hpp).1
        obtain ⟨jo,rfl,hjl,hjg⟩:=hT.od.pos (by omega)
        obtain ⟨q1,q2,q3⟩:=pc_get (m:=B.next.length) hpp
        rw [pc1] at q1
        rw [pc2] at q2
        have hjo2:∀ s,iaLV 3 (.sref jo 0 px'.length 3) (.int .i64 (i:Int)) s=some (.pref jo (i*3),s):=fun s=>by
          have:=iaS (esz:=3) (j:=jo) (off:=0) (len:=px'.length) (k:=.i64) (s:=s) (i:=i) (by omega)
          simpa using this
        have hjg2:(s.new (.cells .mut [])).get jo=some (.cells .mut (tcells3 B.next.length px')):=by rw [St.get_new,if_neg (by omega)];exact hjg
        generalize hmvA:wa.getD x .top=mvA at *
        generalize hmvB:wb.getD x .top=mvB at *
        generalize va.getD x0 .top=rowa at *
        generalize vb.getD y0 .top=rowb at *
        have hl1:=hL.out
        clear hl1
        repeat' (first | refine gA (And.intro @hjo2 (And.intro @q1 (And.intro @q2 (And.intro @ia1 (And.intro @ga1 (And.intro @ia2 (And.intro @ga2 (And.intro @ib1 (And.intro @gb1 (And.intro @ib2 @gb2)))))))))) ?_ | (refine gB (And.intro @hjo2 (And.intro @q1 (And.intro @q2 (And.intro @ia1 (And.intro @ga1 (And.intro @ia2 (And.intro @ga2 (And.intro @ib1 (And.intro @gb1 (And.intro @ib2 @gb2)))))))))) ?_;intro bb hbb;cases bb<;>(try simp only [hbs,if_false,reduceCtorEq] at hbb)) | apply qc_seq | fail)
        any_goals (exfalso;omega)
        have hT1:=hT.keep (s':=s.new (.cells .mut [])) (by simp) fun id hu=>by rw [St.get_new,if_neg (by have:=hT.lt hu;omega)]
        have hR1:=hR.keep (s':=s.new (.cells .mut [])) (by simp) fun id hu=>by rw [St.get_new,if_neg (by have:=hR.sk.lt hu;omega)]
        have hV1:=RV.emp s
        have hD2:∀ id,uses (.sref s.n 0 0 2) id→¬ TV (.sref jo 0 px'.length 3) stv nxv id∧¬ uses rv id:=fun id hu=>by
          have h1:=uses_sref.1 hu
          exact ⟨fun hu'=>by have:=hT.lt hu';omega,fun hu'=>by have:=hR.sk.lt hu';omega⟩
        clear hT hR hjl hjg hjo2 hjg2 q1 q2 q3 g1
        generalize LV.sref s.n 0 0 2=w0 at *
        generalize s.new (.cells .mut [])=s1 at *
        generalize LV.sref jo 0 px'.length 3=ov at *
        refine qc_loop (fun q e s=>∃ (j:Nat) (ov w:LV) (T:Nat→Prop),q=ms.length - j∧j≤ms.length∧TB s B.L B.next.length ov stv nxv (addsN px' ((mvJK B.next.length t0 ms ns j 0).map (·.1))) ST N0∧RW s rv R0 cells∧(∀ id,uses rv id→¬ TV ov stv nxv id)∧RV s w (insL [] ((grB A B).ren (mvJK B.next.length t0 ms ns j 0))) T∧(∀ id,T id→¬ TV ov stv nxv id∧¬ uses rv id)∧e.at 2 = .int .i64 most∧e.at 3 = .pimm [.int .i64 A.L,sa,na] 0∧e.at 4 = .pimm [.int .i64 B.L,sb,nb] 0∧e.at 6 = .pref 0 0∧e.at 8 = .pref 1 0∧e.at 9=ov∧e.at 12 = .int .i64 (i:Int)∧e.at 13=rv∧e.at 14 = .int .i64 (x:Int)∧e.at 15=w∧e.at 16=mvA∧e.at 17=mvB∧e.at 18 = .int .i64 (j:Int)) _
          ⟨0,ov,w0,_,rfl,by omega,by simpa [mvJK_zero,addsN] using hT1,hR1,hD,by rw [mvJK_zero];exact hV1,hD2,ef,ef,ef,ef,ef,ef,ef,ef,ef,ef,ef,ef,by simp only [lk,sv1,sv2,sv3,Nat.reduceEqDiff,Nat.reduceAdd,Nat.reduceLeDiff,reduceIte,if_false,if_true,mkVal,unLV,List.map,optTmps];rfl⟩ ?_
        clear e2 e3 e4 e6 e8 e9 e12 e13 e14 hT1 hR1 hD hV1 hD2 hbb
        clear e s s1 w0 ov
        rintro q e s ⟨j,ov,w,T,rfl,hj,hT,hR,hD,hV,hD2,e2,e3,e4,e6,e8,e9,e12,e13,e14,e15,e16,e17,e18⟩
        by_cases hjl:j<ms.length
        · have hjI:(j:Int)<(ms.length:Int):=by omega
          have hwj:IntKind.i64.wrap ((j:Int)+1)=((j+1:Nat):Int):=by rw [wrap_i64 _ (by omega) (by omega)];rfl
          have hmr:=hmoA j hjl
          obtain ⟨md,hmd⟩:∃ md,ms[j]? = some md:=⟨_,List.getElem?_eq_getElem hjl⟩
          have hgd:ms.getD j (0,false)=md:=by rw [List.getD_eq_getElem?_getD,hmd];rfl
          rw [hgd] at hmr
          have lm:=mcells_get0 hjl
          have lb:=mcells_get1 hjl
          rw [hgd] at lm lb
          obtain ⟨mt,mg⟩:=md
          simp only at hmr lm lb
          have hlm:∀ t:St,loadLV none (.pimm (mcells ms) (j*2+0)) t=some (.int .i64 mt):=fun t=>load_imm lm
          have hlg:∀ t:St,loadLV none (.pimm (mcells ms) (j*2+1)) t=some (.bool mg):=fun t=>load_imm lb
          clear lm lb
          repeat' (first | refine gA (And.intro @hmla @hmlb) ?_ | (refine gB (And.intro @hmla @hmlb) ?_;intro bb hbb;cases bb<;>(try simp only [hbs,if_false,reduceCtorEq] at hbb)) | apply qc_seq | fail)
          any_goals (exfalso;omega)
          refine qc_loop (fun q e s=>∃ (k:Nat) (ov w:LV) (T:Nat→Prop),q=ns.length - k∧k≤ns.length∧TB s B.L B.next.length ov stv nxv (addsN px' ((mvJK B.next.length t0 ms ns j k).map (·.1))) ST N0∧RW s rv R0 cells∧(∀ id,uses rv id→¬ TV ov stv nxv id)∧RV s w (insL [] ((grB A B).ren (mvJK B.next.length t0 ms ns j k))) T∧(∀ id,T id→¬ TV ov stv nxv id∧¬ uses rv id)∧e.at 2 = .int .i64 most∧e.at 3 = .pimm [.int .i64 A.L,sa,na] 0∧e.at 4 = .pimm [.int .i64 B.L,sb,nb] 0∧e.at 6 = .pref 0 0∧e.at 8 = .pref 1 0∧e.at 9=ov∧e.at 12 = .int .i64 (i:Int)∧e.at 13=rv∧e.at 14 = .int .i64 (x:Int)∧e.at 15=w∧e.at 16=mvA∧e.at 17=mvB∧e.at 18 = .int .i64 (j:Int)∧e.at 19 = .int .i64 (k:Int)) _
            ⟨0,ov,w,T,rfl,by omega,hT,hR,hD,hV,hD2,ef,ef,ef,ef,ef,ef,ef,ef,ef,ef,ef,ef,ef,by simp only [lk,sv1,sv2,sv3,Nat.reduceEqDiff,Nat.reduceAdd,Nat.reduceLeDiff,reduceIte,if_false,if_true,mkVal,unLV,List.map,optTmps];rfl⟩ ?_
          clear e2 e3 e4 e6 e8 e9 e12 e13 e14 e15 e16 e17 e18 hT hR hD hV hD2 hbb
          clear e s w ov T
          rintro q e s ⟨k,ov,w,T,rfl,hk,hT,hR,hD,hV,hD2,e2,e3,e4,e6,e8,e9,e12,e13,e14,e15,e16,e17,e18,e19⟩
          by_cases hkl:k<ns.length
          · have hkI:(k:Int)<(ns.length:Int):=by omega
            have hwk:IntKind.i64.wrap ((k:Int)+1)=((k+1:Nat):Int):=by rw [wrap_i64 _ (by omega) (by omega)];rfl
            have hnr:=hmoB k hkl
            obtain ⟨nd,hnd⟩:∃ nd,ns[k]? = some nd:=⟨_,List.getElem?_eq_getElem hkl⟩
            have hgd2:ns.getD k (0,false)=nd:=by rw [List.getD_eq_getElem?_getD,hnd];rfl
            rw [hgd2] at hnr
            have lm:=mcells_get0 hkl
            have lb:=mcells_get1 hkl
            rw [hgd2] at lm lb
            have hstep:=mvJK_step (m:=B.next.length) (t:=t0) (ms:=ms) (j:=j) hnd
            rw [hgd] at hstep
            obtain ⟨nt,ng⟩:=nd
            simp only at hnr lm lb
            have hln:∀ t:St,loadLV none (.pimm (mcells ns) (k*2+0)) t=some (.int .i64 nt):=fun t=>load_imm lm
            have hlh:∀ t:St,loadLV none (.pimm (mcells ns) (k*2+1)) t=some (.bool ng):=fun t=>load_imm lb
            clear lm lb
            have htt:tn t0 mg ng % 2<2:=Nat.mod_lt _ (by decide)
            obtain ⟨pp1,pp2,pp3⟩:=pcode_parts (m:=B.next.length) (x:=mt.toNat) (y:=nt.toNat) (t:=tn t0 mg ng % 2) (by omega) htt
            rw [Int.toNat_of_nonneg hmr.1] at pp1
            rw [Int.toNat_of_nonneg hnr.1] at pp2
            have hpt:=pairTurn_ok ht0 mg ng
            have hps1:pstep B.next.length t0 (mt,mg) (nt,ng)=(pcode B.next.length mt.toNat nt.toNat (tn t0 mg ng % 2),decide (tn t0 mg ng=2)):=rfl
            rw [hps1] at hstep
            have hprk:=hprex j k (.inl hjl)
            have hprk1:=hprex j (k+1) (.inl hjl)
            have hlenk:=mvJK_len (m:=B.next.length) (t:=t0) (ns:=ns) (k:=k) (.inl hjl)
            generalize pcode B.next.length mt.toNat nt.toNat (tn t0 mg ng % 2)=pc at *
            generalize decide (tn t0 mg ng=2)=gd at *
            generalize ((tn t0 mg ng % 2:Nat):Int)=tI at *
            have hmap:(mvJK B.next.length t0 ms ns j (k+1)).map (·.1)=(mvJK B.next.length t0 ms ns j k).map (·.1)++[pc]:=by rw [hstep];simp
            have hren:insL [] ((grB A B).ren (mvJK B.next.length t0 ms ns j (k+1)))=insM (insL [] ((grB A B).ren (mvJK B.next.length t0 ms ns j k))) ((numN (grB A B).R pc:Int),gd):=by
              rw [hstep]
              unfold Grf.ren
              rw [List.map_append,List.map_cons,List.map_nil,insL_snoc]
            rw [hmap,addsN_snoc] at hprk1
            have hTk:addsN px' ((mvJK B.next.length t0 ms ns j (k+1)).map (·.1))=addN (addsN px' ((mvJK B.next.length t0 ms ns j k).map (·.1))) pc:=by rw [hmap,addsN_snoc]
            have hnum:numN (addN (addsN px' ((mvJK B.next.length t0 ms ns j k).map (·.1))) pc) pc=numN (grB A B).R pc:=(numN_pre hprk1 (addN_mem _ _)).symm
            have hnl:=numN_lt (hprk1.mem (addN_mem (addsN px' ((mvJK B.next.length t0 ms ns j k).map (·.1))) pc))
            have hpkl:=gr_len hgr hprk
            rw [hgN] at hpkl
            have hrl3:(insL [] ((grB A B).ren (mvJK B.next.length t0 ms ns j k))).length≤100000:=by
              have h1:=insL_len (l:=(grB A B).ren (mvJK B.next.length t0 ms ns j k)) (ms:=[])
              have h2:((grB A B).ren (mvJK B.next.length t0 ms ns j k)).length=(mvJK B.next.length t0 ms ns j k).length:=by simp [Grf.ren]
              rw [h2] at h1
              simp only [List.length_nil] at h1
              omega
            have hpk1:(addsN px' ((mvJK B.next.length t0 ms ns j k).map (·.1)))[i]? = some p:=pre_get (addsN_pre _ _) hpp
            clear hmap hps1 hstep hlenk hprk hprk1
            generalize addsN px' ((mvJK B.next.length t0 ms ns j k).map (·.1))=pk at *
            generalize insL [] ((grB A B).ren (mvJK B.next.length t0 ms ns j k))=rk at *
            have hpkl2:i<pk.length:=(List.getElem?_eq_some_iff.1 hpk1).1
            obtain ⟨jo,rfl,hjl2,hjg⟩:=hT.od.pos (by omega)
            obtain ⟨q1,q2,q3⟩:=pc_get (m:=B.next.length) hpk1
            rw [pc3'] at q3
            have hjo2:∀ s,iaLV 3 (.sref jo 0 pk.length 3) (.int .i64 (i:Int)) s=some (.pref jo (i*3),s):=fun s=>by
              have:=iaS (esz:=3) (j:=jo) (off:=0) (len:=pk.length) (k:=.i64) (s:=s) (i:=i) (by omega)
              simpa using this
            repeat' (first | refine gA (And.intro @hmla (And.intro @hmlb (And.intro @hjo2 (And.intro @q3 (And.intro (@iaN _ _ _ hma.sl) (And.intro (@iaN _ _ _ hmb.sl) (And.intro @hlm (And.intro @hlg (And.intro @hln @hlh))))))))) ?_ | (refine gB (And.intro @hmla (And.intro @hmlb (And.intro @hjo2 (And.intro @q3 (And.intro (@iaN _ _ _ hma.sl) (And.intro (@iaN _ _ _ hmb.sl) (And.intro @hlm (And.intro @hlg (And.intro @hln @hlh))))))))) ?_;intro bb hbb;cases bb<;>(try simp only [hbs,if_false,reduceCtorEq] at hbb)) | apply qc_seq | fail)
            any_goals (exfalso;omega)
            refine q_pureEx hG0 hpt wN (by simp only [List.map,lk,sv1,sv2,sv3,Nat.reduceEqDiff,Nat.reduceAdd,Nat.reduceLeDiff,reduceIte,if_false,if_true,mkVal,unLV,List.map,optTmps]) (fun r hr hrc=>⟨trivial,?_⟩)
            subst hr
            simp only [Env.put_some]
            clear hpt hrc hjo2 q1 q2 q3
            repeat' (first | refine gA (And.intro @hmla (And.intro @hmlb (And.intro (@iaN _ _ _ hma.sl) (And.intro (@iaN _ _ _ hmb.sl) (And.intro @hlm (And.intro @hlg (And.intro @hln @hlh))))))) ?_ | (refine gB (And.intro @hmla (And.intro @hmlb (And.intro (@iaN _ _ _ hma.sl) (And.intro (@iaN _ _ _ hmb.sl) (And.intro @hlm (And.intro @hlg (And.intro @hln @hlh))))))) ?_;intro bb hbb;cases bb<;>(try simp only [hbs,if_false,reduceCtorEq] at hbb)) | apply qc_seq | fail)
            refine q_gen (v:=.agg [.int .i64 mt, .int .i64 nt, .int .i64 tI]) (s':=s) wN (by simp only [LOp.run,lk,sv1,sv2,sv3,Nat.reduceEqDiff,Nat.reduceAdd,Nat.reduceLeDiff,reduceIte,if_false,if_true,mkVal,unLV,List.map,optTmps,evParts,fillParts];rfl) (by first | rfl | decide) trivial ?_
            simp only [Env.put_some]
            have hvs:([LV.sref jo 0 pk.length 3,LV.agg [.int .i64 mt, .int .i64 nt, .int .i64 tI]]:List LV)=[.sref jo 0 pk.length 3, .agg (pc3 B.next.length pc)]:=by
              unfold pc3
              rw [pp1,pp2,pp3]
            refine q_call wN (fv:=.fn (.func 47) [] []) (vs:=[.sref jo 0 pk.length 3, .agg (pc3 B.next.length pc)]) rfl (by simp only [List.map,lk,sv1,sv2,sv3,Nat.reduceEqDiff,Nat.reduceAdd,Nat.reduceLeDiff,reduceIte,if_false,if_true,mkVal,unLV,List.map,optTmps];exact hvs) (CallOk.mono (pairNumber_call hT.od (by omega) pc) fun r s2 hh=>⟨trivial,?_⟩)
            obtain ⟨ov2,rfl,b1,b2,b3,b4⟩:=hh
            have hT2:=hT.od' b1 b2 b3 b4
            have hR2:=hR.keep (s':=s2) b2 fun id hu=>b4 id (hR.sk.lt hu) fun hu'=>hD id hu (.inr hu')
            have hV2:=hV.keep (s':=s2) b2 fun id ht=>b4 id (hV.lt id ht) fun hu'=>(hD2 id ht).1 (.inr hu')
            have hup:∀ id,id<s.n→¬ TV (.sref jo 0 pk.length 3) stv nxv id→¬ TV ov2 stv nxv id:=fun id hid hu=>by
              rintro (h1 | h1)
              · exact hu (.inl h1)
              · rcases b3 id h1 with h2 | h2
                · exact hu (.inr h2)
                · omega
            replace hD:∀ id,uses rv id→¬ TV ov2 stv nxv id:=fun id hu=>hup id (hR.sk.lt hu) (hD id hu)
            replace hD2:∀ id,T id→¬ TV ov2 stv nxv id∧¬ uses rv id:=fun id ht=>⟨hup id (hV.lt id ht) (hD2 id ht).1,(hD2 id ht).2⟩
            have hcl2:=hT2.od.cell
            rw [hnum]
            clear hT hR hV b1 b2 b3 b4 hup hvs hjl2 hjg
            generalize addN pk pc=pk2 at *
            generalize numN (grB A B).R pc=u at *
            simp only [Env.put_some]
            repeat' (first | refine gA trivial ?_ | (refine gB trivial ?_;intro bb hbb;cases bb<;>(try simp only [hbs,if_false,reduceCtorEq] at hbb)) | apply qc_seq | fail)
            refine q_gen (v:=.agg [.int .i64 (u:Int), .bool gd]) (s':=s2) wN (by simp only [LOp.run,lk,sv1,sv2,sv3,Nat.reduceEqDiff,Nat.reduceAdd,Nat.reduceLeDiff,reduceIte,if_false,if_true,mkVal,unLV,List.map,optTmps,evParts,fillParts];rfl) (by first | rfl | decide) trivial ?_
            simp only [Env.put_some]
            refine q_insert (m:=((u:Int),gd)) hV2 (by unfold inI64;simp only;omega) hrl3 (by simp only [List.map,lk,sv1,sv2,sv3,Nat.reduceEqDiff,Nat.reduceAdd,Nat.reduceLeDiff,reduceIte,if_false,if_true,mkVal,unLV,List.map,optTmps]) (fun r s' f1 f2 f3=>?_)
            have hT3:=hT2.keep (s':=s') (by rw [f2];exact Nat.le_refl _) fun id hu=>f3 id fun ht=>(hD2 id ht).1 hu
            have hR3:=hR2.keep (s':=s') (by rw [f2];exact Nat.le_refl _) fun id hu=>f3 id fun ht=>(hD2 id ht).2 hu
            have hV3:=RV.val f1 s'
            clear hT2 hR2 hV2 hD2 f1 f2 f3
            repeat' (first | refine gA trivial ?_ | (refine gB trivial ?_;intro bb hbb;cases bb<;>(try simp only [hbs,if_false,reduceCtorEq] at hbb)) | apply qc_seq | fail)
            exact ⟨ns.length - (k+1),by omega,k+1,_,r,fun _=>False,rfl,by omega,by rw [hTk];exact hT3,hR3,hD,by rw [hren];exact hV3,fun id ht=>ht.elim,ef,ef,ef,ef,ef,ef,ef,ef,ef,ef,ef,ef,ef,ef⟩
          · have hke:k=ns.length:=by omega
            rw [hke,mvJK_row hjl] at hT hV
            repeat' (first | refine gA (And.intro @hmla @hmlb) ?_ | (refine gB (And.intro @hmla @hmlb) ?_;intro bb hbb;cases bb<;>(try simp only [hbs,if_false,reduceCtorEq] at hbb)) | apply qc_seq | fail)
            any_goals (exfalso;omega)
            exact ⟨ms.length - (j+1),by omega,j+1,ov,w,T,rfl,by omega,hT,hR,hD,hV,hD2,ef,ef,ef,ef,ef,ef,ef,ef,ef,ef,ef,ef,ef⟩
        · have hje:j=ms.length:=by omega
          have hall:mvJK B.next.length t0 ms ns j 0=(grB A B).mv p x:=by rw [hje,mvJK_all,hmvx]
          rw [hall,← hsaX,← hnext] at hT
          rw [hall] at hV
          repeat' (first | refine gA (And.intro @hmla @hmlb) ?_ | (refine gB (And.intro @hmla @hmlb) ?_;intro bb hbb;cases bb<;>(try simp only [hbs,if_false,reduceCtorEq] at hbb)) | apply qc_seq | fail)
          any_goals (exfalso;omega)
          refine q_appFE (n:=R0.length) (xv:=w) (yv:=rv) ef (cells_cell hV.cell) ef hR.sk hV.fz (fun id ht=>⟨hV.lt id ht,(hD2 id ht).2⟩) (by decide) (by omega) (fun s5 j5 v5 a1 a2 a3 a4 a5=>?_)
          have hT2:=hT.keep a4 fun id hu=>a5 id (hT.lt hu) (fun hu'=>hD id hu' hu) fun ht=>(hD2 id ht).1 hu
          have hR2:=hR.app a2 a3
          have hD3:∀ id,uses (.sref j5 0 (R0.length+1) 1) id→¬ TV ov stv nxv id:=fun id hu hu'=>by
            have h1:=uses_sref.1 hu
            have:=hT.lt hu'
            omega
          clear hT hR hV hD2 hD a1 a2 a3 a4 a5
          repeat' (first | refine gA trivial ?_ | (refine gB trivial ?_;intro bb hbb;cases bb<;>(try simp only [hbs,if_false,reduceCtorEq] at hbb)) | apply qc_seq | fail)
          exact ⟨Ln - (x+1),by omega,x+1,_,_,_,rfl,by omega,hT2,by rw [hRT2];exact hR2,hD3,ef,ef,ef,ef,ef,ef,ef,ef,ef⟩
      · have hxe:x=Ln:=by omega
        have hRC:((List.range x).map fun a=>insL [] ((grB A B).ren ((grB A B).mv p a)))=rowB2 A B p:=by unfold rowB2;rw [hLA,hxe]
        have hAC:addsN ps ((List.range x).flatMap ((grB A B).sa p))=addsN ps ((grB A B).suc p):=by
          show _=addsN ps ((List.range A.L.toNat).flatMap ((grB A B).sa p))
          rw [hLA,hxe]
        rw [hAC] at hT
        rw [hRC] at hR
        have hol:=hT.od.len
        have g0:=hT.ob.g0
        have hqm:=gr_len hgr hpre2
        rw [hgN] at hqm
        repeat' (first | refine gA @hol ?_ | (refine gB @hol ?_;intro bb hbb;cases bb<;>(try simp only [hbs,if_false,reduceCtorEq] at hbb)) | apply qc_seq | fail)
        any_goals (exfalso;omega)
        rotate_left
        · have hbig:most<((grB A B).R.length:Int):=by have:=pre_len hpre2;omega
          refine q_run0 (v:=.agg [.int .i64 0, .nils, .nils]) (by simp only [LOp.run,lk,sv1,sv2,sv3,Nat.reduceEqDiff,Nat.reduceAdd,Nat.reduceLeDiff,reduceIte,if_false,if_true,mkVal,unLV,List.map,optTmps,evParts,fillParts];rfl) ?_
          repeat' (first | refine gA trivial ?_ | (refine gB trivial ?_;intro bb hbb;cases bb<;>(try simp only [hbs,if_false,reduceCtorEq] at hbb)) | apply qc_seq | fail)
          exact ⟨.inr trivial,hfe 2 _ _ (.inr (.inl ⟨⟨okA,okB,hL.out,hm1,hm3⟩,hbig,rfl⟩)) ef ef (by simp [St.get_put])⟩
        have hlm2:((addsN ps ((grB A B).suc p)).length:Int)≤most:=hbb
        obtain ⟨rvs,r1,r2,r3⟩:=hT.ob.rows
        have hrl2:(rowB2 A B p).length=Ln:=by simp [rowB2,hLA]
        have hFz:=hR.fz (by omega)
        refine q_appFE (n:=N0.length) (xv:=rv) (yv:=nxv) ef (cells_cell hR.sk.cell) ef r2 hFz (fun id hu=>⟨hR.sk.lt hu,fun hu'=>hD id hu (.inl (.inr (.inr (.inr hu'))))⟩) (by decide) (by omega) (fun s5 j5 v5 a1 a2 a3 a4 a5=>?_)
        have hT2:=hT.row (T:=uses rv) hD r1 r3 a2 a1 a3 a4 a5
        have k3:s5.get 1=some (.cells .mut [.int .i64 B.L,stv,nxv]):=by
          rw [a5 1 hT.ob.on (fun hu=>by have:=hT.ob.lo 1 (.inr hu);omega) fun hu=>hD 1 hu (.inl (.inr (.inl rfl)))];exact g1
        clear hT hR hFz hD a1 a2 a3 a4 a5 r2 r3 g1 g0
        repeat' (first | refine gA trivial ?_ | (refine gB trivial ?_;intro bb hbb;cases bb<;>(try simp only [hbs,if_false,reduceCtorEq] at hbb)) | apply qc_seq | fail)
        have hpw:i+1≤(addsN ps ((grB A B).suc p)).length:=by have:=pre_len (addsN_pre ((grB A B).suc p) ps);omega
        exact ⟨gN+1 - (i+1),by omega,i+1,_,_,_,rfl,hpw,hlm2,hrun2,by rw [hRT];exact hT2,ef,ef,ef,ef,ef,ef,ef⟩
    · have hie:i=ps.length:=by omega
      have hps:ps=(grB A B).R:=by rw [← hrun];exact (run_end (by omega)).symm
      have g1:=hT.ob.g1
      have g0:=hT.ob.g0
      have hcs:=hT.ob.ss.cell
      have hcn:isCell nxv=true:=by
        obtain ⟨rvs,r1,r2,r3⟩:=hT.ob.rows
        exact r2.cell
      have hfin:∀ S:St,(∀ id,id≠0→S.get id=s.get id)→∃ r s',frz frzDepth (.tup [.agg [.int .i64 B.L,stv,nxv], .int .i64 0]) S=some (r,s')∧r.closed=true∧BothA A B most r:=fun S hS=>by
        have hlo:=hT.ob.lo
        have hz0:(bothC A B).start=ST:=by rw [← hST.out];exact stn_eq okA okB
        have hEC:OB s 1 (bothC A B).L stv nxv (bothC A B).start (bothC A B).next:=by
          have h1:(bothC A B).L=B.L:=hL.out
          have h3:(bothC A B).next=((grB A B).R.take i).map (rowB2 A B):=by
            rw [hie,hps,List.take_length];rfl
          rw [h1,hz0,h3]
          exact hT.ob
        have hz1:(bothC A B).start.length=(stP A B).length:=by rw [hz0,← hST.out];simp
        have hz2:(bothC A B).next.length=(grB A B).R.length:=by simp [bothC]
        obtain ⟨r,s',sv',nv',a1,a2⟩:=hEC.fz' (by omega) (by omega) (fun x hx=>by
          rw [hz0,← hST.out] at hx
          obtain ⟨j,hj,rfl⟩:=List.mem_map.1 hx
          have:=List.mem_range.1 hj
          show inI64 (j:Int)
          unfold inI64
          constructor<;>omega) (S:=S) fun id hu=>hS id (by have:=hlo id hu;omega)
        rw [show (bothC A B).L=B.L from hL.out] at a1
        have hrc:(LV.tup [r, .int .i64 0]).closed=true:=by rw [closed_tup1];exact a2.closed
        exact ⟨_,s',a1,hrc, .inr (.inr ⟨⟨okA,okB,hL.out,hm1,hm3⟩,by rw [← hps];exact hpm,r,bothC A B,sv',nv',rfl,a2,bothC_ok okA.1⟩)⟩
      clear hT
      repeat' (first | refine gA @hol ?_ | (refine gB @hol ?_;intro bb hbb;cases bb<;>(try simp only [hbs,if_false,reduceCtorEq] at hbb)) | apply qc_seq | fail)
      any_goals (exfalso;omega)
      exact ⟨.inr trivial, .tup [.agg [.int .i64 B.L,stv,nxv], .int .i64 0],by simp [resVal,resOne,mkVal,lk,St.get_put,e6],hfin _ (fun id hid=>by rw [St.get_put,if_neg hid])⟩
end Go.Proofs.YtmblpcidfjemhaaDoor
