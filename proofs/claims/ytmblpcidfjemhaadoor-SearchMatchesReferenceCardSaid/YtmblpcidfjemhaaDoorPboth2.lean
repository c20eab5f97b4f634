/- buchi.Both, all arguments. -/
import Derived.Test.YtmblpcidfjemhaaDoorPauto2
import Derived.Test.YtmblpcidfjemhaaDoorPboth
set_option linter.unusedSimpArgs false
set_option linter.unusedVariables false
namespace Go.Proofs.YtmblpcidfjemhaaDoor
open Go Go.Pv
open Classical
def BothA (A B:Bu) (most:Int) (r:LV):Prop:=
  (¬ (Vb A∧Vb B∧A.L=B.L∧1≤most∧most≤3000)∧r = .tup [.agg [.int .i64 0, .nils, .nils], .int .i64 1]) ∨
  ((Vb A∧Vb B∧A.L=B.L∧1≤most∧most≤3000)∧most<((grB A B).R.length:Int)∧r = .tup [.agg [.int .i64 0, .nils, .nils], .int .i64 2]) ∨
  ((Vb A∧Vb B∧A.L=B.L∧1≤most∧most≤3000)∧((grB A B).R.length:Int)≤most∧∃ v C sv nv,r = .tup [v, .int .i64 0]∧IsB v C sv nv∧AutoR (grB A B) C)
set_option maxHeartbeats 16000000 in
theorem pboth_all {vA vB:LV} {A B:Bu} {sa na sb nb:LV} (hA:IsB vA A sa na) (hB:IsB vB B sb nb) (hsz:A.next.length*B.next.length*2≤3000) {most:Int} :
    PE 25 [vA,vB, .int .i64 most] (BothA A B most):=by
  have hcA:=hA.closed
  have hcB:=hB.closed
  have hA0:=hA
  have hB0:=hB
  have hbA:=bvalid_ok hA
  have hbB:=bvalid_ok hB
  have hgr:=fun (okA:Vb A) (okB:Vb B) (hL:A.L=B.L)=>grB_ok (most:=3000) okA okB hL (by omega) (by omega)
  have hau:=fun (okA:Vb A) (okB:Vb B) (hL:A.L=B.L) (h1:((grB A B).st.length:Int)≤most) (h3:most≤3000) {fv:LV} (hs:Sl fv (tcells3 B.next.length (stP A B)) (stP A B).length) (s:St)=>pauto_lim hA hB okA okB hL (g:=grB A B) rfl (hgr okA okB hL) h1 h3 hs (s:=s)
  have hsL:=stP_len A B
  have hsg:=fun i j x y=>stP_get (A:=A) (B:=B) (i:=i) (j:=j) (x:=x) (y:=y)
  have hgL:(grB A B).L=A.L:=rfl
  simp only [hgL] at hau
  have hgS:(grB A B).st=stP A B:=rfl
  have hgX:∀ (okA:Vb A) (okB:Vb B),(stP A B).length≤(grB A B).R.length:=fun okA okB=>stP_R okA okB
  obtain ⟨rfl,htA,vsA,hnA⟩:=hA
  obtain ⟨rfl,htB,vsB,hnB⟩:=hB
  have hc1:=htA.sl.cell
  have hc2:=hnA.sl.cell
  have hc3:=htB.sl.cell
  have hc4:=hnB.sl.cell
  have hl1:=htA.sl.len
  have hl2:=htB.sl.len
  rw [hgS] at hau
  clear hgS
  obtain ⟨sp,hsp0⟩:∃ sp,stP A B=sp:=⟨_,rfl⟩
  rw [hsp0] at hau hsL hgX
  simp only [hsp0] at hsg
  refine q_fnExR Tryd.func25 (by decide +kernel) c25 (Nat.le_of_ble_eq_true rfl) (by
    have a1:sa.closed=true∧na.closed=true:=by simpa [LV.closed,LV.closed.closedAll] using hcA
    have a2:sb.closed=true∧nb.closed=true:=by simpa [LV.closed,LV.closed.closedAll] using hcB
    simp [LV.closed.closedAll,LV.closed,a1,a2]) ?_
  have e0:(envOf [LV.agg [.int .i64 A.L,sa,na],LV.agg [.int .i64 B.L,sb,nb], .int .i64 most]).at 0 = .agg [.int .i64 A.L,sa,na]:=by rw [envOf_at];rfl
  have e1:(envOf [LV.agg [.int .i64 A.L,sa,na],LV.agg [.int .i64 B.L,sb,nb], .int .i64 most]).at 1 = .agg [.int .i64 B.L,sb,nb]:=by rw [envOf_at];rfl
  have e2:(envOf [LV.agg [.int .i64 A.L,sa,na],LV.agg [.int .i64 B.L,sb,nb], .int .i64 most]).at 2 = .int .i64 most:=by rw [envOf_at];rfl
  generalize envOf [LV.agg [.int .i64 A.L,sa,na],LV.agg [.int .i64 B.L,sb,nb], .int .i64 most]=e at *
  unfold l25
  dsimp only [jA,jC,jG,qM,qL,qN,qF,qS,qI,qA,qB,qC,qO,qP,qG,qm,ql]
  have hfe:∀ (c:Int) (S:St) (e':Env),BothA A B most (.tup [.agg [.int .i64 0, .nils, .nils], .int .i64 c])→e'.at 6 = .pref 0 0→e'.at 7 = .int .i64 c→S.get 0=some (.cells .mut [.int .i64 0, .nils, .nils])→∃ v,resVal [(.cell 6 (some 3)),(.tmp 7)] e' S=some v∧∃ r s',frz frzDepth v S=some (r,s')∧r.closed=true∧BothA A B most r:=fun c S e' h h6 h7 hg=>
    ⟨.tup [.agg [.int .i64 0, .nils, .nils], .int .i64 c],by simp [resVal,resOne,h6,h7,mkVal,lk,hg],_,_,frzD_closed rfl,rfl,h⟩
  have hzz:∀ S:St,(St.put (St.new S (.cells .mut [.int .i64 0, .nils, .nils])) S.n (.cells .mut [.int .i64 0, .nils, .nils])).get S.n=some (.cells .mut [.int .i64 0, .nils, .nils]):=fun S=>by rw [St.get_put,if_pos rfl]
  repeat' (first | refine gA trivial ?_ | (refine gB trivial ?_;intro bb hbb;cases bb<;>(try simp only [hbs,if_false,reduceCtorEq] at hbb)) | apply qc_seq | fail)
  refine q_pureB hG0 (hbA) (by first | exact wN | (apply wG;(simp only [lk,Nat.reduceEqDiff,reduceIte,e0,e1,e2];(try rfl);done))) (by simp only [List.map,lk,Nat.reduceEqDiff,reduceIte,e0,e1,e2];try rfl) (fun bb hbb=>⟨by first | trivial | (simp only [Chks,wantedG,LOp.run,Env.put_some,Env.put_none,lk,sv1,sv2,sv3,Nat.reduceEqDiff,Nat.reduceAdd,Nat.reduceLeDiff,reduceIte,if_false,if_true,mkVal,unLV,List.map,optTmps,beq_self_eq_true,reduceCtorEq,false_or,true_and,and_true,Option.some.injEq, *];done),?_⟩)
  simp only [Env.put_some]
  cases bb<;>simp only [decide_eq_true_eq,decide_eq_false_iff_not] at hbb
  · repeat' (first | refine gA trivial ?_ | (refine gB trivial ?_;intro bb hbb;cases bb<;>(try simp only [hbs,if_false,reduceCtorEq] at hbb)) | apply qc_seq | fail)
    refine q_run0 (v:=.agg [.int .i64 0, .nils, .nils]) (by simp only [LOp.run,lk,sv1,sv2,sv3,Nat.reduceEqDiff,Nat.reduceAdd,Nat.reduceLeDiff,reduceIte,if_false,if_true,mkVal,unLV,List.map,optTmps,evParts,fillParts];rfl) ?_
    repeat' (first | refine gA trivial ?_ | (refine gB trivial ?_;intro bb hbb;cases bb<;>(try simp only [hbs,if_false,reduceCtorEq] at hbb)) | apply qc_seq | fail)
    exact ⟨.inr trivial,hfe 1 _ _ (.inl ⟨fun h=>hbb h.1,rfl⟩) ef ef (by simp [St.get_put])⟩
  have okA:=hbb
  clear hbb hbA
  repeat' (first | refine gA trivial ?_ | (refine gB trivial ?_;intro bb hbb;cases bb<;>(try simp only [hbs,if_false,reduceCtorEq] at hbb)) | apply qc_seq | fail)
  refine q_pureB hG0 (hbB) (by first | exact wN | (apply wG;(simp only [lk,Nat.reduceEqDiff,reduceIte,e0,e1,e2];(try rfl);done))) (by simp only [List.map,lk,Nat.reduceEqDiff,reduceIte,e0,e1,e2];try rfl) (fun bb hbb=>⟨by first | trivial | (simp only [Chks,wantedG,LOp.run,Env.put_some,Env.put_none,lk,sv1,sv2,sv3,Nat.reduceEqDiff,Nat.reduceAdd,Nat.reduceLeDiff,reduceIte,if_false,if_true,mkVal,unLV,List.map,optTmps,beq_self_eq_true,reduceCtorEq,false_or,true_and,and_true,Option.some.injEq, *];done),?_⟩)
  simp only [Env.put_some]
  cases bb<;>simp only [decide_eq_true_eq,decide_eq_false_iff_not] at hbb
  · repeat' (first | refine gA trivial ?_ | (refine gB trivial ?_;intro bb hbb;cases bb<;>(try simp only [hbs,if_false,reduceCtorEq] at hbb)) | apply qc_seq | fail)
    refine q_run0 (v:=.agg [.int .i64 0, .nils, .nils]) (by simp only [LOp.run,lk,sv1,sv2,sv3,Nat.reduceEqDiff,Nat.reduceAdd,Nat.reduceLeDiff,reduceIte,if_false,if_true,mkVal,unLV,List.map,optTmps,evParts,fillParts];rfl) ?_
    repeat' (first | refine gA trivial ?_ | (refine gB trivial ?_;intro bb hbb;cases bb<;>(try simp only [hbs,if_false,reduceCtorEq] at hbb)) | apply qc_seq | fail)
    exact ⟨.inr trivial,hfe 1 _ _ (.inl ⟨fun h=>hbb h.2.1,rfl⟩) ef ef (by simp [St.get_put])⟩
  have okB:=hbb
  clear hbb hbB
  have hs1:=start_len okA
  have hs2:=start_len okB
  have hs3:A.start.length*B.start.length≤A.next.length*B.next.length:=Nat.mul_le_mul hs1 hs2
  have hn3A:=okA.2.2.1
  have hn3B:=okB.2.2.1
  have hstA:=fun i x=>st_rng okA (i:=i) (x:=x)
  have hstB:=fun i x=>st_rng okB (i:=i) (x:=x)
  have hmul:binLV .mul (.int .i64 ((A.start.length:Nat):Int)) (.int .i64 ((B.start.length:Nat):Int))=some (.int .i64 ((A.start.length*B.start.length:Nat):Int)):=by
    simp only [binLV,if_true,intBin]
    rw [← Int.natCast_mul,wrap_i64 _ (by omega) (by omega)]
  clear hgL
  repeat' (first | refine gA (And.intro @hl1 (And.intro @hl2 @hmul)) ?_ | (refine gB (And.intro @hl1 (And.intro @hl2 @hmul)) ?_;intro bb hbb;cases bb<;>(try simp only [hbs,if_false,reduceCtorEq] at hbb)) | apply qc_seq | fail)
  rotate_left
  · rename (A.L=B.L)=>hL
    rename (1≤most)=>h1
    rename (most≤3000)=>h3
    have hlim:most<((grB A B).R.length:Int):=by have:=hgX okA okB;omega
    refine q_run0 (v:=.agg [.int .i64 0, .nils, .nils]) (by simp only [LOp.run,lk,sv1,sv2,sv3,Nat.reduceEqDiff,Nat.reduceAdd,Nat.reduceLeDiff,reduceIte,if_false,if_true,mkVal,unLV,List.map,optTmps,evParts,fillParts];rfl) ?_
    repeat' (first | refine gA trivial ?_ | (refine gB trivial ?_;intro bb hbb;cases bb<;>(try simp only [hbs,if_false,reduceCtorEq] at hbb)) | apply qc_seq | fail)
    exact ⟨.inr trivial,hfe 2 _ _ (.inr (.inl ⟨⟨okA,okB,hL,h1,h3⟩,hlim,rfl⟩)) ef ef (by simp [St.get_put])⟩
  · rename (A.L=B.L)=>hL
    refine q_run0 (v:=.agg [.int .i64 0, .nils, .nils]) (by simp only [LOp.run,lk,sv1,sv2,sv3,Nat.reduceEqDiff,Nat.reduceAdd,Nat.reduceLeDiff,reduceIte,if_false,if_true,mkVal,unLV,List.map,optTmps,evParts,fillParts];rfl) ?_
    repeat' (first | refine gA trivial ?_ | (refine gB trivial ?_;intro bb hbb;cases bb<;>(try simp only [hbs,if_false,reduceCtorEq] at hbb)) | apply qc_seq | fail)
    exact ⟨.inr trivial,hfe 1 _ _ (.inl ⟨fun h=>by have:=h.2.2.2.2;omega,rfl⟩) ef ef (by simp [St.get_put])⟩
  · rename (A.L=B.L)=>hL
    refine q_run0 (v:=.agg [.int .i64 0, .nils, .nils]) (by simp only [LOp.run,lk,sv1,sv2,sv3,Nat.reduceEqDiff,Nat.reduceAdd,Nat.reduceLeDiff,reduceIte,if_false,if_true,mkVal,unLV,List.map,optTmps,evParts,fillParts];rfl) ?_
    repeat' (first | refine gA trivial ?_ | (refine gB trivial ?_;intro bb hbb;cases bb<;>(try simp only [hbs,if_false,reduceCtorEq] at hbb)) | apply qc_seq | fail)
    exact ⟨.inr trivial,hfe 1 _ _ (.inl ⟨fun h=>by have:=h.2.2.2.1;omega,rfl⟩) ef ef (by simp [St.get_put])⟩
  · refine q_run0 (v:=.agg [.int .i64 0, .nils, .nils]) (by simp only [LOp.run,lk,sv1,sv2,sv3,Nat.reduceEqDiff,Nat.reduceAdd,Nat.reduceLeDiff,reduceIte,if_false,if_true,mkVal,unLV,List.map,optTmps,evParts,fillParts];rfl) ?_
    repeat' (first | refine gA trivial ?_ | (refine gB trivial ?_;intro bb hbb;cases bb<;>(try simp only [hbs,if_false,reduceCtorEq] at hbb)) | apply qc_seq | fail)
    exact ⟨.inr trivial,hfe 1 _ _ (.inl ⟨fun h=>hbb h.2.2.1,rfl⟩) ef ef (by simp [St.get_put])⟩
  rename (A.L=B.L)=>hL
  rename (1≤most)=>h1
  rename (most≤3000)=>h3
  have hLx:Hd (A.L=B.L):=⟨hL⟩
  have hc0:Hd (Vb A∧Vb B∧A.L=B.L∧1≤most∧most≤3000):=⟨⟨okA,okB,hL,h1,h3⟩⟩
  replace hau:=fun {fv:LV} => hau okA okB hL (by omega) h3 (fv:=fv)
  clear hL hgr hgX hfe hzz
  clear hcA hcB
  have hszA:sp.length≤9000000:=by
    have:A.start.length*B.start.length≤3000*3000:=Nat.mul_le_mul (by omega) (by omega)
    omega
  have hsp:∀ i j,i<A.start.length→j<B.start.length→i*B.start.length+j<A.start.length*B.start.length:=fun i j hi hj=>by
    have:(i+1)*B.start.length≤A.start.length*B.start.length:=Nat.mul_le_mul_right _ hi
    rw [Nat.add_mul,Nat.one_mul] at this
    omega
  refine qc_loop (fun m e s=>∃ (i:Nat) (lv:LV),m=A.start.length - i∧i≤A.start.length∧SkC s lv 3 (tcells3 B.next.length (sp.take (i*B.start.length))) (i*B.start.length)∧s.get 0=some (.cells .mut [.int .i64 0, .nils, .nils])∧0<s.n∧(∀ id,uses lv id→0<id)∧e.at 2 = .int .i64 most∧e.at 3 = .pimm [.int .i64 A.L,sa,na] 0∧e.at 4 = .pimm [.int .i64 B.L,sb,nb] 0∧e.at 6 = .pref 0 0∧e.at 8=lv∧e.at 49=sa∧e.at 50 = .int .i64 (A.start.length:Int)∧e.at 51 = .int .i64 (i:Int)) _
    ⟨0, .nils,rfl,by omega,by rw [Nat.zero_mul];exact SkC.nil _ _,by rw [St.get_new];rfl,by simp [n_empty],fun id h=>absurd h (uses_nils id),ef,ef,ef,ef,ef,ef,ef,by simp only [lk,sv1,sv2,sv3,Nat.reduceEqDiff,Nat.reduceAdd,Nat.reduceLeDiff,reduceIte,if_false,if_true,mkVal,unLV,List.map,optTmps];rfl⟩ ?_
  clear e0 e1 e2
  clear e
  rintro m e s ⟨i,lv,rfl,hi,hS,g0,hn0,hlv0,e2,e3,e4,e6,e8,e49,e50,e51⟩
  by_cases hil:i<A.start.length
  · have hiI:(i:Int)<(A.start.length:Int):=by omega
    have hw:IntKind.i64.wrap ((i:Int)+1)=((i+1:Nat):Int):=by rw [wrap_i64 _ (by omega) (by omega)];rfl
    obtain ⟨x,hx⟩:∃ x,A.start[i]? = some x:=⟨_,List.getElem?_eq_getElem hil⟩
    have hgx:(ints A.start)[i]? = some (.int .i64 x):=by simp [ints,hx]
    have hia:=fun s=>iaN htA.sl (esz:=1) (k:=.i64) (s:=s) hiI
    simp only [Nat.mul_one] at hia
    have hx0:=hstA i x hx
    repeat' (first | refine gA (And.intro @hia @hgx) ?_ | (refine gB (And.intro @hia @hgx) ?_;intro bb hbb;cases bb<;>(try simp only [hbs,if_false,reduceCtorEq] at hbb)) | apply qc_seq | fail)
    · exfalso;omega
    clear hia hgx
    refine qc_loop (fun m e s=>∃ (j:Nat) (lv:LV),m=B.start.length - j∧j≤B.start.length∧SkC s lv 3 (tcells3 B.next.length (sp.take (i*B.start.length+j))) (i*B.start.length+j)∧s.get 0=some (.cells .mut [.int .i64 0, .nils, .nils])∧0<s.n∧(∀ id,uses lv id→0<id)∧e.at 2 = .int .i64 most∧e.at 3 = .pimm [.int .i64 A.L,sa,na] 0∧e.at 4 = .pimm [.int .i64 B.L,sb,nb] 0∧e.at 6 = .pref 0 0∧e.at 8=lv∧e.at 10 = .int .i64 x∧e.at 49=sa∧e.at 50 = .int .i64 (A.start.length:Int)∧e.at 51 = .int .i64 (i:Int)∧e.at 56=sb∧e.at 57 = .int .i64 (B.start.length:Int)∧e.at 58 = .int .i64 (j:Int)) _
      ⟨0,lv,rfl,by omega,hS,g0,hn0,hlv0,ef,ef,ef,ef,ef,ef,ef,ef,ef,ef,ef,by simp only [lk,sv1,sv2,sv3,Nat.reduceEqDiff,Nat.reduceAdd,Nat.reduceLeDiff,reduceIte,if_false,if_true,mkVal,unLV,List.map,optTmps];rfl⟩ ?_
    clear hS g0 hn0 hlv0 e2 e3 e4 e6 e8 e49 e50 e51
    clear lv e s
    rintro m e s ⟨j,lv,rfl,hj,hS,g0,hn0,hlv0,e2,e3,e4,e6,e8,e10,e49,e50,e51,e56,e57,e58⟩
    by_cases hjl:j<B.start.length
    · have hjI:(j:Int)<(B.start.length:Int):=by omega
      have hwj:IntKind.i64.wrap ((j:Int)+1)=((j+1:Nat):Int):=by rw [wrap_i64 _ (by omega) (by omega)];rfl
      obtain ⟨y,hy⟩:∃ y,B.start[j]? = some y:=⟨_,List.getElem?_eq_getElem hjl⟩
      have hgy:(ints B.start)[j]? = some (.int .i64 y):=by simp [ints,hy]
      have hib:=fun s=>iaN htB.sl (esz:=1) (k:=.i64) (s:=s) hjI
      simp only [Nat.mul_one] at hib
      have hy0:=hstB j y hy
      have hq:=hsg i j x y hx hy
      have hpp:=pcode_parts (m:=B.next.length) (x:=x.toNat) (y:=y.toNat) (t:=0) (by omega) (by decide)
      have htk:=hasI_take hq B.next.length
      have hlt:=hsp i j hil hjl
      have e1:pc3 B.next.length (pcode B.next.length x.toNat y.toNat 0)=[.int .i64 x, .int .i64 y, .int .i64 0]:=by
        show [LV.int .i64 _,LV.int .i64 _,LV.int .i64 _]=_
        rw [hpp.1,hpp.2.1,hpp.2.2,show ((x.toNat:Nat):Int)=x by omega,show ((y.toNat:Nat):Int)=y by omega]
        rfl
      rw [e1] at htk
      clear hpp hq e1 hx hy hx0 hy0
      repeat' (first | refine gA (And.intro @hib @hgy) ?_ | (refine gB (And.intro @hib @hgy) ?_;intro bb hbb;cases bb<;>(try simp only [hbs,if_false,reduceCtorEq] at hbb)) | apply qc_seq | fail)
      · exfalso;omega
      refine q_gen (v:=.agg [.int .i64 x, .int .i64 y, .int .i64 0]) (s':=s) wN (by simp only [LOp.run,lk,sv1,sv2,sv3,Nat.reduceEqDiff,Nat.reduceAdd,Nat.reduceLeDiff,reduceIte,if_false,if_true,mkVal,unLV,List.map,optTmps,evParts,fillParts];rfl) rfl trivial ?_
      simp only [Env.put_some]
      refine q_appC (n:=i*B.start.length+j) (esz:=3) (xv:=.agg [.int .i64 x, .int .i64 y, .int .i64 0]) (yv:=lv) (vs:=[.int .i64 x, .int .i64 y, .int .i64 0]) ef rfl rfl rfl rfl ef hS (by decide) (by omega) (fun s2 j2 a1 a2 a3 a4=>?_)
      have g02:s2.get 0=some (.cells .mut [.int .i64 0, .nils, .nils]):=by rw [a4 0 hn0 fun hu=>by have:=hlv0 _ hu;omega];exact g0
      clear hib hgy hS
      repeat' (first | refine gA trivial ?_ | (refine gB trivial ?_;intro bb hbb;cases bb<;>(try simp only [hbs,if_false,reduceCtorEq] at hbb)) | apply qc_seq | fail)
      refine ⟨B.start.length - (j+1),by omega,j+1, .sref j2 0 (i*B.start.length+j+1) 3,rfl,by omega,by rw [← Nat.add_assoc,htk];exact a2,g02,by omega,fun id hu=>by obtain rfl:=uses_sref.1 hu;omega,?_⟩
      simp only [lk,sv1,sv2,sv3,Nat.reduceEqDiff,Nat.reduceAdd,Nat.reduceLeDiff,reduceIte,if_false,if_true,mkVal,unLV,List.map,optTmps,hwj,e2,e3,e4,e6,e10,e49,e50,e51,e56,e57,and_self]
    · have hj':j=B.start.length:=by omega
      subst hj'
      repeat' (first | refine gA trivial ?_ | (refine gB trivial ?_;intro bb hbb;cases bb<;>(try simp only [hbs,if_false,reduceCtorEq] at hbb)) | apply qc_seq | fail)
      · refine ⟨A.start.length - (i+1),by omega,i+1,lv,rfl,by omega,by rw [Nat.add_mul,Nat.one_mul];exact hS,g0,hn0,hlv0,?_⟩
        simp only [lk,sv1,sv2,sv3,Nat.reduceEqDiff,Nat.reduceAdd,Nat.reduceLeDiff,reduceIte,if_false,if_true,mkVal,unLV,List.map,optTmps,hw,e2,e3,e4,e6,e8,e49,e50,and_self]
      · exfalso;omega
  · have hi':i=A.start.length:=by omega
    subst hi'
    rw [← hsL,List.take_length] at hS
    repeat' (first | refine gA trivial ?_ | (refine gB trivial ?_;intro bb hbb;cases bb<;>(try simp only [hbs,if_false,reduceCtorEq] at hbb)) | apply qc_seq | fail)
    rotate_left
    · exfalso;omega
    obtain ⟨fv,s2,z1,z2,z3,z4⟩:=fz_skc 38 hS (tcells3_cl _ _) s fun _ _=>rfl
    have hau2:=hau z2 s2
    have hfrz:frz.frzAll (frz frzDepth) [.int .i64 A.L,lv, .int .i64 most, .fn (.func 43) [] [.pimm [.int .i64 A.L,sa,na] 0, .pimm [.int .i64 B.L,sb,nb] 0]] s=some ([.int .i64 A.L,fv, .int .i64 most, .fn (.func 43) [] [.pimm [.int .i64 A.L,sa,na] 0, .pimm [.int .i64 B.L,sb,nb] 0]],s2):=by
      have y1:frz 40 (.int .i64 A.L) s=some (.int .i64 A.L,s):=frz_closed rfl
      have y2:frz 40 (.int .i64 most) s2=some (.int .i64 most,s2):=frz_closed rfl
      have b1:=hA0.closed
      have b2:=hB0.closed
      have y3:frz 40 (.fn (.func 43) [] [.pimm [.int .i64 A.L,sa,na] 0, .pimm [.int .i64 B.L,sb,nb] 0]) s2=some (.fn (.func 43) [] [.pimm [.int .i64 A.L,sa,na] 0, .pimm [.int .i64 B.L,sb,nb] 0],s2):=frz_closed (by
        have d1:sa.closed=true∧na.closed=true:=by simpa [LV.closed,LV.closed.closedAll] using b1
        have d2:sb.closed=true∧nb.closed=true:=by simpa [LV.closed,LV.closed.closedAll] using b2
        simp [LV.closed,LV.closed.closedAll,d1,d2])
      have y4:frz 40 lv s=some (fv,s2):=z1
      show frz.frzAll (frz 40) _ s=_
      simp only [frz.frzAll,y1,y2,y3,y4,Option.bind_eq_bind,Option.bind_some]
    refine q_call wN (fv:=.fn (.func 45) [] []) (vs:=[.int .i64 A.L,lv, .int .i64 most, .fn (.func 43) [] [.pimm [.int .i64 A.L,sa,na] 0, .pimm [.int .i64 B.L,sb,nb] 0]]) ef (by simp only [List.map,lk,sv1,sv2,sv3,Nat.reduceEqDiff,Nat.reduceAdd,Nat.reduceLeDiff,reduceIte,if_false,if_true,mkVal,unLV,List.map,optTmps,e3,e4]) (call_frz hfrz (CallOk.mono hau2 fun r s3 hh=>⟨trivial,?_⟩))
    rcases hh with ⟨hRm,stv,nxv,C,T1,T2,rfl,hTR,f1,f2,f3,f4,⟨f5,f6⟩,f7,f8⟩ | ⟨hRm,rfl,f7,f8⟩
    rotate_left
    · have g2:s3.get 0=some (.cells .mut [.int .i64 0, .nils, .nils]):=by rw [f8 0 (by omega),z4 0 fun hu=>by have:=hlv0 _ hu;omega];exact g0
      simp only [Env.put_some]
      clear f7 f8 hau hau2 hfrz z1 z2 z3 z4 hS g0 hn0 hlv0
      repeat' (first | refine gA trivial ?_ | (refine gB trivial ?_;intro bb hbb;cases bb<;>(try simp only [hbs,if_false,reduceCtorEq] at hbb)) | apply qc_seq | fail)
      exact ⟨.inr trivial, .tup [.agg [.int .i64 0, .nils, .nils], .int .i64 2],by simp [resVal,resOne,mkVal,lk,St.get_put,e6],_,_,frzD_closed rfl,rfl, .inr (.inl ⟨hc0.out,hRm,rfl⟩)⟩
    have g2:s3.get 0=some (.cells .mut [.int .i64 0, .nils, .nils]):=by rw [f8 0 (by omega),z4 0 fun hu=>by have:=hlv0 _ hu;omega];exact g0
    simp only [Env.put_some]
    have hs2n:0<s2.n:=by omega
    have fin:∀ S:St,(∀ id,T1 id∨T2 id→S.get id=s3.get id)→∃ r s',frz frzDepth (.tup [.agg [.int .i64 A.L,stv,nxv], .int .i64 0]) S=some (r,s')∧r.closed=true∧BothA A B most r:=fun S hS=>by
      obtain ⟨r,s',sv',nv',a1,a2⟩:=frz_aut' (f1.stable (s':=S) fun id hid=>hS id (.inl hid)) (f2.stable (s':=S) fun id hid=>hS id (.inr hid)) f3
      rw [show C.L=A.L from hTR.L] at a1
      exact ⟨_,s',a1,by rw [closed_tup1];exact a2.closed, .inr (.inr ⟨hc0.out,hRm,r,C,sv',nv',rfl,a2,hTR⟩)⟩
    have fb:∀ id,T1 id∨T2 id→id≠0:=fun id hid=>by
      have:=f4 id hid
      omega
    clear f7 f8 hau hau2 hfrz z1 z2 z3 z4 hS g0 hn0 hlv0 f1 f2 f3 f4 hTR
    repeat' (first | refine gA trivial ?_ | (refine gB trivial ?_;intro bb hbb;cases bb<;>(try simp only [hbs,if_false,reduceCtorEq] at hbb)) | apply qc_seq | fail)
    refine ⟨.inr trivial, .tup [.agg [.int .i64 A.L,stv,nxv], .int .i64 0],by simp [resVal,resOne,mkVal,lk,St.get_put,e6],fin _ fun id hid=>?_⟩
    rw [St.get_put,if_neg (fb id hid)]
end Go.Proofs.YtmblpcidfjemhaaDoor
