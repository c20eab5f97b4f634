/- The document's Run: what it answers. -/
import Derived.Test.YtgobbogomchnhaaGreatDoorRnrm
import Derived.Test.YtgobbogomchnhaaGreatDoorRopen
import Derived.Test.YtgobbogomchnhaaGreatDoorRval
set_option linter.unusedSimpArgs false
set_option linter.unusedVariables false
namespace Go.Proofs.YtgobbogomchnhaaGreatDoor
open Go Go.Pv Go.Aut Go.Bfs
open Classical
set_option maxHeartbeats 16000000 in
theorem rfrun_ok {v st lo:LV} {B:Bu} {sv nv:LV} {S L:List Int} (hB:IsB v B sv nv) (hS:IsInts st S) (hL:IsInts lo L) :
  PE 19 [v, .agg [st,lo]] (fun r=>∃ pv qv P Q ok,r = .tup [.agg [pv,qv], .bool ok]∧IsInts pv (zints P)∧IsInts qv (zints Q)∧RunA B S L P Q ok):=by
 have hvc:=hB.closed
 have hcl:(LV.agg [st,lo]).closed=true:=by simp [LV.closed,LV.closed.closedAll,hS.closed,hL.closed]
 have hc1:=hS.sl.cell
 have hc2:=hL.sl.cell
 have hrd:=ready_ok hB hS hL
 have hnm:=fun (hf:Fm S L)=>rnrm_ok hS hL hf
 obtain ⟨rfl,hst,hnx⟩:=hB
 have hnx0:=hnx
 obtain ⟨vs,hn⟩:=hnx
 have hc3:=hst.sl.cell
 have hc4:=hn.sl.cell
 refine q_fnExR Tryz.func19 (by decide +kernel) c19 (Nat.le_of_ble_eq_true rfl) (by simp [LV.closed.closedAll,hcl,hvc]) ?_
 have h0:(envOf [.agg [.int .i64 B.L,sv,nv],LV.agg [st,lo]]).at 0 = .agg [.int .i64 B.L,sv,nv]:=by rw [envOf_at];rfl
 have h1:(envOf [.agg [.int .i64 B.L,sv,nv],LV.agg [st,lo]]).at 1 = .agg [st,lo]:=by rw [envOf_at];rfl
 generalize envOf [.agg [.int .i64 B.L,sv,nv],LV.agg [st,lo]]=e at *
 unfold l19
 dsimp only [jA,jB,jG,jH,qM,qL,qN,qF,qS,qI,qA,qB,qC,qK,qO,qG,qm,ql]
 repeat' (first | refine gA trivial ?_ | (refine gB trivial ?_;intro bb hbb;cases bb<;>(try simp only [hbs,if_false,reduceCtorEq] at hbb)) | apply qc_seq | fail)
 refine q_pureB hG0 (hrd) (by first | exact wN | (apply wG;(simp only [lk,Nat.reduceEqDiff,reduceIte,h0,h1];(try rfl);done))) (by simp only [List.map,lk,Nat.reduceEqDiff,reduceIte,h0,h1];try rfl) (fun bb hbb=>⟨by first | trivial | (simp only [Chks,wantedG,LOp.run,Env.put_some,Env.put_none,lk,sv1,sv2,sv3,Nat.reduceEqDiff,Nat.reduceAdd,Nat.reduceLeDiff,reduceIte,if_false,if_true,mkVal,unLV,List.map,optTmps,beq_self_eq_true,reduceCtorEq,false_or,true_and,and_true,Option.some.injEq, *];done),?_⟩)
 simp only [Env.put_some]
 cases bb<;>simp only [decide_eq_true_eq,decide_eq_false_iff_not] at hbb
 ·repeat' (first | refine gA trivial ?_ | (refine gB trivial ?_;intro bb hbb;cases bb<;>(try simp only [hbs,if_false,reduceCtorEq] at hbb)) | apply qc_seq | fail)
  refine q_run0 (v:=.agg [.nils, .nils]) (by simp only [LOp.run,lk,sv1,sv2,sv3,Nat.reduceEqDiff,Nat.reduceAdd,Nat.reduceLeDiff,reduceIte,if_false,if_true,mkVal,unLV,List.map,optTmps,evParts,fillParts];rfl) ?_
  repeat' (first | refine gA trivial ?_ | (refine gB trivial ?_;intro bb hbb;cases bb<;>(try simp only [hbs,if_false,reduceCtorEq] at hbb)) | apply qc_seq | fail)
  exact ⟨.inr trivial, .tup [.agg [.nils, .nils], .bool false],by simp [resVal,resOne,mkVal,lk,St.get_put,n_empty],_,_,frzD_closed rfl,rfl, .nils, .nils,[],[],_,rfl,nil_ints,nil_ints, .inl ⟨hbb,rfl,rfl,rfl⟩⟩
 have hrdy:Rdy B S L:=hbb
 obtain ⟨hok,hf,ha,hb⟩:=hbb
 repeat' (first | refine gA trivial ?_ | (refine gB trivial ?_;intro bb hbb;cases bb<;>(try simp only [hbs,if_false,reduceCtorEq] at hbb)) | apply qc_seq | fail)
 refine q_pureEx hG0 (hnm hf) wN (by simp only [List.map,lk,sv1,sv2,sv3,Nat.reduceEqDiff,Nat.reduceAdd,Nat.reduceLeDiff,reduceIte,if_false,if_true,mkVal,unLV,List.map,optTmps]) (fun r hr hrc=>⟨trivial,?_⟩)
 simp only [Env.put_some]
 obtain ⟨st',lo',sl',ll',rfl,hS',hL',hN⟩:=hr
 have hc5:=hS'.sl.cell
 have hc6:=hL'.sl.cell
 obtain ⟨hsg,hw⟩:=nrm_sg hst hnx0 hok hf ha hb hN hS' hL'
 generalize hls:(sl'++ll').map Int.toNat=ls at hsg hw
 repeat' (first | refine gA trivial ?_ | (refine gB trivial ?_;intro bb hbb;cases bb<;>(try simp only [hbs,if_false,reduceCtorEq] at hbb)) | apply qc_seq | fail)
 have hstq:∀ q∈B.start,0≤q∧q<(B.next.length:Int):=fun q hq=>by
  have:=start_nat hok hq
  omega
 have hop:=sopen_ok hsg hst (at_:=0) (by have:=hsg.bk;omega) hstq
 refine q_pureEx hG0 hop wN (by simp only [List.map,lk,sv1,sv2,sv3,Nat.reduceEqDiff,Nat.reduceAdd,Nat.reduceLeDiff,reduceIte,if_false,if_true,mkVal,unLV,List.map,optTmps];rfl) (fun r hr hrc2=>⟨trivial,?_⟩)
 simp only [Env.put_some]
 obtain ⟨seev,atv,tv,fv,rws,hC⟩:=hr
 have hfi:B.start.map (fun q=>(0,q.toNat))=firsts B:=rfl
 rw [hfi] at hC
 obtain ⟨hst2,hnx2,hS2,hL2,hlen,hlet',-,hbk,hbig,hlt⟩:=id hsg
 have hpos:0<ls.length:=by omega
 have hfin:=firsts_in (ls:=ls) hok hpos
 have hsr:=srun_ok hok hbk hlt hfin
 have hacl:=acc_len hok hbig hsr.1
 generalize hacc:srun B ls sl'.length (firsts B)=acc at *
 have hCe:=hC.eq
 have hal:=hC.at_.len
 generalize hcs:[LV.int .i64 B.L,sv,nv,st',lo',seev,atv,tv,fv]=cs at hCe
 subst hCe
 have g3:cs[3]? = some st':=by rw [← hcs];rfl
 have g4:cs[4]? = some lo':=by rw [← hcs];rfl
 have k5:∀ t:St,loadLV none (.pimm cs (0+5)) t=some seev:=fun t=>by rw [← hcs];rfl
 have k6:∀ t:St,loadLV none (.pimm cs (0+6)) t=some atv:=fun t=>by rw [← hcs];rfl
 have k7:∀ t:St,loadLV none (.pimm cs (0+7)) t=some tv:=fun t=>by rw [← hcs];rfl
 have hpw:∀ t:St,PtW (.pimm cs 0) t sl' ll' (.pimm cs 3) (.pimm cs 3) (.pimm cs 4) st' lo':=fun t=>ptw_imm g3 g4 hS' hL' (by omega)
 have hcl1:(LV.agg [.int .i64 B.L,sv,nv]).closed=true:=hvc
 repeat' (first | refine gA trivial ?_ | (refine gB trivial ?_;intro bb hbb;cases bb<;>(try simp only [hbs,if_false,reduceCtorEq] at hbb)) | apply qc_seq | fail)
 refine qc_loop (fun m e s=>∃ k:Nat,m=acc.length - k∧k≤acc.length∧(∀ (i' k':Nat) (x':Pl) (m':Int × Bool),i'<k→(acc.map (·.1))[i']? = some x'→(bms B ls x')[k']? = some m'→¬ Hit (tkOf B ls sl'.length) x' m')∧2≤s.n∧s.get 0=some (.cells .mut [st',lo'])∧s.get 1=some (.cells .mut [.nils, .nils])∧e.at 2 = .pimm [.int .i64 B.L,sv,nv] 0∧e.at 3 = .pref 0 0∧e.at 4 = .pref 1 0∧e.at 6 = .pimm cs 0∧e.at 7 = .int .i64 (k:Int)) _
  ⟨0,rfl,by omega,fun i' k' x' m' h=>by omega,by simp [n_empty],by simp [St.get_put,St.get_new,n_empty],by simp [St.get_put,St.get_new,n_empty],ef,ef,ef,ef,by simp only [lk,sv1,sv2,sv3,Nat.reduceEqDiff,Nat.reduceAdd,Nat.reduceLeDiff,reduceIte,if_false,if_true,mkVal,unLV,List.map,optTmps];rfl⟩ ?_
 clear h0 h1
 clear e
 rintro m e s ⟨k,rfl,hk,hno,hn2,r0,r1,e2,e3,e4,e6,e7⟩
 by_cases hkl:k<acc.length
 ·obtain ⟨x,hx⟩:∃ x,acc[k]? = some x:=⟨_,List.getElem?_eq_getElem hkl⟩
  have hpx:(acc.map (·.1))[k]? = some x.1:=by rw [List.getElem?_map,hx];rfl
  have hxin:InT B ls x.1:=hsr.1.rng x (List.mem_of_getElem? hx)
  obtain ⟨hp1,hp2⟩:=id hxin
  have hkI:(k:Int)<(acc.length:Int):=by omega
  have l6:∀ t:St,loadLV none (.pimm (nints (acc.map (·.1.1))) k) t=some (.int .i64 (x.1.1:Int)):=fun t=>load_imm (by simp [nints,hx])
  have l7:∀ t:St,loadLV none (.pimm (nints (acc.map (·.1.2))) k) t=some (.int .i64 (x.1.2:Int)):=fun t=>load_imm (by simp [nints,hx])
  obtain ⟨ws,hr⟩:=hn.row x.1.2 hp2
  have hrow:=hok.2.2.2.2 x.1.2 hp2
  have hlq:ls.getD x.1.1 0<(B.next.getD x.1.2 []).length:=by have:=hlt x.1.1 hp1;have:=hrow.1;omega
  have hmw:=hr.row _ hlq
  have i1:∀ t:St,iaLV 1 nv (.int .i64 (x.1.2:Int)) t=some (.pimm vs x.1.2,t):=fun t=>by
   have:=iaN (esz:=1) (k:=.i64) (s:=t) hn.sl (i:=x.1.2) (by omega)
   simpa using this
  have g1:vs[x.1.2]? = some (vs.getD x.1.2 .top):=hn.get hp2
  have i3:∀ t:St,iaLV 1 (vs.getD x.1.2 .top) (.int .i64 (ls.getD x.1.1 0:Int)) t=some (.pimm ws (ls.getD x.1.1 0),t):=fun t=>by
   have:=iaN (esz:=1) (k:=.i64) (s:=t) hr.sl (i:=ls.getD x.1.1 0) (by omega)
   simpa using this
  have g3':ws[ls.getD x.1.1 0]? = some (ws.getD (ls.getD x.1.1 0) .top):=hr.get hlq
  repeat' (first | refine gA (And.intro @hal (And.intro @k6 (And.intro @k7 (And.intro (@iaN _ _ _ hC.at_) (And.intro (@iaN _ _ _ hC.st_) (And.intro @l6 (And.intro @l7 (And.intro @i1 @g1)))))))) ?_ | (refine gB (And.intro @hal (And.intro @k6 (And.intro @k7 (And.intro (@iaN _ _ _ hC.at_) (And.intro (@iaN _ _ _ hC.st_) (And.intro @l6 (And.intro @l7 (And.intro @i1 @g1)))))))) ?_;intro bb hbb;cases bb<;>(try simp only [hbs,if_false,reduceCtorEq] at hbb)) | apply qc_seq | fail)
  ·exfalso;omega
  refine q_call wN rfl (by simp only [List.map,lk,sv1,sv2,sv3,Nat.reduceEqDiff,Nat.reduceAdd,Nat.reduceLeDiff,reduceIte,if_false,if_true,mkVal,unLV,List.map,optTmps]) (CallOk.mono (slet_call (hpw s) (i:=x.1.1) (by omega)) fun r t' hh=>?_)
  obtain ⟨rfl,rfl⟩:=hh
  rw [hlet' x.1.1 hp1]
  simp only [Env.put_some]
  refine ⟨⟨chk_load (p:=.pimm [.int .i64 B.L,sv,nv] (0+2)) (v:=nv) ef rfl ef,chk_load (p:=.pimm cs (0+7)) ef (k7 _) ef,chk_load (p:=.pimm (nints (acc.map (·.1.2))) k) ef (l7 _) ef,chk_load (p:=.pimm vs x.1.2) ef (load_imm g1) ef,trivial⟩,?_⟩
  repeat' (first | refine gA (And.intro @i3 @g3') ?_ | (refine gB (And.intro @i3 @g3') ?_;intro bb hbb;cases bb<;>(try simp only [hbs,if_false,reduceCtorEq] at hbb)) | apply qc_seq | fail)
  generalize hms:(B.next.getD x.1.2 []).getD (ls.getD x.1.1 0) []=ms at hmw
  have hbms:bms B ls x.1=ms:=hms
  generalize ws.getD (ls.getD x.1.1 0) .top=mv at *
  have hml:=hmw.sl.len
  have hmlen:=hmw.len
  have hmx:maxLen=9223372036854775807:=by decide
  refine qc_loop (fun m e s=>∃ j:Nat,m=ms.length - j∧j≤ms.length∧(∀ (k':Nat) (m':Int × Bool),k'<j→ms[k']? = some m'→¬ Hit (tkOf B ls sl'.length) x.1 m')∧2≤s.n∧s.get 0=some (.cells .mut [st',lo'])∧s.get 1=some (.cells .mut [.nils, .nils])∧e.at 2 = .pimm [.int .i64 B.L,sv,nv] 0∧e.at 3 = .pref 0 0∧e.at 4 = .pref 1 0∧e.at 6 = .pimm cs 0∧e.at 7 = .int .i64 (k:Int)∧e.at 8=mv∧e.at 9 = .int .i64 (j:Int)) _
   ⟨0,rfl,by omega,fun k' m' h=>by omega,hn2,r0,r1,ef,ef,ef,ef,ef,ef,by simp only [lk,sv1,sv2,sv3,Nat.reduceEqDiff,Nat.reduceAdd,Nat.reduceLeDiff,reduceIte,if_false,if_true,mkVal,unLV,List.map,optTmps];rfl⟩ ?_
  clear e2 e3 e4 e6 e7 hn2 r0 r1 hbb
  clear e t'
  rintro m e s ⟨j,rfl,hj,hnoj,hn2,r0,r1,e2,e3,e4,e6,e7,e8,e9⟩
  by_cases hjl:j<ms.length
  ·obtain ⟨mm,hmm⟩:∃ mm,ms[j]? = some mm:=⟨_,List.getElem?_eq_getElem hjl⟩
   have hgd:ms.getD j (0,false)=mm:=by rw [List.getD_eq_getElem?_getD,hmm];rfl
   have hjI:(j:Int)<(ms.length:Int):=by omega
   have hw':IntKind.i64.wrap ((j:Int)+1)=((j+1:Nat):Int):=by rw [wrap_i64 _ (by omega) (by omega)];rfl
   have hmn:=move_nat (ls:=ls) hok hlt hxin (by rw [hbms];exact hmm)
   have hmem:mm∈bms B ls x.1:=by rw [hbms];exact List.mem_of_getElem? hmm
   have hhit:=hit_iff (bk:=sl'.length) hok hbk hlt hxin hmem
   have haf:(tkOf B ls sl'.length).after x.1 (nat2 mm)=(if x.1.1+1=sl'.length+ll'.length then sl'.length else x.1.1+1,mm.1.toNat):=by
    rw [← hlen];rfl
   have hin:=after_in (bk:=sl'.length) hok hbk hlt hxin hmem
   rw [haf] at hhit hin
   have hms2:nat2 mm=(mm.1.toNat,mm.2):=rfl
   obtain ⟨hq,hqn⟩:=hmn
   have lb:∀ t:St,loadLV none (.pimm (mcells ms) (j*2+1)) t=some (.bool mm.2):=fun t=>by
    have:=mcells_get1 hjl
    rw [hgd] at this
    exact load_imm this
   have lm:∀ t:St,loadLV none (.pimm (mcells ms) (j*2+0)) t=some (.int .i64 (mm.1.toNat:Int)):=fun t=>by
    have:=mcells_get0 hjl
    rw [hgd] at this
    rw [hq] at this
    exact load_imm this
   generalize hgood:mm.2=good at *
   generalize hqq:mm.1.toNat=q at *
   have hnext:∀ (hn:¬ Hit (tkOf B ls sl'.length) x.1 mm) (k':Nat) (m':Int × Bool),k'<j+1→ms[k']? = some m'→¬ Hit (tkOf B ls sl'.length) x.1 m':=fun hn k' m' hk' hm'=>by
    by_cases h:k'<j
    ·exact hnoj k' m' h hm'
    ·obtain rfl:k'=j:=by omega
     rw [hmm] at hm'
     cases hm'
     exact hn
   repeat' (first | refine gA (And.intro @hml (And.intro (@iaN _ _ _ hmw.sl) @lb)) ?_ | (refine gB (And.intro @hml (And.intro (@iaN _ _ _ hmw.sl) @lb)) ?_;intro bb hbb;cases bb<;>(try simp only [hbs,if_false,reduceCtorEq] at hbb)) | apply qc_seq | fail)
   ·exfalso;omega
   cases good with
   | false=>
    repeat' (first | refine gA trivial ?_ | (refine gB trivial ?_;intro bb hbb;cases bb<;>(try simp only [hbs,if_false,reduceCtorEq] at hbb)) | apply qc_seq | fail)
    refine ⟨ms.length - (j+1),by omega,j+1,rfl,by omega,hnext (fun h=>by have:=(hhit.1 h).1;cases this),hn2,r0,r1,ef,ef,ef,ef,ef,ef,ef⟩
   | true=>
    have k3:loadLV (some 3) (.pimm [.int .i64 B.L,sv,nv] 0) s=some (.agg [.int .i64 B.L,sv,nv]):=rfl
    have k2:∀ t:St,t.get 0=s.get 0→loadLV (some 2) (.pref 0 0) t=some (.agg [st',lo']):=fun t ht=>by simp [loadLV,ht,r0,mkVal]
    have k2s:=k2 s rfl
    repeat' (first | refine gA (And.intro @k3 (And.intro @k2s (And.intro @k6 (And.intro (@iaN _ _ _ hC.at_) (And.intro @l6 (And.intro (@iaN _ _ _ hmw.sl) @lm)))))) ?_ | (refine gB (And.intro @k3 (And.intro @k2s (And.intro @k6 (And.intro (@iaN _ _ _ hC.at_) (And.intro @l6 (And.intro (@iaN _ _ _ hmw.sl) @lm)))))) ?_;intro bb hbb;cases bb<;>(try simp only [hbs,if_false,reduceCtorEq] at hbb)) | apply qc_seq | fail)
    refine q_bsl2 (xv:=.int .i64 (q:Int)) (vs:=[.int .i64 (q:Int)]) ef rfl rfl rfl (fun s6 m1 m2 m3=>?_) (fun s6 m1 m2 m3=>?_)
    ·exact ⟨chk_load (p:=.pimm [.int .i64 B.L,sv,nv] 0) ef (v:=.agg [.int .i64 B.L,sv,nv]) rfl ef,chk_load (p:=.pref 0 0) ef (k2 s6 (m3 0 (by omega))) ef,chk_load (p:=.pimm cs (0+6)) ef (k6 _) ef,chk_load (p:=.pimm (nints (acc.map (·.1.1))) k) ef (l6 _) ef,chk_load (p:=.pimm (mcells ms) (j*2+0)) ef (lm _) ef,trivial⟩
    have q0:s6.get 0=some (.cells .mut [st',lo']):=(m3 0 (by omega)).trans r0
    have q1:s6.get 1=some (.cells .mut [.nils, .nils]):=(m3 1 (by omega)).trans r1
    have k2':loadLV (some 2) (.pref 0 0) s6=some (.agg [st',lo']):=k2 s6 (m3 0 (by omega))
    clear k2 k2s
    refine q_call wN rfl (by simp only [List.map,lk,sv1,sv2,sv3,Nat.reduceEqDiff,Nat.reduceAdd,Nat.reduceLeDiff,reduceIte,if_false,if_true,mkVal,unLV,List.map,optTmps]) (CallOk.mono (snext_call (hpw s6) (i:=x.1.1) (by omega)) fun r t' hh=>?_)
    obtain ⟨rfl,rfl⟩:=hh
    simp only [Env.put_some]
    refine ⟨⟨chk_load (p:=.pimm [.int .i64 B.L,sv,nv] 0) ef (v:=.agg [.int .i64 B.L,sv,nv]) rfl ef,chk_load (p:=.pref 0 0) ef k2' ef,chk_load (p:=.pimm (mcells ms) (j*2+0)) ef (lm _) ef,trivial⟩,?_⟩
    generalize hnp:(if x.1.1+1=sl'.length+ll'.length then sl'.length else x.1.1+1)=np at *
    have hA1:IsInts (.simm [.int .i64 (q:Int)] 1) [(q:Int)]:=⟨.simm _ _,by simp;decide,fun y hy=>by
     rw [List.mem_singleton.1 hy]
     have:=hok.2.2.1
     constructor<;>omega⟩
    have hfz:frz.frzAll (frz frzDepth) [.agg [.int .i64 B.L,sv,nv], .agg [st',lo'], .int .i64 (np:Int), .sref s.n 0 1 1] t'=some ([.agg [.int .i64 B.L,sv,nv], .agg [st',lo'], .int .i64 (np:Int), .simm [.int .i64 (q:Int)] 1],t'.put s.n (.cells .app [.int .i64 (q:Int)])):=by
     have hz:=frz_sref (len:=1) m2 rfl rfl
     have hi:frz frzDepth (.int .i64 (np:Int)) t'=some (.int .i64 (np:Int),t'):=frzD_closed rfl
     simp [frz.frzAll,frzD_closed hcl1,frzD_closed hrc,hz,hi]
    refine q_call wN rfl (by simp only [List.map,lk,sv1,sv2,sv3,Nat.reduceEqDiff,Nat.reduceAdd,Nat.reduceLeDiff,reduceIte,if_false,if_true,mkVal,unLV,List.map,optTmps]) (call_frz hfz (pure_callEx hG0 (sopen_ok hsg hA1 (at_:=np) hin.1 (fun y hy=>by rw [List.mem_singleton.1 hy];exact ⟨by omega,by omega⟩)) fun r2 hr2 hrc3=>⟨trivial,?_⟩))
    simp only [Env.put_some]
    obtain ⟨seev2,atv2,tv2,fv2,rws2,hC2⟩:=hr2
    have hfi2:([(q:Int)].map fun z=>(np,z.toNat))=[((np,q):Pl)]:=by simp
    rw [hfi2] at hC2
    have hsr2:=srun_ok (from_:=[((np,q):Pl)]) hok hbk hlt (fun p hp=>by rw [List.mem_singleton.1 hp];exact hin)
    have hacl2:=acc_len hok hbig hsr2.1
    generalize hacc2:srun B ls sl'.length [((np,q):Pl)]=acc2 at *
    have hC2e:=hC2.eq
    generalize hcs2:[LV.int .i64 B.L,sv,nv,st',lo',seev2,atv2,tv2,fv2]=cs2 at hC2e
    subst hC2e
    have u5:∀ t:St,loadLV none (.pimm cs2 (0+5)) t=some seev2:=fun t=>by rw [← hcs2];rfl
    have hTI:∀ t:St,iaLV 1 seev2 (.int .i64 (x.1.1:Int)) t=some (.pimm rws2 x.1.1,t):=fun t=>by
     have:=iaN (esz:=1) (k:=.i64) (s:=t) hC2.see (i:=x.1.1) (by omega)
     simpa using this
    have hTr:rws2[x.1.1]? = some (rws2.getD x.1.1 .top):=by
     have:=hC2.rl
     simp [List.getD_eq_getElem?_getD,show x.1.1<rws2.length by omega]
    have hTJ:∀ t:St,iaLV 1 (rws2.getD x.1.1 .top) (.int .i64 (x.1.2:Int)) t=some (.pimm (rowc acc2 x.1.1 B.next.length) x.1.2,t):=fun t=>by
     have:=iaN (esz:=1) (k:=.i64) (s:=t) (hC2.row x.1.1 hp1) (i:=x.1.2) (by omega)
     simpa using this
    have hTx:(rowc acc2 x.1.1 B.next.length)[x.1.2]? = some (.int .i64 (ixI acc2 x.1)):=rowc_get hp2
    have n1:2≤(t'.put s.n (.cells .app [.int .i64 (q:Int)])).n:=by rw [St.n_put];omega
    have p0:(t'.put s.n (.cells .app [.int .i64 (q:Int)])).get 0=some (.cells .mut [st',lo']):=by rw [St.get_put,if_neg (by omega)];exact q0
    have p1:(t'.put s.n (.cells .app [.int .i64 (q:Int)])).get 1=some (.cells .mut [.nils, .nils]):=by rw [St.get_put,if_neg (by omega)];exact q1
    generalize t'.put s.n (.cells .app [.int .i64 (q:Int)])=s7 at *
    clear q0 q1 m1 m2 m3 hfz k2' r0 r1 hn2
    repeat' (first | refine gA (And.intro @u5 (And.intro @k6 (And.intro @k7 (And.intro (@iaN _ _ _ hC.at_) (And.intro (@iaN _ _ _ hC.st_) (And.intro @l6 (And.intro @l7 (And.intro @hTI (And.intro @hTr (And.intro @hTJ @hTx)))))))))) ?_ | (refine gB (And.intro @u5 (And.intro @k6 (And.intro @k7 (And.intro (@iaN _ _ _ hC.at_) (And.intro (@iaN _ _ _ hC.st_) (And.intro @l6 (And.intro @l7 (And.intro @hTI (And.intro @hTr (And.intro @hTJ @hTx)))))))))) ?_;intro bb hbb;cases bb<;>(try simp only [hbs,if_false,reduceCtorEq] at hbb)) | apply qc_seq | fail)
    rotate_left
    ·exact ⟨ms.length - (j+1),by omega,j+1,rfl,by omega,hnext (fun h=>(ixI_neg.1 hbb) (hhit.1 h).2),n1,p0,p1,ef,ef,ef,ef,ef,ef,ef⟩
    have hmem2:x.1∈acc2.map (·.1):=Classical.byContradiction fun hn=>by have:=ixI_neg.2 hn;omega
    obtain ⟨qn,hqn2⟩:=List.mem_iff_getElem?.1 hmem2
    obtain ⟨z,hz,hzx⟩:∃ z,acc2[qn]? = some z∧z.1=x.1:=by
     rw [List.getElem?_map] at hqn2
     obtain ⟨z,h1,h2⟩:=Option.map_eq_some_iff.1 hqn2
     exact ⟨z,h1,h2⟩
    have hix:=ixI_get hsr2.1.nd hz
    have hw1:=rway_ok hC hok hsr.1 hacl hx
    have hw2:=rway_ok hC2 hok hsr2.1 hacl2 hz
    rw [← hix,hzx] at hw2
    have hRD:RunD B ls sl'.length (wayS acc x.1) (x.1.2::wayS acc2 x.1) true:=by
     refine ⟨x.1,(np,q),?_,fun _=>⟨by rw [hacc],by rw [hacc2]⟩,fun h=>by cases h⟩
     rw [hacc]
     refine .inl ⟨rfl,k,j,mm,hpx,by rw [hbms];exact hmm,hhit.2 ⟨rfl,hmem2⟩,haf.symm,fun i' k' x' m' hlt' h1 h2=>?_⟩
     rcases hlt' with h | ⟨rfl,h⟩
     ·exact hno i' k' x' m' h h1 h2
     ·rw [hpx] at h1
      cases h1
      rw [hbms] at h2
      exact hnoj k' m' h h2
    have hRA:RunA B S L (wayS acc x.1) (x.1.2::wayS acc2 x.1) true:=.inr ⟨hrdy,sl',ll',ls,hN,hls.symm,hbk,hbig,hlt,hw,hRD⟩
    have hl1:=wayS_len hok hbk hlt hfin (x:=x.1) (by rw [hacc];exact List.mem_map_of_mem (List.mem_of_getElem? hx))
    have hl2:=wayS_len hok hbk hlt (from_:=[((np,q):Pl)]) (fun p hp=>by rw [List.mem_singleton.1 hp];exact hin) (x:=x.1) (by rw [hacc2];exact hmem2)
    rw [hacc] at hl1
    rw [hacc2] at hl2
    have hlN:ls.length*B.next.length≤600000:=by
     have:ls.length*B.next.length≤200*3000:=Nat.mul_le_mul hbig hok.2.2.1
     omega
    have hb2:=way_lt hok hsr2.1 hmem2
    have hxb:x.1.2<3000:=by have:=hok.2.2.1;omega
    generalize hA:wayS acc x.1=WA at *
    generalize hB2:wayS acc2 x.1=WB at *
    refine q_pureEx hG0 hw1 wN (by simp only [List.map,lk,sv1,sv2,sv3,Nat.reduceEqDiff,Nat.reduceAdd,Nat.reduceLeDiff,reduceIte,if_false,if_true,mkVal,unLV,List.map,optTmps]) (fun r3 hr3 hr3c=>⟨trivial,?_⟩)
    simp only [Env.put_some]
    repeat' (first | refine gA trivial ?_ | (refine gB trivial ?_;intro bb hbb;cases bb<;>(try simp only [hbs,if_false,reduceCtorEq] at hbb)) | apply qc_seq | fail)
    refine q_pureEx hG0 hw2 wN (by simp only [List.map,lk,sv1,sv2,sv3,Nat.reduceEqDiff,Nat.reduceAdd,Nat.reduceLeDiff,reduceIte,if_false,if_true,mkVal,unLV,List.map,optTmps]) (fun r4 hr4 hr4c=>⟨trivial,?_⟩)
    simp only [Env.put_some]
    have hl3:slLen r3=some (WA.length+1):=by have:=hr3.sl.len;simpa using this
    have hl4:slLen r4=some (WB.length+1):=by have:=hr4.sl.len;simpa using this
    have w3:IntKind.i64.wrap (((WA.length+1:Nat):Int) - 1)=(WA.length:Int):=by rw [wrap_i64 _ (by omega) (by omega)];omega
    have w4:IntKind.i64.wrap (((WB.length+1:Nat):Int) - 1)=(WB.length:Int):=by rw [wrap_i64 _ (by omega) (by omega)];omega
    repeat' (first | refine gA @hl3 ?_ | (refine gB @hl3 ?_;intro bb hbb;cases bb<;>(try simp only [hbs,if_false,reduceCtorEq] at hbb)) | apply qc_seq | fail)
    rw [w3]
    refine w_gen (fun e t=>t=s7∧e.at 4 = .pref 1 0∧e.at 6 = .pimm cs 0∧e.at 7 = .int .i64 (k:Int)∧e.at 13=r4∧e.at 117=r3∧e.at 120 = .int .i64 (WA.length:Int)) ⟨rfl,ef,ef,ef,ef,ef,ef⟩ ?_
    clear e2 e3 e4 e6 e7 e8 e9
    clear e
    rintro e t ⟨rfl,e4,e6,e7,e13,e117,e120⟩
    obtain ⟨r5,hr5,hr5i⟩:=take_ints hr3 (e:=e) (s:=t) (x:=.t 117) (hi:=.t 120) (h:=WA.length) ef ef (by simp)
    have hr5t:(zints (WA++[x.1.2])).take WA.length=zints WA:=by simp [zints]
    rw [hr5t] at hr5i
    refine q_gen (v:=r5) (s':=t) wN hr5 rfl trivial ?_
    simp only [Env.put_some]
    repeat' (first | refine gA (And.intro @k7 (And.intro (@iaN _ _ _ hC.st_) @l7)) ?_ | (refine gB (And.intro @k7 (And.intro (@iaN _ _ _ hC.st_) @l7)) ?_;intro bb hbb;cases bb<;>(try simp only [hbs,if_false,reduceCtorEq] at hbb)) | apply qc_seq | fail)
    refine q_bsl2 (xv:=.int .i64 (x.1.2:Int)) (vs:=[.int .i64 (x.1.2:Int)]) ef rfl rfl rfl (fun s8 v1 v2 v3=>?_) (fun s8 v1 v2 v3=>?_)
    ·exact ⟨chk_load (p:=.pimm cs (0+7)) ef (k7 _) ef,chk_load (p:=.pimm (nints (acc.map (·.1.2))) k) ef (l7 _) ef,trivial⟩
    repeat' (first | refine gA @hl4 ?_ | (refine gB @hl4 ?_;intro bb hbb;cases bb<;>(try simp only [hbs,if_false,reduceCtorEq] at hbb)) | apply qc_seq | fail)
    rw [w4]
    refine w_gen (fun e u=>u=s8∧e.at 4 = .pref 1 0∧e.at 121=r5∧e.at 129 = .sref t.n 0 1 1∧e.at 130=r4∧e.at 133 = .int .i64 (WB.length:Int)) ⟨rfl,ef,ef,ef,ef,ef⟩ ?_
    clear e4 e6 e7 e13 e117 e120 hr5
    clear e
    rintro e u ⟨rfl,e4,e121,e129,e130,e133⟩
    obtain ⟨r6,hr6,hr6i⟩:=take_ints hr4 (e:=e) (s:=u) (x:=.t 130) (hi:=.t 133) (h:=WB.length) ef ef (by simp)
    have hr6t:(zints (WB++[x.1.2])).take WB.length=zints WB:=by simp [zints]
    rw [hr6t] at hr6i
    refine q_gen (v:=r6) (s':=u) wN hr6 rfl trivial ?_
    simp only [Env.put_some]
    have hr6s:=hr6i.sl
    rw [zints_length] at hr6s
    refine q_appSl (j:=t.n) (a:=1) (n:=WB.length) (A:=[.int .i64 (x.1.2:Int)]) (cells:=ints (zints WB)) (yv:=r6) ef v2 rfl ef hr6s (ints_closed _) (by simp) (by omega) (fun _ _ _=>trivial) (fun s9 y1 y2 y3=>?_)
    have hc7:=hr5i.sl.cell
    have hr1n:s9.get 1=some (.cells .mut [.nils, .nils]):=by rw [y3 1 (by omega) (by omega),v3 1 (by omega)];exact p1
    refine q_gen (v:=.agg [r5, .sref u.n 0 (1+WB.length) 1]) (s':=s9) wN (by simp [LOp.run,evParts,fillParts,lk,sv1,sv2,sv3,Nat.reduceEqDiff,Nat.reduceAdd,Nat.reduceLeDiff,reduceIte,if_false,if_true,mkVal,unLV,List.map,optTmps,hc7,splice,e121,cells_cell hc7]) rfl trivial ?_
    simp only [Env.put_some]
    refine q_storeG (i:=1) (o:=0) (n:=2) (cs:=[.nils, .nils]) (vs:=[r5, .sref u.n 0 (1+WB.length) 1]) (cs':=[r5, .sref u.n 0 (1+WB.length) 1]) (v:=.agg [r5, .sref u.n 0 (1+WB.length) 1]) ef ef (by simp [cells_agg,hc7,isC_sref]) hr1n rfl (by simp) rfl ?_
    repeat' (first | refine gA trivial ?_ | (refine gB trivial ?_;intro bb hbb;cases bb<;>(try simp only [hbs,if_false,reduceCtorEq] at hbb)) | apply qc_seq | fail)
    have hcells:[LV.int .i64 (x.1.2:Int)]++ints (zints WB)=nints (x.1.2::WB):=by rw [nints_zints];simp [zints,ints]
    rw [hcells] at y2
    have hY:Fld (s9.put 1 (.cells .mut [r5, .sref u.n 0 (1+WB.length) 1])) (.sref u.n 0 (1+WB.length) 1) (zints (x.1.2::WB)):=by
     refine skc_fld (l:=x.1.2::WB) ⟨by simp, .inr ⟨u.n,by rw [List.length_cons,Nat.add_comm],by simp,by rw [St.n_put];omega,by rw [St.get_put,if_neg (by omega)];exact y2⟩⟩ (by rw [List.length_cons];omega) (fun y hy=>?_)
     rcases List.mem_cons.1 hy with rfl | hy
     ·exact hxb
     ·exact hb2 y hy
    obtain ⟨x',y',s',z1,z2,z3⟩:=frz_path (b:=true) (s:=s9.put 1 (.cells .mut [r5, .sref u.n 0 (1+WB.length) 1])) (.inl hr5i) hY
    exact ⟨.inr trivial, .tup [.agg [r5, .sref u.n 0 (1+WB.length) 1], .bool true],by simp [resVal,resOne,mkVal,lk,St.get_put,e4],_,s',z1,by simp [LV.closed,LV.closed.closedAll,z2.closed,z3.closed],x',y',_,_,true,rfl,z2,z3,hRA⟩
  ·have hj':j=ms.length:=by omega
   subst hj'
   have hw:IntKind.i64.wrap ((k:Int)+1)=((k+1:Nat):Int):=by rw [wrap_i64 _ (by omega) (by omega)];rfl
   repeat' (first | refine gA @hml ?_ | (refine gB @hml ?_;intro bb hbb;cases bb<;>(try simp only [hbs,if_false,reduceCtorEq] at hbb)) | apply qc_seq | fail)
   ·refine ⟨acc.length - (k+1),by omega,k+1,rfl,by omega,fun i' k' x' m' hi' h1 h2=>?_,hn2,r0,r1,ef,ef,ef,ef,ef⟩
    by_cases h:i'<k
    ·exact hno i' k' x' m' h h1 h2
    ·obtain rfl:i'=k:=by omega
     rw [hpx] at h1
     cases h1
     rw [hbms] at h2
     exact hnoj k' m' (List.getElem?_eq_some_iff.1 h2).1 h2
   ·exfalso;omega
 ·have hk':k=acc.length:=by omega
  subst hk'
  repeat' (first | refine gA (And.intro @hal @k6) ?_ | (refine gB (And.intro @hal @k6) ?_;intro bb hbb;cases bb<;>(try simp only [hbs,if_false,reduceCtorEq] at hbb)) | apply qc_seq | fail)
  rotate_left
  ·exfalso;omega
  refine q_run0 (v:=.agg [.nils, .nils]) (by simp only [LOp.run,lk,sv1,sv2,sv3,Nat.reduceEqDiff,Nat.reduceAdd,Nat.reduceLeDiff,reduceIte,if_false,if_true,mkVal,unLV,List.map,optTmps,evParts,fillParts];rfl) ?_
  repeat' (first | refine gA @r1 ?_ | (refine gB @r1 ?_;intro bb hbb;cases bb<;>(try simp only [hbs,if_false,reduceCtorEq] at hbb)) | apply qc_seq | fail)
  have hD:RunD B ls sl'.length [] [] false:=⟨(0,0),(0,0),by
   rw [hacc]
   exact .inr ⟨rfl,rfl,rfl,fun i' k' x' m' h1 h2=>hno i' k' x' m' (by have:=(List.getElem?_eq_some_iff.1 h1).1;rwa [List.length_map] at this) h1 h2⟩,(fun h=>by cases h),fun _=>⟨rfl,rfl⟩⟩
  exact ⟨.inr trivial, .tup [.agg [.nils, .nils], .bool false],by simp [resVal,resOne,mkVal,lk,St.get_put,e4],_,_,frzD_closed rfl,rfl, .nils, .nils,[],[],false,rfl,nil_ints,nil_ints, .inr ⟨hrdy,sl',ll',ls,hN,hls.symm,hbk,hbig,hlt,hw,hD⟩⟩
end Go.Proofs.YtgobbogomchnhaaGreatDoor
