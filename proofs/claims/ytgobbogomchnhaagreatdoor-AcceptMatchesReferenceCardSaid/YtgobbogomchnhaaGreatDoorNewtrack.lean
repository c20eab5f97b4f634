/- accept.newTrack. -/
import Derived.Test.YtgobbogomchnhaaGreatDoorGrow
import Derived.Test.YtgobbogomchnhaaGreatDoorWd
set_option linter.unusedSimpArgs false
set_option linter.unusedVariables false
section
set_option linter.unusedSimpArgs false
set_option linter.unusedVariables false
namespace Go.Proofs.YtgobbogomchnhaaGreatDoor
open Go Go.Pv Go.Aut
open Classical
set_option maxHeartbeats 4000000 in
theorem newTrack_ok {v:LV} {B:Bu} {sv nv st lo:LV} {sl ll:List Int} (hB:IsB v B sv nv) (hok:Vb B) (hS:IsInts st sl) (hL:IsInts lo ll) (hf:Fm sl ll) (ha:AllB sl B.L) (hb:AllB ll B.L) :
  PE 48 [v, .agg [st,lo]] (fun r=>∃ lv ls bk,IsTk r B ls bk sv nv lv∧(∀ i,((tkOf B ls bk).word i:Int)=lett sl ll i)∧∃ sl' ll',Nrm sl ll sl' ll'∧ls=(sl'++ll').map Int.toNat∧bk=sl'.length):=by
 have hvc:=hB.closed
 have hcl:(LV.agg [st,lo]).closed=true:=by simp [LV.closed,LV.closed.closedAll,hS.closed,hL.closed]
 have hc1:=hS.sl.cell
 have hc2:=hL.sl.cell
 obtain ⟨rfl,hst,hnx⟩:=hB
 obtain ⟨vs,hn⟩:=hnx
 have hc3:=hst.sl.cell
 have hc4:=hn.sl.cell
 refine q_fnExR Tryz.func48 (by decide +kernel) c48 (Nat.le_of_ble_eq_true rfl) (by simp [LV.closed.closedAll,hcl,hvc]) ?_
 have h0:(envOf [.agg [.int .i64 B.L,sv,nv],LV.agg [st,lo]]).at 0 = .agg [.int .i64 B.L,sv,nv]:=by rw [envOf_at];rfl
 have h1:(envOf [.agg [.int .i64 B.L,sv,nv],LV.agg [st,lo]]).at 1 = .agg [st,lo]:=by rw [envOf_at];rfl
 generalize envOf [.agg [.int .i64 B.L,sv,nv],LV.agg [st,lo]]=e at *
 unfold l48
 dsimp only [jA,jB,jG,jH,qL,qN,qF,qS,qO,qG]
 repeat' (first | refine gA trivial ?_ | (refine gB trivial ?_;intro bb hbb;cases bb<;>(try simp only [hbs,if_false,reduceCtorEq] at hbb)) | fail)
 refine q_pureEx hG0 (wnormal_ok hS hL hf) wN (by simp only [List.map,lk,sv1,sv2,sv3,Nat.reduceEqDiff,Nat.reduceAdd,Nat.reduceLeDiff,reduceIte,if_false,if_true,mkVal,unLV,List.map,optTmps,h1]) (fun r hr hrc=>⟨trivial,?_⟩)
 obtain ⟨st',lo',sl',ll',rfl,hS',hL',g1,g2,g3,g4,g5,g6,g7⟩:=hr
 have hca:=hS'.sl.cell
 have hcb:=hL'.sl.cell
 simp only [Env.put_some]
 repeat' (first | refine gA trivial ?_ | (refine gB trivial ?_;intro bb hbb;cases bb<;>(try simp only [hbs,if_false,reduceCtorEq] at hbb)) | fail)
 refine q_gen (v:=.sref 2 0 2 1) (s':=St.new (((St.empty.new (Blk.cells Md.mut [LV.int IntKind.i64 0,LV.nils,LV.nils,LV.nils,LV.int IntKind.i64 0])).new (Blk.cells Md.mut [LV.nils,LV.nils])).put 1 (Blk.cells Md.mut [st',lo'])) (.cells .mut [st',lo'])) wN ?_ rfl ?_ ?_
 ·simp only [LOp.run,lk,sv1,sv2,sv3,Nat.reduceEqDiff,Nat.reduceAdd,Nat.reduceLeDiff,reduceIte,if_false,if_true,mkVal,unLV,List.map,optTmps,evParts,fillParts,rep]
  have hq:cells? st'=some [st']:=cells_cell hca
  have hr:cells? lo'=some [lo']:=cells_cell hcb
  simp [hq,hr,splice,n_empty]
 ·simp only [Chks,wantedG,LOp.run,lk,sv1,sv2,sv3,Nat.reduceEqDiff,Nat.reduceAdd,Nat.reduceLeDiff,reduceIte,if_false,if_true,mkVal,unLV,List.map,optTmps,Env.put_some]
  simp [St.get_new,St.get_put,n_empty]
 simp only [Env.put_some]
 repeat' (first | refine gA @hS'.sl.len ?_ | (refine gB @hS'.sl.len ?_;intro bb hbb;cases bb<;>(try simp only [hbs,if_false,reduceCtorEq] at hbb)) | fail)
 have hcc:LV.closed.closedAll [st',lo']=true:=by simpa [LV.closed] using hrc
 have hlen:sl'.length+ll'.length≤100:=by
  obtain ⟨f1,f2,f3,_⟩:=hf
  omega
 have hN:IsRows (.simm [st',lo'] 2) [sl',ll'] [st',lo']:=⟨.simm _ _,rfl,Nat.le_of_ble_eq_true rfl,fun i hi=>by
  match i,hi with
  | 0,_=>exact hS'
  | 1,_=>exact hL'⟩
 generalize hs0:((((St.empty.new (Blk.cells Md.mut [LV.int IntKind.i64 0,LV.nils,LV.nils,LV.nils,LV.int IntKind.i64 0])).new (Blk.cells Md.mut [LV.nils,LV.nils])).put 1 (Blk.cells Md.mut [st',lo'])).new (Blk.cells Md.mut [st',lo']))=s0
 have k0:s0.get 0=some (.cells .mut [LV.int IntKind.i64 0,LV.nils,LV.nils,LV.nils,LV.int IntKind.i64 0]):=by rw [← hs0];simp [St.get_new,St.get_put,n_empty]
 have k1:s0.get 1=some (.cells .mut [st',lo']):=by rw [← hs0];simp [St.get_new,St.get_put,n_empty]
 have k2:s0.get 2=some (.cells .mut [st',lo']):=by rw [← hs0];simp [St.get_new,St.get_put,n_empty]
 clear hs0
 have hz:=frz_sref (len:=2) k2 rfl hcc
 have hfz:frz.frzAll (frz frzDepth) [.sref 2 0 2 1] s0=some ([.simm [st',lo'] 2],s0.put 2 (.cells .app [st',lo'])):=by simp [frz.frzAll,hz]
 refine q_call wN rfl (by simp only [List.map,lk,sv1,sv2,sv3,Nat.reduceEqDiff,Nat.reduceAdd,Nat.reduceLeDiff,reduceIte,if_false,if_true,mkVal,unLV,List.map,optTmps]) (call_frz hfz (pure_callEx hG0 (concat_ok hN (by simp;omega) (by simp)) fun r hr hrc2=>⟨?_,?_⟩))
 ·simp only [Chks,wantedG,LOp.run,lk,sv1,sv2,sv3,Nat.reduceEqDiff,Nat.reduceAdd,Nat.reduceLeDiff,reduceIte,if_false,if_true,mkVal,unLV,List.map,optTmps,Env.put_some]
  simp [St.get_put,k1]
 have q0:(s0.put 2 (.cells .app [st',lo'])).get 0=some (.cells .mut [LV.int IntKind.i64 0,LV.nils,LV.nils,LV.nils,LV.int IntKind.i64 0]):=by simp [St.get_put,k0]
 generalize s0.put 2 (.cells .app [st',lo'])=s1 at *
 have hrcl:=hr.sl.cell
 simp only [Env.put_some]
 repeat' (first | refine gA (And.intro @hS'.sl.len @q0) ?_ | (refine gB (And.intro @hS'.sl.len @q0) ?_;intro bb hbb;cases bb<;>(try simp only [hbs,if_false,reduceCtorEq] at hbb)) | fail)
 refine q_gen (v:=.agg [.int .i64 B.L,sv,nv,r, .int .i64 (sl'.length:Int)]) (s':=s1) wN ?_ rfl trivial ?_
 ·simp only [LOp.run,lk,sv1,sv2,sv3,Nat.reduceEqDiff,Nat.reduceAdd,Nat.reduceLeDiff,reduceIte,if_false,if_true,mkVal,unLV,List.map,optTmps,evParts,fillParts]
  have hA:cells? (LV.agg [LV.int .i64 B.L,sv,nv])=some [LV.int .i64 B.L,sv,nv]:=by simp [cells?,hc3,hc4,isC_int]
  have hI:∀ z:Int,cells? (LV.int .i64 z)=some [LV.int .i64 z]:=fun _=>rfl
  have hR:=cells_cell hrcl
  simp [hA,hI,hR,splice,hc3,hc4,isC_int]
 simp only [Env.put_some]
 refine q_storeG (i:=0) (o:=0) (n:=5) (cs:=[LV.int IntKind.i64 0,LV.nils,LV.nils,LV.nils,LV.int IntKind.i64 0]) (vs:=[.int .i64 B.L,sv,nv,r, .int .i64 (sl'.length:Int)]) (cs':=[.int .i64 B.L,sv,nv,r, .int .i64 (sl'.length:Int)]) (v:=.agg [.int .i64 B.L,sv,nv,r, .int .i64 (sl'.length:Int)]) ef ef (by simp [cells_agg,hc3,hc4,hrcl,isC_int]) q0 rfl (by simp) rfl ?_
 repeat' (first | refine gA trivial ?_ | (refine gB trivial ?_;intro bb hbb;cases bb<;>(try simp only [hbs,if_false,reduceCtorEq] at hbb)) | fail)
 have hcl2:(LV.agg [.int .i64 B.L,sv,nv,r, .int .i64 (sl'.length:Int)]).closed=true:=by
  have:(LV.agg [.int .i64 B.L,sv,nv]).closed=true:=hvc
  simp [LV.closed,LV.closed.closedAll] at this ⊢
  exact ⟨this.1,this.2,hrc2⟩
 have hr':IsInts r (sl'++ll'):=by simpa using hr
 have hnn:∀ x∈sl'++ll',0≤x∧x<B.L:=fun x hx=>by
  rcases List.mem_append.1 hx with hx | hx
  ·obtain ⟨j,hj,rfl⟩:=List.mem_iff_getElem.1 (g4 x hx)
   have:=ha j hj
   rwa [List.getD_eq_getElem?_getD,List.getElem?_eq_getElem hj] at this
  ·obtain ⟨j,hj,rfl⟩:=List.mem_iff_getElem.1 (g5 x hx)
   have:=hb j hj
   rwa [List.getD_eq_getElem?_getD,List.getElem?_eq_getElem hj] at this
 have hz2:zints ((sl'++ll').map Int.toNat)=sl'++ll':=by
  unfold zints
  rw [List.map_map]
  conv=>rhs;rw [← List.map_id (sl'++ll')]
  exact List.map_congr_left fun x hx=>by have:=(hnn x hx).1;simp;omega
 refine ⟨.inr trivial, .agg [.int .i64 B.L,sv,nv,r, .int .i64 (sl'.length:Int)],by simp [resVal,resOne,mkVal],_,_,frzD_closed hcl2,hcl2,r,(sl'++ll').map Int.toNat,sl'.length,⟨rfl,hst,⟨vs,hn⟩,by rw [hz2];exact hr',hok,by simp;omega,by simp;omega,by simp;omega,fun i hi=>?_⟩,(fun i=>by rw [word_lett g2 (fun x hx=>(hnn x hx).1),g6]),sl',ll',g7,rfl,rfl⟩
 rw [List.length_map] at hi
 rw [List.getD_eq_getElem?_getD,List.getElem?_map,List.getElem?_eq_getElem hi]
 have:=hnn _ (List.getElem_mem hi)
 simp only [Option.map_some,Option.getD_some]
 omega
end Go.Proofs.YtgobbogomchnhaaGreatDoor
end
section
set_option linter.unusedSimpArgs false
set_option linter.unusedVariables false
namespace Go.Proofs.YtgobbogomchnhaaGreatDoor
open Go Go.Pv Go.Aut Go.Bfs
open Classical
def AW (B:Bu) (S L:List Int):Prop:=Vb B∧(Fm S L∧AllB S B.L∧AllB L B.L)∧BAcc B fun i=>(lett S L i).toNat
theorem aword_turn {B:Bu} {S L:List Int} {ls:List Nat} {bk:Nat} {v sv nv lv:LV} (ht:IsTk v B ls bk sv nv lv) (hw:∀ i,((tkOf B ls bk).word i:Int)=lett S L i) (h1:Fm S L∧AllB S B.L∧AllB L B.L) {x y:Pl} {ok:Bool}
  (h:Turned B ls bk ((srun B ls bk (firsts B)).map (·.1)) x y ok):ok=decide (AW B S L):=by
 have h2:=turned_iff ht.ok ht.pos ht.bk ht.let' h
 have h3:(tkOf B ls bk).word=fun i=>(lett S L i).toNat:=funext fun i=>by rw [← hw i];rfl
 rw [h3] at h2
 cases ok with
 | true=>exact (decide_eq_true ⟨ht.ok,h1,h2.1 rfl⟩).symm
 | false=>exact (decide_eq_false fun h=>Bool.false_ne_true (h2.2 h.2.2)).symm
set_option maxHeartbeats 4000000 in
theorem aword_ok {v st lo:LV} {B:Bu} {sv nv:LV} {S L:List Int} (hB:IsB v B sv nv) (hS:IsInts st S) (hL:IsInts lo L):PO 21 [v, .agg [st,lo]] (.bool (decide (AW B S L))):=by
 have hvc:=hB.closed
 have hcl:(LV.agg [st,lo]).closed=true:=by simp [LV.closed,LV.closed.closedAll,hS.closed,hL.closed]
 have hc1:=hS.sl.cell
 have hc2:=hL.sl.cell
 have hbv:=bvalid_ok hB
 have hwv:=wvalid_ok hS hL B.L
 have hnt:=fun (a)=>newTrack_ok hB a hS hL
 obtain ⟨rfl,hst,hnx⟩:=hB
 obtain ⟨vs,hn⟩:=hnx
 have hc3:=hst.sl.cell
 have hc4:=hn.sl.cell
 refine pure_tmp (t:=4) hm Tryz.func21 (by decide +kernel) c21 (Nat.le_of_ble_eq_true rfl) (by simp [LV.closed.closedAll,hcl,hvc]) rfl rfl ?_
 have h0:(envOf [.agg [.int .i64 B.L,sv,nv],LV.agg [st,lo]]).at 0 = .agg [.int .i64 B.L,sv,nv]:=by rw [envOf_at];rfl
 have h1:(envOf [.agg [.int .i64 B.L,sv,nv],LV.agg [st,lo]]).at 1 = .agg [st,lo]:=by rw [envOf_at];rfl
 generalize envOf [.agg [.int .i64 B.L,sv,nv],LV.agg [st,lo]]=e at *
 refine Cd.out ?_
 unfold l21
 dsimp only [jA,jB,jC,jG,jH,qM,qL,qN,qF,qK,qO,qP,qG,qm]
 repeat' (first | refine gA trivial ?_ | (refine gB trivial ?_;intro bb hbb;cases bb<;>(try simp only [hbs,if_false,reduceCtorEq] at hbb)) | fail)
 refine q_pureB hG0 (hbv) (by first | exact wN | (apply wG;(simp only [lk,Nat.reduceEqDiff,reduceIte,h0,h1];(try rfl);done))) (by simp only [List.map,lk,Nat.reduceEqDiff,reduceIte,h0,h1];try rfl) (fun bb hbb=>⟨by first | trivial | (simp only [Chks,wantedG,LOp.run,Env.put_some,Env.put_none,lk,sv1,sv2,sv3,Nat.reduceEqDiff,Nat.reduceAdd,Nat.reduceLeDiff,reduceIte,if_false,if_true,mkVal,unLV,List.map,optTmps,beq_self_eq_true,reduceCtorEq,false_or,true_and,and_true,Option.some.injEq, *];done),?_⟩)
 simp only [Env.put_some]
 cases bb<;>simp only [decide_eq_true_eq,decide_eq_false_iff_not] at hbb
 ·repeat' (first | refine gA trivial ?_ | (refine gB trivial ?_;intro bb hbb;cases bb<;>(try simp only [hbs,if_false,reduceCtorEq] at hbb)) | fail)
  refine ⟨.inr trivial,?_⟩
  simp only [lk,sv1,sv2,sv3,Nat.reduceEqDiff,Nat.reduceAdd,Nat.reduceLeDiff,reduceIte,if_false,if_true,mkVal,unLV,List.map,optTmps]
  exact bool_f fun h=>hbb h.1
 repeat' (first | refine gA trivial ?_ | (refine gB trivial ?_;intro bb hbb;cases bb<;>(try simp only [hbs,if_false,reduceCtorEq] at hbb)) | fail)
 refine q_pureB hG0 (hwv) (by first | exact wN | (apply wG;(simp only [lk,Nat.reduceEqDiff,reduceIte,h0,h1];(try rfl);done))) (by simp only [List.map,lk,Nat.reduceEqDiff,reduceIte,h0,h1];try rfl) (fun bb hbb=>⟨by first | trivial | (simp only [Chks,wantedG,LOp.run,Env.put_some,Env.put_none,lk,sv1,sv2,sv3,Nat.reduceEqDiff,Nat.reduceAdd,Nat.reduceLeDiff,reduceIte,if_false,if_true,mkVal,unLV,List.map,optTmps,beq_self_eq_true,reduceCtorEq,false_or,true_and,and_true,Option.some.injEq, *];done),?_⟩)
 simp only [Env.put_some]
 cases bb<;>simp only [decide_eq_true_eq,decide_eq_false_iff_not] at hbb
 ·repeat' (first | refine gA trivial ?_ | (refine gB trivial ?_;intro bb hbb;cases bb<;>(try simp only [hbs,if_false,reduceCtorEq] at hbb)) | fail)
  refine ⟨.inr trivial,?_⟩
  simp only [lk,sv1,sv2,sv3,Nat.reduceEqDiff,Nat.reduceAdd,Nat.reduceLeDiff,reduceIte,if_false,if_true,mkVal,unLV,List.map,optTmps]
  exact bool_f fun h=>hbb h.2.1
 rename_i hvb
 repeat' (first | refine gA trivial ?_ | (refine gB trivial ?_;intro bb hbb;cases bb<;>(try simp only [hbs,if_false,reduceCtorEq] at hbb)) | fail)
 refine q_pureEx hG0 (hnt hvb hbb.1 hbb.2.1 hbb.2.2) wN (by simp only [List.map,lk,sv1,sv2,sv3,Nat.reduceEqDiff,Nat.reduceAdd,Nat.reduceLeDiff,reduceIte,if_false,if_true,mkVal,unLV,List.map,optTmps,h0,h1]) (fun r hr hrc=>⟨trivial,?_⟩)
 obtain ⟨lv,ls,bk,ht,hw,-⟩:=hr
 have htk:=ht
 obtain ⟨rfl,-,-,hlt,hok,hpos,hbk,hbig,hlet⟩:=ht
 have hc5:=hlt.sl.cell
 simp only [Env.put_some]
 repeat' (first | refine gA trivial ?_ | (refine gB trivial ?_;intro bb hbb;cases bb<;>(try simp only [hbs,if_false,reduceCtorEq] at hbb)) | fail)
 generalize hsx:((St.empty.new (Blk.cells Md.mut [.int .i64 0, .nils, .nils, .nils, .int .i64 0])).put 0 (Blk.cells Md.mut [.int .i64 B.L,sv,nv,lv, .int .i64 (bk:Int)]))=sx
 have g0:sx.get 0=some (.cells .mut [.int .i64 B.L,sv,nv,lv, .int .i64 (bk:Int)]):=by rw [← hsx];simp
 have n0:sx.n=1:=by rw [← hsx];rfl
 clear hsx
 refine q_gen (v:=.pref 1 0) (s':=sx.new (.cells .mut [.int .i64 0, .int .i64 0])) wN (by simp only [LOp.run,n0]) rfl ?_ ?_
 ·simp only [Chks,wantedG,LOp.run,lk,sv1,sv2,sv3,Nat.reduceEqDiff,Nat.reduceAdd,Nat.reduceLeDiff,reduceIte,if_false,if_true,mkVal,unLV,List.map,optTmps,Env.put_some]
  simp [St.get_new,g0,n0]
 simp only [Env.put_some]
 generalize hsx:sx.new (.cells .mut [.int .i64 0, .int .i64 0])=sy
 have g1:sy.get 0=some (.cells .mut [.int .i64 B.L,sv,nv,lv, .int .i64 (bk:Int)]):=by rw [← hsx];simp [n0,g0]
 have k1:sy.get 1=some (.cells .mut [.int .i64 0, .int .i64 0]):=by rw [← hsx];simp [n0]
 have n1:sy.n=2:=by rw [← hsx];simp [n0]
 clear hsx g0 n0
 clear sx
 refine q_gen (v:=.pref 2 0) (s':=sy.new (.cells .mut [.int .i64 0, .int .i64 0])) wN (by simp only [LOp.run,n1]) rfl ?_ ?_
 ·simp only [Chks,wantedG,LOp.run,lk,sv1,sv2,sv3,Nat.reduceEqDiff,Nat.reduceAdd,Nat.reduceLeDiff,reduceIte,if_false,if_true,mkVal,unLV,List.map,optTmps,Env.put_some]
  simp [St.get_new,g1,n1]
 simp only [Env.put_some]
 generalize hsx:sy.new (.cells .mut [.int .i64 0, .int .i64 0])=sz
 have g2:sz.get 0=some (.cells .mut [.int .i64 B.L,sv,nv,lv, .int .i64 (bk:Int)]):=by rw [← hsx];simp [n1,g1]
 have k2:sz.get 1=some (.cells .mut [.int .i64 0, .int .i64 0]):=by rw [← hsx];simp [n1,k1]
 have k3:sz.get 2=some (.cells .mut [.int .i64 0, .int .i64 0]):=by rw [← hsx];simp [n1]
 have n2:sz.n=3:=by rw [← hsx];simp [n1]
 clear hsx g1 n1 k1
 clear sy
 refine q_pureEx hG0 (starts_ok htk) wN (by simp only [List.map,lk,sv1,sv2,sv3,Nat.reduceEqDiff,Nat.reduceAdd,Nat.reduceLeDiff,reduceIte,if_false,if_true,mkVal,unLV,List.map,optTmps]) (fun r hr hrc2=>⟨?_,?_⟩)
 ·simp only [Chks,wantedG,LOp.run,lk,sv1,sv2,sv3,Nat.reduceEqDiff,Nat.reduceAdd,Nat.reduceLeDiff,reduceIte,if_false,if_true,mkVal,unLV,List.map,optTmps,Env.put_some]
  simp [g2]
 simp only [Env.put_some]
 refine q_call wN rfl (by simp only [List.map,lk,sv1,sv2,sv3,Nat.reduceEqDiff,Nat.reduceAdd,Nat.reduceLeDiff,reduceIte,if_false,if_true,mkVal,unLV,List.map,optTmps]) (CallOk.mono (search_ok htk hr hrc2 (firsts_in hok hpos)) fun v s2 hh=>?_)
 obtain ⟨M,pv,bv,rfl,hM,hFO,hu1,hu2,hfr⟩:=hh
 have g3:=(hfr 0 (by omega)).trans g2
 have k4:=(hfr 1 (by omega)).trans k2
 have k5:=(hfr 2 (by omega)).trans k3
 have hsr:=srun_ok hok hbk hlet (firsts_in hok hpos)
 have hM1:=hFO.m1
 refine ⟨?_,?_⟩
 ·simp only [Chks,wantedG,LOp.run,lk,sv1,sv2,sv3,Nat.reduceEqDiff,Nat.reduceAdd,Nat.reduceLeDiff,reduceIte,if_false,if_true,mkVal,unLV,List.map,optTmps,Env.put_some]
  simp [g3]
 simp only [Env.put_some]
 refine q_call wN rfl (by simp only [List.map,lk,sv1,sv2,sv3,Nat.reduceEqDiff,Nat.reduceAdd,Nat.reduceLeDiff,reduceIte,if_false,if_true,mkVal,unLV,List.map,optTmps]) (CallOk.mono (turn_ok htk hsr.1 hsr.2.1 hFO) fun v s3 hh=>⟨trivial,?_⟩)
 obtain ⟨x,y,ok,rfl,hT,hn3,hfr3⟩:=hh
 have k6:=(hfr3 1 (by omega)).trans k4
 have k7:=(hfr3 2 (by omega)).trans k5
 have hfin:=aword_turn htk hw hbb hT
 simp only [Env.put_some]
 clear hFO g2 g3 k2 k3 k4 k5 hfr hfr3 hT
 repeat' (first | refine gA trivial ?_ | (refine gB trivial ?_;intro bb hbb;cases bb<;>(try simp only [hbs,if_false,reduceCtorEq] at hbb)) | fail)
 refine q_storeG (i:=1) (o:=0) (n:=2) (cs:=[.int .i64 0, .int .i64 0]) (vs:=pcell x) (cs':=pcell x) (v:=.agg (pcell x)) ef ef (by simp [pcell,cells_agg,isC_int]) k6 rfl (by simp) rfl ?_
 refine q_storeG (i:=2) (o:=0) (n:=2) (cs:=[.int .i64 0, .int .i64 0]) (vs:=pcell y) (cs':=pcell y) (v:=.agg (pcell y)) ef ef (by simp [pcell,cells_agg,isC_int]) (by simp [k7]) rfl (by simp) rfl ?_
 repeat' (first | refine gA trivial ?_ | (refine gB trivial ?_;intro bb hbb;cases bb<;>(try simp only [hbs,if_false,reduceCtorEq] at hbb)) | fail)
 refine ⟨.inr trivial,?_⟩
 simp only [lk,sv1,sv2,sv3,Nat.reduceEqDiff,Nat.reduceAdd,Nat.reduceLeDiff,reduceIte,if_false,if_true,mkVal,unLV,List.map,optTmps]
 rw [hfin]
end Go.Proofs.YtgobbogomchnhaaGreatDoor
end
