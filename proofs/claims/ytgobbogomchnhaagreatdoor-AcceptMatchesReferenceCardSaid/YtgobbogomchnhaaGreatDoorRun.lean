/- accept.Run: the run that is found. -/
import Derived.Test.YtgobbogomchnhaaGreatDoorRemn
import Derived.Test.YtgobbogomchnhaaGreatDoorChkl
set_option linter.unusedSimpArgs false
set_option linter.unusedVariables false
namespace Go.Proofs.YtgobbogomchnhaaGreatDoor
open Go Go.Pv Go.Aut Go.Bfs
open Classical
theorem acc_len {B:Bu} {ls:List Nat} {succ:Pl→List Pl} {from_:List Pl} {acc:Ac Pl} (hok:Vb B) (hbig:ls.length≤200) (h:Bfs.Ok succ from_ (InT B ls) acc):acc.length≤600000:=by
 have h1:=inT_len h.nd fun x hx=>by
  obtain ⟨y,hy,rfl⟩:=List.mem_map.1 hx
  exact h.rng y hy
 rw [List.length_map] at h1
 have:ls.length*B.next.length≤200*3000:=Nat.mul_le_mul hbig hok.2.2.1
 omega
theorem way_lt {B:Bu} {ls:List Nat} {succ:Pl→List Pl} {from_:List Pl} {acc:Ac Pl} (hok:Vb B) (h:Bfs.Ok succ from_ (InT B ls) acc) {x:Pl} (hx:x∈acc.map (·.1)):∀ z∈wayS acc x,z<3000:=by
 obtain ⟨l,e,_,_,hl⟩:=wayS_ok h hx
 rw [e]
 intro z hz
 obtain ⟨p,hp,rfl⟩:=List.mem_map.1 hz
 have:=(hl p hp).2
 have:=hok.2.2.1
 omega
theorem nil_ints:IsInts .nils (zints []):=⟨.nil,by simp [zints],fun x hx=>by cases hx⟩
theorem FO.mono {s s':St} {M:Nat} {pv bv:LV} {acc:Ac Pl} (h:FO s M pv bv acc) (hn:s.n≤s'.n) (hs:∀ id,id<s.n→s'.get id=s.get id):FO s' M pv bv acc:=
 ⟨by have:=h.m1;omega,(hs _ h.m1).trans h.gM,h.sp.mono hn fun id hu=>hs id (h.sp.lt hu),h.sb.mono hn fun id hu=>hs id (h.sb.lt hu)⟩
structure RB (s:St) (tr:List LV) (M:Nat) (pv bv:LV) (acc:Ac Pl) (k:Nat) (x y:Pl):Prop where
 g0:s.get 0=some (.cells .mut [.nils, .nils])
 g1:s.get 1=some (.cells .mut tr)
 g2:s.get 2=some (.cells .mut [.mref M,pv,bv])
 gx:s.get k=some (.cells .mut (pcell x))
 gy:s.get (k+1)=some (.cells .mut (pcell y))
 n:k+1<s.n
 k2:2<k
 fo:FO s M pv bv acc
theorem RB.mono {s s':St} {tr:List LV} {M:Nat} {pv bv:LV} {acc:Ac Pl} {k:Nat} {x y:Pl} (h:RB s tr M pv bv acc k x y) (hn:s.n≤s'.n) (hs:∀ id,id<s.n→s'.get id=s.get id):RB s' tr M pv bv acc k x y:=by
 have h1:=h.n
 have h2:=h.k2
 exact ⟨(hs 0 (by omega)).trans h.g0,(hs 1 (by omega)).trans h.g1,(hs 2 (by omega)).trans h.g2,(hs k (by omega)).trans h.gx,(hs (k+1) (by omega)).trans h.gy,by omega,h2,h.fo.mono hn hs⟩
theorem q_bsl {P:Program} {G:Globs} {K:Env→St→Prop} {l:List LOper} {e:Env} {s:St} {fl:Bool} {chk:List (Nat × Option (Nat × Bool) × LOp)} {d esz:Nat} {x:Opd} {z:List LV} {xv:LV} {vs:List LV} (hx:x.ev e=xv) (hxc:cells? xv=some vs) (hz:z.length=esz) (hvs:vs.length=esz)
  (hck:∀ s',s'.n=s.n+1→s'.get s.n=some (.cells .mut vs)→(∀ id,id<s.n→s'.get id=s.get id)→Chks chk (Tr.set e d (.sref s.n 0 1 esz)) s')
  (h:∀ s',s'.n=s.n+1→s'.get s.n=some (.cells .mut vs)→(∀ id,id<s.n→s'.get id=s.get id)→W P G K l (Tr.set e d (.sref s.n 0 1 esz)) s'):W P G K (⟨some d, .bslice esz 1 z [(0,(esz,x))],none,chk,fl⟩::l) e s:=by
 have hfill:fillParts (rep 1 z) (evParts e [(0,(esz,x))])=some vs:=by
  have h1:splice z 0 vs=vs:=by
   have:=splice_all (vs:=vs) (z:=z) (by rw [hz,hvs])
   exact this
  have hr1:rep 1 z=z:=by simp [rep]
  simp only [evParts,List.map,hr1,fillParts,hx,hxc,hvs]
  rw [if_pos ⟨trivial,by rw [hz];omega⟩,h1]
 have a1:(s.new (.cells .mut vs)).n=s.n+1:=rfl
 have a2:(s.new (.cells .mut vs)).get s.n=some (.cells .mut vs):=by rw [St.get_new,if_pos rfl]
 have a3:∀ id,id<s.n→(s.new (.cells .mut vs)).get id=s.get id:=fun id hid=>by rw [St.get_new,if_neg (by omega)]
 refine q_gen (v:=.sref s.n 0 1 esz) (s':=s.new (.cells .mut vs)) rfl (by simp only [LOp.run,hfill,Option.bind_eq_bind,Option.bind_some]) (by cases fl<;>rfl) (hck _ a1 a2 a3) (h _ a1 a2 a3)
theorem frz_place {s:St} {j:Nat} {y:Pl} (h:s.get j=some (.cells .mut (pcell y))):frz frzDepth (.sref j 0 1 2) s=some (.simm (pcell y) 1,s.put j (.cells .app (pcell y))):=by
 have:frz frzDepth (.sref j 0 1 2) s=frz (38+1+1) (.sref j 0 1 2) s:=rfl
 rw [this]
 unfold frz
 have hc:LV.closed.closedAll (pcell y)=true:=rfl
 simp only [LV.closed,Bool.false_eq_true,if_false,h]
 rw [frzAll_closed hc]
 rfl
theorem isP_one (y:Pl):IsPls (.simm (pcell y) 1) [y]:=⟨.simm _ _,Nat.le_of_ble_eq_true rfl⟩
theorem mk_nats {l:List Nat} (hl:l.length≤600001) (hr:∀ x∈l,x<3000):IsInts (.simm (ints (zints l)) (zints l).length) (zints l):=by
 refine ⟨.simm _ _,?_,fun x hx=>?_⟩
 ·have:maxLen=9223372036854775807:=by decide
  simp only [zints,List.length_map]
  omega
 ·obtain ⟨n,hn,rfl⟩:=List.mem_map.1 hx
  have:=hr n hn
  constructor<;>omega
theorem skc_fld {s:St} {v:LV} {l:List Nat} (h:SkC s v 1 (nints l) l.length) (hl:l.length≤600001) (hr:∀ x∈l,x<3000):Fld s v (zints l):=by
 obtain ⟨_,⟨rfl,h0⟩ | ⟨j,rfl,h1,h2,h3⟩⟩:=h
 ·have:l=[]:=List.length_eq_zero_iff.1 h0
  subst this
  exact .inl nil_ints
 ·refine .inr ⟨j,by simp [zints],⟨_,by rw [h3,nints_zints]⟩,mk_nats hl hr⟩
theorem frz_tup2 {s s':St} {x x':LV} {b:Bool} (n:Nat) (hx:frz (n+1) x s=some (x',s')):∃ z s3,frz (n+2) (.tup [x, .bool b]) s=some (z,s3)∧(z = .tup [x, .bool b]∧s3=s∧x.closed=true∨z = .tup [x', .bool b]∧s3=s'):=by
 by_cases hc:(LV.tup [x, .bool b]).closed=true
 ·exact ⟨_,_,frz_closed hc, .inl ⟨rfl,rfl,by simpa [LV.closed,LV.closed.closedAll] using hc⟩⟩
 ·have hc':(LV.tup [x, .bool b]).closed=false:=by simpa using hc
  refine ⟨.tup [x', .bool b],s',?_, .inr ⟨rfl,rfl⟩⟩
  unfold frz
  simp [hc',frz.frzAll,hx,frz_closed (v:=.bool b) rfl]
theorem frz_path {s:St} {x y:LV} {la lb:List Int} {b:Bool} (hx:Fld s x la) (hy:Fld s y lb) :
  ∃ x' y' s',frz frzDepth (.tup [.agg [x,y], .bool b]) s=some (.tup [.agg [x',y'], .bool b],s')∧IsInts x' la∧IsInts y' lb:=by
 obtain ⟨x',s1,h1,h2,h3,h4⟩:=frz_fld 36 hx
 obtain ⟨y',s2,k1,k2,k3,k4⟩:=frz_fld 36 (hy.mono h4)
 obtain ⟨z,s3,g1,g2⟩:=frz_agg2 38 h1 k1
 obtain ⟨w,s4,f1,f2⟩:=frz_tup2 (b:=b) 38 g1
 have hd:frzDepth=38+2:=rfl
 rw [hd]
 rcases f2 with ⟨rfl,rfl,hc⟩ | ⟨rfl,rfl⟩
 ·have hc':x.closed=true∧y.closed=true:=by simpa [LV.closed,LV.closed.closedAll] using hc
  exact ⟨x,y,s4,f1,IsInts.of_closed hx hc'.1,IsInts.of_closed hy hc'.2⟩
 ·rcases g2 with ⟨rfl,rfl,hc⟩ | ⟨rfl,rfl⟩
  ·have hc':x.closed=true∧y.closed=true:=by simpa [LV.closed,LV.closed.closedAll] using hc
   exact ⟨x,y,s4,f1,IsInts.of_closed hx hc'.1,IsInts.of_closed hy hc'.2⟩
  ·exact ⟨x',y',s4,f1,h2,k2⟩
set_option maxHeartbeats 16000000 in
theorem run_ok {v st lo:LV} {B:Bu} {sv nv:LV} {S L:List Int} (hB:IsB v B sv nv) (hS:IsInts st S) (hL:IsInts lo L) :
  PE 18 [v, .agg [st,lo]] (fun r=>∃ pv qv P Q ok,r = .tup [.agg [pv,qv], .bool ok]∧IsInts pv (zints P)∧IsInts qv (zints Q)∧RunA B S L P Q ok):=by
 have hvc:=hB.closed
 have hcl:(LV.agg [st,lo]).closed=true:=by simp [LV.closed,LV.closed.closedAll,hS.closed,hL.closed]
 have hc1:=hS.sl.cell
 have hc2:=hL.sl.cell
 have hbv:=bvalid_ok hB
 have hwv:=wvalid_ok hS hL B.L
 have hnt:=fun (a)=>newTrack_ok hB a hS hL
 obtain ⟨rfl,hst,hnx⟩:=hB
 obtain ⟨vs,hn⟩:=hnx
 have hc3:=hst.sl.cell
 have hc4:=hn.sl.cell
 refine q_fnExR Tryz.func18 (by decide +kernel) c18 (Nat.le_of_ble_eq_true rfl) (by simp [LV.closed.closedAll,hcl,hvc]) ?_
 have h0:(envOf [.agg [.int .i64 B.L,sv,nv],LV.agg [st,lo]]).at 0 = .agg [.int .i64 B.L,sv,nv]:=by rw [envOf_at];rfl
 have h1:(envOf [.agg [.int .i64 B.L,sv,nv],LV.agg [st,lo]]).at 1 = .agg [st,lo]:=by rw [envOf_at];rfl
 generalize envOf [.agg [.int .i64 B.L,sv,nv],LV.agg [st,lo]]=e at *
 unfold l18
 dsimp only [jA,jB,jC,jG,jH,qL,qN,qF,qK,qO,qP,qG,qm]
 have hnone:∀ {ok:Bool},¬ (Vb B∧Fm S L∧AllB S B.L∧AllB L B.L)→ok=false→∃ pv qv P Q ok',(LV.tup [.agg [.nils, .nils], .bool ok]) = .tup [.agg [pv,qv], .bool ok']∧IsInts pv (zints P)∧IsInts qv (zints Q)∧RunA B S L P Q ok':=fun h1 h2=>⟨.nils, .nils,[],[],_,rfl,nil_ints,nil_ints, .inl ⟨h1,rfl,rfl,h2⟩⟩
 repeat' (first | refine gA trivial ?_ | (refine gB trivial ?_;intro bb hbb;cases bb<;>(try simp only [hbs,if_false,reduceCtorEq] at hbb)) | apply qc_seq | fail)
 refine q_pureB hG0 (hbv) (by first | exact wN | (apply wG;(simp only [lk,Nat.reduceEqDiff,reduceIte,h0,h1];(try rfl);done))) (by simp only [List.map,lk,Nat.reduceEqDiff,reduceIte,h0,h1];try rfl) (fun bb hbb=>⟨by first | trivial | (simp only [Chks,wantedG,LOp.run,Env.put_some,Env.put_none,lk,sv1,sv2,sv3,Nat.reduceEqDiff,Nat.reduceAdd,Nat.reduceLeDiff,reduceIte,if_false,if_true,mkVal,unLV,List.map,optTmps,beq_self_eq_true,reduceCtorEq,false_or,true_and,and_true,Option.some.injEq, *];done),?_⟩)
 simp only [Env.put_some]
 cases bb<;>simp only [decide_eq_true_eq,decide_eq_false_iff_not] at hbb
 ·repeat' (first | refine gA trivial ?_ | (refine gB trivial ?_;intro bb hbb;cases bb<;>(try simp only [hbs,if_false,reduceCtorEq] at hbb)) | apply qc_seq | fail)
  refine q_run0 (v:=.agg [.nils, .nils]) (by simp only [LOp.run,lk,sv1,sv2,sv3,Nat.reduceEqDiff,Nat.reduceAdd,Nat.reduceLeDiff,reduceIte,if_false,if_true,mkVal,unLV,List.map,optTmps,evParts,fillParts];rfl) ?_
  repeat' (first | refine gA trivial ?_ | (refine gB trivial ?_;intro bb hbb;cases bb<;>(try simp only [hbs,if_false,reduceCtorEq] at hbb)) | apply qc_seq | fail)
  exact ⟨.inr trivial, .tup [.agg [.nils, .nils], .bool false],by simp [resVal,resOne,mkVal,lk,St.get_put,n_empty],_,_,frzD_closed rfl,rfl,hnone (fun h=>hbb h.1) rfl⟩
 repeat' (first | refine gA trivial ?_ | (refine gB trivial ?_;intro bb hbb;cases bb<;>(try simp only [hbs,if_false,reduceCtorEq] at hbb)) | apply qc_seq | fail)
 refine q_pureB hG0 (hwv) (by first | exact wN | (apply wG;(simp only [lk,Nat.reduceEqDiff,reduceIte,h0,h1];(try rfl);done))) (by simp only [List.map,lk,Nat.reduceEqDiff,reduceIte,h0,h1];try rfl) (fun bb hbb=>⟨by first | trivial | (simp only [Chks,wantedG,LOp.run,Env.put_some,Env.put_none,lk,sv1,sv2,sv3,Nat.reduceEqDiff,Nat.reduceAdd,Nat.reduceLeDiff,reduceIte,if_false,if_true,mkVal,unLV,List.map,optTmps,beq_self_eq_true,reduceCtorEq,false_or,true_and,and_true,Option.some.injEq, *];done),?_⟩)
 simp only [Env.put_some]
 cases bb<;>simp only [decide_eq_true_eq,decide_eq_false_iff_not] at hbb
 ·repeat' (first | refine gA trivial ?_ | (refine gB trivial ?_;intro bb hbb;cases bb<;>(try simp only [hbs,if_false,reduceCtorEq] at hbb)) | apply qc_seq | fail)
  refine q_run0 (v:=.agg [.nils, .nils]) (by simp only [LOp.run,lk,sv1,sv2,sv3,Nat.reduceEqDiff,Nat.reduceAdd,Nat.reduceLeDiff,reduceIte,if_false,if_true,mkVal,unLV,List.map,optTmps,evParts,fillParts];rfl) ?_
  repeat' (first | refine gA trivial ?_ | (refine gB trivial ?_;intro bb hbb;cases bb<;>(try simp only [hbs,if_false,reduceCtorEq] at hbb)) | apply qc_seq | fail)
  exact ⟨.inr trivial, .tup [.agg [.nils, .nils], .bool false],by simp [resVal,resOne,mkVal,lk,St.get_put,n_empty],_,_,frzD_closed rfl,rfl,hnone (fun h=>hbb h.2) rfl⟩
 rename_i hvb
 repeat' (first | refine gA trivial ?_ | (refine gB trivial ?_;intro bb hbb;cases bb<;>(try simp only [hbs,if_false,reduceCtorEq] at hbb)) | apply qc_seq | fail)
 refine q_pureEx hG0 (hnt hvb hbb.1 hbb.2.1 hbb.2.2) wN (by simp only [List.map,lk,sv1,sv2,sv3,Nat.reduceEqDiff,Nat.reduceAdd,Nat.reduceLeDiff,reduceIte,if_false,if_true,mkVal,unLV,List.map,optTmps,h0,h1]) (fun r hr hrc=>⟨trivial,?_⟩)
 obtain ⟨lv,ls,bk,ht,hw,hinf⟩:=hr
 have hinf:Bx (∃ sl' ll',Nrm S L sl' ll'∧ls=(sl'++ll').map Int.toNat∧bk=sl'.length):=⟨hinf⟩
 have htk:=ht
 obtain ⟨rfl,-,-,hlt,hok,hpos,hbk,hbig,hlet⟩:=ht
 have hc5:=hlt.sl.cell
 simp only [Env.put_some]
 repeat' (first | refine gA trivial ?_ | (refine gB trivial ?_;intro bb hbb;cases bb<;>(try simp only [hbs,if_false,reduceCtorEq] at hbb)) | apply qc_seq | fail)
 generalize hsx:(((St.empty.new (Blk.cells Md.mut [.nils, .nils])).new (Blk.cells Md.mut [.int .i64 0, .nils, .nils, .nils, .int .i64 0])).put 1 (Blk.cells Md.mut [.int .i64 B.L,sv,nv,lv, .int .i64 (bk:Int)]))=sx
 have r0:sx.get 0=some (.cells .mut [.nils, .nils]):=by rw [← hsx];simp [St.get_put,St.get_new,n_empty]
 have g0:sx.get 1=some (.cells .mut [.int .i64 B.L,sv,nv,lv, .int .i64 (bk:Int)]):=by rw [← hsx];simp
 have n0:sx.n=2:=by rw [← hsx];rfl
 clear hsx
 refine q_gen (v:=.pref 2 0) (s':=sx.new (.cells .mut [.nilm, .nils, .nils])) wN (by simp only [LOp.run,n0]) rfl ?_ ?_
 ·simp only [Chks,wantedG,LOp.run,lk,sv1,sv2,sv3,Nat.reduceEqDiff,Nat.reduceAdd,Nat.reduceLeDiff,reduceIte,if_false,if_true,mkVal,unLV,List.map,optTmps,Env.put_some]
  simp [St.get_new,g0,n0]
 simp only [Env.put_some]
 generalize hsx:sx.new (.cells .mut [.nilm, .nils, .nils])=sy
 have r1:sy.get 0=some (.cells .mut [.nils, .nils]):=by rw [← hsx];simp [n0,r0]
 have g1:sy.get 1=some (.cells .mut [.int .i64 B.L,sv,nv,lv, .int .i64 (bk:Int)]):=by rw [← hsx];simp [n0,g0]
 have k1:sy.get 2=some (.cells .mut [.nilm, .nils, .nils]):=by rw [← hsx];simp [n0]
 have n1:sy.n=3:=by rw [← hsx];simp [n0]
 clear hsx g0 n0 r0
 clear sx
 refine q_pureEx hG0 (starts_ok htk) wN (by simp only [List.map,lk,sv1,sv2,sv3,Nat.reduceEqDiff,Nat.reduceAdd,Nat.reduceLeDiff,reduceIte,if_false,if_true,mkVal,unLV,List.map,optTmps]) (fun r hr hrc2=>⟨?_,?_⟩)
 ·simp only [Chks,wantedG,LOp.run,lk,sv1,sv2,sv3,Nat.reduceEqDiff,Nat.reduceAdd,Nat.reduceLeDiff,reduceIte,if_false,if_true,mkVal,unLV,List.map,optTmps,Env.put_some]
  simp [g1]
 simp only [Env.put_some]
 refine q_call wN rfl (by simp only [List.map,lk,sv1,sv2,sv3,Nat.reduceEqDiff,Nat.reduceAdd,Nat.reduceLeDiff,reduceIte,if_false,if_true,mkVal,unLV,List.map,optTmps]) (CallOk.mono (search_ok htk hr hrc2 (firsts_in hok hpos)) fun v s2 hh=>⟨trivial,?_⟩)
 obtain ⟨M,pv,bv,rfl,hM,hFO,hu1,hu2,hfr⟩:=hh
 have r2:=(hfr 0 (by omega)).trans r1
 have g2:=(hfr 1 (by omega)).trans g1
 have k2:=(hfr 2 (by omega)).trans k1
 have hsr:=srun_ok hok hbk hlet (firsts_in hok hpos)
 have hM1:=hFO.m1
 have hc6:=hFO.sp.cell
 have hc7:=hFO.sb.cell
 replace hFO:FO s2 M pv bv (srun B ls bk (firsts B)):=hFO
 generalize hacc:srun B ls bk (firsts B)=acc at *
 clear hfr g1 k1 r1
 simp only [Env.put_some]
 have n2:3≤s2.n:=by omega
 refine q_storeG (i:=2) (o:=0) (n:=3) (cs:=[.nilm, .nils, .nils]) (vs:=[.mref M,pv,bv]) (cs':=[.mref M,pv,bv]) (v:=.agg [.mref M,pv,bv]) ef ef (by simp [cells_agg,hc6,hc7,show isCell (.mref M)=true from rfl]) k2 rfl (by simp) rfl ?_
 generalize hsx:s2.put 2 (.cells .mut [.mref M,pv,bv])=s3 at *
 have r3:s3.get 0=some (.cells .mut [.nils, .nils]):=by rw [← hsx,St.get_put,if_neg (by decide)];exact r2
 have g3:s3.get 1=some (.cells .mut [.int .i64 B.L,sv,nv,lv, .int .i64 (bk:Int)]):=by rw [← hsx,St.get_put,if_neg (by decide)];exact g2
 have k3:s3.get 2=some (.cells .mut [.mref M,pv,bv]):=by rw [← hsx,St.get_put,if_pos rfl]
 have n3:3≤s3.n:=by rw [← hsx,St.n_put];exact n2
 have hF3:FO s3 M pv bv acc:=by
  have hne:∀ id,3≤id→s3.get id=s2.get id:=fun id hid=>by rw [← hsx,St.get_put,if_neg (by omega)]
  have hnn:s2.n≤s3.n:=by rw [← hsx,St.n_put];exact Nat.le_refl _
  exact ⟨by omega,(hne M (by omega)).trans hFO.gM,hFO.sp.mono hnn fun id hu=>hne id (by have:=hu1 id hu;omega),hFO.sb.mono hnn fun id hu=>hne id (by have:=hu2 id hu;omega)⟩
 clear hsx r2 g2 k2 n2 hFO hM1
 clear s2
 repeat' (first | refine gA (And.intro @g3 @k3) ?_ | (refine gB (And.intro @g3 @k3) ?_;intro bb hbb;cases bb<;>(try simp only [hbs,if_false,reduceCtorEq] at hbb)) | apply qc_seq | fail)
 refine q_call wN rfl (by simp only [List.map,lk,sv1,sv2,sv3,Nat.reduceEqDiff,Nat.reduceAdd,Nat.reduceLeDiff,reduceIte,if_false,if_true,mkVal,unLV,List.map,optTmps]) (CallOk.mono (turn_ok htk hsr.1 hsr.2.1 hF3) fun v s4 hh=>⟨trivial,?_⟩)
 obtain ⟨x,y,ok,rfl,hT,hn4,hfr4⟩:=hh
 have r4:=(hfr4 0 (by omega)).trans r3
 have g4:=(hfr4 1 (by omega)).trans g3
 have k4:=(hfr4 2 (by omega)).trans k3
 have hF4:=hF3.mono hn4 hfr4
 have n4:3≤s4.n:=by omega
 clear r3 g3 k3 hF3 hfr4 hn4 n3
 clear s3
 simp only [Env.put_some]
 repeat' (first | refine gA trivial ?_ | (refine gB trivial ?_;intro bb hbb;cases bb<;>(try simp only [hbs,if_false,reduceCtorEq] at hbb)) | apply qc_seq | fail)
 refine q_storeG (i:=s4.n) (o:=0) (n:=2) (cs:=[.int .i64 0, .int .i64 0]) (vs:=pcell x) (cs':=pcell x) (v:=.agg (pcell x)) ef ef (by simp [pcell,cells_agg,isC_int]) (by simp [St.get_put,St.get_new]) rfl (by simp) rfl ?_
 refine q_storeG (i:=s4.n+1) (o:=0) (n:=2) (cs:=[.int .i64 0, .int .i64 0]) (vs:=pcell y) (cs':=pcell y) (v:=.agg (pcell y)) ef ef (by simp [pcell,cells_agg,isC_int]) (by simp [St.get_put,St.get_new]) rfl (by simp) rfl ?_
 obtain ⟨k,hk⟩:∃ k,s4.n=k:=⟨_,rfl⟩
 generalize hsx:St.put _ (s4.n+1) _=s5
 have hB5:RB s5 [.int .i64 B.L,sv,nv,lv, .int .i64 (bk:Int)] M pv bv acc k x y:=by
  have n5:s5.n=k+2:=by rw [← hsx];simp [hk]
  have hfr5:∀ id,id<k→s5.get id=s4.get id:=fun id hid=>by
   rw [← hsx,St.get_put,if_neg (by omega),St.get_put,if_neg (by omega),St.get_new,if_neg (by rw [St.n_new];omega),St.get_new,if_neg (by omega)]
  refine ⟨(hfr5 0 (by omega)).trans r4,(hfr5 1 (by omega)).trans g4,(hfr5 2 (by omega)).trans k4,?_,?_,by omega,by omega,hF4.mono (by omega) fun id hid=>hfr5 id (by omega)⟩
  ·rw [← hsx,← hk,St.get_put,if_neg (by omega),St.get_put,if_pos rfl]
  ·rw [← hsx,← hk,St.get_put,if_pos rfl]
 refine w_gen (fun e' s'=>s'=s5∧e'.at 4 = .pref 0 0∧e'.at 6 = .pref 1 0∧e'.at 7 = .pref 2 0∧e'.at 8 = .pref k 0∧e'.at 9 = .pref (k+1) 0∧e'.at 35 = .bool ok) ⟨rfl,ef,ef,ef,ef,ef,ef⟩ ?_
 have hD:Bx (Turned B ls bk ((srun B ls bk (firsts B)).map (·.1)) x y ok):=⟨by rw [hacc];exact hT⟩
 have hR:Bx (∀ P Q,(ok=true→P=wayS acc x∧Q=x.2::wayS (srun B ls bk [y]) x)→(ok=false→P=[]∧Q=[])→RunA B S L P Q ok):=by
  refine ⟨fun P Q h1 h2=>?_⟩
  obtain ⟨sl',ll',n1,n2,n3⟩:=hinf.out
  subst n3
  exact .inr ⟨⟨hvb,hbb⟩,sl',ll',ls,n1,n2,hbk,hbig,hlet,hw,x,y,hD.out,by rw [hacc];exact h1,h2⟩
 have hacl:acc.length≤600000:=acc_len hok hbig hsr.1
 clear h0 h1 hsx r4 g4 k4 hF4 n4 hk hnt hinf hT hwv hbv hnone
 clear e s4
 rintro e s ⟨rfl,e4,e6,e7,e8,e9,e35⟩
 cases ok with
 | false=>
  have r5:=hB5.g0
  repeat' (first | refine gA @r5 ?_ | (refine gB @r5 ?_;intro bb hbb;cases bb<;>(try simp only [hbs,if_false,reduceCtorEq] at hbb)) | apply qc_seq | fail)
  refine q_run0 (v:=.agg [.nils, .nils]) (by simp only [LOp.run,lk,sv1,sv2,sv3,Nat.reduceEqDiff,Nat.reduceAdd,Nat.reduceLeDiff,reduceIte,if_false,if_true,mkVal,unLV,List.map,optTmps,evParts,fillParts];rfl) ?_
  repeat' (first | refine gA @r5 ?_ | (refine gB @r5 ?_;intro bb hbb;cases bb<;>(try simp only [hbs,if_false,reduceCtorEq] at hbb)) | apply qc_seq | fail)
  exact ⟨.inr trivial, .tup [.agg [.nils, .nils], .bool false],by simp [resVal,resOne,mkVal,lk,St.get_put,e4],_,_,frzD_closed rfl,rfl, .nils, .nils,[],[],_,rfl,nil_ints,nil_ints,hR.out _ _ (fun h=>by cases h) fun _=>⟨rfl,rfl⟩⟩
 | true=>
  obtain ⟨i1,i2,i3,-,i5⟩:=turned_in hok hbk hlet hD.out
  rw [hacc] at i1
  have hsy:=srun_ok (from_:=[y]) hok hbk hlet (fun p hp=>by rw [List.mem_singleton.1 hp];exact i3)
  have hcl2:(srun B ls bk [y]).length≤600000:=acc_len hok hbig hsy.1
  have a0:=hB5.g0
  have a1:=hB5.g1
  have a2:=hB5.g2
  have ax:s.get k=some (.cells .mut [.int .i64 (x.1:Int), .int .i64 (x.2:Int)]):=hB5.gx
  have ay:s.get (k+1)=some (.cells .mut [.int .i64 (y.1:Int), .int .i64 (y.2:Int)]):=hB5.gy
  repeat' (first | refine gA (And.intro @a0 (And.intro @a1 (And.intro @a2 (And.intro @ax @ay)))) ?_ | (refine gB (And.intro @a0 (And.intro @a1 (And.intro @a2 (And.intro @ax @ay)))) ?_;intro bb hbb;cases bb<;>(try simp only [hbs,if_false,reduceCtorEq] at hbb)) | apply qc_seq | fail)
  have hc8:isCell (.mref M)=true:=rfl
  have fx:∀ {s':St},RB s' [.int .i64 B.L,sv,nv,lv, .int .i64 (bk:Int)] M pv bv acc k x y→s'.get 1=some (.cells .mut [.int .i64 B.L,sv,nv,lv, .int .i64 (bk:Int)])∧s'.get 2=some (.cells .mut [.mref M,pv,bv])∧s'.get k=some (.cells .mut [.int .i64 (x.1:Int), .int .i64 (x.2:Int)])∧s'.get (k+1)=some (.cells .mut [.int .i64 (y.1:Int), .int .i64 (y.2:Int)]):=fun h=>⟨h.g1,h.g2,h.gx,h.gy⟩
  refine q_bsl (xv:=.int .i64 (x.2:Int)) (vs:=[.int .i64 (x.2:Int)]) ef rfl rfl rfl (fun s6 m1 m2 m3=>?_) (fun s6 m1 m2 m3=>?_)
  ·obtain ⟨b1,b2,bx,by_⟩:=fx (hB5.mono (by omega) m3)
   simp only [Chks,wantedG,LOp.run,lk,sv1,sv2,sv3,Nat.reduceEqDiff,Nat.reduceAdd,Nat.reduceLeDiff,reduceIte,if_false,if_true,mkVal,unLV,List.map,optTmps,Env.put_some,e6,e7,e8,e9]
   simp [loadLV,mkVal,b1,b2,bx,by_]
  have hB6:=hB5.mono (by omega) m3
  obtain ⟨b1,b2,bx,by_⟩:=fx hB6
  obtain ⟨a,ha⟩:∃ a,s.n=a:=⟨_,rfl⟩
  rw [ha] at m1 m2
  have hka:k+1<a:=by have:=hB5.n;omega
  simp only [ha]
  clear m3 ha hB5 a0 a1 a2 ax ay
  clear s
  repeat' (first | refine gA (And.intro @b1 (And.intro @b2 (And.intro @bx @by_))) ?_ | (refine gB (And.intro @b1 (And.intro @b2 (And.intro @bx @by_))) ?_;intro bb hbb;cases bb<;>(try simp only [hbs,if_false,reduceCtorEq] at hbb)) | apply qc_seq | fail)
  refine q_bsl (xv:=.agg [.int .i64 (y.1:Int), .int .i64 (y.2:Int)]) (vs:=[.int .i64 (y.1:Int), .int .i64 (y.2:Int)]) ef (by simp [cells_agg,isC_int]) rfl rfl (fun s7 p1 p2 p3=>?_) (fun s7 p1 p2 p3=>?_)
  ·obtain ⟨c1,c2,cx,cy⟩:=fx (hB6.mono (by omega) p3)
   simp only [Chks,wantedG,LOp.run,lk,sv1,sv2,sv3,Nat.reduceEqDiff,Nat.reduceAdd,Nat.reduceLeDiff,reduceIte,if_false,if_true,mkVal,unLV,List.map,optTmps,Env.put_some,e6,e7,e8,e9]
   simp [loadLV,mkVal,c1,c2,cx,cy]
  have hB7:=hB6.mono (by omega) p3
  obtain ⟨c1,c2,cx,cy⟩:=fx hB7
  have q2:s7.get a=some (.cells .mut [.int .i64 (x.2:Int)]):=(p3 a (by omega)).trans m2
  rw [m1] at p1 p2 p3
  simp only [m1]
  clear b1 b2 bx by_ m2
  repeat' (first | refine gA (And.intro @c1 (And.intro @c2 (And.intro @cx @cy))) ?_ | (refine gB (And.intro @c1 (And.intro @c2 (And.intro @cx @cy))) ?_;intro bb hbb;cases bb<;>(try simp only [hbs,if_false,reduceCtorEq] at hbb)) | apply qc_seq | fail)
  refine q_call wN rfl (by simp only [List.map,lk,sv1,sv2,sv3,Nat.reduceEqDiff,Nat.reduceAdd,Nat.reduceLeDiff,reduceIte,if_false,if_true,mkVal,unLV,List.map,optTmps];rfl) (CallOk.mono (way_ok hsr.1 i1 hacl hB7.fo) fun r1 s8 hh=>?_)
  obtain ⟨hW1,hn8,hu8,hfr8⟩:=hh
  have hB8:=hB7.mono hn8 hfr8
  obtain ⟨d1,d2,dx,dy⟩:=fx hB8
  refine ⟨?_,?_⟩
  ·simp only [Chks,wantedG,LOp.run,lk,sv1,sv2,sv3,Nat.reduceEqDiff,Nat.reduceAdd,Nat.reduceLeDiff,reduceIte,if_false,if_true,mkVal,unLV,List.map,optTmps,Env.put_some,e6,e7,e8,e9]
   simp [loadLV,mkVal,d1,d2,dx,dy]
  simp only [Env.put_some]
  have r8:s8.get (a+1)=some (.cells .mut (pcell y)):=(hfr8 (a+1) (by omega)).trans p2
  have q8:s8.get a=some (.cells .mut [.int .i64 (x.2:Int)]):=(hfr8 a (by omega)).trans q2
  refine q_call wN (fv:=.fn (.func 49) [] []) (vs:=[.agg [.int .i64 B.L,sv,nv,lv, .int .i64 (bk:Int)], .sref (a+1) 0 1 2]) ef (by simp only [List.map,lk,sv1,sv2,sv3,Nat.reduceEqDiff,Nat.reduceAdd,Nat.reduceLeDiff,reduceIte,if_false,if_true,mkVal,unLV,List.map,optTmps]) (call_frz (args':=[.agg [.int .i64 B.L,sv,nv,lv, .int .i64 (bk:Int)], .simm (pcell y) 1]) (s':=s8.put (a+1) (.cells .app (pcell y))) (by simp [frz.frzAll,frzD_closed hrc,frz_place r8]) (CallOk.mono (search_ok htk (isP_one y) rfl (fun p hp=>by rw [List.mem_singleton.1 hp];exact i3)) fun v s10 hh=>?_))
  obtain ⟨M2,pv2,bv2,rfl,hM2,hFO2,hv1,hv2,hfr9⟩:=hh
  replace hFO2:FO s10 M2 pv2 bv2 (srun B ls bk [y]):=hFO2
  have hm2:=hFO2.m1
  have hn10:s8.n≤s10.n:=by rw [St.n_put] at hM2;omega
  rw [St.n_put] at hM2 hfr9
  have hfr10:∀ id,id<s8.n→id≠a+1→s10.get id=s8.get id:=fun id hid hne=>by rw [hfr9 id hid,St.get_put,if_neg hne]
  have hB10:=hB6.mono (s':=s10) (by omega) fun id hid=>by rw [hfr10 id (by omega) (by omega),hfr8 id (by omega),p3 id (by omega)]
  obtain ⟨f1,f2,fx_,fy⟩:=fx hB10
  refine ⟨?_,?_⟩
  ·simp only [Chks,wantedG,LOp.run,lk,sv1,sv2,sv3,Nat.reduceEqDiff,Nat.reduceAdd,Nat.reduceLeDiff,reduceIte,if_false,if_true,mkVal,unLV,List.map,optTmps,Env.put_some,e6,e7,e8,e9]
   simp [loadLV,mkVal,f1,f2,fx_,fy]
  simp only [Env.put_some]
  have q10:s10.get a=some (.cells .mut [.int .i64 (x.2:Int)]):=(hfr10 a (by omega) (by omega)).trans q8
  have hW1':SkC s10 r1 1 (nints (wayS acc x)) (wayS acc x).length:=hW1.mono hn10 fun id hu=>hfr10 id (hW1.lt hu) (by have:=hu8 id hu;omega)
  refine q_call wN rfl (by simp only [List.map,lk,sv1,sv2,sv3,Nat.reduceEqDiff,Nat.reduceAdd,Nat.reduceLeDiff,reduceIte,if_false,if_true,mkVal,unLV,List.map,optTmps];rfl) (CallOk.mono (way_ok hsy.1 i5 hcl2 hFO2) fun r2 s11 hh=>?_)
  obtain ⟨hW2,hn11,hu11,hfr11⟩:=hh
  have hB11:=hB10.mono hn11 hfr11
  obtain ⟨g1,g2,gx,gy⟩:=fx hB11
  refine ⟨?_,?_⟩
  ·simp only [Chks,wantedG,LOp.run,lk,sv1,sv2,sv3,Nat.reduceEqDiff,Nat.reduceAdd,Nat.reduceLeDiff,reduceIte,if_false,if_true,mkVal,unLV,List.map,optTmps,Env.put_some,e6,e7,e8,e9]
   simp [loadLV,mkVal,g1,g2,gx,gy]
  simp only [Env.put_some]
  have q11:s11.get a=some (.cells .mut (nints [x.2])):=(hfr11 a (by omega)).trans q10
  have hW3:SkC s11 r1 1 (nints (wayS acc x)) (wayS acc x).length:=hW1'.mono hn11 fun id hu=>hfr11 id (hW1'.lt hu)
  have hl1:=wayS_len hok hbk hlet (firsts_in hok hpos) (by rw [hacc];exact i1)
  have hl2:=wayS_len hok hbk hlet (from_:=[y]) (fun p hp=>by rw [List.mem_singleton.1 hp];exact i3) i5
  rw [hacc] at hl1
  have hl3:ls.length*B.next.length≤600000:=by
   have:ls.length*B.next.length≤200*3000:=Nat.mul_le_mul hbig hok.2.2.1
   omega
  have h00:=hB11.g0
  have hr1:=way_lt hok hsr.1 i1
  have hr2:=way_lt hok hsy.1 i5
  refine q_appL (A:=[x.2]) (B:=wayS (srun B ls bk [y]) x) (xv:=.sref a 0 1 1) (yv:=r2) ef ef ⟨rfl, .inr ⟨a,rfl,by simp,by omega,q11⟩⟩ hW2 (by simp) (by rw [List.length_singleton];omega) (fun s12 r3 t1 t2 t3 t4=>?_)
  have na1:∀ id,id<s11.n→id≠a→s12.get id=s11.get id:=fun id h1 h2=>t4 id h1 fun hu=>h2 (uses_sref.1 hu)
  have h12:s12.get 0=some (.cells .mut [.nils, .nils]):=(na1 0 (by omega) (by omega)).trans h00
  have hW4:SkC s12 r1 1 (nints (wayS acc x)) (wayS acc x).length:=hW3.mono t3 fun id hu=>na1 id (hW3.lt hu) (by have:=hu8 id hu;omega)
  have k1:=cells_cell hW4.cell
  have k2:=cells_cell t1.cell
  refine q_gen (v:=.agg [r1,r3]) (s':=s12) wN (by simp [LOp.run,evParts,fillParts,lk,sv1,sv2,sv3,Nat.reduceEqDiff,Nat.reduceAdd,Nat.reduceLeDiff,reduceIte,if_false,if_true,mkVal,unLV,List.map,optTmps,k1,k2,splice]) rfl trivial ?_
  simp only [Env.put_some]
  have cc1:=hW4.cell
  have cc2:=t1.cell
  have hu8':∀ id,uses r1 id→id≠0:=fun id hu=>by have:=hu8 id hu;omega
  have t2':∀ id,uses r3 id→id≠0:=fun id hu=>by have:=t2 id hu;omega
  clear hfr8 hfr9 hfr10 hfr11 na1 t4 fx hB6 hB7 hB8 hB10 hB11 hFO2 hW1 hW1' hW2 hW3
  refine q_storeG (i:=0) (o:=0) (n:=2) (cs:=[.nils, .nils]) (vs:=[r1,r3]) (cs':=[r1,r3]) (v:=.agg [r1,r3]) ef ef (by simp [cells_agg,cc1,cc2]) h12 rfl (by simp) rfl ?_
  repeat' (first | refine gA trivial ?_ | (refine gB trivial ?_;intro bb hbb;cases bb<;>(try simp only [hbs,if_false,reduceCtorEq] at hbb)) | apply qc_seq | fail)
  refine ⟨.inr trivial, .tup [.agg [r1,r3], .bool true],by simp [resVal,resOne,mkVal,lk,St.get_put,e4],?_⟩
  have hX:Fld (s12.put 0 (.cells .mut [r1,r3])) r1 (zints (wayS acc x)):=skc_fld (hW4.mono (Nat.le_refl _) fun id hu=>by rw [St.get_put,if_neg (hu8' id hu)]) (by omega) hr1
  have hY:Fld (s12.put 0 (.cells .mut [r1,r3])) r3 (zints (x.2::wayS (srun B ls bk [y]) x)):=skc_fld (l:=x.2::wayS (srun B ls bk [y]) x) (t1.mono (Nat.le_refl _) fun id hu=>by rw [St.get_put,if_neg (t2' id hu)]) (by rw [List.length_cons];omega) fun z hz=>by
   rcases List.mem_cons.1 hz with rfl | hz
   ·have:=i2.2
    have:=hok.2.2.1
    omega
   ·exact hr2 z hz
  obtain ⟨x',y',s',z1,z2,z3⟩:=frz_path (b:=true) hX hY
  exact ⟨_,s',z1,by simp [LV.closed,LV.closed.closedAll,z2.closed,z3.closed],x',y',_,_,true,rfl,z2,z3,hR.out _ _ (fun _=>⟨rfl,rfl⟩) (fun h=>by cases h)⟩
end Go.Proofs.YtgobbogomchnhaaGreatDoor
