/- The document's way to a place. -/
import Derived.Test.YtgobbogomchnhaaGreatDoorRopen
import Derived.Test.YtgobbogomchnhaaGreatDoorRun
import Derived.Test.YtgobbogomchnhaaGreatDoorGrow
import Derived.Test.YtgobbogomchnhaaGreatDoorRsm
import Derived.Test.YtgobbogomchnhaaGreatDoorChkl
import Derived.Test.YtgobbogomchnhaaGreatDoorRval
set_option linter.unusedSimpArgs false
set_option linter.unusedVariables false
section
set_option linter.unusedSimpArgs false
set_option linter.unusedVariables false
namespace Go.Proofs.YtgobbogomchnhaaGreatDoor
open Go Go.Pv Go.Aut Go.Bfs
open Classical
theorem wayS_at {succ:Pl→List Pl} {from_:List Pl} {R:Pl→Prop} {acc:Ac Pl} (hOk:Bfs.Ok succ from_ R acc) {k:Nat} {x:Pl × Int} (hx:acc[k]? = some x):wayS acc x.1=((wayR acc acc.length x.2).map (·.2)).reverse:=by
 have hid:=idx_get hOk.nd (i:=k) (p:=x.1) (by rw [List.getElem?_map,hx];rfl)
 unfold wayS
 rw [hid,Option.getD_some,hx]
 exact List.map_reverse
set_option maxHeartbeats 8000000 in
theorem rway_ok {v:LV} {B:Bu} {sv nv stv lov:LV} {T:Nat} {acc:Ac Pl} {seev atv tv fv:LV} {rws:List LV} (h:SC v B sv nv stv lov T acc seev atv tv fv rws) {succ:Pl→List Pl} {from_:List Pl} {ls:List Nat} (hok:Vb B) (hOk:Bfs.Ok succ from_ (InT B ls) acc) (hnl:acc.length≤600000) {k:Nat} {x:Pl × Int} (hx:acc[k]? = some x) :
  PE 58 [v, .int .i64 (k:Int)] (fun r=>IsInts r (zints (wayS acc x.1++[x.1.2]))):=by
 have hvc:=h.cl
 have hT0:wayS acc x.1++[x.1.2]=((wayR acc (acc.length+1) (k:Int)).map (·.2)).reverse:=by
  rw [wayR_step hx,wayS_at hOk hx]
  simp
 have hT3:∀ y∈wayS acc x.1++[x.1.2],y≤1000000:=fun y hy=>by
  rcases List.mem_append.1 hy with hy | hy
  ·have:=way_lt hok hOk (List.mem_map_of_mem (List.mem_of_getElem? hx)) y hy
   omega
  ·rw [List.mem_singleton.1 hy]
   have h1:=(hOk.rng x (List.mem_of_getElem? hx)).2
   have h2:=hok.2.2.1
   omega
 rw [hT0] at hT3 ⊢
 have hbefore:∀ (k:Nat) (z:Pl × Int),acc[k]? = some z→-1≤z.2∧z.2<(k:Int):=fun k z hz=>by
  rcases hOk.way k z hz with ⟨h1,_⟩ | ⟨j,_,h1,h2,_⟩<;>omega
 have hkl:k<acc.length:=(List.getElem?_eq_some_iff.1 hx).1
 have hTl:((wayR acc (acc.length+1) (k:Int)).map (·.2)).reverse.length≤acc.length+1:=by
  have h1:=(wayR_ok hOk k x hx acc.length (by have:=hbefore k x hx;omega)).2.1
  rw [wayR_step hx]
  simp
  omega
 generalize hT:((wayR acc (acc.length+1) (k:Int)).map (·.2)).reverse=Tl at hTl hT3
 obtain ⟨rfl,-,hsee,hrl,hrow,hat,hst_,hfm⟩:=h
 refine q_fnEx (t:=4) hm Tryz.func58 (by decide +kernel) c58 (Nat.le_of_ble_eq_true rfl) (by simp only [LV.closed.closedAll,hvc];rfl) rfl ?_
 generalize hcs:[LV.int .i64 B.L,sv,nv,stv,lov,seev,atv,tv,fv]=cs
 have e0:(envOf [.pimm cs 0, .int .i64 (k:Int)]).at 0 = .pimm cs 0:=by rw [envOf_at];rfl
 have e1:(envOf [.pimm cs 0, .int .i64 (k:Int)]).at 1 = .int .i64 (k:Int):=by rw [envOf_at];rfl
 generalize envOf [.pimm cs 0, .int .i64 (k:Int)]=e at *
 have k7:∀ t:St,loadLV none (.pimm cs (0+7)) t=some tv:=fun t=>by rw [← hcs];rfl
 have k8:∀ t:St,loadLV none (.pimm cs (0+8)) t=some fv:=fun t=>by rw [← hcs];rfl
 unfold l58
 dsimp only [jA,qF,qI,qm,ql]
 repeat' (first | refine gA trivial ?_ | (refine gB trivial ?_;intro bb hbb;cases bb<;>(try simp only [hbs,if_false,reduceCtorEq] at hbb)) | apply qc_seq | fail)
 refine qc_loop (fun m e t=>∃ (D:List Nat) (q:Int) (lv:LV),m≤acc.length+1∧-1≤q∧q<(acc.length:Int)∧q<(m:Int)∧((wayR acc m q).map (·.2)).reverse++D=Tl∧SkC t lv 1 (nints D) D.length∧e.at 0 = .pimm cs 0∧e.at 1 = .int .i64 q∧e.at 5=lv) (acc.length+1)
  ⟨[],(k:Int), .nils,Nat.le_refl _,by omega,by omega,by omega,by rw [List.append_nil];exact hT,SkC.nil _ _,ef,ef,ef⟩ ?_
 clear e0 e1 hT
 clear e
 rintro m e t ⟨D,q,lv,hmf,hq1,hq3,hq2,hD,hS,e0,e1,e5⟩
 by_cases hq0:0≤q
 ·obtain ⟨q,rfl⟩:∃ p:Nat,q=(p:Int):=⟨q.toNat,by omega⟩
  obtain ⟨f,rfl⟩:∃ f,m=f+1:=⟨m - 1,by omega⟩
  have hql:q<acc.length:=by omega
  have hqI:(q:Int)<(acc.length:Int):=by omega
  obtain ⟨z,hz⟩:∃ z,acc[q]? = some z:=⟨acc[q],List.getElem?_eq_getElem hql⟩
  have hzb:=hbefore q z hz
  rw [wayR_step hz] at hD
  have hDl:D.length≤Tl.length:=by rw [← hD,List.length_append];omega
  have l7:loadLV none (.pimm (nints (acc.map (·.1.2))) q) t=some (.int .i64 (z.1.2:Int)):=load_imm (by simp [nints,hz])
  have l8:∀ t:St,loadLV none (.pimm (ints (acc.map (·.2))) q) t=some (.int .i64 z.2):=fun t=>load_imm (by simp [ints,hz])
  repeat' (first | refine gA (And.intro @k7 (And.intro @k8 (And.intro (@iaN _ _ _ hst_) (And.intro (@iaN _ _ _ hfm) @l7)))) ?_ | (refine gB (And.intro @k7 (And.intro @k8 (And.intro (@iaN _ _ _ hst_) (And.intro (@iaN _ _ _ hfm) @l7)))) ?_;intro bb hbb;cases bb<;>(try simp only [hbs,if_false,reduceCtorEq] at hbb)) | apply qc_seq | fail)
  ·exfalso;omega
  refine q_bsl2 (xv:=.int .i64 (z.1.2:Int)) (vs:=[.int .i64 (z.1.2:Int)]) ef rfl rfl rfl (fun _ _ _ _=>trivial) (fun s6 m1 m2 m3=>?_)
  repeat' (first | refine gA trivial ?_ | (refine gB trivial ?_;intro bb hbb;cases bb<;>(try simp only [hbs,if_false,reduceCtorEq] at hbb)) | apply qc_seq | fail)
  refine q_appL (A:=[z.1.2]) (B:=D) (xv:=.sref t.n 0 1 1) (yv:=lv) ef ef ⟨rfl, .inr ⟨t.n,rfl,by simp,by omega,m2⟩⟩ (hS.mono (by omega) fun id hu=>m3 id (hS.lt hu)) (by simp) (by rw [List.length_singleton];omega) (fun s7 r3 t1 t2 t3 t4=>?_)
  repeat' (first | refine gA (And.intro @k8 (And.intro (@iaN _ _ _ hfm) @l8)) ?_ | (refine gB (And.intro @k8 (And.intro (@iaN _ _ _ hfm) @l8)) ?_;intro bb hbb;cases bb<;>(try simp only [hbs,if_false,reduceCtorEq] at hbb)) | apply qc_seq | fail)
  exact ⟨f,by omega,[z.1.2]++D,z.2,r3,by omega,hzb.1,by omega,by omega,by rw [← hD];simp,t1,ef,ef,ef⟩
 ·rw [wayR_neg (by omega),List.map_nil,List.reverse_nil,List.nil_append] at hD
  subst hD
  repeat' (first | refine gA trivial ?_ | (refine gB trivial ?_;intro bb hbb;cases bb<;>(try simp only [hbs,if_false,reduceCtorEq] at hbb)) | apply qc_seq | fail)
  ·obtain ⟨r,s',h1,h2,h3⟩:=skc_frz hS (nints_closed _)
   exact ⟨.inr trivial,r,s',by simp only [lk,sv1,sv2,sv3,Nat.reduceEqDiff,Nat.reduceAdd,Nat.reduceLeDiff,reduceIte,if_false,if_true,mkVal,unLV,List.map,optTmps];exact h1,h3,zints_is (by omega) hT3 _ h2⟩
  ·exfalso;omega
end Go.Proofs.YtgobbogomchnhaaGreatDoor
end
section
set_option linter.unusedSimpArgs false
set_option linter.unusedVariables false
namespace Go.Proofs.YtgobbogomchnhaaGreatDoor
open Go Go.Pv Go.Aut Go.Bfs
open Classical
theorem nb_ninv {sl lp:List Int} {w:Nat→Int} : ∀ {keep back:Nat},NInv sl lp w keep back→NInv sl lp w (nb sl lp keep back).1 (nb sl lp keep back).2:=by
 intro keep
 induction keep with
 | zero=>intro back h;exact h
 | succ k ih=>
  intro back h
  rw [nb]
  split
  ·rename_i he
   have:=ninv_step h (by omega) (by simpa using he)
   exact ih this
  ·exact h
theorem nrm_facts {sl ll sl' ll':List Int} (h:Nrm sl ll sl' ll'):sl'.length≤sl.length∧1≤ll'.length∧ll'.length≤ll.length∧(∀ x∈sl',x∈sl)∧(∀ x∈ll',x∈ll)∧∀ i,lett sl' ll' i=lett sl ll i:=by
 obtain ⟨n,hpm,rfl,rfl⟩:=h
 have hper:=hpm.1
 have h1:=hper.1
 have h2:=hper.2.1
 have hl:(ll.take n).length=n:=by simp;omega
 have hi:=nb_ninv (ninv_init (sl:=sl) hper)
 have hb:=hi.2.1
 refine ⟨by simp;omega,?_,?_,fun x hx=>List.mem_of_mem_take hx,fun x hx=>List.mem_of_mem_take (rot_mem hx),ninv_lett hi⟩
 ·rw [rot_len (Nat.le_of_lt (Nat.mod_lt _ (by omega)))];omega
 ·rw [rot_len (Nat.le_of_lt (Nat.mod_lt _ (by omega)))];omega
theorem nrm_sg {B:Bu} {sv nv st' lo':LV} {S L sl' ll':List Int} (hst:IsInts sv B.start) (hnx:IsNext nv B.next) (hok:Vb B) (hf:Fm S L) (ha:AllB S B.L) (hb:AllB L B.L) (h:Nrm S L sl' ll') (hS:IsInts st' sl') (hL:IsInts lo' ll') :
  SG B sv nv st' lo' sl' ll' ((sl'++ll').map Int.toNat)∧∀ i,((tkOf B ((sl'++ll').map Int.toNat) sl'.length).word i:Int)=lett S L i:=by
 obtain ⟨g1,g2,g3,g4,g5,g6⟩:=nrm_facts h
 have hnn:∀ x∈sl'++ll',0≤x∧x<B.L:=fun x hx=>by
  rcases List.mem_append.1 hx with hx | hx
  ·obtain ⟨j,hj,rfl⟩:=List.mem_iff_getElem.1 (g4 x hx)
   have:=ha j hj
   rwa [List.getD_eq_getElem?_getD,List.getElem?_eq_getElem hj] at this
  ·obtain ⟨j,hj,rfl⟩:=List.mem_iff_getElem.1 (g5 x hx)
   have:=hb j hj
   rwa [List.getD_eq_getElem?_getD,List.getElem?_eq_getElem hj] at this
 have hget:∀ i,i<(sl'++ll').length→((((sl'++ll').map Int.toNat).getD i 0:Nat):Int)=(sl'++ll').getD i 0∧(sl'++ll').getD i 0<B.L:=fun i hi=>by
  have:=hnn _ (List.getElem_mem hi)
  rw [List.getD_eq_getElem?_getD,List.getD_eq_getElem?_getD,List.getElem?_map,List.getElem?_eq_getElem hi]
  simp only [Option.map_some,Option.getD_some]
  omega
 obtain ⟨f1,f2,f3,_⟩:=hf
 refine ⟨⟨hst,hnx,hS,hL,by simp,fun i hi=>((hget i (by simpa using hi)).1).symm,hok,by simp;omega,by simp;omega,fun i hi=>?_⟩,fun i=>by rw [word_lett g2 (fun x hx=>(hnn x hx).1),g6]⟩
 have:=hget i (by simpa using hi)
 omega
end Go.Proofs.YtgobbogomchnhaaGreatDoor
end
section
set_option linter.unusedSimpArgs false
set_option linter.unusedVariables false
namespace Go.Proofs.YtgobbogomchnhaaGreatDoor
open Go Go.Pv Go.Aut Go.Bfs
open Classical
theorem after_in {B:Bu} {ls:List Nat} {bk:Nat} (hok:Vb B) (hbk:bk<ls.length) (hlet:∀ i,i<ls.length→(ls.getD i 0:Int)<B.L) {x:Pl} (hx:InT B ls x) {m:Int × Bool} (hm:m∈bms B ls x):InT B ls ((tkOf B ls bk).after x (nat2 m)):=by
 refine inT_succ hok hbk hlet hx _ (Tk.mem_succ.2 ⟨nat2 m,?_,rfl⟩)
 rw [moves_map]
 exact List.mem_map_of_mem hm
theorem hit_iff {B:Bu} {ls:List Nat} {bk:Nat} (hok:Vb B) (hbk:bk<ls.length) (hlet:∀ i,i<ls.length→(ls.getD i 0:Int)<B.L) {x:Pl} (hx:InT B ls x) {m:Int × Bool} (hm:m∈bms B ls x):Hit (tkOf B ls bk) x m↔m.2=true∧x∈(srun B ls bk [(tkOf B ls bk).after x (nat2 m)]).map (·.1):=by
 have hy:=after_in (bk:=bk) hok hbk hlet hx hm
 obtain ⟨k1,k2,k3⟩:=srun_ok (from_:=[(tkOf B ls bk).after x (nat2 m)]) hok hbk hlet (fun p hp=>by rw [List.mem_singleton.1 hp];exact hy)
 constructor
 ·rintro ⟨g,a,ha⟩
  exact ⟨g,(found_iff k1 k2 k3 x).2 ⟨_,List.mem_singleton.2 rfl,a,ha⟩⟩
 ·rintro ⟨g,h⟩
  obtain ⟨y,hy',a,ha⟩:=(found_iff k1 k2 k3 x).1 h
  rw [List.mem_singleton.1 hy'] at ha
  exact ⟨g,a,ha⟩
theorem RunA.uniq {B:Bu} {S L:List Int} {P Q P' Q':List Nat} {ok ok':Bool} (h:RunA B S L P Q ok) (k:RunA B S L P' Q' ok'):P=P'∧Q=Q'∧ok=ok':=by
 rcases h with ⟨h1,rfl,rfl,rfl⟩ | ⟨hv,sl',ll',ls,hn,hls,_,_,_,_,hD⟩
 ·rcases k with ⟨_,rfl,rfl,rfl⟩ | ⟨hv,_⟩
  ·exact ⟨rfl,rfl,rfl⟩
  ·exact absurd hv h1
 ·rcases k with ⟨k1,_⟩ | ⟨_,tl',ml',ms,kn,kls,_,_,_,_,kD⟩
  ·exact absurd hv k1
  ·obtain ⟨rfl,rfl⟩:=hn.uniq kn
   subst hls
   subst kls
   exact hD.uniq kD
end Go.Proofs.YtgobbogomchnhaaGreatDoor
end
section
set_option linter.unusedSimpArgs false
set_option linter.unusedVariables false
namespace Go.Proofs.YtgobbogomchnhaaGreatDoor
open Go Go.Pv
open Classical
set_option maxHeartbeats 4000000 in
theorem rnrm_ok {st lo:LV} {S L:List Int} (hS:IsInts st S) (hL:IsInts lo L) (hf:Fm S L):PE 54 [.agg [st,lo]] (fun r=>∃ st' lo' sl' ll',r = .agg [st',lo']∧IsInts st' sl'∧IsInts lo' ll'∧Nrm S L sl' ll'):=by
 have hcl:(LV.agg [st,lo]).closed=true:=by simp [LV.closed,LV.closed.closedAll,hS.closed,hL.closed]
 have hc1:=hS.sl.cell
 have hc2:=hL.sl.cell
 have hfo:=rformed_ok hS hL
 have hsh:=rshort_ok hS hL hf
 refine q_fnExR Tryz.func54 (by decide +kernel) c54 (Nat.le_of_ble_eq_true rfl) (by simp [LV.closed.closedAll,hcl]) ?_
 have h0:(envOf [LV.agg [st,lo]]).at 0 = .agg [st,lo]:=by rw [envOf_at];rfl
 generalize envOf [LV.agg [st,lo]]=e at *
 unfold l54
 dsimp only [jA,jG,qN,qO,qG,qm]
 repeat' (first | refine gA trivial ?_ | (refine gB trivial ?_;intro bb hbb;cases bb<;>(try simp only [hbs,if_false,reduceCtorEq] at hbb)) | apply qc_seq | fail)
 refine q_pureB hG0 (hfo) (by first | exact wN | (apply wG;(simp only [lk,Nat.reduceEqDiff,reduceIte,h0];(try rfl);done))) (by simp only [List.map,lk,Nat.reduceEqDiff,reduceIte,h0];try rfl) (fun bb hbb=>⟨by first | trivial | (simp only [Chks,wantedG,LOp.run,Env.put_some,Env.put_none,lk,sv1,sv2,sv3,Nat.reduceEqDiff,Nat.reduceAdd,Nat.reduceLeDiff,reduceIte,if_false,if_true,mkVal,unLV,List.map,optTmps,beq_self_eq_true,reduceCtorEq,false_or,true_and,and_true,Option.some.injEq, *];done),?_⟩)
 simp only [Env.put_some]
 cases bb<;>simp only [decide_eq_true_eq,decide_eq_false_iff_not] at hbb
 ·exact absurd hf hbb
 repeat' (first | refine gA trivial ?_ | (refine gB trivial ?_;intro bb hbb;cases bb<;>(try simp only [hbs,if_false,reduceCtorEq] at hbb)) | apply qc_seq | fail)
 refine q_pureEx hG0 hsh wN (by simp only [List.map,lk,sv1,sv2,sv3,Nat.reduceEqDiff,Nat.reduceAdd,Nat.reduceLeDiff,reduceIte,if_false,if_true,mkVal,unLV,List.map,optTmps]) (fun r hr hrc=>⟨trivial,?_⟩)
 simp only [Env.put_some]
 obtain ⟨st',lo',sl',ll',rfl,h1,h2,h3⟩:=hr
 have k1:=h1.sl.cell
 have k2:=h2.sl.cell
 repeat' (first | refine gA trivial ?_ | (refine gB trivial ?_;intro bb hbb;cases bb<;>(try simp only [hbs,if_false,reduceCtorEq] at hbb)) | apply qc_seq | fail)
 exact ⟨.inr trivial, .agg [st',lo'],by simp [resVal,resOne,mkVal,lk,St.get_put,n_empty],_,_,frzD_closed hrc,hrc,st',lo',sl',ll',rfl,h1,h2,h3⟩
end Go.Proofs.YtgobbogomchnhaaGreatDoor
end
section
set_option linter.unusedSimpArgs false
set_option linter.unusedVariables false
namespace Go.Proofs.YtgobbogomchnhaaGreatDoor
open Go Go.Pv Go.Aut Go.Bfs
open Classical
theorem red_lt {b p i:Nat} (hp:1≤p):red b p i<b+p:=by
 unfold red
 split
 ·omega
 ·have:=Nat.mod_lt (i - b) (show p > 0 by omega)
  omega
theorem CK.mvs' {B:Bu} {S L P Q:List Int} (h:CK B S L P Q) (i:Nat):∃ g,(lett P Q (i+1),g)∈mvs B (lett P Q i) (lett S L i):=by
 obtain ⟨d1,d2⟩:=pper_dvd (L:=L) (Q:=Q)
 have hp:=pper_pos h.q1 h.fm.1.2.1
 have hbS:S.length≤pbef S P:=Nat.le_max_right _ _
 have hbP:P.length≤pbef S P:=Nat.le_max_left _ _
 obtain ⟨g,hg⟩:=h.mv _ (red_lt (b:=pbef S P) (i:=i) hp)
 refine ⟨g,?_⟩
 have e1:=lett_red (L:=Q) hbP d1 i 1
 have e2:=lett_red (L:=Q) hbP d1 i 0
 have e3:=lett_red (L:=L) hbS d2 i 0
 simp only [Nat.add_zero] at e2 e3
 rw [e1,e2,e3]
 exact hg
theorem pper_le {L Q:List Int} (hQ:1≤Q.length):pper L Q≤Q.length*L.length:=by
 unfold pper
 exact Nat.mul_le_mul (Nat.div_le_self _ _) (Nat.le_refl _)
structure CK2 (B:Bu) (S L P Q:List Int):Prop where
 vb:Vb B
 fm:Fm S L∧AllB S B.L∧AllB L B.L
 q1:1≤Q.length
 st:lett P Q 0∈B.start
 mv:∀ i,i<pbef S P+Q.length*L.length→∃ g,(lett P Q (i+1),g)∈mvs B (lett P Q i) (lett S L i)
 gd:∃ i,i<pbef S P+Q.length*L.length∧pbef S P≤i∧(lett P Q (i+1),true)∈mvs B (lett P Q i) (lett S L i)
theorem ck2_iff {B:Bu} {S L P Q:List Int} : CK2 B S L P Q↔CK B S L P Q:=by
 constructor
 ·intro h
  have hp:=pper_pos h.q1 h.fm.1.2.1
  obtain ⟨d1,d2⟩:=pper_dvd (L:=L) (Q:=Q)
  have hbS:S.length≤pbef S P:=Nat.le_max_right _ _
  have hbP:P.length≤pbef S P:=Nat.le_max_left _ _
  have hle:=pper_le (L:=L) h.q1
  refine ⟨h.vb,h.fm,h.q1,h.st,fun i hi=>h.mv i (by omega),?_⟩
  obtain ⟨i,h1,h2,h3⟩:=h.gd
  refine ⟨red (pbef S P) (pper L Q) i,?_,red_lt hp,?_⟩
  ·unfold red
   rw [if_neg (by omega)]
   omega
  ·have e1:=lett_red (L:=Q) hbP d1 i 1
   have e2:=lett_red (L:=Q) hbP d1 i 0
   have e3:=lett_red (L:=L) hbS d2 i 0
   simp only [Nat.add_zero] at e2 e3
   rw [← e1,← e2,← e3]
   exact h3
 ·intro h
  have hle:=pper_le (L:=L) h.q1
  refine ⟨h.vb,h.fm,h.q1,h.st,fun i _=>h.mvs' i,?_⟩
  obtain ⟨i,h1,h2,h3⟩:=h.gd
  exact ⟨i,by omega,h1,h3⟩
end Go.Proofs.YtgobbogomchnhaaGreatDoor
end
