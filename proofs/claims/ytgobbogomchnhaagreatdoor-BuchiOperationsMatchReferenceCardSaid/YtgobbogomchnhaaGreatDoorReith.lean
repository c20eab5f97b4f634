/- The reference's Trim. -/
import Derived.Test.YtgobbogomchnhaaGreatDoorRtr1
import Derived.Test.YtgobbogomchnhaaGreatDoorRout
import Derived.Test.YtgobbogomchnhaaGreatDoorBeither
import Derived.Test.YtgobbogomchnhaaGreatDoorRval
set_option linter.unusedSimpArgs false
set_option linter.unusedVariables false
section
set_option linter.unusedSimpArgs false
set_option linter.unusedVariables false
set_option maxRecDepth 100000
set_option pp.maxSteps 1000000
set_option pp.deepTerms true
namespace Go.Proofs.YtgobbogomchnhaaGreatDoor
open Go Go.Pv
open Classical
def TrimA (B:Bu) (r:LV):Prop:=(¬ Vb B∧r = .agg [.int .i64 0, .nils, .nils])∨(Vb B∧∃ sv nv,IsB r (trimC B) sv nv)
set_option maxHeartbeats 32000000 in
theorem rtrim_ok {v:LV} {B:Bu} {sb nb:LV} (hB:IsB v B sb nb):PE 15 [v] (TrimA B):=by
 have hcB:=hB.closed
 have hbB:=rbvalid_ok hB
 obtain ⟨rfl,hsb,vb,hnb⟩:=hB
 have cb1:=hsb.sl.cell
 have cb2:=hnb.sl.cell
 have hlb:=hnb.sl.len
 have hlsb:=hsb.sl.len
 refine q_fnExR Tryz.func15 (by decide +kernel) c15 (Nat.le_of_ble_eq_true rfl) (by simp only [LV.closed.closedAll,hcB,Bool.and_self]) ?_
 have e0:(envOf [LV.agg [.int .i64 B.L,sb,nb]]).at 0 = .agg [.int .i64 B.L,sb,nb]:=by rw [envOf_at];rfl
 generalize envOf [LV.agg [.int .i64 B.L,sb,nb]]=e at *
 unfold l15
 dsimp only [jA,jB,jG,qM,qL,qN,qF,qS,qI,qA,qB,qC,qO,qG,qm,ql]
 repeat' (first | refine gA @hlb ?_ | (refine gB @hlb ?_;intro bb hbb;cases bb<;>(try simp only [hbs,if_false,reduceCtorEq] at hbb)) | apply qc_seq | fail)
 refine q_pureB hG0 (hbB) (by first | exact wN | (apply wG;(simp only [lk,Nat.reduceEqDiff,reduceIte,e0];(try rfl);done))) (by simp only [List.map,lk,Nat.reduceEqDiff,reduceIte,e0];try rfl) (fun bb hbb=>⟨by first | trivial | (simp only [Chks,wantedG,LOp.run,Env.put_some,Env.put_none,lk,sv1,sv2,sv3,Nat.reduceEqDiff,Nat.reduceAdd,Nat.reduceLeDiff,reduceIte,if_false,if_true,mkVal,unLV,List.map,optTmps,beq_self_eq_true,reduceCtorEq,false_or,true_and,and_true,Option.some.injEq, *];done),?_⟩)
 simp only [Env.put_some]
 cases bb<;>simp only [decide_eq_true_eq,decide_eq_false_iff_not] at hbb
 ·repeat' (first | refine gA @hlb ?_ | (refine gB @hlb ?_;intro bb hbb;cases bb<;>(try simp only [hbs,if_false,reduceCtorEq] at hbb)) | apply qc_seq | fail)
  refine q_run0 (v:=.agg [.int .i64 0, .nils, .nils]) (by simp only [LOp.run,lk,sv1,sv2,sv3,Nat.reduceEqDiff,Nat.reduceAdd,Nat.reduceLeDiff,reduceIte,if_false,if_true,mkVal,unLV,List.map,optTmps,evParts,fillParts];rfl) ?_
  repeat' (first | refine gA trivial ?_ | (refine gB trivial ?_;intro bb hbb;cases bb<;>(try simp only [hbs,if_false,reduceCtorEq] at hbb)) | apply qc_seq | fail)
  exact ⟨.inr trivial, .agg [.int .i64 0, .nils, .nils],by simp [resVal,resOne,mkVal,lk,St.get_put],_,_,frzD_closed rfl,rfl, .inl ⟨hbb,rfl⟩⟩
 have hok:=hbb
 clear hbb hbB
 repeat' (first | refine gA @hlb ?_ | (refine gB @hlb ?_;intro bb hbb;cases bb<;>(try simp only [hbs,if_false,reduceCtorEq] at hbb)) | apply qc_seq | fail)
 have hn3:=hok.2.2.1
 have hL1:=hok.1
 have hL2:=hok.2.1
 have hst:=start_len hok
 obtain ⟨n,hnn⟩:∃ n,B.next.length=n:=⟨_,rfl⟩
 have hbig:(n:Int)*8≤big∧(n:Int)≤big:=by unfold big;omega
 generalize hs1:St.empty.new (.cells .mut [.int .i64 0, .nils, .nils])=s1
 have n1:s1.n=1:=by rw [← hs1];rfl
 have g0:s1.get 0=some (.cells .mut [.int .i64 0, .nils, .nils]):=by rw [← hs1,St.get_new];rfl
 clear hs1
 refine q_gen (v:=.sref 1 0 n 1) (s':=s1.new (.cells .mut (List.replicate n (.int .i64 0)))) wN (by
  simp only [LOp.run,lk,sv1,sv2,sv3,Nat.reduceEqDiff,Nat.reduceAdd,Nat.reduceLeDiff,reduceIte,if_false,if_true,mkVal,unLV,List.map,optTmps]
  rw [hnn,if_pos ⟨by omega,Int.le_refl _,hbig.1,hbig.2,trivial⟩,rep_one,n1]
  rfl) rfl trivial ?_
 simp only [Env.put_some]
 have hz0:List.replicate n (LV.int .i64 0)=zc n (fun q=>if q<0 then -1 else 0):=by
  apply List.ext_getElem (by simp [zc])
  intro i h1 h2
  simp [zc]
 rw [hz0]
 have hP0:(s1.new (.cells .mut (zc n (fun q=>if q<0 then -1 else 0)))).get 1=some (.cells .mut (zc n (fun q=>if q<0 then -1 else 0))):=by rw [St.get_new,n1,if_pos rfl]
 have hP1:(s1.new (.cells .mut (zc n (fun q=>if q<0 then -1 else 0)))).get 0=some (.cells .mut [.int .i64 0, .nils, .nils]):=by rw [St.get_new,n1,if_neg (by omega)];exact g0
 have hP2:(s1.new (.cells .mut (zc n (fun q=>if q<0 then -1 else 0)))).n=2:=by rw [St.n_new,n1]
 generalize s1.new (.cells .mut (zc n (fun q=>if q<0 then -1 else 0)))=s2 at *
 clear hz0 hbig g0 n1
 clear s1
 repeat' (first | refine gA @hlb ?_ | (refine gB @hlb ?_;intro bb hbb;cases bb<;>(try simp only [hbs,if_false,reduceCtorEq] at hbb)) | apply qc_seq | fail)
 refine qc_loop (fun k e s=>∃ i:Nat,k=n - i∧i≤n∧s.n=2∧s.get 0=some (.cells .mut [.int .i64 0, .nils, .nils])∧s.get 1=some (.cells .mut (zc n (fun q=>if q<i then -1 else 0)))∧e.at 1 = .pimm [.int .i64 B.L,sb,nb] 0∧e.at 2 = .pref 0 0∧e.at 3 = .sref 1 0 n 1∧e.at 4 = .int .i64 (i:Int)) _
  ⟨0,rfl,by omega,hP2,hP1,hP0,ef,ef,ef,by simp only [lk,sv1,sv2,sv3,Nat.reduceEqDiff,Nat.reduceAdd,Nat.reduceLeDiff,reduceIte,if_false,if_true,mkVal,unLV,List.map,optTmps];rfl⟩ ?_
 clear e0 hP0 hP1 hP2
 clear e s2
 rintro k e s ⟨i,rfl,hi,sn,g0,g1,e1,e2,e3,e4⟩
 by_cases hil:i<n
 ·have hiI:(i:Int)<(n:Int):=by omega
  have hwi:IntKind.i64.wrap ((i:Int)+1)=((i+1:Nat):Int):=by rw [wrap_i64 _ (by omega) (by omega)];rfl
  repeat' (first | refine gA @iaS ?_ | (refine gB @iaS ?_;intro bb hbb;cases bb<;>(try simp only [hbs,if_false,reduceCtorEq] at hbb)) | apply qc_seq | fail)
  any_goals (exfalso;omega)
  refine q_storeG (i:=1) (o:=i) (n:=1) (cs:=zc n (fun q=>if q<i then -1 else 0)) (vs:=[.int .i64 (-1)]) (cs':=(zc n (fun q=>if q<i then -1 else 0)).set i (.int .i64 (-1))) (v:=.int .i64 (-1)) ef ef rfl g1 rfl (by rw [zc_length];omega) rfl ?_
  rw [zc_set hil]
  have hff:(fun q=>if q=i then (-1:Int) else if q<i then -1 else 0)=fun q=>if q<i+1 then -1 else 0:=by
   funext q
   by_cases h1:q=i
   ·rw [if_pos h1,if_pos (by omega)]
   ·rw [if_neg h1]
    by_cases h2:q<i
    ·rw [if_pos h2,if_pos (by omega)]
    ·rw [if_neg h2,if_neg (by omega)]
  rw [hff]
  have k1:(s.put 1 (.cells .mut (zc n (fun q=>if q<i+1 then -1 else 0)))).get 1=some (.cells .mut (zc n (fun q=>if q<i+1 then -1 else 0))):=by rw [St.get_put,if_pos rfl]
  have k0:(s.put 1 (.cells .mut (zc n (fun q=>if q<i+1 then -1 else 0)))).get 0=some (.cells .mut [.int .i64 0, .nils, .nils]):=by rw [St.get_put,if_neg (by omega)];exact g0
  have kn:(s.put 1 (.cells .mut (zc n (fun q=>if q<i+1 then -1 else 0)))).n=2:=by rw [St.n_put];exact sn
  generalize s.put 1 (.cells .mut (zc n (fun q=>if q<i+1 then -1 else 0)))=s3 at *
  clear g0 g1 sn hff
  clear s
  repeat' (first | refine gA trivial ?_ | (refine gB trivial ?_;intro bb hbb;cases bb<;>(try simp only [hbs,if_false,reduceCtorEq] at hbb)) | apply qc_seq | fail)
  exact ⟨n - (i+1),by omega,i+1,rfl,by omega,kn,k0,k1,ef,ef,ef,ef⟩
 ·have hie:i=n:=by omega
  have hzz:zc n (fun q=>if q<i then -1 else 0)=zc n (plf []):=by
   unfold zc
   refine List.map_congr_left fun q hq=>?_
   have:q<n:=List.mem_range.1 hq
   simp [plf,show q<i by omega]
  rw [hzz] at g1
  repeat' (first | refine gA trivial ?_ | (refine gB trivial ?_;intro bb hbb;cases bb<;>(try simp only [hbs,if_false,reduceCtorEq] at hbb)) | apply qc_seq | fail)
  any_goals (exfalso;omega)
  have sn2:(s.new (.cells .mut [])).n=3:=by rw [St.n_new,sn]
  have k0:(s.new (.cells .mut [])).get 0=some (.cells .mut [.int .i64 0, .nils, .nils]):=by rw [St.get_new,sn,if_neg (by omega)];exact g0
  have k1:(s.new (.cells .mut [])).get 1=some (.cells .mut (zc n (plf []))):=by rw [St.get_new,sn,if_neg (by omega)];exact g1
  have k2:(s.new (.cells .mut [])).get 2=some (.cells .mut []):=by rw [St.get_new,sn,if_pos rfl]
  generalize s.new (.cells .mut [])=s4 at *
  clear g0 g1 sn hzz hie hil hi hbb
  clear s
  refine q_gen (v:=.agg [.int .i64 B.L, .nils, .nils]) (s':=s4) wN (by simp only [LOp.run,lk,sv1,sv2,sv3,Nat.reduceEqDiff,Nat.reduceAdd,Nat.reduceLeDiff,reduceIte,if_false,if_true,mkVal,unLV,List.map,optTmps,evParts,fillParts];rfl) rfl trivial ?_
  simp only [Env.put_some]
  refine q_alk (m:=3) sn2 trivial ?_
  refine q_storeG (i:=3) (o:=0) (n:=3) (cs:=[.int .i64 0, .nils, .nils]) (vs:=[.int .i64 B.L, .nils, .nils]) (cs':=[.int .i64 B.L, .nils, .nils]) (v:=.agg [.int .i64 B.L, .nils, .nils]) ef ef rfl (by rw [St.get_new,sn2,if_pos rfl]) rfl (by decide) rfl ?_
  have hT:TM ((s4.new (.cells .mut [.int .i64 0, .nils, .nils])).put 3 (.cells .mut [.int .i64 B.L, .nils, .nils])) B.L n (.sref 2 0 0 1) .nils .nils [] [] []:=by
   refine ⟨⟨by omega,by rw [St.n_put,St.n_new,sn2];omega,by rw [St.get_put,if_neg (by omega),St.get_new,sn2,if_neg (by omega)];exact k0,by rw [St.get_put,if_pos rfl],⟨rfl, .inl ⟨rfl,rfl⟩⟩,⟨[],rfl,⟨rfl, .inl ⟨rfl,rfl⟩⟩,fun i hi=>absurd hi (Nat.not_lt_zero _)⟩,fun id hu=>?_,fun id hu=>absurd hu (uses_nils id)⟩,by rw [St.get_put,if_neg (by omega),St.get_new,sn2,if_neg (by omega)];exact k1,⟨rfl, .inr ⟨2,rfl,by rw [St.n_put,St.n_new,sn2];omega,by rw [St.get_put,if_neg (by omega),St.get_new,sn2,if_neg (by omega)];exact k2⟩⟩,fun id hu=>?_⟩
   ·rcases hu with hu | hu<;>exact absurd hu (uses_nils id)
   ·have:=uses_sref.1 hu
    refine ⟨?_,by omega⟩
    rintro (h | h | h | h)
    ·omega
    ·omega
    ·exact absurd h (uses_nils id)
    ·exact absurd h (uses_nils id)
  generalize (s4.new (.cells .mut [.int .i64 0, .nils, .nils])).put 3 (.cells .mut [.int .i64 B.L, .nils, .nils])=s5 at *
  clear k0 k1 k2 sn2
  clear s4
  generalize LV.sref 2 0 0 1=ov0 at *
  repeat' (first | refine gA @hlsb ?_ | (refine gB @hlsb ?_;intro bb hbb;cases bb<;>(try simp only [hbs,if_false,reduceCtorEq] at hbb)) | apply qc_seq | fail)
  refine qc_loop (fun k e s=>∃ (i:Nat) (ov stv:LV),k=B.start.length - i∧i≤B.start.length∧TM s B.L n ov stv .nils ((stN2 B).take i) ((B.start.take i).map fun z=>(numN (trimR B) z.toNat:Int)) []∧e.at 1 = .pimm [.int .i64 B.L,sb,nb] 0∧e.at 2 = .pref 0 0∧e.at 3 = .sref 1 0 n 1∧e.at 5=ov∧e.at 6 = .pref 3 0∧e.at 7 = .int .i64 (i:Int)) _
   ⟨0,ov0, .nils,rfl,by omega,hT,ef,ef,ef,ef,ef,by simp only [lk,sv1,sv2,sv3,Nat.reduceEqDiff,Nat.reduceAdd,Nat.reduceLeDiff,reduceIte,if_false,if_true,mkVal,unLV,List.map,optTmps];rfl⟩ ?_
  clear e1 e2 e3 e4 hT
  clear e s5 ov0
  rintro k e s ⟨i,ov,stv,rfl,hi,hT,e1,e2,e3,e5,e6,e7⟩
  by_cases hil:i<B.start.length
  ·have hiI:(i:Int)<(B.start.length:Int):=by omega
   have hwi:IntKind.i64.wrap ((i:Int)+1)=((i+1:Nat):Int):=by rw [wrap_i64 _ (by omega) (by omega)];rfl
   obtain ⟨z,hz⟩:∃ z,B.start[i]? = some z:=⟨_,List.getElem?_eq_getElem hil⟩
   have hzd:B.start.getD i 0=z:=by rw [List.getD_eq_getElem?_getD,hz];rfl
   have hzr:=hok.2.2.2.1 i hil
   have hnum:=num_start2 hok hil
   rw [hzd] at hzr hnum
   obtain ⟨q,rfl⟩:∃ q:Nat,z=(q:Int):=⟨z.toNat,by omega⟩
   rw [Int.toNat_natCast] at hnum
   have hqn:q<n:=by omega
   have hgz:(ints B.start)[i]? = some (.int .i64 (q:Int)):=by simp [ints,hz]
   have hsg:(stN2 B)[i]? = some q:=by simp [stN2,hz]
   have htk:(stN2 B).take (i+1)=(stN2 B).take i++[q]:=by rw [List.take_add_one,hsg];rfl
   have htk2:(B.start.take (i+1)).map (fun z=>(numN (trimR B) z.toNat:Int))=(B.start.take i).map (fun z=>(numN (trimR B) z.toNat:Int))++[(i:Int)]:=by
    rw [List.take_add_one,hz];simp [hnum]
   have hnew:q ∉ (stN2 B).take i:=fun hm=>by
    obtain ⟨j,hj1,hj2⟩:=List.mem_iff_getElem.1 hm
    have hjl:j<i:=by simp at hj1;omega
    have hl2:(stN2 B).length=B.start.length:=by simp [stN2]
    have h1:(stN2 B)[j]'(by omega)=q:=by rw [List.getElem_take] at hj2;exact hj2
    have h2:(stN2 B)[i]'(by omega)=q:=by
     have:=hsg
     rw [List.getElem?_eq_getElem (by omega)] at this
     exact Option.some.inj this
    have:=nd_inj2 (stN_nd2 hok) (i:=j) (j:=i) (by omega) (by omega) (h1.trans h2.symm)
    omega
   have hlen:((stN2 B).take i).length=i:=by simp [stN2];omega
   have hlen2:((B.start.take i).map fun z=>(numN (trimR B) z.toNat:Int)).length=i:=by simp;omega
   clear hzr hzd hnum hsg
   have hia:∀ s,iaLV 1 sb (.int .i64 (i:Int)) s=some (.pimm (ints B.start) i,s):=fun s=>by
    have:=iaN (esz:=1) (k:=.i64) (s:=s) (i:=i) hsb.sl hiI
    simpa using this
   generalize hps:(stN2 B).take i=ps at *
   generalize hS0:(B.start.take i).map (fun z=>(numN (trimR B) z.toNat:Int))=S0 at *
   have hqI:(q:Int)<(n:Int):=by omega
   have hiq:∀ s,iaLV 1 (.sref 1 0 n 1) (.int .i64 (q:Int)) s=some (.pref 1 q,s):=fun s=>by
    have:=iaS (esz:=1) (j:=1) (off:=0) (k:=.i64) (s:=s) hqI
    simpa using this
   repeat' (first | refine gA (And.intro @hlsb (And.intro @hia (And.intro @hgz @hiq))) ?_ | (refine gB (And.intro @hlsb (And.intro @hia (And.intro @hgz @hiq))) ?_;intro bb hbb;cases bb<;>(try simp only [hbs,if_false,reduceCtorEq] at hbb)) | apply qc_seq | fail)
   any_goals (exfalso;omega)
   refine q_storeG (i:=1) (o:=q) (n:=1) (cs:=zc n (plf ps)) (vs:=[.int .i64 (i:Int)]) (cs':=(zc n (plf ps)).set q (.int .i64 (i:Int))) (v:=.int .i64 (i:Int)) ef ef rfl hT.pl rfl (by rw [zc_length];omega) rfl ?_
   have hpf:=plf_add hnew
   rw [hlen] at hpf
   rw [zc_set hqn,hpf]
   have hod:SkE (s.put 1 (.cells .mut (zc n (plf (ps++[q]))))) ov 1 (nints ps) ps.length:=hT.od.mono (by rw [St.n_put];exact Nat.le_refl _) fun id hu=>by rw [St.get_put,if_neg (hT.oo id hu).2]
   obtain ⟨s2,hs2⟩:∃ s2,s2=s.put 1 (.cells .mut (zc n (plf (ps++[q])))):=⟨_,rfl⟩
   rw [← hs2] at hod ⊢
   replace hs2:Bx (s2=s.put 1 (.cells .mut (zc n (plf (ps++[q]))))):=⟨hs2⟩
   repeat' (first | refine gA (And.intro @hlsb (And.intro @hia @hgz)) ?_ | (refine gB (And.intro @hlsb (And.intro @hia @hgz)) ?_;intro bb hbb;cases bb<;>(try simp only [hbs,if_false,reduceCtorEq] at hbb)) | apply qc_seq | fail)
   refine q_appEk (n:=ps.length) (esz:=1) (xv:=.int .i64 (q:Int)) (yv:=ov) (vs:=[.int .i64 (q:Int)]) ef rfl rfl rfl rfl ef hod trivial (by decide) (by omega) (fun s3 j3 a1 a2 a3 a4=>?_)
   have hT2:=hT.add hnew hs2.out a1 a2 a3 a4
   clear hT hod a1 a2 a3 a4 hs2 hpf
   clear s
   generalize LV.sref j3 0 (ps.length+1) 1=ov2 at *
   have g1:=hT2.ob.g1
   repeat' (first | refine gA (And.intro @hlsb (And.intro @hia @hgz)) ?_ | (refine gB (And.intro @hlsb (And.intro @hia @hgz)) ?_;intro bb hbb;cases bb<;>(try simp only [hbs,if_false,reduceCtorEq] at hbb)) | apply qc_seq | fail)
   refine q_appEk (n:=S0.length) (esz:=1) (xv:=.int .i64 (i:Int)) (yv:=stv) (vs:=[.int .i64 (i:Int)]) ef rfl rfl rfl rfl ef hT2.ob.ss trivial (by decide) (by omega) (fun s4 j4 a1 a2 a3 a4=>?_)
   have hT3:=hT2.start a1 a2 a3 a4
   have k3:s4.get 3=some (.cells .mut [.int .i64 B.L,stv, .nils]):=by
    rw [a4 3 hT2.ob.on fun hu=>by have:=hT2.ob.lo 3 (.inl hu);omega];exact g1
   clear hT2 g1 a1 a2 a3 a4
   repeat' (first | refine gA trivial ?_ | (refine gB trivial ?_;intro bb hbb;cases bb<;>(try simp only [hbs,if_false,reduceCtorEq] at hbb)) | apply qc_seq | fail)
   exact ⟨B.start.length - (i+1),by omega,i+1,_,_,rfl,by omega,by rw [htk,htk2];exact hT3,ef,ef,ef,ef,ef,ef⟩
  ·have hie:i=B.start.length:=by omega
   have hT0:TM s B.L n ov stv .nils (stT B) (B.start.map fun z=>(numN (trimR B) z.toNat:Int)) []:=by
    have h1:(stN2 B).take i=stT B:=by
     have h2:(stN2 B).length=B.start.length:=by simp [stN2]
     rw [hie,← h2,List.take_length]
     exact ((addsN_nodup2 (ps:=[]) (l:=stN2 B) (by simpa using stN_nd2 hok)).trans rfl).symm
    have h3:B.start.take i=B.start:=by rw [hie,List.take_length]
    rw [h1,h3] at hT
    exact hT
   clear hT
   repeat' (first | refine gA @hlsb ?_ | (refine gB @hlsb ?_;intro bb hbb;cases bb<;>(try simp only [hbs,if_false,reduceCtorEq] at hbb)) | apply qc_seq | fail)
   any_goals (exfalso;omega)
   obtain ⟨ST,hST⟩:∃ ST,Bx ((B.start.map fun z=>(numN (trimR B) z.toNat:Int))=ST):=⟨_,⟨rfl⟩⟩
   rw [hST.out] at hT0
   refine qc_loop (fun k e s=>∃ (i:Nat) (ps:List Nat) (ov nxv:LV),k=n+1 - i∧i≤ps.length∧runN (succT B) (n+1 - i) i ps=trimR B∧TM s B.L n ov stv nxv ps ST (((trimR B).take i).map (rowC B))∧e.at 1 = .pimm [.int .i64 B.L,sb,nb] 0∧e.at 2 = .pref 0 0∧e.at 3 = .sref 1 0 n 1∧e.at 5=ov∧e.at 6 = .pref 3 0∧e.at 8 = .int .i64 (i:Int)) _
    ⟨0,stT B,ov, .nils,rfl,Nat.zero_le _,by rw [← hnn];rfl,hT0,ef,ef,ef,ef,ef,by simp only [lk,sv1,sv2,sv3,Nat.reduceEqDiff,Nat.reduceAdd,Nat.reduceLeDiff,reduceIte,if_false,if_true,mkVal,unLV,List.map,optTmps];rfl⟩ ?_
   clear e1 e2 e3 e5 e6 e7 hT0 hie hil hi hbb
   clear e s i ov
   rintro k e s ⟨i,ps,ov,nxv,rfl,hip,hrun,hT,e1,e2,e3,e5,e6,e8⟩
   have hpre:Pre ps (trimR B):=by rw [← hrun];exact runN_pre _ _ _ _
   have hpl:=ai_len hok hpre
   have hRl:=ai_len hok (Pre.refl (trimR B))
   have hol:=hT.od.len
   by_cases hil:i<ps.length
   ·have hiI:(i:Int)<(ps.length:Int):=by omega
    have hwi:IntKind.i64.wrap ((i:Int)+1)=((i+1:Nat):Int):=by rw [wrap_i64 _ (by omega) (by omega)];rfl
    obtain ⟨p,hp⟩:∃ p,ps[i]? = some p:=⟨_,List.getElem?_eq_getElem hil⟩
    have hpR:=pre_get hpre hp
    have hpN:p<n:=by rw [← hnn];exact (trim_ok hok).2.1 p (List.mem_of_getElem? hpR)
    have hrun2:runN (succT B) (n+1 - (i+1)) (i+1) (addsN ps (succT B p))=trimR B:=by
     rw [← hrun,show n+1 - i=(n+1 - (i+1))+1 by omega,run_step hp]
    have hRT:((trimR B).take (i+1)).map (rowC B)=((trimR B).take i).map (rowC B)++[rowC B p]:=by rw [List.take_add_one,hpR];simp
    have hNl:(((trimR B).take i).map (rowC B)).length≤3000:=by simp;omega
    generalize hN0:((trimR B).take i).map (rowC B)=N0 at *
    have hpre2:Pre (addsN ps (succT B p)) (trimR B):=by rw [← hrun2];exact runN_pre _ _ _ _
    repeat' (first | refine gA @hol ?_ | (refine gB @hol ?_;intro bb hbb;cases bb<;>(try simp only [hbs,if_false,reduceCtorEq] at hbb)) | apply qc_seq | fail)
    any_goals (exfalso;omega)
    have hT1:=hT.keep (s':=s.new (.cells .mut [])) (by simp) fun id hu=>by rw [St.get_new,if_neg (by have:=hT.lt hu;omega)]
    have hR1:RW (s.new (.cells .mut [])) (.sref s.n 0 0 1) [] []:=⟨rfl,⟨rfl, .inr ⟨s.n,rfl,by simp,by simp [St.get_new]⟩⟩,fun i hi=>absurd hi (Nat.not_lt_zero _)⟩
    have hD1:∀ id,uses (.sref s.n 0 0 1) id→¬ TU ov stv nxv id:=fun id hu hu'=>by
     have:=uses_sref.1 hu
     have:=hT.lt hu'
     omega
    generalize LV.sref s.n 0 0 1=rv0 at *
    generalize s.new (.cells .mut [])=s1 at *
    have hg1:vb[p]? = some (vb.getD p .top):=hnb.get (by omega)
    obtain ⟨ws,hr⟩:=hnb.row p (by omega)
    have hrow:=hok.2.2.2.2 p (by omega)
    have hip1:∀ s,iaLV 1 nb (.int .i64 (p:Int)) s=some (.pimm vb p,s):=fun s=>by
     have:=iaN (esz:=1) (k:=.i64) (s:=s) (i:=p) hnb.sl (by omega)
     simpa using this
    obtain ⟨Ln,hLt⟩:∃ Ln:Nat,B.L.toNat=Ln:=⟨_,rfl⟩
    generalize hpv:vb.getD p .top=pv at *
    refine qc_loop (fun k e s=>∃ (x:Nat) (ov rv:LV) (cells:List LV),k=Ln - x∧x≤Ln∧TM s B.L n ov stv nxv (addsN ps ((List.range x).flatMap (succA B p))) ST N0∧RW s rv ((List.range x).map fun a=>insL [] (renM (trimR B) (rowM B p a))) cells∧(∀ id,uses rv id→¬ TU ov stv nxv id)∧e.at 1 = .pimm [.int .i64 B.L,sb,nb] 0∧e.at 2 = .pref 0 0∧e.at 3 = .sref 1 0 n 1∧e.at 5=ov∧e.at 6 = .pref 3 0∧e.at 8 = .int .i64 (i:Int)∧e.at 9=rv∧e.at 10 = .int .i64 (x:Int)) _
     ⟨0,ov,rv0,[],rfl,by omega,hT1,hR1,hD1,ef,ef,ef,ef,ef,ef,ef,by simp only [lk,sv1,sv2,sv3,Nat.reduceEqDiff,Nat.reduceAdd,Nat.reduceLeDiff,reduceIte,if_false,if_true,mkVal,unLV,List.map,optTmps];rfl⟩ ?_
    clear e1 e2 e3 e5 e6 e8 hT hT1 hR1 hD1 hbb hol
    clear e s s1 rv0 ov
    rintro k e s ⟨x,ov,rv,cells,rfl,hx,hT,hR,hD,e1,e2,e3,e5,e6,e8,e9,e10⟩
    by_cases hxl:x<Ln
    ·have hxI:(x:Int)<B.L:=by omega
     have hwx:IntKind.i64.wrap ((x:Int)+1)=((x+1:Nat):Int):=by rw [wrap_i64 _ (by omega) (by omega)];rfl
     have hxr:x<(B.next.getD p []).length:=by have:=hrow.1;omega
     have hg2:ws[x]? = some (ws.getD x .top):=hr.get hxr
     have hm':=hr.row x hxr
     have hmo:=hrow.2 x hxr
     have hmsl:=mok_len' hmo
     have hms:(B.next.getD p []).getD x []=rowM B p x:=rfl
     rw [hms] at hm' hmo hmsl
     have hml:=hm'.sl.len
     have hipx:∀ s,iaLV 1 pv (.int .i64 (x:Int)) s=some (.pimm ws x,s):=fun s=>by
      have:=iaN (esz:=1) (k:=.i64) (s:=s) (i:=x) hr.sl (by omega)
      simpa using this
     have hpp:(addsN ps ((List.range x).flatMap (succA B p)))[i]? = some p:=pre_get (addsN_pre _ _) hp
     have hprex:∀ k,Pre (addsN (addsN ps ((List.range x).flatMap (succA B p))) ((succA B p x).take k)) (trimR B):=fun k=>by
      obtain ⟨l2,h2⟩:=suc_split (B:=B) (p:=p) k hxI
      rw [h2] at hpre2
      rw [← addsN_append]
      exact pre_adds.trans hpre2
     have hnext:addsN ps ((List.range (x+1)).flatMap (succA B p))=addsN (addsN ps ((List.range x).flatMap (succA B p))) (succA B p x):=by
      rw [List.range_succ,List.flatMap_append,addsN_append];simp
     have hRT2:((List.range (x+1)).map fun a=>insL [] (renM (trimR B) (rowM B p a)))=((List.range x).map fun a=>insL [] (renM (trimR B) (rowM B p a)))++[insL [] (renM (trimR B) (rowM B p x))]:=by rw [List.range_succ];simp
     have hR0l:((List.range x).map fun a=>insL [] (renM (trimR B) (rowM B p a))).length=x:=by simp
     generalize hpx:addsN ps ((List.range x).flatMap (succA B p))=px at *
     generalize hR0:((List.range x).map fun a=>insL [] (renM (trimR B) (rowM B p a)))=R0 at *
     have hsA:succA B p x=(rowM B p x).map fun m=>m.1.toNat:=rfl
     generalize rowM B p x=ms at *
     have hpxl:i<px.length:=(List.getElem?_eq_some_iff.1 hpp).1
     obtain ⟨jo,rfl,hjl,hjg⟩:=hT.od.pos (by omega)
     have hpn:(nints px)[i]? = some (.int .i64 (p:Int)):=by simp [nints,hpp]
     have hjo2:∀ s,iaLV 1 (.sref jo 0 px.length 1) (.int .i64 (i:Int)) s=some (.pref jo i,s):=fun s=>by
      have:=iaS (esz:=1) (j:=jo) (off:=0) (len:=px.length) (k:=.i64) (s:=s) (i:=i) (by omega)
      simpa using this
     have hjg2:(s.new (.cells .mut [])).get jo=some (.cells .mut (nints px)):=by rw [St.get_new,if_neg (by omega)];exact hjg
     generalize hmv:ws.getD x .top=mv at *
     repeat' (first | refine gA (And.intro @hjo2 (And.intro @hpn (And.intro @hip1 (And.intro @hg1 (And.intro @hipx @hg2))))) ?_ | (refine gB (And.intro @hjo2 (And.intro @hpn (And.intro @hip1 (And.intro @hg1 (And.intro @hipx @hg2))))) ?_;intro bb hbb;cases bb<;>(try simp only [hbs,if_false,reduceCtorEq] at hbb)) | apply qc_seq | fail)
     any_goals (exfalso;omega)
     have hT1:=hT.keep (s':=s.new (.cells .mut [])) (by simp) fun id hu=>by rw [St.get_new,if_neg (by have:=hT.lt hu;omega)]
     have hR1:=hR.keep (s':=s.new (.cells .mut [])) (by simp) fun id hu=>by rw [St.get_new,if_neg (by have:=hR.sk.lt hu;omega)]
     have hV1:=RV.emp s
     have hD2:∀ id,uses (.sref s.n 0 0 2) id→¬ TU (.sref jo 0 px.length 1) stv nxv id∧¬ uses rv id:=fun id hu=>by
      have h1:=uses_sref.1 hu
      exact ⟨fun hu'=>by have:=hT.lt hu';omega,fun hu'=>by have:=hR.sk.lt hu';omega⟩
     clear hT hR hjl hjg hjo2 hjg2 hpn
     generalize LV.sref s.n 0 0 2=w0 at *
     generalize s.new (.cells .mut [])=s1 at *
     generalize LV.sref jo 0 px.length 1=ov at *
     refine qc_loop (fun q e s=>∃ (k:Nat) (ov w:LV) (T:Nat→Prop),q=ms.length - k∧k≤ms.length∧TM s B.L n ov stv nxv (addsN px ((succA B p x).take k)) ST N0∧RW s rv R0 cells∧(∀ id,uses rv id→¬ TU ov stv nxv id)∧RV s w (insL [] (renM (trimR B) (ms.take k))) T∧(∀ id,T id→¬ TU ov stv nxv id∧¬ uses rv id)∧e.at 1 = .pimm [.int .i64 B.L,sb,nb] 0∧e.at 2 = .pref 0 0∧e.at 3 = .sref 1 0 n 1∧e.at 5=ov∧e.at 6 = .pref 3 0∧e.at 8 = .int .i64 (i:Int)∧e.at 9=rv∧e.at 10 = .int .i64 (x:Int)∧e.at 11=w∧e.at 12=mv∧e.at 13 = .int .i64 (k:Int)) _
      ⟨0,ov,w0,_,rfl,by omega,hT1,hR1,hD,hV1,hD2,ef,ef,ef,ef,ef,ef,ef,ef,ef,ef,by simp only [lk,sv1,sv2,sv3,Nat.reduceEqDiff,Nat.reduceAdd,Nat.reduceLeDiff,reduceIte,if_false,if_true,mkVal,unLV,List.map,optTmps];rfl⟩ ?_
     clear e1 e2 e3 e5 e6 e8 e9 e10 hT1 hR1 hD hV1 hD2 hbb
     clear e s s1 w0 ov
     rintro q e s ⟨k,ov,w,T,rfl,hk,hT,hR,hD,hV,hD2,e1,e2,e3,e5,e6,e8,e9,e10,e11,e12,e13⟩
     by_cases hkl:k<ms.length
     ·have hkI:(k:Int)<(ms.length:Int):=by omega
      have hwk:IntKind.i64.wrap ((k:Int)+1)=((k+1:Nat):Int):=by rw [wrap_i64 _ (by omega) (by omega)];rfl
      have hmr:=hmo k hkl
      obtain ⟨md,hmd2⟩:∃ md,ms[k]? = some md:=⟨_,List.getElem?_eq_getElem hkl⟩
      have hgd:ms.getD k (0,false)=md:=by rw [List.getD_eq_getElem?_getD,hmd2];rfl
      rw [hgd] at hmr
      have lm:=mcells_get0 hkl
      have lb:=mcells_get1 hkl
      rw [hgd] at lm lb
      obtain ⟨mt,mg⟩:=md
      simp only at hmr lm lb
      obtain ⟨q,rfl⟩:∃ q:Nat,mt=(q:Int):=⟨mt.toNat,by omega⟩
      have hqn:q<n:=by omega
      have hlm:∀ t:St,loadLV none (.pimm (mcells ms) (k*2+0)) t=some (.int .i64 (q:Int)):=fun t=>load_imm lm
      have hlg:∀ t:St,loadLV none (.pimm (mcells ms) (k*2+1)) t=some (.bool mg):=fun t=>load_imm lb
      have hsk:(succA B p x)[k]? = some q:=by rw [hsA,List.getElem?_map,hmd2];simp
      have htk:addsN px ((succA B p x).take (k+1))=addN (addsN px ((succA B p x).take k)) q:=by
       rw [List.take_add_one,hsk,Option.toList_some,addsN_snoc]
      have hpk1:=hprex (k+1)
      rw [htk] at hpk1
      have hpkl:=ai_len hok hpk1
      have hnum:numN (addN (addsN px ((succA B p x).take k)) q) q=numN (trimR B) q:=(numN_pre hpk1 (addN_mem _ _)).symm
      have hrk:insL [] (renM (trimR B) (ms.take (k+1)))=insM (insL [] (renM (trimR B) (ms.take k))) ((numN (trimR B) q:Int),mg):=by
       rw [List.take_add_one,hmd2,Option.toList_some]
       unfold renM
       rw [List.map_append,List.map_cons,List.map_nil,insL_snoc,Int.toNat_natCast]
      have hrl3:(insL [] (renM (trimR B) (ms.take k))).length≤100000:=by
       have h1:=insL_len (l:=renM (trimR B) (ms.take k)) (ms:=[])
       have h2:(renM (trimR B) (ms.take k)).length=k:=by simp [renM];omega
       rw [h2] at h1
       simp only [List.length_nil] at h1
       omega
      have hlt:numN (trimR B) q<3000:=by
       have:=numN_lt (hpk1.mem (addN_mem _ _))
       omega
      have hpl2:(addsN px ((succA B p x).take k)).length≤3000:=by
       have:=pre_len (addN_pre (addsN px ((succA B p x).take k)) q)
       omega
      have hiq:∀ s,iaLV 1 (.sref 1 0 n 1) (.int .i64 (q:Int)) s=some (.pref 1 q,s):=fun s=>by
       have:=iaS (esz:=1) (j:=1) (off:=0) (k:=.i64) (s:=s) (show (q:Int)<(n:Int) by omega)
       simpa using this
      clear hmr hgd lm lb hsk
      generalize hpk:addsN px ((succA B p x).take k)=pk at *
      generalize insL [] (renM (trimR B) (ms.take k))=rk at *
      have g1:=hT.pl
      by_cases hq:q∈pk
      ·have hpq:plf pk q=(numN (trimR B) q:Int):=by
        rw [← hnum]
        unfold plf addN
        rw [if_pos hq,if_pos hq]
       have hgq:(zc n (plf pk))[q]? = some (.int .i64 (numN (trimR B) q:Int)):=by rw [zc_get hqn,hpq]
       have hadd:addN pk q=pk:=by unfold addN;rw [if_pos hq]
       rw [hadd] at htk
       clear hnum hpk1 hadd hpq
       generalize numN (trimR B) q=u at *
       repeat' (first | refine gA (And.intro @hml (And.intro (@iaN _ _ _ hm'.sl) (And.intro @hlm (And.intro @hlg (And.intro @hiq @hgq))))) ?_ | (refine gB (And.intro @hml (And.intro (@iaN _ _ _ hm'.sl) (And.intro @hlm (And.intro @hlg (And.intro @hiq @hgq))))) ?_;intro bb hbb;cases bb<;>(try simp only [hbs,if_false,reduceCtorEq] at hbb)) | apply qc_seq | fail)
       any_goals (exfalso;omega)
       refine q_gen (v:=.agg [.int .i64 (u:Int), .bool mg]) (s':=s) wN (by simp only [LOp.run,lk,sv1,sv2,sv3,Nat.reduceEqDiff,Nat.reduceAdd,Nat.reduceLeDiff,reduceIte,if_false,if_true,mkVal,unLV,List.map,optTmps,evParts,fillParts];rfl) rfl trivial ?_
       simp only [Env.put_some]
       refine q_insert (m:=((u:Int),mg)) hV (by unfold inI64;simp only;omega) hrl3 (by simp only [List.map,lk,sv1,sv2,sv3,Nat.reduceEqDiff,Nat.reduceAdd,Nat.reduceLeDiff,reduceIte,if_false,if_true,mkVal,unLV,List.map,optTmps]) (fun r s' f1 f2 f3=>?_)
       have hT3:=hT.keep (s':=s') (by rw [f2];exact Nat.le_refl _) fun id hu=>f3 id fun ht=>(hD2 id ht).1 hu
       have hR3:=hR.keep (s':=s') (by rw [f2];exact Nat.le_refl _) fun id hu=>f3 id fun ht=>(hD2 id ht).2 hu
       have hV3:=RV.val f1 s'
       clear hT hR hV hD2 f1 f2 f3
       repeat' (first | refine gA trivial ?_ | (refine gB trivial ?_;intro bb hbb;cases bb<;>(try simp only [hbs,if_false,reduceCtorEq] at hbb)) | apply qc_seq | fail)
       exact ⟨ms.length - (k+1),by omega,k+1,_,r,fun _=>False,rfl,by omega,by rw [htk];exact hT3,hR3,hD,by rw [hrk];exact hV3,fun id ht=>ht.elim,ef,ef,ef,ef,ef,ef,ef,ef,ef,ef,ef⟩
      ·have hgq:(zc n (plf pk))[q]? = some (.int .i64 (-1)):=by
        rw [zc_get hqn];unfold plf;rw [if_neg hq]
       obtain ⟨hadd,hnl⟩:=numN_new hq
       rw [hadd] at htk
       have hol:=hT.od.len
       repeat' (first | refine gA (And.intro @hml (And.intro (@iaN _ _ _ hm'.sl) (And.intro @hlm (And.intro @hlg (And.intro @hiq (And.intro @hgq @hol)))))) ?_ | (refine gB (And.intro @hml (And.intro (@iaN _ _ _ hm'.sl) (And.intro @hlm (And.intro @hlg (And.intro @hiq (And.intro @hgq @hol)))))) ?_;intro bb hbb;cases bb<;>(try simp only [hbs,if_false,reduceCtorEq] at hbb)) | apply qc_seq | fail)
       any_goals (exfalso;omega)
       refine q_storeG (i:=1) (o:=q) (n:=1) (cs:=zc n (plf pk)) (vs:=[.int .i64 (pk.length:Int)]) (cs':=(zc n (plf pk)).set q (.int .i64 (pk.length:Int))) (v:=.int .i64 (pk.length:Int)) ef ef rfl g1 rfl (by rw [zc_length];omega) rfl ?_
       rw [zc_set hqn,plf_add hq]
       have hod:SkE (s.put 1 (.cells .mut (zc n (plf (pk++[q]))))) ov 1 (nints pk) pk.length:=hT.od.mono (by rw [St.n_put];exact Nat.le_refl _) fun id hu=>by rw [St.get_put,if_neg (hT.oo id hu).2]
       obtain ⟨s2,hs2⟩:∃ s2,s2=s.put 1 (.cells .mut (zc n (plf (pk++[q])))):=⟨_,rfl⟩
       have n2:s2.n=s.n:=by rw [hs2,St.n_put]
       have o2:∀ id,id≠1→s2.get id=s.get id:=fun id hid=>by rw [hs2,St.get_put,if_neg hid]
       have hne1:∀ id,¬ TU ov stv nxv id→id≠1:=fun id h1 h2=>h1 (.inr (.inl h2))
       rw [← hs2] at hod ⊢
       replace hs2:Bx (s2=s.put 1 (.cells .mut (zc n (plf (pk++[q]))))):=⟨hs2⟩
       clear g1
       repeat' (first | refine gA (And.intro @hml (And.intro (@iaN _ _ _ hm'.sl) @hlm)) ?_ | (refine gB (And.intro @hml (And.intro (@iaN _ _ _ hm'.sl) @hlm)) ?_;intro bb hbb;cases bb<;>(try simp only [hbs,if_false,reduceCtorEq] at hbb)) | apply qc_seq | fail)
       refine q_appEk (n:=pk.length) (esz:=1) (xv:=.int .i64 (q:Int)) (yv:=ov) (vs:=[.int .i64 (q:Int)]) ef rfl rfl rfl rfl ef hod trivial (by decide) (by omega) (fun s3 j3 a1 a2 a3 a4=>?_)
       have hT2:=hT.add hq hs2.out a1 a2 a3 a4
       have hR2:=hR.keep (s':=s3) (by omega) fun id hu=>by
        rw [a4 id (by rw [n2];exact hR.sk.lt hu) fun hu'=>hD id hu (.inr (.inr hu')),o2 id (hne1 id (hD id hu))]
       have hV2:=hV.keep (s':=s3) (by omega) fun id ht=>by
        rw [a4 id (by rw [n2];exact hV.lt id ht) fun hu'=>(hD2 id ht).1 (.inr (.inr hu')),o2 id (hne1 id (hD2 id ht).1)]
       have hup:∀ id,id<s2.n→¬ TU ov stv nxv id→¬ TU (.sref j3 0 (pk.length+1) 1) stv nxv id:=fun id hid hu=>by
        rintro (h1 | h1 | h1)
        ·exact hu (.inl h1)
        ·exact hu (.inr (.inl h1))
        ·have:=uses_sref.1 h1;omega
       replace hD:∀ id,uses rv id→¬ TU (.sref j3 0 (pk.length+1) 1) stv nxv id:=fun id hu=>hup id (by rw [n2];exact hR.sk.lt hu) (hD id hu)
       replace hD2:∀ id,T id→¬ TU (.sref j3 0 (pk.length+1) 1) stv nxv id∧¬ uses rv id:=fun id ht=>⟨hup id (by rw [n2];exact hV.lt id ht) (hD2 id ht).1,(hD2 id ht).2⟩
       have hgq2:(zc n (plf (pk++[q])))[q]? = some (.int .i64 (numN (trimR B) q:Int)):=by
        rw [zc_get hqn];unfold plf;rw [if_pos (by simp),← hadd,hnum]
       clear hT hR hV hod hs2 n2 o2 hne1 hup a1 a2 a3 a4 hgq hol hnl hadd hpk1 hnum
       have hT:=hT2
       have hR:=hR2
       have hV:=hV2
       clear hT2 hR2 hV2
       generalize LV.sref j3 0 (pk.length+1) 1=ov2 at *
       generalize pk++[q]=pk2 at *
       generalize numN (trimR B) q=u at *
       have g1:=hT.pl
       repeat' (first | refine gA (And.intro @hml (And.intro (@iaN _ _ _ hm'.sl) (And.intro @hlm (And.intro @hlg (And.intro @hiq @hgq2))))) ?_ | (refine gB (And.intro @hml (And.intro (@iaN _ _ _ hm'.sl) (And.intro @hlm (And.intro @hlg (And.intro @hiq @hgq2))))) ?_;intro bb hbb;cases bb<;>(try simp only [hbs,if_false,reduceCtorEq] at hbb)) | apply qc_seq | fail)
       refine q_gen (v:=.agg [.int .i64 (u:Int), .bool mg]) (s':=s3) wN (by simp only [LOp.run,lk,sv1,sv2,sv3,Nat.reduceEqDiff,Nat.reduceAdd,Nat.reduceLeDiff,reduceIte,if_false,if_true,mkVal,unLV,List.map,optTmps,evParts,fillParts];rfl) rfl trivial ?_
       simp only [Env.put_some]
       refine q_insert (m:=((u:Int),mg)) hV (by unfold inI64;simp only;omega) hrl3 (by simp only [List.map,lk,sv1,sv2,sv3,Nat.reduceEqDiff,Nat.reduceAdd,Nat.reduceLeDiff,reduceIte,if_false,if_true,mkVal,unLV,List.map,optTmps]) (fun r s' f1 f2 f3=>?_)
       have hT3:=hT.keep (s':=s') (by rw [f2];exact Nat.le_refl _) fun id hu=>f3 id fun ht=>(hD2 id ht).1 hu
       have hR3:=hR.keep (s':=s') (by rw [f2];exact Nat.le_refl _) fun id hu=>f3 id fun ht=>(hD2 id ht).2 hu
       have hV3:=RV.val f1 s'
       clear hT hR hV hD2 f1 f2 f3
       repeat' (first | refine gA trivial ?_ | (refine gB trivial ?_;intro bb hbb;cases bb<;>(try simp only [hbs,if_false,reduceCtorEq] at hbb)) | apply qc_seq | fail)
       exact ⟨ms.length - (k+1),by omega,k+1,_,r,fun _=>False,rfl,by omega,by rw [htk];exact hT3,hR3,hD,by rw [hrk];exact hV3,fun id ht=>ht.elim,ef,ef,ef,ef,ef,ef,ef,ef,ef,ef,ef⟩
     ·have hke:k=ms.length:=by omega
      have hsl:(succA B p x).take k=succA B p x:=by rw [hke,hsA,← List.length_map (f:=fun m:Int × Bool=>m.1.toNat),List.take_length]
      have hml2:ms.take k=ms:=by rw [hke,List.take_length]
      rw [hsl,← hnext] at hT
      rw [hml2] at hV
      repeat' (first | refine gA @hml ?_ | (refine gB @hml ?_;intro bb hbb;cases bb<;>(try simp only [hbs,if_false,reduceCtorEq] at hbb)) | apply qc_seq | fail)
      any_goals (exfalso;omega)
      refine q_appFE (n:=R0.length) (xv:=w) (yv:=rv) ef (cells_cell hV.cell) ef hR.sk hV.fz (fun id ht=>⟨hV.lt id ht,(hD2 id ht).2⟩) (by decide) (by omega) (fun s5 j5 v5 a1 a2 a3 a4 a5=>?_)
      have hT2:=hT.keep a4 fun id hu=>a5 id (hT.lt hu) (fun hu'=>hD id hu' hu) fun ht=>(hD2 id ht).1 hu
      have hR2:=hR.app a2 a3
      have hD3:∀ id,uses (.sref j5 0 (R0.length+1) 1) id→¬ TU ov stv nxv id:=fun id hu hu'=>by
       have h1:=uses_sref.1 hu
       have:=hT.lt hu'
       omega
      clear hT hR hV hD2 hD a1 a2 a3 a4 a5
      repeat' (first | refine gA trivial ?_ | (refine gB trivial ?_;intro bb hbb;cases bb<;>(try simp only [hbs,if_false,reduceCtorEq] at hbb)) | apply qc_seq | fail)
      exact ⟨Ln - (x+1),by omega,x+1,_,_,_,rfl,by omega,hT2,by rw [hRT2];exact hR2,hD3,ef,ef,ef,ef,ef,ef,ef,ef⟩
    ·have hxe:x=Ln:=by omega
     have hRC:((List.range x).map fun a=>insL [] (renM (trimR B) (rowM B p a)))=rowC B p:=by unfold rowC;rw [hLt,hxe]
     have hAC:addsN ps ((List.range x).flatMap (succA B p))=addsN ps (succT B p):=by unfold succT;rw [hLt,hxe]
     rw [hAC] at hT
     rw [hRC] at hR
     have g1:=hT.ob.g1
     repeat' (first | refine gA trivial ?_ | (refine gB trivial ?_;intro bb hbb;cases bb<;>(try simp only [hbs,if_false,reduceCtorEq] at hbb)) | apply qc_seq | fail)
     any_goals (exfalso;omega)
     obtain ⟨rvs,r1,r2,r3⟩:=hT.ob.rows
     have hrl2:(rowC B p).length=Ln:=by simp [rowC,hLt]
     have hFz:=hR.fz (by omega)
     refine q_appFE (n:=N0.length) (xv:=rv) (yv:=nxv) ef (cells_cell hR.sk.cell) ef r2 hFz (fun id hu=>⟨hR.sk.lt hu,fun hu'=>hD id hu (.inl (.inr (.inr (.inr hu'))))⟩) (by decide) (by omega) (fun s5 j5 v5 a1 a2 a3 a4 a5=>?_)
     have hT2:=hT.row (T:=uses rv) hD r1 r3 a2 a1 a3 a4 a5
     have k3:s5.get 3=some (.cells .mut [.int .i64 B.L,stv,nxv]):=by
      rw [a5 3 hT.ob.on (fun hu=>by have:=hT.ob.lo 3 (.inr hu);omega) fun hu=>hD 3 hu (.inl (.inr (.inl rfl)))];exact g1
     clear hT hR hFz hD a1 a2 a3 a4 a5 r2 r3 g1
     repeat' (first | refine gA trivial ?_ | (refine gB trivial ?_;intro bb hbb;cases bb<;>(try simp only [hbs,if_false,reduceCtorEq] at hbb)) | apply qc_seq | fail)
     have hpw:i+1≤(addsN ps (succT B p)).length:=by have:=pre_len (addsN_pre (succT B p) ps);omega
     exact ⟨n+1 - (i+1),by omega,i+1,_,_,_,rfl,hpw,hrun2,by rw [hRT];exact hT2,ef,ef,ef,ef,ef,ef⟩
   ·have hie:i=ps.length:=by omega
    have hps:ps=trimR B:=by rw [← hrun];exact (run_end (by omega)).symm
    have g1:=hT.ob.g1
    have hcs:=hT.ob.ss.cell
    have hcn:isCell nxv=true:=by
     obtain ⟨rvs,r1,r2,r3⟩:=hT.ob.rows
     exact r2.cell
    have g0n:=hT.ob.g0
    have hfin:∀ S:St,(∀ id,id≠0→S.get id=s.get id)→∃ r s',frz frzDepth (.agg [.int .i64 B.L,stv,nxv]) S=some (r,s')∧r.closed=true∧TrimA B r:=fun S hS=>by
     have hlo:=hT.ob.lo
     have hEC:OB s 3 (trimC B).L stv nxv (trimC B).start (trimC B).next:=by
      have h1:(trimC B).L=B.L:=rfl
      have h2:(trimC B).start=ST:=hST.out
      have h3:(trimC B).next=((trimR B).take i).map (rowC B):=by
       rw [hie,hps,List.take_length];rfl
      rw [h1,h2,h3]
      exact hT.ob
     have hz1:(trimC B).start.length=B.start.length:=by simp [trimC]
     have hz2:(trimC B).next.length=(trimR B).length:=by simp [trimC]
     obtain ⟨r,s',sv',nv',a1,a2⟩:=hEC.fz (by omega) (by omega) (fun x hx=>by
      obtain ⟨z,hz,rfl⟩:=List.mem_map.1 (show x∈B.start.map fun z=>(numN (trimR B) z.toNat:Int) from hx)
      have hzm:z.toNat∈trimR B:=(stT_pre B B.start.length).mem (by
       rw [List.take_length]
       exact addsN_mem (List.mem_map_of_mem hz))
      have:=numN_lt hzm
      show inI64 ((numN (trimR B) z.toNat:Nat):Int)
      unfold inI64
      constructor<;>omega) (S:=S) fun id hu=>hS id (by have:=hlo id hu;omega)
     rw [show (trimC B).L=B.L from rfl] at a1
     exact ⟨r,s',a1,a2.closed, .inr ⟨hok,sv',nv',a2⟩⟩
    clear hT
    repeat' (first | refine gA @hol ?_ | (refine gB @hol ?_;intro bb hbb;cases bb<;>(try simp only [hbs,if_false,reduceCtorEq] at hbb)) | apply qc_seq | fail)
    any_goals (exfalso;omega)
    exact ⟨.inr trivial, .agg [.int .i64 B.L,stv,nxv],by simp [resVal,resOne,mkVal,lk,St.get_put,e2],hfin _ (fun id hid=>by rw [St.get_put,if_neg hid])⟩
end Go.Proofs.YtgobbogomchnhaaGreatDoor
end
section
set_option linter.unusedSimpArgs false
set_option linter.unusedVariables false
set_option maxRecDepth 100000
namespace Go.Proofs.YtgobbogomchnhaaGreatDoor
open Go Go.Pv
open Classical
def EithA (A B:Bu) (r:LV):Prop:=(¬ (Vb A∧Vb B∧A.L=B.L)∧r = .agg [.int .i64 0, .nils, .nils])∨((Vb A∧Vb B∧A.L=B.L)∧∃ sv nv,IsB r (eiB A B) sv nv)
set_option maxHeartbeats 16000000 in
theorem reith_ok {vA vB:LV} {A B:Bu} {sa na sb nb:LV} (hA:IsB vA A sa na) (hB:IsB vB B sb nb) (hs:A.next.length+B.next.length≤3000) :
  PE 13 [vA,vB] (EithA A B):=by
 have hcA:=hA.closed
 have hcB:=hB.closed
 have hbA:=rbvalid_ok hA
 have hbB:=rbvalid_ok hB
 obtain ⟨rfl,hsa,va,hna⟩:=hA
 obtain ⟨rfl,hsb,vb,hnb⟩:=hB
 have ca1:=hsa.sl.cell
 have ca2:=hna.sl.cell
 have cb1:=hsb.sl.cell
 have cb2:=hnb.sl.cell
 have hla:=hna.sl.len
 have hlb:=hnb.sl.len
 have hlsb:=hsb.sl.len
 have hw:IntKind.i64.wrap ((A.next.length:Int)+(B.next.length:Int))=(A.next.length:Int)+(B.next.length:Int):=wrap_i64 _ (by omega) (by omega)
 refine q_fnExR Tryz.func13 (by decide +kernel) c13 (Nat.le_of_ble_eq_true rfl) (by simp only [LV.closed.closedAll,hcA,hcB,Bool.and_self]) ?_
 have e0:(envOf [LV.agg [.int .i64 A.L,sa,na], .agg [.int .i64 B.L,sb,nb]]).at 0 = .agg [.int .i64 A.L,sa,na]:=by rw [envOf_at];rfl
 have e1:(envOf [LV.agg [.int .i64 A.L,sa,na], .agg [.int .i64 B.L,sb,nb]]).at 1 = .agg [.int .i64 B.L,sb,nb]:=by rw [envOf_at];rfl
 generalize envOf [LV.agg [.int .i64 A.L,sa,na], .agg [.int .i64 B.L,sb,nb]]=e at *
 unfold l13
 dsimp only [jA,jB,jC,jG,jH,qM,qL,qN,qF,qS,qI,qA,qB,qC,qO,qP,qG,qm,ql]
 repeat' (first | refine gA (And.intro @hla @hlb) ?_ | (refine gB (And.intro @hla @hlb) ?_;intro bb hbb;cases bb<;>(try simp only [hbs,if_false,reduceCtorEq] at hbb)) | apply qc_seq | fail)
 refine q_pureB hG0 (hbA) (by first | exact wN | (apply wG;(simp only [lk,Nat.reduceEqDiff,reduceIte,e0,e1];(try rfl);done))) (by simp only [List.map,lk,Nat.reduceEqDiff,reduceIte,e0,e1];try rfl) (fun bb hbb=>⟨by first | trivial | (simp only [Chks,wantedG,LOp.run,Env.put_some,Env.put_none,lk,sv1,sv2,sv3,Nat.reduceEqDiff,Nat.reduceAdd,Nat.reduceLeDiff,reduceIte,if_false,if_true,mkVal,unLV,List.map,optTmps,beq_self_eq_true,reduceCtorEq,false_or,true_and,and_true,Option.some.injEq, *];done),?_⟩)
 simp only [Env.put_some]
 cases bb<;>simp only [decide_eq_true_eq,decide_eq_false_iff_not] at hbb
 ·repeat' (first | refine gA (And.intro @hla @hlb) ?_ | (refine gB (And.intro @hla @hlb) ?_;intro bb hbb;cases bb<;>(try simp only [hbs,if_false,reduceCtorEq] at hbb)) | apply qc_seq | fail)
  refine q_run0 (v:=.agg [.int .i64 0, .nils, .nils]) (by simp only [LOp.run,lk,sv1,sv2,sv3,Nat.reduceEqDiff,Nat.reduceAdd,Nat.reduceLeDiff,reduceIte,if_false,if_true,mkVal,unLV,List.map,optTmps,evParts,fillParts];rfl) ?_
  repeat' (first | refine gA trivial ?_ | (refine gB trivial ?_;intro bb hbb;cases bb<;>(try simp only [hbs,if_false,reduceCtorEq] at hbb)) | apply qc_seq | fail)
  exact ⟨.inr trivial, .agg [.int .i64 0, .nils, .nils],by simp [resVal,resOne,mkVal,lk,St.get_put],_,_,frzD_closed rfl,rfl, .inl ⟨fun h=>hbb h.1,rfl⟩⟩
 have okA:=hbb
 clear hbb hbA
 repeat' (first | refine gA (And.intro @hla @hlb) ?_ | (refine gB (And.intro @hla @hlb) ?_;intro bb hbb;cases bb<;>(try simp only [hbs,if_false,reduceCtorEq] at hbb)) | apply qc_seq | fail)
 refine q_pureB hG0 (hbB) (by first | exact wN | (apply wG;(simp only [lk,Nat.reduceEqDiff,reduceIte,e0,e1];(try rfl);done))) (by simp only [List.map,lk,Nat.reduceEqDiff,reduceIte,e0,e1];try rfl) (fun bb hbb=>⟨by first | trivial | (simp only [Chks,wantedG,LOp.run,Env.put_some,Env.put_none,lk,sv1,sv2,sv3,Nat.reduceEqDiff,Nat.reduceAdd,Nat.reduceLeDiff,reduceIte,if_false,if_true,mkVal,unLV,List.map,optTmps,beq_self_eq_true,reduceCtorEq,false_or,true_and,and_true,Option.some.injEq, *];done),?_⟩)
 simp only [Env.put_some]
 cases bb<;>simp only [decide_eq_true_eq,decide_eq_false_iff_not] at hbb
 ·repeat' (first | refine gA (And.intro @hla @hlb) ?_ | (refine gB (And.intro @hla @hlb) ?_;intro bb hbb;cases bb<;>(try simp only [hbs,if_false,reduceCtorEq] at hbb)) | apply qc_seq | fail)
  refine q_run0 (v:=.agg [.int .i64 0, .nils, .nils]) (by simp only [LOp.run,lk,sv1,sv2,sv3,Nat.reduceEqDiff,Nat.reduceAdd,Nat.reduceLeDiff,reduceIte,if_false,if_true,mkVal,unLV,List.map,optTmps,evParts,fillParts];rfl) ?_
  repeat' (first | refine gA trivial ?_ | (refine gB trivial ?_;intro bb hbb;cases bb<;>(try simp only [hbs,if_false,reduceCtorEq] at hbb)) | apply qc_seq | fail)
  exact ⟨.inr trivial, .agg [.int .i64 0, .nils, .nils],by simp [resVal,resOne,mkVal,lk,St.get_put],_,_,frzD_closed rfl,rfl, .inl ⟨fun h=>hbb h.2.1,rfl⟩⟩
 have okB:=hbb
 clear hbb hbB
 repeat' (first | refine gA (And.intro @hla (And.intro @hlb @hw)) ?_ | (refine gB (And.intro @hla (And.intro @hlb @hw)) ?_;intro bb hbb;cases bb<;>(try simp only [hbs,if_false,reduceCtorEq] at hbb)) | apply qc_seq | fail)
 rotate_left
 ·refine q_run0 (v:=.agg [.int .i64 0, .nils, .nils]) (by simp only [LOp.run,lk,sv1,sv2,sv3,Nat.reduceEqDiff,Nat.reduceAdd,Nat.reduceLeDiff,reduceIte,if_false,if_true,mkVal,unLV,List.map,optTmps,evParts,fillParts];rfl) ?_
  exfalso;omega
 ·refine q_run0 (v:=.agg [.int .i64 0, .nils, .nils]) (by simp only [LOp.run,lk,sv1,sv2,sv3,Nat.reduceEqDiff,Nat.reduceAdd,Nat.reduceLeDiff,reduceIte,if_false,if_true,mkVal,unLV,List.map,optTmps,evParts,fillParts];rfl) ?_
  repeat' (first | refine gA trivial ?_ | (refine gB trivial ?_;intro bb hbb;cases bb<;>(try simp only [hbs,if_false,reduceCtorEq] at hbb)) | apply qc_seq | fail)
  exact ⟨.inr trivial, .agg [.int .i64 0, .nils, .nils],by simp [resVal,resOne,mkVal,lk,St.get_put],_,_,frzD_closed rfl,rfl, .inl ⟨fun h=>absurd h.2.2 (by assumption),rfl⟩⟩
 have hLL:A.L=B.L:=by assumption
 have hst1:=start_len okA
 have hst2:=start_len okB
 generalize hs1:St.empty.new (.cells .mut [.int .i64 0, .nils, .nils])=s1
 have n1:s1.n=1:=by rw [← hs1];rfl
 have g0:s1.get 0=some (.cells .mut [.int .i64 0, .nils, .nils]):=by rw [← hs1,St.get_new];rfl
 clear hs1
 refine q_bs0k n1 ⟨chk_ld (p:=.pimm [.int .i64 A.L,sa,na] 0) (v:=.int .i64 A.L) ef rfl ef,trivial⟩ ?_
 repeat' (first | refine gA (And.intro @hla @hlb) ?_ | (refine gB (And.intro @hla @hlb) ?_;intro bb hbb;cases bb<;>(try simp only [hbs,if_false,reduceCtorEq] at hbb)) | apply qc_seq | fail)
 refine q_bs0k (m:=2) (by rw [St.n_new,n1]) ⟨chk_ld (p:=.pimm [.int .i64 A.L,sa,na] 0) (v:=.int .i64 A.L) ef rfl ef,chk_ld (p:=.pimm [.int .i64 A.L,sa,na] 1) (v:=sa) ef rfl ef,trivial⟩ ?_
 repeat' (first | refine gA (And.intro @hla @hlb) ?_ | (refine gB (And.intro @hla @hlb) ?_;intro bb hbb;cases bb<;>(try simp only [hbs,if_false,reduceCtorEq] at hbb)) | apply qc_seq | fail)
 refine q_alk (m:=3) (by rw [St.n_new,St.n_new,n1]) ⟨chk_ld (p:=.pimm [.int .i64 A.L,sa,na] 0) (v:=.int .i64 A.L) ef rfl ef,chk_ld (p:=.pimm [.int .i64 A.L,sa,na] 1) (v:=sa) ef rfl ef,chk_ld (p:=.pimm [.int .i64 A.L,sa,na] 2) (v:=na) ef rfl ef,trivial⟩ ?_
 generalize hs4:((s1.new (.cells .mut [])).new (.cells .mut [])).new (.cells .mut [.int .i64 0, .nils, .nils])=s4
 have n4:s4.n=4:=by rw [← hs4];simp [n1]
 have k0:s4.get 0=some (.cells .mut [.int .i64 0, .nils, .nils]):=by rw [← hs4];simp [St.get_new,n1,g0]
 have k1:s4.get 1=some (.cells .mut []):=by rw [← hs4];simp [St.get_new,n1]
 have k2:s4.get 2=some (.cells .mut []):=by rw [← hs4];simp [St.get_new,n1]
 have k3:s4.get 3=some (.cells .mut [.int .i64 0, .nils, .nils]):=by rw [← hs4];simp [St.get_new,n1]
 clear hs4 g0 n1
 clear s1
 have hn3:=okA.2.2.1
 refine q_appSb (j:=1) (a:=0) (n:=A.start.length) (A:=[]) (cells:=ints A.start) (yv:=sa) ef k1 rfl ef hsa.sl (ints_cl' _) (by simp [ints]) (by decide) (by omega) (fun s' _ _=>⟨chk_ld (p:=.pimm [.int .i64 A.L,sa,na] 0) (v:=.int .i64 A.L) ef rfl ef,chk_ld (p:=.pimm [.int .i64 A.L,sa,na] 2) (v:=na) ef rfl ef,trivial⟩) (fun s5 m1 m2 m3=>?_)
 rw [n4] at m1 m2 m3 ⊢
 have k2':s5.get 2=some (.cells .mut []):=by rw [m3 2 (by omega) (by omega)];exact k2
 refine q_appSb (j:=2) (a:=0) (n:=A.next.length) (A:=[]) (cells:=va) (yv:=na) ef k2' rfl ef hna.sl (closedAll_of fun i hi=>(hna.row i (by have:=hna.vlen;omega)).closed) hna.vlen (by decide) (by omega) (fun s' _ _=>⟨chk_ld (p:=.pimm [.int .i64 A.L,sa,na] 0) (v:=.int .i64 A.L) ef rfl ef,trivial⟩) (fun s6 m4 m5 m6=>?_)
 rw [m1] at m4 m5 m6 ⊢
 have i0:s6.get 0=some (.cells .mut [.int .i64 0, .nils, .nils]):=by rw [m6 0 (by omega) (by omega),m3 0 (by omega) (by omega)];exact k0
 have i3:s6.get 3=some (.cells .mut [.int .i64 0, .nils, .nils]):=by rw [m6 3 (by omega) (by omega),m3 3 (by omega) (by omega)];exact k3
 have i4:s6.get 4=some (.cells .mut (ints A.start)):=by rw [m6 4 (by omega) (by omega),m2];rfl
 have i5:s6.get 5=some (.cells .mut va):=by rw [m5];rfl
 clear m2 m3 m5 m6 k0 k1 k2 k3 k2' n4 m1
 clear s4 s5
 refine q_gen (v:=.agg [.int .i64 A.L, .sref 4 0 (0+A.start.length) 1, .sref 5 0 (0+A.next.length) 1]) (s':=s6) wN (by simp only [LOp.run,lk,sv1,sv2,sv3,Nat.reduceEqDiff,Nat.reduceAdd,Nat.reduceLeDiff,reduceIte,if_false,if_true,mkVal,unLV,List.map,optTmps,evParts,fillParts];rfl) rfl trivial ?_
 simp only [Env.put_some]
 refine q_storeG (i:=3) (o:=0) (n:=3) (cs:=[.int .i64 0, .nils, .nils]) (vs:=[.int .i64 A.L, .sref 4 0 A.start.length 1, .sref 5 0 A.next.length 1]) (cs':=[.int .i64 A.L, .sref 4 0 A.start.length 1, .sref 5 0 A.next.length 1]) (v:=.agg [.int .i64 A.L, .sref 4 0 A.start.length 1, .sref 5 0 A.next.length 1]) ef (by simp only [lk,sv1,sv2,sv3,Nat.reduceEqDiff,Nat.reduceAdd,Nat.reduceLeDiff,reduceIte,if_false,if_true,mkVal,unLV,List.map,optTmps,Nat.zero_add]) rfl i3 rfl (by decide) rfl ?_
 have hE0:OB (s6.put 3 (.cells .mut [.int .i64 A.L, .sref 4 0 A.start.length 1, .sref 5 0 A.next.length 1])) 3 A.L (.sref 4 0 A.start.length 1) (.sref 5 0 A.next.length 1) A.start A.next:=by
  refine ⟨by omega,by rw [St.n_put];omega,by rw [St.get_put,if_neg (by omega)];exact i0,by rw [St.get_put,if_pos rfl],⟨by simp [ints], .inr ⟨4,rfl,by rw [St.n_put];omega,by rw [St.get_put,if_neg (by omega)];exact i4⟩⟩,⟨va,hna.vlen,⟨by rw [hna.vlen];omega, .inr ⟨5,rfl,by rw [St.n_put];omega,by rw [St.get_put,if_neg (by omega)];exact i5⟩⟩,hna.row⟩,?_,?_⟩
  ·rintro id (hu | hu)
   ·have:=uses_sref.1 hu;omega
   ·have:=uses_sref.1 hu;omega
  ·intro id hu hu'
   have:=uses_sref.1 hu
   have:=uses_sref.1 hu'
   omega
 rw [hLL] at hE0 ⊢
 generalize s6.put 3 (.cells .mut [.int .i64 B.L, .sref 4 0 A.start.length 1, .sref 5 0 A.next.length 1])=s7 at *
 clear i0 i3 i4 i5 m4
 clear s6
 generalize hnn:A.next.length=n at *
 have hlen0:A.start.length≤3000:=by omega
 generalize (LV.sref 4 0 A.start.length 1)=stv0 at *
 generalize (LV.sref 5 0 n 1)=nxv0 at *
 have hB3:=okB.2.2.1
 repeat' (first | refine gA @hlsb ?_ | (refine gB @hlsb ?_;intro bb hbb;cases bb<;>(try simp only [hbs,if_false,reduceCtorEq] at hbb)) | apply qc_seq | fail)
 refine qc_loop (fun k e s=>∃ (i:Nat) (stv:LV),k=B.start.length - i∧i≤B.start.length∧OB s 3 B.L stv nxv0 (A.start++shS n (B.start.take i)) A.next∧e.at 3 = .pimm [.int .i64 B.L,sb,nb] 0∧e.at 4 = .pref 0 0∧e.at 5 = .int .i64 (n:Int)∧e.at 6 = .pref 3 0∧e.at 7 = .int .i64 (i:Int)) _
  ⟨0,stv0,rfl,by omega,by simpa [shS] using hE0,ef,ef,ef,ef,by simp only [lk,sv1,sv2,sv3,Nat.reduceEqDiff,Nat.reduceAdd,Nat.reduceLeDiff,reduceIte,if_false,if_true,mkVal,unLV,List.map,optTmps];rfl⟩ ?_
 clear e0 e1 hE0
 clear e s7 stv0
 rintro k e s ⟨i,stv,rfl,hi,hE,e3,e4,e5,e6,e7⟩
 by_cases hil:i<B.start.length
 ·have hiI:(i:Int)<(B.start.length:Int):=by omega
  have hwi:IntKind.i64.wrap ((i:Int)+1)=((i+1:Nat):Int):=by rw [wrap_i64 _ (by omega) (by omega)];rfl
  obtain ⟨z,hz⟩:∃ z,B.start[i]? = some z:=⟨_,List.getElem?_eq_getElem hil⟩
  have hzd:B.start.getD i 0=z:=by rw [List.getD_eq_getElem?_getD,hz];rfl
  have hzr:=okB.2.2.2.1 i hil
  rw [hzd] at hzr
  have hgz:(ints B.start)[i]? = some (.int .i64 z):=by simp [ints,hz]
  have hwz:IntKind.i64.wrap (z+(n:Int))=z+(n:Int):=wrap_i64 _ (by omega) (by omega)
  have hia:∀ s,iaLV 1 sb (.int .i64 (i:Int)) s=some (.pimm (ints B.start) i,s):=fun s=>by
   have:=iaN (esz:=1) (k:=.i64) (s:=s) (i:=i) hsb.sl hiI
   simpa using this
  have hsT:A.start++shS n (B.start.take (i+1))=A.start++shS n (B.start.take i)++[z+(n:Int)]:=by rw [shS_take hz,List.append_assoc]
  have hlen:(A.start++shS n (B.start.take i)).length≤200000:=by simp;omega
  generalize hS0:A.start++shS n (B.start.take i)=S0 at *
  clear hzr hzd
  have g1:=hE.g1
  have on:=hE.on
  repeat' (first | refine gA (And.intro @hlsb (And.intro @hia (And.intro @hgz @hwz))) ?_ | (refine gB (And.intro @hlsb (And.intro @hia (And.intro @hgz @hwz))) ?_;intro bb hbb;cases bb<;>(try simp only [hbs,if_false,reduceCtorEq] at hbb)) | apply qc_seq | fail)
  any_goals (exfalso;omega)
  have g3n:(s.new (.cells .mut [.int .i64 (z+(n:Int))])).get 3=some (.cells .mut [.int .i64 B.L,stv,nxv0]):=by rw [St.get_new,if_neg (by omega)];exact g1
  refine q_appEk (n:=S0.length) (esz:=1) (xv:=.int .i64 (z+(n:Int))) (yv:=stv) (vs:=[.int .i64 (z+(n:Int))]) ef rfl rfl rfl rfl ef hE.ss ⟨chk_ld (p:=.pref 3 1) (v:=stv) ef (load_ref g3n rfl) ef,chk_ld (p:=.pimm [.int .i64 B.L,sb,nb] 1) (v:=sb) ef rfl ef,chk_ld (p:=.pimm (ints B.start) i) (v:=.int .i64 z) ef (load_imm hgz) ef,trivial⟩ (by decide) (by omega) (fun s3 j3 a1 a2 a3 a4=>?_)
  have k3:s3.get 3=some (.cells .mut [.int .i64 B.L,stv,nxv0]):=by
   rw [a4 3 (by omega) fun hu=>by have:=hE.lo 3 (.inl hu);omega];exact g1
  have hE2:=hE.start a1 a2 a3 a4
  clear hE a1 a2 a3 a4 g3n g1
  repeat' (first | refine gA trivial ?_ | (refine gB trivial ?_;intro bb hbb;cases bb<;>(try simp only [hbs,if_false,reduceCtorEq] at hbb)) | apply qc_seq | fail)
  exact ⟨B.start.length - (i+1),by omega,i+1,_,rfl,by omega,by rw [hsT];exact hE2,ef,ef,ef,ef,ef⟩
 ·have hie:i=B.start.length:=by omega
  rw [hie,List.take_length] at hE
  generalize hS0:A.start++shS n B.start=S0 at *
  repeat' (first | refine gA (And.intro @hlsb @hlb) ?_ | (refine gB (And.intro @hlsb @hlb) ?_;intro bb hbb;cases bb<;>(try simp only [hbs,if_false,reduceCtorEq] at hbb)) | apply qc_seq | fail)
  any_goals (exfalso;omega)
  refine qc_loop (fun k e s=>∃ (i:Nat) (nxv:LV),k=B.next.length - i∧i≤B.next.length∧OB s 3 B.L stv nxv S0 (A.next++shN n (B.next.take i))∧e.at 3 = .pimm [.int .i64 B.L,sb,nb] 0∧e.at 4 = .pref 0 0∧e.at 5 = .int .i64 (n:Int)∧e.at 6 = .pref 3 0∧e.at 8 = .int .i64 (i:Int)) _
   ⟨0,nxv0,rfl,by omega,by simpa [shN] using hE,ef,ef,ef,ef,by simp only [lk,sv1,sv2,sv3,Nat.reduceEqDiff,Nat.reduceAdd,Nat.reduceLeDiff,reduceIte,if_false,if_true,mkVal,unLV,List.map,optTmps];rfl⟩ ?_
  clear e3 e4 e5 e6 e7 hE hie hil hi hbb
  clear e s i nxv0
  rintro k e s ⟨i,nxv,rfl,hi,hE,e3,e4,e5,e6,e8⟩
  by_cases hil:i<B.next.length
  ·have hiI:(i:Int)<(B.next.length:Int):=by omega
   have hwi:IntKind.i64.wrap ((i:Int)+1)=((i+1:Nat):Int):=by rw [wrap_i64 _ (by omega) (by omega)];rfl
   have g1:vb[i]? = some (vb.getD i .top):=hnb.get hil
   obtain ⟨ws,hr⟩:=hnb.row i hil
   have hrow:=okB.2.2.2.2 i hil
   obtain ⟨row,hrw⟩:∃ row,B.next[i]? = some row:=⟨_,List.getElem?_eq_getElem hil⟩
   have hrd:B.next.getD i []=row:=by rw [List.getD_eq_getElem?_getD,hrw];rfl
   have hNT:A.next++shN n (B.next.take (i+1))=A.next++shN n (B.next.take i)++[row.map (shM n)]:=by rw [shN_take hrw,List.append_assoc]
   rw [hrd] at hr hrow
   have hrl:=hr.sl.len
   have hbL:=okB.2.1
   have hrn:row.length≤64:=by have:=hrow.1;omega
   have hia:∀ s,iaLV 1 nb (.int .i64 (i:Int)) s=some (.pimm vb i,s):=fun s=>by
    have:=iaN (esz:=1) (k:=.i64) (s:=s) (i:=i) hnb.sl hiI
    simpa using this
   have hlenN:(A.next++shN n (B.next.take i)).length≤200000:=by simp;omega
   generalize hN0:A.next++shN n (B.next.take i)=N0 at *
   generalize hrv:vb.getD i .top=rwv at *
   repeat' (first | refine gA @hlb ?_ | (refine gB @hlb ?_;intro bb hbb;cases bb<;>(try simp only [hbs,if_false,reduceCtorEq] at hbb)) | apply qc_seq | fail)
   any_goals (exfalso;omega)
   have hE1:=hE.keep (s':=s.new (.cells .mut [])) (by simp) fun id hu=>by rw [St.get_new,if_neg (by have:=hE.lt hu;omega)]
   have hR1:RW (s.new (.cells .mut [])) (.sref s.n 0 0 1) [] []:=⟨rfl,⟨rfl, .inr ⟨s.n,rfl,by simp,by simp [St.get_new]⟩⟩,fun i hi=>absurd hi (Nat.not_lt_zero _)⟩
   have hD1:∀ id,uses (.sref s.n 0 0 1) id→¬ OU 3 stv nxv id:=fun id hu hu'=>by
    have:=uses_sref.1 hu
    have:=hE.lt hu'
    omega
   generalize LV.sref s.n 0 0 1=rv0 at *
   generalize s.new (.cells .mut [])=s1 at *
   refine qc_loop (fun q e s=>∃ (x:Nat) (rv:LV) (cells:List LV),q=row.length - x∧x≤row.length∧OB s 3 B.L stv nxv S0 N0∧RW s rv ((row.take x).map (shM n)) cells∧(∀ id,uses rv id→¬ OU 3 stv nxv id)∧e.at 3 = .pimm [.int .i64 B.L,sb,nb] 0∧e.at 4 = .pref 0 0∧e.at 5 = .int .i64 (n:Int)∧e.at 6 = .pref 3 0∧e.at 8 = .int .i64 (i:Int)∧e.at 9=rv∧e.at 10 = .int .i64 (x:Int)) _
    ⟨0,rv0,[],rfl,by omega,hE1,hR1,hD1,ef,ef,ef,ef,ef,ef,by simp only [lk,sv1,sv2,sv3,Nat.reduceEqDiff,Nat.reduceAdd,Nat.reduceLeDiff,reduceIte,if_false,if_true,mkVal,unLV,List.map,optTmps];rfl⟩ ?_
   clear e3 e4 e5 e6 e8 hE hE1 hR1 hD1 hbb
   clear e s s1 rv0
   rintro q e s ⟨x,rv,cells,rfl,hx,hE,hR,hD,e3,e4,e5,e6,e8,e9,e10⟩
   by_cases hxl:x<row.length
   ·have hxI:(x:Int)<(row.length:Int):=by omega
    have hwx:IntKind.i64.wrap ((x:Int)+1)=((x+1:Nat):Int):=by rw [wrap_i64 _ (by omega) (by omega)];rfl
    have g2:ws[x]? = some (ws.getD x .top):=hr.get hxl
    have hm':=hr.row x hxl
    have hmo:=hrow.2 x hxl
    have hmsl:=mok_len' hmo
    obtain ⟨ms,hmw⟩:∃ ms,row[x]? = some ms:=⟨_,List.getElem?_eq_getElem hxl⟩
    have hmd:row.getD x []=ms:=by rw [List.getD_eq_getElem?_getD,hmw];rfl
    rw [hmd] at hm' hmo hmsl
    have hRT:(row.take (x+1)).map (shM n)=(row.take x).map (shM n)++[shM n ms]:=by rw [List.take_add_one,hmw];simp
    have hRl:((row.take x).map (shM n)).length=x:=by simp;omega
    have hml:=hm'.sl.len
    have hiax:∀ s,iaLV 1 rwv (.int .i64 (x:Int)) s=some (.pimm ws x,s):=fun s=>by
     have:=iaN (esz:=1) (k:=.i64) (s:=s) (i:=x) hr.sl hxI
     simpa using this
    generalize hR0:(row.take x).map (shM n)=R0 at *
    generalize hmv:ws.getD x .top=mv at *
    repeat' (first | refine gA (And.intro @hlb (And.intro @hia (And.intro @g1 @hrl))) ?_ | (refine gB (And.intro @hlb (And.intro @hia (And.intro @g1 @hrl))) ?_;intro bb hbb;cases bb<;>(try simp only [hbs,if_false,reduceCtorEq] at hbb)) | apply qc_seq | fail)
    any_goals (exfalso;omega)
    have hE1:=hE.keep (s':=s.new (.cells .mut [])) (by simp) fun id hu=>by rw [St.get_new,if_neg (by have:=hE.lt hu;omega)]
    have hR1:=hR.keep (s':=s.new (.cells .mut [])) (by simp) fun id hu=>by rw [St.get_new,if_neg (by have:=hR.sk.lt hu;omega)]
    have hM1:SkE (s.new (.cells .mut [])) (.sref s.n 0 0 2) 2 (mcells (shM n (ms.take 0))) 0:=⟨rfl, .inr ⟨s.n,rfl,by simp,by simp [St.get_new,shM,mcells]⟩⟩
    have hD2:∀ id,uses (.sref s.n 0 0 2) id→¬ OU 3 stv nxv id∧¬ uses rv id:=fun id hu=>by
     have h1:=uses_sref.1 hu
     exact ⟨fun hu'=>by have:=hE.lt hu';omega,fun hu'=>by have:=hR.sk.lt hu';omega⟩
    generalize LV.sref s.n 0 0 2=mv0 at *
    generalize s.new (.cells .mut [])=s1 at *
    refine qc_loop (fun q e s=>∃ (k:Nat) (w:LV),q=ms.length - k∧k≤ms.length∧OB s 3 B.L stv nxv S0 N0∧RW s rv R0 cells∧SkE s w 2 (mcells (shM n (ms.take k))) k∧(∀ id,uses w id→¬ OU 3 stv nxv id∧¬ uses rv id)∧e.at 3 = .pimm [.int .i64 B.L,sb,nb] 0∧e.at 4 = .pref 0 0∧e.at 5 = .int .i64 (n:Int)∧e.at 6 = .pref 3 0∧e.at 8 = .int .i64 (i:Int)∧e.at 9=rv∧e.at 10 = .int .i64 (x:Int)∧e.at 11=w∧e.at 12 = .int .i64 (k:Int)) _
     ⟨0,mv0,rfl,by omega,hE1,hR1,hM1,hD2,ef,ef,ef,ef,ef,ef,ef,ef,by simp only [lk,sv1,sv2,sv3,Nat.reduceEqDiff,Nat.reduceAdd,Nat.reduceLeDiff,reduceIte,if_false,if_true,mkVal,unLV,List.map,optTmps];rfl⟩ ?_
    clear e3 e4 e5 e6 e8 e9 e10 hE hE1 hR hR1 hM1 hD2 hbb
    clear e s s1 mv0
    rintro q e s ⟨k,w,rfl,hk,hE,hR,hM,hD2,e3,e4,e5,e6,e8,e9,e10,e11,e12⟩
    by_cases hkl:k<ms.length
    ·have hkI:(k:Int)<(ms.length:Int):=by omega
     have hwk:IntKind.i64.wrap ((k:Int)+1)=((k+1:Nat):Int):=by rw [wrap_i64 _ (by omega) (by omega)];rfl
     have hmr:=hmo k hkl
     obtain ⟨md,hmd2⟩:∃ md,ms[k]? = some md:=⟨_,List.getElem?_eq_getElem hkl⟩
     have hgd:ms.getD k (0,false)=md:=by rw [List.getD_eq_getElem?_getD,hmd2];rfl
     rw [hgd] at hmr
     have lm:=mcells_get0 hkl
     have lb:=mcells_get1 hkl
     rw [hgd] at lm lb
     have hST:=shM_take (m:=n) hmd2
     obtain ⟨mt,mg⟩:=md
     simp only at hmr lm lb hST
     have hwt:IntKind.i64.wrap (mt+(n:Int))=mt+(n:Int):=wrap_i64 _ (by omega) (by omega)
     have hlm:∀ t:St,loadLV none (.pimm (mcells ms) (k*2+0)) t=some (.int .i64 mt):=fun t=>load_imm lm
     have hlg:∀ t:St,loadLV none (.pimm (mcells ms) (k*2+1)) t=some (.bool mg):=fun t=>load_imm lb
     clear hmr hgd lm lb
     repeat' (first | refine gA (And.intro @hlb (And.intro @hia (And.intro @g1 (And.intro @hiax (And.intro @g2 (And.intro @hml (And.intro (@iaN _ _ _ hm'.sl) (And.intro @hlm @hlg)))))))) ?_ | (refine gB (And.intro @hlb (And.intro @hia (And.intro @g1 (And.intro @hiax (And.intro @g2 (And.intro @hml (And.intro (@iaN _ _ _ hm'.sl) (And.intro @hlm @hlg)))))))) ?_;intro bb hbb;cases bb<;>(try simp only [hbs,if_false,reduceCtorEq] at hbb)) | apply qc_seq | fail)
     any_goals (exfalso;omega)
     refine q_gen (v:=.agg [.int .i64 (mt+(n:Int)), .bool mg]) (s':=s) wN (by simp only [LOp.run,lk,sv1,sv2,sv3,Nat.reduceEqDiff,Nat.reduceAdd,Nat.reduceLeDiff,reduceIte,if_false,if_true,mkVal,unLV,List.map,optTmps,evParts,fillParts,hwt];rfl) rfl trivial ?_
     simp only [Env.put_some]
     refine q_appEk (n:=k) (esz:=2) (xv:=.agg [.int .i64 (mt+(n:Int)), .bool mg]) (yv:=w) (vs:=[.int .i64 (mt+(n:Int)), .bool mg]) ef rfl rfl rfl rfl ef hM
      ⟨chk_ld (p:=.pimm [.int .i64 B.L,sb,nb] 2) (v:=nb) ef rfl ef,chk_ld (p:=.pimm vb i) (v:=rwv) ef (load_imm g1) ef,chk_ld (p:=.pimm ws x) (v:=mv) ef (load_imm g2) ef,chk_ld (p:=.pimm (mcells ms) (k*2+0)) (v:=.int .i64 mt) ef (hlm _) ef,chk_ld (p:=.pimm [.int .i64 B.L,sb,nb] 2) (v:=nb) ef rfl ef,chk_ld (p:=.pimm vb i) (v:=rwv) ef (load_imm g1) ef,chk_ld (p:=.pimm ws x) (v:=mv) ef (load_imm g2) ef,chk_ld (p:=.pimm (mcells ms) (k*2+1)) (v:=.bool mg) ef (hlg _) ef,trivial⟩
      (by decide) (by omega) (fun s3 j3 a1 a2 a3 a4=>?_)
     have hE2:=hE.keep a3 fun id hu=>a4 id (hE.lt hu) fun hu'=>(hD2 id hu').1 hu
     have hR2:=hR.keep a3 fun id hu=>a4 id (hR.sk.lt hu) fun hu'=>(hD2 id hu').2 hu
     have hM2:SkE s3 (.sref j3 0 (k+1) 2) 2 (mcells (shM n (ms.take (k+1)))) (k+1):=by
      rw [hST,mcells_append]
      exact SkC.e a2
     have hD3:∀ id,uses (.sref j3 0 (k+1) 2) id→¬ OU 3 stv nxv id∧¬ uses rv id:=fun id hu=>by
      have h1:=uses_sref.1 hu
      exact ⟨fun hu'=>by have:=hE.lt hu';omega,fun hu'=>by have:=hR.sk.lt hu';omega⟩
     clear hE hR hM hD2 a1 a2 a3 a4
     repeat' (first | refine gA trivial ?_ | (refine gB trivial ?_;intro bb hbb;cases bb<;>(try simp only [hbs,if_false,reduceCtorEq] at hbb)) | apply qc_seq | fail)
     exact ⟨ms.length - (k+1),by omega,k+1,_,rfl,by omega,hE2,hR2,hM2,hD3,ef,ef,ef,ef,ef,ef,ef,ef,ef⟩
    ·have hke:k=ms.length:=by omega
     rw [hke,List.take_length] at hM
     repeat' (first | refine gA (And.intro @hlb (And.intro @hia (And.intro @g1 (And.intro @hiax (And.intro @g2 @hml))))) ?_ | (refine gB (And.intro @hlb (And.intro @hia (And.intro @g1 (And.intro @hiax (And.intro @g2 @hml))))) ?_;intro bb hbb;cases bb<;>(try simp only [hbs,if_false,reduceCtorEq] at hbb)) | apply qc_seq | fail)
     any_goals (exfalso;omega)
     have hFz:FZ (uses w) (fun v'=>IsMoves v' (shM n ms)) frzDepth w s:=(fz_ske 38 hM (mcells_closed _)).mono fun v hv=>⟨by rw [shM_length];exact hke ▸ hv,by
      have hmx:maxLen=9223372036854775807:=by decide
      rw [shM_length];omega,fun z hz=>by
      obtain ⟨y,hy,rfl⟩:=List.mem_map.1 hz
      obtain ⟨c,hc⟩:=List.mem_iff_getElem?.1 hy
      have hcl:=(List.getElem?_eq_some_iff.1 hc).1
      have:=hmo c hcl
      have hgd:ms.getD c (0,false)=y:=by rw [List.getD_eq_getElem?_getD,hc];rfl
      rw [hgd] at this
      unfold inI64
      simp only
      omega⟩
     refine q_appFE (n:=R0.length) (xv:=w) (yv:=rv) ef (cells_cell hM.cell) ef hR.sk hFz (fun id hu=>⟨hM.lt hu,(hD2 id hu).2⟩) (by decide) (by omega) (fun s5 j5 v5 a1 a2 a3 a4 a5=>?_)
     have hE2:=hE.keep a4 fun id hu=>a5 id (hE.lt hu) (fun hu'=>hD id hu' hu) fun hu'=>(hD2 id hu').1 hu
     have hR2:=hR.app a2 a3
     have hD3:∀ id,uses (.sref j5 0 (R0.length+1) 1) id→¬ OU 3 stv nxv id:=fun id hu hu'=>by
      have h1:=uses_sref.1 hu
      have:=hE.lt hu'
      omega
     clear hE hR hM hD2 hD hFz a1 a2 a3 a4 a5
     repeat' (first | refine gA trivial ?_ | (refine gB trivial ?_;intro bb hbb;cases bb<;>(try simp only [hbs,if_false,reduceCtorEq] at hbb)) | apply qc_seq | fail)
     exact ⟨row.length - (x+1),by omega,x+1,_,_,rfl,by omega,hE2,by rw [hRT];exact hR2,hD3,ef,ef,ef,ef,ef,ef,ef⟩
   ·have hxe:x=row.length:=by omega
    rw [hxe,List.take_length] at hR
    have g1n:=hE.g1
    repeat' (first | refine gA (And.intro @hlb (And.intro @hia (And.intro @g1 @hrl))) ?_ | (refine gB (And.intro @hlb (And.intro @hia (And.intro @g1 @hrl))) ?_;intro bb hbb;cases bb<;>(try simp only [hbs,if_false,reduceCtorEq] at hbb)) | apply qc_seq | fail)
    any_goals (exfalso;omega)
    obtain ⟨rvs,r1,r2,r3⟩:=hE.rows
    have hFz:=hR.fz (by simp;omega)
    refine q_appFE (n:=N0.length) (xv:=rv) (yv:=nxv) ef (cells_cell hR.sk.cell) ef r2 hFz (fun id hu=>⟨hR.sk.lt hu,fun hu'=>hD id hu (.inr (.inr (.inr hu')))⟩) (by decide) (by omega) (fun s5 j5 v5 a1 a2 a3 a4 a5=>?_)
    have hE2:=hE.row (T:=uses rv) hD r1 r3 a2 a1 a3 a4 a5
    have k3:s5.get 3=some (.cells .mut [.int .i64 B.L,stv,nxv]):=by
     rw [a5 3 hE.on (fun hu=>by have:=hE.lo 3 (.inr hu);omega) fun hu=>hD 3 hu (.inr (.inl rfl))];exact g1n
    clear hE hR hFz hD a1 a2 a3 a4 a5 r2 r3 g1n
    repeat' (first | refine gA trivial ?_ | (refine gB trivial ?_;intro bb hbb;cases bb<;>(try simp only [hbs,if_false,reduceCtorEq] at hbb)) | apply qc_seq | fail)
    exact ⟨B.next.length - (i+1),by omega,i+1,_,rfl,by omega,by rw [hNT];exact hE2,ef,ef,ef,ef,ef⟩
  ·have hie:i=B.next.length:=by omega
   rw [hie,List.take_length] at hE
   have g1n:=hE.g1
   have g0n:=hE.g0
   have hcs:=hE.ss.cell
   have hcn:isCell nxv=true:=by
    obtain ⟨rvs,r1,r2,r3⟩:=hE.rows
    exact r2.cell
   have hfin:∀ S:St,(∀ id,id≠0→S.get id=s.get id)→∃ r s',frz frzDepth (.agg [.int .i64 B.L,stv,nxv]) S=some (r,s')∧r.closed=true∧EithA A B r:=fun S hS=>by
    have hlo:=hE.lo
    have hEC:OB s 3 (eiB A B).L stv nxv (eiB A B).start (eiB A B).next:=by
     have h1:(eiB A B).L=B.L:=hLL
     have h2:(eiB A B).start=S0:=by rw [← hS0];unfold eiB;rw [hnn]
     have h3:(eiB A B).next=A.next++shN n B.next:=by unfold eiB;rw [hnn]
     rw [h1,h2,h3]
     exact hE
    have hz1:(eiB A B).start.length=A.start.length+B.start.length:=by simp [eiB]
    have hz2:(eiB A B).next.length=A.next.length+B.next.length:=by simp [eiB]
    obtain ⟨r,s',sv',nv',a1,a2⟩:=hEC.fz (by omega) (by omega) (fun x hx=>by
     have hx2:x∈A.start++shS A.next.length B.start:=hx
     have hst:∀ {C:Bu},Vb C→∀ y∈C.start,0≤y∧y<3000:=fun {C} hC y hy=>by
      obtain ⟨j,h1,h2⟩:=List.mem_iff_getElem.1 hy
      have h3:=hC.2.2.2.1 j h1
      have h4:C.start.getD j 0=y:=by rw [List.getD_eq_getElem?_getD,List.getElem?_eq_getElem h1];exact h2
      have:=hC.2.2.1
      omega
     unfold inI64
     rcases List.mem_append.1 hx2 with h | h
     ·have:=hst okA x h;omega
     ·obtain ⟨y,hy,rfl⟩:=List.mem_map.1 h
      have:=hst okB y hy;omega) (S:=S) fun id hu=>hS id (by have:=hlo id hu;omega)
    rw [show (eiB A B).L=B.L from hLL] at a1
    exact ⟨r,s',a1,a2.closed, .inr ⟨⟨okA,okB,hLL⟩,sv',nv',a2⟩⟩
   clear hE
   repeat' (first | refine gA @hlb ?_ | (refine gB @hlb ?_;intro bb hbb;cases bb<;>(try simp only [hbs,if_false,reduceCtorEq] at hbb)) | apply qc_seq | fail)
   any_goals (exfalso;omega)
   exact ⟨.inr trivial, .agg [.int .i64 B.L,stv,nxv],by simp [resVal,resOne,mkVal,lk,St.get_put,e4],hfin _ (fun id hid=>by rw [St.get_put,if_neg hid])⟩
end Go.Proofs.YtgobbogomchnhaaGreatDoor
end
