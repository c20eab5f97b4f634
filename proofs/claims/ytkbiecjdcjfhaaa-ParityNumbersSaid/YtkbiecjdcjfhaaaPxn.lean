/- parity's search: the number of a state. -/
import Derived.Test.YtkbiecjdcjfhaaaPtn
set_option linter.unusedSimpArgs false
set_option linter.unusedVariables false
namespace Go.Proofs.Ytkbiecjdcjfhaaa
open Go Go.Pv Go.Tre
open Classical
theorem lo15_rng (x:Int):inI64 (lo15 x):=by
  have h1:(BitVec.ofInt 64 x &&& BitVec.ofInt 64 32767).toNat≤32767:=by
    rw [BitVec.toNat_and]
    exact Nat.le_trans Nat.and_le_right (by decide)
  unfold lo15
  rw [wrap_i64 _ (by omega) (by omega)]
  unfold inI64
  omega
set_option maxHeartbeats 16000000 in
theorem xnum_ok {s:St} {Z:Nat} {B:Bu} {sv nv:LV} {most:Int} {ts:List (List Nd)} {xs:List (Nat × List Int)} {O F:Nat→Prop} (hS:SR s Z B sv nv most ts xs O F) {rv:LV} {r:List Int} (hr:IsInts rv r) (hrl:r.length≤6000) {k:Nat} (hk:k≤1000000) (hcap:xs.length≤100000) :
    CallOk Try.prog GL (.fn (.func 36) [] []) [.pref Z 0, .agg [.int .i64 (k:Int),rv]] s (fun res s'=>res = .int .i64 (idxK keyX xs (keyX (k,r)):Int)∧SR s' Z B sv nv most ts (addK keyX xs (k,r)) (fun id=>O id∨s.n≤id∧id<s'.n) F∧s.n≤s'.n∧(∀ id,F id→s'.get id=s.get id)∧∀ id,id<s.n→¬ O id→s'.get id=s.get id):=by
  obtain ⟨tv,pv,xv,TN,SN,tcs,pcs,xr,hX⟩:=hS
  have hrc:=hr.closed
  have hrcc:=hr.sl.cell
  refine call_fn (first:=[]) (caps:=[]) Try.func36 (by decide +kernel) c36 (Nat.le_of_ble_eq_true rfl) (CodeOk.mono (Q:=fun o e s'=>(o = .normal∨o = .jmp .ret)∧e.at 4 = .int .i64 (idxK keyX xs (keyX (k,r)):Int)∧SR s' Z B sv nv most ts (addK keyX xs (k,r)) (fun id=>O id∨s.n≤id∧id<s'.n) F∧s.n≤s'.n∧(∀ id,F id→s'.get id=s.get id)∧∀ id,id<s.n→¬ O id→s'.get id=s.get id) ?_ fun o e s' hh=>by
    obtain ⟨h1,h2,h3⟩:=hh
    exact ⟨h1,_,by simp [l36,resVal,resOne,h2],rfl,h3⟩)
  have e0:(envOf ([]++[.pref Z 0, .agg [.int .i64 (k:Int),rv]]++[])).at 0 = .pref Z 0:=by rw [envOf_at];rfl
  have e1:(envOf ([]++[.pref Z 0, .agg [.int .i64 (k:Int),rv]]++[])).at 1 = .agg [.int .i64 (k:Int),rv]:=by rw [envOf_at];rfl
  generalize envOf ([]++[.pref Z 0, .agg [.int .i64 (k:Int),rv]]++[])=e at *
  refine Cd.out ?_
  unfold l36
  dsimp only [jA,jB,jH,qM,qL,qN,qF,qS,qC,qO,qG,qm,ql]
  have hsh:binLV .shr (.int .i64 (k:Int)) (.int .u64 15)=some (.int .i64 ((k:Int).fdiv 32768)):=rfl
  have hand:binLV .and (.int .i64 (k:Int)) (.int .i64 32767)=some (.int .i64 (lo15 k)):=rfl
  repeat' (first | refine gN (And.intro @hsh @hand) ?_ | (refine gB (And.intro @hsh @hand) ?_;intro bb hbb;cases bb<;>(try simp only [hbs,if_false,reduceCtorEq] at hbb)<;>(try first | (exfalso;omega) | exact hbb.elim)) | fail)
  refine q_run0 (v:=.sref s.n 0 2 1) (s':=s.new (.cells .mut (ints [(k:Int).fdiv 32768,lo15 k]))) (by
    simp only [LOp.run,evParts,List.map,lk,sv1,sv2,sv3,Nat.reduceEqDiff,Nat.reduceAdd,Nat.reduceLeDiff,reduceIte,if_false,if_true,mkVal,unLV,List.map,optTmps]
    have hc:∀ z:Int,cells? (.int .i64 z)=some [.int .i64 z]:=fun _=>rfl
    simp [rep,fillParts,hc,splice,ints]) ?_
  have hs1:Sx (s.new (.cells .mut (ints [(k:Int).fdiv 32768,lo15 k]))) (.sref s.n 0 2 1) (ints [(k:Int).fdiv 32768,lo15 k]) 2:=⟨rfl, .inr ⟨s.n,rfl,by simp,by rw [St.get_new,if_pos rfl]⟩⟩
  have hf1:∀ id,id<s.n→(s.new (.cells .mut (ints [(k:Int).fdiv 32768,lo15 k]))).get id=s.get id:=fun id hid=>by rw [St.get_new,if_neg (by omega)]
  have hn1:(s.new (.cells .mut (ints [(k:Int).fdiv 32768,lo15 k]))).n=s.n+1:=rfl
  generalize s.new (.cells .mut (ints [(k:Int).fdiv 32768,lo15 k]))=s1 at *
  repeat' (first | refine gN trivial ?_ | (refine gB trivial ?_;intro bb hbb;cases bb<;>(try simp only [hbs,if_false,reduceCtorEq] at hbb)<;>(try first | (exfalso;omega) | exact hbb.elim)) | fail)
  refine q_appV (k:=r.length) (n:=2) (xv:=rv) (yv:=.sref s.n 0 2 1) (vs:=ints r) (cells:=ints [(k:Int).fdiv 32768,lo15 k]) wN ef hr.sl (by simp) (ints_closed _) ef hs1 (by unfold big;omega) (fun s2 nv5 h1 h2 h3 h4=>?_)
  have hints:ints [(k:Int).fdiv 32768,lo15 k]++ints r=ints (numsX (k,r)):=by simp [ints,numsX]
  have hlen:2+r.length=(numsX (k,r)).length:=by simp [numsX];omega
  rw [hints,hlen] at h1
  have hdiv:(k:Int).fdiv 32768=(k:Int) / 32768:=Int.fdiv_eq_ediv_of_nonneg _ (by omega)
  have hnr:∀ x∈numsX (k,r),inI64 x:=fun x hx=>by
    unfold numsX at hx
    rcases List.mem_cons.1 hx with rfl | hx
    · show inI64 ((k:Int).fdiv 32768)
      rw [hdiv];unfold inI64;omega
    rcases List.mem_cons.1 hx with rfl | hx
    · exact lo15_rng _
    · exact hr.rng x hx
  have htext:=text_sx h1 hnr (by rw [← hlen];omega)
  have ho2:∀ id,id<s.n→s2.get id=s.get id:=fun id hid=>(h3 id (by omega) fun hu=>by have:=uses_sref.1 hu;omega).trans (hf1 id hid)
  have hu5:∀ id,uses nv5 id→s.n≤id:=fun id hu=>by have:=h4 id hu;omega
  have hX1:=hX.keep (s':=s2) (by omega) fun id hid=>ho2 id (hX.ol id hid)
  have hXB:=Bx.mk (And.intro hX1 ho2)
  have hNc:=h1.cell
  clear hX1 h1 h3 h4 hs1 hf1 ho2 hsh hand
  repeat' (first | refine gN trivial ?_ | (refine gB trivial ?_;intro bb hbb;cases bb<;>(try simp only [hbs,if_false,reduceCtorEq] at hbb)<;>(try first | (exfalso;omega) | exact hbb.elim)) | fail)
  refine q_call wN (fv:=.fn (.func 50) [] []) (vs:=[nv5]) ef (by simp only [List.map,lk,sv1,sv2,sv3,Nat.reduceEqDiff,Nat.reduceAdd,Nat.reduceLeDiff,reduceIte,if_false,if_true,mkVal,unLV,List.map,optTmps]) (CallOk.mono htext fun x s3 hh=>⟨trivial,?_⟩)
  obtain ⟨rfl,hn3,ho3⟩:=hh
  simp only [Env.put_some]
  have hX2:=hXB.out.1.keep (s':=s3) (by omega) fun id hid=>ho3 id fun hu=>by have:=hu5 id hu;have:=hX.ol id hid;omega
  have ho3':∀ id,id<s.n→s3.get id=s.get id:=fun id hid=>(ho3 id fun hu=>by have:=hu5 id hu;omega).trans (hXB.out.2 id hid)
  have hblk:=hX2.blk
  have hsn:=hX2.sn
  have hlook:=kd_look keyX (keyX (k,r)) xs 0
  rw [Nat.zero_add] at hlook
  have hX2B:=Bx.mk (And.intro hX2 ho3')
  clear htext hXB ho3 ho3' hX2 hints hlen hdiv hnr
  repeat' (first | refine gN @hblk ?_ | (refine gB @hblk ?_;intro bb hbb;cases bb<;>(try simp only [hbs,if_false,reduceCtorEq] at hbb)<;>(try first | (exfalso;omega) | exact hbb.elim)) | fail)
  refine q_lookG keyS (M:=SN) (k:=keyX (k,r)) (L:=kd keyX 0 xs) wN ef (by simp only [lk,sv1,sv2,sv3,Nat.reduceEqDiff,Nat.reduceAdd,Nat.reduceLeDiff,reduceIte,if_false,if_true,mkVal,unLV,List.map,optTmps];rfl) hsn ?_
  rw [hlook]
  clear hlook
  by_cases hf:idxK keyX xs (keyX (k,r))<xs.length
  · rw [if_pos hf]
    simp only [Option.getD_some,Option.isSome_some]
    have hadd:Bx (addK keyX xs (k,r)=xs):=⟨by unfold addK;rw [if_pos hf]⟩
    clear hf hblk hsn
    repeat' (first | refine gA trivial ?_ | (refine gB trivial ?_;intro bb hbb;cases bb<;>(try simp only [hbs,if_false,reduceCtorEq] at hbb)<;>(try first | (exfalso;omega) | exact hbb.elim)) | apply qc_seq | fail)
    refine ⟨.inr trivial,ef,?_,by omega,fun id hf=>hX2B.out.2 id (hX.ol id (hX.fo id hf).1),fun id hid _=>hX2B.out.2 id hid⟩
    rw [hadd.out]
    exact ⟨_,_,_,_,_,_,_,_,hX2B.out.1.wide (fun id h=>.inl h) fun id h=>by
      rcases h with h | h
      · have:=hX.ol id h;omega
      · exact h.2⟩
  · rw [if_neg hf]
    simp only [Option.getD_none,Option.isSome_none]
    have hidx:idxK keyX xs (keyX (k,r))=xs.length:=by have:=idxK_le keyX xs (keyX (k,r));omega
    have hadd:Bx (addK keyX xs (k,r)=xs++[(k,r)]):=⟨by unfold addK;rw [if_neg hf]⟩
    have hkup:=kd_up keyX xs (k,r) hf
    have hxvl:=hX2B.out.1.x.len
    have htvc:=hX2B.out.1.t.cell
    have hpvc:=hX2B.out.1.p.cell
    have hxvc:=hX2B.out.1.x.cell
    rw [hidx]
    have hfB:=Bx.mk hf
    clear hf
    repeat' (first | refine gA (And.intro @hblk @hxvl) ?_ | (refine gB (And.intro @hblk @hxvl) ?_;intro bb hbb;cases bb<;>(try simp only [hbs,if_false,reduceCtorEq] at hbb)<;>(try first | (exfalso;omega) | exact hbb.elim)) | apply qc_seq | fail)
    refine q_updG keyS (M:=SN) (k:=keyX (k,r)) (vv:=.int .i64 (xs.length:Int)) (L:=kd keyX 0 xs) ef (by simp only [lk,sv1,sv2,sv3,Nat.reduceEqDiff,Nat.reduceAdd,Nat.reduceLeDiff,reduceIte,if_false,if_true,mkVal,unLV,List.map,optTmps];rfl) ef hsn ?_
    rw [hkup]
    have hZT:Z≠SN:=(map_ne hsn hblk).symm
    have hblk3:(s3.put SN (.map (mG embS (kd keyX 0 (xs++[(k,r)]))))).get Z=some (.cells .mut [.int .i64 B.L,sv,nv, .int .i64 most,tv,pv, .mref TN,xv, .mref SN]):=by rw [St.get_put,if_neg hZT];exact hblk
    have hsn3:(s3.put SN (.map (mG embS (kd keyX 0 (xs++[(k,r)]))))).get SN=some (.map (mG embS (kd keyX 0 (xs++[(k,r)])))):=by rw [St.get_put,if_pos rfl]
    have ho3:∀ id,id≠SN→(s3.put SN (.map (mG embS (kd keyX 0 (xs++[(k,r)]))))).get id=s3.get id:=fun id hid=>by rw [St.get_put,if_neg hid]
    have hn3':(s3.put SN (.map (mG embS (kd keyX 0 (xs++[(k,r)]))))).n=s3.n:=rfl
    have hx3:=hX2B.out.1.x.mono (s':=s3.put SN (.map (mG embS (kd keyX 0 (xs++[(k,r)]))))) (by omega) fun id hu=>ho3 id fun e=>SkC.notmap hX2B.out.1.x (e ▸ hsn) hu
    generalize s3.put SN (.map (mG embS (kd keyX 0 (xs++[(k,r)]))))=s4 at *
    have hc1:cells? (.agg [.int .i64 (k:Int),rv])=some [.int .i64 (k:Int),rv]:=by
      have:[LV.int .i64 (k:Int),rv].all isCell=true:=by simp only [List.all_cons,List.all_nil,Bool.and_true,hrcc];rfl
      simp only [cells?,this,if_true]
    have hZs:=hX.ol Z hX.oZ.1
    have hTs:=hX.ol SN hX.oZ.2.2
    have huO:=hX.ou
    repeat' (first | refine gA @hblk3 ?_ | (refine gB @hblk3 ?_;intro bb hbb;cases bb<;>(try simp only [hbs,if_false,reduceCtorEq] at hbb)<;>(try first | (exfalso;omega) | exact hbb.elim)) | apply qc_seq | fail)
    have hblk4:(s4.new (.cells .mut [.int .i64 (k:Int),rv])).get Z=some (.cells .mut [.int .i64 B.L,sv,nv, .int .i64 most,tv,pv, .mref TN,xv, .mref SN]):=by rw [St.get_new,if_neg (by omega)];exact hblk3
    refine q_appK (n:=xs.length) (esz:=2) (xv:=.agg [.int .i64 (k:Int),rv]) (yv:=xv) (vs:=[.int .i64 (k:Int),rv]) (cells:=wcl xrow xr) ef hc1 rfl rfl (by simp [LV.closed.closedAll,LV.closed,hrc]) ef hx3 ⟨.inr ⟨rfl,by simp [LOp.run,lk,sv1,sv2,sv3,Nat.reduceEqDiff,Nat.reduceAdd,Nat.reduceLeDiff,reduceIte,if_false,if_true,mkVal,unLV,List.map,optTmps,hblk4,mkVal]⟩, .inr ⟨rfl,by simp [LOp.run,lk,sv1,sv2,sv3,Nat.reduceEqDiff,Nat.reduceAdd,Nat.reduceLeDiff,reduceIte,if_false,if_true,mkVal,unLV,List.map,optTmps,mkVal]⟩,trivial⟩ (by decide) (by omega) (fun s5 j5 b1 b2 b3 b4=>?_)
    have hblk5:s5.get Z=some (.cells .mut [.int .i64 B.L,sv,nv, .int .i64 most,tv,pv, .mref TN,xv, .mref SN]):=by rw [b4 Z (by omega) fun hu=>(huO Z (.inr (.inr hu))).2 rfl];exact hblk3
    have hsn5:=(b4 SN (by omega) (SkC.notmap hx3 hsn3)).trans hsn3
    have h5B:=Bx.mk (And.intro b2 (And.intro b4 hsn5))
    clear b2 b4 hblk3 hblk4 hsn5
    repeat' (first | refine gA @hblk5 ?_ | (refine gB @hblk5 ?_;intro bb hbb;cases bb<;>(try simp only [hbs,if_false,reduceCtorEq] at hbb)<;>(try first | (exfalso;omega) | exact hbb.elim)) | apply qc_seq | fail)
    have hX2:=hX2B.out.1
    have hA:=hX2.addX (x:=(k,r)) (rv:=rv) hr (s':=s5.put Z (.cells .mut [.int .i64 B.L,sv,nv, .int .i64 most,tv,pv, .mref TN, .sref j5 0 (xs.length+1) 2, .mref SN])) (xv':=.sref j5 0 (xs.length+1) 2) (by simp;omega) (by rw [St.get_put,if_pos rfl])
      (by rw [St.get_put,if_neg hZT.symm];exact h5B.out.2.2)
      (h5B.out.1.mono (by simp) fun id hu=>by
        have:=uses_sref.1 hu
        rw [St.get_put,if_neg (by omega)])
      (fun id hu=>by have:=uses_sref.1 hu;omega)
      (fun id h1 h2 h3 h4=>by
        rw [St.get_put,if_neg h2,h5B.out.2.1 id (by omega) h4,ho3 id h3])
    refine ⟨.inr trivial,ef,?_,by simp;omega,fun id hf=>?_,fun id h1 h2=>?_⟩
    · rw [hadd.out]
      exact ⟨_,_,_,_,_,_,_,_,hA.wide (fun id h=>by
        rcases h with h | h
        · exact .inl h
        · exact .inr ⟨by omega,h.2⟩) fun id h=>by
        rcases h with h | h
        · have:=hX.ol id h;simp;omega
        · exact h.2⟩
    · have hm:=hX.fo id hf
      have hlt:=hX.ol id hm.1
      rw [St.get_put,if_neg hm.2.1,h5B.out.2.1 id (by omega) hm.2.2.2.2.2.2,ho3 id hm.2.2.2.1]
      exact hX2B.out.2 id hlt
    · have hnZ:id≠Z:=fun e=>h2 (e ▸ hX.oZ.1)
      have hnT:id≠SN:=fun e=>h2 (e ▸ hX.oZ.2.2)
      rw [St.get_put,if_neg hnZ,h5B.out.2.1 id (by omega) (fun hu=>h2 (hX.ou id (.inr (.inr hu))).1),ho3 id hnT]
      exact hX2B.out.2 id h1
end Go.Proofs.Ytkbiecjdcjfhaaa
