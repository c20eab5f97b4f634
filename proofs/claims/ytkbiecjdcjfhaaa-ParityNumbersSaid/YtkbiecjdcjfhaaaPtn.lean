/- parity's search: the number of a tree. -/
import Derived.Test.YtkbiecjdcjfhaaaPsr
set_option linter.unusedSimpArgs false
set_option linter.unusedVariables false
namespace Go.Proofs.Ytkbiecjdcjfhaaa
open Go Go.Pv Go.Tre
open Classical
theorem sl_cells {v:LV} {cs:List LV} {n:Nat} (h:Sl v cs n):cells? v=some [v]:=by cases h<;>rfl
set_option maxHeartbeats 16000000 in
theorem tnum_ok {s:St} {Z:Nat} {B:Bu} {sv nv:LV} {most:Int} {ts:List (List Nd)} {xs:List (Nat × List Int)} {O F:Nat→Prop} (hS:SR s Z B sv nv most ts xs O F) {tv0:LV} {t:List Nd} {rs:List (Int × Int × LV)} (ht:IsTr tv0 t rs) (hb:TrB t) (hcap:ts.length≤100000) :
    CallOk Try.prog GL (.fn (.func 37) [] []) [.pref Z 0,tv0] s (fun r s'=>r = .int .i64 (idxK keyT ts (keyT t):Int)∧SR s' Z B sv nv most (addK keyT ts t) xs (fun id=>O id∨s.n≤id∧id<s'.n) F∧s.n≤s'.n∧(∀ id,F id→s'.get id=s.get id)∧∀ id,id<s.n→¬ O id→s'.get id=s.get id):=by
  obtain ⟨tv,pv,xv,TN,SN,tcs,pcs,xr,hX⟩:=hS
  have htc:=ht.closed
  have htl:=ht.sl.len
  have hbl:=hb.len
  refine call_fn (first:=[]) (caps:=[]) Try.func37 (by decide +kernel) c37 (Nat.le_of_ble_eq_true rfl) (CodeOk.mono (Q:=fun o e s'=>(o = .normal∨o = .jmp .ret)∧e.at 4 = .int .i64 (idxK keyT ts (keyT t):Int)∧SR s' Z B sv nv most (addK keyT ts t) xs (fun id=>O id∨s.n≤id∧id<s'.n) F∧s.n≤s'.n∧(∀ id,F id→s'.get id=s.get id)∧∀ id,id<s.n→¬ O id→s'.get id=s.get id) ?_ fun o e s' hh=>by
    obtain ⟨h1,h2,h3⟩:=hh
    exact ⟨h1,_,by simp [l37,resVal,resOne,h2],rfl,h3⟩)
  have e0:(envOf ([]++[.pref Z 0,tv0]++[])).at 0 = .pref Z 0:=by rw [envOf_at];rfl
  have e1:(envOf ([]++[.pref Z 0,tv0]++[])).at 1=tv0:=by rw [envOf_at];rfl
  generalize envOf ([]++[.pref Z 0,tv0]++[])=e at *
  refine Cd.out ?_
  unfold l37
  dsimp only [jA,jG,qN,qF,qS,qI,qA,qB,qC,qG,qm,ql]
  repeat' (first | refine gN @htl ?_ | (refine gB @htl ?_;intro bb hbb;cases bb<;>(try simp only [hbs,if_false,reduceCtorEq] at hbb)<;>(try first | (exfalso;omega) | exact hbb.elim)) | fail)
  refine qc_loop (fun m e s1=>∃ (k:Nat) (nv5:LV),m=t.length - k∧k≤t.length∧s.n≤s1.n∧(∀ id,id<s.n→s1.get id=s.get id)∧Sx s1 nv5 (ints (numsT (t.take k))) (numsT (t.take k)).length∧(∀ id,uses nv5 id→s.n≤id)∧e.at 0 = .pref Z 0∧e.at 1=tv0∧e.at 5=nv5∧e.at 11=tv0∧e.at 12 = .int .i64 (t.length:Int)∧e.at 13 = .int .i64 (k:Int)) _
    ⟨0, .nils,rfl,by omega,Nat.le_refl _,fun _ _=>rfl,Sx.nil _,fun id hu=>absurd hu (uses_nils id),ef,ef,ef,ef,ef,by simp only [lk,sv1,sv2,sv3,Nat.reduceEqDiff,Nat.reduceAdd,Nat.reduceLeDiff,reduceIte,if_false,if_true,mkVal,unLV,List.map,optTmps];rfl⟩ ?_
  clear e0 e1
  clear e
  rintro m e s1 ⟨k,nv5,rfl,hk,hn1,ho,hN,hu5,e0,e1,e5,e11,e12,e13⟩
  by_cases hkl:k<t.length
  · have hkI:(k:Int)<(t.length:Int):=by omega
    have hwk:IntKind.i64.wrap ((k:Int)+1)=((k+1:Nat):Int):=by rw [wrap_i64 _ (by omega) (by omega)];rfl
    have hld:=fun s=>ht.get hkl s
    have hnd:=ht.nd k hkl
    have htk:=take_one t default hkl
    have hmem:t.getD k default∈t:=getD_mem hkl
    generalize t.getD k default=n at *
    have hset:=hnd.set
    have hsl:=hset.sl.len
    have hsc:=hset.sl.cell
    have hvcl:=hset.closed
    generalize (rs.getD k default).2.2=yv at *
    have hpr:=hb.par n hmem
    have hst:=hb.set n hmem
    have hwp:IntKind.i64.wrap (n.par+1)=n.par+1:=wrap_i64 _ (by omega) (by omega)
    have hnl:=numsT_len (t:=t.take k) fun m hm=>hb.set m (List.mem_of_mem_take hm)
    rw [List.length_take] at hnl
    have htB:Bx (numsT (t.take (k+1))=numsT (t.take k)++[n.name,n.par+1,(n.set.length:Int)]++n.set):=⟨by rw [htk];simp [numsT]⟩
    generalize numsT (t.take k)=A at *
    have hAl:A.length≤100000:=by
      have:min k t.length*3003≤30*3003:=Nat.mul_le_mul_right _ (by omega)
      omega
    have hb1:((s1.new (.cells .mut [.int .i64 0, .int .i64 0, .nils])).put s1.n (.cells .mut [.int .i64 n.name, .int .i64 n.par,yv])).get s1.n=some (.cells .mut [.int .i64 n.name, .int .i64 n.par,yv]):=by rw [St.get_put,if_pos rfl]
    have hn2:((s1.new (.cells .mut [.int .i64 0, .int .i64 0, .nils])).put s1.n (.cells .mut [.int .i64 n.name, .int .i64 n.par,yv])).n=s1.n+1:=rfl
    have hf1:∀ id,id<s1.n→((s1.new (.cells .mut [.int .i64 0, .int .i64 0, .nils])).put s1.n (.cells .mut [.int .i64 n.name, .int .i64 n.par,yv])).get id=s1.get id:=fun id hid=>by rw [St.get_put,if_neg (by omega),St.get_new,if_neg (by omega)]
    have hN1:=hN.mono (s':=(s1.new (.cells .mut [.int .i64 0, .int .i64 0, .nils])).put s1.n (.cells .mut [.int .i64 n.name, .int .i64 n.par,yv])) (by omega) fun id hu=>hf1 id (hN.lt hu)
    have hNl:=fun id=>hN.lt (id:=id)
    have hNB:=Bx.mk (And.intro hN1 (And.intro ho hf1))
    clear hN hN1 ho htk hf1
    repeat' (first | refine gN (And.intro (@iaN _ _ _ ht.sl) @hld) ?_ | (refine gB (And.intro (@iaN _ _ _ ht.sl) @hld) ?_;intro bb hbb;cases bb<;>(try simp only [hbs,if_false,reduceCtorEq] at hbb)<;>(try first | (exfalso;omega) | exact hbb.elim)) | fail)
    generalize (s1.new (.cells .mut [.int .i64 0, .int .i64 0, .nils])).put s1.n (.cells .mut [.int .i64 n.name, .int .i64 n.par,yv])=s2 at *
    repeat' (first | refine gN (And.intro @hb1 (And.intro @hwp @hsl)) ?_ | (refine gB (And.intro @hb1 (And.intro @hwp @hsl)) ?_;intro bb hbb;cases bb<;>(try simp only [hbs,if_false,reduceCtorEq] at hbb)<;>(try first | (exfalso;omega) | exact hbb.elim)) | fail)
    refine q_appM (k:=3) (n:=A.length) (vs:=ints [n.name,n.par+1,(n.set.length:Int)]) (cells:=ints A) (yv:=nv5) (by
      simp only [evParts,List.map,lk,sv1,sv2,sv3,Nat.reduceEqDiff,Nat.reduceAdd,Nat.reduceLeDiff,reduceIte,if_false,if_true,mkVal,unLV,List.map,optTmps,hwp]
      have hc:∀ z:Int,cells? (.int .i64 z)=some [.int .i64 z]:=fun _=>rfl
      simp [rep,fillParts,hc,splice,ints]) (by simp) (ints_closed _) ef hNB.out.1 (by unfold big;omega) (fun s3 r3 h1 h2 h3 h4=>?_)
    have hb3:s3.get s1.n=some (.cells .mut [.int .i64 n.name, .int .i64 n.par,yv]):=by rw [h3 _ (by omega) fun hu=>by have:=hNl _ hu;omega];exact hb1
    have h1B:=Bx.mk (And.intro h1 (And.intro h3 h4))
    have h1l:=fun id=>h1.lt (id:=id)
    clear h1 h3
    repeat' (first | refine gN @hb3 ?_ | (refine gB @hb3 ?_;intro bb hbb;cases bb<;>(try simp only [hbs,if_false,reduceCtorEq] at hbb)<;>(try first | (exfalso;omega) | exact hbb.elim)) | fail)
    refine q_appV (k:=n.set.length) (n:=A.length+3) (xv:=yv) (yv:=r3) (vs:=ints n.set) (cells:=ints A++ints [n.name,n.par+1,(n.set.length:Int)]) wN ef hset.sl (by simp) (ints_closed _) ef h1B.out.1 (by unfold big;omega) (fun s4 r4 k1 k2 k3 k4=>?_)
    have hints:ints A++ints [n.name,n.par+1,(n.set.length:Int)]++ints n.set=ints (numsT (t.take (k+1))):=by rw [htB.out];simp [ints]
    have hlen:A.length+3+n.set.length=(numsT (t.take (k+1))).length:=by rw [htB.out];simp;omega
    rw [hints,hlen] at k1
    have ho4:∀ id,id<s.n→s4.get id=s.get id:=fun id hid=>by
      rw [k3 id (by omega) fun hu=>by have:=h4 id hu;omega,h1B.out.2.1 id (by omega) fun hu=>by have:=hu5 id hu;omega,hNB.out.2.2 id (by omega)]
      exact hNB.out.2.1 id hid
    have hkB:=Bx.mk (And.intro k1 (And.intro ho4 k4))
    clear k1 ho4 k3 hNB h1B hb3 hb1 hld hints hlen
    repeat' (first | refine gN @hwk ?_ | (refine gB @hwk ?_;intro bb hbb;cases bb<;>(try simp only [hbs,if_false,reduceCtorEq] at hbb)<;>(try first | (exfalso;omega) | exact hbb.elim)) | fail)
    refine ⟨t.length - (k+1),by omega,k+1,r4,rfl,by omega,by omega,hkB.out.2.1,hkB.out.1,fun id hu=>by have:=k4 id hu;omega,?_⟩
    simp only [lk,sv1,sv2,sv3,Nat.reduceEqDiff,Nat.reduceAdd,Nat.reduceLeDiff,reduceIte,if_false,if_true,mkVal,unLV,List.map,optTmps,hwk,e0,e1,e11,e12,and_self]
  · have hk':k=t.length:=by omega
    subst hk'
    rw [List.take_length] at hN
    have hnl:=numsT_len hb.set
    have hnr:∀ x∈numsT t,inI64 x:=fun x hx=>by
      unfold numsT at hx
      obtain ⟨n,hn,hx⟩:=List.mem_flatMap.1 hx
      obtain ⟨i,hi,rfl⟩:=List.getElem_of_mem hn
      have hnd:=ht.nd i hi
      have hgd:t.getD i default=t[i]:=by rw [List.getD_eq_getElem?_getD,List.getElem?_eq_getElem hi];rfl
      rw [hgd] at hnd
      have hp:=hb.par _ hn
      have hs:=hb.set _ hn
      rcases List.mem_cons.1 hx with rfl | hx
      · exact hnd.nr
      rcases List.mem_cons.1 hx with rfl | hx
      · unfold inI64;omega
      rcases List.mem_cons.1 hx with rfl | hx
      · unfold inI64;omega
      · exact hnd.set.rng x hx
    have htext:=text_sx hN hnr (by
      have:t.length*3003≤30*3003:=Nat.mul_le_mul_right _ hb.len
      omega)
    have hX1:=hX.keep (s':=s1) hn1 fun id hid=>ho id (hX.ol id hid)
    have hXB:=Bx.mk hX1
    have hNc:=hN.cell
    clear hX1 hN
    repeat' (first | refine gN trivial ?_ | (refine gB trivial ?_;intro bb hbb;cases bb<;>(try simp only [hbs,if_false,reduceCtorEq] at hbb)<;>(try first | (exfalso;omega) | exact hbb.elim)) | fail)
    refine q_call wN (fv:=.fn (.func 50) [] []) (vs:=[nv5]) ef (by simp only [List.map,lk,sv1,sv2,sv3,Nat.reduceEqDiff,Nat.reduceAdd,Nat.reduceLeDiff,reduceIte,if_false,if_true,mkVal,unLV,List.map,optTmps]) (CallOk.mono htext fun x s2 hh=>⟨trivial,?_⟩)
    obtain ⟨rfl,hn2,ho2⟩:=hh
    simp only [Env.put_some]
    have hX2:=hXB.out.keep (s':=s2) (by omega) fun id hid=>ho2 id fun hu=>by have:=hu5 id hu;have:=hX.ol id hid;omega
    have ho2':∀ id,id<s.n→s2.get id=s.get id:=fun id hid=>(ho2 id fun hu=>by have:=hu5 id hu;omega).trans (ho id hid)
    have hblk:=hX2.blk
    have htn:=hX2.tn
    have hlook:=kd_look keyT (keyT t) ts 0
    rw [Nat.zero_add] at hlook
    have hX2B:=Bx.mk (And.intro hX2 ho2')
    clear htext hXB ho2 ho2' ho hX2
    repeat' (first | refine gN @hblk ?_ | (refine gB @hblk ?_;intro bb hbb;cases bb<;>(try simp only [hbs,if_false,reduceCtorEq] at hbb)<;>(try first | (exfalso;omega) | exact hbb.elim)) | fail)
    refine q_lookG keyS (M:=TN) (k:=keyT t) (L:=kd keyT 0 ts) wN ef (by simp only [lk,sv1,sv2,sv3,Nat.reduceEqDiff,Nat.reduceAdd,Nat.reduceLeDiff,reduceIte,if_false,if_true,mkVal,unLV,List.map,optTmps];rfl) htn ?_
    rw [hlook]
    clear hlook
    by_cases hf:idxK keyT ts (keyT t)<ts.length
    · rw [if_pos hf]
      simp only [Option.getD_some,Option.isSome_some]
      have hadd:Bx (addK keyT ts t=ts):=⟨by unfold addK;rw [if_pos hf]⟩
      clear hf hblk htn
      repeat' (first | refine gA trivial ?_ | (refine gB trivial ?_;intro bb hbb;cases bb<;>(try simp only [hbs,if_false,reduceCtorEq] at hbb)<;>(try first | (exfalso;omega) | exact hbb.elim)) | apply qc_seq | fail)
      refine ⟨.inr trivial,ef,?_,by omega,fun id hf=>hX2B.out.2 id (hX.ol id (hX.fo id hf).1),fun id hid _=>hX2B.out.2 id hid⟩
      rw [hadd.out]
      exact ⟨_,_,_,_,_,_,_,_,hX2B.out.1.wide (fun id h=>.inl h) fun id h=>by
        rcases h with h | h
        · have:=hX.ol id h;omega
        · exact h.2⟩
    · rw [if_neg hf]
      simp only [Option.getD_none,Option.isSome_none]
      have hidx:idxK keyT ts (keyT t)=ts.length:=by have:=idxK_le keyT ts (keyT t);omega
      have hadd:Bx (addK keyT ts t=ts++[t]):=⟨by unfold addK;rw [if_neg hf]⟩
      have hkup:=kd_up keyT ts t hf
      have htvl:=hX2B.out.1.t.len
      have htvc:=hX2B.out.1.t.cell
      have hpvc:=hX2B.out.1.p.cell
      have hxvc:=hX2B.out.1.x.cell
      rw [hidx]
      have hfB:=Bx.mk hf
      clear hf
      repeat' (first | refine gA (And.intro @hblk @htvl) ?_ | (refine gB (And.intro @hblk @htvl) ?_;intro bb hbb;cases bb<;>(try simp only [hbs,if_false,reduceCtorEq] at hbb)<;>(try first | (exfalso;omega) | exact hbb.elim)) | apply qc_seq | fail)
      refine q_updG keyS (M:=TN) (k:=keyT t) (vv:=.int .i64 (ts.length:Int)) (L:=kd keyT 0 ts) ef (by simp only [lk,sv1,sv2,sv3,Nat.reduceEqDiff,Nat.reduceAdd,Nat.reduceLeDiff,reduceIte,if_false,if_true,mkVal,unLV,List.map,optTmps];rfl) ef htn ?_
      rw [hkup]
      have hZT:Z≠TN:=(map_ne htn hblk).symm
      have hblk3:(s2.put TN (.map (mG embS (kd keyT 0 (ts++[t]))))).get Z=some (.cells .mut [.int .i64 B.L,sv,nv, .int .i64 most,tv,pv, .mref TN,xv, .mref SN]):=by rw [St.get_put,if_neg hZT];exact hblk
      have htn3:(s2.put TN (.map (mG embS (kd keyT 0 (ts++[t]))))).get TN=some (.map (mG embS (kd keyT 0 (ts++[t])))):=by rw [St.get_put,if_pos rfl]
      have ho3:∀ id,id≠TN→(s2.put TN (.map (mG embS (kd keyT 0 (ts++[t]))))).get id=s2.get id:=fun id hid=>by rw [St.get_put,if_neg hid]
      have hn3:(s2.put TN (.map (mG embS (kd keyT 0 (ts++[t]))))).n=s2.n:=rfl
      have ht3:=hX2B.out.1.t.mono (s':=s2.put TN (.map (mG embS (kd keyT 0 (ts++[t]))))) (by omega) fun id hu=>ho3 id fun e=>SkC.notmap hX2B.out.1.t (e ▸ htn) hu
      have hp3:=hX2B.out.1.p.mono (s':=s2.put TN (.map (mG embS (kd keyT 0 (ts++[t]))))) (by omega) fun id hu=>ho3 id fun e=>SkC.notmap hX2B.out.1.p (e ▸ htn) hu
      generalize s2.put TN (.map (mG embS (kd keyT 0 (ts++[t]))))=s3 at *
      have hc1:cells? tv0=some [tv0]:=sl_cells ht.sl
      have hZs:=hX.ol Z hX.oZ.1
      have hTs:=hX.ol TN hX.oZ.2.1
      have huO:=hX.ou
      repeat' (first | refine gA @hblk3 ?_ | (refine gB @hblk3 ?_;intro bb hbb;cases bb<;>(try simp only [hbs,if_false,reduceCtorEq] at hbb)<;>(try first | (exfalso;omega) | exact hbb.elim)) | apply qc_seq | fail)
      refine q_appC (n:=ts.length) (esz:=1) (xv:=tv0) (yv:=tv) (vs:=[tv0]) (cells:=tcs) ef hc1 rfl rfl (by simp [LV.closed.closedAll,htc]) ef ht3 (by decide) (by omega) (fun s4 j4 b1 b2 b3 b4=>?_)
      have hblk4:s4.get Z=some (.cells .mut [.int .i64 B.L,sv,nv, .int .i64 most,tv,pv, .mref TN,xv, .mref SN]):=by rw [b4 Z (by omega) fun hu=>(huO Z (.inl hu)).2 rfl];exact hblk3
      have hp4:=hp3.mono b3 fun id hu=>b4 id (hp3.lt hu) fun h2=>hX2B.out.1.d1 id h2 hu
      have htn4:=(b4 TN (by omega) (SkC.notmap ht3 htn3)).trans htn3
      have h4B:=Bx.mk (And.intro b2 (And.intro b4 htn4))
      have hp3l:=fun id=>hp3.lt (id:=id)
      clear b2 b4 htn4 hblk3 htn3 ht3 hp3
      repeat' (first | refine gA @hblk4 ?_ | (refine gB @hblk4 ?_;intro bb hbb;cases bb<;>(try simp only [hbs,if_false,reduceCtorEq] at hbb)<;>(try first | (exfalso;omega) | exact hbb.elim)) | apply qc_seq | fail)
      have hblk5:(s4.put Z (.cells .mut [.int .i64 B.L,sv,nv, .int .i64 most, .sref j4 0 (ts.length+1) 1,pv, .mref TN,xv, .mref SN])).get Z=some (.cells .mut [.int .i64 B.L,sv,nv, .int .i64 most, .sref j4 0 (ts.length+1) 1,pv, .mref TN,xv, .mref SN]):=by rw [St.get_put,if_pos rfl]
      have ho5:∀ id,id≠Z→(s4.put Z (.cells .mut [.int .i64 B.L,sv,nv, .int .i64 most, .sref j4 0 (ts.length+1) 1,pv, .mref TN,xv, .mref SN])).get id=s4.get id:=fun id hid=>by rw [St.get_put,if_neg hid]
      have hn5:(s4.put Z (.cells .mut [.int .i64 B.L,sv,nv, .int .i64 most, .sref j4 0 (ts.length+1) 1,pv, .mref TN,xv, .mref SN])).n=s4.n:=rfl
      have hp5:=hp4.mono (s':=s4.put Z (.cells .mut [.int .i64 B.L,sv,nv, .int .i64 most, .sref j4 0 (ts.length+1) 1,pv, .mref TN,xv, .mref SN])) (by omega) fun id hu=>ho5 id (huO id (.inr (.inl hu))).2
      generalize s4.put Z (.cells .mut [.int .i64 B.L,sv,nv, .int .i64 most, .sref j4 0 (ts.length+1) 1,pv, .mref TN,xv, .mref SN])=s5 at *
      clear hblk4 hp4
      repeat' (first | refine gA @hblk5 ?_ | (refine gB @hblk5 ?_;intro bb hbb;cases bb<;>(try simp only [hbs,if_false,reduceCtorEq] at hbb)<;>(try first | (exfalso;omega) | exact hbb.elim)) | apply qc_seq | fail)
      refine q_appC (n:=ts.length) (esz:=1) (xv:=.nils) (yv:=pv) (vs:=[.nils]) (cells:=pcs) ef rfl rfl rfl rfl ef hp5 (by decide) (by omega) (fun s6 j6 c1 c2 c3 c4=>?_)
      have hblk6:s6.get Z=some (.cells .mut [.int .i64 B.L,sv,nv, .int .i64 most, .sref j4 0 (ts.length+1) 1,pv, .mref TN,xv, .mref SN]):=by rw [c4 Z (by omega) fun hu=>(huO Z (.inr (.inl hu))).2 rfl];exact hblk5
      have h6B:=Bx.mk (And.intro c2 c4)
      have hp5l:=fun id=>hp5.lt (id:=id)
      clear c2 c4 hblk5
      repeat' (first | refine gA @hblk6 ?_ | (refine gB @hblk6 ?_;intro bb hbb;cases bb<;>(try simp only [hbs,if_false,reduceCtorEq] at hbb)<;>(try first | (exfalso;omega) | exact hbb.elim)) | apply qc_seq | fail)
      have hj4:=h4B.out.1.lt (uses_sref.2 rfl:uses (.sref j4 0 (ts.length+1) 1) j4)
      have hT2:=hX2B.out.1
      have hA:=hT2.addT (t:=t) (tv0:=tv0) ⟨rs,ht⟩ (s':=s6.put Z (.cells .mut [.int .i64 B.L,sv,nv, .int .i64 most, .sref j4 0 (ts.length+1) 1, .sref j6 0 (ts.length+1) 1, .mref TN,xv, .mref SN])) (tv':=.sref j4 0 (ts.length+1) 1) (pv':=.sref j6 0 (ts.length+1) 1) (by simp;omega) (by rw [St.get_put,if_pos rfl])
        (by rw [St.get_put,if_neg hZT.symm,h6B.out.2 TN (by omega) (fun hu=>SkC.notmap hT2.p htn hu),ho5 TN hZT.symm];exact h4B.out.2.2)
        (h4B.out.1.mono (by simp;omega) fun id hu=>by
          have:=uses_sref.1 hu
          rw [St.get_put,if_neg (by omega),h6B.out.2 id (by omega) (fun hu2=>by have:=hp3l id hu2;omega),ho5 id (by omega)])
        (fun id hu=>by have:=uses_sref.1 hu;omega)
        (h6B.out.1.mono (by simp) fun id hu=>by
          have:=uses_sref.1 hu
          rw [St.get_put,if_neg (by omega)])
        (fun id hu=>by have:=uses_sref.1 hu;omega) (fun id h1 h2=>by have:=uses_sref.1 h1;have:=uses_sref.1 h2;omega)
        (fun id h1 h2 h3 h4 h5=>by
          rw [St.get_put,if_neg h2,h6B.out.2 id (by omega) h5,ho5 id h2,h4B.out.2.1 id (by omega) h4,ho3 id h3])
      refine ⟨.inr trivial,ef,?_,by simp;omega,fun id hf=>?_,fun id h1 h2=>?_⟩
      · rw [hadd.out]
        exact ⟨_,_,_,_,_,_,_,_,hA.wide (fun id h=>by
          rcases h with h | h
          · exact .inl h
          · exact .inr ⟨by omega,h.2⟩) fun id h=>by
          rcases h with h | h
          · have:=hX.ol id h;simp;omega
          · exact h.2⟩
      · have hm:=hX.fo id hf
        have hlt:=hX.ol id hm.1
        rw [St.get_put,if_neg hm.2.1,h6B.out.2 id (by omega) hm.2.2.2.2.2.1,ho5 id hm.2.1,h4B.out.2.1 id (by omega) hm.2.2.2.2.1,ho3 id hm.2.2.1]
        exact hX2B.out.2 id hlt
      · have hnZ:id≠Z:=fun e=>h2 (e ▸ hX.oZ.1)
        have hnT:id≠TN:=fun e=>h2 (e ▸ hX.oZ.2.1)
        rw [St.get_put,if_neg hnZ,h6B.out.2 id (by omega) (fun hu=>h2 (hX.ou id (.inr (.inl hu))).1),ho5 id hnZ,h4B.out.2.1 id (by omega) (fun hu=>h2 (hX.ou id (.inl hu)).1),ho3 id hnT]
        exact hX2B.out.2 id h1
end Go.Proofs.Ytkbiecjdcjfhaaa
