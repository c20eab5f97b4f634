/- buchi.automaton at the moves of both, with a limit that may be met. -/
import Derived.Test.YtmblpcidfjemhaaDoorPiter2
import Derived.Test.YtmblpcidfjemhaaDoorPauto
set_option linter.unusedSimpArgs false
set_option linter.unusedVariables false
namespace Go.Proofs.YtmblpcidfjemhaaDoor
open Go Go.Pv
open Classical
theorem addN_len (ps:List Nat) (p:Nat):(addN ps p).length≤ps.length+1:=by
  unfold addN
  split
  · omega
  · simp
theorem addsN_len:∀ (ps l:List Nat),(addsN ps l).length≤ps.length+l.length
  | ps,[]=>by simp [addsN]
  | ps,p::l=>by
    have h1:=addsN_len (addN ps p) l
    have h2:=addN_len ps p
    have h3:addsN ps (p::l)=addsN (addN ps p) l:=rfl
    rw [h3,List.length_cons]
    omega
set_option maxHeartbeats 16000000 in
theorem pauto_lim {vA vB:LV} {A B:Bu} {sa na sb nb:LV} (hA0:IsB vA A sa na) (hB0:IsB vB B sb nb) (okA:Vb A) (okB:Vb B) (hL0:A.L=B.L) {g:Grf} (hg0:g=grB A B) {most:Int} (hok:GrfOk g 3000) (hst2:(g.st.length:Int)≤most) (hm3:most≤3000) {fv:LV} (hst:Sl fv (tcells3 B.next.length g.st) g.st.length) {s:St} :
    CallOk Tryd.prog GL (.fn (.func 45) [] []) [.int .i64 g.L,fv, .int .i64 most, .fn (.func 43) [] [.pimm [.int .i64 A.L,sa,na] 0, .pimm [.int .i64 B.L,sb,nb] 0]] s
      (fun r s'=>((g.R.length:Int)≤most∧∃ (stv nxv:LV) (C:Bu) (T1 T2:Nat→Prop),r = .tup [.agg [.int .i64 g.L,stv,nxv], .int .i64 0]∧AutoR g C∧FZ T1 (fun v'=>IsInts v' C.start) 38 stv s'∧FZ T2 (fun v'=>IsNext v' C.next) 38 nxv s'∧(∀ id,T1 id→¬ T2 id)∧(∀ id,T1 id∨T2 id→s.n≤id∧id<s'.n)∧(isCell stv=true∧isCell nxv=true)∧s.n≤s'.n∧∀ id,id<s.n→s'.get id=s.get id)∨(most<(g.R.length:Int)∧r = .tup [.agg [.int .i64 0, .nils, .nils], .int .i64 2]∧s.n≤s'.n∧∀ id,id<s.n→s'.get id=s.get id)):=by
  have hc1:=hst.cell
  have hsl:=hst.len
  have hn3:(g.N:Int)≤3000:=hok.N3
  have hnm:=hok.N3
  have hslen:=hok.stl
  have hmx:maxLen=9223372036854775807:=by decide
  have hL1:=hok.L1
  have hL2:=hok.L2
  have hAi:Hd (A.L=g.L):=⟨by rw [hg0];rfl⟩
  have hL:Hd (A.L=B.L):=⟨hL0⟩
  have hg:Hd (g=grB A B):=⟨hg0⟩
  clear hL0 hg0
  refine call_fn (first:=[]) (caps:=[]) Tryd.func45 (by decide +kernel) c45 (Nat.le_of_ble_eq_true rfl) (CodeOk.mono (Q:=fun o e s'=>(o = .normal∨o = .jmp .ret)∧(((g.R.length:Int)≤most∧∃ (r8 r9:Nat) (stv nxv:LV) (C:Bu) (T1 T2:Nat→Prop),e.at 8 = .pref r8 0∧e.at 9 = .pref r9 0∧s'.get r8=some (.cells .mut [.int .i64 g.L,stv,nxv])∧s'.get r9=some (.cells .mut [.int .i64 0])∧AutoR g C∧FZ T1 (fun v'=>IsInts v' C.start) 38 stv s'∧FZ T2 (fun v'=>IsNext v' C.next) 38 nxv s'∧(∀ id,T1 id→¬ T2 id)∧(∀ id,T1 id∨T2 id→s.n≤id∧id<s'.n)∧(isCell stv=true∧isCell nxv=true)∧s.n≤s'.n∧∀ id,id<s.n→s'.get id=s.get id)∨(most<(g.R.length:Int)∧∃ (r8 r9:Nat),e.at 8 = .pref r8 0∧e.at 9 = .pref r9 0∧s'.get r8=some (.cells .mut [.int .i64 0, .nils, .nils])∧s'.get r9=some (.cells .mut [.int .i64 2])∧s.n≤s'.n∧∀ id,id<s.n→s'.get id=s.get id))) ?_ fun o e s' hh=>by
    obtain ⟨h1,⟨hlm,r8,r9,stv,nxv,C,T1,T2,h2,h3,h4,h5,h6⟩ | ⟨hlm,r8,r9,h2,h3,h4,h5,h6⟩⟩:=hh
    · exact ⟨h1, .tup [.agg [.int .i64 g.L,stv,nxv], .int .i64 0],by simp [l45,resVal,resOne,h2,h3,h4,h5,mkVal], .inl ⟨hlm,stv,nxv,C,T1,T2,rfl,h6⟩⟩
    · exact ⟨h1, .tup [.agg [.int .i64 0, .nils, .nils], .int .i64 2],by simp [l45,resVal,resOne,h2,h3,h4,h5,mkVal], .inr ⟨hlm,rfl,h6⟩⟩)
  have e0:(envOf ([]++[.int .i64 g.L,fv, .int .i64 most, .fn (.func 43) [] [.pimm [.int .i64 A.L,sa,na] 0, .pimm [.int .i64 B.L,sb,nb] 0]]++[])).at 0 = .int .i64 g.L:=by rw [envOf_at];rfl
  have e1:(envOf ([]++[.int .i64 g.L,fv, .int .i64 most, .fn (.func 43) [] [.pimm [.int .i64 A.L,sa,na] 0, .pimm [.int .i64 B.L,sb,nb] 0]]++[])).at 1=fv:=by rw [envOf_at];rfl
  have e2:(envOf ([]++[.int .i64 g.L,fv, .int .i64 most, .fn (.func 43) [] [.pimm [.int .i64 A.L,sa,na] 0, .pimm [.int .i64 B.L,sb,nb] 0]]++[])).at 2 = .int .i64 most:=by rw [envOf_at];rfl
  have e3:(envOf ([]++[.int .i64 g.L,fv, .int .i64 most, .fn (.func 43) [] [.pimm [.int .i64 A.L,sa,na] 0, .pimm [.int .i64 B.L,sb,nb] 0]]++[])).at 3 = .fn (.func 43) [] [.pimm [.int .i64 A.L,sa,na] 0, .pimm [.int .i64 B.L,sb,nb] 0]:=by rw [envOf_at];rfl
  generalize envOf ([]++[.int .i64 g.L,fv, .int .i64 most, .fn (.func 43) [] [.pimm [.int .i64 A.L,sa,na] 0, .pimm [.int .i64 B.L,sb,nb] 0]]++[])=e at *
  refine Cd.out ?_
  unfold l45
  dsimp only [jA,jB,jG,jH,qM,qL,qN,qF,qS,qI,qA,qB,qC,qO,qG,qm,ql]
  repeat' (first | refine gA @hsl ?_ | (refine gB @hsl ?_;intro bb hbb;cases bb<;>(try simp only [hbs,if_false,reduceCtorEq] at hbb)) | apply qc_seq | fail)
  refine q_gen (v:=.mref (s.n+1+1)) (s':=((s.new (Blk.cells Md.mut [LV.int IntKind.i64 0,LV.nils,LV.nils])).new (Blk.cells Md.mut [LV.int IntKind.i64 0])).new (.map [])) wN (by simp only [LOp.run,St.n_new]) rfl trivial ?_
  simp only [Env.put_some]
  repeat' (first | refine gA @hsl ?_ | (refine gB @hsl ?_;intro bb hbb;cases bb<;>(try simp only [hbs,if_false,reduceCtorEq] at hbb)) | apply qc_seq | fail)
  refine q_run0 (v:=.agg [.int .i64 g.L, .nils, .nils]) (by simp only [LOp.run,lk,sv1,sv2,sv3,Nat.reduceEqDiff,Nat.reduceAdd,Nat.reduceLeDiff,reduceIte,if_false,if_true,mkVal,unLV,List.map,optTmps,evParts,fillParts,e0];rfl) ?_
  repeat' (first | refine gA @hsl ?_ | (refine gB @hsl ?_;intro bb hbb;cases bb<;>(try simp only [hbs,if_false,reduceCtorEq] at hbb)) | apply qc_seq | fail)
  refine qc_gen (fun e s1=>∃ r8 r9 M ja jb jc jd:Nat,PI B.next.length s s1 g.L r8 r9 M ja jb jc jd .nils .nils .nils []∧e.at 0 = .int .i64 g.L∧e.at 3 = .fn (.func 43) [] [.pimm [.int .i64 A.L,sa,na] 0, .pimm [.int .i64 B.L,sb,nb] 0]∧e.at 6 = .pimm [.int .i64 most] 0∧e.at 8 = .pref r8 0∧e.at 9 = .pref r9 0∧e.at 11 = .pref jb 0∧e.at 12 = .pref jc 0∧e.at 13 = .pref jd 0∧e.at 26=fv∧e.at 27 = .int .i64 (g.st.length:Int)∧e.at 28 = .int .i64 0) ?_ ?_
  · refine ⟨s.n,s.n+1,s.n+1+1,s.n+1+1+1,s.n+1+1+1+1,s.n+1+1+1+1+1,s.n+1+1+1+1+1+1,⟨⟨rfl,rfl,rfl,rfl,rfl,rfl,rfl⟩,⟨?_,by omega,?_,by omega,?_,by omega,?_,by omega,by omega,by omega,?_,?_,?_,SkC.nil _ _,fun id h=>absurd h (uses_nils id),fun id h=>h.elim,fun id h=>h.elim⟩,?_,?_,?_,?_,?_,fun id h=>absurd h (uses_nils id),fun id hid=>?_⟩,?_⟩
    all_goals first
      | (simp only [St.n_put,St.n_new];omega)
      | exact ⟨ef,ef,ef,ef,ef,ef,ef,ef,ef,ef,ef⟩
      | (simp only [lk,sv1,sv2,sv3,Nat.reduceEqDiff,Nat.reduceAdd,Nat.reduceLeDiff,reduceIte,if_false,if_true,mkVal,unLV,List.map,optTmps,List.map,St.get_put,St.get_new,St.n_put,St.n_new]
         repeat' (first | rfl | (rw [if_pos (by omega)]) | (rw [if_neg (by omega)])))
  clear e0 e1 e2 e3
  clear e
  rintro e s1 ⟨r8,r9,M,ja,jb,jc,jd,hA,e0,e3,e6,e8,e9,e11,e12,e13,e26,e27,e28⟩
  refine qc_loop (fun m e s1=>∃ (i:Nat) (pv stv:LV),m=g.st.length - i∧i≤g.st.length∧PI B.next.length s s1 g.L r8 r9 M ja jb jc jd pv stv .nils (addsN [] (g.st.take i))∧SkC s1 stv 1 (ints ((g.st.take i).map fun z=>(numN g.R z:Int))) i∧(∀ id,uses stv id→s.n+7≤id∧¬ uses pv id)∧e.at 0 = .int .i64 g.L∧e.at 3 = .fn (.func 43) [] [.pimm [.int .i64 A.L,sa,na] 0, .pimm [.int .i64 B.L,sb,nb] 0]∧e.at 6 = .pimm [.int .i64 most] 0∧e.at 8 = .pref r8 0∧e.at 9 = .pref r9 0∧e.at 11 = .pref jb 0∧e.at 12 = .pref jc 0∧e.at 13 = .pref jd 0∧e.at 26=fv∧e.at 27 = .int .i64 (g.st.length:Int)∧e.at 28 = .int .i64 (i:Int)) _
    ⟨0, .nils, .nils,rfl,by omega,hA,SkC.nil _ _,(fun id h=>absurd h (uses_nils id)),e0,e3,e6,e8,e9,e11,e12,e13,e26,e27,e28⟩ ?_
  clear hA e0 e3 e6 e8 e9 e11 e12 e13 e26 e27 e28
  clear e s1
  rintro m e s1 ⟨i,pv,stv,rfl,hi,hA,hS,hdj,e0,e3,e6,e8,e9,e11,e12,e13,e26,e27,e28⟩
  have hpl:=gr_len hok (s0_pre g i)
  by_cases hil:i<g.st.length
  · have hiI:(i:Int)<(g.st.length:Int):=by omega
    have hw:IntKind.i64.wrap ((i:Int)+1)=((i+1:Nat):Int):=by rw [wrap_i64 _ (by omega) (by omega)];rfl
    obtain ⟨z,hz⟩:∃ z,g.st[i]? = some z:=⟨_,List.getElem?_eq_getElem hil⟩
    obtain ⟨q,hz⟩:∃ q,g.st[i]? = some q:=⟨_,List.getElem?_eq_getElem hil⟩
    repeat' (first | refine gA trivial ?_ | (refine gB trivial ?_;intro bb hbb;cases bb<;>(try simp only [hbs,if_false,reduceCtorEq] at hbb)) | apply qc_seq | fail)
    · exfalso;omega
    obtain ⟨r15,hr15⟩:∃ r15,s1.n=r15:=⟨_,rfl⟩
    have hn71:=hA.n7
    have hA':=hA.keep (s2:=(s1.new (.cells .mut [.int .i64 0, .int .i64 0, .int .i64 0])).put s1.n (.cells .mut [.int .i64 (px B.next.length q), .int .i64 (py B.next.length q), .int .i64 (pt q)])) (by simp) fun id hid=>by
      rw [St.get_put,if_neg,St.get_new,if_neg]
      all_goals
        rcases hid with hid | hid
        · omega
        · have:=hA.nt.sp.lt hid;omega
    have hS':=hS.mono (s':=(s1.new (.cells .mut [.int .i64 0, .int .i64 0, .int .i64 0])).put s1.n (.cells .mut [.int .i64 (px B.next.length q), .int .i64 (py B.next.length q), .int .i64 (pt q)])) (by simp) fun id hu=>by
      have:=hS.lt hu
      rw [St.get_put,if_neg (by omega),St.get_new,if_neg (by omega)]
    have gr15:((s1.new (.cells .mut [.int .i64 0, .int .i64 0, .int .i64 0])).put s1.n (.cells .mut [.int .i64 (px B.next.length q), .int .i64 (py B.next.length q), .int .i64 (pt q)])).get r15=some (.cells .mut [.int .i64 (px B.next.length q), .int .i64 (py B.next.length q), .int .i64 (pt q)]):=by rw [St.get_put,if_pos hr15.symm]
    have hn15:((s1.new (.cells .mut [.int .i64 0, .int .i64 0, .int .i64 0])).put s1.n (.cells .mut [.int .i64 (px B.next.length q), .int .i64 (py B.next.length q), .int .i64 (pt q)])).n=r15+1:=by rw [St.n_put,St.n_new,hr15]
    have hu15:¬ uses pv r15∧¬ uses stv r15:=⟨fun hu=>by have:=hA.nt.sp.lt hu;omega,fun hu=>by have:=hS.lt hu;omega⟩
    have hr7:s.n+7≤r15:=by omega
    rw [hr15] at hA' hS' gr15
    refine q_mono (fun e' s2=>PI B.next.length s s2 g.L r8 r9 M ja jb jc jd pv stv .nils (addsN [] (g.st.take i))∧SkC s2 stv 1 (ints ((g.st.take i).map fun z=>(numN g.R z:Int))) i∧s2.get r15=some (.cells .mut [.int .i64 (px B.next.length q), .int .i64 (py B.next.length q), .int .i64 (pt q)])∧s2.n=r15+1∧e'.at 15 = .pref r15 0∧e'.at 0 = .int .i64 g.L∧e'.at 3 = .fn (.func 43) [] [.pimm [.int .i64 A.L,sa,na] 0, .pimm [.int .i64 B.L,sb,nb] 0]∧e'.at 6 = .pimm [.int .i64 most] 0∧e'.at 8 = .pref r8 0∧e'.at 9 = .pref r9 0∧e'.at 11 = .pref jb 0∧e'.at 12 = .pref jc 0∧e'.at 13 = .pref jd 0∧e'.at 26=fv∧e'.at 27 = .int .i64 (g.st.length:Int)∧e'.at 28 = .int .i64 (i:Int)) ?_ ?_
    · have hld:=fun s=>loadN_pairs (m:=B.next.length) (s:=s) hz
      have hia:=fun s=>iaN hst (esz:=3) (k:=.i64) (s:=s) hiI
      clear hA hS hA0 hB0
      repeat' (first | refine gA (And.intro @hia @hld) ?_ | (refine gB (And.intro @hia @hld) ?_;intro bb hbb;cases bb<;>(try simp only [hbs,if_false,reduceCtorEq] at hbb)) | apply qc_seq | fail)
      refine ⟨hA',hS',gr15,hn15,?_⟩
      simp only [lk,sv1,sv2,sv3,Nat.reduceEqDiff,Nat.reduceAdd,Nat.reduceLeDiff,reduceIte,if_false,if_true,mkVal,unLV,List.map,optTmps,e0,e3,e6,e8,e9,e11,e12,e13,e26,e27,e28,hr15,and_self]
    clear e0 e3 e6 e8 e9 e11 e12 e13 e26 e27 e28 hA hS hA' hS' gr15 hn15 hn71
    clear hr15 e s1
    rintro e s1 ⟨hA,hS,gr15,hn15,e15,e0,e3,e6,e8,e9,e11,e12,e13,e26,e27,e28⟩
    simp only [Thn]
    have gd:=hA.gd
    have gc:=hA.gc
    repeat' (first | refine gA trivial ?_ | (refine gB trivial ?_;intro bb hbb;cases bb<;>(try simp only [hbs,if_false,reduceCtorEq] at hbb)) | apply qc_seq | fail)
    have hpre':=s0_pre g (i+1)
    have htk0:g.st.take (i+1)=g.st.take i++[q]:=by rw [List.take_add_one,hz];rfl
    have htk:addsN [] (g.st.take (i+1))=addN (addsN [] (g.st.take i)) q:=by
      rw [htk0,addsN_snoc]
    have htk2:(g.st.take (i+1)).map (fun z=>(numN g.R z:Int))=(g.st.take i).map (fun z=>(numN g.R z:Int))++[(numN g.R q:Int)]:=by
      rw [htk0];simp
    rw [htk] at hpre'
    have hnum:numN (addN (addsN [] (g.st.take i)) q) q=numN g.R q:=(numN_pre hpre' (addN_mem _ _)).symm
    have hpl':=gr_len hok hpre'
    have hstl:((addN (addsN [] (g.st.take i)) q).length:Int)≤most:=by
      have h0:=addsN_len [] (g.st.take (i+1))
      rw [htk,List.length_take] at h0
      have h1:([]:List Nat).length=0:=rfl
      omega
    refine q_call wN (fv:=.fn (.func 61) [] [.pref ja 0, .pref jb 0]) (vs:=[.agg [.int .i64 (px B.next.length q), .int .i64 (py B.next.length q), .int .i64 (pt q)]]) ef (by simp only [List.map,lk,sv1,sv2,sv3,Nat.reduceEqDiff,Nat.reduceAdd,Nat.reduceLeDiff,reduceIte,if_false,if_true,mkVal,unLV,List.map,optTmps]) (CallOk.mono (pan_ok hA (by omega) q) fun r s2 hh=>?_)
    obtain ⟨pv',rfl,hA2,hn2,hup,hk2⟩:=hh
    rw [hnum]
    have gd2:=hA2.gd
    have gc2:=hA2.gc
    have ids:=hA.ids
    have n7:=hA.n7
    have hS2:=hS.mono hn2 fun id hu=>hk2 id (hS.lt hu) (by have:=(hdj id hu).1;omega) (by have:=(hdj id hu).1;omega) (by have:=(hdj id hu).1;omega) (hdj id hu).2
    have hdj2:∀ id,uses stv id→s.n+7≤id∧¬ uses pv' id:=fun id hu=>⟨(hdj id hu).1,fun hu'=>by
      rcases hup id hu' with h | h
      · exact (hdj id hu).2 h
      · have:=hS.lt hu;omega⟩
    have hb2:=hA2.nt.gb
    have hsl2:=hA2.nt.sp.len
    have hst2:∀ id,uses stv id→id<s2.n:=fun id hu=>hS2.lt hu
    have g15:s2.get r15=some (.cells .mut [.int .i64 (px B.next.length q), .int .i64 (py B.next.length q), .int .i64 (pt q)]):=by rw [hk2 r15 (by omega) (by omega) (by omega) (by omega) hu15.1];exact gr15
    have hr15n:r15<s2.n:=by omega
    generalize hps:addN (addsN [] (g.st.take i)) q=ps' at *
    generalize hsl':(g.st.take i).map (fun z=>(numN g.R z:Int))=sl at *
    generalize hwn:numN g.R q=w at *
    have hn72:s.n+7≤s2.n:=by omega
    have hnd:∀ id,id<s.n+7→(s2.new (.cells .mut [.int .i64 (w:Int)])).get id=s2.get id:=fun id hid=>by rw [St.get_new,if_neg (by omega)]
    have fd2:(s2.new (.cells .mut [.int .i64 (w:Int)])).get jd=some (.cells .mut [.int .i64 g.L,stv, .nils]):=by rw [hnd _ (by omega)];exact gd2
    have fc2:(s2.new (.cells .mut [.int .i64 (w:Int)])).get jc=some (.cells .mut [.fn (.func 61) [] [.pref ja 0, .pref jb 0]]):=by rw [hnd _ (by omega)];exact gc2
    have f15:(s2.new (.cells .mut [.int .i64 (w:Int)])).get r15=some (.cells .mut [.int .i64 (px B.next.length q), .int .i64 (py B.next.length q), .int .i64 (pt q)]):=by rw [St.get_new,if_neg (by omega)];exact g15
    clear hA hS hdj hk2 hup gd gc hn2 hnum hbb hpre' n7 hnd ids gr15 hn15
    refine ⟨⟨.inr ⟨rfl,by simp only [LOp.run,lk,sv1,sv2,sv3,Nat.reduceEqDiff,Nat.reduceAdd,Nat.reduceLeDiff,reduceIte,if_false,if_true,mkVal,unLV,List.map,optTmps,Env.put_some,e13,gd2,Option.bind_eq_bind]⟩,trivial⟩,?_⟩
    simp only [Env.put_some]
    refine q_appK (n:=i) (esz:=1) (xv:=.int .i64 (w:Int)) (yv:=stv) (vs:=[.int .i64 (w:Int)]) ef rfl rfl rfl rfl ef hS2 ⟨.inr ⟨rfl,by simp only [LOp.run,lk,sv1,sv2,sv3,Nat.reduceEqDiff,Nat.reduceAdd,Nat.reduceLeDiff,reduceIte,if_false,if_true,mkVal,unLV,List.map,optTmps,e13,fd2,Option.bind_eq_bind]⟩, .inr ⟨rfl,by simp only [LOp.run,lk,sv1,sv2,sv3,Nat.reduceEqDiff,Nat.reduceAdd,Nat.reduceLeDiff,reduceIte,if_false,if_true,mkVal,unLV,List.map,optTmps,e12,fc2,Option.bind_eq_bind]⟩, .inr ⟨rfl,by simp only [LOp.run,lk,sv1,sv2,sv3,Nat.reduceEqDiff,Nat.reduceAdd,Nat.reduceLeDiff,reduceIte,if_false,if_true,mkVal,unLV,List.map,optTmps,e15,f15,Option.bind_eq_bind,Option.bind_some,List.drop_zero,List.take_succ_cons,List.take_zero]⟩,trivial⟩ (by decide) (by omega) (fun s5 j5 a1 a2 a3 a4=>?_)
    have ids:=hA2.ids
    have h5:∀ id,id<s.n+7→s5.get id=s2.get id:=fun id hid=>a4 id (by omega) fun hu=>by have:=(hdj2 id hu).1;omega
    have gd5:s5.get jd=some (.cells .mut [.int .i64 g.L,stv, .nils]):=by rw [h5 _ (by omega)];exact gd2
    have hj5:j5<s5.n:=a2.lt (uses_sref.2 rfl)
    have hne:¬ jb=jd:=by omega
    clear f15 g15
    have gb5:(s5.put jd (.cells .mut [.int .i64 g.L, .sref j5 0 (i+1) 1, .nils])).get jb=some (.cells .mut [pv']):=by rw [St.get_put,if_neg hne,h5 _ (by omega)];exact hb2
    have hpI:(ps'.length:Int)≤most:=hstl
    clear ids
    have hA5:PI B.next.length s (s5.put jd (.cells .mut [.int .i64 g.L, .sref j5 0 (i+1) 1, .nils])) g.L r8 r9 M ja jb jc jd pv' (.sref j5 0 (i+1) 1) .nils ps':=by
      obtain ⟨i1,i2,i3,i4,i5,i6,i7⟩:=hA2.ids
      have hk:=hA2.keep (s2:=s5) a3 fun id hid=>by
        rcases hid with hid | hid
        · exact h5 id hid
        · exact a4 id (hA2.nt.sp.lt hid) fun hu=>(hdj2 id hu).2 hid
      have N:=hk.nt
      have hpvd:¬ uses pv' jd:=fun hu=>by have:=hk.low jd hu;omega
      refine ⟨hk.ids,⟨N.le,N.a0,N.a1,N.b0,N.b1,N.m0,N.m1,N.ab,N.ma,N.mb,by rw [St.get_put,if_neg (by omega)];exact N.ga,by rw [St.get_put,if_neg (by omega)];exact N.gb,by rw [St.get_put,if_neg (by omega)];exact N.gM,N.sp.mono (Nat.le_refl _) fun id hu=>by rw [St.get_put,if_neg (by rintro rfl;exact hpvd hu)],N.dp,fun id h=>h.elim,fun id h=>h.elim⟩,hk.n7,by rw [St.get_put,if_neg (by omega)];exact hk.g8,by rw [St.get_put,if_neg (by omega)];exact hk.g9,by rw [St.get_put,if_neg (by omega)];exact hk.gc,by rw [St.get_put,if_pos rfl],hk.low,fun id hid=>by rw [St.get_put,if_neg (by omega)];exact hk.old id hid⟩
    have hS5:SkC (s5.put jd (.cells .mut [.int .i64 g.L, .sref j5 0 (i+1) 1, .nils])) (.sref j5 0 (i+1) 1) 1 (ints (sl++[(w:Int)])) (i+1):=by
      have ids:=hA2.ids
      have:ints (sl++[(w:Int)])=ints sl++[.int .i64 (w:Int)]:=by simp [ints]
      rw [this]
      exact a2.mono (by rw [St.n_put];omega) fun id hu=>by
        obtain rfl:=uses_sref.1 hu
        rw [St.get_put,if_neg (by omega)]
    have hdj5:∀ id,uses (.sref j5 0 (i+1) 1) id→s.n+7≤id∧¬ uses pv' id:=fun id hu=>by
      obtain rfl:=uses_sref.1 hu
      exact ⟨by omega,fun hu'=>by have:=hA2.nt.sp.lt hu';omega⟩
    clear hS2 hdj2 a1 a2 a3 a4 h5 hA2 gd2 gc2 hb2 fd2 fc2 hst2 hj5 e15 hr15n
    repeat' (first | refine gA @hsl2 ?_ | (refine gB @hsl2 ?_;intro bb hbb;cases bb<;>(try simp only [hbs,if_false,reduceCtorEq] at hbb)) | apply qc_seq | fail)
    · refine ⟨g.st.length - (i+1),by omega,i+1,pv', .sref j5 0 (i+1) 1,rfl,by omega,by rw [htk];exact hA5,by rw [htk2];exact hS5,hdj5,?_⟩
      simp only [lk,sv1,sv2,sv3,Nat.reduceEqDiff,Nat.reduceAdd,Nat.reduceLeDiff,reduceIte,if_false,if_true,mkVal,unLV,List.map,optTmps,hw,e0,e3,e6,e8,e9,e11,e12,e13,e26,e27,and_self]
    · exfalso;omega
  · -- the rows
    have hi':i=g.st.length:=by omega
    subst hi'
    rw [List.take_length] at hA hS
    rw [show addsN [] (g.st)=g.s0 from rfl] at hA
    have hpl0:=hA.nt.sp.len
    have gb0:=hA.nt.gb
    repeat' (first | refine gA @hpl0 ?_ | (refine gB @hpl0 ?_;intro bb hbb;cases bb<;>(try simp only [hbs,if_false,reduceCtorEq] at hbb)) | apply qc_seq | fail)
    rotate_left
    · exfalso;omega
    have hs0l:(g.s0.length:Int)≤most:=by
      have h0:g.s0.length≤([]:List Nat).length+g.st.length:=addsN_len [] g.st
      have h1:([]:List Nat).length=0:=rfl
      omega
    refine qc_loop (fun m e s1=>∃ (n:Nat) (ps:List Nat) (pv stv nxv:LV),m=g.N+1 - n∧n≤ps.length∧(ps.length:Int)≤most∧runN g.suc (g.N+1 - n) n ps=g.R∧PR B.next.length g s s1 r8 r9 M ja jb jc jd pv stv nxv ps n∧e.at 0 = .int .i64 g.L∧e.at 3 = .fn (.func 43) [] [.pimm [.int .i64 A.L,sa,na] 0, .pimm [.int .i64 B.L,sb,nb] 0]∧e.at 6 = .pimm [.int .i64 most] 0∧e.at 8 = .pref r8 0∧e.at 9 = .pref r9 0∧e.at 11 = .pref jb 0∧e.at 12 = .pref jc 0∧e.at 13 = .pref jd 0∧e.at 16 = .int .i64 (n:Int)) _
      ⟨0,g.s0,pv,stv, .nils,rfl,Nat.zero_le _,hs0l,rfl,⟨hA,hS,hdj,[],[],rfl,rfl,SkC.nil _ _,(fun id h=>absurd h (uses_nils id)),(fun i hi=>absurd hi (Nat.not_lt_zero _)),fun i hi=>absurd hi (Nat.not_lt_zero _)⟩,ef,ef,ef,ef,ef,ef,ef,ef,by simp only [lk,sv1,sv2,sv3,Nat.reduceEqDiff,Nat.reduceAdd,Nat.reduceLeDiff,reduceIte,if_false,if_true,mkVal,unLV,List.map,optTmps];rfl⟩ ?_
    clear hA hS hdj hpl hpl0 gb0 hbb hi hil e0 e3 e6 e8 e9 e11 e12 e13 e26 e27 e28
    clear pv stv e s1
    rintro m e s1 ⟨n,ps,pv,stv,nxv,rfl,hnp,hpm,hrun,hR,e0,e3,e6,e8,e9,e11,e12,e13,e16⟩
    have hpre:Pre ps g.R:=by rw [← hrun];exact runN_pre _ _ _ _
    have hpl:=gr_len hok hpre
    have gb0:=hR.ai.nt.gb
    have hpl0:=hR.ai.nt.sp.len
    by_cases hnl:n<ps.length
    · have hnI : (n : Int) < (ps.length : Int) := by omega
      have hw:IntKind.i64.wrap ((n:Int)+1)=((n+1:Nat):Int):=by rw [wrap_i64 _ (by omega) (by omega)];rfl
      obtain ⟨p,hp⟩:∃ p,ps[n]? = some p:=⟨_,List.getElem?_eq_getElem hnl⟩
      have hpN:p<g.N:=(gr_ok hok).2.1 p (hpre.mem (List.mem_of_getElem? hp))
      have hpT:g.R.getD n 0=p:=by
        obtain ⟨tl,htl⟩:=hpre
        rw [htl,List.getD_eq_getElem?_getD,List.getElem?_append_left hnl,hp];rfl
      repeat' (first | refine gA @hpl0 ?_ | (refine gB @hpl0 ?_;intro bb hbb;cases bb<;>(try simp only [hbs,if_false,reduceCtorEq] at hbb)) | apply qc_seq | fail)
      · exfalso;omega
      have hbig:(g.L:Int)*24≤big∧(g.L:Int)≤big:=by unfold big;omega
      refine q_gen (v:=.sref s1.n 0 g.L.toNat 1) (s':=s1.new (.cells .mut (List.replicate g.L.toNat .nils))) wN (by
        simp only [LOp.run,lk,sv1,sv2,sv3,Nat.reduceEqDiff,Nat.reduceAdd,Nat.reduceLeDiff,reduceIte,if_false,if_true,mkVal,unLV,List.map,optTmps,e0]
        rw [if_pos ⟨by omega,Int.le_refl _,hbig.1,hbig.2,trivial⟩,rep_one]) rfl trivial ?_
      simp only [Env.put_some]
      repeat' (first | refine gA @hpl0 ?_ | (refine gB @hpl0 ?_;intro bb hbb;cases bb<;>(try simp only [hbs,if_false,reduceCtorEq] at hbb)) | apply qc_seq | fail)
      obtain ⟨jr,hjr⟩:∃ jr,s1.n=jr:=⟨_,rfl⟩
      rw [hjr]
      have hn7:=hR.ai.n7
      have hL0:((g.L.toNat:Nat):Int)=g.L:=by omega
      have hrep:∀ k,k<g.L.toNat→(List.replicate g.L.toNat LV.nils).getD k .top = .nils:=fun k hk=>by simp [List.getD_eq_getElem?_getD,hk]
      have hrun':g.R=runN g.suc (g.N - n) (n+1) (addsN ps (g.suc p)):=by
        rw [← hrun,show g.N+1 - n=(g.N - n)+1 by omega]
        simp only [runN,hp]
      have hpreS:∀ a,a≤g.L.toNat→Pre (addsN ps ((List.range a).flatMap (g.sa p))) g.R:=fun a ha=>by
        rw [hrun']
        refine Pre.trans ?_ (runN_pre _ _ _ _)
        obtain ⟨d,hd⟩:∃ d,g.L.toNat=a+d:=⟨g.L.toNat - a,by omega⟩
        have:g.suc p=(List.range a).flatMap (g.sa p)++((List.range d).map (a + ·)).flatMap (g.sa p):=by
          rw [Grf.suc,hd,List.range_add,List.flatMap_append]
        rw [this,addsN_append]
        exact addsN_pre _ _
      refine qc_loop (fun m e s2=>∃ (a:Nat) (ps2:List Nat) (pv2:LV) (rc:List LV) (row:List Moves) (U:Nat→Nat→Prop),m=g.L.toNat - a∧a≤g.L.toNat∧ps2=addsN ps ((List.range a).flatMap (g.sa p))∧(ps2.length:Int)≤most∧PI B.next.length s s2 g.L r8 r9 M ja jb jc jd pv2 stv nxv ps2∧Fr1 s1 s2 ja jb M pv pv2∧jr<s2.n∧s2.get jr=some (.cells .mut rc)∧rc.length=g.L.toNat∧row.length=a∧(∀ k,a≤k→k<g.L.toNat→rc.getD k .top = .nils)∧¬ uses pv2 jr∧(∀ k,k<a→FZ (U k) (fun v'=>IsMoves v' (row.getD k [])) 39 (rc.getD k .top) s2)∧(∀ k k' id,k<a→k'<a→k≠k'→U k id→¬ U k' id)∧(∀ k id,k<a→U k id→jr<id∧id<s2.n∧¬ uses pv2 id)∧RowP g p row a∧e.at 0 = .int .i64 g.L∧e.at 3 = .fn (.func 43) [] [.pimm [.int .i64 A.L,sa,na] 0, .pimm [.int .i64 B.L,sb,nb] 0]∧e.at 6 = .pimm [.int .i64 most] 0∧e.at 8 = .pref r8 0∧e.at 9 = .pref r9 0∧e.at 11 = .pref jb 0∧e.at 12 = .pref jc 0∧e.at 13 = .pref jd 0∧e.at 16 = .int .i64 (n:Int)∧e.at 17 = .sref jr 0 g.L.toNat 1∧e.at 55 = .int .i64 ((g.L.toNat:Nat):Int)∧e.at 56 = .int .i64 (a:Int)) _
        ⟨0,ps,pv,List.replicate g.L.toNat .nils,[],fun _ _=>False,rfl,Nat.zero_le _,rfl,hpm,hR.ai.keep (by simp) (fun id hid=>by
          rw [St.get_new,if_neg]
          rcases hid with hid | hid
          · omega
          · have:=hR.ai.nt.sp.lt hid;omega),(Fr1.refl s1 ja jb M pv).young (by simp) (fun id hid=>by rw [St.get_new,if_neg (by omega)]),by rw [St.n_new];omega,by rw [St.get_new,if_pos hjr.symm],by simp,rfl,fun k _ hk=>hrep k hk,fun hu=>by have:=hR.ai.nt.sp.lt hu;omega,(fun k hk=>absurd hk (Nat.not_lt_zero _)),(fun k k' id hk=>absurd hk (Nat.not_lt_zero _)),(fun k id hk=>absurd hk (Nat.not_lt_zero _)),(fun k hk=>absurd hk (Nat.not_lt_zero _)),ef,ef,ef,ef,ef,ef,ef,ef,ef,ef,ef,by simp only [lk,sv1,sv2,sv3,Nat.reduceEqDiff,Nat.reduceAdd,Nat.reduceLeDiff,reduceIte,if_false,if_true,mkVal,unLV,List.map,optTmps];rfl⟩ ?_
      clear e0 e3 e6 e8 e9 e11 e12 e13 e16 hbb gb0 hpl0 hnI
      clear e
      rintro m e s2 ⟨a,ps2,pv2,rc,row,U,rfl,ha,hps2,hpm2',hA,hF,hjr2,grc,hrcl,hrowl,hnil,hupr,hFZ,hU1,hU2,hRT,e0,e3,e6,e8,e9,e11,e12,e13,e16,e17,e55,e56⟩
      by_cases hal:a<g.L.toNat
      · have haI:(a:Int)<((g.L.toNat:Nat):Int):=by omega
        have haL:(a:Int)<g.L:=by omega
        have hwa:IntKind.i64.wrap ((a:Int)+1)=((a+1:Nat):Int):=by rw [wrap_i64 _ (by omega) (by omega)];rfl
        have hpp2:Pre ps ps2:=by rw [hps2];exact addsN_pre _ _
        have hnl2:n<ps2.length:=by
          obtain ⟨tl,htl⟩:=hpp2
          rw [htl,List.length_append];omega
        have hp2:ps2[n]? = some p:=by
          obtain ⟨tl,htl⟩:=hpp2
          rw [htl,List.getElem?_append_left hnl];exact hp
        have gb2:=hA.nt.gb
        obtain ⟨pid,hpv,hpid,hpg⟩:=hA.nt.sp.pos (by omega)
        have hnI2:(n:Int)<(ps2.length:Int):=by omega
        have hn72:=hA.n7
        have ids:=hA.ids
        have gbn:(s2.new (.cells .mut [.nils])).get jb=some (.cells .mut [pv2]):=by rw [St.get_new,if_neg (by omega)];exact gb2
        have hia:∀ s',iaLV 3 pv2 (.int .i64 (n:Int)) s'=some (.pref pid (n*3),s'):=fun s'=>by rw [hpv,iaS hnI2,Nat.zero_add]
        have hgp:loadLV (some 3) (.pref pid (n*3)) (s2.new (.cells .mut [.nils]))=some (.agg [.int .i64 (px B.next.length p), .int .i64 (py B.next.length p), .int .i64 (pt p)]) :=
          loadN_pairsR hp2 (md:=.mut) (by rw [St.get_new,if_neg (by omega)];exact hpg)
        clear hpv ids
        repeat' (first | refine gA (And.intro @hia @hgp) ?_ | (refine gB (And.intro @hia @hgp) ?_;intro bb hbb;cases bb<;>(try simp only [hbs,if_false,reduceCtorEq] at hbb)) | apply qc_seq | fail)
        · exfalso;omega
        refine q_call wN (fv:=.fn (.func 43) [] [.pimm [.int .i64 A.L,sa,na] 0, .pimm [.int .i64 B.L,sb,nb] 0]) (vs:=[.agg [.int .i64 (px B.next.length p), .int .i64 (py B.next.length p), .int .i64 (pt p)], .int .i64 (a:Int)]) ef (by simp only [List.map,lk,sv1,sv2,sv3,Nat.reduceEqDiff,Nat.reduceAdd,Nat.reduceLeDiff,reduceIte,if_false,if_true,mkVal,unLV,List.map,optTmps]) (CallOk.mono (pmoves_ok hA0 hB0 (px B.next.length p) (py B.next.length p) (pt p) a _) fun r s3 hh=>⟨trivial,?_⟩)
        obtain ⟨rfl,rfl⟩:=hh
        simp only [Env.put_some]
        repeat' (first | refine gA trivial ?_ | (refine gB trivial ?_;intro bb hbb;cases bb<;>(try simp only [hbs,if_false,reduceCtorEq] at hbb)) | apply qc_seq | fail)
        obtain ⟨jl,hjl⟩:∃ jl,s2.n=jl:=⟨_,rfl⟩
        rw [hjl]
        have hA3:=hA.keep (s2:=s2.new (.cells .mut [.nils])) (by simp) (fun id hid=>by
          rw [St.get_new,if_neg]
          rcases hid with hid | hid
          · omega
          · have:=hA.nt.sp.lt hid;omega)
        have hF3:Fr1 s2 (s2.new (.cells .mut [.nils])) ja jb M pv2 pv2:=(Fr1.refl s2 ja jb M pv2).young (by simp) (fun id hid=>by rw [St.get_new,if_neg (by omega)])
        have gl3:(s2.new (.cells .mut [.nils])).get jl=some (.cells .mut [.nils]):=by rw [St.get_new,if_pos hjl.symm]
        have hn3':(s2.new (.cells .mut [.nils])).n=jl+1:=by rw [St.n_new,hjl]
        have hp2lt:∀ id,uses pv2 id→id<jl:=fun id hu=>by have:=hA.nt.sp.lt hu;omega
        have hjl7:s.n+7≤jl:=by have:=hA.n7;omega
        generalize s2.new (.cells .mut [.nils])=s3 at hA3 hF3 gl3 hn3' ⊢
        have hms:∀ (k:Nat) (m:Nat × Bool),(g.mv p a)[k]? = some m→(g.sa p a)[k]? = some m.1:=fun k m hm=>by
          simp only [Grf.sa,List.getElem?_map,hm,Option.map_some]
        have hmvx:mvX A B (p / 2 / B.next.length) (p / 2 % B.next.length) (p % 2) a=g.mv p a:=by rw [hg.out];rfl
        have hpm2:p<A.next.length*B.next.length*2:=by
          have:g.N=A.next.length*B.next.length*2:=by rw [hg.out];rfl
          omega
        have hmb0:0<B.next.length:=by
          rcases Nat.eq_zero_or_pos B.next.length with h | h
          · rw [h] at hpm2;omega
          · exact h
        have hpx:p / 2 / B.next.length<A.next.length:=(Nat.div_lt_iff_lt_mul hmb0).2 (by omega)
        have hpy:p / 2 % B.next.length<B.next.length:=Nat.mod_lt _ hmb0
        have haA:(a:Int)<A.L:=by have:=hAi.out;omega
        have hpre4:∀ k,Pre (addsN ps2 ((g.sa p a).take k)) g.R:=fun k=>by
          have h1:=hpreS (a+1) (by omega)
          rw [List.range_succ,List.flatMap_append,addsN_append,← hps2] at h1
          refine Pre.trans ?_ h1
          have:(List.flatMap (g.sa p) [a])=(g.sa p a).take k++(g.sa p a).drop k:=by simp
          rw [this,addsN_append]
          exact addsN_pre _ _
        have hRl:∀ (ps':List Nat),Pre ps' g.R→ps'.length≤g.R.length:=fun ps' ⟨tl,htl⟩=>by rw [htl,List.length_append];omega
        have hids2:Bx _:=⟨hA3.ids⟩
        have hold2:=hA3.old
        refine prange_lim (U0:=fun id=>uses pv2 id∨uses LV.nils id) hA0 hB0 okA okB hL.out hpx hpy (Nat.mod_lt p (by decide)) haA (by simp only [lk,sv1,sv2,sv3,Nat.reduceEqDiff,Nat.reduceAdd,Nat.reduceLeDiff,reduceIte,if_false,if_true,mkVal,unLV,List.map,optTmps]<;>rfl) (fun k U s4=>∃ (ps4:List Nat) (pv4 lv:LV),U=(fun id=>uses pv4 id∨uses lv id)∧PI B.next.length s s4 g.L r8 r9 M ja jb jc jd pv4 stv nxv ps4∧Fr1 s2 s4 ja jb M pv2 pv4∧(∀ id,uses pv4 id→uses pv2 id∨jl+1<id)∧ps4=addsN ps2 ((g.sa p a).take k)∧s4.get jl=some (.cells .mut [lv])∧SkC s4 lv 2 (mcells ((g.ren (g.mv p a)).take k)) k∧(∀ id,uses lv id→jl+1<id∧¬ uses pv4 id)∧(k=0→lv = .nils)∧(ps4.length:Int)≤most) (fun j s4=>j = .ret∧most<(g.R.length:Int)∧s4.get r8=some (.cells .mut [.int .i64 0, .nils, .nils])∧s4.get r9=some (.cells .mut [.int .i64 2])∧s.n≤s4.n∧∀ id,id<s.n→s4.get id=s.get id) ?_ ?_ ?_ ?_ ?_ ?_ ?_
        · exact ⟨ps2,pv2, .nils,rfl,hA3,hF3,fun id hu=>.inl hu,by simp [addsN],gl3,SkC.nil _ _,fun id hu=>absurd hu (uses_nils id),fun _=>rfl,hpm2'⟩
        · rintro k U4 s4 ⟨ps4,pv4,lv,rfl,h1,h2,h3,h4,h5,h6,h7,h7',h9⟩ id hu
          rcases hu with hu | hu
          · exact h1.nt.sp.lt hu
          · exact h6.lt hu
        · rintro k U4 s4 s5 ⟨ps4,pv4,lv,rfl,h1,h2,h3,h4,h5,h6,h7,h7',h11⟩ h8 h9 h10
          rw [hn3'] at h8 h10
          have hk:∀ id,id<jl+1→s5.get id=s4.get id:=fun id h=>h10 id (by omega) (.inl h)
          refine ⟨ps4,pv4,lv,rfl,h1.keep h9 fun id hid=>?_,h2.young h9 fun id hid=>hk id (by omega),h3,h4,by rw [hk _ (by omega)];exact h5,h6.mono h9 fun id hu=>h10 id (h6.lt hu) (.inr (.inr hu)),h7,h7',h11⟩
          rcases hid with hid | hid
          · exact hk id (by omega)
          · exact h10 id (h1.nt.sp.lt hid) (.inr (.inl hid))
        · rintro j s4 s5 ⟨h1,h2,h3,h4,h5,h6⟩ h7 h8
          obtain ⟨hids2⟩:=hids2
          rw [hn3'] at *
          exact ⟨h1,h2,by rw [h8 _ (by omega)];exact h3,by rw [h8 _ (by omega)];exact h4,by omega,fun id hid=>by rw [h8 _ (by omega)];exact h6 id hid⟩
        · rintro k m U4 s4 b1 b2 hmk ⟨ps4,pv4,lv,rfl,h1,h2,h3,h4,h5,h6,h7,h7',h7m⟩ hn4 hrec hnu nt'
          rw [hmvx] at hmk
          rw [hn3'] at hn4 hrec hnu ⊢
          have hsq:=hms k m hmk
          obtain ⟨q,mg⟩:=m
          simp only at hsq ⊢
          repeat' (first | refine gA trivial ?_ | (refine gB trivial ?_;intro bb hbb;cases bb<;>(try simp only [hbs,if_false,reduceCtorEq] at hbb)) | apply qc_seq | fail)
          refine ⟨by rw [St.get_put,if_neg (by omega),St.get_new,if_neg (by omega)];exact hrec,?_⟩
          obtain ⟨r20,hr20⟩:∃ r20,s4.n=r20:=⟨_,rfl⟩
          have ids:=h1.ids
          have hn47:=h1.n7
          have hk4:∀ id,id<s4.n→id≠jl+1→(((s4.new (.cells .mut [.int .i64 0, .int .i64 0, .int .i64 0])).put s4.n (.cells .mut [.int .i64 (px B.next.length q), .int .i64 (py B.next.length q), .int .i64 (pt q)])).put (jl+1) b2).get id=s4.get id:=fun id h h'=>by rw [St.get_put,if_neg h',St.get_put,if_neg (by omega),St.get_new,if_neg (by omega)]
          have hnu4:∀ id,uses pv4 id→id≠jl+1:=fun id hu=>by rcases h3 id hu with h | h<;>(try have:=hp2lt id h)<;>omega
          have g1:=h1.keep (s2:=((s4.new (.cells .mut [.int .i64 0, .int .i64 0, .int .i64 0])).put s4.n (.cells .mut [.int .i64 (px B.next.length q), .int .i64 (py B.next.length q), .int .i64 (pt q)])).put (jl+1) b2) (by simp) fun id hid=>by
            rcases hid with hid | hid
            · exact hk4 id (by omega) (by omega)
            · exact hk4 id (h1.nt.sp.lt hid) (hnu4 id hid)
          have g2:Fr1 s2 (((s4.new (.cells .mut [.int .i64 0, .int .i64 0, .int .i64 0])).put s4.n (.cells .mut [.int .i64 (px B.next.length q), .int .i64 (py B.next.length q), .int .i64 (pt q)])).put (jl+1) b2) ja jb M pv2 pv4:=h2.young (by simp) fun id hid=>hk4 id (by omega) (by omega)
          have g5:(((s4.new (.cells .mut [.int .i64 0, .int .i64 0, .int .i64 0])).put s4.n (.cells .mut [.int .i64 (px B.next.length q), .int .i64 (py B.next.length q), .int .i64 (pt q)])).put (jl+1) b2).get jl=some (.cells .mut [lv]):=by rw [hk4 _ (by omega) (by omega)];exact h5
          have g6:SkC (((s4.new (.cells .mut [.int .i64 0, .int .i64 0, .int .i64 0])).put s4.n (.cells .mut [.int .i64 (px B.next.length q), .int .i64 (py B.next.length q), .int .i64 (pt q)])).put (jl+1) b2) lv 2 (mcells ((g.ren (g.mv p a)).take k)) k:=h6.mono (by simp) fun id hu=>hk4 id (h6.lt hu) (by have:=(h7 id hu).1;omega)
          have gr:(((s4.new (.cells .mut [.int .i64 0, .int .i64 0, .int .i64 0])).put s4.n (.cells .mut [.int .i64 (px B.next.length q), .int .i64 (py B.next.length q), .int .i64 (pt q)])).put (jl+1) b2).get (jl+1)=some b2:=by rw [St.get_put,if_pos rfl]
          have gn:(((s4.new (.cells .mut [.int .i64 0, .int .i64 0, .int .i64 0])).put s4.n (.cells .mut [.int .i64 (px B.next.length q), .int .i64 (py B.next.length q), .int .i64 (pt q)])).put (jl+1) b2).n=r20+1:=by rw [St.n_put,St.n_put,St.n_new,hr20]
          have g20:(((s4.new (.cells .mut [.int .i64 0, .int .i64 0, .int .i64 0])).put s4.n (.cells .mut [.int .i64 (px B.next.length q), .int .i64 (py B.next.length q), .int .i64 (pt q)])).put (jl+1) b2).get r20=some (.cells .mut [.int .i64 (px B.next.length q), .int .i64 (py B.next.length q), .int .i64 (pt q)]):=by rw [St.get_put,if_neg (by omega),St.get_put,if_pos hr20.symm]
          have hu20:¬ uses pv4 r20∧¬ uses lv r20:=⟨fun hu=>by have:=h1.nt.sp.lt hu;omega,fun hu=>by have:=h6.lt hu;omega⟩
          have hfr:∀ id,jl+1+1≤id→id<s4.n→(((s4.new (.cells .mut [.int .i64 0, .int .i64 0, .int .i64 0])).put s4.n (.cells .mut [.int .i64 (px B.next.length q), .int .i64 (py B.next.length q), .int .i64 (pt q)])).put (jl+1) b2).get id=s4.get id:=fun id c1 c2=>hk4 id c2 (by omega)
          simp only [hr20] at g1 g2 g5 g6 gr gn g20 hfr ⊢
          generalize ((s4.new (.cells .mut [.int .i64 0, .int .i64 0, .int .i64 0])).put r20 (.cells .mut [.int .i64 (px B.next.length q), .int .i64 (py B.next.length q), .int .i64 (pt q)])).put (jl+1) b2=s5 at g1 g2 g5 g6 gr gn g20 hfr ⊢
          have hn4r:jl+1+1≤r20:=by omega
          clear h1 h2 h5 h6 hk4 hrec ids hn4 hr20 hn47 hnu
          have gc5:=g1.gc
          have hsz:=hpre4 k
          rw [← h4] at hsz
          have hpl4:=gr_len hok hsz
          repeat' (first | refine gA trivial ?_ | (refine gB trivial ?_;intro bb hbb;cases bb<;>(try simp only [hbs,if_false,reduceCtorEq] at hbb)) | apply qc_seq | fail)
          have htk:addsN ps2 ((g.sa p a).take (k+1))=addN ps4 q:=by
            have:(g.sa p a).take (k+1)=(g.sa p a).take k++[q]:=by rw [List.take_add_one,hsq];rfl
            rw [this,addsN_snoc,← h4]
          have htk2:mcells ((g.ren (g.mv p a)).take (k+1))=mcells ((g.ren (g.mv p a)).take k)++[.int .i64 (numN g.R q:Int), .bool mg]:=by
            have h0:(g.ren (g.mv p a))[k]? = some ((numN g.R q:Int),mg):=by
              simp only [Grf.ren,List.getElem?_map,hmk,Option.map_some]
            rw [List.take_add_one,h0]
            simp [mcells_append,mcells]
          have hpre5:=hpre4 (k+1)
          rw [htk] at hpre5
          have hnum:numN (addN ps4 q) q=numN g.R q:=(numN_pre hpre5 (addN_mem _ _)).symm
          have hpl5:=gr_len hok hpre5
          refine q_call wN (fv:=.fn (.func 61) [] [.pref ja 0, .pref jb 0]) (vs:=[.agg [.int .i64 (px B.next.length q), .int .i64 (py B.next.length q), .int .i64 (pt q)]]) ef (by simp only [List.map,lk,sv1,sv2,sv3,Nat.reduceEqDiff,Nat.reduceAdd,Nat.reduceLeDiff,reduceIte,if_false,if_true,mkVal,unLV,List.map,optTmps]) (CallOk.mono (pan_ok g1 (by omega) q) fun r s6 hh=>?_)
          obtain ⟨pv6,rfl,k1,kn,ku,kg⟩:=hh
          rw [hnum]
          have ids:=g1.ids
          have hjlu:∀ id,id=jl∨id=jl+1→¬ uses pv4 id:=fun id hid hu=>by rcases h3 id hu with h | h<;>(try have:=hp2lt id h)<;>omega
          have gl6:s6.get jl=some (.cells .mut [lv]):=by rw [kg jl (by omega) (by omega) (by omega) (by omega) (hjlu _ (.inl rfl))];exact g5
          have gr6:s6.get (jl+1)=some b2:=by rw [kg (jl+1) (by omega) (by omega) (by omega) (by omega) (hjlu _ (.inr rfl))];exact gr
          have gS6:=g6.mono kn fun id hu=>kg id (g6.lt hu) (by have:=(h7 id hu).1;omega) (by have:=(h7 id hu).1;omega) (by have:=(h7 id hu).1;omega) (h7 id hu).2
          have gc6:=k1.gc
          have gb6:=k1.nt.gb
          have hpl6:=k1.nt.sp.len
          have hlv6:∀ id,uses lv id→jl+1<id∧id<s6.n∧¬ uses pv6 id:=fun id hu=>⟨(h7 id hu).1,gS6.lt hu,fun hu'=>by
            rcases ku id hu' with h | h
            · exact (h7 id hu).2 h
            · have:=g6.lt hu;omega⟩
          have hk6:k≤1000000:=by
            have h0:=(List.getElem?_eq_some_iff.1 hmk).1
            have:=hok.mvl p a hpN
            omega
          have g206:s6.get r20=some (.cells .mut [.int .i64 (px B.next.length q), .int .i64 (py B.next.length q), .int .i64 (pt q)]):=by rw [kg r20 (by omega) (by omega) (by omega) (by omega) hu20.1];exact g20
          have hfr6:∀ id,jl+1+1≤id→id<r20→¬ (uses pv4 id∨uses lv id)→s6.get id=s4.get id:=fun id c1 c2 c3=>by
            rw [kg id (by omega) (by omega) (by omega) (by omega) fun hu=>c3 (.inl hu)]
            exact hfr id c1 c2
          generalize numN g.R q=w at *
          have hs67:s.n+7≤s6.n:=k1.n7
          have hnd:∀ id,id<jl+2→(s6.new (.cells .mut [.int .i64 (w:Int), .bool mg])).get id=s6.get id:=fun id hid=>by rw [St.get_new,if_neg (by omega)]
          have fl6:(s6.new (.cells .mut [.int .i64 (w:Int), .bool mg])).get jl=some (.cells .mut [lv]):=by rw [hnd _ (by omega)];exact gl6
          have fc6:(s6.new (.cells .mut [.int .i64 (w:Int), .bool mg])).get jc=some (.cells .mut [.fn (.func 61) [] [.pref ja 0, .pref jb 0]]):=by rw [hnd _ (by omega)];exact gc6
          have f20:(s6.new (.cells .mut [.int .i64 (w:Int), .bool mg])).get r20=some (.cells .mut [.int .i64 (px B.next.length q), .int .i64 (py B.next.length q), .int .i64 (pt q)]):=by rw [St.get_new,if_neg (by omega)];exact g206
          clear ids hnd hfr g20
          refine ⟨⟨.inr ⟨rfl,by simp only [LOp.run,lk,sv1,sv2,sv3,Nat.reduceEqDiff,Nat.reduceAdd,Nat.reduceLeDiff,reduceIte,if_false,if_true,mkVal,unLV,List.map,optTmps,Env.put_some,gl6,Option.bind_eq_bind]⟩,trivial⟩,?_⟩
          simp only [Env.put_some]
          refine q_gen (v:=.agg [.int .i64 (w:Int), .bool mg]) (s':=s6) wN (by simp only [LOp.run,lk,sv1,sv2,sv3,Nat.reduceEqDiff,Nat.reduceAdd,Nat.reduceLeDiff,reduceIte,if_false,if_true,mkVal,unLV,List.map,optTmps,evParts,fillParts];rfl) rfl trivial ?_
          simp only [Env.put_some]
          refine q_appK (n:=k) (esz:=2) (xv:=.agg [.int .i64 (w:Int), .bool mg]) (yv:=lv) (vs:=[.int .i64 (w:Int), .bool mg]) ef rfl rfl rfl rfl ef gS6 ⟨.inr ⟨rfl,by simp only [LOp.run,lk,sv1,sv2,sv3,Nat.reduceEqDiff,Nat.reduceAdd,Nat.reduceLeDiff,reduceIte,if_false,if_true,mkVal,unLV,List.map,optTmps,fl6,Option.bind_eq_bind]⟩, .inr ⟨rfl,by simp only [LOp.run,lk,sv1,sv2,sv3,Nat.reduceEqDiff,Nat.reduceAdd,Nat.reduceLeDiff,reduceIte,if_false,if_true,mkVal,unLV,List.map,optTmps,e12,fc6,Option.bind_eq_bind]⟩, .inr ⟨rfl,by simp only [LOp.run,lk,sv1,sv2,sv3,Nat.reduceEqDiff,Nat.reduceAdd,Nat.reduceLeDiff,reduceIte,if_false,if_true,mkVal,unLV,List.map,optTmps,f20,Option.bind_eq_bind,Option.bind_some,List.drop_zero,List.take_succ_cons,List.take_zero]⟩,trivial⟩ (by decide) (by omega) (fun s7 j7 a1 a2 a3 a4=>?_)
          have ids:=k1.ids
          have h5n:jl+2≤s5.n:=by omega
          have gl7:s7.get jl=some (.cells .mut [lv]):=by rw [a4 jl (by omega) fun hu=>by have:=(hlv6 jl hu).1;omega];exact gl6
          have hk8:∀ id,id<s6.n→id≠jl→¬ uses lv id→(s7.put jl (.cells .mut [.sref j7 0 (k+1) 2])).get id=s6.get id:=fun id c1 c2 c3=>by rw [St.get_put,if_neg c2,a4 id c1 c3]
          have gb8:(s7.put jl (.cells .mut [.sref j7 0 (k+1) 2])).get jb=some (.cells .mut [pv6]):=by rw [hk8 _ (by omega) (by omega) fun hu=>by have:=(hlv6 jb hu).1;omega];exact gb6
          have hj7:j7<s7.n:=a2.lt (uses_sref.2 rfl)
          have h6j:∀ id,uses pv6 id→id≠jl:=fun id hu e=>by
            subst e
            rcases ku _ hu with h | h
            · exact hjlu _ (.inl rfl) h
            · omega
          have hA8:=k1.keep (s2:=s7.put jl (.cells .mut [.sref j7 0 (k+1) 2])) a3 fun id hid=>by
            rcases hid with hid | hid
            · exact hk8 id (by omega) (by omega) fun hu=>by have:=(hlv6 id hu).1;omega
            · exact hk8 id (k1.nt.sp.lt hid) (h6j id hid) fun hu=>(hlv6 id hu).2.2 hid
          have hF8:Fr1 s2 (s7.put jl (.cells .mut [.sref j7 0 (k+1) 2])) ja jb M pv2 pv6:=(g2.trans ⟨kn,ku,kg⟩).young a3 fun id hid=>hk8 id (by omega) (by omega) fun hu=>by have:=(hlv6 id hu).1;omega
          have gr8:(s7.put jl (.cells .mut [.sref j7 0 (k+1) 2])).get (jl+1)=some b2:=by rw [hk8 _ (by omega) (by omega) fun hu=>by have:=(hlv6 _ hu).1;omega];exact gr6
          have gS8:SkC (s7.put jl (.cells .mut [.sref j7 0 (k+1) 2])) (.sref j7 0 (k+1) 2) 2 (mcells ((g.ren (g.mv p a)).take (k+1))) (k+1):=by
            rw [htk2]
            exact a2.mono (Nat.le_refl _) fun id hu=>by
              obtain rfl:=uses_sref.1 hu
              rw [St.get_put,if_neg (by omega)]
          have hu8:∀ id,uses pv6 id→uses pv2 id∨jl+1<id:=fun id hu=>by
            rcases ku id hu with h | h
            · exact h3 id h
            · exact .inr (by omega)
          have hl8:∀ id,uses (.sref j7 0 (k+1) 2) id→jl+1<id∧¬ uses pv6 id:=fun id hu=>by
            obtain rfl:=uses_sref.1 hu
            exact ⟨by omega,fun hu'=>by have:=k1.nt.sp.lt hu';omega⟩
          have gl8:(s7.put jl (.cells .mut [.sref j7 0 (k+1) 2])).get jl=some (.cells .mut [.sref j7 0 (k+1) 2]):=by rw [St.get_put,if_pos rfl]
          have hn8:r20≤(s7.put jl (.cells .mut [.sref j7 0 (k+1) 2])).n:=by rw [St.n_put];omega
          have hfr8:∀ id,jl+1+1≤id→id<r20→¬ (uses pv4 id∨uses lv id)→(s7.put jl (.cells .mut [.sref j7 0 (k+1) 2])).get id=s4.get id:=fun id c1 c2 c3=>by
            rw [hk8 id (by omega) (by omega) fun hu=>c3 (.inr hu)]
            exact hfr6 id c1 c2 c3
          have hUU:∀ id,uses pv6 id∨uses (.sref j7 0 (k+1) 2) id→(uses pv4 id∨uses lv id)∨r20≤id:=fun id hu=>by
            rcases hu with hu | hu
            · rcases ku id hu with h | h
              · exact .inl (.inl h)
              · exact .inr (by omega)
            · obtain rfl:=uses_sref.1 hu
              exact .inr (by omega)
          have hlim:¬ ((addN ps4 q).length:Int)≤most→most<(g.R.length:Int):=fun hn=>by
            have:=hRl _ hpre5
            omega
          have g88:=hA8.g8
          have g89:=hA8.g9
          have hold8:=hA8.old
          have hn87:=hA8.n7
          clear ids f20 g206 hfr6
          repeat' (first | refine gA @hpl6 ?_ | (refine gB @hpl6 ?_;intro bb hbb;cases bb<;>(try simp only [hbs,if_false,reduceCtorEq] at hbb)) | apply qc_seq | fail)
          · exact ⟨gr8,hn8,(fun id=>uses pv6 id∨uses (.sref j7 0 (k+1) 2) id),hfr8,hUU,addN ps4 q,pv6, .sref j7 0 (k+1) 2,rfl,hA8,hF8,hu8,htk.symm,gl8,gS8,hl8,(by intro h;first | exact h.elim | cases h),by omega⟩
          · refine q_run0 (v:=.agg [.int .i64 0, .nils, .nils]) (by simp only [LOp.run,lk,sv1,sv2,sv3,Nat.reduceEqDiff,Nat.reduceAdd,Nat.reduceLeDiff,reduceIte,if_false,if_true,mkVal,unLV,List.map,optTmps,evParts,fillParts];rfl) ?_
            repeat' (first | refine gA (And.intro @g88 @g89) ?_ | (refine gB (And.intro @g88 @g89) ?_;intro bb hbb;cases bb<;>(try simp only [hbs,if_false,reduceCtorEq] at hbb)) | apply qc_seq | fail)
            refine q_storeG (i:=r9) (o:=0) (n:=1) (cs:=[.int .i64 0]) (vs:=[.int .i64 2]) (cs':=[.int .i64 2]) (v:=.int .i64 2) ef ef rfl (by rw [St.get_put,if_neg (by have:=hA8.ids;omega)];exact g89) rfl (by simp) rfl ?_
            repeat' (first | refine gA trivial ?_ | (refine gB trivial ?_;intro bb hbb;cases bb<;>(try simp only [hbs,if_false,reduceCtorEq] at hbb)) | apply qc_seq | fail)
            have hid8:=hA8.ids
            refine ⟨by rw [St.get_put,if_neg (by omega),St.get_put,if_neg (by omega)];exact gr8,by simp only [St.n_put] at hn8 ⊢;exact hn8,trivial,hlim (by omega),by rw [St.get_put,if_neg (by omega),St.get_put,if_pos rfl],by rw [St.get_put,if_pos rfl],by simp only [St.n_put] at hn87 ⊢;omega,fun id hid=>by rw [St.get_put,if_neg (by omega),St.get_put,if_neg (by omega)];exact hold8 id hid⟩
        · -- the list is sorted
          rintro U4 s4 ⟨ps4,pv4,lv,rfl,h1,h2,h3,h4,h5,h6,h7,h7',h7m⟩ hn4
          rw [hn3'] at hn4
          rw [hmvx] at h4 h6 h7'
          have hfl:(g.ren (g.mv p a)).take (g.mv p a).length=g.ren (g.mv p a):=by
            have:(g.mv p a).length=(g.ren (g.mv p a)).length:=by simp [Grf.ren]
            rw [this,List.take_length]
          have hfs:(g.sa p a).take (g.mv p a).length=g.sa p a:=by
            have:(g.mv p a).length=(g.sa p a).length:=by simp [Grf.sa]
            rw [this,List.take_length]
          rw [hfl] at h6
          rw [hfs] at h4
          have hml6:=hok.mvl p a hpN
          have hinR:∀ x∈g.mv p a,x.1∈g.R:=fun x hx=>by
            have hpm:p∈g.R:=hpre.mem (List.mem_of_getElem? hp)
            refine (gr_ok hok).2.2 p hpm _ (List.mem_flatMap.2 ⟨a,by simpa using hal,?_⟩)
            exact List.mem_map.2 ⟨x,hx,rfl⟩
          have hinI:∀ x∈g.ren (g.mv p a),inI64 x.1:=fun x hx=>by
            obtain ⟨y,hy,rfl⟩:=List.mem_map.1 hx
            have h0:=numN_lt (hinR y hy)
            have h8:=gr_len hok (Pre.refl g.R)
            constructor<;>(show _≤_)<;>simp only<;>omega
          have hrl:(g.ren (g.mv p a)).length=(g.mv p a).length:=by simp [Grf.ren]
          generalize hren:g.ren (g.mv p a)=rl at *
          have hjrl:jr<jl:=by omega
          have hjr7:s.n+7≤jr:=by omega
          have grc4:s4.get jr=some (.cells .mut rc):=by
            have ids:=h1.ids
            rw [h2.g jr (by omega) (by omega) (by omega) (by omega) hupr];exact grc
          have pack:∀ (v:LV) (msf:Moves) (Ua:Nat→Prop) (s6:St),s4.n≤s6.n→(∀ id,id<s4.n→¬ uses lv id→s6.get id=s4.get id)→FZ Ua (fun v'=>IsMoves v' msf) 39 v s6→(∀ id,Ua id→uses lv id)→(∀ x,x∈msf↔x∈rl)→SSt msf →
              ∃ (row':List Moves) (U':Nat→Nat→Prop),PI B.next.length s (s6.put jr (.cells .mut (rc.set a v))) g.L r8 r9 M ja jb jc jd pv4 stv nxv ps4∧Fr1 s1 (s6.put jr (.cells .mut (rc.set a v))) ja jb M pv pv4∧jr<(s6.put jr (.cells .mut (rc.set a v))).n∧(s6.put jr (.cells .mut (rc.set a v))).get jr=some (.cells .mut (rc.set a v))∧(rc.set a v).length=g.L.toNat∧row'.length=a+1∧(∀ k,a+1≤k→k<g.L.toNat→(rc.set a v).getD k .top = .nils)∧¬ uses pv4 jr∧(∀ k,k<a+1→FZ (U' k) (fun v'=>IsMoves v' (row'.getD k [])) 39 ((rc.set a v).getD k .top) (s6.put jr (.cells .mut (rc.set a v))))∧(∀ k k' id,k<a+1→k'<a+1→k≠k'→U' k id→¬ U' k' id)∧(∀ k id,k<a+1→U' k id→jr<id∧id<(s6.put jr (.cells .mut (rc.set a v))).n∧¬ uses pv4 id)∧RowP g p row' (a+1):=by
            intro v msf Ua s6 q1 q2 q3 q4 q5 q6
            have ids:=h1.ids
            have hup4:∀ id,uses pv4 id→id≠jr:=fun id hu e=>by
              subst e
              rcases h3 _ hu with h | h
              · exact hupr h
              · omega
            have hlvj:∀ id,uses lv id→jl+1<id∧id<s4.n∧¬ uses pv4 id:=fun id hu=>⟨(h7 id hu).1,h6.lt hu,(h7 id hu).2⟩
            have hk7:∀ id,id<s4.n→id≠jr→¬ uses lv id→(s6.put jr (.cells .mut (rc.set a v))).get id=s4.get id:=fun id c1 c2 c3=>by rw [St.get_put,if_neg c2];exact q2 id c1 c3
            have hral:a<rc.length:=by omega
            refine ⟨row++[msf],fun k=>if k=a then Ua else U k,?_,?_,by rw [St.n_put];omega,by rw [St.get_put,if_pos rfl],by simp [hrcl],by simp [hrowl],fun k c1 c2=>?_,fun hu=>hup4 _ hu rfl,fun k hk=>?_,fun k k' id hk hk' hne hu=>?_,fun k id hk hu=>?_,fun k hk=>?_⟩
            · exact h1.keep (by rw [St.n_put];exact q1) fun id hid=>by
                rcases hid with hid | hid
                · exact hk7 id (by omega) (by omega) fun hu=>by have:=(hlvj id hu).1;omega
                · exact hk7 id (h1.nt.sp.lt hid) (hup4 id hid) fun hu=>(hlvj id hu).2.2 hid
            · exact (hF.trans h2).young (by rw [St.n_put];exact q1) fun id hid=>hk7 id (by omega) (by omega) fun hu=>by have:=(hlvj id hu).1;omega
            · rw [getD_set' hral,if_neg (by omega)]
              exact hnil k (by omega) c2
            · by_cases he:k=a
              · subst he
                rw [getD_set' hral,if_pos rfl]
                have e1:(row++[msf]).getD k []=msf:=by
                  rw [List.getD_eq_getElem?_getD,List.getElem?_append_right (by omega),hrowl,Nat.sub_self];rfl
                simp only [if_true]
                rw [e1]
                exact q3.stable fun id hid=>by rw [St.get_put,if_neg];have:=(hlvj id (q4 id hid)).1;omega
              · rw [getD_set' hral,if_neg he]
                have e1:(row++[msf]).getD k []=row.getD k []:=by
                  rw [List.getD_eq_getElem?_getD,List.getElem?_append_left (by omega),← List.getD_eq_getElem?_getD]
                simp only [if_neg he]
                rw [e1]
                refine (hFZ k (by omega)).stable fun id hid=>?_
                obtain ⟨c1,c2,c3⟩:=hU2 k id (by omega) hid
                rw [hk7 id (by omega) (by omega) fun hu=>by have:=(hlvj id hu).1;omega]
                exact h2.g id c2 (by omega) (by omega) (by omega) c3
            · simp only at hu ⊢
              by_cases he:k=a
              · rw [if_pos he] at hu
                rw [if_neg (by omega)]
                intro hu'
                have:=(hU2 k' id (by omega) hu').2.1
                have:=(hlvj id (q4 id hu)).1
                omega
              · rw [if_neg he] at hu
                by_cases he':k'=a
                · rw [if_pos he']
                  intro hu'
                  have:=(hU2 k id (by omega) hu).2.1
                  have:=(hlvj id (q4 id hu')).1
                  omega
                · rw [if_neg he']
                  exact hU1 k k' id (by omega) (by omega) hne hu
            · simp only at hu
              by_cases he:k=a
              · rw [if_pos he] at hu
                obtain ⟨c1,c2,c3⟩:=hlvj id (q4 id hu)
                exact ⟨by omega,by rw [St.n_put];omega,c3⟩
              · rw [if_neg he] at hu
                obtain ⟨c1,c2,c3⟩:=hU2 k id (by omega) hu
                refine ⟨c1,by rw [St.n_put];omega,fun hu'=>?_⟩
                rcases h2.u id hu' with h | h
                · exact c3 h
                · omega
            · by_cases he:k=a
              · subst he
                have e1:(row++[msf]).getD k []=msf:=by
                  rw [List.getD_eq_getElem?_getD,List.getElem?_append_right (by omega),hrowl,Nat.sub_self];rfl
                rw [e1,hren]
                exact ⟨q5,q6⟩
              · have e1:(row++[msf]).getD k []=row.getD k []:=by
                  rw [List.getD_eq_getElem?_getD,List.getElem?_append_left (by omega),← List.getD_eq_getElem?_getD]
                rw [e1]
                exact hRT k (by omega)
          have hps3:ps4=addsN ps ((List.range (a+1)).flatMap (g.sa p)):=by
            rw [h4,List.range_succ,List.flatMap_append,addsN_append,← hps2]
            simp
          have hia2:∀ s',iaLV 1 (.sref jr 0 g.L.toNat 1) (.int .i64 (a:Int)) s'=some (.pref jr a,s'):=fun s'=>by rw [iaS haI];simp
          by_cases hK0:(g.mv p a).length=0
          · have hlvn:=h7' hK0
            subst hlvn
            have hrl0:rl=[]:=List.length_eq_zero_iff.1 (by omega)
            obtain ⟨row',U',P1,P2,P3,P4,P5,P6,P7,P8,P9,P10,P11,P12⟩:=pack .nils [] (fun _=>False) s4 (Nat.le_refl _) (fun _ _ _=>rfl) (fz_nomoves 38 s4) (fun id h=>h.elim) (by rw [hrl0];exact fun x=>Iff.rfl) (fun i j hij hj=>absurd hj (Nat.not_lt_zero _))
            clear pack
            repeat' (first | refine gA trivial ?_ | (refine gB trivial ?_;intro bb hbb;cases bb<;>(try simp only [hbs,if_false,reduceCtorEq] at hbb)) | apply qc_seq | fail)
            refine q_pure hG0 tsort_nil wN (by simp only [List.map,lk,sv1,sv2,sv3,Nat.reduceEqDiff,Nat.reduceAdd,Nat.reduceLeDiff,reduceIte,if_false,if_true,mkVal,unLV,List.map,optTmps]) trivial ?_
            simp only [Env.put_some]
            repeat' (first | refine gA trivial ?_ | (refine gB trivial ?_;intro bb hbb;cases bb<;>(try simp only [hbs,if_false,reduceCtorEq] at hbb)) | apply qc_seq | fail)
            refine q_pure hG0 tcomp_nil wN (by simp only [List.map,lk,sv1,sv2,sv3,Nat.reduceEqDiff,Nat.reduceAdd,Nat.reduceLeDiff,reduceIte,if_false,if_true,mkVal,unLV,List.map,optTmps]) trivial ?_
            simp only [Env.put_some]
            repeat' (first | refine gA @hia2 ?_ | (refine gB @hia2 ?_;intro bb hbb;cases bb<;>(try simp only [hbs,if_false,reduceCtorEq] at hbb)) | apply qc_seq | fail)
            refine q_storeG (i:=jr) (o:=a) (n:=1) (cs:=rc) (vs:=[.nils]) (cs':=rc.set a .nils) (v:=.nils) ef ef rfl grc4 rfl (by rw [hrcl];omega) rfl ?_
            repeat' (first | refine gA trivial ?_ | (refine gB trivial ?_;intro bb hbb;cases bb<;>(try simp only [hbs,if_false,reduceCtorEq] at hbb)) | apply qc_seq | fail)
            refine ⟨g.L.toNat - (a+1),by omega,a+1,ps4,pv4,rc.set a .nils,row',U',rfl,by omega,hps3,h7m,P1,P2,P3,P4,P5,P6,P7,P8,P9,P10,P11,P12,?_⟩
            simp only [lk,sv1,sv2,sv3,Nat.reduceEqDiff,Nat.reduceAdd,Nat.reduceLeDiff,reduceIte,if_false,if_true,mkVal,unLV,List.map,optTmps,hwa,e0,e3,e6,e8,e9,e11,e12,e13,e16,e17,e55,and_self]
          · rw [← hrl] at h6
            obtain ⟨j,rfl,hj,hg⟩:=h6.pos (by omega)
            have hju:=h7 j (uses_sref.2 rfl)
            have ids:=h1.ids
            have hrl1:1≤rl.length:=by omega
            have hrl6:rl.length≤1000000:=by omega
            clear hrl
            have hcS:=tsort_ok (ms:=rl) hg (by omega) (by omega)
            have pk:=fun (ds:Moves) (rest:List LV) (s6:St) (hd1:ds.length≤rl.length) (hd2:SSt ds) (hd3:∀ x,x∈ds↔x∈rl) (hd4:LV.closed.closedAll rest=true) (hn6:s6.n=s4.n) (hg6:s6.get j=some (.cells .mut (mcells ds++rest))) (ho6:∀ id,id≠j→s6.get id=s4.get id)=>pack (.sref j 0 ds.length 2) ds (fun id=>id=j) s6 (Nat.le_of_eq hn6.symm) (fun id _ hnu=>ho6 id fun e=>hnu (uses_sref.2 e)) (fz_movesR 37 hg6 hd4 (by omega) fun x hx=>hinI x ((hd3 x).1 hx)) (fun id h=>uses_sref.2 h) hd3 hd2
            clear pack ids
            repeat' (first | refine gA trivial ?_ | (refine gB trivial ?_;intro bb hbb;cases bb<;>(try simp only [hbs,if_false,reduceCtorEq] at hbb)) | apply qc_seq | fail)
            refine q_call wN (fv:=.fn (.func 62) [] []) (vs:=[.sref j 0 rl.length 2, .fn (.func 35) [] []]) ef (by simp only [List.map,lk,sv1,sv2,sv3,Nat.reduceEqDiff,Nat.reduceAdd,Nat.reduceLeDiff,reduceIte,if_false,if_true,mkVal,unLV,List.map,optTmps]) (CallOk.mono hcS fun r s5 hh=>⟨trivial,?_⟩)
            obtain ⟨ms',hperm,hsort,rfl⟩:=hh
            have hl':=hperm.length_eq
            have hcC:=pcomp_ok (ms:=ms') (s:=s4.put j (.cells .mut (mcells ms'))) (j:=j) (by rw [St.get_put,if_pos rfl]) (by omega) (by omega) hsort
            rw [hl'] at hcC
            have gl5:(s4.put j (.cells .mut (mcells ms'))).get jl=some (.cells .mut [.sref j 0 rl.length 2]):=by rw [St.get_put,if_neg (by omega)];exact h5
            have gr5:(s4.put j (.cells .mut (mcells ms'))).get jr=some (.cells .mut rc):=by rw [St.get_put,if_neg (by omega)];exact grc4
            have gn5:(s4.put j (.cells .mut (mcells ms'))).n=s4.n:=rfl
            have go5:∀ id,id≠j→(s4.put j (.cells .mut (mcells ms'))).get id=s4.get id:=fun id h=>by rw [St.get_put,if_neg h]
            have hpm3:=fun x=>hperm.mem_iff (a:=x)
            have hjne:jr≠j:=by omega
            clear hcS hsort hperm
            generalize s4.put j (.cells .mut (mcells ms'))=s5 at *
            simp only [Env.put_some]
            repeat' (first | refine gA trivial ?_ | (refine gB trivial ?_;intro bb hbb;cases bb<;>(try simp only [hbs,if_false,reduceCtorEq] at hbb)) | apply qc_seq | fail)
            refine q_call wN (fv:=.fn (.func 63) [] []) (vs:=[.sref j 0 rl.length 2]) ef (by simp only [List.map,lk,sv1,sv2,sv3,Nat.reduceEqDiff,Nat.reduceAdd,Nat.reduceLeDiff,reduceIte,if_false,if_true,mkVal,unLV,List.map,optTmps]) (CallOk.mono hcC fun r s6 hh=>⟨trivial,?_⟩)
            obtain ⟨ds,rest,rfl,d1,d2,d3,d4,d5,d6,d7,d8⟩:=hh
            obtain ⟨row',U',P1,P2,P3,P4,P5,P6,P7,P8,P9,P10,P11,P12⟩:=pk ds rest s6 (by omega) d3 (fun x=>(d4 x).trans (hpm3 x)) d5 (d6.trans gn5) d7 (fun id h=>(d8 id h).trans (go5 id h))
            have gr6:s6.get jr=some (.cells .mut rc):=by rw [d8 jr hjne];exact gr5
            clear pk hju d8 d7 d6 d4 d3 d2 d1 go5 gn5 gr5 gl5
            simp only [Env.put_some]
            repeat' (first | refine gA @hia2 ?_ | (refine gB @hia2 ?_;intro bb hbb;cases bb<;>(try simp only [hbs,if_false,reduceCtorEq] at hbb)) | apply qc_seq | fail)
            refine q_storeG (i:=jr) (o:=a) (n:=1) (cs:=rc) (vs:=[.sref j 0 ds.length 2]) (cs':=rc.set a (.sref j 0 ds.length 2)) (v:=.sref j 0 ds.length 2) ef ef rfl gr6 rfl (by rw [hrcl];omega) rfl ?_
            repeat' (first | refine gA trivial ?_ | (refine gB trivial ?_;intro bb hbb;cases bb<;>(try simp only [hbs,if_false,reduceCtorEq] at hbb)) | apply qc_seq | fail)
            refine ⟨g.L.toNat - (a+1),by omega,a+1,ps4,pv4,rc.set a (.sref j 0 ds.length 2),row',U',rfl,by omega,hps3,h7m,P1,P2,P3,P4,P5,P6,P7,P8,P9,P10,P11,P12,?_⟩
            simp only [lk,sv1,sv2,sv3,Nat.reduceEqDiff,Nat.reduceAdd,Nat.reduceLeDiff,reduceIte,if_false,if_true,mkVal,unLV,List.map,optTmps,hwa,e0,e3,e6,e8,e9,e11,e12,e13,e16,e17,e55,and_self]
        · -- the limit
          rintro j s4 ⟨rfl,h2,h3,h4,h5,h6⟩ hn4
          simp only [Thn,Blkd]
          exact ⟨.inr trivial, .inr ⟨h2,r8,r9,ef,ef,h3,h4,h5,h6⟩⟩
      · -- the row is done
        obtain rfl:a=g.L.toNat:=by omega
        have hR2:=hR.next hA hF
        obtain ⟨rvs,nxs,w1,w2,w3,w4,w5,w8⟩:=hR2.rows
        have wss:=hR2.ss
        have wds:=hR2.ds
        have hn72:=hA.n7
        have hn7':s.n+7≤jr:=by have:=hR.ai.n7;omega
        have hFr:=fz_row (row:=row) 39 grc (by omega) (by omega) (T:=U) (fun i hi=>hFZ i (by omega)) (fun i k id hi hk=>hU1 i k id (by omega) (by omega)) (fun i hi hu=>by have:=(hU2 i jr (by omega) hu).1;omega)
        rw [hrowl] at hFr
        have hTT:∀ id,(id=jr∨∃ i,i<g.L.toNat∧U i id)→jr≤id∧id<s2.n∧¬ uses pv2 id:=by
          rintro id (rfl | ⟨i,hi,hu⟩)
          · exact ⟨Nat.le_refl _,hjr2,hupr⟩
          · obtain ⟨c1,c2,c3⟩:=hU2 i id hi hu
            exact ⟨by omega,c2,c3⟩
        have hTn:∀ id,(id=jr∨∃ i,i<g.L.toNat∧U i id)→¬ uses nxv id∧¬ uses stv id:=fun id hid=>by
          have h1:=(hTT id hid).1
          obtain ⟨_,_,_,_,v3,_⟩:=hR.rows
          exact ⟨fun hu=>by have:=v3.lt hu;omega,fun hu=>by have:=hR.ss.lt hu;omega⟩
        have hnx:n+1≤ps2.length:=by
          obtain ⟨tl,htl⟩:Pre ps ps2:=by rw [hps2];exact addsN_pre _ _
          rw [htl,List.length_append];omega
        have hrn:runN g.suc (g.N+1 - (n+1)) (n+1) ps2=g.R:=by
          rw [hps2,hrun',show g.N+1 - (n+1)=g.N - n by omega]
          rfl
        have hrw:(row.length:Int)=g.L∧RowP g (g.R.getD n 0) row g.L.toNat:=⟨by omega,by rw [hpT];exact hRT⟩
        have gd2:=hA.gd
        have hmid:∀ (s':St) (j:Nat) (v':LV),s2.n≤j→IsRowM v' row→SkC s' (.sref j 0 (n+1) 1) 1 (rvs++[v']) (n+1)→s2.n≤s'.n→(∀ id,id<s2.n→¬ uses nxv id→¬ (id=jr∨∃ i,i<g.L.toNat∧U i id)→s'.get id=s2.get id)→PR B.next.length g s (s'.put jd (.cells .mut [.int .i64 g.L,stv, .sref j 0 (n+1) 1])) r8 r9 M ja jb jc jd pv2 stv (.sref j 0 (n+1) 1) ps2 (n+1):=fun s' j v' a1 a2 a3 a4 a5=>
          PR.row hA wss wds w1 w2 w4 w5 w8 (T:=fun id=>id=jr∨∃ i,i<g.L.toNat∧U i id) (fun id hid=>⟨by have:=(hTT id hid).1;omega,(hTT id hid).2.2,(hTn id hid).2⟩) a2 a1 a3 a4 a5 hrw
        have hgd5:∀ (s':St),(∀ id,id<s2.n→¬ uses nxv id→¬ (id=jr∨∃ i,i<g.L.toNat∧U i id)→s'.get id=s2.get id)→s'.get jd=some (.cells .mut [.int .i64 g.L,stv,nxv]):=fun s' hk=>by
          obtain ⟨i1,i2,i3,i4,i5,i6,i7⟩:=hA.ids
          rw [hk jd (by omega) (fun hu=>by have:=(w4 _ hu).1;omega) fun hu=>by have:=(hTT _ hu).1;omega]
          exact gd2
        have hTb:∀ id,(id=jr∨∃ i,i<g.L.toNat∧U i id)→id<s2.n∧¬ uses nxv id:=fun id hid=>⟨(hTT id hid).2.1,(hTn id hid).1⟩
        clear hR2 wss wds w4 w5 w8 w1 w2 hTT hTn hU1 hU2 hFZ hRT hnil hupr hrw hrun' hpreS hps2 hR hF hA grc
        repeat' (first | refine gA trivial ?_ | (refine gB trivial ?_;intro bb hbb;cases bb<;>(try simp only [hbs,if_false,reduceCtorEq] at hbb)) | apply qc_seq | fail)
        refine q_appF (n:=n) (xv:=.sref jr 0 g.L.toNat 1) (yv:=nxv) ef rfl ef w3 hFr hTb (by decide) (by omega) (fun s5 j5 v5 a1 a2 a3 a4 a5=>?_)
        have hAR:=hmid s5 j5 v5 a1 a2 a3 a4 a5
        have gd5:=hgd5 s5 a5
        clear hmid hgd5 hTb hFr w3 gd2 a2 a3 a5
        repeat' (first | refine gA trivial ?_ | (refine gB trivial ?_;intro bb hbb;cases bb<;>(try simp only [hbs,if_false,reduceCtorEq] at hbb)) | apply qc_seq | fail)
        refine ⟨g.N+1 - (n+1),by omega,n+1,ps2,pv2,stv, .sref j5 0 (n+1) 1,rfl,hnx,hpm2',hrn,hAR,?_⟩
        simp only [lk,sv1,sv2,sv3,Nat.reduceEqDiff,Nat.reduceAdd,Nat.reduceLeDiff,reduceIte,if_false,if_true,mkVal,unLV,List.map,optTmps,hw,e0,e3,e6,e8,e9,e11,e12,e13,e16,and_self]
        · exfalso;omega
    · -- all rows are done
      obtain rfl:n=ps.length:=by omega
      have hps:ps=g.R:=by
        rw [← hrun]
        cases g.N+1 - ps.length with
        | zero=>rfl
        | succ f=>simp [runN]
      subst hps
      obtain ⟨C,hTR,f1,f2,f3,f4⟩:=hR.fin hok rfl
      have gd:=hR.ai.gd
      have g8:=hR.ai.g8
      have g9:=hR.ai.g9
      have n7:=hR.ai.n7
      have old:=hR.ai.old
      have hai:=hR.ai
      have hcs:isCell stv=true:=skc_cell hR.ss
      have hcn:isCell nxv=true:=by
        obtain ⟨_,_,_,_,h3,_⟩:=hR.rows
        exact skc_cell h3
      have g9':(s1.put r8 (.cells .mut [.int .i64 g.L,stv,nxv])).get r9=some (.cells .mut [.int .i64 0]):=by
        have:=hai.ids
        rw [St.get_put,if_neg (by omega)];exact g9
      clear hR hrun hpre
      repeat' (first | refine gA @hpl0 ?_ | (refine gB @hpl0 ?_;intro bb hbb;cases bb<;>(try simp only [hbs,if_false,reduceCtorEq] at hbb)) | apply qc_seq | fail)
      · have ids:=hai.ids
        have hk:∀ id,id≠r8→id≠r9→((s1.put r8 (.cells .mut [.int .i64 g.L,stv,nxv])).put r9 (.cells .mut [.int .i64 0])).get id=s1.get id:=fun id c1 c2=>by rw [St.get_put,if_neg c2,St.get_put,if_neg c1]
        refine ⟨.inr trivial, .inl ⟨hpm,r8,r9,stv,nxv,C,uses stv,uses nxv,ef,ef,by rw [St.get_put,if_neg (by omega),St.get_put,if_pos rfl],by rw [St.get_put,if_pos rfl],hTR,f1.stable fun id hid=>?_,f2.stable fun id hid=>?_,f3,fun id hid=>by have:=f4 id hid;simp only [St.n_put];omega,⟨hcs,hcn⟩,by simp only [St.n_put];omega,fun id hid=>by rw [hk id (by omega) (by omega)];exact old id hid⟩⟩
        · have:=f4 id (.inl hid)
          exact hk id (by omega) (by omega)
        · have:=f4 id (.inr hid)
          exact hk id (by omega) (by omega)
      · exfalso;omega
end Go.Proofs.YtmblpcidfjemhaaDoor
