/- The law of more, run. -/
import Derived.Test.YthcllhhldknkmaaGreatDoorRun
import Derived.Test.YthcllhhldknkmaaGreatDoorChk3
import Derived.Test.YthcllhhldknkmaaGreatDoorArgs
import Derived.Test.YthcllhhldknkmaaGreatDoorFew
import Derived.Test.YthcllhhldknkmaaGreatDoorAll
import Derived.Test.YthcllhhldknkmaaGreatDoorRemn
import Derived.Test.YthcllhhldknkmaaGreatDoorHead
import Derived.Test.YthcllhhldknkmaaGreatDoorPvRow
set_option linter.unusedSimpArgs false
set_option linter.unusedVariables false
set_option maxRecDepth 100000
namespace Go.Proofs.YthcllhhldknkmaaGreatDoor
open Go Go.Pv Go.Aut
open Classical
set_option maxHeartbeats 16000000 in
theorem lawMore:∀ lvs,HasArgs Tryz.prog 9 Tryz.f4.params.toList lvs→LawOkG Tryz.prog GL 4 lvs:=by
  intro lvs h
  rw [Tryz.params4] at h
  cases h with | cons a h=>
  cases h with | cons c h=>
  cases h with | cons u1 h=>
  cases h with | cons u2 h=>
  cases h with | cons u3 h=>
  cases h with | cons u4 h=>
  cases h
  obtain ⟨B,sb,nb,hB,-⟩:=argB a
  obtain ⟨st,lo,S,L,rfl,hS,hL⟩:=argL c
  obtain ⟨k1,rfl,hk1⟩:=argU u1
  obtain ⟨k2,rfl,hk2⟩:=argU u2
  obtain ⟨k3,rfl,hk3⟩:=argU u3
  obtain ⟨g,rfl⟩:=argT u4
  refine ⟨Tryz.f4,[],l4,Tryz.func4,by decide +kernel,c4,Nat.le_of_ble_eq_true rfl,CodeOk.mono (Q:=fun o e s=>(o = .normal∨o = .jmp .ret)∧e.at 12 = .bool true) (Cd.out ?_) fun o e s hh=>⟨hh.1,by simp [l4,resVal,resOne,hh.2]⟩⟩
  clear a c u1 u2 u3 u4
  have hcB:=hB.closed
  have hcw:(LV.agg [st,lo]).closed=true:=by simp [LV.closed,LV.closed.closedAll,hS.closed,hL.closed]
  have cs:=hS.sl.cell
  have cl:=hL.sl.cell
  have hfw:=few_ok hB hS hL
  have hrd:=ready_ok hB hS hL
  have hrn:=run_ok hB hS hL
  have hwt:=fun (hv:Vb B) {p a t:Nat} (hp:p<B.next.length) (ha:(a:Int)<B.L) (ht:t<B.next.length)=>with_ok hB hv hp ha ht g
  have hal:=fun (hv:Vb B)=>all_ok hB hv
  have hck:=fun {v:LV} {C:Bu} {sv nv xv yv:LV} {X Y:List Int} (hC:IsB v C sv nv) (hX:IsInts xv X) (hY:IsInts yv Y) (h1:X.length≤600000) (h2:Y.length≤600001)=>check_ok hC hS hL hX hY h1 h2
  have hwd:=fun {v:LV} {C:Bu} {sv nv:LV} (hC:IsB v C sv nv)=>aword_ok hC hS hL
  obtain ⟨rfl,hsb,vb,hnb⟩:=hB
  have cb1:=hsb.sl.cell
  have cb2:=hnb.sl.cell
  have hnl:=hnb.sl.len
  have e0:(envOf [LV.agg [.int .i64 B.L,sb,nb], .agg [st,lo], .int .u8 (k1:Int), .int .u8 (k2:Int), .int .u8 (k3:Int), .bool g]).at 0 = .agg [.int .i64 B.L,sb,nb]:=by rw [envOf_at];rfl
  have e1:(envOf [LV.agg [.int .i64 B.L,sb,nb], .agg [st,lo], .int .u8 (k1:Int), .int .u8 (k2:Int), .int .u8 (k3:Int), .bool g]).at 1 = .agg [st,lo]:=by rw [envOf_at];rfl
  have e2:(envOf [LV.agg [.int .i64 B.L,sb,nb], .agg [st,lo], .int .u8 (k1:Int), .int .u8 (k2:Int), .int .u8 (k3:Int), .bool g]).at 2 = .int .u8 (k1:Int):=by rw [envOf_at];rfl
  have e3:(envOf [LV.agg [.int .i64 B.L,sb,nb], .agg [st,lo], .int .u8 (k1:Int), .int .u8 (k2:Int), .int .u8 (k3:Int), .bool g]).at 3 = .int .u8 (k2:Int):=by rw [envOf_at];rfl
  have e4:(envOf [LV.agg [.int .i64 B.L,sb,nb], .agg [st,lo], .int .u8 (k1:Int), .int .u8 (k2:Int), .int .u8 (k3:Int), .bool g]).at 4 = .int .u8 (k3:Int):=by rw [envOf_at];rfl
  have e5:(envOf [LV.agg [.int .i64 B.L,sb,nb], .agg [st,lo], .int .u8 (k1:Int), .int .u8 (k2:Int), .int .u8 (k3:Int), .bool g]).at 5 = .bool g:=by rw [envOf_at];rfl
  generalize envOf [LV.agg [.int .i64 B.L,sb,nb], .agg [st,lo], .int .u8 (k1:Int), .int .u8 (k2:Int), .int .u8 (k3:Int), .bool g]=e at *
  unfold l4
  dsimp only [jA,jB,jC,jE,jF,jG,jH,qM,qL,qN,qF,qS,qK,qO,qP,qG,qm]
  repeat' (first | refine gA trivial ?_ | (refine gB trivial ?_;intro bb hbb;cases bb<;>(try simp only [hbs,if_false,reduceCtorEq] at hbb)) | apply qc_seq | fail)
  refine q_pure hG0 (head_true) (by first | exact wN | (apply wG;(simp only [lk,Nat.reduceEqDiff,reduceIte,e0,e1,e2,e3,e4,e5];(try rfl);done))) (by simp only [List.map,lk,Nat.reduceEqDiff,reduceIte,e0,e1,e2,e3,e4,e5];try rfl) (by first | trivial | (simp only [Chks,wantedG,LOp.run,Env.put_some,Env.put_none,lk,sv1,sv2,sv3,Nat.reduceEqDiff,Nat.reduceAdd,Nat.reduceLeDiff,reduceIte,if_false,if_true,mkVal,unLV,List.map,optTmps,beq_self_eq_true,reduceCtorEq,false_or,true_and,and_true,Option.some.injEq, *];done)) ?_
  simp only [Env.put_some]
  repeat' (first | refine gA trivial ?_ | (refine gB trivial ?_;intro bb hbb;cases bb<;>(try simp only [hbs,if_false,reduceCtorEq] at hbb)) | apply qc_seq | fail)
  refine q_pureEx hG0 hfw wN (by simp only [List.map,lk,sv1,sv2,sv3,Nat.reduceEqDiff,Nat.reduceAdd,Nat.reduceLeDiff,reduceIte,if_false,if_true,mkVal,unLV,List.map,optTmps]) (fun r hr hrc=>⟨trivial,?_⟩)
  obtain ⟨b,rfl,-⟩:=hr
  simp only [Env.put_some]
  cases b with
  | false=>
    repeat' (first | refine gA trivial ?_ | (refine gB trivial ?_;intro bb hbb;cases bb<;>(try simp only [hbs,if_false,reduceCtorEq] at hbb)) | apply qc_seq | fail)
    exact ⟨.inr trivial,ef⟩
  | true=>
  clear hrc hfw
  repeat' (first | refine gA trivial ?_ | (refine gB trivial ?_;intro bb hbb;cases bb<;>(try simp only [hbs,if_false,reduceCtorEq] at hbb)) | apply qc_seq | fail)
  refine q_pureB hG0 (hrd) (by first | exact wN | (apply wG;(simp only [lk,Nat.reduceEqDiff,reduceIte,e0,e1,e2,e3,e4,e5];(try rfl);done))) (by simp only [List.map,lk,Nat.reduceEqDiff,reduceIte,e0,e1,e2,e3,e4,e5];try rfl) (fun bb hbb=>⟨by first | trivial | (simp only [Chks,wantedG,LOp.run,Env.put_some,Env.put_none,lk,sv1,sv2,sv3,Nat.reduceEqDiff,Nat.reduceAdd,Nat.reduceLeDiff,reduceIte,if_false,if_true,mkVal,unLV,List.map,optTmps,beq_self_eq_true,reduceCtorEq,false_or,true_and,and_true,Option.some.injEq, *];done),?_⟩)
  simp only [Env.put_some]
  cases bb<;>simp only [decide_eq_true_eq,decide_eq_false_iff_not] at hbb
  · repeat' (first | refine gA trivial ?_ | (refine gB trivial ?_;intro bb hbb;cases bb<;>(try simp only [hbs,if_false,reduceCtorEq] at hbb)) | apply qc_seq | fail)
    exact ⟨.inr trivial,ef⟩
  have rA:=hbb
  clear hbb hrd
  repeat' (first | refine gA @hnl ?_ | (refine gB @hnl ?_;intro bb hbb;cases bb<;>(try simp only [hbs,if_false,reduceCtorEq] at hbb)) | apply qc_seq | fail)
  rotate_left
  · exact ⟨.inr trivial,ef⟩
  have hn0:0<B.next.length:=by omega
  refine q_pureEx hG0 hrn wN (by simp only [List.map,lk,sv1,sv2,sv3,Nat.reduceEqDiff,Nat.reduceAdd,Nat.reduceLeDiff,reduceIte,if_false,if_true,mkVal,unLV,List.map,optTmps]) (fun r hr hrc=>⟨trivial,?_⟩)
  obtain ⟨xv,yv,X,Y,ok,rfl,hX,hY,hA⟩:=hr
  simp only [Env.put_some]
  have cx:=hX.sl.cell
  have cy:=hY.sl.cell
  have hcx:(LV.agg [xv,yv]).closed=true:=by simp [LV.closed,LV.closed.closedAll,hX.closed,hY.closed]
  have hV:=rA.1
  have hL1:1≤B.L:=hV.1
  have hL64:B.L≤64:=hV.2.1
  obtain ⟨m,hm⟩:∃ m:Nat,Bx (B.L=(m:Int)):=⟨B.L.toNat,⟨by omega⟩⟩
  have hm0:0<m:=by have:=hm.out;omega
  have r1:=rem_nat k1 hn0
  have r2:binLV .rem (.int .i64 (k2:Int)) (.int .i64 B.L)=some (.int .i64 ((k2 % m:Nat):Int)):=by rw [hm.out];exact rem_nat k2 hm0
  have r3:=rem_nat k3 hn0
  have hp:=Nat.mod_lt k1 hn0
  have ha:((k2 % m:Nat):Int)<B.L:=by have:=hm.out;have:=Nat.mod_lt k2 hm0;omega
  have ht:=Nat.mod_lt k3 hn0
  have hw1:=hwt hV hp (a:=k2 % m) ha ht
  have hVm:=vb_mor hV hp (a:=k2 % m) ha (m:=(((k3 % B.next.length:Nat):Int),g)) (by simp only;omega) (by simp only;omega)
  have hVa:=vb_al hV
  have hal':=hal hV
  obtain ⟨f1,f2,f3,f4,f5⟩:=hA.facts
  have hCm:Bx (ok=true→CK (morB B (k1 % B.next.length) (k2 % m) (((k3 % B.next.length:Nat):Int),g)) S L (zints X) (zints Y)∧CK (alB B) S L (zints X) (zints Y)):=⟨fun h=>by
    rw [h] at f2
    have hc:=of_decide_eq_true f2.symm
    exact ⟨ck_mor hp ha (by simp only;omega) (by simp only;omega) hc,ck_al hc⟩⟩
  have hX6:(zints X).length≤600000:=by simpa [zints] using f4
  have hY6:(zints Y).length≤600001:=by simpa [zints] using f5
  clear f1 f2 f3 f4 f5 hA hrn hwt hal rA hbb
  clear hm
  have w1:IntKind.i64.wrap (k1:Int)=(k1:Int):=wrap_i64 _ (by omega) (by omega)
  have w2:IntKind.i64.wrap (k2:Int)=(k2:Int):=wrap_i64 _ (by omega) (by omega)
  have w3:IntKind.i64.wrap (k3:Int)=(k3:Int):=wrap_i64 _ (by omega) (by omega)
  repeat' (first | refine gA (And.intro @hnl (And.intro @w1 (And.intro @w2 (And.intro @w3 (And.intro @r1 (And.intro @r2 @r3)))))) ?_ | (refine gB (And.intro @hnl (And.intro @w1 (And.intro @w2 (And.intro @w3 (And.intro @r1 (And.intro @r2 @r3)))))) ?_;intro bb hbb;cases bb<;>(try simp only [hbs,if_false,reduceCtorEq] at hbb)) | apply qc_seq | fail)
  refine q_gen (v:=.pref 1 0) (s':=((St.empty.new (.cells .mut [.nils, .nils])).put 0 (.cells .mut [xv,yv])).new (.cells .mut [.int .i64 0, .nils, .nils])) wN (by simp [LOp.run,n_empty]) rfl ?_ ?_
  · simp only [Chks,wantedG,LOp.run,lk,sv1,sv2,sv3,Nat.reduceEqDiff,Nat.reduceAdd,Nat.reduceLeDiff,reduceIte,if_false,if_true,mkVal,unLV,List.map,optTmps,Env.put_some]
    simp [loadLV,mkVal]
  simp only [Env.put_some]
  refine q_pureEx hG0 hw1 wN (by simp only [List.map,lk,sv1,sv2,sv3,Nat.reduceEqDiff,Nat.reduceAdd,Nat.reduceLeDiff,reduceIte,if_false,if_true,mkVal,unLV,List.map,optTmps]) (fun r hr hrc2=>⟨trivial,?_⟩)
  obtain ⟨nv',hC⟩:=hr
  have hkC:=hck hC hX hY hX6 hY6
  have hwC:=hwd hC
  have hvC:=rbvalid_ok hC
  rw [decide_eq_true hVm] at hvC
  have hclC:=hC.closed
  obtain ⟨rfl,hsc,vc,hnc⟩:=hC
  have cc2:=hnc.sl.cell
  have hLC:(morB B (k1 % B.next.length) (k2 % m) (((k3 % B.next.length:Nat):Int),g)).L=B.L:=rfl
  rw [hLC] at hkC hwC hvC hclC ⊢
  simp only [Env.put_some]
  clear hLC hVm hw1 r1 r2 r3 w1 w2 w3 hV hp ha ht
  generalize hsx:St.new _ (Blk.cells .mut [.int .i64 0, .nils, .nils])=s1
  have g0:s1.get 0=some (.cells .mut [xv,yv]):=by rw [← hsx];simp [St.get_put,St.get_new,n_empty]
  have g1:s1.get 1=some (.cells .mut [.int .i64 0, .nils, .nils]):=by rw [← hsx];simp [St.get_put,St.get_new,n_empty]
  clear hsx
  refine q_storeG (i:=1) (o:=0) (n:=3) (cs:=[.int .i64 0, .nils, .nils]) (vs:=[.int .i64 B.L,sb,nv']) (cs':=[.int .i64 B.L,sb,nv']) (v:=.agg [.int .i64 B.L,sb,nv']) ef ef (by simp [cells_agg,cb1,cc2,isC_int]) g1 rfl (by simp) rfl ?_
  generalize hsx:s1.put 1 _=s2
  have h0:s2.get 0=some (.cells .mut [xv,yv]):=by rw [← hsx];simp [St.get_put,g0]
  have h1:s2.get 1=some (.cells .mut [.int .i64 B.L,sb,nv']):=by rw [← hsx];simp [St.get_put]
  clear hsx g0 g1
  clear s1
  refine w_gen (fun e' s'=>s'=s2∧e'.at 6 = .pimm [.int .i64 B.L,sb,nb] 0∧e'.at 7 = .pimm [st,lo] 0∧e'.at 13 = .bool true∧e'.at 14 = .pref 0 0∧e'.at 15 = .bool ok∧e'.at 16 = .pref 1 0) ⟨rfl,ef,ef,ef,ef,ef,ef⟩ ?_
  clear e0 e1 e2 e3 e4 e5
  clear e
  rintro e s ⟨rfl,e6,e7,e13,e14,e15,e16⟩
  repeat' (first | refine gA (And.intro @h0 @h1) ?_ | (refine gB (And.intro @h0 @h1) ?_;intro bb hbb;cases bb<;>(try simp only [hbs,if_false,reduceCtorEq] at hbb)) | apply qc_seq | fail)
  refine q_pure hG0 (hvC) (by first | exact wN | (apply wG;(simp only [lk,Nat.reduceEqDiff,reduceIte,e6,e7,e13,e14,e15,e16];(try rfl);done))) (by simp only [List.map,lk,Nat.reduceEqDiff,reduceIte,e6,e7,e13,e14,e15,e16];try rfl) (by first | trivial | (simp only [Chks,wantedG,LOp.run,Env.put_some,Env.put_none,lk,sv1,sv2,sv3,Nat.reduceEqDiff,Nat.reduceAdd,Nat.reduceLeDiff,reduceIte,if_false,if_true,mkVal,unLV,List.map,optTmps,beq_self_eq_true,reduceCtorEq,false_or,true_and,and_true,Option.some.injEq, *];done)) ?_
  simp only [Env.put_some]
  cases ok with
  | false=>
    repeat' (first | refine gA (And.intro @h0 @h1) ?_ | (refine gB (And.intro @h0 @h1) ?_;intro bb hbb;cases bb<;>(try simp only [hbs,if_false,reduceCtorEq] at hbb)) | apply qc_seq | fail)
    exact ⟨.inr trivial,ef⟩
  | true=>
    obtain ⟨c1,c2⟩:=hCm.out rfl
    rw [decide_eq_true (ck_acc c1)] at hwC
    rw [decide_eq_true c1] at hkC
    repeat' (first | refine gA (And.intro @h0 @h1) ?_ | (refine gB (And.intro @h0 @h1) ?_;intro bb hbb;cases bb<;>(try simp only [hbs,if_false,reduceCtorEq] at hbb)) | apply qc_seq | fail)
    refine q_pure hG0 (hwC) (by first | exact wN | (apply wG;(simp only [lk,Nat.reduceEqDiff,reduceIte,e6,e7,e13,e14,e15,e16];(try rfl);done))) (by simp only [List.map,lk,Nat.reduceEqDiff,reduceIte,e6,e7,e13,e14,e15,e16];try rfl) (by first | trivial | (simp only [Chks,wantedG,LOp.run,Env.put_some,Env.put_none,lk,sv1,sv2,sv3,Nat.reduceEqDiff,Nat.reduceAdd,Nat.reduceLeDiff,reduceIte,if_false,if_true,mkVal,unLV,List.map,optTmps,beq_self_eq_true,reduceCtorEq,false_or,true_and,and_true,Option.some.injEq, *];done)) ?_
    simp only [Env.put_some]
    repeat' (first | refine gA (And.intro @h0 @h1) ?_ | (refine gB (And.intro @h0 @h1) ?_;intro bb hbb;cases bb<;>(try simp only [hbs,if_false,reduceCtorEq] at hbb)) | apply qc_seq | fail)
    refine q_pure hG0 (hkC) (by first | exact wN | (apply wG;(simp only [lk,Nat.reduceEqDiff,reduceIte,e6,e7,e13,e14,e15,e16];(try rfl);done))) (by simp only [List.map,lk,Nat.reduceEqDiff,reduceIte,e6,e7,e13,e14,e15,e16];try rfl) (by first | trivial | (simp only [Chks,wantedG,LOp.run,Env.put_some,Env.put_none,lk,sv1,sv2,sv3,Nat.reduceEqDiff,Nat.reduceAdd,Nat.reduceLeDiff,reduceIte,if_false,if_true,mkVal,unLV,List.map,optTmps,beq_self_eq_true,reduceCtorEq,false_or,true_and,and_true,Option.some.injEq, *];done)) ?_
    simp only [Env.put_some]
    repeat' (first | refine gA (And.intro @h0 @h1) ?_ | (refine gB (And.intro @h0 @h1) ?_;intro bb hbb;cases bb<;>(try simp only [hbs,if_false,reduceCtorEq] at hbb)) | apply qc_seq | fail)
    refine q_pureEx hG0 hal' (wG ef) (by simp only [List.map,lk,sv1,sv2,sv3,Nat.reduceEqDiff,Nat.reduceAdd,Nat.reduceLeDiff,reduceIte,if_false,if_true,mkVal,unLV,List.map,optTmps]) (fun r hr hrc3=>?_)
    obtain ⟨sa,hD⟩:=hr
    have hwD:=hwd hD
    rw [decide_eq_true (ck_acc c2)] at hwD
    have hclD:=hD.closed
    obtain ⟨rfl,hsd,vd,hnd⟩:=hD
    have cd1:=hsd.sl.cell
    have hLD:(alB B).L=B.L:=rfl
    rw [hLD] at hwD hclD ⊢
    clear hLD
    refine ⟨?_,?_⟩
    · simp only [Chks,wantedG,LOp.run,lk,sv1,sv2,sv3,Nat.reduceEqDiff,Nat.reduceAdd,Nat.reduceLeDiff,reduceIte,if_false,if_true,mkVal,unLV,List.map,optTmps,Env.put_some,e6,e7,e14]
      simp [loadLV,mkVal,e6,e7,e14]
    simp only [Env.put_some]
    repeat' (first | refine gA (And.intro @h0 @h1) ?_ | (refine gB (And.intro @h0 @h1) ?_;intro bb hbb;cases bb<;>(try simp only [hbs,if_false,reduceCtorEq] at hbb)) | apply qc_seq | fail)
    refine q_pure hG0 (hwD) (by first | exact wN | (apply wG;(simp only [lk,Nat.reduceEqDiff,reduceIte,e6,e7,e13,e14,e15,e16];(try rfl);done))) (by simp only [List.map,lk,Nat.reduceEqDiff,reduceIte,e6,e7,e13,e14,e15,e16];try rfl) (by first | trivial | (simp only [Chks,wantedG,LOp.run,Env.put_some,Env.put_none,lk,sv1,sv2,sv3,Nat.reduceEqDiff,Nat.reduceAdd,Nat.reduceLeDiff,reduceIte,if_false,if_true,mkVal,unLV,List.map,optTmps,beq_self_eq_true,reduceCtorEq,false_or,true_and,and_true,Option.some.injEq, *];done)) ?_
    simp only [Env.put_some]
    repeat' (first | refine gA (And.intro @h0 @h1) ?_ | (refine gB (And.intro @h0 @h1) ?_;intro bb hbb;cases bb<;>(try simp only [hbs,if_false,reduceCtorEq] at hbb)) | apply qc_seq | fail)
    refine q_pureEx hG0 hal' (wG ef) (by simp only [List.map,lk,sv1,sv2,sv3,Nat.reduceEqDiff,Nat.reduceAdd,Nat.reduceLeDiff,reduceIte,if_false,if_true,mkVal,unLV,List.map,optTmps]) (fun r hr hrc4=>?_)
    obtain ⟨se,hE⟩:=hr
    have hkE:=hck hE hX hY hX6 hY6
    rw [decide_eq_true c2] at hkE
    have hclE:=hE.closed
    obtain ⟨rfl,hse,ve,hne⟩:=hE
    have ce1:=hse.sl.cell
    have hLE:(alB B).L=B.L:=rfl
    rw [hLE] at hkE hclE ⊢
    clear hLE
    refine ⟨?_,?_⟩
    · simp only [Chks,wantedG,LOp.run,lk,sv1,sv2,sv3,Nat.reduceEqDiff,Nat.reduceAdd,Nat.reduceLeDiff,reduceIte,if_false,if_true,mkVal,unLV,List.map,optTmps,Env.put_some,e6,e7,e14]
      simp [loadLV,mkVal,e6,e7,e14,h0]
    simp only [Env.put_some]
    repeat' (first | refine gA (And.intro @h0 @h1) ?_ | (refine gB (And.intro @h0 @h1) ?_;intro bb hbb;cases bb<;>(try simp only [hbs,if_false,reduceCtorEq] at hbb)) | apply qc_seq | fail)
    refine q_pure hG0 (hkE) (by first | exact wN | (apply wG;(simp only [lk,Nat.reduceEqDiff,reduceIte,e6,e7,e13,e14,e15,e16];(try rfl);done))) (by simp only [List.map,lk,Nat.reduceEqDiff,reduceIte,e6,e7,e13,e14,e15,e16];try rfl) (by first | trivial | (simp only [Chks,wantedG,LOp.run,Env.put_some,Env.put_none,lk,sv1,sv2,sv3,Nat.reduceEqDiff,Nat.reduceAdd,Nat.reduceLeDiff,reduceIte,if_false,if_true,mkVal,unLV,List.map,optTmps,beq_self_eq_true,reduceCtorEq,false_or,true_and,and_true,Option.some.injEq, *];done)) ?_
    simp only [Env.put_some]
    repeat' (first | refine gA (And.intro @h0 @h1) ?_ | (refine gB (And.intro @h0 @h1) ?_;intro bb hbb;cases bb<;>(try simp only [hbs,if_false,reduceCtorEq] at hbb)) | apply qc_seq | fail)
    exact ⟨.inr trivial,ef⟩
end Go.Proofs.YthcllhhldknkmaaGreatDoor
