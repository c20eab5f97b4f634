/- parity's search: a new one. -/
import Derived.Test.YtkbiecjdcjfhaaaPxn
set_option linter.unusedSimpArgs false
set_option linter.unusedVariables false
namespace Go.Proofs.Ytkbiecjdcjfhaaa
open Go Go.Pv Go.Tre
open Classical
theorem addK_nil {α:Type} (key:α→List UInt8) (x:α):addK key [] x=[x]∧idxK key ([]:List α) (key x)=0:=by
  unfold addK idxK
  simp
set_option maxHeartbeats 16000000 in
theorem newS_ok {bv:LV} {B:Bu} {sv nv:LV} (hB:IsB bv B sv nv) (hv:Vb B) (hN:B.next.length≤10) (hl:B.start.length≤64) (most:Int) (s:St) :
    CallOk Try.prog GL (.fn (.func 21) [] []) [bv, .int .i64 most] s (fun r s'=>∃ Z O,r = .pref Z 0∧SR s' Z B sv nv most [trS B] [(0,recS (2*B.next.length))] O (fun _=>False)∧s.n≤s'.n∧(∀ id,O id→s.n≤id)∧∀ id,id<s.n→s'.get id=s.get id):=by
  have hcl:=hB.closed
  have hstart:=tstart_ok hB hv hl
  have hnames:=tnames_ok hB hv
  have hrec:=recstart_ok (n:=2*B.next.length) (by omega)
  obtain ⟨rfl,hs,hn⟩:=hB
  have hsc:=hs.closed
  have hnc:=hn.closed
  obtain ⟨vs,hn'⟩:=hn
  have hsc1:=hs.sl.cell
  have hnc1:=hn'.sl.cell
  refine call_fn (first:=[]) (caps:=[]) Try.func21 (by decide +kernel) c21 (Nat.le_of_ble_eq_true rfl) (CodeOk.mono (Q:=fun o e s'=>(o = .normal∨o = .jmp .ret)∧∃ Z O,e.at 4 = .pref Z 0∧SR s' Z B sv nv most [trS B] [(0,recS (2*B.next.length))] O (fun _=>False)∧s.n≤s'.n∧(∀ id,O id→s.n≤id)∧∀ id,id<s.n→s'.get id=s.get id) ?_ fun o e s' hh=>by
    obtain ⟨h1,Z,O,h2,h3⟩:=hh
    exact ⟨h1,_,by simp [l21,resVal,resOne,h2],Z,O,rfl,h3⟩)
  have e0:(envOf ([]++[LV.agg [.int .i64 B.L,sv,nv], .int .i64 most]++[])).at 0 = .agg [.int .i64 B.L,sv,nv]:=by rw [envOf_at];rfl
  have e1:(envOf ([]++[LV.agg [.int .i64 B.L,sv,nv], .int .i64 most]++[])).at 1 = .int .i64 most:=by rw [envOf_at];rfl
  generalize envOf ([]++[LV.agg [.int .i64 B.L,sv,nv], .int .i64 most]++[])=e at *
  refine Cd.out ?_
  unfold l21
  dsimp only [jA,jB,qM,qN,qO,qG,qm]
  repeat' (first | refine gN trivial ?_ | (refine gB trivial ?_;intro bb hbb;cases bb<;>(try simp only [hbs,if_false,reduceCtorEq] at hbb)<;>(try first | (exfalso;omega) | exact hbb.elim)) | fail)
  refine q_mkmap (n:=s.n) wN rfl ?_
  refine q_mkmap (n:=s.n+1) wN rfl ?_
  have hc3:cells? (.agg [.int .i64 B.L,sv,nv])=some [.int .i64 B.L,sv,nv]:=by
    have:[LV.int .i64 B.L,sv,nv].all isCell=true:=by simp only [List.all_cons,List.all_nil,Bool.and_true,hsc1,hnc1];rfl
    simp only [cells?,this,if_true]
  have hc9:cells? (.agg [.int .i64 B.L,sv,nv, .int .i64 most, .nils, .nils, .mref s.n, .nils, .mref (s.n+1)])=some [.int .i64 B.L,sv,nv, .int .i64 most, .nils, .nils, .mref s.n, .nils, .mref (s.n+1)]:=by
    have:[LV.int .i64 B.L,sv,nv, .int .i64 most, .nils, .nils, .mref s.n, .nils, .mref (s.n+1)].all isCell=true:=by simp only [List.all_cons,List.all_nil,Bool.and_true,hsc1,hnc1];rfl
    simp only [cells?,this,if_true]
  refine u_build (vs:=[.int .i64 B.L,sv,nv, .int .i64 most, .nils, .nils, .mref s.n, .nils, .mref (s.n+1)]) wN (by
    simp only [evParts,List.map,lk,sv1,sv2,sv3,Nat.reduceEqDiff,Nat.reduceAdd,Nat.reduceLeDiff,reduceIte,if_false,if_true,mkVal,unLV,List.map,optTmps]
    simp [fillParts,hc3,cells_mref,cells_int,splice]) ?_
  refine q_run0 (v:=.pref (s.n+2) 0) (s':=((s.new (.map [])).new (.map [])).new (.cells .mut [.int .i64 B.L,sv,nv, .int .i64 most, .nils, .nils, .mref s.n, .nils, .mref (s.n+1)])) (by
    simp only [LOp.run,lk,sv1,sv2,sv3,Nat.reduceEqDiff,Nat.reduceAdd,Nat.reduceLeDiff,reduceIte,if_false,if_true,mkVal,unLV,List.map,optTmps,hc9]
    simp) ?_
  have hX:SX (((s.new (.map [])).new (.map [])).new (.cells .mut [.int .i64 B.L,sv,nv, .int .i64 most, .nils, .nils, .mref s.n, .nils, .mref (s.n+1)])) (s.n+2) B sv nv most [] [] (fun id=>s.n≤id∧id<s.n+3) (fun _=>False) .nils .nils .nils s.n (s.n+1) [] [] []:={
    blk:=by rw [St.get_new,if_pos (by simp)]
    t:=SkC.nil _ _
    p:=SkC.nil _ _
    x:=SkC.nil _ _
    tn:=by rw [St.get_new,if_neg (by simp;omega),St.get_new,if_neg (by simp),St.get_new,if_pos rfl];rfl
    sn:=by rw [St.get_new,if_neg (by simp),St.get_new,if_pos (by simp)];rfl
    tt:=fun i hi=>absurd hi (by simp)
    pm:=fun i hi=>absurd hi (by simp)
    xl:=rfl
    xx:=fun i hi=>absurd hi (by simp)
    oZ:=by omega
    ou:=fun id hu=>by
      rcases hu with hu | hu | hu<;>exact absurd hu (uses_nils id)
    om:=fun i hi=>absurd hi (by simp)
    fo:=fun id h=>h.elim
    ol:=fun id h=>by simp;omega
    d1:=fun id hu=>absurd hu (uses_nils id)
    d2:=fun id hu=>absurd hu (uses_nils id)
    d3:=fun id hu=>absurd hu (uses_nils id)
    ne:=by omega }
  have hn1:(((s.new (.map [])).new (.map [])).new (.cells .mut [.int .i64 B.L,sv,nv, .int .i64 most, .nils, .nils, .mref s.n, .nils, .mref (s.n+1)])).n=s.n+3:=rfl
  have ho1:∀ id,id<s.n→(((s.new (.map [])).new (.map [])).new (.cells .mut [.int .i64 B.L,sv,nv, .int .i64 most, .nils, .nils, .mref s.n, .nils, .mref (s.n+1)])).get id=s.get id:=fun id hid=>by rw [St.get_new,if_neg (by simp;omega),St.get_new,if_neg (by simp;omega),St.get_new,if_neg (by omega)]
  generalize ((s.new (.map [])).new (.map [])).new (.cells .mut [.int .i64 B.L,sv,nv, .int .i64 most, .nils, .nils, .mref s.n, .nils, .mref (s.n+1)])=s1 at *
  have hXB:=Bx.mk hX
  clear hX hc9
  repeat' (first | refine gN trivial ?_ | (refine gB trivial ?_;intro bb hbb;cases bb<;>(try simp only [hbs,if_false,reduceCtorEq] at hbb)<;>(try first | (exfalso;omega) | exact hbb.elim)) | fail)
  refine q_pureEx hG0 hstart wN (by simp only [List.map,lk,sv1,sv2,sv3,Nat.reduceEqDiff,Nat.reduceAdd,Nat.reduceLeDiff,reduceIte,if_false,if_true,mkVal,unLV,List.map,optTmps]) fun tv0 htr htc=>⟨⟨.inr ⟨rfl,by simp [LOp.run,lk,sv1,sv2,sv3,Nat.reduceEqDiff,Nat.reduceAdd,Nat.reduceLeDiff,reduceIte,if_false,if_true,mkVal,unLV,List.map,optTmps,mkVal,Env.put_some]⟩,trivial⟩,?_⟩
  simp only [Env.put_some]
  obtain ⟨rs,htr⟩:=htr
  have hTrB:TrB (trS B):=by
    unfold trS
    split
    · exact ⟨by simp,fun n hn=>absurd hn (by simp),fun n hn=>absurd hn (by simp)⟩
    · exact ⟨by simp,fun n hn=>by rw [List.mem_singleton.1 hn];show B.start.length≤3000;omega,fun n hn=>by rw [List.mem_singleton.1 hn];show (-1:Int)≤-1∧(-1:Int)≤6000;omega⟩
  have htn:=tnum_ok (s:=s1) ⟨_,_,_,_,_,_,_,_,hXB.out⟩ htr hTrB (by simp)
  rw [(addK_nil keyT (trS B)).1,(addK_nil keyT (trS B)).2] at htn
  repeat' (first | refine gN trivial ?_ | (refine gB trivial ?_;intro bb hbb;cases bb<;>(try simp only [hbs,if_false,reduceCtorEq] at hbb)<;>(try first | (exfalso;omega) | exact hbb.elim)) | fail)
  refine q_call wN (fv:=.fn (.func 37) [] []) (vs:=[.pref (s.n+2) 0,tv0]) ef (by simp only [List.map,lk,sv1,sv2,sv3,Nat.reduceEqDiff,Nat.reduceAdd,Nat.reduceLeDiff,reduceIte,if_false,if_true,mkVal,unLV,List.map,optTmps]) (CallOk.mono htn fun x s2 hh=>⟨⟨.inr ⟨rfl,by simp [LOp.run,lk,sv1,sv2,sv3,Nat.reduceEqDiff,Nat.reduceAdd,Nat.reduceLeDiff,reduceIte,if_false,if_true,mkVal,unLV,List.map,optTmps,mkVal,Env.put_some]⟩,trivial⟩,?_⟩)
  simp only [Env.put_some]
  obtain ⟨rfl,hS2,hn2,-,ho2⟩:=hh
  have h2B:=Bx.mk (And.intro hS2 ho2)
  clear htn hS2 ho2
  repeat' (first | refine gN trivial ?_ | (refine gB trivial ?_;intro bb hbb;cases bb<;>(try simp only [hbs,if_false,reduceCtorEq] at hbb)<;>(try first | (exfalso;omega) | exact hbb.elim)) | fail)
  refine q_pure hG0 hnames wN (by simp only [List.map,lk,sv1,sv2,sv3,Nat.reduceEqDiff,Nat.reduceAdd,Nat.reduceLeDiff,reduceIte,if_false,if_true,mkVal,unLV,List.map,optTmps]) trivial ?_
  simp only [Env.put_some]
  refine q_pureEx hG0 hrec wN (by simp only [List.map,lk,sv1,sv2,sv3,Nat.reduceEqDiff,Nat.reduceAdd,Nat.reduceLeDiff,reduceIte,if_false,if_true,mkVal,unLV,List.map,optTmps]) fun rv hr0 hrc=>⟨trivial,?_⟩
  simp only [Env.put_some]
  have hrcc:=hr0.sl.cell
  have hc1:cells? rv=some [rv]:=sl_cells hr0.sl
  refine u_build (vs:=[.int .i64 ((0:Nat):Int),rv]) wN (by
    simp only [evParts,List.map,lk,sv1,sv2,sv3,Nat.reduceEqDiff,Nat.reduceAdd,Nat.reduceLeDiff,reduceIte,if_false,if_true,mkVal,unLV,List.map,optTmps]
    simp [fillParts,hc1,cells_int,splice]) ?_
  have hxn:=xnum_ok (k:=0) h2B.out.1 hr0 (by rw [recS_len];omega) (by omega) (by simp)
  rw [(addK_nil keyX (0,recS (2*B.next.length))).1,(addK_nil keyX (0,recS (2*B.next.length))).2] at hxn
  refine q_call wN (fv:=.fn (.func 36) [] []) (vs:=[.pref (s.n+2) 0, .agg [.int .i64 ((0:Nat):Int),rv]]) ef (by simp only [List.map,lk,sv1,sv2,sv3,Nat.reduceEqDiff,Nat.reduceAdd,Nat.reduceLeDiff,reduceIte,if_false,if_true,mkVal,unLV,List.map,optTmps]) (CallOk.mono hxn fun x s3 hh=>⟨trivial,?_⟩)
  simp only [Env.put_some]
  obtain ⟨rfl,hS3,hn3,-,ho3⟩:=hh
  have h3B:=Bx.mk (And.intro hS3 ho3)
  clear hxn hS3 ho3
  repeat' (first | refine gN trivial ?_ | (refine gB trivial ?_;intro bb hbb;cases bb<;>(try simp only [hbs,if_false,reduceCtorEq] at hbb)<;>(try first | (exfalso;omega) | exact hbb.elim)) | fail)
  refine ⟨.inr trivial,s.n+2,_,ef,h3B.out.1,by omega,fun id h=>?_,fun id hid=>?_⟩
  · rcases h with (h | h) | h<;>omega
  · rw [h3B.out.2 id (by omega) (fun h=>by rcases h with h | h<;>omega),h2B.out.2 id (by omega) (fun h=>by omega)]
    exact ho1 id hid
end Go.Proofs.Ytkbiecjdcjfhaaa
