/- The document's Valid of automata. -/
import Derived.Test.YtkbiecjdcjfhaaaValid
import Derived.Test.YtkbiecjdcjfhaaaLitw
set_option linter.unusedSimpArgs false
set_option linter.unusedVariables false
section
set_option linter.unusedSimpArgs false
set_option linter.unusedVariables false
namespace Go.Proofs.Ytkbiecjdcjfhaaa
open Go Go.Pv
open Classical
theorem before_ok (a b:Int × Bool):PO 29 [.agg [.int .i64 a.1, .bool a.2], .agg [.int .i64 b.1, .bool b.2]] (.bool (decide (mlt a b))):=by
  obtain ⟨x,p⟩:=a
  obtain ⟨y,q⟩:=b
  refine q_fn (t:=4) hm Try.func29 (by decide +kernel) c29 (Nat.le_of_ble_eq_true rfl) rfl rfl rfl ?_
  have e0:(envOf [LV.agg [.int .i64 x, .bool p], .agg [.int .i64 y, .bool q]]).at 0 = .agg [.int .i64 x, .bool p]:=by rw [envOf_at];rfl
  have e1:(envOf [LV.agg [.int .i64 x, .bool p], .agg [.int .i64 y, .bool q]]).at 1 = .agg [.int .i64 y, .bool q]:=by rw [envOf_at];rfl
  generalize envOf [LV.agg [.int .i64 x, .bool p], .agg [.int .i64 y, .bool q]]=e at *
  unfold l29
  dsimp only [jA,jC,jD,qM,qL,qF,qB,qK,qO,qP,qm,ql]
  have hm':mlt (x,p) (y,q)↔(x<y∨x=y∧p=false∧q=true):=Iff.rfl
  cases p<;>cases q
  all_goals
    repeat' (first | refine gA trivial ?_ | (refine gB trivial ?_;intro bb hbb;cases bb<;>(try simp only [hbs,if_false,reduceCtorEq] at hbb)) | fail)
    all_goals
      refine ⟨.inr trivial,?_⟩
      try simp only [lk,sv1,sv2,sv3,Nat.reduceEqDiff,Nat.reduceAdd,Nat.reduceLeDiff,reduceIte,if_false,if_true,mkVal,unLV,List.map,optTmps,Bool.not_true,Bool.not_false]
      first
        | exact bool_f (fun h=>by have:=hm'.1 h;simp at this;try omega)
        | exact bool_t (hm'.2 (by simp;try omega))
        | exact bool_t (hm'.2 (by simp))
set_option maxHeartbeats 8000000 in
theorem rbvalid_ok {v:LV} {B:Bu} {sv nv:LV} (hB:IsB v B sv nv):PO 12 [v] (.bool (decide (Vb B))):=by
  have hcl:=hB.closed
  obtain ⟨rfl,hs,hn⟩:=hB
  obtain ⟨vs,hn'⟩:=hn
  have hnl:=hn'.sl.len
  have hsl:=hs.sl.len
  have hc1:=hs.sl.cell
  have hc2:=hn'.sl.cell
  have hmx:maxLen=9223372036854775807:=by decide
  refine q_fn (t:=2) hm Try.func12 (by decide +kernel) c12 (Nat.le_of_ble_eq_true rfl) (by simp [LV.closed.closedAll,hcl]) rfl rfl ?_
  have e0:(envOf [LV.agg [.int .i64 B.L,sv,nv]]).at 0 = .agg [.int .i64 B.L,sv,nv]:=by rw [envOf_at];rfl
  generalize envOf [LV.agg [.int .i64 B.L,sv,nv]]=e at *
  unfold l12
  dsimp only [jA,jB,jC,jE,jF,qM,qL,qN,qF,qS,qI,qA,qB,qC,qK,qO,qP,qm,ql]
  repeat' (first | refine gA (And.intro @hnl @hsl) ?_ | (refine gB (And.intro @hnl @hsl) ?_;intro bb hbb;cases bb<;>(try simp only [hbs,if_false,reduceCtorEq] at hbb)) | fail)
  all_goals first
    | (refine ⟨.inr trivial,?_⟩;simp only [lk,sv1,sv2,sv3,Nat.reduceEqDiff,Nat.reduceAdd,Nat.reduceLeDiff,reduceIte,if_false,if_true,mkVal,unLV,List.map,optTmps];exact bool_f fun h=>by obtain ⟨a,b,c,_⟩:=h;omega)
    | skip
  refine qc_loop (fun m e s=>∃ i:Nat,m=B.start.length - i∧i≤B.start.length∧(∀ k,k<i→0≤B.start.getD k 0∧B.start.getD k 0<B.next.length∧(0<k→B.start.getD (k - 1) 0<B.start.getD k 0))∧e.at 1 = .pimm [.int .i64 B.L,sv,nv] 0∧e.at 3 = .int .i64 (i:Int)) _
    ⟨0,rfl,by omega,fun k hk=>absurd hk (Nat.not_lt_zero _),ef,by simp only [lk,sv1,sv2,sv3,Nat.reduceEqDiff,Nat.reduceAdd,Nat.reduceLeDiff,reduceIte,if_false,if_true,mkVal,unLV,List.map,optTmps];rfl⟩ ?_
  have h1:1≤B.L:=by omega
  have h2:B.L≤64:=by omega
  have h3:B.next.length≤3000:=by omega
  clear hbb e0
  rintro m e s ⟨i,rfl,hi,hso,e1,e3⟩
  have hws:∀ j:Nat,(j:Int)<9223372036854775807→IntKind.i64.wrap ((j:Int)+1)=((j+1:Nat):Int):=fun j hj=>by rw [wrap_i64 _ (by omega) (by omega)];rfl
  have hwp:∀ j:Nat,0<j→(j:Int)<9223372036854775807→IntKind.i64.wrap ((j:Int) - 1)=((j - 1:Nat):Int):=fun j h hj=>by rw [wrap_i64 _ (by omega) (by omega)];omega
  have hslen:=hs.len
  by_cases hil:i<B.start.length
  · -- a start
    have hiI:(i:Int)<(B.start.length:Int):=by omega
    have hiI':((i - 1:Nat):Int)<(B.start.length:Int):=by omega
    have hw:=hws i (by omega)
    have hbad:¬ (0≤B.start.getD i 0∧B.start.getD i 0<B.next.length∧(0<i→B.start.getD (i - 1) 0<B.start.getD i 0))→¬ Vb B:=fun hh h=>hh (h.2.2.2.1 i hil)
    have hgood:(0≤B.start.getD i 0∧B.start.getD i 0<B.next.length∧(0<i→B.start.getD (i - 1) 0<B.start.getD i 0))→∀ k,k<i+1→0≤B.start.getD k 0∧B.start.getD k 0<B.next.length∧(0<k→B.start.getD (k - 1) 0<B.start.getD k 0):=fun hh k hk=>by
      by_cases h:k<i
      · exact hso k h
      · obtain rfl:k=i:=by omega
        exact hh
    rcases Nat.eq_zero_or_pos i with hi0 | hi0
    · subst hi0
      repeat' (first | refine gA (And.intro @hsl (And.intro @hnl (And.intro (@iaN _ _ _ hs.sl) @ints_get))) ?_ | (refine gB (And.intro @hsl (And.intro @hnl (And.intro (@iaN _ _ _ hs.sl) @ints_get))) ?_;intro bb hbb;cases bb<;>(try simp only [hbs,if_false,reduceCtorEq] at hbb)) | fail)
      all_goals first
        | (exfalso;omega)
        | (refine ⟨.inr trivial,?_⟩;simp only [lk,sv1,sv2,sv3,Nat.reduceEqDiff,Nat.reduceAdd,Nat.reduceLeDiff,reduceIte,if_false,if_true,mkVal,unLV,List.map,optTmps];exact bool_f (hbad fun h=>by omega))
        | (refine ⟨B.start.length - (0+1),by omega,0+1,rfl,by omega,hgood ⟨by omega,by omega,fun h=>absurd h (Nat.lt_irrefl _)⟩,?_⟩
           simp only [lk,sv1,sv2,sv3,Nat.reduceEqDiff,Nat.reduceAdd,Nat.reduceLeDiff,reduceIte,if_false,if_true,mkVal,unLV,List.map,optTmps,hw,e1,and_self])
    · have hw':=hwp i hi0 (by omega)
      repeat' (first | refine gA (And.intro @hsl (And.intro @hnl (And.intro (@iaN _ _ _ hs.sl) (And.intro @ints_get @hw')))) ?_ | (refine gB (And.intro @hsl (And.intro @hnl (And.intro (@iaN _ _ _ hs.sl) (And.intro @ints_get @hw')))) ?_;intro bb hbb;cases bb<;>(try simp only [hbs,if_false,reduceCtorEq] at hbb)) | fail)
      all_goals first
        | (exfalso;omega)
        | (refine ⟨.inr trivial,?_⟩;simp only [lk,sv1,sv2,sv3,Nat.reduceEqDiff,Nat.reduceAdd,Nat.reduceLeDiff,reduceIte,if_false,if_true,mkVal,unLV,List.map,optTmps];exact bool_f (hbad fun h=>by have:=h.2.2 hi0;omega))
        | (refine ⟨B.start.length - (i+1),by omega,i+1,rfl,by omega,hgood ⟨by omega,by omega,fun _=>by omega⟩,?_⟩
           simp only [lk,sv1,sv2,sv3,Nat.reduceEqDiff,Nat.reduceAdd,Nat.reduceLeDiff,reduceIte,if_false,if_true,mkVal,unLV,List.map,optTmps,hw,e1,and_self])
  · -- the states
    have hsok:SOK B.next.length B.start:=fun k hk=>hso k (by omega)
    repeat' (first | refine gA @hsl ?_ | (refine gB @hsl ?_;intro bb hbb;cases bb<;>(try simp only [hbs,if_false,reduceCtorEq] at hbb)) | fail)
    rotate_left
    · exfalso;omega
    refine qc_loop (fun m e s=>∃ i:Nat,m=B.next.length - i∧i≤B.next.length∧(∀ k,k<i→ROK B.L B.next.length (B.next.getD k []))∧e.at 1 = .pimm [.int .i64 B.L,sv,nv] 0∧e.at 4 = .int .i64 (i:Int)) _
      ⟨0,rfl,by omega,fun k hk=>absurd hk (Nat.not_lt_zero _),ef,by simp only [lk,sv1,sv2,sv3,Nat.reduceEqDiff,Nat.reduceAdd,Nat.reduceLeDiff,reduceIte,if_false,if_true,mkVal,unLV,List.map,optTmps];rfl⟩ ?_
    clear hso hil hbb e1 e3
    clear e
    rintro m e s ⟨i,rfl,hi,hro,e1,e4⟩
    by_cases hil:i<B.next.length
    · have hiI : (i : Int) < (B.next.length : Int) := by omega
      have hw:=hws i (by omega)
      have g1:vs[i]? = some (vs.getD i .top):=hn'.get hil
      obtain ⟨ws,hr⟩:=hn'.row i hil
      have hrl:=hr.sl.len
      repeat' (first | refine gA (And.intro @hnl (And.intro (@iaN _ _ _ hn'.sl) (And.intro @g1 @hrl))) ?_ | (refine gB (And.intro @hnl (And.intro (@iaN _ _ _ hn'.sl) (And.intro @g1 @hrl))) ?_;intro bb hbb;cases bb<;>(try simp only [hbs,if_false,reduceCtorEq] at hbb)) | fail)
      · exfalso;omega
      rotate_left
      · refine ⟨.inr trivial,?_⟩
        simp only [lk,sv1,sv2,sv3,Nat.reduceEqDiff,Nat.reduceAdd,Nat.reduceLeDiff,reduceIte,if_false,if_true,mkVal,unLV,List.map,optTmps]
        exact bool_f fun h=>by
          have:=(h.2.2.2.2 i hil).1
          omega
      generalize hrow:B.next.getD i []=row at *
      generalize hrv:vs.getD i .top=rv at *
      have hrlen:B.L=(row.length:Int):=by omega
      refine qc_loop (fun m e s=>∃ a:Nat,m=row.length - a∧a≤row.length∧(∀ k,k<a→MOK B.next.length (row.getD k []))∧e.at 1 = .pimm [.int .i64 B.L,sv,nv] 0∧e.at 4 = .int .i64 (i:Int)∧e.at 5 = .int .i64 (a:Int)) _
        ⟨0,rfl,by omega,fun k hk=>absurd hk (Nat.not_lt_zero _),ef,ef,by simp only [lk,sv1,sv2,sv3,Nat.reduceEqDiff,Nat.reduceAdd,Nat.reduceLeDiff,reduceIte,if_false,if_true,mkVal,unLV,List.map,optTmps];rfl⟩ ?_
      clear e1 e4 hbb
      clear e
      rintro m e s ⟨a,rfl,ha,hao,e1,e4,e5⟩
      by_cases hal:a<row.length
      · have haI : (a : Int) < (row.length : Int) := by omega
        have haL:(a:Int)<B.L:=by omega
        have hwa:=hws a (by omega)
        have g2:ws[a]? = some (ws.getD a .top):=hr.get hal
        have hm':=hr.row a hal
        generalize hms:row.getD a []=ms at *
        generalize hmv:ws.getD a .top=mv at *
        have hml:=hm'.sl.len
        have hmlen:=hm'.len
        clear hrlen
        repeat' (first | refine gA (And.intro (@iaN _ _ _ hn'.sl) (And.intro @g1 (And.intro (@iaN _ _ _ hr.sl) (And.intro @g2 @hml)))) ?_ | (refine gB (And.intro (@iaN _ _ _ hn'.sl) (And.intro @g1 (And.intro (@iaN _ _ _ hr.sl) (And.intro @g2 @hml)))) ?_;intro bb hbb;cases bb<;>(try simp only [hbs,if_false,reduceCtorEq] at hbb)) | fail)
        · exfalso;omega
        refine qc_loop (fun m e s=>∃ k:Nat,m=ms.length - k∧k≤ms.length∧(∀ j,j<k→0≤(ms.getD j (0,false)).1∧(ms.getD j (0,false)).1<B.next.length∧(0<j→mlt (ms.getD (j - 1) (0,false)) (ms.getD j (0,false))))∧e.at 1 = .pimm [.int .i64 B.L,sv,nv] 0∧e.at 4 = .int .i64 (i:Int)∧e.at 5 = .int .i64 (a:Int)∧e.at 6=mv∧e.at 7 = .int .i64 (k:Int)) _
          ⟨0,rfl,by omega,fun k hk=>absurd hk (Nat.not_lt_zero _),ef,ef,ef,ef,by simp only [lk,sv1,sv2,sv3,Nat.reduceEqDiff,Nat.reduceAdd,Nat.reduceLeDiff,reduceIte,if_false,if_true,mkVal,unLV,List.map,optTmps];rfl⟩ ?_
        clear e1 e4 e5 hbb
        clear e
        rintro m e s ⟨k,rfl,hk,hko,e1,e4,e5,e6,e7⟩
        by_cases hkl:k<ms.length
        · have hkI:(k:Int)<(ms.length:Int):=by omega
          have hwk:=hws k (by omega)
          have hld:(mcells ms)[k*2]? = some (.int .i64 (ms.getD k (0,false)).1):=mcells_get0 hkl
          have hbad:¬ (0≤(ms.getD k (0,false)).1∧(ms.getD k (0,false)).1<B.next.length∧(0<k→mlt (ms.getD (k - 1) (0,false)) (ms.getD k (0,false))))→¬ Vb B:=fun hh h=>by
            have h5:=(h.2.2.2.2 i hil).2 a (by rw [hrow];exact hal)
            rw [hrow,hms] at h5
            exact hh (h5 k hkl)
          have hgood:(0≤(ms.getD k (0,false)).1∧(ms.getD k (0,false)).1<B.next.length∧(0<k→mlt (ms.getD (k - 1) (0,false)) (ms.getD k (0,false))))→∀ j,j<k+1→0≤(ms.getD j (0,false)).1∧(ms.getD j (0,false)).1<B.next.length∧(0<j→mlt (ms.getD (j - 1) (0,false)) (ms.getD j (0,false))):=fun hh j hj=>by
            by_cases h:j<k
            · exact hko j h
            · obtain rfl:j=k:=by omega
              exact hh
          rcases Nat.eq_zero_or_pos k with hk0 | hk0
          · subst hk0
            repeat' (first | refine gA (And.intro @hml (And.intro @hnl (And.intro (@iaN _ _ _ hm'.sl) @hld))) ?_ | (refine gB (And.intro @hml (And.intro @hnl (And.intro (@iaN _ _ _ hm'.sl) @hld))) ?_;intro bb hbb;cases bb<;>(try simp only [hbs,if_false,reduceCtorEq] at hbb)) | fail)
            all_goals first
              | (exfalso;omega)
              | (refine ⟨.inr trivial,?_⟩;simp only [lk,sv1,sv2,sv3,Nat.reduceEqDiff,Nat.reduceAdd,Nat.reduceLeDiff,reduceIte,if_false,if_true,mkVal,unLV,List.map,optTmps];exact bool_f (hbad fun h=>by omega))
              | (refine ⟨ms.length - (0+1),by omega,0+1,rfl,by omega,hgood ⟨by omega,by omega,fun h=>absurd h (Nat.lt_irrefl _)⟩,?_⟩
                 simp only [lk,sv1,sv2,sv3,Nat.reduceEqDiff,Nat.reduceAdd,Nat.reduceLeDiff,reduceIte,if_false,if_true,mkVal,unLV,List.map,optTmps,hwk,e1,e4,e5,e6,and_self])
          · have hw':=hwp k hk0 (by omega)
            have hkI':((k - 1:Nat):Int)<(ms.length:Int):=by omega
            have hl1:=fun s=>loadN_moves (s:=s) hkl
            have hl2:=fun s=>loadN_moves (s:=s) (show k - 1<ms.length by omega)
            repeat' (first | refine gA (And.intro @hml (And.intro @hnl (And.intro (@iaN _ _ _ hm'.sl) (And.intro @hld (And.intro @hw' (And.intro @hl1 @hl2)))))) ?_ | (refine gB (And.intro @hml (And.intro @hnl (And.intro (@iaN _ _ _ hm'.sl) (And.intro @hld (And.intro @hw' (And.intro @hl1 @hl2)))))) ?_;intro bb hbb;cases bb<;>(try simp only [hbs,if_false,reduceCtorEq] at hbb)) | fail)
            all_goals first
              | (exfalso;omega)
              | (refine ⟨.inr trivial,?_⟩;simp only [lk,sv1,sv2,sv3,Nat.reduceEqDiff,Nat.reduceAdd,Nat.reduceLeDiff,reduceIte,if_false,if_true,mkVal,unLV,List.map,optTmps];exact bool_f (hbad fun h=>by omega))
              | skip
            refine q_pureB hG0 (before_ok (ms.getD (k - 1) (0,false)) (ms.getD k (0,false))) (by first | exact wN | (apply wG;(simp only [lk,Nat.reduceEqDiff,reduceIte,e1,e4,e5,e6,e7];(try rfl);done))) (by simp only [List.map,lk,Nat.reduceEqDiff,reduceIte,e1,e4,e5,e6,e7];try rfl) (fun bb hbb=>⟨by first | trivial | (simp only [Chks,wantedG,LOp.run,Env.put_some,Env.put_none,lk,sv1,sv2,sv3,Nat.reduceEqDiff,Nat.reduceAdd,Nat.reduceLeDiff,reduceIte,if_false,if_true,mkVal,unLV,List.map,optTmps,beq_self_eq_true,reduceCtorEq,false_or,true_and,and_true,Option.some.injEq, *];done),?_⟩)
            simp only [Env.put_some]
            cases bb<;>simp only [decide_eq_true_eq,decide_eq_false_iff_not] at hbb
            · repeat' (first | refine gA trivial ?_ | (refine gB trivial ?_;intro bb hbb;cases bb<;>(try simp only [hbs,if_false,reduceCtorEq] at hbb)) | fail)
              refine ⟨.inr trivial,?_⟩
              simp only [lk,sv1,sv2,sv3,Nat.reduceEqDiff,Nat.reduceAdd,Nat.reduceLeDiff,reduceIte,if_false,if_true,mkVal,unLV,List.map,optTmps]
              exact bool_f (hbad fun h=>hbb (h.2.2 hk0))
            · repeat' (first | refine gA trivial ?_ | (refine gB trivial ?_;intro bb hbb;cases bb<;>(try simp only [hbs,if_false,reduceCtorEq] at hbb)) | fail)
              refine ⟨ms.length - (k+1),by omega,k+1,rfl,by omega,hgood ⟨by omega,by omega,fun _=>hbb⟩,?_⟩
              simp only [lk,sv1,sv2,sv3,Nat.reduceEqDiff,Nat.reduceAdd,Nat.reduceLeDiff,reduceIte,if_false,if_true,mkVal,unLV,List.map,optTmps,hwk,e1,e4,e5,e6,and_self]
        · repeat' (first | refine gA @hml ?_ | (refine gB @hml ?_;intro bb hbb;cases bb<;>(try simp only [hbs,if_false,reduceCtorEq] at hbb)) | fail)
          · refine ⟨row.length - (a+1),by omega,a+1,rfl,by omega,fun j hj=>?_,?_⟩
            · by_cases h:j<a
              · exact hao j h
              · obtain rfl:j=a:=by omega
                rw [hms]
                exact fun q hq=>hko q (by omega)
            · simp only [lk,sv1,sv2,sv3,Nat.reduceEqDiff,Nat.reduceAdd,Nat.reduceLeDiff,reduceIte,if_false,if_true,mkVal,unLV,List.map,optTmps,hwa,e1,e4,and_self]
          · exfalso;omega
      · have hnL:¬ ((a:Int)<B.L):=by omega
        have hRok:ROK B.L B.next.length row:=⟨hrlen.symm,fun q hq=>hao q (by omega)⟩
        clear hrlen
        repeat' (first | refine gA trivial ?_ | (refine gB trivial ?_;intro bb hbb;cases bb<;>(try simp only [hbs,if_false,reduceCtorEq] at hbb)) | fail)
        · refine ⟨B.next.length - (i+1),by omega,i+1,rfl,by omega,fun k hk=>?_,?_⟩
          · by_cases h:k<i
            · exact hro k h
            · obtain rfl:k=i:=by omega
              rw [hrow];exact hRok
          · simp only [lk,sv1,sv2,sv3,Nat.reduceEqDiff,Nat.reduceAdd,Nat.reduceLeDiff,reduceIte,if_false,if_true,mkVal,unLV,List.map,optTmps,hw,e1,and_self]
        · exfalso;omega
    · repeat' (first | refine gA @hnl ?_ | (refine gB @hnl ?_;intro bb hbb;cases bb<;>(try simp only [hbs,if_false,reduceCtorEq] at hbb)) | fail)
      · refine ⟨.inr trivial,?_⟩
        simp only [lk,sv1,sv2,sv3,Nat.reduceEqDiff,Nat.reduceAdd,Nat.reduceLeDiff,reduceIte,if_false,if_true,mkVal,unLV,List.map,optTmps]
        exact bool_t ⟨h1,h2,h3,hsok,fun k hk=>hro k (by omega)⟩
      · exfalso;omega
end Go.Proofs.Ytkbiecjdcjfhaaa
end
section
set_option linter.unusedSimpArgs false
set_option linter.unusedVariables false
namespace Go.Proofs.Ytkbiecjdcjfhaaa
open Go Go.Pv
open Classical
set_option maxHeartbeats 8000000 in
theorem rbfew_ok {v:LV} {B:Bu} {sv nv:LV} (hB:IsB v B sv nv):PE 11 [v] (fun r=>∃ b,r = .bool b∧(b=true→B.next.length≤10∧B.L≤20∧B.start.length≤20)):=by
  have hcl:=hB.closed
  obtain ⟨rfl,hs,hn⟩:=hB
  obtain ⟨vs,hn'⟩:=hn
  have hnl:=hn'.sl.len
  have hsl:=hs.sl.len
  have hc1:=hs.sl.cell
  have hc2:=hn'.sl.cell
  have hmx:maxLen=9223372036854775807:=by decide
  refine q_fnEx (t:=2) hm Try.func11 (by decide +kernel) c11 (Nat.le_of_ble_eq_true rfl) (by simp [LV.closed.closedAll,hcl]) rfl ?_
  have e0:(envOf [LV.agg [.int .i64 B.L,sv,nv]]).at 0 = .agg [.int .i64 B.L,sv,nv]:=by rw [envOf_at];rfl
  generalize envOf [LV.agg [.int .i64 B.L,sv,nv]]=e at *
  unfold l11
  dsimp only [jA,jC,qL,qF,qS,qI,qA,qB,qC,qK,qO,qP,qm,ql]
  have hF:∀ (b:Bool) (s:St),∃ r s',frz frzDepth (.bool b) s=some (r,s')∧r.closed=true∧∃ b',r = .bool b'∧(b'=true→b=true):=fun b s=>⟨.bool b,s,frzD_closed rfl,rfl,b,rfl,fun h=>h⟩
  repeat' (first | refine gA (And.intro @hnl @hsl) ?_ | (refine gB (And.intro @hnl @hsl) ?_;intro bb hbb;cases bb<;>(try simp only [hbs,if_false,reduceCtorEq] at hbb)) | fail)
  all_goals first
    | (refine ⟨.inr trivial, .bool false,_,by simp only [lk,sv1,sv2,sv3,Nat.reduceEqDiff,Nat.reduceAdd,Nat.reduceLeDiff,reduceIte,if_false,if_true,mkVal,unLV,List.map,optTmps];exact frzD_closed rfl,rfl,false,rfl,fun h=>by cases h⟩)
    | skip
  have h1:B.L≤20:=by omega
  have h2:B.start.length≤20:=by omega
  have h3:B.next.length≤10:=by omega
  refine qc_loop (fun m e s=>∃ i:Nat,m=B.next.length - i∧i≤B.next.length∧e.at 1 = .pimm [.int .i64 B.L,sv,nv] 0∧e.at 3 = .int .i64 (i:Int)) _
    ⟨0,rfl,by omega,ef,by simp only [lk,sv1,sv2,sv3,Nat.reduceEqDiff,Nat.reduceAdd,Nat.reduceLeDiff,reduceIte,if_false,if_true,mkVal,unLV,List.map,optTmps];rfl⟩ ?_
  clear hbb e0
  clear e
  rintro m e s ⟨i,rfl,hi,e1,e3⟩
  have hws:∀ j:Nat,(j:Int)<9223372036854775807→IntKind.i64.wrap ((j:Int)+1)=((j+1:Nat):Int):=fun j hj=>by rw [wrap_i64 _ (by omega) (by omega)];rfl
  by_cases hil:i<B.next.length
  · have hiI:(i:Int)<(B.next.length:Int):=by omega
    have hw:=hws i (by omega)
    have g1:vs[i]? = some (vs.getD i .top):=hn'.get hil
    obtain ⟨ws,hr⟩:=hn'.row i hil
    have hrl:=hr.sl.len
    generalize B.next.getD i []=row at *
    generalize vs.getD i .top=rv at *
    repeat' (first | refine gA (And.intro @hnl (And.intro (@iaN _ _ _ hn'.sl) (And.intro @g1 @hrl))) ?_ | (refine gB (And.intro @hnl (And.intro (@iaN _ _ _ hn'.sl) (And.intro @g1 @hrl))) ?_;intro bb hbb;cases bb<;>(try simp only [hbs,if_false,reduceCtorEq] at hbb)) | fail)
    · exfalso;omega
    rotate_left
    · refine ⟨.inr trivial, .bool false,_,by simp only [lk,sv1,sv2,sv3,Nat.reduceEqDiff,Nat.reduceAdd,Nat.reduceLeDiff,reduceIte,if_false,if_true,mkVal,unLV,List.map,optTmps];exact frzD_closed rfl,rfl,false,rfl,fun h=>by cases h⟩
    refine qc_loop (fun m e s=>∃ a:Nat,m=row.length - a∧a≤row.length∧e.at 1 = .pimm [.int .i64 B.L,sv,nv] 0∧e.at 3 = .int .i64 (i:Int)∧e.at 4 = .int .i64 (a:Int)) _
      ⟨0,rfl,by omega,ef,ef,by simp only [lk,sv1,sv2,sv3,Nat.reduceEqDiff,Nat.reduceAdd,Nat.reduceLeDiff,reduceIte,if_false,if_true,mkVal,unLV,List.map,optTmps];rfl⟩ ?_
    have hr20:row.length≤20:=by omega
    clear e1 e3 hbb
    clear e
    rintro m e s ⟨a,rfl,ha,e1,e3,e4⟩
    by_cases hal:a<row.length
    · have haI:(a:Int)<(row.length:Int):=by omega
      have hwa:=hws a (by omega)
      have g2:ws[a]? = some (ws.getD a .top):=hr.get hal
      have hml:=(hr.row a hal).sl.len
      generalize row.getD a []=ms at *
      generalize ws.getD a .top=mv at *
      repeat' (first | refine gA (And.intro (@iaN _ _ _ hn'.sl) (And.intro @g1 (And.intro @hrl (And.intro (@iaN _ _ _ hr.sl) (And.intro @g2 @hml))))) ?_ | (refine gB (And.intro (@iaN _ _ _ hn'.sl) (And.intro @g1 (And.intro @hrl (And.intro (@iaN _ _ _ hr.sl) (And.intro @g2 @hml))))) ?_;intro bb hbb;cases bb<;>(try simp only [hbs,if_false,reduceCtorEq] at hbb)) | fail)
      · exfalso;omega
      · refine ⟨row.length - (a+1),by omega,a+1,rfl,by omega,?_⟩
        simp only [lk,sv1,sv2,sv3,Nat.reduceEqDiff,Nat.reduceAdd,Nat.reduceLeDiff,reduceIte,if_false,if_true,mkVal,unLV,List.map,optTmps,hwa,e1,e3,and_self]
      · refine ⟨.inr trivial, .bool false,_,by simp only [lk,sv1,sv2,sv3,Nat.reduceEqDiff,Nat.reduceAdd,Nat.reduceLeDiff,reduceIte,if_false,if_true,mkVal,unLV,List.map,optTmps];exact frzD_closed rfl,rfl,false,rfl,fun h=>by cases h⟩
    · repeat' (first | refine gA (And.intro (@iaN _ _ _ hn'.sl) (And.intro @g1 @hrl)) ?_ | (refine gB (And.intro (@iaN _ _ _ hn'.sl) (And.intro @g1 @hrl)) ?_;intro bb hbb;cases bb<;>(try simp only [hbs,if_false,reduceCtorEq] at hbb)) | fail)
      · refine ⟨B.next.length - (i+1),by omega,i+1,rfl,by omega,?_⟩
        simp only [lk,sv1,sv2,sv3,Nat.reduceEqDiff,Nat.reduceAdd,Nat.reduceLeDiff,reduceIte,if_false,if_true,mkVal,unLV,List.map,optTmps,hw,e1,and_self]
      · exfalso;omega
  · repeat' (first | refine gA @hnl ?_ | (refine gB @hnl ?_;intro bb hbb;cases bb<;>(try simp only [hbs,if_false,reduceCtorEq] at hbb)) | fail)
    · refine ⟨.inr trivial, .bool true,_,by simp only [lk,sv1,sv2,sv3,Nat.reduceEqDiff,Nat.reduceAdd,Nat.reduceLeDiff,reduceIte,if_false,if_true,mkVal,unLV,List.map,optTmps];exact frzD_closed rfl,rfl,true,rfl,fun _=>⟨h3,h1,h2⟩⟩
    · exfalso;omega
end Go.Proofs.Ytkbiecjdcjfhaaa
end
