/- buchi.Valid. -/
import Derived.Test.YtgobbogomchnhaaGreatDoorBase
set_option linter.unusedSimpArgs false
set_option linter.unusedVariables false
namespace Go.Proofs.YtgobbogomchnhaaGreatDoor
open Go Go.Pv
open Classical
structure Bu where
 L:Int
 start:List Int
 next:List (List Moves)
def IsB (v:LV) (B:Bu) (sv nv:LV):Prop:=v = .agg [.int .i64 B.L,sv,nv]∧IsInts sv B.start∧IsNext nv B.next
theorem IsB.closed {v:LV} {B:Bu} {sv nv:LV} (h:IsB v B sv nv):v.closed=true:=by
 obtain ⟨rfl,h1,h2⟩:=h
 simp [LV.closed,LV.closed.closedAll,h1.closed,h2.closed]
def mlt (a b:Int × Bool):Prop:=a.1<b.1∨a.1=b.1∧a.2=false∧b.2=true
def mcmp (a b:Int × Bool):Int:=if a.1<b.1 then -1 else if b.1<a.1 then 1 else if a.2=b.2 then 0 else if b.2=true then -1 else 1
theorem mcmp_lt (a b:Int × Bool):mcmp a b<0↔mlt a b:=by
 unfold mcmp mlt
 obtain ⟨x,p⟩:=a
 obtain ⟨y,q⟩:=b
 simp only
 split
 ·simp;omega
 ·split
  ·simp;omega
  ·cases p<;>cases q<;>simp<;>omega
def MOK (n:Nat) (ms:Moves):Prop:=∀ k,k<ms.length→0≤(ms.getD k (0,false)).1∧(ms.getD k (0,false)).1<n∧(0<k→mlt (ms.getD (k - 1) (0,false)) (ms.getD k (0,false)))
def SOK (n:Nat) (st:List Int):Prop:=∀ k,k<st.length→0≤st.getD k 0∧st.getD k 0<n∧(0<k→st.getD (k - 1) 0<st.getD k 0)
def ROK (L:Int) (n:Nat) (row:List Moves):Prop:=(row.length:Int)=L∧∀ a,a<row.length→MOK n (row.getD a [])
def Vb (B:Bu):Prop:=1≤B.L∧B.L≤64∧B.next.length≤3000∧SOK B.next.length B.start∧∀ i,i<B.next.length→ROK B.L B.next.length (B.next.getD i [])
theorem loadN_moves {ms:Moves} {k:Nat} (h:k<ms.length) {s:St} : loadLV (some 2) (.pimm (mcells ms) (k*2)) s=some (.agg [.int .i64 (ms.getD k (0,false)).1, .bool (ms.getD k (0,false)).2]):=by
 have h1:=mcells_pair h
 have h2:k*2+2≤(mcells ms).length:=by rw [mcells_length];omega
 simp only [loadLV,mkVal]
 rw [if_pos h2,h1]
theorem isnan_ok (x:Int):PO 116 [.int .i64 x] (.bool false):=by
 refine q_fn (t:=2) hm Tryz.func116 (by decide +kernel) c116 (Nat.le_of_ble_eq_true rfl) rfl rfl rfl ?_
 have e0:(envOf [LV.int .i64 x]).at 0 = .int .i64 x:=by rw [envOf_at];rfl
 generalize envOf [LV.int .i64 x]=e at *
 unfold l116
 dsimp only [jA,qK,qm]
 repeat' (first | refine gA trivial ?_ | (refine gB trivial ?_;intro bb hbb;cases bb<;>(try simp only [hbs,if_false,reduceCtorEq] at hbb)) | fail)
 ·exact ⟨.inr trivial,ef⟩
 ·exact absurd rfl hbb
theorem cmpc_ok (a b:Int):PO 77 [.int .i64 a, .int .i64 b] (.int .i64 (if a<b then -1 else if b<a then 1 else 0)):=by
 refine q_fn (t:=4) hm Tryz.func77 (by decide +kernel) c77 (Nat.le_of_ble_eq_true rfl) rfl rfl rfl ?_
 have e0:(envOf [LV.int .i64 a, .int .i64 b]).at 0 = .int .i64 a:=by rw [envOf_at];rfl
 have e1:(envOf [LV.int .i64 a, .int .i64 b]).at 1 = .int .i64 b:=by rw [envOf_at];rfl
 generalize envOf [LV.int .i64 a, .int .i64 b]=e at *
 unfold l77
 dsimp only [jA,qB,qC,qG,qm]
 repeat' (first | refine gA trivial ?_ | (refine gB trivial ?_;intro bb hbb;cases bb<;>(try simp only [hbs,if_false,reduceCtorEq] at hbb)) | apply qc_seq | fail)
 refine q_pure hG0 (isnan_ok a) (by first | exact wN | (apply wG;(simp only [lk,Nat.reduceEqDiff,reduceIte,e0,e1];(try rfl);done))) (by simp only [List.map,lk,Nat.reduceEqDiff,reduceIte,e0,e1];try rfl) (by first | trivial | (simp only [Chks,wantedG,LOp.run,Env.put_some,Env.put_none,lk,sv1,sv2,sv3,Nat.reduceEqDiff,Nat.reduceAdd,Nat.reduceLeDiff,reduceIte,if_false,if_true,mkVal,unLV,List.map,optTmps,beq_self_eq_true,reduceCtorEq,false_or,true_and,and_true,Option.some.injEq, *];done)) ?_
 simp only [Env.put_some]
 repeat' (first | refine gA trivial ?_ | (refine gB trivial ?_;intro bb hbb;cases bb<;>(try simp only [hbs,if_false,reduceCtorEq] at hbb)) | apply qc_seq | fail)
 refine q_pure hG0 (isnan_ok b) (by first | exact wN | (apply wG;(simp only [lk,Nat.reduceEqDiff,reduceIte,e0,e1];(try rfl);done))) (by simp only [List.map,lk,Nat.reduceEqDiff,reduceIte,e0,e1];try rfl) (by first | trivial | (simp only [Chks,wantedG,LOp.run,Env.put_some,Env.put_none,lk,sv1,sv2,sv3,Nat.reduceEqDiff,Nat.reduceAdd,Nat.reduceLeDiff,reduceIte,if_false,if_true,mkVal,unLV,List.map,optTmps,beq_self_eq_true,reduceCtorEq,false_or,true_and,and_true,Option.some.injEq, *];done)) ?_
 simp only [Env.put_some]
 repeat' (first | refine gA trivial ?_ | (refine gB trivial ?_;intro bb hbb;cases bb<;>(try simp only [hbs,if_false,reduceCtorEq] at hbb)) | apply qc_seq | fail)
 all_goals
  refine ⟨.inr trivial,?_⟩
  simp only [lk,sv1,sv2,sv3,Nat.reduceEqDiff,Nat.reduceAdd,Nat.reduceLeDiff,reduceIte,if_false,if_true,mkVal,unLV,List.map,optTmps]
  repeat' split
  all_goals first | rfl | (exfalso;omega)
theorem compare_ok (a b:Int × Bool):PO 34 [.agg [.int .i64 a.1, .bool a.2], .agg [.int .i64 b.1, .bool b.2]] (.int .i64 (mcmp a b)):=by
 obtain ⟨x,p⟩:=a
 obtain ⟨y,q⟩:=b
 refine q_fn (t:=4) hm Tryz.func34 (by decide +kernel) c34 (Nat.le_of_ble_eq_true rfl) rfl rfl rfl ?_
 have e0:(envOf [LV.agg [.int .i64 x, .bool p], .agg [.int .i64 y, .bool q]]).at 0 = .agg [.int .i64 x, .bool p]:=by rw [envOf_at];rfl
 have e1:(envOf [LV.agg [.int .i64 x, .bool p], .agg [.int .i64 y, .bool q]]).at 1 = .agg [.int .i64 y, .bool q]:=by rw [envOf_at];rfl
 generalize envOf [LV.agg [.int .i64 x, .bool p], .agg [.int .i64 y, .bool q]]=e at *
 unfold l34
 dsimp only [jA,jC,qL,qF,qC,qO,qP,qm,ql]
 repeat' (first | refine gA trivial ?_ | (refine gB trivial ?_;intro bb hbb;cases bb<;>(try simp only [hbs,if_false,reduceCtorEq] at hbb)) | apply qc_seq | fail)
 refine q_pure hG0 (cmpc_ok x y) (by first | exact wN | (apply wG;(simp only [lk,Nat.reduceEqDiff,reduceIte,e0,e1];(try rfl);done))) (by simp only [List.map,lk,Nat.reduceEqDiff,reduceIte,e0,e1];try rfl) (by first | trivial | (simp only [Chks,wantedG,LOp.run,Env.put_some,Env.put_none,lk,sv1,sv2,sv3,Nat.reduceEqDiff,Nat.reduceAdd,Nat.reduceLeDiff,reduceIte,if_false,if_true,mkVal,unLV,List.map,optTmps,beq_self_eq_true,reduceCtorEq,false_or,true_and,and_true,Option.some.injEq, *];done)) ?_
 simp only [Env.put_some]
 generalize hc:(if x<y then (-1:Int) else if y<x then 1 else 0)=c
 cases p<;>cases q
 all_goals
  repeat' (first | refine gA trivial ?_ | (refine gB trivial ?_;intro bb hbb;cases bb<;>(try simp only [hbs,if_false,reduceCtorEq] at hbb)) | apply qc_seq | fail)
  all_goals
   refine ⟨.inr trivial,?_⟩
   simp only [lk,sv1,sv2,sv3,Nat.reduceEqDiff,Nat.reduceAdd,Nat.reduceLeDiff,reduceIte,if_false,if_true,mkVal,unLV,List.map,optTmps,mcmp]
   revert hc
   repeat' split
   all_goals first | (intro hc;subst hc;rfl) | (intro hc;exfalso;omega) | (intro hc;simp_all;done)
theorem state_ok {B:Bu} {sv nv:LV} (hs:IsInts sv B.start) (hn:IsNext nv B.next) (x:Int):PureOk Tryz.prog GL (.fn (.func 33) [] [.pimm [.int .i64 B.L,sv,nv] 0]) [.int .i64 x] (.bool (decide (0≤x∧x<(B.next.length:Int)))):=by
 obtain ⟨vs,hn'⟩:=id hn
 have hl:=hn'.sl.len
 refine q_fnC (t:=3) Tryz.func33 (by decide +kernel) c33 (Nat.le_of_ble_eq_true rfl) rfl (by simp [LV.closed,LV.closed.closedAll,hs.closed,hn.closed]) rfl rfl ?_
 have e0:(envOf ([LV.int .i64 x]++[.pimm [.int .i64 B.L,sv,nv] 0])).at 0 = .int .i64 x:=by rw [envOf_at];rfl
 have e1:(envOf ([LV.int .i64 x]++[.pimm [.int .i64 B.L,sv,nv] 0])).at 1 = .pimm [.int .i64 B.L,sv,nv] 0:=by rw [envOf_at];rfl
 generalize envOf ([LV.int .i64 x]++[.pimm [.int .i64 B.L,sv,nv] 0])=e at *
 unfold l33
 dsimp only [jA,jD,qM,qL,qF,qS,qB,qK,qm]
 repeat' (first | refine gA @hl ?_ | (refine gB @hl ?_;intro bb hbb;cases bb<;>(try simp only [hbs,if_false,reduceCtorEq] at hbb)) | apply qc_seq | fail)
 all_goals (refine ⟨.inr trivial,?_⟩;simp only [lk,sv1,sv2,sv3,Nat.reduceEqDiff,Nat.reduceAdd,Nat.reduceLeDiff,reduceIte,if_false,if_true,mkVal,unLV,List.map,optTmps];first | exact bool_t (by omega) | exact bool_f (by omega))
set_option maxHeartbeats 8000000 in
theorem bvalid_ok {v:LV} {B:Bu} {sv nv:LV} (hB:IsB v B sv nv):PO 9 [v] (.bool (decide (Vb B))):=by
 have hcl:=hB.closed
 obtain ⟨rfl,hs,hn⟩:=hB
 have hst:=fun x=>state_ok (B:=B) hs hn x
 obtain ⟨vs,hn'⟩:=hn
 have hnl:=hn'.sl.len
 have hsl:=hs.sl.len
 have hc1:=hs.sl.cell
 have hc2:=hn'.sl.cell
 have hmx:maxLen=9223372036854775807:=by decide
 refine q_fn (t:=2) hm Tryz.func9 (by decide +kernel) c9 (Nat.le_of_ble_eq_true rfl) (by simp [LV.closed.closedAll,hcl]) rfl rfl ?_
 have e0:(envOf [LV.agg [.int .i64 B.L,sv,nv]]).at 0 = .agg [.int .i64 B.L,sv,nv]:=by rw [envOf_at];rfl
 generalize envOf [LV.agg [.int .i64 B.L,sv,nv]]=e at *
 unfold l9
 dsimp only [jA,jB,jC,jD,jE,jF,jG,qM,qL,qN,qF,qS,qI,qA,qB,qC,qK,qO,qP,qm,ql]
 repeat' (first | refine gA (And.intro @hnl @hsl) ?_ | (refine gB (And.intro @hnl @hsl) ?_;intro bb hbb;cases bb<;>(try simp only [hbs,if_false,reduceCtorEq] at hbb)) | apply qc_seq | fail)
 all_goals first
  | (refine ⟨.inr trivial,?_⟩;simp only [lk,sv1,sv2,sv3,Nat.reduceEqDiff,Nat.reduceAdd,Nat.reduceLeDiff,reduceIte,if_false,if_true,mkVal,unLV,List.map,optTmps];exact bool_f fun h=>by obtain ⟨a,b,c,_⟩:=h;omega)
  | skip
 refine qc_loop (fun m e s=>∃ i:Nat,m=B.start.length - i∧i≤B.start.length∧(∀ k,k<i→0≤B.start.getD k 0∧B.start.getD k 0<B.next.length∧(0<k→B.start.getD (k - 1) 0<B.start.getD k 0))∧e.at 1 = .pimm [.int .i64 B.L,sv,nv] 0∧e.at 3 = .fn (.func 33) [] [.pimm [.int .i64 B.L,sv,nv] 0]∧e.at 28=sv∧e.at 29 = .int .i64 (B.start.length:Int)∧e.at 30 = .int .i64 (i:Int)) _
  ⟨0,rfl,by omega,fun k hk=>absurd hk (Nat.not_lt_zero _),ef,ef,ef,ef,by simp only [lk,sv1,sv2,sv3,Nat.reduceEqDiff,Nat.reduceAdd,Nat.reduceLeDiff,reduceIte,if_false,if_true,mkVal,unLV,List.map,optTmps];rfl⟩ ?_
 have h1:1≤B.L:=by omega
 have h2:B.L≤64:=by omega
 have h3:B.next.length≤3000:=by omega
 clear hbb e0
 rintro m e s ⟨i,rfl,hi,hso,e1,e3,e28,e29,e30⟩
 have hws:∀ j:Nat,(j:Int)<9223372036854775807→IntKind.i64.wrap ((j:Int)+1)=((j+1:Nat):Int):=fun j hj=>by rw [wrap_i64 _ (by omega) (by omega)];rfl
 have hwp:∀ j:Nat,0<j→(j:Int)<9223372036854775807→IntKind.i64.wrap ((j:Int) - 1)=((j - 1:Nat):Int):=fun j h hj=>by rw [wrap_i64 _ (by omega) (by omega)];omega
 have hslen:=hs.len
 by_cases hil:i<B.start.length
 · -- a start
  have hiI:(i:Int)<(B.start.length:Int):=by omega
  have hiI':((i - 1:Nat):Int)<(B.start.length:Int):=by omega
  have hw:=hws i (by omega)
  repeat' (first | refine gA (And.intro (@iaN _ _ _ hs.sl) @ints_get) ?_ | (refine gB (And.intro (@iaN _ _ _ hs.sl) @ints_get) ?_;intro bb hbb;cases bb<;>(try simp only [hbs,if_false,reduceCtorEq] at hbb)) | fail)
  ·exfalso;omega
  refine q_pureTB hG0 (hst (B.start.getD i 0)) wN ef (by simp only [List.map,lk,sv1,sv2,sv3,Nat.reduceEqDiff,Nat.reduceAdd,Nat.reduceLeDiff,reduceIte,if_false,if_true,mkVal,unLV,List.map,optTmps]) (fun bb hb2=>?_)
  cases bb<;>simp only [decide_eq_true_eq,decide_eq_false_iff_not] at hb2
  ·repeat' (first | refine gA trivial ?_ | (refine gB trivial ?_;intro bb hbb;cases bb<;>(try simp only [hbs,if_false,reduceCtorEq] at hbb)) | fail)
   refine ⟨.inr trivial,?_⟩
   simp only [lk,sv1,sv2,sv3,Nat.reduceEqDiff,Nat.reduceAdd,Nat.reduceLeDiff,reduceIte,if_false,if_true,mkVal,unLV,List.map,optTmps]
   exact bool_f fun h=>hb2 ⟨(h.2.2.2.1 i hil).1,(h.2.2.2.1 i hil).2.1⟩
  ·rcases Nat.eq_zero_or_pos i with hi0 | hi0
   ·subst hi0
    repeat' (first | refine gA trivial ?_ | (refine gB trivial ?_;intro bb hbb;cases bb<;>(try simp only [hbs,if_false,reduceCtorEq] at hbb)) | fail)
    ·refine ⟨B.start.length - (0+1),by omega,0+1,rfl,by omega,fun k hk=>?_,?_⟩
     ·obtain rfl:k=0:=by omega
      exact ⟨hb2.1,hb2.2,fun h=>absurd h (Nat.lt_irrefl _)⟩
     ·simp only [lk,sv1,sv2,sv3,Nat.reduceEqDiff,Nat.reduceAdd,Nat.reduceLeDiff,reduceIte,if_false,if_true,mkVal,unLV,List.map,optTmps,hw,e1,e3,e28,e29,and_self]
    all_goals (exfalso;omega)
   ·have hw':=hwp i hi0 (by omega)
    repeat' (first | refine gA (And.intro (@iaN _ _ _ hs.sl) (And.intro @ints_get @hw')) ?_ | (refine gB (And.intro (@iaN _ _ _ hs.sl) (And.intro @ints_get @hw')) ?_;intro bb hbb;cases bb<;>(try simp only [hbs,if_false,reduceCtorEq] at hbb)) | fail)
    ·exfalso;omega
    ·refine ⟨B.start.length - (i+1),by omega,i+1,rfl,by omega,fun k hk=>?_,?_⟩
     ·by_cases h:k<i
      ·exact hso k h
      ·obtain rfl:k=i:=by omega
       exact ⟨hb2.1,hb2.2,fun _=>by omega⟩
     ·simp only [lk,sv1,sv2,sv3,Nat.reduceEqDiff,Nat.reduceAdd,Nat.reduceLeDiff,reduceIte,if_false,if_true,mkVal,unLV,List.map,optTmps,hw,e1,e3,e28,e29,and_self]
    ·refine ⟨.inr trivial,?_⟩
     simp only [lk,sv1,sv2,sv3,Nat.reduceEqDiff,Nat.reduceAdd,Nat.reduceLeDiff,reduceIte,if_false,if_true,mkVal,unLV,List.map,optTmps]
     exact bool_f fun h=>by
      have:=(h.2.2.2.1 i hil).2.2 hi0
      omega
 · -- the states
  have hsok:SOK B.next.length B.start:=fun k hk=>hso k (by omega)
  repeat' (first | refine gA @hnl ?_ | (refine gB @hnl ?_;intro bb hbb;cases bb<;>(try simp only [hbs,if_false,reduceCtorEq] at hbb)) | fail)
  rotate_left
  ·exfalso;omega
  refine qc_loop (fun m e s=>∃ i:Nat,m=B.next.length - i∧i≤B.next.length∧(∀ k,k<i→ROK B.L B.next.length (B.next.getD k []))∧e.at 1 = .pimm [.int .i64 B.L,sv,nv] 0∧e.at 3 = .fn (.func 33) [] [.pimm [.int .i64 B.L,sv,nv] 0]∧e.at 55=nv∧e.at 56 = .int .i64 (B.next.length:Int)∧e.at 57 = .int .i64 (i:Int)) _
   ⟨0,rfl,by omega,fun k hk=>absurd hk (Nat.not_lt_zero _),ef,ef,ef,ef,by simp only [lk,sv1,sv2,sv3,Nat.reduceEqDiff,Nat.reduceAdd,Nat.reduceLeDiff,reduceIte,if_false,if_true,mkVal,unLV,List.map,optTmps];rfl⟩ ?_
  clear hso hil hbb e1 e3 e28 e29 e30
  rintro m e s ⟨i,rfl,hi,hro,e1,e3,e55,e56,e57⟩
  by_cases hil:i<B.next.length
  ·have hiI : (i : Int) < (B.next.length : Int) := by omega
   have hw:=hws i (by omega)
   have g1:vs[i]? = some (vs.getD i .top):=hn'.get hil
   obtain ⟨ws,hr⟩:=hn'.row i hil
   have hrl:=hr.sl.len
   repeat' (first | refine gA (And.intro (@iaN _ _ _ hn'.sl) (And.intro @g1 @hrl)) ?_ | (refine gB (And.intro (@iaN _ _ _ hn'.sl) (And.intro @g1 @hrl)) ?_;intro bb hbb;cases bb<;>(try simp only [hbs,if_false,reduceCtorEq] at hbb)) | fail)
   ·exfalso;omega
   rotate_left
   ·refine ⟨.inr trivial,?_⟩
    simp only [lk,sv1,sv2,sv3,Nat.reduceEqDiff,Nat.reduceAdd,Nat.reduceLeDiff,reduceIte,if_false,if_true,mkVal,unLV,List.map,optTmps]
    exact bool_f fun h=>by
     have:=(h.2.2.2.2 i hil).1
     omega
   generalize hrow:B.next.getD i []=row at *
   generalize hrv:vs.getD i .top=rv at *
   have hrlen:B.L=(row.length:Int):=by omega
   have hdone:(∀ a,a<row.length→MOK B.next.length (row.getD a []))→∀ e:Env,e.at 1 = .pimm [.int .i64 B.L,sv,nv] 0→e.at 3 = .fn (.func 33) [] [.pimm [.int .i64 B.L,sv,nv] 0]→e.at 55=nv→e.at 56 = .int .i64 (B.next.length:Int)→e.at 57 = .int .i64 ((i+1:Nat):Int) →
     ∃ m,m<B.next.length - i∧∃ i:Nat,m=B.next.length - i∧i≤B.next.length∧(∀ k,k<i→ROK B.L B.next.length (B.next.getD k []))∧e.at 1 = .pimm [.int .i64 B.L,sv,nv] 0∧e.at 3 = .fn (.func 33) [] [.pimm [.int .i64 B.L,sv,nv] 0]∧e.at 55=nv∧e.at 56 = .int .i64 (B.next.length:Int)∧e.at 57 = .int .i64 (i:Int):=fun ha e h1 h2 h3 h4 h5=>⟨B.next.length - (i+1),by omega,i+1,rfl,by omega,fun k hk=>by
      by_cases h:k<i
      ·exact hro k h
      ·obtain rfl:k=i:=by omega
       rw [hrow]
       exact ⟨hrlen.symm,ha⟩,h1,h2,h3,h4,h5⟩
   refine qc_loop (fun m e s=>∃ a:Nat,m=row.length - a∧a≤row.length∧(∀ k,k<a→MOK B.next.length (row.getD k []))∧e.at 1 = .pimm [.int .i64 B.L,sv,nv] 0∧e.at 3 = .fn (.func 33) [] [.pimm [.int .i64 B.L,sv,nv] 0]∧e.at 55=nv∧e.at 56 = .int .i64 (B.next.length:Int)∧e.at 57 = .int .i64 (i:Int)∧e.at 66=rv∧e.at 67 = .int .i64 (row.length:Int)∧e.at 68 = .int .i64 (a:Int)) _
    ⟨0,rfl,by omega,fun k hk=>absurd hk (Nat.not_lt_zero _),ef,ef,ef,ef,ef,ef,ef,by simp only [lk,sv1,sv2,sv3,Nat.reduceEqDiff,Nat.reduceAdd,Nat.reduceLeDiff,reduceIte,if_false,if_true,mkVal,unLV,List.map,optTmps];rfl⟩ ?_
   clear e1 e3 e55 e56 e57 hbb hro
   rintro m e s ⟨a,rfl,ha,hao,e1,e3,e55,e56,e57,e66,e67,e68⟩
   by_cases hal:a<row.length
   ·have haI : (a : Int) < (row.length : Int) := by omega
    have hwa:=hws a (by omega)
    have g2:ws[a]? = some (ws.getD a .top):=hr.get hal
    have hm':=hr.row a hal
    generalize hms:row.getD a []=ms at *
    generalize hmv:ws.getD a .top=mv at *
    have hml:=hm'.sl.len
    have hmlen:=hm'.len
    repeat' (first | refine gA (And.intro (@iaN _ _ _ hr.sl) (And.intro @g2 @hml)) ?_ | (refine gB (And.intro (@iaN _ _ _ hr.sl) (And.intro @g2 @hml)) ?_;intro bb hbb;cases bb<;>(try simp only [hbs,if_false,reduceCtorEq] at hbb)) | fail)
    ·exfalso;omega
    refine qc_loop (fun m e s=>∃ k:Nat,m=ms.length - k∧k≤ms.length∧(∀ j,j<k→0≤(ms.getD j (0,false)).1∧(ms.getD j (0,false)).1<B.next.length∧(0<j→mlt (ms.getD (j - 1) (0,false)) (ms.getD j (0,false))))∧e.at 1 = .pimm [.int .i64 B.L,sv,nv] 0∧e.at 3 = .fn (.func 33) [] [.pimm [.int .i64 B.L,sv,nv] 0]∧e.at 55=nv∧e.at 56 = .int .i64 (B.next.length:Int)∧e.at 57 = .int .i64 (i:Int)∧e.at 66=rv∧e.at 67 = .int .i64 (row.length:Int)∧e.at 68 = .int .i64 (a:Int)∧e.at 9=mv∧e.at 72=mv∧e.at 73 = .int .i64 (ms.length:Int)∧e.at 74 = .int .i64 (k:Int)) _
     ⟨0,rfl,by omega,fun k hk=>absurd hk (Nat.not_lt_zero _),ef,ef,ef,ef,ef,ef,ef,ef,ef,ef,ef,by simp only [lk,sv1,sv2,sv3,Nat.reduceEqDiff,Nat.reduceAdd,Nat.reduceLeDiff,reduceIte,if_false,if_true,mkVal,unLV,List.map,optTmps];rfl⟩ ?_
    clear e1 e3 e55 e56 e57 e66 e67 e68 hbb
    rintro m e s ⟨k,rfl,hk,hko,e1,e3,e55,e56,e57,e66,e67,e68,e9,e72,e73,e74⟩
    by_cases hkl:k<ms.length
    ·have hkI:(k:Int)<(ms.length:Int):=by omega
     have hwk:=hws k (by omega)
     have hld:=fun s=>loadN_moves (s:=s) hkl
     have hbad:¬ (0≤(ms.getD k (0,false)).1∧(ms.getD k (0,false)).1<B.next.length∧(0<k→mlt (ms.getD (k - 1) (0,false)) (ms.getD k (0,false))))→¬ Vb B:=fun hh h=>by
      have h5:=(h.2.2.2.2 i hil).2 a (by rw [hrow];exact hal)
      rw [hrow,hms] at h5
      exact hh (h5 k hkl)
     repeat' (first | refine gA (And.intro (@iaN _ _ _ hm'.sl) @hld) ?_ | (refine gB (And.intro (@iaN _ _ _ hm'.sl) @hld) ?_;intro bb hbb;cases bb<;>(try simp only [hbs,if_false,reduceCtorEq] at hbb)) | fail)
     ·exfalso;omega
     refine q_pureTB hG0 (hst (ms.getD k (0,false)).1) wN ef (by simp only [List.map,lk,sv1,sv2,sv3,Nat.reduceEqDiff,Nat.reduceAdd,Nat.reduceLeDiff,reduceIte,if_false,if_true,mkVal,unLV,List.map,optTmps]) (fun bb hb2=>?_)
     cases bb<;>simp only [decide_eq_true_eq,decide_eq_false_iff_not] at hb2
     ·repeat' (first | refine gA trivial ?_ | (refine gB trivial ?_;intro bb hbb;cases bb<;>(try simp only [hbs,if_false,reduceCtorEq] at hbb)) | fail)
      refine ⟨.inr trivial,?_⟩
      simp only [lk,sv1,sv2,sv3,Nat.reduceEqDiff,Nat.reduceAdd,Nat.reduceLeDiff,reduceIte,if_false,if_true,mkVal,unLV,List.map,optTmps]
      exact bool_f (hbad fun h=>hb2 ⟨h.1,h.2.1⟩)
     ·rcases Nat.eq_zero_or_pos k with hk0 | hk0
      ·subst hk0
       repeat' (first | refine gA trivial ?_ | (refine gB trivial ?_;intro bb hbb;cases bb<;>(try simp only [hbs,if_false,reduceCtorEq] at hbb)) | fail)
       ·refine ⟨ms.length - (0+1),by omega,0+1,rfl,by omega,fun j hj=>?_,?_⟩
        ·obtain rfl:j=0:=by omega
         exact ⟨hb2.1,hb2.2,fun h=>absurd h (Nat.lt_irrefl _)⟩
        ·simp only [lk,sv1,sv2,sv3,Nat.reduceEqDiff,Nat.reduceAdd,Nat.reduceLeDiff,reduceIte,if_false,if_true,mkVal,unLV,List.map,optTmps,hwk,e1,e3,e55,e56,e57,e66,e67,e68,e9,e72,e73,and_self]
       all_goals (exfalso;omega)
      ·have hw':=hwp k hk0 (by omega)
       have hkI':((k - 1:Nat):Int)<(ms.length:Int):=by omega
       have hld':=fun s=>loadN_moves (s:=s) (show k - 1<ms.length by omega)
       repeat' (first | refine gA (And.intro (@iaN _ _ _ hm'.sl) (And.intro @hld' @hw')) ?_ | (refine gB (And.intro (@iaN _ _ _ hm'.sl) (And.intro @hld' @hw')) ?_;intro bb hbb;cases bb<;>(try simp only [hbs,if_false,reduceCtorEq] at hbb)) | fail)
       ·exfalso;omega
       refine q_pure hG0 (compare_ok (ms.getD (k - 1) (0,false)) (ms.getD k (0,false))) (by first | exact wN | (apply wG;(simp only [lk,Nat.reduceEqDiff,reduceIte,e1,e3,e55,e56,e57,e66,e67,e68,e9,e72,e73,e74];(try rfl);done))) (by simp only [List.map,lk,Nat.reduceEqDiff,reduceIte,e1,e3,e55,e56,e57,e66,e67,e68,e9,e72,e73,e74];try rfl) (by first | trivial | (simp only [Chks,wantedG,LOp.run,Env.put_some,Env.put_none,lk,sv1,sv2,sv3,Nat.reduceEqDiff,Nat.reduceAdd,Nat.reduceLeDiff,reduceIte,if_false,if_true,mkVal,unLV,List.map,optTmps,beq_self_eq_true,reduceCtorEq,false_or,true_and,and_true,Option.some.injEq, *];done)) ?_
       simp only [Env.put_some]
       have hcm:=mcmp_lt (ms.getD (k - 1) (0,false)) (ms.getD k (0,false))
       repeat' (first | refine gA trivial ?_ | (refine gB trivial ?_;intro bb hbb;cases bb<;>(try simp only [hbs,if_false,reduceCtorEq] at hbb)) | fail)
       ·refine ⟨ms.length - (k+1),by omega,k+1,rfl,by omega,fun j hj=>?_,?_⟩
        ·by_cases h:j<k
         ·exact hko j h
         ·obtain rfl:j=k:=by omega
          exact ⟨hb2.1,hb2.2,fun _=>hcm.1 (by omega)⟩
        ·simp only [lk,sv1,sv2,sv3,Nat.reduceEqDiff,Nat.reduceAdd,Nat.reduceLeDiff,reduceIte,if_false,if_true,mkVal,unLV,List.map,optTmps,hwk,e1,e3,e55,e56,e57,e66,e67,e68,e9,e72,e73,and_self]
       ·refine ⟨.inr trivial,?_⟩
        simp only [lk,sv1,sv2,sv3,Nat.reduceEqDiff,Nat.reduceAdd,Nat.reduceLeDiff,reduceIte,if_false,if_true,mkVal,unLV,List.map,optTmps]
        exact bool_f (hbad fun h=>by have:=hcm.2 (h.2.2 hk0);omega)
    ·repeat' (first | refine gA trivial ?_ | (refine gB trivial ?_;intro bb hbb;cases bb<;>(try simp only [hbs,if_false,reduceCtorEq] at hbb)) | fail)
     ·refine ⟨row.length - (a+1),by omega,a+1,rfl,by omega,fun j hj=>?_,?_⟩
      ·by_cases h:j<a
       ·exact hao j h
       ·obtain rfl:j=a:=by omega
        rw [hms]
        exact fun q hq=>hko q (by omega)
      ·simp only [lk,sv1,sv2,sv3,Nat.reduceEqDiff,Nat.reduceAdd,Nat.reduceLeDiff,reduceIte,if_false,if_true,mkVal,unLV,List.map,optTmps,hwa,e1,e3,e55,e56,e57,e66,e67,and_self]
     ·exfalso;omega
   ·repeat' (first | refine gA trivial ?_ | (refine gB trivial ?_;intro bb hbb;cases bb<;>(try simp only [hbs,if_false,reduceCtorEq] at hbb)) | fail)
    ·exact hdone (fun q hq=>hao q (by omega)) _ ef ef ef ef ef
    ·exfalso;omega
  ·repeat' (first | refine gA trivial ?_ | (refine gB trivial ?_;intro bb hbb;cases bb<;>(try simp only [hbs,if_false,reduceCtorEq] at hbb)) | fail)
   ·refine ⟨.inr trivial,?_⟩
    simp only [lk,sv1,sv2,sv3,Nat.reduceEqDiff,Nat.reduceAdd,Nat.reduceLeDiff,reduceIte,if_false,if_true,mkVal,unLV,List.map,optTmps]
    exact bool_t ⟨h1,h2,h3,hsok,fun k hk=>hro k (by omega)⟩
   ·exfalso;omega
end Go.Proofs.YtgobbogomchnhaaGreatDoor
