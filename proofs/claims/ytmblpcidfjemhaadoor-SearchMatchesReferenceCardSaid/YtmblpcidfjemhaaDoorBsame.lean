/- The document's comparisons: rows of numbers, moves, automata. -/
import Derived.Test.YtmblpcidfjemhaaDoorValid
import Derived.Test.YtmblpcidfjemhaaDoorPvRow
set_option linter.unusedSimpArgs false
set_option linter.unusedVariables false
section
set_option linter.unusedSimpArgs false
set_option linter.unusedVariables false
namespace Go.Proofs.YtmblpcidfjemhaaDoor
open Go Go.Pv
open Classical
theorem ext_getD {α:Type} {a b:List α} {d:α} (hl:a.length=b.length) (h:∀ k,k<a.length→a.getD k d=b.getD k d):a=b:=by
  apply List.ext_getElem hl
  intro k h1 h2
  have:=h k h1
  rwa [List.getD_eq_getElem?_getD,List.getD_eq_getElem?_getD,List.getElem?_eq_getElem h1,List.getElem?_eq_getElem h2] at this
set_option maxHeartbeats 4000000 in
theorem ints_eq {va vb:LV} {a b:List Int} (ha:IsInts va a) (hb:IsInts vb b):PO 27 [va,vb] (.bool (decide (a=b))):=by
  have hla:=ha.sl.len
  have hlb:=hb.sl.len
  refine q_fn (t:=4) hm Tryd.func27 (by decide +kernel) c27 (Nat.le_of_ble_eq_true rfl) (by simp [LV.closed.closedAll,ha.closed,hb.closed]) rfl rfl ?_
  have e0:(envOf [va,vb]).at 0=va:=by rw [envOf_at];rfl
  have e1:(envOf [va,vb]).at 1=vb:=by rw [envOf_at];rfl
  generalize envOf [va,vb]=e at *
  unfold l27
  dsimp only [jA,jB,qM,qL,qS,qI,qA,qB,qC,qK,qm]
  repeat' (first | refine gA (And.intro @hla @hlb) ?_ | (refine gB (And.intro @hla @hlb) ?_;intro bb hbb;cases bb<;>(try simp only [hbs,if_false,reduceCtorEq] at hbb)) | apply qc_seq | fail)
  rotate_left
  · refine ⟨.inr trivial,?_⟩
    simp only [lk,sv1,sv2,sv3,Nat.reduceEqDiff,Nat.reduceAdd,Nat.reduceLeDiff,reduceIte,if_false,if_true,mkVal,unLV,List.map,optTmps]
    exact bool_f fun h=>by rw [h] at hbb;exact hbb rfl
  have hab:a.length=b.length:=by omega
  refine qc_loop (fun m e s=>∃ i:Nat,m=a.length - i∧i≤a.length∧(∀ k,k<i→a.getD k 0=b.getD k 0)∧e.at 0=va∧e.at 1=vb∧e.at 5 = .int .i64 (i:Int)) _
    ⟨0,rfl,by omega,fun k hk=>absurd hk (Nat.not_lt_zero _),ef,ef,by simp only [lk,sv1,sv2,sv3,Nat.reduceEqDiff,Nat.reduceAdd,Nat.reduceLeDiff,reduceIte,if_false,if_true,mkVal,unLV,List.map,optTmps];rfl⟩ ?_
  clear e0 e1 hbb
  rintro m e s ⟨i,rfl,hi,heq,e0,e1,e5⟩
  by_cases hil:i<a.length
  · have hia:(i:Int)<(a.length:Int):=by omega
    have hib:(i:Int)<(b.length:Int):=by omega
    have hw:=wrap_succ hia ha.len
    repeat' (first | refine gA (And.intro @hla (And.intro (@iaN _ _ _ ha.sl) (And.intro (@iaN _ _ _ hb.sl) @ints_get))) ?_ | (refine gB (And.intro @hla (And.intro (@iaN _ _ _ ha.sl) (And.intro (@iaN _ _ _ hb.sl) @ints_get))) ?_;intro bb hbb;cases bb<;>(try simp only [hbs,if_false,reduceCtorEq] at hbb)) | apply qc_seq | fail)
    · exfalso;omega
    · refine ⟨a.length - (i+1),by omega,i+1,rfl,by omega,fun k hk=>?_,?_⟩
      · by_cases h:k<i
        · exact heq k h
        · obtain rfl:k=i:=by omega
          exact hbb
      · simp only [lk,sv1,sv2,sv3,Nat.reduceEqDiff,Nat.reduceAdd,Nat.reduceLeDiff,reduceIte,if_false,if_true,mkVal,unLV,List.map,optTmps,hw,e0,e1,and_self]
    · refine ⟨.inr trivial,?_⟩
      simp only [lk,sv1,sv2,sv3,Nat.reduceEqDiff,Nat.reduceAdd,Nat.reduceLeDiff,reduceIte,if_false,if_true,mkVal,unLV,List.map,optTmps]
      exact bool_f fun h=>by rw [h] at hbb;exact hbb rfl
  · repeat' (first | refine gA @hla ?_ | (refine gB @hla ?_;intro bb hbb;cases bb<;>(try simp only [hbs,if_false,reduceCtorEq] at hbb)) | apply qc_seq | fail)
    · refine ⟨.inr trivial,?_⟩
      simp only [lk,sv1,sv2,sv3,Nat.reduceEqDiff,Nat.reduceAdd,Nat.reduceLeDiff,reduceIte,if_false,if_true,mkVal,unLV,List.map,optTmps]
      exact bool_t (ext_getD hab fun k hk=>heq k (by omega))
    · exfalso;omega
theorem beq_is (a b:Int × Bool):eqLV (.struct [(0,(1, .int)),(1,(1, .bool))]) (.agg [.int .i64 a.1, .bool a.2]) (.agg [.int .i64 b.1, .bool b.2])=some (decide (a=b)):=by
  obtain ⟨x,p⟩:=a
  obtain ⟨y,q⟩:=b
  by_cases h:x=y
  · subst h
    cases p<;>cases q<;>simp [eqLV,eqLV.eqFields,scEq]
  · have hx:(x == y)=false:=by simpa using h
    simp [eqLV,eqLV.eqFields,scEq,hx,h]
theorem Bu.ext {A B:Bu} (h1:A.L=B.L) (h2:A.start=B.start) (h3:A.next=B.next):A=B:=by
  obtain ⟨a,b,c⟩:=A
  obtain ⟨d,e,f⟩:=B
  simp only at h1 h2 h3
  rw [h1,h2,h3]
end Go.Proofs.YtmblpcidfjemhaaDoor
end
section
set_option linter.unusedSimpArgs false
set_option linter.unusedVariables false
set_option maxRecDepth 100000
namespace Go.Proofs.YtmblpcidfjemhaaDoor
open Go Go.Pv
open Classical
theorem rowB:rowTy Tryd.prog 9 25=some [.int .i64, .sl [.int .i64], .sl [.sl [.sl [.int .i64, .bool]]]]:=by kernel_rfl
theorem argB {v:LV} (h:HasArg Tryd.prog 9 25 v):∃ B sv nv,IsB v B sv nv∧inI64 B.L:=by
  obtain ⟨row,lvs,h1,h2,h3⟩:=h
  rw [rowB] at h1
  cases h1
  rw [Tryd.underlying25] at h3
  cases h2 with | cons a h2=>cases h2 with | cons b h2=>cases h2 with | cons c h2=>
  cases h2
  obtain ⟨L,rfl,hL⟩:=hasC_int a
  obtain ⟨st,hst⟩:=hasC_ints b
  obtain ⟨nx,hnx⟩:=hasC_next c
  exact ⟨⟨L,st,nx⟩,_,_,⟨h3,hst,hnx⟩,hL⟩
end Go.Proofs.YtmblpcidfjemhaaDoor
end
