/- word.Same: two lassos with one normal form. -/
import Derived.Test.YthcllhhldknkmaaGreatDoorWod
set_option linter.unusedSimpArgs false
set_option linter.unusedVariables false
namespace Go.Proofs.YthcllhhldknkmaaGreatDoor
open Go Go.Pv
open Classical
theorem eq_ofD {a b : List Int} (h : a.length = b.length ∧ ∀ j, j < a.length → a.getD j 0 = b.getD j 0) : a = b := by
  apply List.ext_getElem h.1
  intro k h1 h2
  have := h.2 k h1
  rwa [List.getD_eq_getElem?_getD, List.getD_eq_getElem?_getD, List.getElem?_eq_getElem h1, List.getElem?_eq_getElem h2] at this
def SmW (S L S' L' : List Int) : Prop := Fm S L ∧ Fm S' L' ∧ ∃ a b, Nrm S L a b ∧ Nrm S' L' a b
set_option maxHeartbeats 4000000 in
theorem wsame_ok {st lo st2 lo2 : LV} {S L S2 L2 : List Int} (hS : IsInts st S) (hL : IsInts lo L) (hS2 : IsInts st2 S2) (hL2 : IsInts lo2 L2) : PE 16 [.agg [st, lo], .agg [st2, lo2]] (fun r => ∃ b, r = .bool b ∧ (b = true → SmW S L S2 L2)) := by
  have hcl : (LV.agg [st, lo]).closed = true := by simp [LV.closed, LV.closed.closedAll, hS.closed, hL.closed]
  have hcl2 : (LV.agg [st2, lo2]).closed = true := by simp [LV.closed, LV.closed.closedAll, hS2.closed, hL2.closed]
  have hc1 := hS.sl.cell
  have hc2 := hL.sl.cell
  have hc3 := hS2.sl.cell
  have hc4 := hL2.sl.cell
  have hf1 := formed_ok hS hL
  have hf2 := formed_ok hS2 hL2
  have hn1 := fun h => normal_ok hS hL h
  have hn2 := fun h => normal_ok hS2 hL2 h
  refine q_fnExR Tryz.func16 (by decide +kernel) c16 (Nat.le_of_ble_eq_true rfl) (by simp [LV.closed.closedAll, hcl, hcl2]) ?_
  have h0 : (envOf [LV.agg [st, lo], .agg [st2, lo2]]).at 0 = .agg [st, lo] := by rw [envOf_at]; rfl
  have h1 : (envOf [LV.agg [st, lo], .agg [st2, lo2]]).at 1 = .agg [st2, lo2] := by rw [envOf_at]; rfl
  generalize envOf [LV.agg [st, lo], .agg [st2, lo2]] = e at *
  unfold l16
  dsimp only
  repeat' (first | refine gA trivial ?_ | (refine gB trivial ?_; intro bb hbb; cases bb <;> (try simp only [hbs, if_false, reduceCtorEq] at hbb)) | apply qc_seq | fail)
  refine q_pureB hG0 (hf1) (by first | exact wN | (apply wG; (simp only [lk, Nat.reduceEqDiff, reduceIte, h0, h1]; (try rfl); done))) (by simp only [List.map, lk, Nat.reduceEqDiff, reduceIte, h0, h1]; try rfl) (fun bb hbb => ⟨by first | trivial | (simp only [Chks, wantedG, LOp.run, Env.put_some, Env.put_none, lk, sv1, sv2, sv3, Nat.reduceEqDiff, Nat.reduceAdd, Nat.reduceLeDiff, reduceIte, if_false, if_true, mkVal, unLV, List.map, optTmps, beq_self_eq_true, reduceCtorEq, false_or, true_and, and_true, Option.some.injEq, *]; done), ?_⟩)
  simp only [Env.put_some]
  cases bb <;> simp only [decide_eq_true_eq, decide_eq_false_iff_not] at hbb
  · repeat' (first | refine gA trivial ?_ | (refine gB trivial ?_; intro bb hbb; cases bb <;> (try simp only [hbs, if_false, reduceCtorEq] at hbb)) | apply qc_seq | fail)
    exact ⟨.inr trivial, .bool false, by simp [resVal, resOne, mkVal, lk], _, _, frzD_closed rfl, rfl, false, rfl, fun h => by cases h⟩
  have hF1 := hbb
  clear hbb
  repeat' (first | refine gA trivial ?_ | (refine gB trivial ?_; intro bb hbb; cases bb <;> (try simp only [hbs, if_false, reduceCtorEq] at hbb)) | apply qc_seq | fail)
  refine q_pureB hG0 (hf2) (by first | exact wN | (apply wG; (simp only [lk, Nat.reduceEqDiff, reduceIte, h0, h1]; (try rfl); done))) (by simp only [List.map, lk, Nat.reduceEqDiff, reduceIte, h0, h1]; try rfl) (fun bb hbb => ⟨by first | trivial | (simp only [Chks, wantedG, LOp.run, Env.put_some, Env.put_none, lk, sv1, sv2, sv3, Nat.reduceEqDiff, Nat.reduceAdd, Nat.reduceLeDiff, reduceIte, if_false, if_true, mkVal, unLV, List.map, optTmps, beq_self_eq_true, reduceCtorEq, false_or, true_and, and_true, Option.some.injEq, *]; done), ?_⟩)
  simp only [Env.put_some]
  cases bb <;> simp only [decide_eq_true_eq, decide_eq_false_iff_not] at hbb
  · repeat' (first | refine gA trivial ?_ | (refine gB trivial ?_; intro bb hbb; cases bb <;> (try simp only [hbs, if_false, reduceCtorEq] at hbb)) | apply qc_seq | fail)
    exact ⟨.inr trivial, .bool false, by simp [resVal, resOne, mkVal, lk], _, _, frzD_closed rfl, rfl, false, rfl, fun h => by cases h⟩
  have hF2 := hbb
  clear hbb
  repeat' (first | refine gA trivial ?_ | (refine gB trivial ?_; intro bb hbb; cases bb <;> (try simp only [hbs, if_false, reduceCtorEq] at hbb)) | apply qc_seq | fail)
  refine q_pureEx hG0 (hn1 hF1) wN (by simp only [List.map, lk, sv1, sv2, sv3, Nat.reduceEqDiff, Nat.reduceAdd, Nat.reduceLeDiff, reduceIte, if_false, if_true, mkVal, unLV, List.map, optTmps]) (fun r hr hrc => ⟨?_, ?_⟩)
  · simp only [Chks, wantedG, LOp.run, lk, sv1, sv2, sv3, Nat.reduceEqDiff, Nat.reduceAdd, Nat.reduceLeDiff, reduceIte, if_false, if_true, mkVal, unLV, List.map, optTmps, Env.put_some]
    simp [loadLV, mkVal, St.get_new, n_empty]
  obtain ⟨xa, ya, SA, LA, rfl, hxa, hya, -, -, -, -, -, -, hNA⟩ := hr
  simp only [Env.put_some]
  refine q_pureEx hG0 (hn2 hF2) wN (by simp only [List.map, lk, sv1, sv2, sv3, Nat.reduceEqDiff, Nat.reduceAdd, Nat.reduceLeDiff, reduceIte, if_false, if_true, mkVal, unLV, List.map, optTmps]) (fun r hr hrc2 => ⟨trivial, ?_⟩)
  obtain ⟨xb, yb, SB, LB, rfl, hxb, hyb, -, -, -, -, -, -, hNB⟩ := hr
  simp only [Env.put_some]
  have d1 := hxa.sl.cell
  have d2 := hya.sl.cell
  have d3 := hxb.sl.cell
  have d4 := hyb.sl.cell
  have hq1 := equal_ok hxa hxb
  have hq2 := equal_ok hya hyb
  refine q_storeG (i := 0) (o := 0) (n := 2) (cs := [st, lo]) (vs := [xa, ya]) (cs' := [xa, ya]) (v := .agg [xa, ya]) ef ef (by simp [cells_agg, d1, d2]) (by simp [St.get_new, n_empty]) rfl (by simp) rfl ?_
  refine q_storeG (i := 1) (o := 0) (n := 2) (cs := [st2, lo2]) (vs := [xb, yb]) (cs' := [xb, yb]) (v := .agg [xb, yb]) ef ef (by simp [cells_agg, d3, d4]) (by simp [St.get_put, St.get_new, n_empty]) rfl (by simp) rfl ?_
  generalize hsx : St.put _ 1 _ = s1
  have g0 : s1.get 0 = some (.cells .mut [xa, ya]) := by rw [← hsx]; simp [St.get_put]
  have g1 : s1.get 1 = some (.cells .mut [xb, yb]) := by rw [← hsx]; simp [St.get_put]
  clear hsx hn1 hn2 hf1 hf2
  repeat' (first | refine gA (And.intro @g0 @g1) ?_ | (refine gB (And.intro @g0 @g1) ?_; intro bb hbb; cases bb <;> (try simp only [hbs, if_false, reduceCtorEq] at hbb)) | apply qc_seq | fail)
  refine q_pureB hG0 (hq1) (by first | exact wN | (apply wG; (simp only [lk, Nat.reduceEqDiff, reduceIte, h0, h1]; (try rfl); done))) (by simp only [List.map, lk, Nat.reduceEqDiff, reduceIte, h0, h1]; try rfl) (fun bb hbb => ⟨by first | trivial | (simp only [Chks, wantedG, LOp.run, Env.put_some, Env.put_none, lk, sv1, sv2, sv3, Nat.reduceEqDiff, Nat.reduceAdd, Nat.reduceLeDiff, reduceIte, if_false, if_true, mkVal, unLV, List.map, optTmps, beq_self_eq_true, reduceCtorEq, false_or, true_and, and_true, Option.some.injEq, *]; done), ?_⟩)
  simp only [Env.put_some]
  cases bb <;> simp only [decide_eq_true_eq, decide_eq_false_iff_not] at hbb
  · repeat' (first | refine gA (And.intro @g0 @g1) ?_ | (refine gB (And.intro @g0 @g1) ?_; intro bb hbb; cases bb <;> (try simp only [hbs, if_false, reduceCtorEq] at hbb)) | apply qc_seq | fail)
    exact ⟨.inr trivial, .bool false, by simp [resVal, resOne, mkVal, lk], _, _, frzD_closed rfl, rfl, false, rfl, fun h => by cases h⟩
  have hE := hbb
  clear hbb hq1
  repeat' (first | refine gA (And.intro @g0 @g1) ?_ | (refine gB (And.intro @g0 @g1) ?_; intro bb hbb; cases bb <;> (try simp only [hbs, if_false, reduceCtorEq] at hbb)) | apply qc_seq | fail)
  refine q_pureB hG0 (hq2) (by first | exact wN | (apply wG; (simp only [lk, Nat.reduceEqDiff, reduceIte, h0, h1]; (try rfl); done))) (by simp only [List.map, lk, Nat.reduceEqDiff, reduceIte, h0, h1]; try rfl) (fun bb hbb => ⟨by first | trivial | (simp only [Chks, wantedG, LOp.run, Env.put_some, Env.put_none, lk, sv1, sv2, sv3, Nat.reduceEqDiff, Nat.reduceAdd, Nat.reduceLeDiff, reduceIte, if_false, if_true, mkVal, unLV, List.map, optTmps, beq_self_eq_true, reduceCtorEq, false_or, true_and, and_true, Option.some.injEq, loadLV, mkVal, *]; done), ?_⟩)
  simp only [Env.put_some]
  cases bb <;> simp only [decide_eq_true_eq, decide_eq_false_iff_not] at hbb
  · repeat' (first | refine gA (And.intro @g0 @g1) ?_ | (refine gB (And.intro @g0 @g1) ?_; intro bb hbb; cases bb <;> (try simp only [hbs, if_false, reduceCtorEq] at hbb)) | apply qc_seq | fail)
    exact ⟨.inr trivial, .bool false, by simp [resVal, resOne, mkVal, lk], _, _, frzD_closed rfl, rfl, false, rfl, fun h => by cases h⟩
  · repeat' (first | refine gA (And.intro @g0 @g1) ?_ | (refine gB (And.intro @g0 @g1) ?_; intro bb hbb; cases bb <;> (try simp only [hbs, if_false, reduceCtorEq] at hbb)) | apply qc_seq | fail)
    refine ⟨.inr trivial, .bool true, by simp [resVal, resOne, mkVal, lk], _, _, frzD_closed rfl, rfl, true, rfl, fun _ => ⟨hF1, hF2, SA, LA, hNA, ?_⟩⟩
    rw [eq_ofD hE, eq_ofD hbb]
    exact hNB
end Go.Proofs.YthcllhhldknkmaaGreatDoor
