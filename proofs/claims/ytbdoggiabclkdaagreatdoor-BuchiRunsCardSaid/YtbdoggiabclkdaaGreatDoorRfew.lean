/- The document's Few of automata: at most 10 states. -/
import Derived.Test.YtbdoggiabclkdaaGreatDoorValid
import Derived.Test.YtbdoggiabclkdaaGreatDoorLitr
set_option linter.unusedSimpArgs false
set_option linter.unusedVariables false
namespace Go.Proofs.YtbdoggiabclkdaaGreatDoor
open Go Go.Pv
open Classical
set_option maxHeartbeats 8000000 in
theorem rbfew_ok {v : LV} {B : Bu} {sv nv : LV} (hB : IsB v B sv nv) : PE 7 [v] (fun r => ∃ b, r = .bool b ∧ (b = true → B.next.length ≤ 10 ∧ B.L ≤ 20 ∧ B.start.length ≤ 20)) := by
  have hcl := hB.closed
  obtain ⟨rfl, hs, hn⟩ := hB
  obtain ⟨vs, hn'⟩ := hn
  have hnl := hn'.sl.len
  have hsl := hs.sl.len
  have hc1 := hs.sl.cell
  have hc2 := hn'.sl.cell
  have hmx : maxLen = 9223372036854775807 := by decide
  refine q_fnEx (t := 2) hm Tryz.func7 (by decide +kernel) c7 (Nat.le_of_ble_eq_true rfl) (by simp [LV.closed.closedAll, hcl]) rfl ?_
  have e0 : (envOf [LV.agg [.int .i64 B.L, sv, nv]]).at 0 = .agg [.int .i64 B.L, sv, nv] := by rw [envOf_at]; rfl
  generalize envOf [LV.agg [.int .i64 B.L, sv, nv]] = e at *
  unfold l7
  dsimp only
  have hF : ∀ (b : Bool) (s : St), ∃ r s', frz frzDepth (.bool b) s = some (r, s') ∧ r.closed = true ∧ ∃ b', r = .bool b' ∧ (b' = true → b = true) := fun b s => ⟨.bool b, s, frzD_closed rfl, rfl, b, rfl, fun h => h⟩
  repeat' (first | refine gA (And.intro @hnl @hsl) ?_ | (refine gB (And.intro @hnl @hsl) ?_; intro bb hbb; cases bb <;> (try simp only [hbs, if_false, reduceCtorEq] at hbb)) | fail)
  all_goals first
    | (refine ⟨.inr trivial, .bool false, _, by simp only [lk, sv1, sv2, sv3, Nat.reduceEqDiff, Nat.reduceAdd, Nat.reduceLeDiff, reduceIte, if_false, if_true, mkVal, unLV, List.map, optTmps]; exact frzD_closed rfl, rfl, false, rfl, fun h => by cases h⟩)
    | skip
  have h1 : B.L ≤ 20 := by omega
  have h2 : B.start.length ≤ 20 := by omega
  have h3 : B.next.length ≤ 10 := by omega
  refine qc_loop (fun m e s => ∃ i : Nat, m = B.next.length - i ∧ i ≤ B.next.length ∧ e.at 1 = .pimm [.int .i64 B.L, sv, nv] 0 ∧ e.at 3 = .int .i64 (i : Int)) _
    ⟨0, rfl, by omega, ef, by simp only [lk, sv1, sv2, sv3, Nat.reduceEqDiff, Nat.reduceAdd, Nat.reduceLeDiff, reduceIte, if_false, if_true, mkVal, unLV, List.map, optTmps]; rfl⟩ ?_
  clear hbb e0
  clear e
  rintro m e s ⟨i, rfl, hi, e1, e3⟩
  have hws : ∀ j : Nat, (j : Int) < 9223372036854775807 → IntKind.i64.wrap ((j : Int) + 1) = ((j + 1 : Nat) : Int) := fun j hj => by rw [wrap_i64 _ (by omega) (by omega)]; rfl
  by_cases hil : i < B.next.length
  · have hiI : (i : Int) < (B.next.length : Int) := by omega
    have hw := hws i (by omega)
    have g1 : vs[i]? = some (vs.getD i .top) := hn'.get hil
    obtain ⟨ws, hr⟩ := hn'.row i hil
    have hrl := hr.sl.len
    generalize B.next.getD i [] = row at *
    generalize vs.getD i .top = rv at *
    repeat' (first | refine gA (And.intro @hnl (And.intro (@iaN _ _ _ hn'.sl) (And.intro @g1 @hrl))) ?_ | (refine gB (And.intro @hnl (And.intro (@iaN _ _ _ hn'.sl) (And.intro @g1 @hrl))) ?_; intro bb hbb; cases bb <;> (try simp only [hbs, if_false, reduceCtorEq] at hbb)) | fail)
    · exfalso; omega
    rotate_left
    · refine ⟨.inr trivial, .bool false, _, by simp only [lk, sv1, sv2, sv3, Nat.reduceEqDiff, Nat.reduceAdd, Nat.reduceLeDiff, reduceIte, if_false, if_true, mkVal, unLV, List.map, optTmps]; exact frzD_closed rfl, rfl, false, rfl, fun h => by cases h⟩
    refine qc_loop (fun m e s => ∃ a : Nat, m = row.length - a ∧ a ≤ row.length ∧ e.at 1 = .pimm [.int .i64 B.L, sv, nv] 0 ∧ e.at 3 = .int .i64 (i : Int) ∧ e.at 4 = .int .i64 (a : Int)) _
      ⟨0, rfl, by omega, ef, ef, by simp only [lk, sv1, sv2, sv3, Nat.reduceEqDiff, Nat.reduceAdd, Nat.reduceLeDiff, reduceIte, if_false, if_true, mkVal, unLV, List.map, optTmps]; rfl⟩ ?_
    have hr20 : row.length ≤ 20 := by omega
    clear e1 e3 hbb
    clear e
    rintro m e s ⟨a, rfl, ha, e1, e3, e4⟩
    by_cases hal : a < row.length
    · have haI : (a : Int) < (row.length : Int) := by omega
      have hwa := hws a (by omega)
      have g2 : ws[a]? = some (ws.getD a .top) := hr.get hal
      have hml := (hr.row a hal).sl.len
      generalize row.getD a [] = ms at *
      generalize ws.getD a .top = mv at *
      repeat' (first | refine gA (And.intro (@iaN _ _ _ hn'.sl) (And.intro @g1 (And.intro @hrl (And.intro (@iaN _ _ _ hr.sl) (And.intro @g2 @hml))))) ?_ | (refine gB (And.intro (@iaN _ _ _ hn'.sl) (And.intro @g1 (And.intro @hrl (And.intro (@iaN _ _ _ hr.sl) (And.intro @g2 @hml))))) ?_; intro bb hbb; cases bb <;> (try simp only [hbs, if_false, reduceCtorEq] at hbb)) | fail)
      · exfalso; omega
      · refine ⟨row.length - (a + 1), by omega, a + 1, rfl, by omega, ?_⟩
        simp only [lk, sv1, sv2, sv3, Nat.reduceEqDiff, Nat.reduceAdd, Nat.reduceLeDiff, reduceIte, if_false, if_true, mkVal, unLV, List.map, optTmps, hwa, e1, e3, and_self]
      · refine ⟨.inr trivial, .bool false, _, by simp only [lk, sv1, sv2, sv3, Nat.reduceEqDiff, Nat.reduceAdd, Nat.reduceLeDiff, reduceIte, if_false, if_true, mkVal, unLV, List.map, optTmps]; exact frzD_closed rfl, rfl, false, rfl, fun h => by cases h⟩
    · repeat' (first | refine gA (And.intro (@iaN _ _ _ hn'.sl) (And.intro @g1 @hrl)) ?_ | (refine gB (And.intro (@iaN _ _ _ hn'.sl) (And.intro @g1 @hrl)) ?_; intro bb hbb; cases bb <;> (try simp only [hbs, if_false, reduceCtorEq] at hbb)) | fail)
      · refine ⟨B.next.length - (i + 1), by omega, i + 1, rfl, by omega, ?_⟩
        simp only [lk, sv1, sv2, sv3, Nat.reduceEqDiff, Nat.reduceAdd, Nat.reduceLeDiff, reduceIte, if_false, if_true, mkVal, unLV, List.map, optTmps, hw, e1, and_self]
      · exfalso; omega
  · repeat' (first | refine gA @hnl ?_ | (refine gB @hnl ?_; intro bb hbb; cases bb <;> (try simp only [hbs, if_false, reduceCtorEq] at hbb)) | fail)
    · refine ⟨.inr trivial, .bool true, _, by simp only [lk, sv1, sv2, sv3, Nat.reduceEqDiff, Nat.reduceAdd, Nat.reduceLeDiff, reduceIte, if_false, if_true, mkVal, unLV, List.map, optTmps]; exact frzD_closed rfl, rfl, true, rfl, fun _ => ⟨h3, h1, h2⟩⟩
    · exfalso; omega
end Go.Proofs.YtbdoggiabclkdaaGreatDoor
