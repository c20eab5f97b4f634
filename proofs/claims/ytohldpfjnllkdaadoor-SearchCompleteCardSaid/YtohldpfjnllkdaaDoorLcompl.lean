/- The law that something is found, run. -/
import Derived.Test.YtohldpfjnllkdaaDoorSlaw
import Derived.Test.YtohldpfjnllkdaaDoorArgs
import Derived.Test.YtohldpfjnllkdaaDoorHead
import Derived.Test.YtohldpfjnllkdaaDoorRval
import Derived.Test.YtohldpfjnllkdaaDoorRfew
import Derived.Test.YtohldpfjnllkdaaDoorWref
import Derived.Test.YtohldpfjnllkdaaDoorLitlaw
import Derived.Test.YtohldpfjnllkdaaDoorPvLaid
set_option linter.unusedSimpArgs false
set_option linter.unusedVariables false
set_option maxRecDepth 100000
namespace Go.Proofs.YtohldpfjnllkdaaDoor
open Go Go.Pv Go.Aut
open Classical
set_option maxHeartbeats 8000000 in
theorem lawComplete : ∀ lvs, HasArgs Tryd.prog 9 Tryd.f5.params.toList lvs → LawOkG Tryd.prog GL 5 lvs := by
  intro lvs h
  rw [Tryd.params5] at h
  cases h with | cons a h => cases h with | cons b h =>
  cases h
  obtain ⟨B, sv, nv, hB, -⟩ := argB a
  obtain ⟨ws, wl, S, L, rfl, hS, hL⟩ := argL b
  refine ⟨Tryd.f5, [], l5, Tryd.func5, by decide +kernel, c5, Nat.le_of_ble_eq_true rfl, CodeOk.mono (Q := fun o e s => (o = .normal ∨ o = .jmp .ret) ∧ e.at 4 = .bool true) (Cd.out ?_) fun o e s hh => ⟨hh.1, by simp [l5, resVal, resOne, hh.2]⟩⟩
  have hcl := hB.closed
  have hcl2 : (LV.agg [ws, wl]).closed = true := by simp [LV.closed, LV.closed.closedAll, hS.closed, hL.closed]
  have hcw := hS.sl.cell
  have hcw2 := hL.sl.cell
  have hfew := rbfew_ok hB
  have hval := rbvalid_ok hB
  have hfind := sfind_ok hB
  have haw := aword_ok hB hS hL
  have hsh := short_ok hS hL
  have hrw := rwvalid_ok hS hL B.L
  obtain ⟨rfl, hst, vs, hn⟩ := hB
  have hc1 := hst.sl.cell
  have hc2 := hn.sl.cell
  have e0 : (envOf [LV.agg [.int .i64 B.L, sv, nv], .agg [ws, wl]]).at 0 = .agg [.int .i64 B.L, sv, nv] := by rw [envOf_at]; rfl
  have e1 : (envOf [LV.agg [.int .i64 B.L, sv, nv], .agg [ws, wl]]).at 1 = .agg [ws, wl] := by rw [envOf_at]; rfl
  generalize envOf [LV.agg [.int .i64 B.L, sv, nv], .agg [ws, wl]] = e at *
  unfold l5
  dsimp only
  repeat' (first | refine gA trivial ?_ | (refine gB trivial ?_; intro bb hbb; cases bb <;> (try simp only [hbs, if_false, reduceCtorEq] at hbb)) | fail)
  refine q_pure hG0 (head_true) (by first | exact wN | (apply wG; (simp only [lk, Nat.reduceEqDiff, reduceIte, e0, e1]; (try rfl); done))) (by simp only [List.map, lk, Nat.reduceEqDiff, reduceIte, e0, e1]; try rfl) (by first | trivial | (simp only [Chks, wantedG, LOp.run, Env.put_some, Env.put_none, lk, sv1, sv2, sv3, Nat.reduceEqDiff, Nat.reduceAdd, Nat.reduceLeDiff, reduceIte, if_false, if_true, mkVal, unLV, List.map, optTmps, beq_self_eq_true, reduceCtorEq, false_or, true_and, and_true, Option.some.injEq, *]; done)) ?_
  simp only [Env.put_some]
  repeat' (first | refine gA trivial ?_ | (refine gB trivial ?_; intro bb hbb; cases bb <;> (try simp only [hbs, if_false, reduceCtorEq] at hbb)) | fail)
  refine q_pureEx hG0 hfew wN (by simp only [List.map, lk, sv1, sv2, sv3, Nat.reduceEqDiff, Nat.reduceAdd, Nat.reduceLeDiff, reduceIte, if_false, if_true, mkVal, unLV, List.map, optTmps]) (fun r hr hrc => ⟨trivial, ?_⟩)
  obtain ⟨b, rfl, hb⟩ := hr
  clear hb
  simp only [Env.put_some]
  cases b with
  | false =>
    repeat' (first | refine gA trivial ?_ | (refine gB trivial ?_; intro bb hbb; cases bb <;> (try simp only [hbs, if_false, reduceCtorEq] at hbb)) | fail)
    exact ⟨.inr trivial, ef⟩
  | true =>
    repeat' (first | refine gA trivial ?_ | (refine gB trivial ?_; intro bb hbb; cases bb <;> (try simp only [hbs, if_false, reduceCtorEq] at hbb)) | fail)
    refine q_pureB hG0 (hval) (by first | exact wN | (apply wG; (simp only [lk, Nat.reduceEqDiff, reduceIte, e0, e1]; (try rfl); done))) (by simp only [List.map, lk, Nat.reduceEqDiff, reduceIte, e0, e1]; try rfl) (fun bb hbb => ⟨by first | trivial | (simp only [Chks, wantedG, LOp.run, Env.put_some, Env.put_none, lk, sv1, sv2, sv3, Nat.reduceEqDiff, Nat.reduceAdd, Nat.reduceLeDiff, reduceIte, if_false, if_true, mkVal, unLV, List.map, optTmps, beq_self_eq_true, reduceCtorEq, false_or, true_and, and_true, Option.some.injEq, *]; done), ?_⟩)
    simp only [Env.put_some]
    cases bb <;> simp only [decide_eq_true_eq, decide_eq_false_iff_not] at hbb
    · repeat' (first | refine gA trivial ?_ | (refine gB trivial ?_; intro bb hbb; cases bb <;> (try simp only [hbs, if_false, reduceCtorEq] at hbb)) | fail)
      exact ⟨.inr trivial, ef⟩
    have hok := hbb
    repeat' (first | refine gA trivial ?_ | (refine gB trivial ?_; intro bb hbb; cases bb <;> (try simp only [hbs, if_false, reduceCtorEq] at hbb)) | fail)
    refine q_pureB hG0 (hsh) (by first | exact wN | (apply wG; (simp only [lk, Nat.reduceEqDiff, reduceIte, e0, e1]; (try rfl); done))) (by simp only [List.map, lk, Nat.reduceEqDiff, reduceIte, e0, e1]; try rfl) (fun bb hbb => ⟨by first | trivial | (simp only [Chks, wantedG, LOp.run, Env.put_some, Env.put_none, lk, sv1, sv2, sv3, Nat.reduceEqDiff, Nat.reduceAdd, Nat.reduceLeDiff, reduceIte, if_false, if_true, mkVal, unLV, List.map, optTmps, beq_self_eq_true, reduceCtorEq, false_or, true_and, and_true, Option.some.injEq, *]; done), ?_⟩)
    simp only [Env.put_some]
    cases bb <;> simp only [decide_eq_true_eq, decide_eq_false_iff_not] at hbb
    · repeat' (first | refine gA trivial ?_ | (refine gB trivial ?_; intro bb hbb; cases bb <;> (try simp only [hbs, if_false, reduceCtorEq] at hbb)) | fail)
      exact ⟨.inr trivial, ef⟩
    repeat' (first | refine gA trivial ?_ | (refine gB trivial ?_; intro bb hbb; cases bb <;> (try simp only [hbs, if_false, reduceCtorEq] at hbb)) | fail)
    refine q_pureB hG0 (hrw) (by first | exact wN | (apply wG; (simp only [lk, Nat.reduceEqDiff, reduceIte, e0, e1]; (try rfl); done))) (by simp only [List.map, lk, Nat.reduceEqDiff, reduceIte, e0, e1]; try rfl) (fun bb hbb => ⟨by first | trivial | (simp only [Chks, wantedG, LOp.run, Env.put_some, Env.put_none, lk, sv1, sv2, sv3, Nat.reduceEqDiff, Nat.reduceAdd, Nat.reduceLeDiff, reduceIte, if_false, if_true, mkVal, unLV, List.map, optTmps, beq_self_eq_true, reduceCtorEq, false_or, true_and, and_true, Option.some.injEq, *]; done), ?_⟩)
    simp only [Env.put_some]
    cases bb <;> simp only [decide_eq_true_eq, decide_eq_false_iff_not] at hbb
    · repeat' (first | refine gA trivial ?_ | (refine gB trivial ?_; intro bb hbb; cases bb <;> (try simp only [hbs, if_false, reduceCtorEq] at hbb)) | fail)
      exact ⟨.inr trivial, ef⟩
    repeat' (first | refine gA trivial ?_ | (refine gB trivial ?_; intro bb hbb; cases bb <;> (try simp only [hbs, if_false, reduceCtorEq] at hbb)) | fail)
    refine q_pureB hG0 (haw) (by first | exact wN | (apply wG; (simp only [lk, Nat.reduceEqDiff, reduceIte, e0, e1]; (try rfl); done))) (by simp only [List.map, lk, Nat.reduceEqDiff, reduceIte, e0, e1]; try rfl) (fun bb hbb => ⟨by first | trivial | (simp only [Chks, wantedG, LOp.run, Env.put_some, Env.put_none, lk, sv1, sv2, sv3, Nat.reduceEqDiff, Nat.reduceAdd, Nat.reduceLeDiff, reduceIte, if_false, if_true, mkVal, unLV, List.map, optTmps, beq_self_eq_true, reduceCtorEq, false_or, true_and, and_true, Option.some.injEq, *]; done), ?_⟩)
    simp only [Env.put_some]
    cases bb <;> simp only [decide_eq_true_eq, decide_eq_false_iff_not] at hbb
    · repeat' (first | refine gA trivial ?_ | (refine gB trivial ?_; intro bb hbb; cases bb <;> (try simp only [hbs, if_false, reduceCtorEq] at hbb)) | fail)
      exact ⟨.inr trivial, ef⟩
    have hA := hbb
    repeat' (first | refine gA trivial ?_ | (refine gB trivial ?_; intro bb hbb; cases bb <;> (try simp only [hbs, if_false, reduceCtorEq] at hbb)) | fail)
    refine q_pureEx hG0 hfind wN (by simp only [List.map, lk, sv1, sv2, sv3, Nat.reduceEqDiff, Nat.reduceAdd, Nat.reduceLeDiff, reduceIte, if_false, if_true, mkVal, unLV, List.map, optTmps]) (fun r hr hrc => ⟨trivial, ?_⟩)
    obtain ⟨st, lo, S', L', ok, rfl, hS', hL', hR⟩ := hr
    have hcs := hS'.sl.cell
    have hcL := hL'.sl.cell
    have hok2 : ok = true := by
      rcases hR with ⟨h, _⟩ | ⟨_, h⟩
      · exact absurd hok h
      · exact find_complete hok h hA.2.2
    subst hok2
    simp only [Env.put_some]
    repeat' (first | refine gA trivial ?_ | (refine gB trivial ?_; intro bb hbb; cases bb <;> (try simp only [hbs, if_false, reduceCtorEq] at hbb)) | fail)
    exact ⟨.inr trivial, ef⟩
end Go.Proofs.YtohldpfjnllkdaaDoor
