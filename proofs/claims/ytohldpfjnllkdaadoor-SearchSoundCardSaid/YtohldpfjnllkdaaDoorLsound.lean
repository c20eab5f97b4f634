/- The law of what is found, run. -/
import Derived.Test.YtohldpfjnllkdaaDoorSlaw
import Derived.Test.YtohldpfjnllkdaaDoorArgs
import Derived.Test.YtohldpfjnllkdaaDoorHead
import Derived.Test.YtohldpfjnllkdaaDoorRval
import Derived.Test.YtohldpfjnllkdaaDoorRfew
import Derived.Test.YtohldpfjnllkdaaDoorLitlaw
import Derived.Test.YtohldpfjnllkdaaDoorPvLaid
set_option linter.unusedSimpArgs false
set_option linter.unusedVariables false
set_option maxRecDepth 100000
namespace Go.Proofs.YtohldpfjnllkdaaDoor
open Go Go.Pv Go.Aut
open Classical
set_option maxHeartbeats 8000000 in
theorem lawSound : ∀ lvs, HasArgs Tryd.prog 9 Tryd.f4.params.toList lvs → LawOkG Tryd.prog GL 4 lvs := by
  intro lvs h
  rw [Tryd.params4] at h
  cases h with | cons a h =>
  cases h
  obtain ⟨B, sv, nv, hB, -⟩ := argB a
  refine ⟨Tryd.f4, [], l4, Tryd.func4, by decide +kernel, c4, Nat.le_of_ble_eq_true rfl, CodeOk.mono (Q := fun o e s => (o = .normal ∨ o = .jmp .ret) ∧ e.at 2 = .bool true) (Cd.out ?_) fun o e s hh => ⟨hh.1, by simp [l4, resVal, resOne, hh.2]⟩⟩
  have hcl := hB.closed
  have hfew := rbfew_ok hB
  have hval := rbvalid_ok hB
  have hfind := sfind_ok hB
  have haw := fun {st lo : LV} {S L : List Int} (h1 : IsInts st S) (h2 : IsInts lo L) => aword_ok hB h1 h2
  obtain ⟨rfl, hst, vs, hn⟩ := hB
  have hc1 := hst.sl.cell
  have hc2 := hn.sl.cell
  have hnl := hn.sl.len
  have e0 : (envOf [LV.agg [.int .i64 B.L, sv, nv]]).at 0 = .agg [.int .i64 B.L, sv, nv] := by rw [envOf_at]; rfl
  generalize envOf [LV.agg [.int .i64 B.L, sv, nv]] = e at *
  unfold l4
  dsimp only
  repeat' (first | refine gA trivial ?_ | (refine gB trivial ?_; intro bb hbb; cases bb <;> (try simp only [hbs, if_false, reduceCtorEq] at hbb)) | fail)
  refine q_pure hG0 (head_true) (by first | exact wN | (apply wG; (simp only [lk, Nat.reduceEqDiff, reduceIte, e0]; (try rfl); done))) (by simp only [List.map, lk, Nat.reduceEqDiff, reduceIte, e0]; try rfl) (by first | trivial | (simp only [Chks, wantedG, LOp.run, Env.put_some, Env.put_none, lk, sv1, sv2, sv3, Nat.reduceEqDiff, Nat.reduceAdd, Nat.reduceLeDiff, reduceIte, if_false, if_true, mkVal, unLV, List.map, optTmps, beq_self_eq_true, reduceCtorEq, false_or, true_and, and_true, Option.some.injEq, *]; done)) ?_
  simp only [Env.put_some]
  repeat' (first | refine gA trivial ?_ | (refine gB trivial ?_; intro bb hbb; cases bb <;> (try simp only [hbs, if_false, reduceCtorEq] at hbb)) | fail)
  refine q_pureEx hG0 hfew wN (by simp only [List.map, lk, sv1, sv2, sv3, Nat.reduceEqDiff, Nat.reduceAdd, Nat.reduceLeDiff, reduceIte, if_false, if_true, mkVal, unLV, List.map, optTmps]) (fun r hr hrc => ⟨trivial, ?_⟩)
  obtain ⟨b, rfl, hb⟩ := hr
  simp only [Env.put_some]
  cases b with
  | false =>
    repeat' (first | refine gA trivial ?_ | (refine gB trivial ?_; intro bb hbb; cases bb <;> (try simp only [hbs, if_false, reduceCtorEq] at hbb)) | fail)
    exact ⟨.inr trivial, ef⟩
  | true =>
    have hb10 := (hb rfl).1
    repeat' (first | refine gA trivial ?_ | (refine gB trivial ?_; intro bb hbb; cases bb <;> (try simp only [hbs, if_false, reduceCtorEq] at hbb)) | fail)
    refine q_pureB hG0 (hval) (by first | exact wN | (apply wG; (simp only [lk, Nat.reduceEqDiff, reduceIte, e0]; (try rfl); done))) (by simp only [List.map, lk, Nat.reduceEqDiff, reduceIte, e0]; try rfl) (fun bb hbb => ⟨by first | trivial | (simp only [Chks, wantedG, LOp.run, Env.put_some, Env.put_none, lk, sv1, sv2, sv3, Nat.reduceEqDiff, Nat.reduceAdd, Nat.reduceLeDiff, reduceIte, if_false, if_true, mkVal, unLV, List.map, optTmps, beq_self_eq_true, reduceCtorEq, false_or, true_and, and_true, Option.some.injEq, *]; done), ?_⟩)
    simp only [Env.put_some]
    cases bb <;> simp only [decide_eq_true_eq, decide_eq_false_iff_not] at hbb
    · repeat' (first | refine gA trivial ?_ | (refine gB trivial ?_; intro bb hbb; cases bb <;> (try simp only [hbs, if_false, reduceCtorEq] at hbb)) | fail)
      exact ⟨.inr trivial, ef⟩
    repeat' (first | refine gA trivial ?_ | (refine gB trivial ?_; intro bb hbb; cases bb <;> (try simp only [hbs, if_false, reduceCtorEq] at hbb)) | fail)
    refine q_pureEx hG0 hfind wN (by simp only [List.map, lk, sv1, sv2, sv3, Nat.reduceEqDiff, Nat.reduceAdd, Nat.reduceLeDiff, reduceIte, if_false, if_true, mkVal, unLV, List.map, optTmps]) (fun r hr hrc => ⟨trivial, ?_⟩)
    obtain ⟨st, lo, S, L, ok, rfl, hS, hL, hR⟩ := hr
    have hcs := hS.sl.cell
    have hcL := hL.sl.cell
    have hsl := hS.sl.len
    have hll := hL.sl.len
    rw [zints_len] at hsl hll
    simp only [Env.put_some]
    have hR' : FindR B S L ok := by
      rcases hR with ⟨h, _⟩ | ⟨_, h⟩
      · exact absurd hbb h
      · exact h
    have hbd := findR_bd hbb hR'
    cases ok with
    | false =>
      have h0 : S = [] ∧ L = [] := by
        rcases hR' with ⟨h, _⟩ | ⟨_, h1, h2, _⟩
        · cases h
        · exact ⟨h1, h2⟩
      obtain ⟨rfl, rfl⟩ := h0
      repeat' (first | refine gA (And.intro @hsl @hll) ?_ | (refine gB (And.intro @hsl @hll) ?_; intro bb hbb; cases bb <;> (try simp only [hbs, if_false, reduceCtorEq] at hbb)) | fail)
      · exfalso; exact hbb (by decide)
      · exact ⟨.inr trivial, ef⟩
    | true =>
      have hA := find_acc hbb hR' (by omega)
      have hS1 : S.length < B.next.length := by
        have h2 := hbd.2.2.1
        have h3 := hbd.2.2.2.2.1 rfl
        rcases hbd.1 with h | h
        · rw [h]; simp; omega
        · exact h
      have hL1 := hbd.2.2.1
      have hL2 : 0 < L.length := hbd.2.2.2.2.1 rfl
      have hw := haw hS hL
      rw [decide_eq_true hA] at hw
      repeat' (first | refine gA (And.intro @hsl (And.intro @hll @hnl)) ?_ | (refine gB (And.intro @hsl (And.intro @hll @hnl)) ?_; intro bb hbb; cases bb <;> (try simp only [hbs, if_false, reduceCtorEq] at hbb)) | fail)
      all_goals first
        | (exfalso; omega)
        | skip
      refine q_pure hG0 (hw) (by first | exact wN | (apply wG; (simp only [lk, Nat.reduceEqDiff, reduceIte, e0]; (try rfl); done))) (by simp only [List.map, lk, Nat.reduceEqDiff, reduceIte, e0]; try rfl) (by first | trivial | (simp only [Chks, wantedG, LOp.run, Env.put_some, Env.put_none, lk, sv1, sv2, sv3, Nat.reduceEqDiff, Nat.reduceAdd, Nat.reduceLeDiff, reduceIte, if_false, if_true, mkVal, unLV, List.map, optTmps, beq_self_eq_true, reduceCtorEq, false_or, true_and, and_true, Option.some.injEq, *]; done)) ?_
      simp only [Env.put_some]
      repeat' (first | refine gA trivial ?_ | (refine gB trivial ?_; intro bb hbb; cases bb <;> (try simp only [hbs, if_false, reduceCtorEq] at hbb)) | fail)
      exact ⟨.inr trivial, ef⟩
end Go.Proofs.YtohldpfjnllkdaaDoor
