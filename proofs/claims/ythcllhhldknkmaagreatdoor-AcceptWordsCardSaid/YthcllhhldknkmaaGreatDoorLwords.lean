/- The law of words, run. -/
import Derived.Test.YthcllhhldknkmaaGreatDoorRun
import Derived.Test.YthcllhhldknkmaaGreatDoorChk3
import Derived.Test.YthcllhhldknkmaaGreatDoorArgs
import Derived.Test.YthcllhhldknkmaaGreatDoorFew
import Derived.Test.YthcllhhldknkmaaGreatDoorWsame
import Derived.Test.YthcllhhldknkmaaGreatDoorRsame
import Derived.Test.YthcllhhldknkmaaGreatDoorHead
import Derived.Test.YthcllhhldknkmaaGreatDoorPvRow
set_option linter.unusedSimpArgs false
set_option linter.unusedVariables false
set_option maxRecDepth 100000
namespace Go.Proofs.YthcllhhldknkmaaGreatDoor
open Go Go.Pv Go.Aut
open Classical
set_option maxHeartbeats 16000000 in
theorem lawWords : ∀ lvs, HasArgs Tryz.prog 9 Tryz.f5.params.toList lvs → LawOkG Tryz.prog GL 5 lvs := by
  intro lvs h
  rw [Tryz.params5] at h
  cases h with | cons a h =>
  cases h with | cons c h =>
  cases h with | cons p h =>
  cases h
  obtain ⟨B, sb, nb, hB, -⟩ := argB a
  obtain ⟨st, lo, S, L, rfl, hS, hL⟩ := argL c
  obtain ⟨pv, qv, P, Q, rfl, hP, hQ⟩ := argL p
  refine ⟨Tryz.f5, [], l5, Tryz.func5, by decide +kernel, c5, Nat.le_of_ble_eq_true rfl, CodeOk.mono (Q := fun o e s => (o = .normal ∨ o = .jmp .ret) ∧ e.at 6 = .bool true) (Cd.out ?_) fun o e s hh => ⟨hh.1, by simp [l5, resVal, resOne, hh.2]⟩⟩
  clear a c p
  have hcB := hB.closed
  have hcw : (LV.agg [st, lo]).closed = true := by simp [LV.closed, LV.closed.closedAll, hS.closed, hL.closed]
  have hcp : (LV.agg [pv, qv]).closed = true := by simp [LV.closed, LV.closed.closedAll, hP.closed, hQ.closed]
  have cs := hS.sl.cell
  have cl := hL.sl.cell
  have cp := hP.sl.cell
  have cq := hQ.sl.cell
  have hfw := few_ok hB hS hL
  have hfo := few_ok hB hP hQ
  have hrw := ready_ok hB hS hL
  have hro := ready_ok hB hP hQ
  have hsm := wsame_ok hS hL hP hQ
  have hrn := run_ok hB hS hL
  have hrno := run_ok hB hP hQ
  have hck := fun {xv yv : LV} {X Y : List Int} (hX : IsInts xv X) (hY : IsInts yv Y) (h1 : X.length ≤ 600000) (h2 : Y.length ≤ 600001) => check_ok hB hP hQ hX hY h1 h2
  obtain ⟨rfl, hsb, vb, hnb⟩ := hB
  have cb1 := hsb.sl.cell
  have cb2 := hnb.sl.cell
  have e0 : (envOf [LV.agg [.int .i64 B.L, sb, nb], .agg [st, lo], .agg [pv, qv]]).at 0 = .agg [.int .i64 B.L, sb, nb] := by rw [envOf_at]; rfl
  have e1 : (envOf [LV.agg [.int .i64 B.L, sb, nb], .agg [st, lo], .agg [pv, qv]]).at 1 = .agg [st, lo] := by rw [envOf_at]; rfl
  have e2 : (envOf [LV.agg [.int .i64 B.L, sb, nb], .agg [st, lo], .agg [pv, qv]]).at 2 = .agg [pv, qv] := by rw [envOf_at]; rfl
  generalize envOf [LV.agg [.int .i64 B.L, sb, nb], .agg [st, lo], .agg [pv, qv]] = e at *
  unfold l5
  dsimp only
  repeat' (first | refine gA trivial ?_ | (refine gB trivial ?_; intro bb hbb; cases bb <;> (try simp only [hbs, if_false, reduceCtorEq] at hbb)) | apply qc_seq | fail)
  refine q_pure hG0 (head_true) (by first | exact wN | (apply wG; (simp only [lk, Nat.reduceEqDiff, reduceIte, e0, e1, e2]; (try rfl); done))) (by simp only [List.map, lk, Nat.reduceEqDiff, reduceIte, e0, e1, e2]; try rfl) (by first | trivial | (simp only [Chks, wantedG, LOp.run, Env.put_some, Env.put_none, lk, sv1, sv2, sv3, Nat.reduceEqDiff, Nat.reduceAdd, Nat.reduceLeDiff, reduceIte, if_false, if_true, mkVal, unLV, List.map, optTmps, beq_self_eq_true, reduceCtorEq, false_or, true_and, and_true, Option.some.injEq, *]; done)) ?_
  simp only [Env.put_some]
  repeat' (first | refine gA trivial ?_ | (refine gB trivial ?_; intro bb hbb; cases bb <;> (try simp only [hbs, if_false, reduceCtorEq] at hbb)) | apply qc_seq | fail)
  refine q_pureEx hG0 hfw wN (by simp only [List.map, lk, sv1, sv2, sv3, Nat.reduceEqDiff, Nat.reduceAdd, Nat.reduceLeDiff, reduceIte, if_false, if_true, mkVal, unLV, List.map, optTmps]) (fun r hr hrc => ⟨trivial, ?_⟩)
  obtain ⟨b, rfl, -⟩ := hr
  simp only [Env.put_some]
  cases b with
  | false =>
    repeat' (first | refine gA trivial ?_ | (refine gB trivial ?_; intro bb hbb; cases bb <;> (try simp only [hbs, if_false, reduceCtorEq] at hbb)) | apply qc_seq | fail)
    exact ⟨.inr trivial, ef⟩
  | true =>
  clear hrc hfw
  repeat' (first | refine gA trivial ?_ | (refine gB trivial ?_; intro bb hbb; cases bb <;> (try simp only [hbs, if_false, reduceCtorEq] at hbb)) | apply qc_seq | fail)
  refine q_pureEx hG0 hfo (wG ef) (by simp only [List.map, lk, sv1, sv2, sv3, Nat.reduceEqDiff, Nat.reduceAdd, Nat.reduceLeDiff, reduceIte, if_false, if_true, mkVal, unLV, List.map, optTmps]) (fun r hr hrc => ⟨trivial, ?_⟩)
  obtain ⟨b, rfl, -⟩ := hr
  simp only [Env.put_some]
  cases b with
  | false =>
    repeat' (first | refine gA trivial ?_ | (refine gB trivial ?_; intro bb hbb; cases bb <;> (try simp only [hbs, if_false, reduceCtorEq] at hbb)) | apply qc_seq | fail)
    exact ⟨.inr trivial, ef⟩
  | true =>
  clear hrc hfo
  repeat' (first | refine gA trivial ?_ | (refine gB trivial ?_; intro bb hbb; cases bb <;> (try simp only [hbs, if_false, reduceCtorEq] at hbb)) | apply qc_seq | fail)
  refine q_pureB hG0 (hrw) (by first | exact wN | (apply wG; (simp only [lk, Nat.reduceEqDiff, reduceIte, e0, e1, e2]; (try rfl); done))) (by simp only [List.map, lk, Nat.reduceEqDiff, reduceIte, e0, e1, e2]; try rfl) (fun bb hbb => ⟨by first | trivial | (simp only [Chks, wantedG, LOp.run, Env.put_some, Env.put_none, lk, sv1, sv2, sv3, Nat.reduceEqDiff, Nat.reduceAdd, Nat.reduceLeDiff, reduceIte, if_false, if_true, mkVal, unLV, List.map, optTmps, beq_self_eq_true, reduceCtorEq, false_or, true_and, and_true, Option.some.injEq, *]; done), ?_⟩)
  simp only [Env.put_some]
  cases bb <;> simp only [decide_eq_true_eq, decide_eq_false_iff_not] at hbb
  · repeat' (first | refine gA trivial ?_ | (refine gB trivial ?_; intro bb hbb; cases bb <;> (try simp only [hbs, if_false, reduceCtorEq] at hbb)) | apply qc_seq | fail)
    exact ⟨.inr trivial, ef⟩
  have rA := hbb
  clear hbb hrw
  repeat' (first | refine gA trivial ?_ | (refine gB trivial ?_; intro bb hbb; cases bb <;> (try simp only [hbs, if_false, reduceCtorEq] at hbb)) | apply qc_seq | fail)
  refine q_pureB hG0 (hro) (by first | exact wN | (apply wG; (simp only [lk, Nat.reduceEqDiff, reduceIte, e0, e1, e2]; (try rfl); done))) (by simp only [List.map, lk, Nat.reduceEqDiff, reduceIte, e0, e1, e2]; try rfl) (fun bb hbb => ⟨by first | trivial | (simp only [Chks, wantedG, LOp.run, Env.put_some, Env.put_none, lk, sv1, sv2, sv3, Nat.reduceEqDiff, Nat.reduceAdd, Nat.reduceLeDiff, reduceIte, if_false, if_true, mkVal, unLV, List.map, optTmps, beq_self_eq_true, reduceCtorEq, false_or, true_and, and_true, Option.some.injEq, *]; done), ?_⟩)
  simp only [Env.put_some]
  cases bb <;> simp only [decide_eq_true_eq, decide_eq_false_iff_not] at hbb
  · repeat' (first | refine gA trivial ?_ | (refine gB trivial ?_; intro bb hbb; cases bb <;> (try simp only [hbs, if_false, reduceCtorEq] at hbb)) | apply qc_seq | fail)
    exact ⟨.inr trivial, ef⟩
  have rB := hbb
  clear hbb hro
  repeat' (first | refine gA trivial ?_ | (refine gB trivial ?_; intro bb hbb; cases bb <;> (try simp only [hbs, if_false, reduceCtorEq] at hbb)) | apply qc_seq | fail)
  refine q_pureEx hG0 hsm (wG ef) (by simp only [List.map, lk, sv1, sv2, sv3, Nat.reduceEqDiff, Nat.reduceAdd, Nat.reduceLeDiff, reduceIte, if_false, if_true, mkVal, unLV, List.map, optTmps]) (fun r hr hrc => ⟨trivial, ?_⟩)
  obtain ⟨b, rfl, hSm⟩ := hr
  simp only [Env.put_some]
  cases b with
  | false =>
    repeat' (first | refine gA trivial ?_ | (refine gB trivial ?_; intro bb hbb; cases bb <;> (try simp only [hbs, if_false, reduceCtorEq] at hbb)) | apply qc_seq | fail)
    exact ⟨.inr trivial, ef⟩
  | true =>
  replace hSm : Bx (SmW S L P Q) := ⟨hSm rfl⟩
  clear hrc hsm
  repeat' (first | refine gA trivial ?_ | (refine gB trivial ?_; intro bb hbb; cases bb <;> (try simp only [hbs, if_false, reduceCtorEq] at hbb)) | apply qc_seq | fail)
  refine q_pureEx hG0 hrn wN (by simp only [List.map, lk, sv1, sv2, sv3, Nat.reduceEqDiff, Nat.reduceAdd, Nat.reduceLeDiff, reduceIte, if_false, if_true, mkVal, unLV, List.map, optTmps]) (fun r hr hrc => ⟨trivial, ?_⟩)
  obtain ⟨xv, yv, X, Y, ok, rfl, hX, hY, hA⟩ := hr
  simp only [Env.put_some]
  have cx := hX.sl.cell
  have cy := hY.sl.cell
  have hcx : (LV.agg [xv, yv]).closed = true := by simp [LV.closed, LV.closed.closedAll, hX.closed, hY.closed]
  repeat' (first | refine gA trivial ?_ | (refine gB trivial ?_; intro bb hbb; cases bb <;> (try simp only [hbs, if_false, reduceCtorEq] at hbb)) | apply qc_seq | fail)
  refine q_pureEx hG0 hrno wN (by simp only [List.map, lk, sv1, sv2, sv3, Nat.reduceEqDiff, Nat.reduceAdd, Nat.reduceLeDiff, reduceIte, if_false, if_true, mkVal, unLV, List.map, optTmps]) (fun r hr hrc2 => ⟨trivial, ?_⟩)
  obtain ⟨zv, wv, Z, W', ok', rfl, hZ, hW, hA'⟩ := hr
  simp only [Env.put_some]
  have cz := hZ.sl.cell
  have cw := hW.sl.cell
  have hcz : (LV.agg [zv, wv]).closed = true := by simp [LV.closed, LV.closed.closedAll, hZ.closed, hW.closed]
  have hsa := psame_ok hX hY hZ hW
  obtain ⟨k1, k2, k3⟩ : X = Z ∧ Y = W' ∧ ok = ok' := by
    obtain ⟨_, _, a, b, n1, n2⟩ := hSm.out
    exact hA.same hA' ⟨rA.1, rA.2.1, rA.2.2.1, rA.2.2.2⟩ ⟨rB.1, rB.2.1, rB.2.2.1, rB.2.2.2⟩ n1 n2
  subst k1
  subst k2
  subst k3
  obtain ⟨f1, f2, f3, f4, f5⟩ := hA'.facts
  have hkx := hck hX hY (by simpa [zints] using f4) (by simpa [zints] using f5)
  rw [← f2] at hkx
  rw [decide_eq_true ⟨rfl, rfl⟩] at hsa
  clear f1 f2 f3 f4 f5 hA hA' hSm hck hrn hrno rA rB
  repeat' (first | refine gA trivial ?_ | (refine gB trivial ?_; intro bb hbb; cases bb <;> (try simp only [hbs, if_false, reduceCtorEq] at hbb)) | apply qc_seq | fail)
  · simp at hbb
  clear hbb
  refine q_pure hG0 (hsa) (by first | exact wN | (apply wG; (simp only [lk, Nat.reduceEqDiff, reduceIte, e0, e1, e2]; (try rfl); done))) (by simp only [List.map, lk, Nat.reduceEqDiff, reduceIte, e0, e1, e2]; try rfl) (by first | trivial | (simp only [Chks, wantedG, LOp.run, Env.put_some, Env.put_none, lk, sv1, sv2, sv3, Nat.reduceEqDiff, Nat.reduceAdd, Nat.reduceLeDiff, reduceIte, if_false, if_true, mkVal, unLV, List.map, optTmps, beq_self_eq_true, reduceCtorEq, false_or, true_and, and_true, Option.some.injEq, loadLV, mkVal, *]; done)) ?_
  simp only [Env.put_some]
  cases ok with
  | false =>
    repeat' (first | refine gA trivial ?_ | (refine gB trivial ?_; intro bb hbb; cases bb <;> (try simp only [hbs, if_false, reduceCtorEq] at hbb)) | apply qc_seq | fail)
    exact ⟨.inr trivial, ef⟩
  | true =>
    repeat' (first | refine gA trivial ?_ | (refine gB trivial ?_; intro bb hbb; cases bb <;> (try simp only [hbs, if_false, reduceCtorEq] at hbb)) | apply qc_seq | fail)
    refine q_pure hG0 (hkx) (by first | exact wN | (apply wG; (simp only [lk, Nat.reduceEqDiff, reduceIte, e0, e1, e2]; (try rfl); done))) (by simp only [List.map, lk, Nat.reduceEqDiff, reduceIte, e0, e1, e2]; try rfl) (by first | trivial | (simp only [Chks, wantedG, LOp.run, Env.put_some, Env.put_none, lk, sv1, sv2, sv3, Nat.reduceEqDiff, Nat.reduceAdd, Nat.reduceLeDiff, reduceIte, if_false, if_true, mkVal, unLV, List.map, optTmps, beq_self_eq_true, reduceCtorEq, false_or, true_and, and_true, Option.some.injEq, loadLV, mkVal, *]; done)) ?_
    simp only [Env.put_some]
    repeat' (first | refine gA trivial ?_ | (refine gB trivial ?_; intro bb hbb; cases bb <;> (try simp only [hbs, if_false, reduceCtorEq] at hbb)) | apply qc_seq | fail)
    exact ⟨.inr trivial, ef⟩
end Go.Proofs.YthcllhhldknkmaaGreatDoor
