/- The law of trimming, run. -/
import Derived.Test.YtbdoggiabclkdaaGreatDoorTauto
import Derived.Test.YtbdoggiabclkdaaGreatDoorBsteps
import Derived.Test.YtbdoggiabclkdaaGreatDoorBsame
import Derived.Test.YtbdoggiabclkdaaGreatDoorHead
import Derived.Test.YtbdoggiabclkdaaGreatDoorRval
import Derived.Test.YtbdoggiabclkdaaGreatDoorRfew
set_option linter.unusedSimpArgs false
set_option linter.unusedVariables false
set_option maxRecDepth 100000
namespace Go.Proofs.YtbdoggiabclkdaaGreatDoor
open Go Go.Pv
open Classical
set_option maxHeartbeats 16000000 in
theorem lawTrim : ∀ lvs, HasArgs Tryz.prog 9 Tryz.f5.params.toList lvs → LawOkG Tryz.prog GL 5 lvs := by
  intro lvs h
  rw [Tryz.params5] at h
  cases h with | cons a h =>
  cases h with | cons b h =>
  cases h
  obtain ⟨B, sv, nv, hB, -⟩ := argB a
  obtain ⟨l, hl⟩ := argI b
  rename_i lv
  refine ⟨Tryz.f5, [], l5, Tryz.func5, by decide +kernel, c5, Nat.le_of_ble_eq_true rfl, CodeOk.mono (Q := fun o e s => (o = .normal ∨ o = .jmp .ret) ∧ e.at 4 = .bool true) (Cd.out ?_) fun o e s hh => ⟨hh.1, by simp [l5, resVal, resOne, hh.2]⟩⟩
  have hcl := hB.closed
  have hfew := rbfew_ok hB
  have hval := rbvalid_ok hB
  have htrim := ttrim_ok hB
  have hal := fun (hok : Vb B) (hr : ∀ z ∈ l, 0 ≤ z ∧ z < B.L) => alive_ok hB hok hl hr
  obtain ⟨rfl, hst, vs, hn⟩ := hB
  have hc1 := hst.sl.cell
  have hc2 := hn.sl.cell
  have hnl := hn.sl.len
  have hstl := hst.sl.len
  have hll := hl.sl.len
  have e0 : (envOf [LV.agg [.int .i64 B.L, sv, nv], lv]).at 0 = .agg [.int .i64 B.L, sv, nv] := by rw [envOf_at]; rfl
  have e1 : (envOf [LV.agg [.int .i64 B.L, sv, nv], lv]).at 1 = lv := by rw [envOf_at]; rfl
  generalize envOf [LV.agg [.int .i64 B.L, sv, nv], lv] = e at *
  unfold l5
  dsimp only
  repeat' (first | refine gA trivial ?_ | (refine gB trivial ?_; intro bb hbb; cases bb <;> (try simp only [hbs, if_false, reduceCtorEq] at hbb)) | apply qc_seq | fail)
  refine q_pure hG0 (head_true) (by first | exact wN | (apply wG; (simp only [lk, Nat.reduceEqDiff, reduceIte, e0]; (try rfl); done))) (by simp only [List.map, lk, Nat.reduceEqDiff, reduceIte, e0]; try rfl) (by first | trivial | (simp only [Chks, wantedG, LOp.run, Env.put_some, Env.put_none, lk, sv1, sv2, sv3, Nat.reduceEqDiff, Nat.reduceAdd, Nat.reduceLeDiff, reduceIte, if_false, if_true, mkVal, unLV, List.map, optTmps, beq_self_eq_true, reduceCtorEq, false_or, true_and, and_true, Option.some.injEq, *]; done)) ?_
  simp only [Env.put_some]
  repeat' (first | refine gA trivial ?_ | (refine gB trivial ?_; intro bb hbb; cases bb <;> (try simp only [hbs, if_false, reduceCtorEq] at hbb)) | apply qc_seq | fail)
  refine q_pureEx hG0 hfew wN (by simp only [List.map, lk, sv1, sv2, sv3, Nat.reduceEqDiff, Nat.reduceAdd, Nat.reduceLeDiff, reduceIte, if_false, if_true, mkVal, unLV, List.map, optTmps]) (fun r hr hrc => ⟨trivial, ?_⟩)
  obtain ⟨b, rfl, hb⟩ := hr
  simp only [Env.put_some]
  cases b with
  | false =>
    repeat' (first | refine gA trivial ?_ | (refine gB trivial ?_; intro bb hbb; cases bb <;> (try simp only [hbs, if_false, reduceCtorEq] at hbb)) | apply qc_seq | fail)
    exact ⟨.inr trivial, ef⟩
  | true =>
    repeat' (first | refine gA trivial ?_ | (refine gB trivial ?_; intro bb hbb; cases bb <;> (try simp only [hbs, if_false, reduceCtorEq] at hbb)) | apply qc_seq | fail)
    refine q_pureB hG0 (hval) (by first | exact wN | (apply wG; (simp only [lk, Nat.reduceEqDiff, reduceIte, e0]; (try rfl); done))) (by simp only [List.map, lk, Nat.reduceEqDiff, reduceIte, e0]; try rfl) (fun bb hbb => ⟨by first | trivial | (simp only [Chks, wantedG, LOp.run, Env.put_some, Env.put_none, lk, sv1, sv2, sv3, Nat.reduceEqDiff, Nat.reduceAdd, Nat.reduceLeDiff, reduceIte, if_false, if_true, mkVal, unLV, List.map, optTmps, beq_self_eq_true, reduceCtorEq, false_or, true_and, and_true, Option.some.injEq, *]; done), ?_⟩)
    simp only [Env.put_some]
    cases bb <;> simp only [decide_eq_true_eq, decide_eq_false_iff_not] at hbb
    · repeat' (first | refine gA trivial ?_ | (refine gB trivial ?_; intro bb hbb; cases bb <;> (try simp only [hbs, if_false, reduceCtorEq] at hbb)) | apply qc_seq | fail)
      exact ⟨.inr trivial, ef⟩
    have hok := hbb
    repeat' (first | refine gA @hll ?_ | (refine gB @hll ?_; intro bb hbb; cases bb <;> (try simp only [hbs, if_false, reduceCtorEq] at hbb)) | apply qc_seq | fail)
    rotate_left
    · exact ⟨.inr trivial, ef⟩
    refine q_pureEx hG0 htrim wN (by simp only [List.map, lk, sv1, sv2, sv3, Nat.reduceEqDiff, Nat.reduceAdd, Nat.reduceLeDiff, reduceIte, if_false, if_true, mkVal, unLV, List.map, optTmps]) (fun r hr hrc => ⟨trivial, ?_⟩)
    obtain ⟨C, sc, nc, hC, hT⟩ : ∃ C sv' nv', IsB r C sv' nv' ∧ TrimR B C := by
      rcases hr with ⟨h, _⟩ | ⟨_, h⟩
      · exact absurd hok h
      · exact h
    have hokC := vb_trim hok hT
    have hbvC := bvalid_ok hC
    rw [decide_eq_true hokC] at hbvC
    have htrim2 := ttrim_ok hC
    have hsame := fun {v : LV} {D : Bu} {sd nd : LV} (hD : IsB v D sd nd) => same_ok hD hC
    have halC := fun (hr : ∀ z ∈ l, 0 ≤ z ∧ z < C.L) => alive_ok hC hokC hl hr
    have hclC := hC.closed
    have hlenC : C.next.length ≤ B.next.length := by
      rw [hT.len]; exact ai_len hok (Pre.refl (trimR B))
    have hstC : C.start.length = B.start.length := by rw [hT.st]; simp
    obtain ⟨rfl, hsc, vc, hnc⟩ := hC
    have hc3 := hsc.sl.cell
    have hc4 := hnc.sl.cell
    have hncl := hnc.sl.len
    have hscl := hsc.sl.len
    clear hr hrc hb hfew hval htrim
    simp only [Env.put_some]
    repeat' (first | refine gA trivial ?_ | (refine gB trivial ?_; intro bb hbb; cases bb <;> (try simp only [hbs, if_false, reduceCtorEq] at hbb)) | apply qc_seq | fail)
    refine q_pure hG0 (hbvC) (by first | exact wN | (apply wG; (simp only [lk, Nat.reduceEqDiff, reduceIte, e0, e1]; (try rfl); done))) (by simp only [List.map, lk, Nat.reduceEqDiff, reduceIte, e0, e1]; try rfl) (by first | trivial | (simp only [Chks, wantedG, LOp.run, Env.put_some, Env.put_none, lk, sv1, sv2, sv3, Nat.reduceEqDiff, Nat.reduceAdd, Nat.reduceLeDiff, reduceIte, if_false, if_true, mkVal, unLV, List.map, optTmps, beq_self_eq_true, reduceCtorEq, false_or, true_and, and_true, Option.some.injEq, *]; done)) ?_
    simp only [Env.put_some]
    repeat' (first | refine gA (And.intro @hncl @hnl) ?_ | (refine gB (And.intro @hncl @hnl) ?_; intro bb hbb; cases bb <;> (try simp only [hbs, if_false, reduceCtorEq] at hbb)) | apply qc_seq | fail)
    rotate_left
    · exfalso; omega
    refine q_pureEx hG0 htrim2 (wG ef) (by simp only [List.map, lk, sv1, sv2, sv3, Nat.reduceEqDiff, Nat.reduceAdd, Nat.reduceLeDiff, reduceIte, if_false, if_true, mkVal, unLV, List.map, optTmps]) (fun r hr hrc => ⟨?_, ?_⟩)
    · simp only [Chks, wantedG, LOp.run, lk, sv1, sv2, sv3, Nat.reduceEqDiff, Nat.reduceAdd, Nat.reduceLeDiff, reduceIte, if_false, if_true, mkVal, unLV, List.map, optTmps, Env.put_some]
      simp [St.get_put, mkVal]
    obtain ⟨D, sd, nd, hD, hTD⟩ : ∃ D sv' nv', IsB r D sv' nv' ∧ TrimR C D := by
      rcases hr with ⟨h, _⟩ | ⟨_, h⟩
      · exact absurd hokC h
      · exact h
    have hDC := trim_twice hok hT hTD
    have hsm := hsame hD
    rw [decide_eq_true hDC] at hsm
    have hrcl := hD.closed
    clear hr htrim2 hsame hTD hDC
    simp only [Env.put_some]
    refine q_pure hG0 (hsm) (by first | exact wN | (apply wG; (simp only [lk, Nat.reduceEqDiff, reduceIte, e0, e1]; (try rfl); done))) (by simp only [List.map, lk, Nat.reduceEqDiff, reduceIte, e0, e1]; try rfl) (by first | trivial | (simp only [Chks, wantedG, LOp.run, Env.put_some, Env.put_none, lk, sv1, sv2, sv3, Nat.reduceEqDiff, Nat.reduceAdd, Nat.reduceLeDiff, reduceIte, if_false, if_true, mkVal, unLV, List.map, optTmps, beq_self_eq_true, reduceCtorEq, false_or, true_and, and_true, Option.some.injEq, *]; done)) ?_
    simp only [Env.put_some]
    repeat' (first | refine gA (And.intro @hscl @hstl) ?_ | (refine gB (And.intro @hscl @hstl) ?_; intro bb hbb; cases bb <;> (try simp only [hbs, if_false, reduceCtorEq] at hbb)) | apply qc_seq | fail)
    rotate_left
    · exfalso; omega
    refine qc_loop (fun m e s => ∃ (i : Nat), m = l.length - i ∧ i ≤ l.length ∧ (∀ k, k < i → 0 ≤ l.getD k 0 ∧ l.getD k 0 < B.L) ∧ s.get 0 = some (.cells .mut [.int .i64 C.L, sc, nc]) ∧ e.at 1 = lv ∧ e.at 2 = .pimm [.int .i64 B.L, sv, nv] 0 ∧ e.at 5 = .bool true ∧ e.at 6 = .pref 0 0 ∧ e.at 7 = .int .i64 (i : Int)) _
      ⟨0, rfl, by omega, fun k hk => absurd hk (Nat.not_lt_zero _), by simp [St.get_put], ef, ef, ef, ef, by simp only [lk, sv1, sv2, sv3, Nat.reduceEqDiff, Nat.reduceAdd, Nat.reduceLeDiff, reduceIte, if_false, if_true, mkVal, unLV, List.map, optTmps]; rfl⟩ ?_
    clear e0 e1 hbb hbvC
    clear e
    rintro m e s ⟨i, rfl, hi, hrg, g0, e1, e2, e5, e6, e7⟩
    by_cases hil : i < l.length
    · have hiI : (i : Int) < (l.length : Int) := by omega
      have hwi := wrap_succ hiI hl.len
      have hia : ∀ s, iaLV 1 lv (.int .i64 (i : Int)) s = some (.pimm (ints l) i, s) := fun s => by
        have := iaN (esz := 1) (k := .i64) (s := s) (i := i) hl.sl hiI
        simpa using this
      obtain ⟨z, hz⟩ : ∃ z, l.getD i 0 = z := ⟨_, rfl⟩
      have hgz : (ints l)[i]? = some (.int .i64 z) := by rw [ints_get hiI, hz]
      repeat' (first | refine gA (And.intro @hll (And.intro @hia @hgz)) ?_ | (refine gB (And.intro @hll (And.intro @hia @hgz)) ?_; intro bb hbb; cases bb <;> (try simp only [hbs, if_false, reduceCtorEq] at hbb)) | apply qc_seq | fail)
      any_goals (exfalso; omega)
      rotate_left
      · exact ⟨.inr trivial, ef⟩
      · exact ⟨.inr trivial, ef⟩
      refine ⟨l.length - (i + 1), by omega, i + 1, rfl, by omega, fun k hk => ?_, g0, ef, ef, ef, ef, ef⟩
      by_cases hki : k < i
      · exact hrg k hki
      · obtain rfl : k = i := by omega
        omega
    · have hR : ∀ z ∈ l, 0 ≤ z ∧ z < B.L := fun z hz => by
        obtain ⟨j, hj⟩ := List.mem_iff_getElem?.1 hz
        have hjl := (List.getElem?_eq_some_iff.1 hj).1
        have := hrg j (by omega)
        rwa [List.getD_eq_getElem?_getD, hj] at this
      have ha1 := hal hok hR
      have ha2 := halC (by rw [hT.L]; exact hR)
      have hiff : decide (Alive C l) = decide (Alive B l) := by
        rw [Bool.eq_iff_iff, decide_eq_true_eq, decide_eq_true_eq]; exact trim_alive hok hT hR
      rw [hiff] at ha2
      clear hal halC hiff
      obtain ⟨ab, hab⟩ : ∃ ab, decide (Alive B l) = ab := ⟨_, rfl⟩
      rw [hab] at ha1 ha2
      clear hab
      cases ab
      all_goals
        repeat' (first | refine gA @hll ?_ | (refine gB @hll ?_; intro bb hbb; cases bb <;> (try simp only [hbs, if_false, reduceCtorEq] at hbb)) | apply qc_seq | fail)
        any_goals (exfalso; omega)
        refine q_pure hG0 ha2 (wG ef) (by simp only [List.map, lk, sv1, sv2, sv3, Nat.reduceEqDiff, Nat.reduceAdd, Nat.reduceLeDiff, reduceIte, if_false, if_true, mkVal, unLV, List.map, optTmps, e1]) ?_ ?_
        · simp only [Chks, wantedG, LOp.run, lk, sv1, sv2, sv3, Nat.reduceEqDiff, Nat.reduceAdd, Nat.reduceLeDiff, reduceIte, if_false, if_true, mkVal, unLV, List.map, optTmps, Env.put_some, e2, e5]
          simp [mkVal]
        simp only [Env.put_some]
        refine q_pure hG0 ha1 (wG ef) (by simp only [List.map, lk, sv1, sv2, sv3, Nat.reduceEqDiff, Nat.reduceAdd, Nat.reduceLeDiff, reduceIte, if_false, if_true, mkVal, unLV, List.map, optTmps, e1]) trivial ?_
        simp only [Env.put_some]
        repeat' (first | refine gA trivial ?_ | (refine gB trivial ?_; intro bb hbb; cases bb <;> (try simp only [hbs, if_false, reduceCtorEq] at hbb)) | apply qc_seq | fail)
        any_goals (exfalso; simp at hbb; done)
        exact ⟨.inr trivial, ef⟩
end Go.Proofs.YtbdoggiabclkdaaGreatDoor
