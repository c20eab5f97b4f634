/- The law of runs, run. -/
import Derived.Test.YtbdoggiabclkdaaGreatDoorBeither2
import Derived.Test.YtbdoggiabclkdaaGreatDoorBsame
import Derived.Test.YtbdoggiabclkdaaGreatDoorHead
import Derived.Test.YtbdoggiabclkdaaGreatDoorRval
import Derived.Test.YtbdoggiabclkdaaGreatDoorRfew
set_option linter.unusedSimpArgs false
set_option linter.unusedVariables false
set_option maxRecDepth 100000
namespace Go.Proofs.YtbdoggiabclkdaaGreatDoor
open Go Go.Pv
open Classical
set_option maxHeartbeats 16000000 in
theorem lawRuns : ∀ lvs, HasArgs Tryz.prog 9 Tryz.f4.params.toList lvs → LawOkG Tryz.prog GL 4 lvs := by
  intro lvs h
  rw [Tryz.params4] at h
  cases h with | cons a h =>
  cases h with | cons b h =>
  cases h with | cons c h =>
  cases h
  obtain ⟨A, sa, na, hA, -⟩ := argB a
  obtain ⟨B, sb, nb, hB, -⟩ := argB b
  obtain ⟨l, hl⟩ := argI c
  rename_i lv
  refine ⟨Tryz.f4, [], l4, Tryz.func4, by decide +kernel, c4, Nat.le_of_ble_eq_true rfl, CodeOk.mono (Q := fun o e s => (o = .normal ∨ o = .jmp .ret) ∧ e.at 6 = .bool true) (Cd.out ?_) fun o e s hh => ⟨hh.1, by simp [l4, resVal, resOne, hh.2]⟩⟩
  clear a b c
  have hcA := hA.closed
  have hcB := hB.closed
  have hfA := rbfew_ok hA
  have hfB := rbfew_ok hB
  have hvA := rbvalid_ok hA
  have hvB := rbvalid_ok hB
  have halA := fun (hok : Vb A) (hr : ∀ z ∈ l, 0 ≤ z ∧ z < A.L) => alive_ok hA hok hl hr
  have halB := fun (hok : Vb B) (hr : ∀ z ∈ l, 0 ≤ z ∧ z < B.L) => alive_ok hB hok hl hr
  have hbo := fun (okA : Vb A) (okB : Vb B) (hL : A.L = B.L) (hN : ((A.next.length * B.next.length * 2 : Nat) : Int) ≤ 300) => pboth_ok hA hB okA okB hL (most := 300) (by omega) hN (by omega)
  have hei := fun (okA : Vb A) (okB : Vb B) (hL : A.L = B.L) (hs : A.next.length + B.next.length ≤ 3000) => either_ok hA hB okA okB hL hs
  obtain ⟨rfl, hsa, va, hna⟩ := hA
  obtain ⟨rfl, hsb, vb, hnb⟩ := hB
  have ca1 := hsa.sl.cell
  have ca2 := hna.sl.cell
  have cb1 := hsb.sl.cell
  have cb2 := hnb.sl.cell
  have hla := hna.sl.len
  have hlb := hnb.sl.len
  have hll := hl.sl.len
  have e0 : (envOf [LV.agg [.int .i64 A.L, sa, na], .agg [.int .i64 B.L, sb, nb], lv]).at 0 = .agg [.int .i64 A.L, sa, na] := by rw [envOf_at]; rfl
  have e1 : (envOf [LV.agg [.int .i64 A.L, sa, na], .agg [.int .i64 B.L, sb, nb], lv]).at 1 = .agg [.int .i64 B.L, sb, nb] := by rw [envOf_at]; rfl
  have e2 : (envOf [LV.agg [.int .i64 A.L, sa, na], .agg [.int .i64 B.L, sb, nb], lv]).at 2 = lv := by rw [envOf_at]; rfl
  generalize envOf [LV.agg [.int .i64 A.L, sa, na], .agg [.int .i64 B.L, sb, nb], lv] = e at *
  unfold l4
  dsimp only
  repeat' (first | refine gA trivial ?_ | (refine gB trivial ?_; intro bb hbb; cases bb <;> (try simp only [hbs, if_false, reduceCtorEq] at hbb)) | apply qc_seq | fail)
  refine q_pure hG0 (head_true) (by first | exact wN | (apply wG; (simp only [lk, Nat.reduceEqDiff, reduceIte, e0, e1]; (try rfl); done))) (by simp only [List.map, lk, Nat.reduceEqDiff, reduceIte, e0, e1]; try rfl) (by first | trivial | (simp only [Chks, wantedG, LOp.run, Env.put_some, Env.put_none, lk, sv1, sv2, sv3, Nat.reduceEqDiff, Nat.reduceAdd, Nat.reduceLeDiff, reduceIte, if_false, if_true, mkVal, unLV, List.map, optTmps, beq_self_eq_true, reduceCtorEq, false_or, true_and, and_true, Option.some.injEq, *]; done)) ?_
  simp only [Env.put_some]
  repeat' (first | refine gA trivial ?_ | (refine gB trivial ?_; intro bb hbb; cases bb <;> (try simp only [hbs, if_false, reduceCtorEq] at hbb)) | apply qc_seq | fail)
  refine q_pureEx hG0 hfA wN (by simp only [List.map, lk, sv1, sv2, sv3, Nat.reduceEqDiff, Nat.reduceAdd, Nat.reduceLeDiff, reduceIte, if_false, if_true, mkVal, unLV, List.map, optTmps]) (fun r hr hrc => ⟨trivial, ?_⟩)
  obtain ⟨b, rfl, hb⟩ := hr
  simp only [Env.put_some]
  cases b with
  | false =>
    repeat' (first | refine gA trivial ?_ | (refine gB trivial ?_; intro bb hbb; cases bb <;> (try simp only [hbs, if_false, reduceCtorEq] at hbb)) | apply qc_seq | fail)
    exact ⟨.inr trivial, ef⟩
  | true =>
  have hfa := hb rfl
  clear hb hrc hfA
  repeat' (first | refine gA trivial ?_ | (refine gB trivial ?_; intro bb hbb; cases bb <;> (try simp only [hbs, if_false, reduceCtorEq] at hbb)) | apply qc_seq | fail)
  refine q_pureEx hG0 hfB (wG ef) (by simp only [List.map, lk, sv1, sv2, sv3, Nat.reduceEqDiff, Nat.reduceAdd, Nat.reduceLeDiff, reduceIte, if_false, if_true, mkVal, unLV, List.map, optTmps]) (fun r hr hrc => ⟨trivial, ?_⟩)
  obtain ⟨b, rfl, hb⟩ := hr
  simp only [Env.put_some]
  cases b with
  | false =>
    repeat' (first | refine gA trivial ?_ | (refine gB trivial ?_; intro bb hbb; cases bb <;> (try simp only [hbs, if_false, reduceCtorEq] at hbb)) | apply qc_seq | fail)
    exact ⟨.inr trivial, ef⟩
  | true =>
  have hfb := hb rfl
  clear hb hrc hfB
  repeat' (first | refine gA trivial ?_ | (refine gB trivial ?_; intro bb hbb; cases bb <;> (try simp only [hbs, if_false, reduceCtorEq] at hbb)) | apply qc_seq | fail)
  refine q_pureB hG0 (hvA) (by first | exact wN | (apply wG; (simp only [lk, Nat.reduceEqDiff, reduceIte, e0, e1]; (try rfl); done))) (by simp only [List.map, lk, Nat.reduceEqDiff, reduceIte, e0, e1]; try rfl) (fun bb hbb => ⟨by first | trivial | (simp only [Chks, wantedG, LOp.run, Env.put_some, Env.put_none, lk, sv1, sv2, sv3, Nat.reduceEqDiff, Nat.reduceAdd, Nat.reduceLeDiff, reduceIte, if_false, if_true, mkVal, unLV, List.map, optTmps, beq_self_eq_true, reduceCtorEq, false_or, true_and, and_true, Option.some.injEq, *]; done), ?_⟩)
  simp only [Env.put_some]
  cases bb <;> simp only [decide_eq_true_eq, decide_eq_false_iff_not] at hbb
  · repeat' (first | refine gA trivial ?_ | (refine gB trivial ?_; intro bb hbb; cases bb <;> (try simp only [hbs, if_false, reduceCtorEq] at hbb)) | apply qc_seq | fail)
    exact ⟨.inr trivial, ef⟩
  have okA := hbb
  repeat' (first | refine gA trivial ?_ | (refine gB trivial ?_; intro bb hbb; cases bb <;> (try simp only [hbs, if_false, reduceCtorEq] at hbb)) | apply qc_seq | fail)
  refine q_pureB hG0 (hvB) (by first | exact wN | (apply wG; (simp only [lk, Nat.reduceEqDiff, reduceIte, e0, e1]; (try rfl); done))) (by simp only [List.map, lk, Nat.reduceEqDiff, reduceIte, e0, e1]; try rfl) (fun bb hbb => ⟨by first | trivial | (simp only [Chks, wantedG, LOp.run, Env.put_some, Env.put_none, lk, sv1, sv2, sv3, Nat.reduceEqDiff, Nat.reduceAdd, Nat.reduceLeDiff, reduceIte, if_false, if_true, mkVal, unLV, List.map, optTmps, beq_self_eq_true, reduceCtorEq, false_or, true_and, and_true, Option.some.injEq, *]; done), ?_⟩)
  simp only [Env.put_some]
  cases bb <;> simp only [decide_eq_true_eq, decide_eq_false_iff_not] at hbb
  · repeat' (first | refine gA trivial ?_ | (refine gB trivial ?_; intro bb hbb; cases bb <;> (try simp only [hbs, if_false, reduceCtorEq] at hbb)) | apply qc_seq | fail)
    exact ⟨.inr trivial, ef⟩
  have okB := hbb
  clear hvA hvB
  repeat' (first | refine gA @hll ?_ | (refine gB @hll ?_; intro bb hbb; cases bb <;> (try simp only [hbs, if_false, reduceCtorEq] at hbb)) | apply qc_seq | fail)
  rotate_left
  · exact ⟨.inr trivial, ef⟩
  · exact ⟨.inr trivial, ef⟩
  have hLx : Bx (A.L = B.L) := by
    refine ⟨?_⟩
    assumption
  refine qc_loop (fun m e s => ∃ (i : Nat), m = l.length - i ∧ i ≤ l.length ∧ s.n = 0 ∧ (∀ k, k < i → 0 ≤ l.getD k 0 ∧ l.getD k 0 < A.L) ∧ e.at 2 = lv ∧ e.at 3 = .pimm [.int .i64 A.L, sa, na] 0 ∧ e.at 4 = .pimm [.int .i64 B.L, sb, nb] 0 ∧ e.at 7 = .bool true ∧ e.at 8 = .int .i64 (i : Int)) _
    ⟨0, rfl, by omega, n_empty, fun k hk => absurd hk (Nat.not_lt_zero _), ef, ef, ef, ef, by simp only [lk, sv1, sv2, sv3, Nat.reduceEqDiff, Nat.reduceAdd, Nat.reduceLeDiff, reduceIte, if_false, if_true, mkVal, unLV, List.map, optTmps]; rfl⟩ ?_
  clear e0 e1 e2
  clear e
  have h300 : ((A.next.length * B.next.length * 2 : Nat) : Int) ≤ 300 := by
    have := Nat.mul_le_mul hfa.1 hfb.1
    omega
  replace hfa := hfa.1
  replace hfb := hfb.1
  rename_i hQ
  clear hQ hbb
  rintro m e s ⟨i, rfl, hi, hs0, hrg, e2, e3, e4, e7, e8⟩
  by_cases hil : i < l.length
  · have hiI : (i : Int) < (l.length : Int) := by omega
    have hwi := wrap_succ hiI hl.len
    have hia : ∀ s, iaLV 1 lv (.int .i64 (i : Int)) s = some (.pimm (ints l) i, s) := fun s => by
      have := iaN (esz := 1) (k := .i64) (s := s) (i := i) hl.sl hiI
      simpa using this
    obtain ⟨z, hz⟩ : ∃ z, l.getD i 0 = z := ⟨_, rfl⟩
    have hgz : (ints l)[i]? = some (.int .i64 z) := by rw [ints_get hiI, hz]
    repeat' (first | refine gA (And.intro @hll (And.intro @hia @hgz)) ?_ | (refine gB (And.intro @hll (And.intro @hia @hgz)) ?_; intro bb hbb; cases bb <;> (try simp only [hbs, if_false, reduceCtorEq] at hbb)) | apply qc_seq | fail)
    any_goals (exfalso; omega)
    rotate_left
    · exact ⟨.inr trivial, ef⟩
    · exact ⟨.inr trivial, ef⟩
    refine ⟨l.length - (i + 1), by omega, i + 1, rfl, by omega, hs0, fun k hk => ?_, ef, ef, ef, ef, ef⟩
    by_cases hki : k < i
    · exact hrg k hki
    · obtain rfl : k = i := by omega
      omega
  · have hR : ∀ z ∈ l, 0 ≤ z ∧ z < A.L := fun z hz => by
      obtain ⟨j, hj⟩ := List.mem_iff_getElem?.1 hz
      have hjl := (List.getElem?_eq_some_iff.1 hj).1
      have := hrg j (by omega)
      rwa [List.getD_eq_getElem?_getD, hj] at this
    have ha1 := halA okA hR
    have ha2 := halB okB (by rw [← hLx.out]; exact hR)
    have hb1 := hbo okA okB hLx.out h300
    have he1 := hei okA okB hLx.out (by omega)
    have hgr := grB_ok okA okB hLx.out h300 (by omega)
    clear halA halB hbo hei
    repeat' (first | refine gA @hll ?_ | (refine gB @hll ?_; intro bb hbb; cases bb <;> (try simp only [hbs, if_false, reduceCtorEq] at hbb)) | apply qc_seq | fail)
    any_goals (exfalso; omega)
    refine q_pureEx hG0 hb1 wN (by simp only [List.map, lk, sv1, sv2, sv3, Nat.reduceEqDiff, Nat.reduceAdd, Nat.reduceLeDiff, reduceIte, if_false, if_true, mkVal, unLV, List.map, optTmps]) (fun r hr hrc => ⟨trivial, ?_⟩)
    obtain ⟨v, C, sc, nc, rfl, hC, hT⟩ := hr
    have okC := vb_both okA okB hLx.out h300 (by omega) hT
    have hvC := bvalid_ok hC
    rw [decide_eq_true okC] at hvC
    have ha3 := alive_ok hC okC hl (by rw [show C.L = A.L from hT.L]; exact hR)
    have hiff3 : decide (Alive C l) = (decide (Alive A l) && decide (Alive B l)) := by
      rw [Bool.eq_iff_iff, Bool.and_eq_true, decide_eq_true_eq, decide_eq_true_eq, decide_eq_true_eq]
      exact both_alive okA okB hLx.out hgr hT hR
    rw [hiff3] at ha3
    have hclC := hC.closed
    obtain ⟨rfl, hsc, vc, hnc⟩ := hC
    have cc1 := hsc.sl.cell
    have cc2 := hnc.sl.cell
    simp only [Env.put_some]
    clear hiff3 hb1 hrc
    repeat' (first | refine gA trivial ?_ | (refine gB trivial ?_; intro bb hbb; cases bb <;> (try simp only [hbs, if_false, reduceCtorEq] at hbb)) | apply qc_seq | fail)
    refine q_pureEx hG0 he1 wN (by simp only [List.map, lk, sv1, sv2, sv3, Nat.reduceEqDiff, Nat.reduceAdd, Nat.reduceLeDiff, reduceIte, if_false, if_true, mkVal, unLV, List.map, optTmps]) (fun r hr hrc => ⟨trivial, ?_⟩)
    obtain ⟨sd, nd, hD⟩ := hr
    have okD := vb_ei okA okB hLx.out (by omega)
    have hvD := bvalid_ok hD
    rw [decide_eq_true okD] at hvD
    have ha4 := alive_ok hD okD hl hR
    have hiff4 : decide (Alive (eiB A B) l) = (decide (Alive A l) || decide (Alive B l)) := by
      rw [Bool.eq_iff_iff, Bool.or_eq_true, decide_eq_true_eq, decide_eq_true_eq, decide_eq_true_eq]
      exact ei_alive okA okB l
    rw [hiff4] at ha4
    have hclD := hD.closed
    obtain ⟨rfl, hsd, vd, hnd⟩ := hD
    have cd1 := hsd.sl.cell
    have cd2 := hnd.sl.cell
    have hld : slLen nd = some (A.next.length + B.next.length) := by
      have := hnd.sl.len
      rwa [show (eiB A B).next.length = A.next.length + B.next.length by simp [eiB]] at this
    have hws : IntKind.i64.wrap ((A.next.length : Int) + (B.next.length : Int)) = ((A.next.length + B.next.length : Nat) : Int) := by rw [wrap_i64 _ (by omega) (by omega)]; rfl
    simp only [Env.put_some]
    clear hiff4 he1 hrc
    generalize (eiB A B).L = LD at *
    repeat' (first | refine gA trivial ?_ | (refine gB trivial ?_; intro bb hbb; cases bb <;> (try simp only [hbs, if_false, reduceCtorEq] at hbb)) | apply qc_seq | fail)
    rotate_left
    · first | exact hbb.elim | exact absurd rfl hbb | (simp at hbb; done)
    refine q_pure hG0 (hvC) (by first | exact wN | (apply wG; (simp only [lk, Nat.reduceEqDiff, reduceIte, e2, e3, e4, e7, e8]; (try rfl); done))) (by simp only [List.map, lk, Nat.reduceEqDiff, reduceIte, e2, e3, e4, e7, e8]; try rfl) (by first | trivial | (simp only [Chks, wantedG, LOp.run, Env.put_some, Env.put_none, lk, sv1, sv2, sv3, Nat.reduceEqDiff, Nat.reduceAdd, Nat.reduceLeDiff, reduceIte, if_false, if_true, mkVal, unLV, List.map, optTmps, beq_self_eq_true, reduceCtorEq, false_or, true_and, and_true, Option.some.injEq, *]; done)) ?_
    simp only [Env.put_some]
    repeat' (first | refine gA trivial ?_ | (refine gB trivial ?_; intro bb hbb; cases bb <;> (try simp only [hbs, if_false, reduceCtorEq] at hbb)) | apply qc_seq | fail)
    refine q_pure hG0 (hvD) (by first | exact wN | (apply wG; (simp only [lk, Nat.reduceEqDiff, reduceIte, e2, e3, e4, e7, e8]; (try rfl); done))) (by simp only [List.map, lk, Nat.reduceEqDiff, reduceIte, e2, e3, e4, e7, e8]; try rfl) (by first | trivial | (simp only [Chks, wantedG, LOp.run, Env.put_some, Env.put_none, lk, sv1, sv2, sv3, Nat.reduceEqDiff, Nat.reduceAdd, Nat.reduceLeDiff, reduceIte, if_false, if_true, mkVal, unLV, List.map, optTmps, beq_self_eq_true, reduceCtorEq, false_or, true_and, and_true, Option.some.injEq, *]; done)) ?_
    simp only [Env.put_some]
    repeat' (first | refine gA trivial ?_ | (refine gB trivial ?_; intro bb hbb; cases bb <;> (try simp only [hbs, if_false, reduceCtorEq] at hbb)) | apply qc_seq | fail)
    refine q_pure hG0 (ha1) (by first | exact wN | (apply wG; (simp only [lk, Nat.reduceEqDiff, reduceIte, e2, e3, e4, e7, e8]; (try rfl); done))) (by simp only [List.map, lk, Nat.reduceEqDiff, reduceIte, e2, e3, e4, e7, e8]; try rfl) (by first | trivial | (simp only [Chks, wantedG, LOp.run, Env.put_some, Env.put_none, lk, sv1, sv2, sv3, Nat.reduceEqDiff, Nat.reduceAdd, Nat.reduceLeDiff, reduceIte, if_false, if_true, mkVal, unLV, List.map, optTmps, beq_self_eq_true, reduceCtorEq, false_or, true_and, and_true, Option.some.injEq, *]; done)) ?_
    simp only [Env.put_some]
    repeat' (first | refine gA trivial ?_ | (refine gB trivial ?_; intro bb hbb; cases bb <;> (try simp only [hbs, if_false, reduceCtorEq] at hbb)) | apply qc_seq | fail)
    refine q_pure hG0 (ha2) (by first | exact wN | (apply wG; (simp only [lk, Nat.reduceEqDiff, reduceIte, e2, e3, e4, e7, e8]; (try rfl); done))) (by simp only [List.map, lk, Nat.reduceEqDiff, reduceIte, e2, e3, e4, e7, e8]; try rfl) (by first | trivial | (simp only [Chks, wantedG, LOp.run, Env.put_some, Env.put_none, lk, sv1, sv2, sv3, Nat.reduceEqDiff, Nat.reduceAdd, Nat.reduceLeDiff, reduceIte, if_false, if_true, mkVal, unLV, List.map, optTmps, beq_self_eq_true, reduceCtorEq, false_or, true_and, and_true, Option.some.injEq, *]; done)) ?_
    simp only [Env.put_some]
    obtain ⟨xa, hxa⟩ : ∃ xa, decide (Alive A l) = xa := ⟨_, rfl⟩
    obtain ⟨xb, hxb⟩ : ∃ xb, decide (Alive B l) = xb := ⟨_, rfl⟩
    rw [hxa, hxb] at ha3 ha4
    rw [hxa, hxb]
    refine w_gen (fun e' s' => s'.get 0 = some (.cells .mut [.int .i64 C.L, sc, nc]) ∧ s'.get 1 = some (.cells .mut [.int .i64 LD, sd, nd]) ∧ e'.at 2 = lv ∧ e'.at 3 = .pimm [.int .i64 A.L, sa, na] 0 ∧ e'.at 4 = .pimm [.int .i64 B.L, sb, nb] 0 ∧ e'.at 7 = .bool true ∧ e'.at 9 = .pref 0 0 ∧ e'.at 11 = .pref 1 0 ∧ e'.at 12 = .bool xa ∧ e'.at 93 = .bool xb) ⟨by simp [St.get_put, St.get_new, hs0], by simp [St.get_put, St.get_new, hs0], ef, ef, ef, ef, ef, by simp only [lk, sv1, sv2, sv3, Nat.reduceEqDiff, Nat.reduceAdd, Nat.reduceLeDiff, reduceIte, if_false, if_true, mkVal, unLV, List.map, optTmps, St.n_put, St.n_new, hs0], ef, ef⟩ ?_
    clear hxa hxb ha1 ha2 hvC hvD e2 e3 e4 e7 e8 hs0 hrg hR hgr hT hi hil hbb h300 okC okD
    clear e s
    rintro e s ⟨g0, g1, e2, e3, e4, e7, e9, e11, e12, e93⟩
    cases xa <;> cases xb
    all_goals
      simp only [Bool.and_self, Bool.and_true, Bool.true_and, Bool.and_false, Bool.false_and, Bool.or_self, Bool.or_true, Bool.true_or, Bool.or_false, Bool.false_or] at ha3 ha4
    all_goals
      repeat' (first | refine gA trivial ?_ | (refine gB trivial ?_; intro bb hbb; cases bb <;> (try simp only [hbs, if_false, reduceCtorEq] at hbb)) | apply qc_seq | fail)
      refine q_pure hG0 (ha3) (by first | exact wN | (apply wG; (simp only [lk, Nat.reduceEqDiff, reduceIte, e2, e3, e4, e7, e9, e11, e12, e93]; (try rfl); done))) (by simp only [List.map, lk, Nat.reduceEqDiff, reduceIte, e2, e3, e4, e7, e9, e11, e12, e93]; try rfl) (by first | trivial | (simp only [Chks, wantedG, LOp.run, Env.put_some, Env.put_none, lk, sv1, sv2, sv3, Nat.reduceEqDiff, Nat.reduceAdd, Nat.reduceLeDiff, reduceIte, if_false, if_true, mkVal, unLV, List.map, optTmps, beq_self_eq_true, reduceCtorEq, false_or, true_and, and_true, Option.some.injEq, *]; done)) ?_
      simp only [Env.put_some]
      repeat' (first | refine gA trivial ?_ | (refine gB trivial ?_; intro bb hbb; cases bb <;> (try simp only [hbs, if_false, reduceCtorEq] at hbb)) | apply qc_seq | fail)
      · exact absurd hbb (by decide)
      clear hbb
      refine q_pure hG0 (ha4) (by first | exact wN | (apply wG; (simp only [lk, Nat.reduceEqDiff, reduceIte, e2, e3, e4, e7, e9, e11, e12, e93]; (try rfl); done))) (by simp only [List.map, lk, Nat.reduceEqDiff, reduceIte, e2, e3, e4, e7, e9, e11, e12, e93]; try rfl) (by first | trivial | (simp only [Chks, wantedG, LOp.run, Env.put_some, Env.put_none, lk, sv1, sv2, sv3, Nat.reduceEqDiff, Nat.reduceAdd, Nat.reduceLeDiff, reduceIte, if_false, if_true, mkVal, unLV, List.map, optTmps, beq_self_eq_true, reduceCtorEq, false_or, true_and, and_true, Option.some.injEq, *]; done)) ?_
      simp only [Env.put_some]
      repeat' (first | refine gA (And.intro @hld (And.intro @hla (And.intro @hlb @hws))) ?_ | (refine gB (And.intro @hld (And.intro @hla (And.intro @hlb @hws))) ?_; intro bb hbb; cases bb <;> (try simp only [hbs, if_false, reduceCtorEq] at hbb)) | apply qc_seq | fail)
      · exact absurd hbb (by decide)
      · exfalso; first | omega | exact hbb rfl | (simp at hbb; done)
      exact ⟨.inr trivial, ef⟩
end Go.Proofs.YtbdoggiabclkdaaGreatDoor
