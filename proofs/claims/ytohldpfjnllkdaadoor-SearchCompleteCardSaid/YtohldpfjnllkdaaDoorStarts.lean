/- accept's first places. -/
import Derived.Test.YtohldpfjnllkdaaDoorSearch
set_option linter.unusedSimpArgs false
set_option linter.unusedVariables false
namespace Go.Proofs.YtohldpfjnllkdaaDoor
open Go Go.Pv Go.Aut Go.Bfs
open Classical
theorem skc_frz {s : St} {v : LV} {esz n : Nat} {cells : List LV} (h : SkC s v esz cells n) (hc : LV.closed.closedAll cells = true) : ∃ r s', frz frzDepth v s = some (r, s') ∧ Sl r cells n ∧ r.closed = true := by
  obtain ⟨h0, ⟨rfl, rfl⟩ | ⟨j, rfl, h1, h2, h3⟩⟩ := h
  · have : cells = [] := List.length_eq_zero_iff.1 (by rw [h0, Nat.zero_mul])
    subst this
    exact ⟨.nils, s, frzD_closed rfl, .nil, rfl⟩
  · refine ⟨.simm cells n, s.put j (.cells .app cells), ?_, .simm _ _, by simp [LV.closed, hc]⟩
    have hd : frzDepth = 38 + 1 + 1 := rfl
    rw [hd]
    unfold frz
    simp only [LV.closed, Bool.false_eq_true, if_false, h3, Nat.zero_add, h0, Nat.le_refl, if_true, frzAll_closed hc, Option.bind_eq_bind, Option.bind_some, List.drop_zero]
    rw [List.take_of_length_le (by omega)]
set_option maxHeartbeats 8000000 in
theorem starts_ok {v : LV} {B : Bu} {ls : List Nat} {bk : Nat} {sv nv lv : LV} (h : IsTk v B ls bk sv nv lv) : PE 41 [v] (fun r => IsPls r (B.start.map fun q => (0, q.toNat))) := by
  have hcl := h.closed
  obtain ⟨rfl, hst, hnx, hlt, hok, hpos, hbk, hbig, hlet⟩ := h
  obtain ⟨vs, hn⟩ := hnx
  have hc1 := hst.sl.cell
  have hc2 := hn.sl.cell
  have hc3 := hlt.sl.cell
  have hsl := hst.sl.len
  refine q_fnEx (t := 2) hm Tryd.func41 (by decide +kernel) c41 (Nat.le_of_ble_eq_true rfl) (by simp [LV.closed.closedAll, hcl]) rfl ?_
  have e0 : (envOf [LV.agg [.int .i64 B.L, sv, nv, lv, .int .i64 (bk : Int)]]).at 0 = .agg [.int .i64 B.L, sv, nv, lv, .int .i64 (bk : Int)] := by rw [envOf_at]; rfl
  generalize envOf [LV.agg [.int .i64 B.L, sv, nv, lv, .int .i64 (bk : Int)]] = e at *
  unfold l41
  dsimp only
  repeat' (first | refine gA @hsl ?_ | (refine gB @hsl ?_; intro bb hbb; cases bb <;> (try simp only [hbs, if_false, reduceCtorEq] at hbb)) | fail)
  have hsok := hok.2.2.2.1
  have hsn : B.start.length ≤ 3000 := by
    have h3 := hok.2.2.1
    have hge : ∀ i, i < B.start.length → (i : Int) ≤ B.start.getD i 0 := by
      intro i
      induction i with
      | zero => intro hi; exact (hsok 0 hi).1
      | succ i ih =>
        intro hi
        have h1 := ih (by omega)
        have h2 := (hsok (i + 1) hi).2.2 (by omega)
        rw [Nat.add_sub_cancel] at h2
        omega
    by_cases hz : B.start.length = 0
    · omega
    · have h1 := hge (B.start.length - 1) (by omega)
      have h2 := (hsok (B.start.length - 1) (by omega)).2.1
      omega
  refine qc_loop (fun m e s => ∃ (i : Nat) (av : LV), m = B.start.length - i ∧ i ≤ B.start.length ∧ SkC s av 2 (pcells ((B.start.take i).map fun q => (0, q.toNat))) i ∧ e.at 8 = sv ∧ e.at 9 = .int .i64 (B.start.length : Int) ∧ e.at 10 = .int .i64 (i : Int) ∧ e.at 3 = av) _
    ⟨0, .nils, rfl, by omega, SkC.nil _ _, ef, ef, by simp only [lk, sv1, sv2, sv3, Nat.reduceEqDiff, Nat.reduceAdd, Nat.reduceLeDiff, reduceIte, if_false, if_true, mkVal, unLV, List.map, optTmps]; rfl, ef⟩ ?_
  clear e0
  clear e
  rintro m e s ⟨i, av, rfl, hi, hS, e8, e9, e10, e3⟩
  by_cases hil : i < B.start.length
  · have hiI : (i : Int) < (B.start.length : Int) := by omega
    have hw : IntKind.i64.wrap ((i : Int) + 1) = ((i + 1 : Nat) : Int) := by rw [wrap_i64 _ (by omega) (by omega)]; rfl
    have hq0 := (hsok i hil).1
    have hg : B.start[i]? = some (B.start.getD i 0) := by simp [List.getD_eq_getElem?_getD, hil]
    repeat' (first | refine gA (And.intro (@iaN _ _ _ hst.sl) @ints_get) ?_ | (refine gB (And.intro (@iaN _ _ _ hst.sl) @ints_get) ?_; intro bb hbb; cases bb <;> (try simp only [hbs, if_false, reduceCtorEq] at hbb)) | fail)
    · exfalso; omega
    have hqn : B.start.getD i 0 = ((B.start.getD i 0).toNat : Int) := by omega
    refine q_run0 (v := .agg (pcell (0, (B.start.getD i 0).toNat))) (s' := s) (by simp only [LOp.run, lk, sv1, sv2, sv3, Nat.reduceEqDiff, Nat.reduceAdd, Nat.reduceLeDiff, reduceIte, if_false, if_true, mkVal, unLV, List.map, optTmps, evParts, fillParts, pcell, ← hqn]; rfl) ?_
    refine q_appC (n := i) (esz := 2) (xv := .agg (pcell (0, (B.start.getD i 0).toNat))) (yv := av) (vs := pcell (0, (B.start.getD i 0).toNat)) ef rfl rfl rfl rfl ef hS (by decide) (by omega) (fun s2 j2 a1 a2 a3 a4 => ?_)
    repeat' (first | refine gA trivial ?_ | (refine gB trivial ?_; intro bb hbb; cases bb <;> (try simp only [hbs, if_false, reduceCtorEq] at hbb)) | fail)
    refine ⟨B.start.length - (i + 1), by omega, i + 1, .sref j2 0 (i + 1) 2, rfl, by omega, ?_, ef, ef, ef, ef⟩
    rw [take_snoc hg, List.map_append, pcells_append]
    exact a2
  · have hi' : i = B.start.length := by omega
    subst hi'
    rw [List.take_length] at hS
    repeat' (first | refine gA trivial ?_ | (refine gB trivial ?_; intro bb hbb; cases bb <;> (try simp only [hbs, if_false, reduceCtorEq] at hbb)) | fail)
    · obtain ⟨r, s', h1, h2, h3⟩ := skc_frz hS (pcells_closed _)
      exact ⟨.inr trivial, r, s', by simp only [lk, sv1, sv2, sv3, Nat.reduceEqDiff, Nat.reduceAdd, Nat.reduceLeDiff, reduceIte, if_false, if_true, mkVal, unLV, List.map, optTmps, e3]; exact h1, h3, by simpa using h2, by simp; omega⟩
    · exfalso; omega
end Go.Proofs.YtohldpfjnllkdaaDoor
