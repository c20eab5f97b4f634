/- accept.newTrack. -/
import Derived.Test.YthcllhhldknkmaaGreatDoorGrow
import Derived.Test.YthcllhhldknkmaaGreatDoorWd
set_option linter.unusedSimpArgs false
set_option linter.unusedVariables false
section
set_option linter.unusedSimpArgs false
set_option linter.unusedVariables false
namespace Go.Proofs.YthcllhhldknkmaaGreatDoor
open Go Go.Pv Go.Aut
open Classical
set_option maxHeartbeats 4000000 in
theorem newTrack_ok {v : LV} {B : Bu} {sv nv st lo : LV} {sl ll : List Int} (hB : IsB v B sv nv) (hok : Vb B) (hS : IsInts st sl) (hL : IsInts lo ll) (hf : Fm sl ll) (ha : AllB sl B.L) (hb : AllB ll B.L) :
    PE 31 [v, .agg [st, lo]] (fun r => ∃ lv ls bk, IsTk r B ls bk sv nv lv ∧ (∀ i, ((tkOf B ls bk).word i : Int) = lett sl ll i) ∧ ∃ sl' ll', Nrm sl ll sl' ll' ∧ ls = (sl' ++ ll').map Int.toNat ∧ bk = sl'.length) := by
  have hvc := hB.closed
  have hcl : (LV.agg [st, lo]).closed = true := by simp [LV.closed, LV.closed.closedAll, hS.closed, hL.closed]
  have hc1 := hS.sl.cell
  have hc2 := hL.sl.cell
  obtain ⟨rfl, hst, hnx⟩ := hB
  obtain ⟨vs, hn⟩ := hnx
  have hc3 := hst.sl.cell
  have hc4 := hn.sl.cell
  refine q_fnExR Tryz.func31 (by decide +kernel) c31 (Nat.le_of_ble_eq_true rfl) (by simp [LV.closed.closedAll, hcl, hvc]) ?_
  have h0 : (envOf [.agg [.int .i64 B.L, sv, nv], LV.agg [st, lo]]).at 0 = .agg [.int .i64 B.L, sv, nv] := by rw [envOf_at]; rfl
  have h1 : (envOf [.agg [.int .i64 B.L, sv, nv], LV.agg [st, lo]]).at 1 = .agg [st, lo] := by rw [envOf_at]; rfl
  generalize envOf [.agg [.int .i64 B.L, sv, nv], LV.agg [st, lo]] = e at *
  unfold l31
  dsimp only
  repeat' (first | refine gA trivial ?_ | (refine gB trivial ?_; intro bb hbb; cases bb <;> (try simp only [hbs, if_false, reduceCtorEq] at hbb)) | fail)
  refine q_pureEx hG0 (wnormal_ok hS hL hf) wN (by simp only [List.map, lk, sv1, sv2, sv3, Nat.reduceEqDiff, Nat.reduceAdd, Nat.reduceLeDiff, reduceIte, if_false, if_true, mkVal, unLV, List.map, optTmps, h1]) (fun r hr hrc => ⟨trivial, ?_⟩)
  obtain ⟨st', lo', sl', ll', rfl, hS', hL', g1, g2, g3, g4, g5, g6, g7⟩ := hr
  have hca := hS'.sl.cell
  have hcb := hL'.sl.cell
  simp only [Env.put_some]
  repeat' (first | refine gA trivial ?_ | (refine gB trivial ?_; intro bb hbb; cases bb <;> (try simp only [hbs, if_false, reduceCtorEq] at hbb)) | fail)
  refine q_gen (v := .sref 2 0 2 1) (s' := St.new (((St.empty.new (Blk.cells Md.mut [LV.int IntKind.i64 0, LV.nils, LV.nils, LV.nils, LV.int IntKind.i64 0])).new (Blk.cells Md.mut [LV.nils, LV.nils])).put 1 (Blk.cells Md.mut [st', lo'])) (.cells .mut [st', lo'])) wN ?_ rfl ?_ ?_
  · simp only [LOp.run, lk, sv1, sv2, sv3, Nat.reduceEqDiff, Nat.reduceAdd, Nat.reduceLeDiff, reduceIte, if_false, if_true, mkVal, unLV, List.map, optTmps, evParts, fillParts, rep]
    have hq : cells? st' = some [st'] := cells_cell hca
    have hr : cells? lo' = some [lo'] := cells_cell hcb
    simp [hq, hr, splice, n_empty]
  · simp only [Chks, wantedG, LOp.run, lk, sv1, sv2, sv3, Nat.reduceEqDiff, Nat.reduceAdd, Nat.reduceLeDiff, reduceIte, if_false, if_true, mkVal, unLV, List.map, optTmps, Env.put_some]
    simp [St.get_new, St.get_put, n_empty]
  simp only [Env.put_some]
  repeat' (first | refine gA @hS'.sl.len ?_ | (refine gB @hS'.sl.len ?_; intro bb hbb; cases bb <;> (try simp only [hbs, if_false, reduceCtorEq] at hbb)) | fail)
  have hcc : LV.closed.closedAll [st', lo'] = true := by simpa [LV.closed] using hrc
  have hlen : sl'.length + ll'.length ≤ 100 := by
    obtain ⟨f1, f2, f3, _⟩ := hf
    omega
  have hN : IsRows (.simm [st', lo'] 2) [sl', ll'] [st', lo'] := ⟨.simm _ _, rfl, Nat.le_of_ble_eq_true rfl, fun i hi => by
    match i, hi with
    | 0, _ => exact hS'
    | 1, _ => exact hL'⟩
  generalize hs0 : ((((St.empty.new (Blk.cells Md.mut [LV.int IntKind.i64 0, LV.nils, LV.nils, LV.nils, LV.int IntKind.i64 0])).new (Blk.cells Md.mut [LV.nils, LV.nils])).put 1 (Blk.cells Md.mut [st', lo'])).new (Blk.cells Md.mut [st', lo'])) = s0
  have k0 : s0.get 0 = some (.cells .mut [LV.int IntKind.i64 0, LV.nils, LV.nils, LV.nils, LV.int IntKind.i64 0]) := by rw [← hs0]; simp [St.get_new, St.get_put, n_empty]
  have k1 : s0.get 1 = some (.cells .mut [st', lo']) := by rw [← hs0]; simp [St.get_new, St.get_put, n_empty]
  have k2 : s0.get 2 = some (.cells .mut [st', lo']) := by rw [← hs0]; simp [St.get_new, St.get_put, n_empty]
  clear hs0
  have hz := frz_sref (len := 2) k2 rfl hcc
  have hfz : frz.frzAll (frz frzDepth) [.sref 2 0 2 1] s0 = some ([.simm [st', lo'] 2], s0.put 2 (.cells .app [st', lo'])) := by simp [frz.frzAll, hz]
  refine q_call wN rfl (by simp only [List.map, lk, sv1, sv2, sv3, Nat.reduceEqDiff, Nat.reduceAdd, Nat.reduceLeDiff, reduceIte, if_false, if_true, mkVal, unLV, List.map, optTmps]) (call_frz hfz (pure_callEx hG0 (concat_ok hN (by simp; omega) (by simp)) fun r hr hrc2 => ⟨?_, ?_⟩))
  · simp only [Chks, wantedG, LOp.run, lk, sv1, sv2, sv3, Nat.reduceEqDiff, Nat.reduceAdd, Nat.reduceLeDiff, reduceIte, if_false, if_true, mkVal, unLV, List.map, optTmps, Env.put_some]
    simp [St.get_put, k1]
  have q0 : (s0.put 2 (.cells .app [st', lo'])).get 0 = some (.cells .mut [LV.int IntKind.i64 0, LV.nils, LV.nils, LV.nils, LV.int IntKind.i64 0]) := by simp [St.get_put, k0]
  generalize s0.put 2 (.cells .app [st', lo']) = s1 at *
  have hrcl := hr.sl.cell
  simp only [Env.put_some]
  repeat' (first | refine gA (And.intro @hS'.sl.len @q0) ?_ | (refine gB (And.intro @hS'.sl.len @q0) ?_; intro bb hbb; cases bb <;> (try simp only [hbs, if_false, reduceCtorEq] at hbb)) | fail)
  refine q_gen (v := .agg [.int .i64 B.L, sv, nv, r, .int .i64 (sl'.length : Int)]) (s' := s1) wN ?_ rfl trivial ?_
  · simp only [LOp.run, lk, sv1, sv2, sv3, Nat.reduceEqDiff, Nat.reduceAdd, Nat.reduceLeDiff, reduceIte, if_false, if_true, mkVal, unLV, List.map, optTmps, evParts, fillParts]
    have hA : cells? (LV.agg [LV.int .i64 B.L, sv, nv]) = some [LV.int .i64 B.L, sv, nv] := by simp [cells?, hc3, hc4, isC_int]
    have hI : ∀ z : Int, cells? (LV.int .i64 z) = some [LV.int .i64 z] := fun _ => rfl
    have hR := cells_cell hrcl
    simp [hA, hI, hR, splice, hc3, hc4, isC_int]
  simp only [Env.put_some]
  refine q_storeG (i := 0) (o := 0) (n := 5) (cs := [LV.int IntKind.i64 0, LV.nils, LV.nils, LV.nils, LV.int IntKind.i64 0]) (vs := [.int .i64 B.L, sv, nv, r, .int .i64 (sl'.length : Int)]) (cs' := [.int .i64 B.L, sv, nv, r, .int .i64 (sl'.length : Int)]) (v := .agg [.int .i64 B.L, sv, nv, r, .int .i64 (sl'.length : Int)]) ef ef (by simp [cells_agg, hc3, hc4, hrcl, isC_int]) q0 rfl (by simp) rfl ?_
  repeat' (first | refine gA trivial ?_ | (refine gB trivial ?_; intro bb hbb; cases bb <;> (try simp only [hbs, if_false, reduceCtorEq] at hbb)) | fail)
  have hcl2 : (LV.agg [.int .i64 B.L, sv, nv, r, .int .i64 (sl'.length : Int)]).closed = true := by
    have : (LV.agg [.int .i64 B.L, sv, nv]).closed = true := hvc
    simp [LV.closed, LV.closed.closedAll] at this ⊢
    exact ⟨this.1, this.2, hrc2⟩
  have hr' : IsInts r (sl' ++ ll') := by simpa using hr
  have hnn : ∀ x ∈ sl' ++ ll', 0 ≤ x ∧ x < B.L := fun x hx => by
    rcases List.mem_append.1 hx with hx | hx
    · obtain ⟨j, hj, rfl⟩ := List.mem_iff_getElem.1 (g4 x hx)
      have := ha j hj
      rwa [List.getD_eq_getElem?_getD, List.getElem?_eq_getElem hj] at this
    · obtain ⟨j, hj, rfl⟩ := List.mem_iff_getElem.1 (g5 x hx)
      have := hb j hj
      rwa [List.getD_eq_getElem?_getD, List.getElem?_eq_getElem hj] at this
  have hz2 : zints ((sl' ++ ll').map Int.toNat) = sl' ++ ll' := by
    unfold zints
    rw [List.map_map]
    conv => rhs; rw [← List.map_id (sl' ++ ll')]
    exact List.map_congr_left fun x hx => by have := (hnn x hx).1; simp; omega
  refine ⟨.inr trivial, .agg [.int .i64 B.L, sv, nv, r, .int .i64 (sl'.length : Int)], by simp [resVal, resOne, mkVal], _, _, frzD_closed hcl2, hcl2, r, (sl' ++ ll').map Int.toNat, sl'.length, ⟨rfl, hst, ⟨vs, hn⟩, by rw [hz2]; exact hr', hok, by simp; omega, by simp; omega, by simp; omega, fun i hi => ?_⟩, (fun i => by rw [word_lett g2 (fun x hx => (hnn x hx).1), g6]), sl', ll', g7, rfl, rfl⟩
  rw [List.length_map] at hi
  rw [List.getD_eq_getElem?_getD, List.getElem?_map, List.getElem?_eq_getElem hi]
  have := hnn _ (List.getElem_mem hi)
  simp only [Option.map_some, Option.getD_some]
  omega
end Go.Proofs.YthcllhhldknkmaaGreatDoor
end
section
set_option linter.unusedSimpArgs false
set_option linter.unusedVariables false
namespace Go.Proofs.YthcllhhldknkmaaGreatDoor
open Go Go.Pv Go.Aut Go.Bfs
open Classical
def AW (B : Bu) (S L : List Int) : Prop := Vb B ∧ (Fm S L ∧ AllB S B.L ∧ AllB L B.L) ∧ BAcc B fun i => (lett S L i).toNat
end Go.Proofs.YthcllhhldknkmaaGreatDoor
end
