/- Concat of numbers. -/
import Derived.Test.YtohldpfjnllkdaaDoorGrow
set_option linter.unusedSimpArgs false
set_option linter.unusedVariables false
namespace Go.Proofs.YtohldpfjnllkdaaDoor
open Go Go.Pv
open Classical
def Ap (s : St) (x : LV) (l : List Int) : Prop := (x = .nils ∧ l = []) ∨ ∃ j cs, x = .sref j 0 l.length 1 ∧ s.get j = some (.cells .mut cs) ∧ LV.closed.closedAll cs = true ∧ l.length ≤ cs.length ∧ cs.take l.length = ints l
theorem ints_append2 (l r : List Int) : ints (l ++ r) = ints l ++ ints r := by simp [ints]
theorem Ap.of_gr {s s' : St} {r : LV} (h : Gr s r s') : Ap s' r [] := by
  rcases h with ⟨rfl, _⟩ | ⟨cs, rfl, rfl, hc⟩
  · exact .inl ⟨rfl, rfl⟩
  · exact .inr ⟨s.n, cs, rfl, by simp, hc, by simp, by simp [ints]⟩
theorem Ap.app {s : St} {x : LV} {l r : List Int} (h : Ap s x l) (hb : (l ++ r).length ≤ 1000) : ∃ y s', appendLV 1 8 x (ints r) r.length s = some (y, s') ∧ Ap s' y (l ++ r) := by
  have hlen : (l ++ r).length = l.length + r.length := by simp
  have hbig : (l.length + r.length) * 8 ≤ big := by unfold big; omega
  rcases h with ⟨rfl, rfl⟩ | ⟨j, cs, rfl, hs, hc, hl, ht⟩
  · by_cases h0 : r.length = 0
    · have : r = [] := List.eq_nil_of_length_eq_zero h0
      subst this
      exact ⟨.nils, s, by simp [appendLV], .inl ⟨rfl, rfl⟩⟩
    · have hb2 : r.length * 8 ≤ big := by
        rw [List.nil_append] at hb
        unfold big; omega
      exact ⟨.sref s.n 0 r.length 1, s.new (.cells .mut (ints r)), by simp [appendLV, h0, hb2], .inr ⟨s.n, ints r, by simp, by simp, ints_closed r, by simp, by simp [List.take_of_length_le]⟩⟩
  · refine ⟨.sref s.n 0 (l.length + r.length) 1, ⟨s.n + 1, (s.h.set j (.cells .ro [])).set s.n (.cells .mut (ints l ++ ints r))⟩, ?_, .inr ⟨s.n, ints l ++ ints r, by simp, ?_, ?_, by simp, ?_⟩⟩
    · simp only [appendLV, if_true, hs, Nat.zero_add, Nat.mul_one, List.drop_zero, ht]
      rw [if_pos ⟨hl, hbig, by simp⟩]
    · show St.get _ _ = _
      simp [St.get]
    · rw [← ints_append2]; exact ints_closed _
    · rw [← ints_append2, List.take_of_length_le (by simp)]
theorem Ap.frz {s : St} {x : LV} {l : List Int} (h : Ap s x l) (hb : l.length ≤ 1000) (hr : ∀ z ∈ l, inI64 z) : ∃ r s', Pv.frz frzDepth x s = some (r, s') ∧ r.closed = true ∧ IsInts r l := by
  rcases h with ⟨rfl, rfl⟩ | ⟨j, cs, rfl, hs, hc, hl, ht⟩
  · exact ⟨.nils, s, frzD_closed rfl, rfl, .nil, by simp, by simp⟩
  · have h2 : Pv.frz frzDepth (.sref j 0 l.length 1) s = Pv.frz (38 + 1 + 1) (.sref j 0 l.length 1) s := rfl
    refine ⟨.simm (ints l) l.length, s.put j (.cells .app cs), ?_, by simp [LV.closed, ints_closed], .simm _ _, Nat.le_trans hb (by decide), hr⟩
    rw [h2]
    unfold Pv.frz
    simp [LV.closed, hs, frzAll_closed hc, hl, ht]
theorem flat_take {N : List (List Int)} {i : Nat} (hi : i < N.length) : (N.take (i + 1)).flatten = (N.take i).flatten ++ N.getD i [] := by
  rw [List.take_add_one, List.flatten_append, List.getD_eq_getElem?_getD, List.getElem?_eq_getElem hi]
  simp
theorem flat_len (N : List (List Int)) (i : Nat) : (N.take i).flatten.length ≤ N.flatten.length := by
  have h : N.flatten = (N.take i).flatten ++ (N.drop i).flatten := by rw [← List.flatten_append, List.take_append_drop]
  rw [h, List.length_append]
  omega
set_option maxHeartbeats 4000000 in
theorem concat_ok {v : LV} {N : List (List Int)} {vs : List LV} (hv : IsRows v N vs) (hb : N.flatten.length ≤ 1000) (hn : N.length ≤ 1000) : PE 63 [v] (fun r => IsInts r N.flatten) := by
  have hc1 := hv.sl.cell
  have hsl := hv.sl.len
  have hrng : ∀ z ∈ N.flatten, inI64 z := fun z hz => by
    obtain ⟨r, hr, hz⟩ := List.mem_flatten.1 hz
    obtain ⟨i, hi, rfl⟩ := List.mem_iff_getElem.1 hr
    have := (hv.row i hi).rng
    rw [List.getD_eq_getElem?_getD, List.getElem?_eq_getElem hi] at this
    exact this z hz
  refine q_fnEx (t := 2) hm Tryd.func63 (by decide +kernel) c63 (Nat.le_of_ble_eq_true rfl) (by simp [LV.closed.closedAll, hv.closed]) rfl ?_
  have e0 : (envOf [v]).at 0 = v := by rw [envOf_at]; rfl
  generalize envOf [v] = e at *
  unfold l63
  dsimp only
  repeat' (first | refine gA @hsl ?_ | (refine gB @hsl ?_; intro bb hbb; cases bb <;> (try simp only [hbs, if_false, reduceCtorEq] at hbb)) | fail)
  refine qc_loop (fun m e s => s = St.empty ∧ ∃ i : Nat, m = N.length - i ∧ i ≤ N.length ∧ e.at 0 = v ∧ e.at 9 = v ∧ e.at 10 = .int .i64 (N.length : Int) ∧ e.at 11 = .int .i64 (i : Int) ∧ e.at 3 = .int .i64 ((N.take i).flatten.length : Int)) _
    ⟨rfl, 0, rfl, by omega, ef, ef, ef, by simp only [lk, sv1, sv2, sv3, Nat.reduceEqDiff, Nat.reduceAdd, Nat.reduceLeDiff, reduceIte, if_false, if_true, mkVal, unLV, List.map, optTmps]; rfl, by simp only [lk, sv1, sv2, sv3, Nat.reduceEqDiff, Nat.reduceAdd, Nat.reduceLeDiff, reduceIte, if_false, if_true, mkVal, unLV, List.map, optTmps]; rfl⟩ ?_
  clear e0
  clear e
  rintro m e s ⟨rfl, i, rfl, hi, e0, e9, e10, e11, e3⟩
  by_cases hil : i < N.length
  · have hiI : (i : Int) < (N.length : Int) := by omega
    have hw : IntKind.i64.wrap ((i : Int) + 1) = ((i + 1 : Nat) : Int) := by rw [wrap_i64 _ (by omega) (by omega)]; rfl
    have hg := hv.get hil
    have hrl := (hv.row i hil).sl.len
    have hrc := (hv.row i hil).sl.cell
    have hf1 := flat_take hil
    have hf2 := flat_len N (i + 1)
    have hlen : (N.take (i + 1)).flatten.length = (N.take i).flatten.length + (N.getD i []).length := by rw [hf1, List.length_append]
    have hw2 : IntKind.i64.wrap (((N.take i).flatten.length : Int) + ((N.getD i []).length : Int)) = ((N.take (i + 1)).flatten.length : Int) := by rw [wrap_i64 _ (by omega) (by omega), hlen]; rfl
    clear hf1 hlen
    repeat' (first | refine gA (@iaN _ _ _ hv.sl) ?_ | (refine gB (@iaN _ _ _ hv.sl) ?_; intro bb hbb; cases bb <;> (try simp only [hbs, if_false, reduceCtorEq] at hbb)) | fail)
    · exfalso; omega
    · exact ⟨N.length - (i + 1), by omega, trivial, i + 1, rfl, by omega, ef, ef, ef, ef, ef⟩
    · exfalso; rw [hw2] at hbb; omega
  · have hi' : i = N.length := by omega
    subst hi'
    rw [List.take_length] at e3
    repeat' (first | refine gA trivial ?_ | (refine gB trivial ?_; intro bb hbb; cases bb <;> (try simp only [hbs, if_false, reduceCtorEq] at hbb)) | fail)
    rotate_left
    · exfalso; omega
    refine q_call wN (fv := .fn (.func 78) [] []) (vs := [.nils, .int .i64 (N.flatten.length : Int)]) ef (by simp only [List.map, lk, sv1, sv2, sv3, Nat.reduceEqDiff, Nat.reduceAdd, Nat.reduceLeDiff, reduceIte, if_false, if_true, mkVal, unLV, List.map, optTmps, e3]) (CallOk.mono (grow_c hb) fun r s1 hr => ⟨trivial, ?_⟩)
    have hA := Ap.of_gr hr
    clear hr
    simp only [Env.put_some]
    repeat' (first | refine gA @hsl ?_ | (refine gB @hsl ?_; intro bb hbb; cases bb <;> (try simp only [hbs, if_false, reduceCtorEq] at hbb)) | fail)
    refine qc_loop (fun m e s => ∃ (i : Nat) (x : LV), m = N.length - i ∧ i ≤ N.length ∧ Ap s x (N.take i).flatten ∧ e.at 25 = v ∧ e.at 26 = .int .i64 (N.length : Int) ∧ e.at 27 = .int .i64 (i : Int) ∧ e.at 6 = x) _
      ⟨0, r, rfl, by omega, by simpa using hA, ef, ef, by simp only [lk, sv1, sv2, sv3, Nat.reduceEqDiff, Nat.reduceAdd, Nat.reduceLeDiff, reduceIte, if_false, if_true, mkVal, unLV, List.map, optTmps]; rfl, ef⟩ ?_
    clear e0 e9 e10 e11 e3 hA hi hil
    clear e
    rintro m e s ⟨i, x, rfl, hi, hA, e25, e26, e27, e6⟩
    by_cases hil : i < N.length
    · have hiI : (i : Int) < (N.length : Int) := by omega
      have hw : IntKind.i64.wrap ((i : Int) + 1) = ((i + 1 : Nat) : Int) := by rw [wrap_i64 _ (by omega) (by omega)]; rfl
      have hg := hv.get hil
      have hri := row_ints (hv.row i hil)
      have hrc := (hv.row i hil).sl.cell
      have hf2 := flat_len N (i + 1)
      have hft : frzTry (ints (N.getD i [])) s = (ints (N.getD i []), s) := by
        unfold frzTry
        rw [show frzDepth = 39 + 1 from rfl, frzAll_closed (ints_closed _)]
      obtain ⟨y, s2, ha, hA2⟩ := hA.app (r := N.getD i []) (by rw [← flat_take hil]; omega)
      rw [← flat_take hil] at hA2
      repeat' (first | refine gA (@iaN _ _ _ hv.sl) ?_ | (refine gB (@iaN _ _ _ hv.sl) ?_; intro bb hbb; cases bb <;> (try simp only [hbs, if_false, reduceCtorEq] at hbb)) | fail)
      · exfalso; omega
      refine q_append wN (xv := x) (yv := vs.getD i .top) ef ef hri.1 (hri.2 _) hft ha ?_
      clear hft ha hri hA
      repeat' (first | refine gA trivial ?_ | (refine gB trivial ?_; intro bb hbb; cases bb <;> (try simp only [hbs, if_false, reduceCtorEq] at hbb)) | fail)
      exact ⟨N.length - (i + 1), by omega, i + 1, y, rfl, by omega, hA2, ef, ef, ef, ef⟩
    · have hi' : i = N.length := by omega
      subst hi'
      rw [List.take_length] at hA
      repeat' (first | refine gA trivial ?_ | (refine gB trivial ?_; intro bb hbb; cases bb <;> (try simp only [hbs, if_false, reduceCtorEq] at hbb)) | fail)
      · refine ⟨.inr trivial, ?_⟩
        simp only [lk, sv1, sv2, sv3, Nat.reduceEqDiff, Nat.reduceAdd, Nat.reduceLeDiff, reduceIte, if_false, if_true, mkVal, unLV, List.map, optTmps, e6]
        exact hA.frz hb hrng
      · exfalso; omega
end Go.Proofs.YtohldpfjnllkdaaDoor
