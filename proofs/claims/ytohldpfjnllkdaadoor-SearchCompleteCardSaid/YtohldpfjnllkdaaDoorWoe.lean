/- The word package: Normal. -/
import Derived.Test.YtohldpfjnllkdaaDoorWod
set_option linter.unusedSimpArgs false
set_option linter.unusedVariables false
namespace Go.Proofs.YtohldpfjnllkdaaDoor
open Go Go.Pv
open Classical
set_option maxHeartbeats 4000000 in
theorem wnormal_ok {st lo : LV} {sl ll : List Int} (hS : IsInts st sl) (hL : IsInts lo ll) (hf : Fm sl ll) :
    PE 62 [.agg [st, lo]] (fun r => ∃ st' lo' sl' ll', r = .agg [st', lo'] ∧ IsInts st' sl' ∧ IsInts lo' ll' ∧ sl'.length ≤ sl.length ∧ 1 ≤ ll'.length ∧ ll'.length ≤ ll.length ∧ (∀ x ∈ sl', x ∈ sl) ∧ (∀ x ∈ ll', x ∈ ll) ∧ ∀ i, lett sl' ll' i = lett sl ll i) := by
  have hcl : (LV.agg [st, lo]).closed = true := by simp [LV.closed, LV.closed.closedAll, hS.closed, hL.closed]
  have hc1 := hS.sl.cell
  have hc2 := hL.sl.cell
  refine q_fnExR Tryd.func62 (by decide +kernel) c62 (Nat.le_of_ble_eq_true rfl) (by simp [LV.closed.closedAll, hcl]) ?_
  have h0 : (envOf [LV.agg [st, lo]]).at 0 = .agg [st, lo] := by rw [envOf_at]; rfl
  generalize envOf [LV.agg [st, lo]] = e at *
  unfold l62
  dsimp only
  repeat' (first | refine gA trivial ?_ | (refine gB trivial ?_; intro bb hbb; cases bb <;> (try simp only [hbs, if_false, reduceCtorEq] at hbb)) | fail)
  refine q_pureB hG0 (formed_ok hS hL) (by first | exact wN | (apply wG; (simp only [lk, Nat.reduceEqDiff, reduceIte, h0]; (try rfl); done))) (by simp only [List.map, lk, Nat.reduceEqDiff, reduceIte, h0]; try rfl) (fun bb hbb => ⟨by first | trivial | (simp only [Chks, wantedG, LOp.run, Env.put_some, Env.put_none, lk, sv1, sv2, sv3, Nat.reduceEqDiff, Nat.reduceAdd, Nat.reduceLeDiff, reduceIte, if_false, if_true, mkVal, unLV, List.map, optTmps, beq_self_eq_true, reduceCtorEq, false_or, true_and, and_true, Option.some.injEq, *]; done), ?_⟩)
  simp only [Env.put_some]
  cases bb <;> simp only [decide_eq_true_eq, decide_eq_false_iff_not] at hbb
  · exact absurd hf hbb
  repeat' (first | refine gA trivial ?_ | (refine gB trivial ?_; intro bb hbb; cases bb <;> (try simp only [hbs, if_false, reduceCtorEq] at hbb)) | fail)
  refine q_pureEx hG0 (normal_ok hS hL hf) wN ef (fun r hr hrc => ⟨trivial, ?_⟩)
  obtain ⟨st', lo', sl', ll', rfl, hS', hL', hrest⟩ := hr
  have hca := hS'.sl.cell
  have hcb := hL'.sl.cell
  simp only [Env.put_some]
  refine q_storeG (i := 0) (o := 0) (n := 2) (cs := [.nils, .nils]) (vs := [st', lo']) (cs' := [st', lo']) (v := .agg [st', lo']) ef ef (by simp [cells_agg, hca, hcb]) (by simp [n_empty]) rfl (by simp) rfl ?_
  repeat' (first | refine gA trivial ?_ | (refine gB trivial ?_; intro bb hbb; cases bb <;> (try simp only [hbs, if_false, reduceCtorEq] at hbb)) | fail)
  exact ⟨.inr trivial, .agg [st', lo'], by simp [resVal, resOne, mkVal], .agg [st', lo'], _, frzD_closed hrc, hrc, _, _, _, _, rfl, hS', hL', hrest⟩
def Has (s : St) (id : Nat) (cs : List LV) : Prop := ∃ m, s.get id = some (.cells m cs)
def Fld (s : St) (v : LV) (l : List Int) : Prop := IsInts v l ∨ ∃ a, v = .sref a 0 l.length 1 ∧ Has s a (ints l) ∧ IsInts (.simm (ints l) l.length) l
theorem Fld.mono {s s' : St} {v : LV} {l : List Int} (h : Fld s v l) (hs : ∀ id cs, Has s id cs → Has s' id cs) : Fld s' v l := by
  rcases h with h | ⟨a, h1, h2, h3⟩
  · exact .inl h
  · exact .inr ⟨a, h1, hs _ _ h2, h3⟩
theorem Fld.cell {s : St} {v : LV} {l : List Int} (h : Fld s v l) : isCell v = true := by
  rcases h with h | ⟨a, rfl, h2, h3⟩
  · exact h.sl.cell
  · rfl
theorem frz_fld {s : St} {v : LV} {l : List Int} (n : Nat) (h : Fld s v l) : ∃ v' s', frz (n + 2) v s = some (v', s') ∧ IsInts v' l ∧ s'.n = s.n ∧ ∀ id cs, Has s id cs → Has s' id cs := by
  rcases h with h | ⟨a, rfl, ⟨m, hm⟩, h3⟩
  · exact ⟨v, s, frz_closed h.closed, h, rfl, fun _ _ h => h⟩
  · refine ⟨_, s.put a (.cells (if m = .mut then .app else m) (ints l)), ?_, h3, rfl, fun id cs hh => ?_⟩
    · unfold frz
      simp only [LV.closed, Bool.false_eq_true, if_false, hm, Nat.zero_add, Nat.mul_one, ints_length, Nat.le_refl, if_true, frzAll_closed (ints_closed l), Option.bind_eq_bind, Option.bind_some, List.drop_zero]
      rw [List.take_of_length_le (by simp)]
    · by_cases he : id = a
      · subst he
        obtain ⟨m', hh⟩ := hh
        rw [hm] at hh
        cases hh
        exact ⟨_, by rw [St.get_put, if_pos rfl]⟩
      · obtain ⟨m', hh⟩ := hh
        exact ⟨m', by rw [St.get_put, if_neg he]; exact hh⟩
theorem frz_agg2 {s s1 s2 : St} {x y x' y' : LV} (n : Nat) (hx : frz n x s = some (x', s1)) (hy : frz n y s1 = some (y', s2)) : ∃ z s3, frz (n + 1) (.agg [x, y]) s = some (z, s3) ∧ (z = .agg [x, y] ∧ s3 = s ∧ (LV.agg [x, y]).closed = true ∨ z = .agg [x', y'] ∧ s3 = s2) := by
  by_cases hc : (LV.agg [x, y]).closed = true
  · exact ⟨_, _, frz_closed hc, .inl ⟨rfl, rfl, hc⟩⟩
  · have hc' : (LV.agg [x, y]).closed = false := by simpa using hc
    exact ⟨_, _, frz_agg n hc' (by simp [frz.frzAll, hx, hy]), .inr ⟨rfl, rfl⟩⟩
theorem IsInts.of_closed {s : St} {v : LV} {l : List Int} (h : Fld s v l) (hc : v.closed = true) : IsInts v l := by
  rcases h with h | ⟨a, rfl, _⟩
  · exact h
  · simp [LV.closed] at hc
theorem frz_lasso {s : St} {c x y : LV} {la lb : List Int} (hcc : c.closed = true) (hx : Fld s x la) (hy : Fld s y lb) :
    ∃ x' y' s', frz.frzAll (frz frzDepth) [c, .agg [x, y]] s = some ([c, .agg [x', y']], s') ∧ IsInts x' la ∧ IsInts y' lb ∧ s'.n = s.n ∧ ∀ id cs, Has s id cs → Has s' id cs := by
  obtain ⟨x', s1, h1, h2, h3, h4⟩ := frz_fld 37 hx
  obtain ⟨y', s2, k1, k2, k3, k4⟩ := frz_fld 37 (hy.mono h4)
  obtain ⟨z, s3, g1, g2⟩ := frz_agg2 39 h1 k1
  have hd : frzDepth = 39 + 1 := rfl
  rcases g2 with ⟨rfl, rfl, hc⟩ | ⟨rfl, rfl⟩
  · have hc' : x.closed = true ∧ y.closed = true := by simpa [LV.closed, LV.closed.closedAll] using hc
    exact ⟨x, y, s3, by simp [frz.frzAll, hd, frz_closed hcc, g1], IsInts.of_closed hx hc'.1, IsInts.of_closed hy hc'.2, rfl, fun _ _ h => h⟩
  · exact ⟨x', y', s3, by simp [frz.frzAll, hd, frz_closed hcc, g1], h2, k2, by rw [k3, h3], fun id cs h => k4 id cs (h4 id cs h)⟩
theorem q_pureF {P : Program} {G : Globs} {K : Env → St → Prop} {l : List LOper} {e : Env} {s s' : St} {g : Option (Nat × Bool)} {fl : Bool} (hG : ∀ x ∈ G, LV.closed.closedAll x.2 = true) {dst : Option Nat} {chk : List (Nat × Option (Nat × Bool) × LOp)} {ops : List Opd} {vs vs' : List LV} {fv r : LV}
    (hp : PureOk P G fv vs' r) (hg : wantedG g e = some true) (ha : ops.map (·.ev e) = vs) (hfz : frz.frzAll (frz frzDepth) vs s = some (vs', s'))
    (hc : Chks chk (e.put dst r) s') (h : W P G K l (e.put dst r) s') : W P G K (⟨dst, .call (.c fv) ops, g, chk, fl⟩ :: l) e s :=
  q_call hg rfl ha (call_frz hfz (pure_call hG hp ⟨hc, h⟩))
theorem row_ints {v : LV} {l : List Int} (hv : IsInts v l) : lenLV v = some l.length ∧ ∀ s, rowOf s 1 l.length v = some (ints l) := by
  have hsl := hv.sl
  clear hv
  generalize hc : ints l = cs at hsl
  generalize hn : l.length = n at hsl
  cases hsl with
  | nil => exact ⟨rfl, fun _ => rfl⟩
  | zs => exact ⟨rfl, fun _ => rfl⟩
  | simm => exact ⟨rfl, fun _ => rowOf_simm (by rw [← hc]; simpa using hn)⟩
end Go.Proofs.YtohldpfjnllkdaaDoor
