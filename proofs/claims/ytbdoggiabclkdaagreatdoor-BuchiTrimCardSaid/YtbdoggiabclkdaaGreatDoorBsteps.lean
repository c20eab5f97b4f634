/- Runs through a finite word: steps. -/
import Derived.Test.YtbdoggiabclkdaaGreatDoorTiter
import Derived.Test.YtbdoggiabclkdaaGreatDoorTauto
import Derived.Test.YtbdoggiabclkdaaGreatDoorBsame
set_option linter.unusedSimpArgs false
set_option linter.unusedVariables false
section
set_option linter.unusedSimpArgs false
set_option linter.unusedVariables false
namespace Go.Proofs.YtbdoggiabclkdaaGreatDoor
open Go Go.Pv
open Classical
def Stp (B : Bu) (f : Nat → Bool) (x q : Nat) : Prop := ∃ p m, p < B.next.length ∧ f p = true ∧ m ∈ rowM B p x ∧ m.1.toNat = q
def SV (B : Bu) (f : Nat → Bool) (x i k q : Nat) : Prop := ∃ p j m, (p < i ∨ p = i ∧ j < k) ∧ f p = true ∧ (rowM B p x)[j]? = some m ∧ m.1.toNat = q
theorem SV.init (B : Bu) (f : Nat → Bool) (x q : Nat) : ¬ SV B f x 0 0 q := by
  rintro ⟨p, j, m, h, _⟩
  omega
theorem SV.move {B : Bu} {f : Nat → Bool} {x i k q : Nat} {m : Int × Bool} (hf : f i = true) (hm : (rowM B i x)[k]? = some m) : SV B f x i (k + 1) q ↔ SV B f x i k q ∨ m.1.toNat = q := by
  constructor
  · rintro ⟨p, j, m', h, h1, h2, h3⟩
    by_cases he : p = i ∧ j = k
    · obtain ⟨rfl, rfl⟩ := he
      rw [hm] at h2
      cases h2
      exact .inr h3
    · exact .inl ⟨p, j, m', by omega, h1, h2, h3⟩
  · rintro (⟨p, j, m', h, h1, h2, h3⟩ | h)
    · exact ⟨p, j, m', by omega, h1, h2, h3⟩
    · exact ⟨i, k, m, .inr ⟨rfl, by omega⟩, hf, hm, h⟩
theorem SV.state {B : Bu} {f : Nat → Bool} {x i k q : Nat} (hk : f i = true → k = (rowM B i x).length) : SV B f x (i + 1) 0 q ↔ SV B f x i k q := by
  constructor
  · rintro ⟨p, j, m, h, h1, h2, h3⟩
    by_cases he : p = i
    · subst he
      have := (List.getElem?_eq_some_iff.1 h2).1
      have := hk h1
      exact ⟨p, j, m, .inr ⟨rfl, by omega⟩, h1, h2, h3⟩
    · exact ⟨p, j, m, by omega, h1, h2, h3⟩
  · rintro ⟨p, j, m, h, h1, h2, h3⟩
    exact ⟨p, j, m, by omega, h1, h2, h3⟩
theorem SV.fin {B : Bu} {f : Nat → Bool} {x q : Nat} : SV B f x B.next.length 0 q ↔ Stp B f x q := by
  constructor
  · rintro ⟨p, j, m, h, h1, h2, h3⟩
    exact ⟨p, m, by omega, h1, List.mem_of_getElem? h2, h3⟩
  · rintro ⟨p, m, h, h1, h2, h3⟩
    obtain ⟨j, hj⟩ := List.mem_iff_getElem?.1 h2
    exact ⟨p, j, m, .inl h, h1, hj, h3⟩
set_option maxHeartbeats 8000000 in
theorem steps_ok {v : LV} {B : Bu} {sv nv : LV} (hB : IsB v B sv nv) (hok : Vb B) (f : Nat → Bool) {x : Nat} (hx : (x : Int) < B.L) :
    PE 35 [v, .simm (bcells B.next.length f) B.next.length, .int .i64 (x : Int)] (fun r => ∃ g, r = .simm (bcells B.next.length g) B.next.length ∧ ∀ q, g q = true ↔ Stp B f x q) := by
  have hvc := hB.closed
  obtain ⟨rfl, hst, vs, hn⟩ := hB
  have hc1 := hst.sl.cell
  have hc2 := hn.sl.cell
  have hnl := hn.sl.len
  have hn3 := hok.2.2.1
  have hL1 := hok.1
  have hL2 := hok.2.1
  have hfin := fun q => SV.fin (B := B) (f := f) (x := x) (q := q)
  obtain ⟨n, hnn⟩ : ∃ n, B.next.length = n := ⟨_, rfl⟩
  have hfr := (Sl.simm (bcells n f) n)
  rw [hnn] at hnl hn3 hfin ⊢
  refine q_fnEx (t := 6) hm Tryz.func35 (by decide +kernel) c35 (Nat.le_of_ble_eq_true rfl) (by rw [LV.closed.closedAll, hvc]; simp [LV.closed, LV.closed.closedAll, bcells_closed]) rfl ?_
  have e0 : (envOf [LV.agg [.int .i64 B.L, sv, nv], .simm (bcells n f) n, .int .i64 (x : Int)]).at 0 = .agg [.int .i64 B.L, sv, nv] := by rw [envOf_at]; rfl
  have e1 : (envOf [LV.agg [.int .i64 B.L, sv, nv], .simm (bcells n f) n, .int .i64 (x : Int)]).at 1 = .simm (bcells n f) n := by rw [envOf_at]; rfl
  have e2 : (envOf [LV.agg [.int .i64 B.L, sv, nv], .simm (bcells n f) n, .int .i64 (x : Int)]).at 2 = .int .i64 (x : Int) := by rw [envOf_at]; rfl
  generalize envOf [LV.agg [.int .i64 B.L, sv, nv], .simm (bcells n f) n, .int .i64 (x : Int)] = e at *
  unfold l35
  dsimp only
  repeat' (first | refine gA @hnl ?_ | (refine gB @hnl ?_; intro bb hbb; cases bb <;> (try simp only [hbs, if_false, reduceCtorEq] at hbb)) | apply qc_seq | fail)
  refine u_mkB (n := n) wN rfl ef ef (by omega) ?_
  repeat' (first | refine gA trivial ?_ | (refine gB trivial ?_; intro bb hbb; cases bb <;> (try simp only [hbs, if_false, reduceCtorEq] at hbb)) | apply qc_seq | fail)
  refine qc_loop (fun m e s => ∃ (i : Nat) (g : Nat → Bool), m = n - i ∧ i ≤ n ∧ s.get 0 = some (.cells .mut (bcells n g)) ∧ (∀ q, g q = true ↔ SV B f x i 0 q) ∧ e.at 1 = .simm (bcells n f) n ∧ e.at 2 = .int .i64 (x : Int) ∧ e.at 3 = .pimm [.int .i64 B.L, sv, nv] 0 ∧ e.at 7 = .sref 0 0 n 1 ∧ e.at 8 = .int .i64 (i : Int)) _
    ⟨0, fun _ => false, rfl, by omega, by simp only [St.get_new, n_empty, if_true], fun q => ⟨fun h => (by cases h), fun h => absurd h (SV.init B f x q)⟩, ef, ef, ef, ef, by simp only [lk, sv1, sv2, sv3, Nat.reduceEqDiff, Nat.reduceAdd, Nat.reduceLeDiff, reduceIte, if_false, if_true, mkVal, unLV, List.map, optTmps]; rfl⟩ ?_
  clear e0 e1 e2
  clear e
  rintro m e s ⟨i, g, rfl, hi, g0, hg, e1, e2, e3, e7, e8⟩
  by_cases hil : i < n
  · have hiI : (i : Int) < (n : Int) := by omega
    have hwi : IntKind.i64.wrap ((i : Int) + 1) = ((i + 1 : Nat) : Int) := by rw [wrap_i64 _ (by omega) (by omega)]; rfl
    have g1 : vs[i]? = some (vs.getD i .top) := hn.get (by omega)
    obtain ⟨ws, hr⟩ := hn.row i (by omega)
    have hmv0 := (hok.2.2.2.2 i (by omega)).2
    have hLI : B.L = ((B.next.getD i []).length : Int) := ((hok.2.2.2.2 i (by omega)).1).symm
    have hrl := hr.sl.len
    have hrw : rowM B i x = (B.next.getD i []).getD x [] := rfl
    have hfi : (bcells n f)[i]? = some (.bool (f i)) := bcells_get hil
    have hiaf : ∀ s, iaLV 1 (.simm (bcells n f) n) (.int .i64 (i : Int)) s = some (.pimm (bcells n f) i, s) := fun s => by
      have := iaN (esz := 1) (k := .i64) (s := s) (i := i) hfr hiI
      simpa using this
    have hiav : ∀ s, iaLV 1 nv (.int .i64 (i : Int)) s = some (.pimm vs i, s) := fun s => by
      have := iaN (esz := 1) (k := .i64) (s := s) (i := i) hn.sl (by omega)
      simpa using this
    generalize hrow : B.next.getD i [] = row at *
    generalize hrv : vs.getD i .top = rv at *
    have hxr : x < row.length := by omega
    have hxI : (x : Int) < (row.length : Int) := by omega
    have g2 : ws[x]? = some (ws.getD x .top) := hr.get hxr
    have hm' := hr.row x hxr
    have hmo := hmv0 x hxr
    rw [hnn] at hmo
    have hiax : ∀ s, iaLV 1 rv (.int .i64 (x : Int)) s = some (.pimm ws x, s) := fun s => by
      have := iaN (esz := 1) (k := .i64) (s := s) (i := x) hr.sl (by omega)
      simpa using this
    generalize hms : row.getD x [] = ms at *
    generalize hmv : ws.getD x .top = mv at *
    have hml := hm'.sl.len
    repeat' (first | refine gA @hnl ?_ | (refine gB @hnl ?_; intro bb hbb; cases bb <;> (try simp only [hbs, if_false, reduceCtorEq] at hbb)) | apply qc_seq | fail)
    any_goals (exfalso; omega)
    refine qc_loop (fun m e s => ∃ (k : Nat) (g : Nat → Bool), m = ms.length - k ∧ k ≤ ms.length ∧ (f i = false → k = 0) ∧ s.get 0 = some (.cells .mut (bcells n g)) ∧ (∀ q, g q = true ↔ SV B f x i k q) ∧ e.at 1 = .simm (bcells n f) n ∧ e.at 2 = .int .i64 (x : Int) ∧ e.at 3 = .pimm [.int .i64 B.L, sv, nv] 0 ∧ e.at 7 = .sref 0 0 n 1 ∧ e.at 8 = .int .i64 (i : Int) ∧ e.at 9 = .int .i64 (k : Int)) _
      ⟨0, g, rfl, by omega, fun _ => rfl, g0, hg, ef, ef, ef, ef, ef, by simp only [lk, sv1, sv2, sv3, Nat.reduceEqDiff, Nat.reduceAdd, Nat.reduceLeDiff, reduceIte, if_false, if_true, mkVal, unLV, List.map, optTmps]; rfl⟩ ?_
    clear e1 e2 e3 e7 e8 g0 hg hbb
    clear e s g
    rintro m e s ⟨k, g, rfl, hk, hk0, g0, hg, e1, e2, e3, e7, e8, e9⟩
    have out : ∀ (hkk : f i = true → k = ms.length) (e' : Env) (s' : St), s'.get 0 = some (.cells .mut (bcells n g)) → (e'.at 1 = .simm (bcells n f) n ∧ e'.at 2 = .int .i64 (x : Int) ∧ e'.at 3 = .pimm [.int .i64 B.L, sv, nv] 0 ∧ e'.at 7 = .sref 0 0 n 1 ∧ e'.at 8 = .int .i64 ((i + 1 : Nat) : Int)) →
        ∃ m, m < n - i ∧ ∃ (i : Nat) (g : Nat → Bool), m = n - i ∧ i ≤ n ∧ s'.get 0 = some (.cells .mut (bcells n g)) ∧ (∀ q, g q = true ↔ SV B f x i 0 q) ∧ e'.at 1 = .simm (bcells n f) n ∧ e'.at 2 = .int .i64 (x : Int) ∧ e'.at 3 = .pimm [.int .i64 B.L, sv, nv] 0 ∧ e'.at 7 = .sref 0 0 n 1 ∧ e'.at 8 = .int .i64 (i : Int) := fun hkk e' s' hs he =>
      ⟨n - (i + 1), by omega, i + 1, g, rfl, by omega, hs, fun q => by rw [hg q]; exact (SV.state fun h => by rw [hrw]; exact hkk h).symm, he⟩
    cases hfv : f i with
    | false =>
      rw [hfv] at hfi
      repeat' (first | refine gA (And.intro @hiaf @hfi) ?_ | (refine gB (And.intro @hiaf @hfi) ?_; intro bb hbb; cases bb <;> (try simp only [hbs, if_false, reduceCtorEq] at hbb)) | apply qc_seq | fail)
      exact out (fun h => by rw [hfv] at h; cases h) _ _ g0 (by simp only [lk, sv1, sv2, sv3, Nat.reduceEqDiff, Nat.reduceAdd, Nat.reduceLeDiff, reduceIte, if_false, if_true, mkVal, unLV, List.map, optTmps, e1, e2, e3, e7, hwi, and_self])
    | true =>
      rw [hfv] at hfi
      by_cases hkl : k < ms.length
      · have hkI : (k : Int) < (ms.length : Int) := by omega
        have hwk := wrap_succ hkI hm'.len
        have hmr := hmo k hkl
        obtain ⟨md, hmd⟩ : ∃ md, ms[k]? = some md := ⟨_, List.getElem?_eq_getElem hkl⟩
        have hgd : ms.getD k (0, false) = md := by rw [List.getD_eq_getElem?_getD, hmd]; rfl
        rw [hgd] at hmr
        have hmc := mcells_get0 hkl
        rw [hgd] at hmc
        have hsv := fun q => SV.move (B := B) (x := x) (q := q) hfv (by rw [hrw]; exact hmd)
        obtain ⟨mt, mg⟩ := md
        obtain ⟨t, rfl⟩ : ∃ t : Nat, mt = (t : Int) := ⟨mt.toNat, by omega⟩
        have htn : t < n := by have := hmr.2.1; simp only at this; omega
        have htI : (t : Int) < (n : Int) := by omega
        have hmcx : (mcells ms)[k * 2]? = some (.int .i64 (t : Int)) := hmc
        have hiam : ∀ s, iaLV 2 mv (.int .i64 (k : Int)) s = some (.pimm (mcells ms) (k * 2), s) := fun s => iaN hm'.sl hkI
        clear hmr hgd hmc
        repeat' (first | refine gA (And.intro @hiaf (And.intro @hfi (And.intro @hiav (And.intro @g1 (And.intro @hrl (And.intro @hiax (And.intro @g2 (And.intro @hml (And.intro @hiam (And.intro @hmcx @iaS)))))))))) ?_ | (refine gB (And.intro @hiaf (And.intro @hfi (And.intro @hiav (And.intro @g1 (And.intro @hrl (And.intro @hiax (And.intro @g2 (And.intro @hml (And.intro @hiam (And.intro @hmcx @iaS)))))))))) ?_; intro bb hbb; cases bb <;> (try simp only [hbs, if_false, reduceCtorEq] at hbb)) | apply qc_seq | fail)
        any_goals (exfalso; omega)
        refine q_storeB (i := 0) (q := t) (n := n) (b := true) (f := g) (f' := fun j => if j = t then true else g j) (by simp only [lk, sv1, sv2, sv3, Nat.reduceEqDiff, Nat.reduceAdd, Nat.reduceLeDiff, reduceIte, if_false, if_true, mkVal, unLV, List.map, optTmps, Nat.zero_add, Nat.mul_one]) ef g0 htn (fun j => rfl) (fun s2 n2 h2 o2 => ?_)
        repeat' (first | refine gA trivial ?_ | (refine gB trivial ?_; intro bb hbb; cases bb <;> (try simp only [hbs, if_false, reduceCtorEq] at hbb)) | apply qc_seq | fail)
        refine ⟨ms.length - (k + 1), by omega, k + 1, fun j => if j = t then true else g j, rfl, by omega, fun h => (by cases h), h2, fun q => ?_, ?_⟩
        · rw [hsv q, ← hg q]
          by_cases hq : q = t
          · subst hq; simp
          · have : ¬ t = q := fun h => hq h.symm
            simp [hq, this]
        · simp only [lk, sv1, sv2, sv3, Nat.reduceEqDiff, Nat.reduceAdd, Nat.reduceLeDiff, reduceIte, if_false, if_true, mkVal, unLV, List.map, optTmps, e1, e2, e3, e7, e8, hwk, and_self]
      · repeat' (first | refine gA (And.intro @hiaf (And.intro @hfi (And.intro @hiav (And.intro @g1 (And.intro @hrl (And.intro @hiax (And.intro @g2 @hml))))))) ?_ | (refine gB (And.intro @hiaf (And.intro @hfi (And.intro @hiav (And.intro @g1 (And.intro @hrl (And.intro @hiax (And.intro @g2 @hml))))))) ?_; intro bb hbb; cases bb <;> (try simp only [hbs, if_false, reduceCtorEq] at hbb)) | apply qc_seq | fail)
        any_goals (exfalso; omega)
        exact out (fun _ => by omega) _ _ g0 (by simp only [lk, sv1, sv2, sv3, Nat.reduceEqDiff, Nat.reduceAdd, Nat.reduceLeDiff, reduceIte, if_false, if_true, mkVal, unLV, List.map, optTmps, e1, e2, e3, e7, hwi, and_self])
  · repeat' (first | refine gA trivial ?_ | (refine gB trivial ?_; intro bb hbb; cases bb <;> (try simp only [hbs, if_false, reduceCtorEq] at hbb)) | apply qc_seq | fail)
    any_goals (exfalso; omega)
    obtain rfl : i = n := by omega
    refine ⟨.inr trivial, .simm (bcells i g) i, s.put 0 (.cells .app (bcells i g)), ?_, by simp [LV.closed, bcells_closed], g, rfl, fun q => by rw [hg q]; exact hfin q⟩
    simp only [lk, sv1, sv2, sv3, Nat.reduceEqDiff, Nat.reduceAdd, Nat.reduceLeDiff, reduceIte, if_false, if_true, mkVal, unLV, List.map, optTmps, e7]
    exact frz_sref g0 (by simp) (bcells_closed _ _)
end Go.Proofs.YtbdoggiabclkdaaGreatDoor
end
section
set_option linter.unusedSimpArgs false
set_option linter.unusedVariables false
namespace Go.Proofs.YtbdoggiabclkdaaGreatDoor
open Go Go.Pv
open Classical
noncomputable def StpS (B : Bu) (f : Nat → Bool) (x q : Nat) : Bool := decide (Stp B f x q)
noncomputable def rnB (B : Bu) (f : Nat → Bool) (l : List Int) : Nat → Bool := l.foldl (fun f z => StpS B f z.toNat) f
noncomputable def stF (B : Bu) (q : Nat) : Bool := decide (∃ z ∈ B.start, z.toNat = q)
def Alive (B : Bu) (l : List Int) : Prop := ∃ q, q < B.next.length ∧ rnB B (stF B) l q = true
def InV (n : Nat) (s : St) (v : LV) (f : Nat → Bool) : Prop := v = .simm (bcells n f) n ∨ (v = .sref 0 0 n 1 ∧ s.get 0 = some (.cells .mut (bcells n f)))
theorem InV.frz {n : Nat} {s : St} {v a c : LV} {f : Nat → Bool} (h : InV n s v f) (ha : a.closed = true) (hc : c.closed = true) : ∃ s', frz.frzAll (frz frzDepth) [a, v, c] s = some ([a, .simm (bcells n f) n, c], s') := by
  have h1 : ∃ s', Go.Pv.frz frzDepth v s = some (.simm (bcells n f) n, s') := by
    rcases h with rfl | ⟨rfl, hg⟩
    · exact ⟨s, frzD_closed (by simp [LV.closed, bcells_closed])⟩
    · exact ⟨_, frz_sref hg (len := n) (by simp) (bcells_closed _ _)⟩
  obtain ⟨s', h1⟩ := h1
  refine ⟨s', ?_⟩
  simp only [Go.Pv.frz.frzAll, frzD_closed ha, h1, frzD_closed hc, Option.bind_eq_bind, Option.bind_some]
theorem foldl_snoc (B : Bu) (f : Nat → Bool) (l : List Int) (z : Int) : rnB B f (l ++ [z]) = StpS B (rnB B f l) z.toNat := by simp [rnB]
set_option maxHeartbeats 16000000 in
theorem alive_ok {v : LV} {B : Bu} {sv nv : LV} (hB : IsB v B sv nv) (hok : Vb B) {lv : LV} {l : List Int} (hl : IsInts lv l) (hr : ∀ z ∈ l, 0 ≤ z ∧ z < B.L) :
    PO 17 [v, lv] (.bool (decide (Alive B l))) := by
  have hvc := hB.closed
  have hstp := fun (f : Nat → Bool) {x : Nat} (hx : (x : Int) < B.L) => steps_ok hB hok f hx
  obtain ⟨rfl, hst, vs, hn⟩ := hB
  have hc1 := hst.sl.cell
  have hc2 := hn.sl.cell
  have hnl := hn.sl.len
  have hstl := hst.sl.len
  have hll := hl.sl.len
  have hn3 := hok.2.2.1
  obtain ⟨n, hnn⟩ : ∃ n, B.next.length = n := ⟨_, rfl⟩
  have hsok := hok.2.2.2.1
  have hal : Alive B l ↔ ∃ q, q < n ∧ rnB B (stF B) l q = true := by rw [← hnn]; exact Iff.rfl
  rw [hnn] at hnl hn3 hstp hsok
  refine q_fn (t := 4) hm Tryz.func17 (by decide +kernel) c17 (Nat.le_of_ble_eq_true rfl) (by rw [LV.closed.closedAll, hvc]; simp [LV.closed.closedAll, hl.closed]) rfl rfl ?_
  have e0 : (envOf [LV.agg [.int .i64 B.L, sv, nv], lv]).at 0 = .agg [.int .i64 B.L, sv, nv] := by rw [envOf_at]; rfl
  have e1 : (envOf [LV.agg [.int .i64 B.L, sv, nv], lv]).at 1 = lv := by rw [envOf_at]; rfl
  generalize envOf [LV.agg [.int .i64 B.L, sv, nv], lv] = e at *
  unfold l17
  dsimp only
  repeat' (first | refine gA @hnl ?_ | (refine gB @hnl ?_; intro bb hbb; cases bb <;> (try simp only [hbs, if_false, reduceCtorEq] at hbb)) | apply qc_seq | fail)
  refine u_mkB (n := n) wN rfl ef ef (by omega) ?_
  repeat' (first | refine gA trivial ?_ | (refine gB trivial ?_; intro bb hbb; cases bb <;> (try simp only [hbs, if_false, reduceCtorEq] at hbb)) | apply qc_seq | fail)
  refine qc_loop (fun m e s => ∃ (i : Nat) (g : Nat → Bool), m = B.start.length - i ∧ i ≤ B.start.length ∧ s.get 0 = some (.cells .mut (bcells n g)) ∧ (∀ q, g q = true ↔ ∃ j, j < i ∧ (B.start.getD j 0).toNat = q) ∧ e.at 1 = lv ∧ e.at 2 = .pimm [.int .i64 B.L, sv, nv] 0 ∧ e.at 5 = .sref 0 0 n 1 ∧ e.at 6 = .int .i64 (i : Int)) _
    ⟨0, fun _ => false, rfl, by omega, by simp only [St.get_new, n_empty, if_true], fun q => ⟨fun h => (by cases h), fun ⟨j, h, _⟩ => absurd h (Nat.not_lt_zero _)⟩, ef, ef, ef, by simp only [lk, sv1, sv2, sv3, Nat.reduceEqDiff, Nat.reduceAdd, Nat.reduceLeDiff, reduceIte, if_false, if_true, mkVal, unLV, List.map, optTmps]; rfl⟩ ?_
  clear e0 e1
  clear e
  rintro m e s ⟨i, g, rfl, hi, g0, hg, e1, e2, e5, e6⟩
  by_cases hil : i < B.start.length
  · have hiI : (i : Int) < (B.start.length : Int) := by omega
    have hwi := wrap_succ hiI hst.len
    have hz := hsok i hil
    obtain ⟨z, hzz⟩ : ∃ z, B.start.getD i 0 = z := ⟨_, rfl⟩
    have hgz : (ints B.start)[i]? = some (.int .i64 z) := by rw [ints_get hiI, hzz]
    rw [hzz] at hz
    obtain ⟨t, rfl⟩ : ∃ t : Nat, z = (t : Int) := ⟨z.toNat, by omega⟩
    have htn : t < n := by omega
    have htI : (t : Int) < (n : Int) := by omega
    have hia : ∀ s, iaLV 1 sv (.int .i64 (i : Int)) s = some (.pimm (ints B.start) i, s) := fun s => by
      have := iaN (esz := 1) (k := .i64) (s := s) (i := i) hst.sl hiI
      simpa using this
    repeat' (first | refine gA (And.intro @hstl (And.intro @hia (And.intro @hgz @iaS))) ?_ | (refine gB (And.intro @hstl (And.intro @hia (And.intro @hgz @iaS))) ?_; intro bb hbb; cases bb <;> (try simp only [hbs, if_false, reduceCtorEq] at hbb)) | apply qc_seq | fail)
    any_goals (exfalso; omega)
    refine q_storeB (i := 0) (q := t) (n := n) (b := true) (f := g) (f' := fun j => if j = t then true else g j) (by simp only [lk, sv1, sv2, sv3, Nat.reduceEqDiff, Nat.reduceAdd, Nat.reduceLeDiff, reduceIte, if_false, if_true, mkVal, unLV, List.map, optTmps, Nat.zero_add, Nat.mul_one]) ef g0 htn (fun j => rfl) (fun s2 n2 h2 o2 => ?_)
    repeat' (first | refine gA trivial ?_ | (refine gB trivial ?_; intro bb hbb; cases bb <;> (try simp only [hbs, if_false, reduceCtorEq] at hbb)) | apply qc_seq | fail)
    refine ⟨B.start.length - (i + 1), by omega, i + 1, fun j => if j = t then true else g j, rfl, by omega, h2, fun q => ?_, ?_⟩
    · by_cases hq : q = t
      · subst hq
        simp only [if_true, true_iff]
        exact ⟨i, by omega, by rw [hzz]; simp⟩
      · simp only [hq, if_false, hg q]
        constructor
        · rintro ⟨j, h1, h3⟩; exact ⟨j, by omega, h3⟩
        · rintro ⟨j, h1, h3⟩
          by_cases hj : j = i
          · subst hj; rw [hzz] at h3; simp at h3; exact absurd h3.symm hq
          · exact ⟨j, by omega, h3⟩
    · simp only [lk, sv1, sv2, sv3, Nat.reduceEqDiff, Nat.reduceAdd, Nat.reduceLeDiff, reduceIte, if_false, if_true, mkVal, unLV, List.map, optTmps, e1, e2, e5, hwi, and_self]
  · repeat' (first | refine gA @hstl ?_ | (refine gB @hstl ?_; intro bb hbb; cases bb <;> (try simp only [hbs, if_false, reduceCtorEq] at hbb)) | apply qc_seq | fail)
    any_goals (exfalso; omega)
    have hgs : g = stF B := funext fun q => by
      rw [Bool.eq_iff_iff, hg q, stF, decide_eq_true_eq]
      constructor
      · rintro ⟨j, h1, h2⟩
        exact ⟨B.start.getD j 0, getD_mem (by omega), h2⟩
      · rintro ⟨z, hz, h2⟩
        obtain ⟨j, hj⟩ := List.mem_iff_getElem?.1 hz
        have hjl := (List.getElem?_eq_some_iff.1 hj).1
        exact ⟨j, by omega, by rw [List.getD_eq_getElem?_getD, hj]; exact h2⟩
    rw [hgs] at g0
    refine qc_loop (fun m e s => ∃ (i : Nat) (v : LV), m = l.length - i ∧ i ≤ l.length ∧ InV n s v (rnB B (stF B) (l.take i)) ∧ e.at 1 = lv ∧ e.at 2 = .pimm [.int .i64 B.L, sv, nv] 0 ∧ e.at 5 = v ∧ e.at 7 = .int .i64 (i : Int)) _
      ⟨0, _, rfl, by omega, .inr ⟨rfl, by rw [List.take_zero]; exact g0⟩, ef, ef, ef, by simp only [lk, sv1, sv2, sv3, Nat.reduceEqDiff, Nat.reduceAdd, Nat.reduceLeDiff, reduceIte, if_false, if_true, mkVal, unLV, List.map, optTmps]; rfl⟩ ?_
    clear e1 e2 e5 e6 g0 hg hgs hil hi hbb
    clear e s g
    clear i
    rintro m e s ⟨i, v, rfl, hi, hI, e1, e2, e5, e7⟩
    by_cases hil : i < l.length
    · have hiI : (i : Int) < (l.length : Int) := by omega
      have hwi := wrap_succ hiI hl.len
      have hz := hr _ (getD_mem (d := 0) hil)
      obtain ⟨z, hzz⟩ : ∃ z, l.getD i 0 = z := ⟨_, rfl⟩
      have hgz : (ints l)[i]? = some (.int .i64 z) := by rw [ints_get hiI, hzz]
      rw [hzz] at hz
      have htk : l.take (i + 1) = l.take i ++ [z] := by
        rw [← hzz, List.getD_eq_getElem?_getD, List.getElem?_eq_getElem hil, List.take_add_one, List.getElem?_eq_getElem hil]; rfl
      obtain ⟨t, rfl⟩ : ∃ t : Nat, z = (t : Int) := ⟨z.toNat, by omega⟩
      have hia : ∀ s, iaLV 1 lv (.int .i64 (i : Int)) s = some (.pimm (ints l) i, s) := fun s => by
        have := iaN (esz := 1) (k := .i64) (s := s) (i := i) hl.sl hiI
        simpa using this
      have hfr := hI.frz (a := .agg [.int .i64 B.L, sv, nv]) (c := .int .i64 (t : Int)) hvc rfl
      obtain ⟨s', hfr⟩ := hfr
      repeat' (first | refine gA (And.intro @hll (And.intro @hia @hgz)) ?_ | (refine gB (And.intro @hll (And.intro @hia @hgz)) ?_; intro bb hbb; cases bb <;> (try simp only [hbs, if_false, reduceCtorEq] at hbb)) | apply qc_seq | fail)
      any_goals (exfalso; omega)
      refine q_call wN rfl (by simp only [List.map, lk, sv1, sv2, sv3, Nat.reduceEqDiff, Nat.reduceAdd, Nat.reduceLeDiff, reduceIte, if_false, if_true, mkVal, unLV, List.map, optTmps]) (call_frz hfr (pure_callEx hG0 (hstp _ hz.2) fun r hrr hrc => ⟨trivial, ?_⟩))
      obtain ⟨g, rfl, hg⟩ := hrr
      simp only [Env.put_some]
      repeat' (first | refine gA trivial ?_ | (refine gB trivial ?_; intro bb hbb; cases bb <;> (try simp only [hbs, if_false, reduceCtorEq] at hbb)) | apply qc_seq | fail)
      refine ⟨l.length - (i + 1), by omega, i + 1, _, rfl, by omega, .inl rfl, ?_⟩
      rw [htk, foldl_snoc]
      have hge : g = StpS B (rnB B (stF B) (l.take i)) t := funext fun q => by
        rw [Bool.eq_iff_iff, hg q, StpS, decide_eq_true_eq]
      rw [hge]
      simp only [lk, sv1, sv2, sv3, Nat.reduceEqDiff, Nat.reduceAdd, Nat.reduceLeDiff, reduceIte, if_false, if_true, mkVal, unLV, List.map, optTmps, e1, e2, hwi, Int.toNat_natCast, and_self]
    · rw [List.take_of_length_le (by omega)] at hI
      generalize hF : rnB B (stF B) l = F at *
      have hvl : slLen v = some n := by
        rcases hI with rfl | ⟨rfl, _⟩ <;> rfl
      repeat' (first | refine gA @hll ?_ | (refine gB @hll ?_; intro bb hbb; cases bb <;> (try simp only [hbs, if_false, reduceCtorEq] at hbb)) | apply qc_seq | fail)
      any_goals (exfalso; omega)
      refine qc_loop (fun m e s => ∃ (i : Nat), m = n - i ∧ i ≤ n ∧ InV n s v F ∧ (∀ k, k < i → F k = false) ∧ e.at 5 = v ∧ e.at 8 = .int .i64 (i : Int)) _
        ⟨0, rfl, by omega, hI, fun k hk => absurd hk (Nat.not_lt_zero _), ef, by simp only [lk, sv1, sv2, sv3, Nat.reduceEqDiff, Nat.reduceAdd, Nat.reduceLeDiff, reduceIte, if_false, if_true, mkVal, unLV, List.map, optTmps]; rfl⟩ ?_
      clear e1 e2 e5 e7 hI hi hil hbb
      clear e s i
      rintro m e s ⟨i, rfl, hi, hI, hno, e5, e8⟩
      by_cases hil : i < n
      · have hiI : (i : Int) < (n : Int) := by omega
        have hwi : IntKind.i64.wrap ((i : Int) + 1) = ((i + 1 : Nat) : Int) := by rw [wrap_i64 _ (by omega) (by omega)]; rfl
        have hgi : (bcells n F)[i]? = some (.bool (F i)) := bcells_get hil
        have hia : ∀ s, iaLV 1 (.simm (bcells n F) n) (.int .i64 (i : Int)) s = some (.pimm (bcells n F) i, s) := fun s => by
          have := iaN (esz := 1) (k := .i64) (s := s) (i := i) (Sl.simm (bcells n F) n) hiI
          simpa using this
        have hnx : F i = false → ∀ k, k < i + 1 → F k = false := fun h k hk => by
          by_cases hki : k < i
          · exact hno k hki
          · obtain rfl : k = i := by omega
            exact h
        cases hFi : F i with
        | true =>
          have ht : decide (Alive B l) = true := decide_eq_true (hal.2 ⟨i, hil, hFi⟩)
          rw [ht]
          rw [hFi] at hgi
          rcases hI with rfl | ⟨rfl, h0⟩
          · repeat' (first | refine gA (And.intro @hia @hgi) ?_ | (refine gB (And.intro @hia @hgi) ?_; intro bb hbb; cases bb <;> (try simp only [hbs, if_false, reduceCtorEq] at hbb)) | apply qc_seq | fail)
            any_goals (exfalso; omega)
            exact ⟨.inr trivial, ef⟩
          · repeat' (first | refine gA (And.intro @iaS @hgi) ?_ | (refine gB (And.intro @iaS @hgi) ?_; intro bb hbb; cases bb <;> (try simp only [hbs, if_false, reduceCtorEq] at hbb)) | apply qc_seq | fail)
            any_goals (exfalso; omega)
            exact ⟨.inr trivial, ef⟩
        | false =>
          rw [hFi] at hgi
          have hI' := hI
          rcases hI with rfl | ⟨rfl, h0⟩
          · repeat' (first | refine gA (And.intro @hia @hgi) ?_ | (refine gB (And.intro @hia @hgi) ?_; intro bb hbb; cases bb <;> (try simp only [hbs, if_false, reduceCtorEq] at hbb)) | apply qc_seq | fail)
            any_goals (exfalso; omega)
            exact ⟨n - (i + 1), by omega, i + 1, rfl, by omega, hI', hnx hFi, ef, ef⟩
          · repeat' (first | refine gA (And.intro @iaS @hgi) ?_ | (refine gB (And.intro @iaS @hgi) ?_; intro bb hbb; cases bb <;> (try simp only [hbs, if_false, reduceCtorEq] at hbb)) | apply qc_seq | fail)
            any_goals (exfalso; omega)
            exact ⟨n - (i + 1), by omega, i + 1, rfl, by omega, hI', hnx hFi, ef, ef⟩
      · have ht : decide (Alive B l) = false := decide_eq_false fun h => by
          obtain ⟨q, h1, h2⟩ := hal.1 h
          rw [hno q (by omega)] at h2
          cases h2
        rw [ht]
        repeat' (first | refine gA trivial ?_ | (refine gB trivial ?_; intro bb hbb; cases bb <;> (try simp only [hbs, if_false, reduceCtorEq] at hbb)) | apply qc_seq | fail)
        any_goals (exfalso; omega)
        exact ⟨.inr trivial, ef⟩
end Go.Proofs.YtbdoggiabclkdaaGreatDoor
end
section
set_option linter.unusedSimpArgs false
set_option linter.unusedVariables false
namespace Go.Proofs.YtbdoggiabclkdaaGreatDoor
open Go Go.Pv
open Classical
def stN (B : Bu) : List Nat := B.start.map Int.toNat
theorem nd_inj {α : Type} {l : List α} (h : l.Nodup) {i j : Nat} (hi : i < l.length) (hj : j < l.length) (e : l[i] = l[j]) : i = j := by
  rw [List.nodup_iff_pairwise_ne, List.pairwise_iff_getElem] at h
  rcases Nat.lt_trichotomy i j with h1 | h1 | h1
  · exact absurd e (h i j hi hj h1)
  · exact h1
  · exact absurd e.symm (h j i hj hi h1)
theorem getD_lt' {α : Type} {l : List α} {k : Nat} {d : α} (h : k < l.length) : l.getD k d = l[k] := by simp [List.getD_eq_getElem?_getD, h]
theorem trim_row {B C : Bu} (hok : Vb B) (hT : TrimR B C) {p a : Nat} (hp : p ∈ trimR B) (ha : (a : Int) < B.L) : ((C.next.getD (numN (trimR B) p) []).getD a []).Perm (renM (trimR B) (rowM B p a)) := by
  have h1 := (hT.row _ (numN_lt hp)).2 a ha
  have h2 : (trimR B).getD (numN (trimR B) p) 0 = p := by rw [List.getD_eq_getElem?_getD, numN_get hp]; rfl
  rw [h2] at h1
  exact h1.1
theorem stN_in {B C : Bu} (hok : Vb B) (hT : TrimR B C) : ∀ p ∈ stN B, p ∈ trimR B := fun p hp => by
  have := stT_pre B B.start.length
  rw [List.take_length] at this
  exact this.mem (addsN_mem hp)
theorem addsN_nodup {B : Bu} (hok : Vb B) {ps l : List Nat} : (ps ++ l).Nodup → addsN ps l = ps ++ l := by
  clear hok
  induction l generalizing ps with
  | nil => intro _; simp [addsN]
  | cons p l ih =>
    intro h
    have hp : p ∉ ps := fun hp => by
      rw [List.nodup_append] at h
      exact h.2.2 p hp p (by simp) rfl
    have h1 : addN ps p = ps ++ [p] := by unfold addN; rw [if_neg hp]
    show addsN (addN ps p) l = _
    rw [h1, ih (by simpa using h)]
    simp
theorem sok_lt {n : Nat} {st : List Int} (h : SOK n st) : ∀ i j, i < j → j < st.length → st.getD i 0 < st.getD j 0 := by
  intro i j hij
  induction j with
  | zero => omega
  | succ j ih =>
    intro hj
    have h1 := (h (j + 1) hj).2.2 (by omega)
    rw [Nat.add_sub_cancel] at h1
    by_cases he : i = j
    · rw [he]; exact h1
    · have := ih (by omega) (by omega)
      omega
theorem stN_nd {B : Bu} (hok : Vb B) : (stN B).Nodup := by
  rw [List.nodup_iff_pairwise_ne, stN, List.pairwise_map, List.pairwise_iff_getElem]
  intro i j hi hj hij he
  have h1 := sok_lt hok.2.2.2.1 i j hij hj
  have p1 := (hok.2.2.2.1 i hi).1
  have ei : B.start.getD i 0 = B.start[i] := by simp [List.getD_eq_getElem?_getD, hi]
  have ej : B.start.getD j 0 = B.start[j] := by simp [List.getD_eq_getElem?_getD, hj]
  rw [ei] at p1
  rw [ei, ej] at h1
  omega
theorem num_start {B : Bu} (hok : Vb B) {k : Nat} (hk : k < B.start.length) : numN (trimR B) (B.start.getD k 0).toNat = k := by
  have hpre := stT_pre B B.start.length
  rw [List.take_length] at hpre
  have hnd := stN_nd hok
  have h1 : addsN [] (B.start.map Int.toNat) = stN B := by
    rw [addsN_nodup hok (B := B) (by simpa [stN] using hnd)]; rfl
  rw [h1] at hpre
  have hg : (stN B)[k]? = some (B.start.getD k 0).toNat := by
    simp [stN, List.getD_eq_getElem?_getD, hk]
  have hm := List.mem_of_getElem? hg
  rw [numN_pre hpre hm]
  have h2 := numN_get hm
  obtain ⟨a1, a2⟩ := List.getElem?_eq_some_iff.1 hg
  obtain ⟨b1, b2⟩ := List.getElem?_eq_some_iff.1 h2
  exact nd_inj hnd b1 a1 (b2.trans a2.symm)
theorem mlt_tri {x y : Int × Bool} (h : x ≠ y) (hn : ¬ mlt y x) : mlt x y := by
  obtain ⟨x1, x2⟩ := x
  obtain ⟨y1, y2⟩ := y
  unfold mlt at *
  simp only at *
  by_cases h1 : x1 < y1
  · exact .inl h1
  · by_cases h2 : y1 < x1
    · exact absurd (.inl h2) hn
    · have h3 : x1 = y1 := by omega
      subst h3
      cases x2 <;> cases y2 <;> simp at *
theorem vb_trim {B C : Bu} (hok : Vb B) (hT : TrimR B C) : Vb C := by
  obtain ⟨hnd, hlt, hcl⟩ := trim_ok hok
  have hlen := ai_len hok (Pre.refl (trimR B))
  have hn3 := hok.2.2.1
  refine ⟨by rw [hT.L]; exact hok.1, by rw [hT.L]; exact hok.2.1, by rw [hT.len]; omega, fun k hk => ?_, fun i hi => ?_⟩
  · rw [hT.st, List.length_map] at hk
    have e : ∀ k, k < B.start.length → C.start.getD k 0 = (k : Int) := fun k hk => by
      have : C.start.getD k 0 = (numN (trimR B) (B.start.getD k 0).toNat : Int) := by
        rw [hT.st]; simp [List.getD_eq_getElem?_getD, hk]
      rw [this, num_start hok hk]
    have hin : (B.start.getD k 0).toNat ∈ trimR B := stN_in hok hT _ (List.mem_map.2 ⟨B.start.getD k 0, by simp [List.getD_eq_getElem?_getD, hk], rfl⟩)
    have h1 := numN_lt hin
    rw [num_start hok hk] at h1
    rw [e k hk, hT.len]
    refine ⟨by omega, by omega, fun h0 => ?_⟩
    rw [e (k - 1) (by omega)]
    omega
  · rw [hT.len] at hi ⊢
    obtain ⟨p, hp⟩ : ∃ p, (trimR B)[i]? = some p := ⟨_, List.getElem?_eq_getElem hi⟩
    have hpm := List.mem_of_getElem? hp
    have hgd : (trimR B).getD i 0 = p := by rw [List.getD_eq_getElem?_getD, hp]; rfl
    obtain ⟨h1, h2⟩ := hT.row i hi
    rw [hT.L]
    refine ⟨h1, fun a ha => ?_⟩
    have haL : (a : Int) < B.L := by omega
    obtain ⟨h3, h4⟩ := h2 a haL
    rw [hgd] at h3
    have hrow := hok.2.2.2.2 p (hlt p hpm)
    have ha' : a < (B.next.getD p []).length := by have := hrow.1; omega
    have hmo : MOK B.next.length (rowM B p a) := hrow.2 a ha'
    have hinR : ∀ x ∈ rowM B p a, x.1.toNat ∈ trimR B := fun x hx =>
      hcl p hpm _ (List.mem_flatMap.2 ⟨a, List.mem_range.2 (by omega), List.mem_map.2 ⟨x, hx, rfl⟩⟩)
    have hnd' := h3.symm.nodup (renM_nodup (B := B) hmo hinR)
    intro k hk
    have hmem := h3.mem_iff.1 (List.getElem_mem hk)
    obtain ⟨x, hx, hxe⟩ := List.mem_map.1 hmem
    have hgk : ((C.next.getD i []).getD a []).getD k (0, false) = ((C.next.getD i []).getD a [])[k] := getD_lt' hk
    have hnl := numN_lt (hinR x hx)
    refine ⟨?_, ?_, fun h0 => ?_⟩
    · rw [hgk, ← hxe]; show (0 : Int) ≤ ((numN _ _ : Nat) : Int); omega
    · rw [hgk, ← hxe]; show ((numN _ _ : Nat) : Int) < _; omega
    · refine mlt_tri (fun he => ?_) (h4 (k - 1) k (by omega) hk)
      have hk1 : k - 1 < ((C.next.getD i []).getD a []).length := by omega
      have hgk1 : ((C.next.getD i []).getD a []).getD (k - 1) (0, false) = ((C.next.getD i []).getD a [])[k - 1] := getD_lt' hk1
      rw [hgk, hgk1] at he
      have := nd_inj hnd' hk hk1 he.symm
      omega
theorem addN_range (m x : Nat) (h : x ≤ m) : addN (List.range m) x = List.range (if x = m then m + 1 else m) := by
  unfold addN
  by_cases hx : x = m
  · subst hx
    rw [if_neg (by simp), if_pos rfl, List.range_succ]
  · rw [if_pos (by simp; omega), if_neg hx]
theorem addsN_sorted : ∀ (L : List Nat) (m m' : Nat), L.Pairwise (· ≤ ·) → m ≤ m' → (∀ x ∈ L, x < m') → (∀ i, m ≤ i → i < m' → i ∈ L) → addsN (List.range m) L = List.range m' := by
  intro L
  induction L with
  | nil =>
    intro m m' _ hm _ h
    have : m = m' := by
      by_cases e : m = m'
      · exact e
      · exact absurd (h m (Nat.le_refl _) (by omega)) (by simp)
    subst this; rfl
  | cons x L ih =>
    intro m m' hs hm hl h
    obtain ⟨h1, h2⟩ := List.pairwise_cons.1 hs
    have hxm : x ≤ m := by
      by_cases e : m < m'
      · rcases List.mem_cons.1 (h m (Nat.le_refl _) e) with e' | e'
        · omega
        · exact h1 m e'
      · have := hl x (by simp); omega
    show addsN (addN (List.range m) x) L = _
    rw [addN_range m x hxm]
    refine ih _ m' h2 ?_ (fun y hy => hl y (by simp [hy])) fun i hi1 hi2 => ?_
    · split
      · have := hl x (by simp); omega
      · exact hm
    · have hmi : m ≤ i := by split at hi1 <;> omega
      rcases List.mem_cons.1 (h i hmi hi2) with e | e
      · subst e
        exfalso
        split at hi1 <;> omega
      · exact e
theorem pre_len {a b : List Nat} (h : Pre a b) : a.length ≤ b.length := by
  obtain ⟨t, rfl⟩ := h; simp
theorem pre_get {a b : List Nat} (h : Pre a b) {i : Nat} (hi : i < a.length) : b[i]? = a[i]? := by
  obtain ⟨t, rfl⟩ := h
  rw [List.getElem?_append_left hi]
theorem addsN_new : ∀ {l ps : List Nat} {i p : Nat}, ps.length ≤ i → (addsN ps l)[i]? = some p → p ∈ l := by
  intro l
  induction l with
  | nil =>
    intro ps i p hi h
    have h' : ps[i]? = some p := h
    have := (List.getElem?_eq_some_iff.1 h').1
    omega
  | cons a l ih =>
    intro ps i p hi h
    by_cases hi2 : (addN ps a).length ≤ i
    · exact List.mem_cons_of_mem _ (ih hi2 h)
    · have h2 : (addN ps a)[i]? = some p := by
        rw [← pre_get (addsN_pre l (addN ps a)) (by omega)]; exact h
      have : addN ps a = ps ++ [a] := by
        by_cases hm : a ∈ ps
        · have e : addN ps a = ps := by unfold addN; rw [if_pos hm]
          rw [e] at hi2; omega
        · unfold addN; rw [if_neg hm]
      rw [this, List.getElem?_append_right hi] at h2
      have h3 := (List.getElem?_eq_some_iff.1 h2).1
      have h4 : i - ps.length = 0 := by simp at h3; omega
      rw [h4] at h2
      have : a = p := by simpa using h2
      rw [this]; simp
theorem numN_at {R : List Nat} (hnd : R.Nodup) {i p : Nat} (h : R[i]? = some p) : numN R p = i := by
  have hm := List.mem_of_getElem? h
  have h2 := numN_get hm
  obtain ⟨a1, a2⟩ := List.getElem?_eq_some_iff.1 h
  obtain ⟨b1, b2⟩ := List.getElem?_eq_some_iff.1 h2
  exact nd_inj hnd b1 a1 (b2.trans a2.symm)
theorem row_range {R ps T L : List Nat} (hnd : R.Nodup) (hpre : Pre (addsN ps T) R) (hL : L.Pairwise (· ≤ ·)) (hmem : ∀ x, x ∈ L ↔ ∃ t ∈ T, numN R t = x) : addsN (List.range ps.length) L = List.range (addsN ps T).length := by
  refine addsN_sorted L _ _ hL (pre_len (addsN_pre T ps)) (fun x hx => ?_) fun i hi1 hi2 => ?_
  · obtain ⟨t, ht, rfl⟩ := (hmem x).1 hx
    rw [numN_pre hpre (addsN_mem ht)]
    exact numN_lt (addsN_mem ht)
  · obtain ⟨p, hp⟩ : ∃ p, (addsN ps T)[i]? = some p := ⟨_, List.getElem?_eq_getElem hi2⟩
    refine (hmem i).2 ⟨p, addsN_new hi1 hp, numN_at hnd ?_⟩
    rw [pre_get hpre hi2]; exact hp
theorem runN_stop {succ : Nat → List Nat} {R : List Nat} : ∀ (f1 f2 k : Nat) (ps : List Nat), f1 ≤ f2 → runN succ f2 k ps = R → R.length < k + f1 → runN succ f1 k ps = R := by
  intro f1
  induction f1 with
  | zero =>
    intro f2 k ps _ h hl
    have hp := runN_pre succ f2 k ps
    rw [h] at hp
    have := pre_len hp
    cases f2 with
    | zero => exact h
    | succ f2 =>
      simp only [runN] at h
      rw [List.getElem?_eq_none (by omega)] at h
      exact h
  | succ f1 ih =>
    intro f2 k ps hf h hl
    obtain ⟨f2, rfl⟩ : ∃ g, f2 = g + 1 := ⟨f2 - 1, by omega⟩
    simp only [runN] at h ⊢
    cases hk : ps[k]? with
    | none => rw [hk] at h; exact h
    | some p =>
      rw [hk] at h
      exact ih f2 (k + 1) _ (by omega) h (by omega)
theorem runN_range {sB sC : Nat → List Nat} {R : List Nat} (hrow : ∀ k p ps, R[k]? = some p → Pre (addsN ps (sB p)) R → addsN (List.range ps.length) (sC k) = List.range (addsN ps (sB p)).length) :
    ∀ (f k : Nat) (ps : List Nat), runN sB f k ps = R → runN sC f k (List.range ps.length) = List.range R.length := by
  intro f
  induction f with
  | zero => intro k ps h; have h' : ps = R := h; rw [← h']; rfl
  | succ f ih =>
    intro k ps h
    have hp0 := runN_pre sB (f + 1) k ps
    rw [h] at hp0
    simp only [runN] at h ⊢
    cases hk : ps[k]? with
    | none =>
      rw [hk] at h
      have h' : ps = R := h
      have := List.getElem?_eq_none_iff.1 hk
      rw [List.getElem?_eq_none (by simpa using this), ← h']
    | some p =>
      rw [hk] at h
      have hkl := (List.getElem?_eq_some_iff.1 hk).1
      have h' : runN sB f (k + 1) (addsN ps (sB p)) = R := h
      have hp := runN_pre sB f (k + 1) (addsN ps (sB p))
      rw [h'] at hp
      have e : (List.range ps.length)[k]? = some k := by simp [hkl]
      rw [e]
      show runN sC f (k + 1) (addsN (List.range ps.length) (sC k)) = _
      rw [hrow k p ps (by rw [pre_get hp0 hkl]; exact hk) hp]
      exact ih (k + 1) _ h'
theorem mlt_le {a b : Int × Bool} (h : ¬ mlt b a) : a.1 ≤ b.1 := by
  unfold mlt at h
  by_cases e : b.1 < a.1
  · exact absurd (.inl e) h
  · omega
theorem row_mem {B C : Bu} (hok : Vb B) (hT : TrimR B C) {k p a : Nat} (hp : (trimR B)[k]? = some p) (ha : (a : Int) < B.L) (x : Nat) : x ∈ succA C k a ↔ ∃ t ∈ succA B p a, numN (trimR B) t = x := by
  obtain ⟨hnd, _, _⟩ := trim_ok hok
  have hperm := trim_row hok hT (List.mem_of_getElem? hp) ha
  rw [numN_at hnd hp] at hperm
  have hperm' : (rowM C k a).Perm (renM (trimR B) (rowM B p a)) := hperm
  constructor
  · intro h
    obtain ⟨m, hm, rfl⟩ := List.mem_map.1 h
    obtain ⟨m0, h1, rfl⟩ := List.mem_map.1 (hperm'.mem_iff.1 hm)
    exact ⟨m0.1.toNat, List.mem_map.2 ⟨m0, h1, rfl⟩, by simp⟩
  · rintro ⟨t, ht, rfl⟩
    obtain ⟨m0, h1, rfl⟩ := List.mem_map.1 ht
    exact List.mem_map.2 ⟨((numN (trimR B) m0.1.toNat : Int), m0.2), hperm'.mem_iff.2 (List.mem_map.2 ⟨m0, h1, rfl⟩), by simp⟩
theorem row_sorted {B C : Bu} (hok : Vb B) (hT : TrimR B C) {k a : Nat} (hk : k < (trimR B).length) (ha : (a : Int) < B.L) : (succA C k a).Pairwise (· ≤ ·) := by
  have h1 := ((hT.row k hk).2 a ha).2
  unfold succA
  rw [List.pairwise_map, List.pairwise_iff_getElem]
  intro i j hi hj hij
  have h2 := mlt_le (h1 i j hij hj)
  rw [getD_lt' hi, getD_lt' hj] at h2
  omega
theorem letters_range {B C : Bu} (hok : Vb B) (hT : TrimR B C) {k p : Nat} (hp : (trimR B)[k]? = some p) : ∀ (n : Nat) (ps : List Nat), (n : Int) ≤ B.L → Pre (addsN ps ((List.range n).flatMap (succA B p))) (trimR B) →
    addsN (List.range ps.length) ((List.range n).flatMap (succA C k)) = List.range (addsN ps ((List.range n).flatMap (succA B p))).length := by
  intro n
  induction n with
  | zero => intro ps _ _; rfl
  | succ n ih =>
    intro ps hn hpre
    rw [List.range_succ, List.flatMap_append, addsN_append] at hpre ⊢
    rw [List.flatMap_append, addsN_append, ih ps (by omega) ((addsN_pre _ _).trans hpre)]
    have e : ∀ g : Nat → List Nat, [n].flatMap g = g n := fun g => by simp
    rw [e] at hpre ⊢
    rw [e]
    have hk := (List.getElem?_eq_some_iff.1 hp).1
    exact row_range (trim_ok hok).1 hpre (row_sorted hok hT hk (by omega)) fun x => row_mem hok hT hp (by omega) x
theorem start_range {B C : Bu} (hok : Vb B) (hT : TrimR B C) : C.start.map Int.toNat = List.range B.start.length := by
  rw [hT.st, List.map_map]
  apply List.ext_getElem?
  intro k
  by_cases hk : k < B.start.length
  · have := num_start hok hk
    rw [List.getD_eq_getElem?_getD, List.getElem?_eq_getElem hk] at this
    simp only [Option.getD_some] at this
    simp [hk, this]
  · rw [List.getElem?_eq_none (by simpa using hk), List.getElem?_eq_none (by simpa using hk)]
theorem stT_len {B : Bu} (hok : Vb B) : stT B = stN B := by
  have h1 : addsN [] (B.start.map Int.toNat) = stN B := by
    rw [addsN_nodup hok (B := B) (by simpa [stN] using stN_nd hok)]; rfl
  exact h1
theorem trimR_range {B C : Bu} (hok : Vb B) (hT : TrimR B C) : trimR C = List.range (trimR B).length := by
  have hokC := vb_trim hok hT
  have h0 : stT C = List.range (stT B).length := by
    rw [stT_len hokC, stT_len hok]
    unfold stN
    rw [start_range hok hT]
    simp
  have hR : runN (succT B) ((trimR B).length + 1) 0 (stT B) = trimR B := by
    have hl := ai_len hok (Pre.refl (trimR B))
    exact runN_stop _ (B.next.length + 1) 0 _ (by omega) rfl (by omega)
  have e : trimR C = runN (succT C) ((trimR B).length + 1) 0 (stT C) := by unfold trimR; rw [hT.len]; rfl
  rw [e, h0]
  refine runN_range (fun k p ps hp hpre => ?_) _ 0 _ hR
  have hL : C.L.toNat = B.L.toNat := by rw [hT.L]
  have h1 := hok.1
  unfold succT at hpre ⊢
  rw [hL]
  exact letters_range hok hT hp _ ps (by omega) hpre
theorem numN_range {n i : Nat} (h : i < n) : numN (List.range n) i = i := numN_at List.nodup_range (by simp [h])
theorem renM_range {n : Nat} {ms : Moves} (h : ∀ m ∈ ms, 0 ≤ m.1 ∧ m.1 < n) : renM (List.range n) ms = ms := by
  unfold renM
  conv => rhs; rw [← List.map_id ms]
  refine List.map_congr_left fun m hm => ?_
  have := h m hm
  rw [numN_range (by omega)]
  obtain ⟨a, b⟩ := m
  simp only at this
  simp only [id_eq, Prod.mk.injEq, and_true]
  omega
theorem mok_rng {n : Nat} {ms : Moves} (h : MOK n ms) : ∀ m ∈ ms, 0 ≤ m.1 ∧ m.1 < n := by
  intro m hm
  obtain ⟨j, hj⟩ := List.mem_iff_getElem?.1 hm
  have hjl := (List.getElem?_eq_some_iff.1 hj).1
  have h3 := h j hjl
  have hgd : ms.getD j (0, false) = m := by rw [List.getD_eq_getElem?_getD, hj]; rfl
  rw [hgd] at h3
  exact ⟨h3.1, h3.2.1⟩
theorem mlt_anti {a b : Int × Bool} (h1 : ¬ mlt b a) (h2 : ¬ mlt a b) : a = b := by
  by_cases h : a = b
  · exact h
  · exact absurd (mlt_tri h h1) h2
theorem trim_twice {B C D : Bu} (hok : Vb B) (hT : TrimR B C) (hD : TrimR C D) : D = C := by
  have hokC := vb_trim hok hT
  have hR := trimR_range hok hT
  have hCl := hT.len
  have hDl := hD.len
  rw [hR, List.length_range] at hDl
  refine Bu.ext hD.L ?_ (ext_getD (d := []) (by omega) fun k hk => ?_)
  · rw [hD.st, hR]
    conv => rhs; rw [← List.map_id C.start]
    refine List.map_congr_left fun z hz => ?_
    obtain ⟨j, hj⟩ := List.mem_iff_getElem?.1 hz
    have hjl := (List.getElem?_eq_some_iff.1 hj).1
    have := hokC.2.2.2.1 j hjl
    have hgd : C.start.getD j 0 = z := by rw [List.getD_eq_getElem?_getD, hj]; rfl
    rw [hgd, hCl] at this
    rw [numN_range (by omega)]
    simp only [id_eq]
    omega
  · have hk' : k < (trimR B).length := by omega
    have hkC : k < (trimR C).length := by rw [hR]; simpa using hk'
    obtain ⟨r1, r2⟩ := hD.row k hkC
    have hrC := hokC.2.2.2.2 k (by omega)
    refine ext_getD (d := []) ?_ fun a ha => ?_
    · have := hrC.1
      have := r1
      omega
    · have haL : (a : Int) < C.L := by omega
      obtain ⟨p1, p2⟩ := r2 a haL
      have hg : (trimR C).getD k 0 = k := by rw [hR, List.getD_eq_getElem?_getD]; simp [hk']
      rw [hg, hR] at p1
      have hmo : MOK C.next.length ((C.next.getD k []).getD a []) := hrC.2 a (by have := hrC.1; omega)
      rw [hCl] at hmo
      rw [renM_range (mok_rng hmo)] at p1
      have hs := ((hT.row k hk').2 a (by rw [← hT.L]; exact haL)).2
      refine List.Perm.eq_of_pairwise (le := fun x y => ¬ mlt y x) (fun x y _ _ h1 h2 => mlt_anti h1 h2) ?_ ?_ p1
      · rw [List.pairwise_iff_getElem]
        intro i j hi hj hij
        have := p2 i j hij hj
        rwa [getD_lt' hi, getD_lt' hj] at this
      · rw [List.pairwise_iff_getElem]
        intro i j hi hj hij
        have := hs i j hij hj
        rwa [getD_lt' hi, getD_lt' hj] at this
structure SimT (B : Bu) (f f' : Nat → Bool) : Prop where
  inR : ∀ p, f p = true → p ∈ trimR B
  same : ∀ p, p ∈ trimR B → f' (numN (trimR B) p) = f p
  from' : ∀ q, f' q = true → ∃ p, p ∈ trimR B ∧ q = numN (trimR B) p
theorem sim_step {B C : Bu} (hok : Vb B) (hT : TrimR B C) {f f' : Nat → Bool} (h : SimT B f f') {x : Nat} (hx : (x : Int) < B.L) : SimT B (StpS B f x) (StpS C f' x) := by
  obtain ⟨hnd, hlt, hcl⟩ := trim_ok hok
  have hin : ∀ p, p ∈ trimR B → ∀ m ∈ rowM B p x, m.1.toNat ∈ trimR B := fun p hp m hm => hcl p hp _ (List.mem_flatMap.2 ⟨x, List.mem_range.2 (by omega), List.mem_map.2 ⟨m, hm, rfl⟩⟩)
  have hrow : ∀ p, p ∈ trimR B → (rowM C (numN (trimR B) p) x).Perm (renM (trimR B) (rowM B p x)) := fun p hp => trim_row hok hT hp hx
  refine ⟨fun q hq => ?_, fun q hq => ?_, fun q hq => ?_⟩
  · rw [StpS, decide_eq_true_eq] at hq
    obtain ⟨p, m, h1, h2, h3, rfl⟩ := hq
    exact hin p (h.inR p h2) m h3
  · rw [Bool.eq_iff_iff, StpS, StpS, decide_eq_true_eq, decide_eq_true_eq]
    constructor
    · rintro ⟨i, m, h1, h2, h3, h4⟩
      obtain ⟨p, hp, rfl⟩ := h.from' i h2
      obtain ⟨m0, h5, rfl⟩ := List.mem_map.1 ((hrow p hp).mem_iff.1 h3)
      have h6 : numN (trimR B) m0.1.toNat = numN (trimR B) q := by simpa using h4
      exact ⟨p, m0, hlt p hp, by rw [← h.same p hp]; exact h2, h5, numN_inj (hin p hp m0 h5) hq h6⟩
    · rintro ⟨p, m, h1, h2, h3, rfl⟩
      have hp := h.inR p h2
      exact ⟨numN (trimR B) p, ((numN (trimR B) m.1.toNat : Int), m.2), by rw [hT.len]; exact numN_lt hp, by rw [h.same p hp]; exact h2, (hrow p hp).mem_iff.2 (List.mem_map.2 ⟨m, h3, rfl⟩), by simp⟩
  · rw [StpS, decide_eq_true_eq] at hq
    obtain ⟨i, m, h1, h2, h3, rfl⟩ := hq
    obtain ⟨p, hp, rfl⟩ := h.from' i h2
    obtain ⟨m0, h5, rfl⟩ := List.mem_map.1 ((hrow p hp).mem_iff.1 h3)
    exact ⟨_, hin p hp m0 h5, by simp⟩
theorem sim_run {B C : Bu} (hok : Vb B) (hT : TrimR B C) : ∀ (l : List Int) (f f' : Nat → Bool), (∀ z ∈ l, 0 ≤ z ∧ z < B.L) → SimT B f f' → SimT B (rnB B f l) (rnB C f' l) := by
  intro l
  induction l with
  | nil => intro f f' _ h; exact h
  | cons z l ih =>
    intro f f' hl h
    have hz := hl z (by simp)
    exact ih _ _ (fun y hy => hl y (by simp [hy])) (sim_step hok hT h (by omega))
theorem sim_start {B C : Bu} (hok : Vb B) (hT : TrimR B C) : SimT B (stF B) (stF C) := by
  have hin : ∀ z ∈ B.start, z.toNat ∈ trimR B := fun z hz => stN_in hok hT _ (List.mem_map.2 ⟨z, hz, rfl⟩)
  refine ⟨fun p hp => ?_, fun p hp => ?_, fun q hq => ?_⟩
  · rw [stF, decide_eq_true_eq] at hp
    obtain ⟨z, hz, rfl⟩ := hp
    exact hin z hz
  · rw [Bool.eq_iff_iff, stF, stF, decide_eq_true_eq, decide_eq_true_eq, hT.st]
    constructor
    · rintro ⟨z, hz, h⟩
      obtain ⟨y, hy, rfl⟩ := List.mem_map.1 hz
      exact ⟨y, hy, numN_inj (hin y hy) hp (by simpa using h)⟩
    · rintro ⟨z, hz, rfl⟩
      exact ⟨_, List.mem_map.2 ⟨z, hz, rfl⟩, by simp⟩
  · rw [stF, decide_eq_true_eq, hT.st] at hq
    obtain ⟨z, hz, rfl⟩ := hq
    obtain ⟨y, hy, rfl⟩ := List.mem_map.1 hz
    exact ⟨_, hin y hy, by simp⟩
theorem trim_alive {B C : Bu} (hok : Vb B) (hT : TrimR B C) {l : List Int} (hl : ∀ z ∈ l, 0 ≤ z ∧ z < B.L) : Alive C l ↔ Alive B l := by
  have hS := sim_run hok hT l _ _ hl (sim_start hok hT)
  obtain ⟨_, hlt, _⟩ := trim_ok hok
  constructor
  · rintro ⟨q, h1, h2⟩
    obtain ⟨p, hp, rfl⟩ := hS.from' q h2
    exact ⟨p, hlt p hp, by rw [← hS.same p hp]; exact h2⟩
  · rintro ⟨p, h1, h2⟩
    have hp := hS.inR p h2
    exact ⟨numN (trimR B) p, by rw [hT.len]; exact numN_lt hp, by rw [hS.same p hp]; exact h2⟩
end Go.Proofs.YtbdoggiabclkdaaGreatDoor
end
