/- Runs through a finite word: steps. -/
import Derived.Test.YtbdoggiabclkdaaGreatDoorTiter
import Derived.Test.YtbdoggiabclkdaaGreatDoorTauto
import Derived.Test.YtbdoggiabclkdaaGreatDoorBsame
set_option linter.unusedSimpArgs false
set_option linter.unusedVariables false
section
set_option linter.unusedSimpArgs false
set_option linter.unusedVariables false
namespace Go.Proofs.YtbdoggiabclkdaaGreatDoor
open Go Go.Pv
open Classical
def Stp (B : Bu) (f : Nat → Bool) (x q : Nat) : Prop := ∃ p m, p < B.next.length ∧ f p = true ∧ m ∈ rowM B p x ∧ m.1.toNat = q
def SV (B : Bu) (f : Nat → Bool) (x i k q : Nat) : Prop := ∃ p j m, (p < i ∨ p = i ∧ j < k) ∧ f p = true ∧ (rowM B p x)[j]? = some m ∧ m.1.toNat = q
theorem SV.init (B : Bu) (f : Nat → Bool) (x q : Nat) : ¬ SV B f x 0 0 q := by
  rintro ⟨p, j, m, h, _⟩
  omega
theorem SV.move {B : Bu} {f : Nat → Bool} {x i k q : Nat} {m : Int × Bool} (hf : f i = true) (hm : (rowM B i x)[k]? = some m) : SV B f x i (k + 1) q ↔ SV B f x i k q ∨ m.1.toNat = q := by
  constructor
  · rintro ⟨p, j, m', h, h1, h2, h3⟩
    by_cases he : p = i ∧ j = k
    · obtain ⟨rfl, rfl⟩ := he
      rw [hm] at h2
      cases h2
      exact .inr h3
    · exact .inl ⟨p, j, m', by omega, h1, h2, h3⟩
  · rintro (⟨p, j, m', h, h1, h2, h3⟩ | h)
    · exact ⟨p, j, m', by omega, h1, h2, h3⟩
    · exact ⟨i, k, m, .inr ⟨rfl, by omega⟩, hf, hm, h⟩
theorem SV.state {B : Bu} {f : Nat → Bool} {x i k q : Nat} (hk : f i = true → k = (rowM B i x).length) : SV B f x (i + 1) 0 q ↔ SV B f x i k q := by
  constructor
  · rintro ⟨p, j, m, h, h1, h2, h3⟩
    by_cases he : p = i
    · subst he
      have := (List.getElem?_eq_some_iff.1 h2).1
      have := hk h1
      exact ⟨p, j, m, .inr ⟨rfl, by omega⟩, h1, h2, h3⟩
    · exact ⟨p, j, m, by omega, h1, h2, h3⟩
  · rintro ⟨p, j, m, h, h1, h2, h3⟩
    exact ⟨p, j, m, by omega, h1, h2, h3⟩
theorem SV.fin {B : Bu} {f : Nat → Bool} {x q : Nat} : SV B f x B.next.length 0 q ↔ Stp B f x q := by
  constructor
  · rintro ⟨p, j, m, h, h1, h2, h3⟩
    exact ⟨p, m, by omega, h1, List.mem_of_getElem? h2, h3⟩
  · rintro ⟨p, m, h, h1, h2, h3⟩
    obtain ⟨j, hj⟩ := List.mem_iff_getElem?.1 h2
    exact ⟨p, j, m, .inl h, h1, hj, h3⟩
set_option maxHeartbeats 8000000 in
theorem steps_ok {v : LV} {B : Bu} {sv nv : LV} (hB : IsB v B sv nv) (hok : Vb B) (f : Nat → Bool) {x : Nat} (hx : (x : Int) < B.L) :
    PE 35 [v, .simm (bcells B.next.length f) B.next.length, .int .i64 (x : Int)] (fun r => ∃ g, r = .simm (bcells B.next.length g) B.next.length ∧ ∀ q, g q = true ↔ Stp B f x q) := by
  have hvc := hB.closed
  obtain ⟨rfl, hst, vs, hn⟩ := hB
  have hc1 := hst.sl.cell
  have hc2 := hn.sl.cell
  have hnl := hn.sl.len
  have hn3 := hok.2.2.1
  have hL1 := hok.1
  have hL2 := hok.2.1
  have hfin := fun q => SV.fin (B := B) (f := f) (x := x) (q := q)
  obtain ⟨n, hnn⟩ : ∃ n, B.next.length = n := ⟨_, rfl⟩
  have hfr := (Sl.simm (bcells n f) n)
  rw [hnn] at hnl hn3 hfin ⊢
  refine q_fnEx (t := 6) hm Tryz.func35 (by decide +kernel) c35 (Nat.le_of_ble_eq_true rfl) (by rw [LV.closed.closedAll, hvc]; simp [LV.closed, LV.closed.closedAll, bcells_closed]) rfl ?_
  have e0 : (envOf [LV.agg [.int .i64 B.L, sv, nv], .simm (bcells n f) n, .int .i64 (x : Int)]).at 0 = .agg [.int .i64 B.L, sv, nv] := by rw [envOf_at]; rfl
  have e1 : (envOf [LV.agg [.int .i64 B.L, sv, nv], .simm (bcells n f) n, .int .i64 (x : Int)]).at 1 = .simm (bcells n f) n := by rw [envOf_at]; rfl
  have e2 : (envOf [LV.agg [.int .i64 B.L, sv, nv], .simm (bcells n f) n, .int .i64 (x : Int)]).at 2 = .int .i64 (x : Int) := by rw [envOf_at]; rfl
  generalize envOf [LV.agg [.int .i64 B.L, sv, nv], .simm (bcells n f) n, .int .i64 (x : Int)] = e at *
  unfold l35
  dsimp only
  repeat' (first | refine gA @hnl ?_ | (refine gB @hnl ?_; intro bb hbb; cases bb <;> (try simp only [hbs, if_false, reduceCtorEq] at hbb)) | apply qc_seq | fail)
  refine u_mkB (n := n) wN rfl ef ef (by omega) ?_
  repeat' (first | refine gA trivial ?_ | (refine gB trivial ?_; intro bb hbb; cases bb <;> (try simp only [hbs, if_false, reduceCtorEq] at hbb)) | apply qc_seq | fail)
  refine qc_loop (fun m e s => ∃ (i : Nat) (g : Nat → Bool), m = n - i ∧ i ≤ n ∧ s.get 0 = some (.cells .mut (bcells n g)) ∧ (∀ q, g q = true ↔ SV B f x i 0 q) ∧ e.at 1 = .simm (bcells n f) n ∧ e.at 2 = .int .i64 (x : Int) ∧ e.at 3 = .pimm [.int .i64 B.L, sv, nv] 0 ∧ e.at 7 = .sref 0 0 n 1 ∧ e.at 8 = .int .i64 (i : Int)) _
    ⟨0, fun _ => false, rfl, by omega, by simp only [St.get_new, n_empty, if_true], fun q => ⟨fun h => (by cases h), fun h => absurd h (SV.init B f x q)⟩, ef, ef, ef, ef, by simp only [lk, sv1, sv2, sv3, Nat.reduceEqDiff, Nat.reduceAdd, Nat.reduceLeDiff, reduceIte, if_false, if_true, mkVal, unLV, List.map, optTmps]; rfl⟩ ?_
  clear e0 e1 e2
  clear e
  rintro m e s ⟨i, g, rfl, hi, g0, hg, e1, e2, e3, e7, e8⟩
  by_cases hil : i < n
  · have hiI : (i : Int) < (n : Int) := by omega
    have hwi : IntKind.i64.wrap ((i : Int) + 1) = ((i + 1 : Nat) : Int) := by rw [wrap_i64 _ (by omega) (by omega)]; rfl
    have g1 : vs[i]? = some (vs.getD i .top) := hn.get (by omega)
    obtain ⟨ws, hr⟩ := hn.row i (by omega)
    have hmv0 := (hok.2.2.2.2 i (by omega)).2
    have hLI : B.L = ((B.next.getD i []).length : Int) := ((hok.2.2.2.2 i (by omega)).1).symm
    have hrl := hr.sl.len
    have hrw : rowM B i x = (B.next.getD i []).getD x [] := rfl
    have hfi : (bcells n f)[i]? = some (.bool (f i)) := bcells_get hil
    have hiaf : ∀ s, iaLV 1 (.simm (bcells n f) n) (.int .i64 (i : Int)) s = some (.pimm (bcells n f) i, s) := fun s => by
      have := iaN (esz := 1) (k := .i64) (s := s) (i := i) hfr hiI
      simpa using this
    have hiav : ∀ s, iaLV 1 nv (.int .i64 (i : Int)) s = some (.pimm vs i, s) := fun s => by
      have := iaN (esz := 1) (k := .i64) (s := s) (i := i) hn.sl (by omega)
      simpa using this
    generalize hrow : B.next.getD i [] = row at *
    generalize hrv : vs.getD i .top = rv at *
    have hxr : x < row.length := by omega
    have hxI : (x : Int) < (row.length : Int) := by omega
    have g2 : ws[x]? = some (ws.getD x .top) := hr.get hxr
    have hm' := hr.row x hxr
    have hmo := hmv0 x hxr
    rw [hnn] at hmo
    have hiax : ∀ s, iaLV 1 rv (.int .i64 (x : Int)) s = some (.pimm ws x, s) := fun s => by
      have := iaN (esz := 1) (k := .i64) (s := s) (i := x) hr.sl (by omega)
      simpa using this
    generalize hms : row.getD x [] = ms at *
    generalize hmv : ws.getD x .top = mv at *
    have hml := hm'.sl.len
    repeat' (first | refine gA @hnl ?_ | (refine gB @hnl ?_; intro bb hbb; cases bb <;> (try simp only [hbs, if_false, reduceCtorEq] at hbb)) | apply qc_seq | fail)
    any_goals (exfalso; omega)
    refine qc_loop (fun m e s => ∃ (k : Nat) (g : Nat → Bool), m = ms.length - k ∧ k ≤ ms.length ∧ (f i = false → k = 0) ∧ s.get 0 = some (.cells .mut (bcells n g)) ∧ (∀ q, g q = true ↔ SV B f x i k q) ∧ e.at 1 = .simm (bcells n f) n ∧ e.at 2 = .int .i64 (x : Int) ∧ e.at 3 = .pimm [.int .i64 B.L, sv, nv] 0 ∧ e.at 7 = .sref 0 0 n 1 ∧ e.at 8 = .int .i64 (i : Int) ∧ e.at 9 = .int .i64 (k : Int)) _
      ⟨0, g, rfl, by omega, fun _ => rfl, g0, hg, ef, ef, ef, ef, ef, by simp only [lk, sv1, sv2, sv3, Nat.reduceEqDiff, Nat.reduceAdd, Nat.reduceLeDiff, reduceIte, if_false, if_true, mkVal, unLV, List.map, optTmps]; rfl⟩ ?_
    clear e1 e2 e3 e7 e8 g0 hg hbb
    clear e s g
    rintro m e s ⟨k, g, rfl, hk, hk0, g0, hg, e1, e2, e3, e7, e8, e9⟩
    have out : ∀ (hkk : f i = true → k = ms.length) (e' : Env) (s' : St), s'.get 0 = some (.cells .mut (bcells n g)) → (e'.at 1 = .simm (bcells n f) n ∧ e'.at 2 = .int .i64 (x : Int) ∧ e'.at 3 = .pimm [.int .i64 B.L, sv, nv] 0 ∧ e'.at 7 = .sref 0 0 n 1 ∧ e'.at 8 = .int .i64 ((i + 1 : Nat) : Int)) →
        ∃ m, m < n - i ∧ ∃ (i : Nat) (g : Nat → Bool), m = n - i ∧ i ≤ n ∧ s'.get 0 = some (.cells .mut (bcells n g)) ∧ (∀ q, g q = true ↔ SV B f x i 0 q) ∧ e'.at 1 = .simm (bcells n f) n ∧ e'.at 2 = .int .i64 (x : Int) ∧ e'.at 3 = .pimm [.int .i64 B.L, sv, nv] 0 ∧ e'.at 7 = .sref 0 0 n 1 ∧ e'.at 8 = .int .i64 (i : Int) := fun hkk e' s' hs he =>
      ⟨n - (i + 1), by omega, i + 1, g, rfl, by omega, hs, fun q => by rw [hg q]; exact (SV.state fun h => by rw [hrw]; exact hkk h).symm, he⟩
    cases hfv : f i with
    | false =>
      rw [hfv] at hfi
      repeat' (first | refine gA (And.intro @hiaf @hfi) ?_ | (refine gB (And.intro @hiaf @hfi) ?_; intro bb hbb; cases bb <;> (try simp only [hbs, if_false, reduceCtorEq] at hbb)) | apply qc_seq | fail)
      exact out (fun h => by rw [hfv] at h; cases h) _ _ g0 (by simp only [lk, sv1, sv2, sv3, Nat.reduceEqDiff, Nat.reduceAdd, Nat.reduceLeDiff, reduceIte, if_false, if_true, mkVal, unLV, List.map, optTmps, e1, e2, e3, e7, hwi, and_self])
    | true =>
      rw [hfv] at hfi
      by_cases hkl : k < ms.length
      · have hkI : (k : Int) < (ms.length : Int) := by omega
        have hwk := wrap_succ hkI hm'.len
        have hmr := hmo k hkl
        obtain ⟨md, hmd⟩ : ∃ md, ms[k]? = some md := ⟨_, List.getElem?_eq_getElem hkl⟩
        have hgd : ms.getD k (0, false) = md := by rw [List.getD_eq_getElem?_getD, hmd]; rfl
        rw [hgd] at hmr
        have hmc := mcells_get0 hkl
        rw [hgd] at hmc
        have hsv := fun q => SV.move (B := B) (x := x) (q := q) hfv (by rw [hrw]; exact hmd)
        obtain ⟨mt, mg⟩ := md
        obtain ⟨t, rfl⟩ : ∃ t : Nat, mt = (t : Int) := ⟨mt.toNat, by omega⟩
        have htn : t < n := by have := hmr.2.1; simp only at this; omega
        have htI : (t : Int) < (n : Int) := by omega
        have hmcx : (mcells ms)[k * 2]? = some (.int .i64 (t : Int)) := hmc
        have hiam : ∀ s, iaLV 2 mv (.int .i64 (k : Int)) s = some (.pimm (mcells ms) (k * 2), s) := fun s => iaN hm'.sl hkI
        clear hmr hgd hmc
        repeat' (first | refine gA (And.intro @hiaf (And.intro @hfi (And.intro @hiav (And.intro @g1 (And.intro @hrl (And.intro @hiax (And.intro @g2 (And.intro @hml (And.intro @hiam (And.intro @hmcx @iaS)))))))))) ?_ | (refine gB (And.intro @hiaf (And.intro @hfi (And.intro @hiav (And.intro @g1 (And.intro @hrl (And.intro @hiax (And.intro @g2 (And.intro @hml (And.intro @hiam (And.intro @hmcx @iaS)))))))))) ?_; intro bb hbb; cases bb <;> (try simp only [hbs, if_false, reduceCtorEq] at hbb)) | apply qc_seq | fail)
        any_goals (exfalso; omega)
        refine q_storeB (i := 0) (q := t) (n := n) (b := true) (f := g) (f' := fun j => if j = t then true else g j) (by simp only [lk, sv1, sv2, sv3, Nat.reduceEqDiff, Nat.reduceAdd, Nat.reduceLeDiff, reduceIte, if_false, if_true, mkVal, unLV, List.map, optTmps, Nat.zero_add, Nat.mul_one]) ef g0 htn (fun j => rfl) (fun s2 n2 h2 o2 => ?_)
        repeat' (first | refine gA trivial ?_ | (refine gB trivial ?_; intro bb hbb; cases bb <;> (try simp only [hbs, if_false, reduceCtorEq] at hbb)) | apply qc_seq | fail)
        refine ⟨ms.length - (k + 1), by omega, k + 1, fun j => if j = t then true else g j, rfl, by omega, fun h => (by cases h), h2, fun q => ?_, ?_⟩
        · rw [hsv q, ← hg q]
          by_cases hq : q = t
          · subst hq; simp
          · have : ¬ t = q := fun h => hq h.symm
            simp [hq, this]
        · simp only [lk, sv1, sv2, sv3, Nat.reduceEqDiff, Nat.reduceAdd, Nat.reduceLeDiff, reduceIte, if_false, if_true, mkVal, unLV, List.map, optTmps, e1, e2, e3, e7, e8, hwk, and_self]
      · repeat' (first | refine gA (And.intro @hiaf (And.intro @hfi (And.intro @hiav (And.intro @g1 (And.intro @hrl (And.intro @hiax (And.intro @g2 @hml))))))) ?_ | (refine gB (And.intro @hiaf (And.intro @hfi (And.intro @hiav (And.intro @g1 (And.intro @hrl (And.intro @hiax (And.intro @g2 @hml))))))) ?_; intro bb hbb; cases bb <;> (try simp only [hbs, if_false, reduceCtorEq] at hbb)) | apply qc_seq | fail)
        any_goals (exfalso; omega)
        exact out (fun _ => by omega) _ _ g0 (by simp only [lk, sv1, sv2, sv3, Nat.reduceEqDiff, Nat.reduceAdd, Nat.reduceLeDiff, reduceIte, if_false, if_true, mkVal, unLV, List.map, optTmps, e1, e2, e3, e7, hwi, and_self])
  · repeat' (first | refine gA trivial ?_ | (refine gB trivial ?_; intro bb hbb; cases bb <;> (try simp only [hbs, if_false, reduceCtorEq] at hbb)) | apply qc_seq | fail)
    any_goals (exfalso; omega)
    obtain rfl : i = n := by omega
    refine ⟨.inr trivial, .simm (bcells i g) i, s.put 0 (.cells .app (bcells i g)), ?_, by simp [LV.closed, bcells_closed], g, rfl, fun q => by rw [hg q]; exact hfin q⟩
    simp only [lk, sv1, sv2, sv3, Nat.reduceEqDiff, Nat.reduceAdd, Nat.reduceLeDiff, reduceIte, if_false, if_true, mkVal, unLV, List.map, optTmps, e7]
    exact frz_sref g0 (by simp) (bcells_closed _ _)
end Go.Proofs.YtbdoggiabclkdaaGreatDoor
end
section
set_option linter.unusedSimpArgs false
set_option linter.unusedVariables false
namespace Go.Proofs.YtbdoggiabclkdaaGreatDoor
open Go Go.Pv
open Classical
noncomputable def StpS (B : Bu) (f : Nat → Bool) (x q : Nat) : Bool := decide (Stp B f x q)
noncomputable def rnB (B : Bu) (f : Nat → Bool) (l : List Int) : Nat → Bool := l.foldl (fun f z => StpS B f z.toNat) f
noncomputable def stF (B : Bu) (q : Nat) : Bool := decide (∃ z ∈ B.start, z.toNat = q)
def Alive (B : Bu) (l : List Int) : Prop := ∃ q, q < B.next.length ∧ rnB B (stF B) l q = true
theorem stp_lt {B : Bu} (hok : Vb B) {f : Nat → Bool} {x q : Nat} (h : Stp B f x q) : q < B.next.length := by
  obtain ⟨p, m, h1, _, h2, rfl⟩ := h
  have hrow := hok.2.2.2.2 p h1
  by_cases hx : x < (B.next.getD p []).length
  · have hmo := hrow.2 x hx
    obtain ⟨j, hj⟩ := List.mem_iff_getElem?.1 h2
    have hjl := (List.getElem?_eq_some_iff.1 hj).1
    have h3 := hmo j hjl
    have hgd : ((B.next.getD p []).getD x []).getD j (0, false) = m := by
      rw [List.getD_eq_getElem?_getD, show ((B.next.getD p []).getD x [])[j]? = some m from hj]; rfl
    rw [hgd] at h3
    omega
  · have : rowM B p x = [] := by
      unfold rowM
      rw [List.getD_eq_getElem?_getD, List.getElem?_eq_none (by omega)]; rfl
    rw [this] at h2
    cases h2
def InV (n : Nat) (s : St) (v : LV) (f : Nat → Bool) : Prop := v = .simm (bcells n f) n ∨ (v = .sref 0 0 n 1 ∧ s.get 0 = some (.cells .mut (bcells n f)))
theorem InV.frz {n : Nat} {s : St} {v a c : LV} {f : Nat → Bool} (h : InV n s v f) (ha : a.closed = true) (hc : c.closed = true) : ∃ s', frz.frzAll (frz frzDepth) [a, v, c] s = some ([a, .simm (bcells n f) n, c], s') := by
  have h1 : ∃ s', Go.Pv.frz frzDepth v s = some (.simm (bcells n f) n, s') := by
    rcases h with rfl | ⟨rfl, hg⟩
    · exact ⟨s, frzD_closed (by simp [LV.closed, bcells_closed])⟩
    · exact ⟨_, frz_sref hg (len := n) (by simp) (bcells_closed _ _)⟩
  obtain ⟨s', h1⟩ := h1
  refine ⟨s', ?_⟩
  simp only [Go.Pv.frz.frzAll, frzD_closed ha, h1, frzD_closed hc, Option.bind_eq_bind, Option.bind_some]
theorem foldl_snoc (B : Bu) (f : Nat → Bool) (l : List Int) (z : Int) : rnB B f (l ++ [z]) = StpS B (rnB B f l) z.toNat := by simp [rnB]
set_option maxHeartbeats 16000000 in
theorem alive_ok {v : LV} {B : Bu} {sv nv : LV} (hB : IsB v B sv nv) (hok : Vb B) {lv : LV} {l : List Int} (hl : IsInts lv l) (hr : ∀ z ∈ l, 0 ≤ z ∧ z < B.L) :
    PO 17 [v, lv] (.bool (decide (Alive B l))) := by
  have hvc := hB.closed
  have hstp := fun (f : Nat → Bool) {x : Nat} (hx : (x : Int) < B.L) => steps_ok hB hok f hx
  obtain ⟨rfl, hst, vs, hn⟩ := hB
  have hc1 := hst.sl.cell
  have hc2 := hn.sl.cell
  have hnl := hn.sl.len
  have hstl := hst.sl.len
  have hll := hl.sl.len
  have hn3 := hok.2.2.1
  obtain ⟨n, hnn⟩ : ∃ n, B.next.length = n := ⟨_, rfl⟩
  have hsok := hok.2.2.2.1
  have hal : Alive B l ↔ ∃ q, q < n ∧ rnB B (stF B) l q = true := by rw [← hnn]; exact Iff.rfl
  rw [hnn] at hnl hn3 hstp hsok
  refine q_fn (t := 4) hm Tryz.func17 (by decide +kernel) c17 (Nat.le_of_ble_eq_true rfl) (by rw [LV.closed.closedAll, hvc]; simp [LV.closed.closedAll, hl.closed]) rfl rfl ?_
  have e0 : (envOf [LV.agg [.int .i64 B.L, sv, nv], lv]).at 0 = .agg [.int .i64 B.L, sv, nv] := by rw [envOf_at]; rfl
  have e1 : (envOf [LV.agg [.int .i64 B.L, sv, nv], lv]).at 1 = lv := by rw [envOf_at]; rfl
  generalize envOf [LV.agg [.int .i64 B.L, sv, nv], lv] = e at *
  unfold l17
  dsimp only
  repeat' (first | refine gA @hnl ?_ | (refine gB @hnl ?_; intro bb hbb; cases bb <;> (try simp only [hbs, if_false, reduceCtorEq] at hbb)) | apply qc_seq | fail)
  refine u_mkB (n := n) wN rfl ef ef (by omega) ?_
  repeat' (first | refine gA trivial ?_ | (refine gB trivial ?_; intro bb hbb; cases bb <;> (try simp only [hbs, if_false, reduceCtorEq] at hbb)) | apply qc_seq | fail)
  refine qc_loop (fun m e s => ∃ (i : Nat) (g : Nat → Bool), m = B.start.length - i ∧ i ≤ B.start.length ∧ s.get 0 = some (.cells .mut (bcells n g)) ∧ (∀ q, g q = true ↔ ∃ j, j < i ∧ (B.start.getD j 0).toNat = q) ∧ e.at 1 = lv ∧ e.at 2 = .pimm [.int .i64 B.L, sv, nv] 0 ∧ e.at 5 = .sref 0 0 n 1 ∧ e.at 6 = .int .i64 (i : Int)) _
    ⟨0, fun _ => false, rfl, by omega, by simp only [St.get_new, n_empty, if_true], fun q => ⟨fun h => (by cases h), fun ⟨j, h, _⟩ => absurd h (Nat.not_lt_zero _)⟩, ef, ef, ef, by simp only [lk, sv1, sv2, sv3, Nat.reduceEqDiff, Nat.reduceAdd, Nat.reduceLeDiff, reduceIte, if_false, if_true, mkVal, unLV, List.map, optTmps]; rfl⟩ ?_
  clear e0 e1
  clear e
  rintro m e s ⟨i, g, rfl, hi, g0, hg, e1, e2, e5, e6⟩
  by_cases hil : i < B.start.length
  · have hiI : (i : Int) < (B.start.length : Int) := by omega
    have hwi := wrap_succ hiI hst.len
    have hz := hsok i hil
    obtain ⟨z, hzz⟩ : ∃ z, B.start.getD i 0 = z := ⟨_, rfl⟩
    have hgz : (ints B.start)[i]? = some (.int .i64 z) := by rw [ints_get hiI, hzz]
    rw [hzz] at hz
    obtain ⟨t, rfl⟩ : ∃ t : Nat, z = (t : Int) := ⟨z.toNat, by omega⟩
    have htn : t < n := by omega
    have htI : (t : Int) < (n : Int) := by omega
    have hia : ∀ s, iaLV 1 sv (.int .i64 (i : Int)) s = some (.pimm (ints B.start) i, s) := fun s => by
      have := iaN (esz := 1) (k := .i64) (s := s) (i := i) hst.sl hiI
      simpa using this
    repeat' (first | refine gA (And.intro @hstl (And.intro @hia (And.intro @hgz @iaS))) ?_ | (refine gB (And.intro @hstl (And.intro @hia (And.intro @hgz @iaS))) ?_; intro bb hbb; cases bb <;> (try simp only [hbs, if_false, reduceCtorEq] at hbb)) | apply qc_seq | fail)
    any_goals (exfalso; omega)
    refine q_storeB (i := 0) (q := t) (n := n) (b := true) (f := g) (f' := fun j => if j = t then true else g j) (by simp only [lk, sv1, sv2, sv3, Nat.reduceEqDiff, Nat.reduceAdd, Nat.reduceLeDiff, reduceIte, if_false, if_true, mkVal, unLV, List.map, optTmps, Nat.zero_add, Nat.mul_one]) ef g0 htn (fun j => rfl) (fun s2 n2 h2 o2 => ?_)
    repeat' (first | refine gA trivial ?_ | (refine gB trivial ?_; intro bb hbb; cases bb <;> (try simp only [hbs, if_false, reduceCtorEq] at hbb)) | apply qc_seq | fail)
    refine ⟨B.start.length - (i + 1), by omega, i + 1, fun j => if j = t then true else g j, rfl, by omega, h2, fun q => ?_, ?_⟩
    · by_cases hq : q = t
      · subst hq
        simp only [if_true, true_iff]
        exact ⟨i, by omega, by rw [hzz]; simp⟩
      · simp only [hq, if_false, hg q]
        constructor
        · rintro ⟨j, h1, h3⟩; exact ⟨j, by omega, h3⟩
        · rintro ⟨j, h1, h3⟩
          by_cases hj : j = i
          · subst hj; rw [hzz] at h3; simp at h3; exact absurd h3.symm hq
          · exact ⟨j, by omega, h3⟩
    · simp only [lk, sv1, sv2, sv3, Nat.reduceEqDiff, Nat.reduceAdd, Nat.reduceLeDiff, reduceIte, if_false, if_true, mkVal, unLV, List.map, optTmps, e1, e2, e5, hwi, and_self]
  · repeat' (first | refine gA @hstl ?_ | (refine gB @hstl ?_; intro bb hbb; cases bb <;> (try simp only [hbs, if_false, reduceCtorEq] at hbb)) | apply qc_seq | fail)
    any_goals (exfalso; omega)
    have hgs : g = stF B := funext fun q => by
      rw [Bool.eq_iff_iff, hg q, stF, decide_eq_true_eq]
      constructor
      · rintro ⟨j, h1, h2⟩
        exact ⟨B.start.getD j 0, getD_mem (by omega), h2⟩
      · rintro ⟨z, hz, h2⟩
        obtain ⟨j, hj⟩ := List.mem_iff_getElem?.1 hz
        have hjl := (List.getElem?_eq_some_iff.1 hj).1
        exact ⟨j, by omega, by rw [List.getD_eq_getElem?_getD, hj]; exact h2⟩
    rw [hgs] at g0
    refine qc_loop (fun m e s => ∃ (i : Nat) (v : LV), m = l.length - i ∧ i ≤ l.length ∧ InV n s v (rnB B (stF B) (l.take i)) ∧ e.at 1 = lv ∧ e.at 2 = .pimm [.int .i64 B.L, sv, nv] 0 ∧ e.at 5 = v ∧ e.at 7 = .int .i64 (i : Int)) _
      ⟨0, _, rfl, by omega, .inr ⟨rfl, by rw [List.take_zero]; exact g0⟩, ef, ef, ef, by simp only [lk, sv1, sv2, sv3, Nat.reduceEqDiff, Nat.reduceAdd, Nat.reduceLeDiff, reduceIte, if_false, if_true, mkVal, unLV, List.map, optTmps]; rfl⟩ ?_
    clear e1 e2 e5 e6 g0 hg hgs hil hi hbb
    clear e s g
    clear i
    rintro m e s ⟨i, v, rfl, hi, hI, e1, e2, e5, e7⟩
    by_cases hil : i < l.length
    · have hiI : (i : Int) < (l.length : Int) := by omega
      have hwi := wrap_succ hiI hl.len
      have hz := hr _ (getD_mem (d := 0) hil)
      obtain ⟨z, hzz⟩ : ∃ z, l.getD i 0 = z := ⟨_, rfl⟩
      have hgz : (ints l)[i]? = some (.int .i64 z) := by rw [ints_get hiI, hzz]
      rw [hzz] at hz
      have htk : l.take (i + 1) = l.take i ++ [z] := by
        rw [← hzz, List.getD_eq_getElem?_getD, List.getElem?_eq_getElem hil, List.take_add_one, List.getElem?_eq_getElem hil]; rfl
      obtain ⟨t, rfl⟩ : ∃ t : Nat, z = (t : Int) := ⟨z.toNat, by omega⟩
      have hia : ∀ s, iaLV 1 lv (.int .i64 (i : Int)) s = some (.pimm (ints l) i, s) := fun s => by
        have := iaN (esz := 1) (k := .i64) (s := s) (i := i) hl.sl hiI
        simpa using this
      have hfr := hI.frz (a := .agg [.int .i64 B.L, sv, nv]) (c := .int .i64 (t : Int)) hvc rfl
      obtain ⟨s', hfr⟩ := hfr
      repeat' (first | refine gA (And.intro @hll (And.intro @hia @hgz)) ?_ | (refine gB (And.intro @hll (And.intro @hia @hgz)) ?_; intro bb hbb; cases bb <;> (try simp only [hbs, if_false, reduceCtorEq] at hbb)) | apply qc_seq | fail)
      any_goals (exfalso; omega)
      refine q_call wN rfl (by simp only [List.map, lk, sv1, sv2, sv3, Nat.reduceEqDiff, Nat.reduceAdd, Nat.reduceLeDiff, reduceIte, if_false, if_true, mkVal, unLV, List.map, optTmps]) (call_frz hfr (pure_callEx hG0 (hstp _ hz.2) fun r hrr hrc => ⟨trivial, ?_⟩))
      obtain ⟨g, rfl, hg⟩ := hrr
      simp only [Env.put_some]
      repeat' (first | refine gA trivial ?_ | (refine gB trivial ?_; intro bb hbb; cases bb <;> (try simp only [hbs, if_false, reduceCtorEq] at hbb)) | apply qc_seq | fail)
      refine ⟨l.length - (i + 1), by omega, i + 1, _, rfl, by omega, .inl rfl, ?_⟩
      rw [htk, foldl_snoc]
      have hge : g = StpS B (rnB B (stF B) (l.take i)) t := funext fun q => by
        rw [Bool.eq_iff_iff, hg q, StpS, decide_eq_true_eq]
      rw [hge]
      simp only [lk, sv1, sv2, sv3, Nat.reduceEqDiff, Nat.reduceAdd, Nat.reduceLeDiff, reduceIte, if_false, if_true, mkVal, unLV, List.map, optTmps, e1, e2, hwi, Int.toNat_natCast, and_self]
    · rw [List.take_of_length_le (by omega)] at hI
      generalize hF : rnB B (stF B) l = F at *
      have hvl : slLen v = some n := by
        rcases hI with rfl | ⟨rfl, _⟩ <;> rfl
      repeat' (first | refine gA @hll ?_ | (refine gB @hll ?_; intro bb hbb; cases bb <;> (try simp only [hbs, if_false, reduceCtorEq] at hbb)) | apply qc_seq | fail)
      any_goals (exfalso; omega)
      refine qc_loop (fun m e s => ∃ (i : Nat), m = n - i ∧ i ≤ n ∧ InV n s v F ∧ (∀ k, k < i → F k = false) ∧ e.at 5 = v ∧ e.at 8 = .int .i64 (i : Int)) _
        ⟨0, rfl, by omega, hI, fun k hk => absurd hk (Nat.not_lt_zero _), ef, by simp only [lk, sv1, sv2, sv3, Nat.reduceEqDiff, Nat.reduceAdd, Nat.reduceLeDiff, reduceIte, if_false, if_true, mkVal, unLV, List.map, optTmps]; rfl⟩ ?_
      clear e1 e2 e5 e7 hI hi hil hbb
      clear e s i
      rintro m e s ⟨i, rfl, hi, hI, hno, e5, e8⟩
      by_cases hil : i < n
      · have hiI : (i : Int) < (n : Int) := by omega
        have hwi : IntKind.i64.wrap ((i : Int) + 1) = ((i + 1 : Nat) : Int) := by rw [wrap_i64 _ (by omega) (by omega)]; rfl
        have hgi : (bcells n F)[i]? = some (.bool (F i)) := bcells_get hil
        have hia : ∀ s, iaLV 1 (.simm (bcells n F) n) (.int .i64 (i : Int)) s = some (.pimm (bcells n F) i, s) := fun s => by
          have := iaN (esz := 1) (k := .i64) (s := s) (i := i) (Sl.simm (bcells n F) n) hiI
          simpa using this
        have hnx : F i = false → ∀ k, k < i + 1 → F k = false := fun h k hk => by
          by_cases hki : k < i
          · exact hno k hki
          · obtain rfl : k = i := by omega
            exact h
        cases hFi : F i with
        | true =>
          have ht : decide (Alive B l) = true := decide_eq_true (hal.2 ⟨i, hil, hFi⟩)
          rw [ht]
          rw [hFi] at hgi
          rcases hI with rfl | ⟨rfl, h0⟩
          · repeat' (first | refine gA (And.intro @hia @hgi) ?_ | (refine gB (And.intro @hia @hgi) ?_; intro bb hbb; cases bb <;> (try simp only [hbs, if_false, reduceCtorEq] at hbb)) | apply qc_seq | fail)
            any_goals (exfalso; omega)
            exact ⟨.inr trivial, ef⟩
          · repeat' (first | refine gA (And.intro @iaS @hgi) ?_ | (refine gB (And.intro @iaS @hgi) ?_; intro bb hbb; cases bb <;> (try simp only [hbs, if_false, reduceCtorEq] at hbb)) | apply qc_seq | fail)
            any_goals (exfalso; omega)
            exact ⟨.inr trivial, ef⟩
        | false =>
          rw [hFi] at hgi
          have hI' := hI
          rcases hI with rfl | ⟨rfl, h0⟩
          · repeat' (first | refine gA (And.intro @hia @hgi) ?_ | (refine gB (And.intro @hia @hgi) ?_; intro bb hbb; cases bb <;> (try simp only [hbs, if_false, reduceCtorEq] at hbb)) | apply qc_seq | fail)
            any_goals (exfalso; omega)
            exact ⟨n - (i + 1), by omega, i + 1, rfl, by omega, hI', hnx hFi, ef, ef⟩
          · repeat' (first | refine gA (And.intro @iaS @hgi) ?_ | (refine gB (And.intro @iaS @hgi) ?_; intro bb hbb; cases bb <;> (try simp only [hbs, if_false, reduceCtorEq] at hbb)) | apply qc_seq | fail)
            any_goals (exfalso; omega)
            exact ⟨n - (i + 1), by omega, i + 1, rfl, by omega, hI', hnx hFi, ef, ef⟩
      · have ht : decide (Alive B l) = false := decide_eq_false fun h => by
          obtain ⟨q, h1, h2⟩ := hal.1 h
          rw [hno q (by omega)] at h2
          cases h2
        rw [ht]
        repeat' (first | refine gA trivial ?_ | (refine gB trivial ?_; intro bb hbb; cases bb <;> (try simp only [hbs, if_false, reduceCtorEq] at hbb)) | apply qc_seq | fail)
        any_goals (exfalso; omega)
        exact ⟨.inr trivial, ef⟩
end Go.Proofs.YtbdoggiabclkdaaGreatDoor
end
section
set_option linter.unusedSimpArgs false
set_option linter.unusedVariables false
namespace Go.Proofs.YtbdoggiabclkdaaGreatDoor
open Go Go.Pv
open Classical
def stN (B : Bu) : List Nat := B.start.map Int.toNat
theorem nd_inj {α : Type} {l : List α} (h : l.Nodup) {i j : Nat} (hi : i < l.length) (hj : j < l.length) (e : l[i] = l[j]) : i = j := by
  rw [List.nodup_iff_pairwise_ne, List.pairwise_iff_getElem] at h
  rcases Nat.lt_trichotomy i j with h1 | h1 | h1
  · exact absurd e (h i j hi hj h1)
  · exact h1
  · exact absurd e.symm (h j i hj hi h1)
theorem getD_lt' {α : Type} {l : List α} {k : Nat} {d : α} (h : k < l.length) : l.getD k d = l[k] := by simp [List.getD_eq_getElem?_getD, h]
theorem trim_row {B C : Bu} (hok : Vb B) (hT : TrimR B C) {p a : Nat} (hp : p ∈ trimR B) (ha : (a : Int) < B.L) : ((C.next.getD (numN (trimR B) p) []).getD a []).Perm (renM (trimR B) (rowM B p a)) := by
  have h1 := (hT.row _ (numN_lt hp)).2 a ha
  have h2 : (trimR B).getD (numN (trimR B) p) 0 = p := by rw [List.getD_eq_getElem?_getD, numN_get hp]; rfl
  rw [h2] at h1
  exact h1.1
theorem sok_lt {n : Nat} {st : List Int} (h : SOK n st) : ∀ i j, i < j → j < st.length → st.getD i 0 < st.getD j 0 := by
  intro i j hij
  induction j with
  | zero => omega
  | succ j ih =>
    intro hj
    have h1 := (h (j + 1) hj).2.2 (by omega)
    rw [Nat.add_sub_cancel] at h1
    by_cases he : i = j
    · rw [he]; exact h1
    · have := ih (by omega) (by omega)
      omega
structure SimT (B : Bu) (f f' : Nat → Bool) : Prop where
  inR : ∀ p, f p = true → p ∈ trimR B
  same : ∀ p, p ∈ trimR B → f' (numN (trimR B) p) = f p
  from' : ∀ q, f' q = true → ∃ p, p ∈ trimR B ∧ q = numN (trimR B) p
theorem sim_step {B C : Bu} (hok : Vb B) (hT : TrimR B C) {f f' : Nat → Bool} (h : SimT B f f') {x : Nat} (hx : (x : Int) < B.L) : SimT B (StpS B f x) (StpS C f' x) := by
  obtain ⟨hnd, hlt, hcl⟩ := trim_ok hok
  have hin : ∀ p, p ∈ trimR B → ∀ m ∈ rowM B p x, m.1.toNat ∈ trimR B := fun p hp m hm => hcl p hp _ (List.mem_flatMap.2 ⟨x, List.mem_range.2 (by omega), List.mem_map.2 ⟨m, hm, rfl⟩⟩)
  have hrow : ∀ p, p ∈ trimR B → (rowM C (numN (trimR B) p) x).Perm (renM (trimR B) (rowM B p x)) := fun p hp => trim_row hok hT hp hx
  refine ⟨fun q hq => ?_, fun q hq => ?_, fun q hq => ?_⟩
  · rw [StpS, decide_eq_true_eq] at hq
    obtain ⟨p, m, h1, h2, h3, rfl⟩ := hq
    exact hin p (h.inR p h2) m h3
  · rw [Bool.eq_iff_iff, StpS, StpS, decide_eq_true_eq, decide_eq_true_eq]
    constructor
    · rintro ⟨i, m, h1, h2, h3, h4⟩
      obtain ⟨p, hp, rfl⟩ := h.from' i h2
      obtain ⟨m0, h5, rfl⟩ := List.mem_map.1 ((hrow p hp).mem_iff.1 h3)
      have h6 : numN (trimR B) m0.1.toNat = numN (trimR B) q := by simpa using h4
      exact ⟨p, m0, hlt p hp, by rw [← h.same p hp]; exact h2, h5, numN_inj (hin p hp m0 h5) hq h6⟩
    · rintro ⟨p, m, h1, h2, h3, rfl⟩
      have hp := h.inR p h2
      exact ⟨numN (trimR B) p, ((numN (trimR B) m.1.toNat : Int), m.2), by rw [hT.len]; exact numN_lt hp, by rw [h.same p hp]; exact h2, (hrow p hp).mem_iff.2 (List.mem_map.2 ⟨m, h3, rfl⟩), by simp⟩
  · rw [StpS, decide_eq_true_eq] at hq
    obtain ⟨i, m, h1, h2, h3, rfl⟩ := hq
    obtain ⟨p, hp, rfl⟩ := h.from' i h2
    obtain ⟨m0, h5, rfl⟩ := List.mem_map.1 ((hrow p hp).mem_iff.1 h3)
    exact ⟨_, hin p hp m0 h5, by simp⟩
theorem sim_run {B C : Bu} (hok : Vb B) (hT : TrimR B C) : ∀ (l : List Int) (f f' : Nat → Bool), (∀ z ∈ l, 0 ≤ z ∧ z < B.L) → SimT B f f' → SimT B (rnB B f l) (rnB C f' l) := by
  intro l
  induction l with
  | nil => intro f f' _ h; exact h
  | cons z l ih =>
    intro f f' hl h
    have hz := hl z (by simp)
    exact ih _ _ (fun y hy => hl y (by simp [hy])) (sim_step hok hT h (by omega))
end Go.Proofs.YtbdoggiabclkdaaGreatDoor
end
