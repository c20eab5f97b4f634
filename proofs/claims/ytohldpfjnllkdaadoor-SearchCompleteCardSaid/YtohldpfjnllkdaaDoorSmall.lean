/- accept's small functions. -/
import Derived.Test.YtohldpfjnllkdaaDoorSnum
import Derived.Test.YtohldpfjnllkdaaDoorValid
set_option linter.unusedSimpArgs false
set_option linter.unusedVariables false
namespace Go.Proofs.YtohldpfjnllkdaaDoor
open Go Go.Pv Go.Aut Go.Bfs
open Classical
def zints (l : List Nat) : List Int := l.map fun (i : Nat) => (i : Int)
@[simp] theorem zints_length (l : List Nat) : (zints l).length = l.length := by simp [zints]
theorem zints_get {l : List Nat} {i : Nat} (h : i < l.length) : (ints (zints l))[i]? = some (.int .i64 (l.getD i 0 : Int)) := by
  simp [ints, zints, List.getD_eq_getElem?_getD, h]
structure IsTk (v : LV) (B : Bu) (ls : List Nat) (bk : Nat) (sv nv lv : LV) : Prop where
  eq : v = .agg [.int .i64 B.L, sv, nv, lv, .int .i64 (bk : Int)]
  st : IsInts sv B.start
  nx : IsNext nv B.next
  lt : IsInts lv (zints ls)
  ok : Vb B
  pos : 0 < ls.length
  bk : bk < ls.length
  big : ls.length ≤ 200
  let' : ∀ i, i < ls.length → (ls.getD i 0 : Int) < B.L
theorem IsTk.closed {v : LV} {B : Bu} {ls : List Nat} {bk : Nat} {sv nv lv : LV} (h : IsTk v B ls bk sv nv lv) : v.closed = true := by
  rw [h.eq]; simp [LV.closed, LV.closed.closedAll, h.st.closed, h.nx.closed, h.lt.closed]
def bmv (B : Bu) : Mv := fun q a => ((B.next.getD q []).getD a []).map fun m => (m.1.toNat, m.2)
def tkOf (B : Bu) (ls : List Nat) (bk : Nat) : Aut.Tk := ⟨ls.length, bk, fun i => ls.getD i 0, bmv B⟩
def bms (B : Bu) (ls : List Nat) (p : Pl) : Moves := (B.next.getD p.2 []).getD (ls.getD p.1 0) []
def InT (B : Bu) (ls : List Nat) (p : Pl) : Prop := p.1 < ls.length ∧ p.2 < B.next.length
set_option maxHeartbeats 4000000 in
theorem moves_ok {v : LV} {B : Bu} {ls : List Nat} {bk : Nat} {sv nv lv : LV} (h : IsTk v B ls bk sv nv lv) {p : Pl} (hp : InT B ls p) : PE 64 [v, .agg (pcell p)] (fun r => IsMoves r (bms B ls p)) := by
  have hcl := h.closed
  obtain ⟨rfl, hst, hnx, hlt, hok, hpos, hbk, hbig, hlet⟩ := h
  obtain ⟨vs, hn⟩ := hnx
  obtain ⟨hp1, hp2⟩ := hp
  obtain ⟨a, q⟩ := p
  simp only at hp1 hp2
  obtain ⟨ws, hr⟩ := hn.row q hp2
  have hrow := hok.2.2.2.2 q hp2
  have hlq : ls.getD a 0 < (B.next.getD q []).length := by have := hlet a hp1; have := hrow.1; omega
  have hmw := hr.row _ hlq
  have hc1 := hst.sl.cell
  have hc2 := hn.sl.cell
  have hc3 := hlt.sl.cell
  refine q_fnEx (t := 4) hm Tryd.func64 (by decide +kernel) c64 (Nat.le_of_ble_eq_true rfl) (by simp [LV.closed.closedAll, hcl, pcell]; rfl) rfl ?_
  have e0 : (envOf [LV.agg [.int .i64 B.L, sv, nv, lv, .int .i64 (bk : Int)], .agg (pcell (a, q))]).at 0 = .agg [.int .i64 B.L, sv, nv, lv, .int .i64 (bk : Int)] := by rw [envOf_at]; rfl
  have e1 : (envOf [LV.agg [.int .i64 B.L, sv, nv, lv, .int .i64 (bk : Int)], .agg (pcell (a, q))]).at 1 = .agg [.int .i64 (a : Int), .int .i64 (q : Int)] := by rw [envOf_at]; rfl
  generalize envOf [LV.agg [.int .i64 B.L, sv, nv, lv, .int .i64 (bk : Int)], .agg (pcell (a, q))] = e at *
  unfold l64
  dsimp only
  have i1 : ∀ s : St, iaLV 1 nv (.int .i64 (q : Int)) s = some (.pimm vs q, s) := fun s => by
    have := iaN (esz := 1) (k := .i64) (s := s) hn.sl (i := q) (by omega)
    simpa using this
  have g1 : vs[q]? = some (vs.getD q .top) := hn.get hp2
  have i2 : ∀ s : St, iaLV 1 lv (.int .i64 (a : Int)) s = some (.pimm (ints (zints ls)) a, s) := fun s => by
    have := iaN (esz := 1) (k := .i64) (s := s) hlt.sl (i := a) (by simp; omega)
    simpa using this
  have g2 := zints_get hp1
  have i3 : ∀ s : St, iaLV 1 (vs.getD q .top) (.int .i64 (ls.getD a 0 : Int)) s = some (.pimm ws (ls.getD a 0), s) := fun s => by
    have := iaN (esz := 1) (k := .i64) (s := s) hr.sl (i := ls.getD a 0) (by omega)
    simpa using this
  have g3 : ws[ls.getD a 0]? = some (ws.getD (ls.getD a 0) .top) := hr.get hlq
  repeat' (first | refine gA (And.intro @i1 (And.intro @g1 (And.intro @i2 (And.intro @g2 (And.intro @i3 @g3))))) ?_ | (refine gB (And.intro @i1 (And.intro @g1 (And.intro @i2 (And.intro @g2 (And.intro @i3 @g3))))) ?_; intro bb hbb; cases bb <;> (try simp only [hbs, if_false, reduceCtorEq] at hbb)) | fail)
  refine ⟨.inr trivial, _, St.empty, ?_, hmw.closed, hmw⟩
  simp only [lk, sv1, sv2, sv3, Nat.reduceEqDiff, Nat.reduceAdd, Nat.reduceLeDiff, reduceIte, if_false, if_true, mkVal, unLV, List.map, optTmps]
  exact frzD_closed hmw.closed
set_option maxHeartbeats 4000000 in
theorem after_ok {v : LV} {B : Bu} {ls : List Nat} {bk : Nat} {sv nv lv : LV} (h : IsTk v B ls bk sv nv lv) {p : Pl} (hp : p.1 < ls.length) (m : Int × Bool) (q : Nat) (hq : m.1 = (q : Int)) : PO 65 [v, .agg (pcell p), .agg [.int .i64 m.1, .bool m.2]] (.agg (pcell ((tkOf B ls bk).after p (q, m.2)))) := by
  have hcl := h.closed
  obtain ⟨rfl, hst, hnx, hlt, hok, hpos, hbk, hbig, hlet⟩ := h
  obtain ⟨vs, hn⟩ := hnx
  obtain ⟨a, p2⟩ := p
  obtain ⟨m1, m2⟩ := m
  simp only at hp hq
  subst hq
  have hc1 := hst.sl.cell
  have hc2 := hn.sl.cell
  have hc3 := hlt.sl.cell
  have hll : slLen lv = some ls.length := by have := hlt.sl.len; simpa using this
  refine q_fnR Tryd.func65 (by decide +kernel) c65 (Nat.le_of_ble_eq_true rfl) (by simp only [LV.closed.closedAll, hcl, Bool.true_and]; rfl) rfl ?_
  have e0 : (envOf [LV.agg [.int .i64 B.L, sv, nv, lv, .int .i64 (bk : Int)], .agg (pcell (a, p2)), .agg [.int .i64 (q : Int), .bool m2]]).at 0 = .agg [.int .i64 B.L, sv, nv, lv, .int .i64 (bk : Int)] := by rw [envOf_at]; rfl
  have e1 : (envOf [LV.agg [.int .i64 B.L, sv, nv, lv, .int .i64 (bk : Int)], .agg (pcell (a, p2)), .agg [.int .i64 (q : Int), .bool m2]]).at 1 = .agg [.int .i64 (a : Int), .int .i64 (p2 : Int)] := by rw [envOf_at]; rfl
  have e2 : (envOf [LV.agg [.int .i64 B.L, sv, nv, lv, .int .i64 (bk : Int)], .agg (pcell (a, p2)), .agg [.int .i64 (q : Int), .bool m2]]).at 2 = .agg [.int .i64 (q : Int), .bool m2] := by rw [envOf_at]; rfl
  generalize envOf [LV.agg [.int .i64 B.L, sv, nv, lv, .int .i64 (bk : Int)], .agg (pcell (a, p2)), .agg [.int .i64 (q : Int), .bool m2]] = e at *
  unfold l65
  dsimp only
  have hw : IntKind.i64.wrap ((a : Int) + 1) = ((a + 1 : Nat) : Int) := by rw [wrap_i64 _ (by omega) (by omega)]; rfl
  have hnx : (tkOf B ls bk).after (a, p2) (q, m2) = (if a + 1 = ls.length then bk else a + 1, q) := rfl
  rw [hnx]
  repeat' (first | refine gA (And.intro @hll @hw) ?_ | (refine gB (And.intro @hll @hw) ?_; intro bb hbb; cases bb <;> (try simp only [hbs, if_false, reduceCtorEq] at hbb)) | apply qc_seq | fail)
  · have hne : ¬ a + 1 = ls.length := by rw [hw] at hbb; omega
    simp only [if_neg hne]
    refine q_run0 (v := .agg (pcell (a + 1, q))) (s' := _) (by simp only [LOp.run, lk, sv1, sv2, sv3, Nat.reduceEqDiff, Nat.reduceAdd, Nat.reduceLeDiff, reduceIte, if_false, if_true, mkVal, unLV, List.map, optTmps, evParts, fillParts, hw]; rfl) ?_
    repeat' (first | refine gA @hll ?_ | (refine gB @hll ?_; intro bb hbb; cases bb <;> (try simp only [hbs, if_false, reduceCtorEq] at hbb)) | apply qc_seq | fail)
    refine ⟨.inr trivial, ?_⟩
    simp [l65, resVal, resOne, mkVal, pcell, splice]
  · have hne : a + 1 = ls.length := by rw [hw] at hbb; omega
    simp only [if_pos hne]
    refine q_run0 (v := .agg (pcell (bk, q))) (s' := _) (by simp only [LOp.run, lk, sv1, sv2, sv3, Nat.reduceEqDiff, Nat.reduceAdd, Nat.reduceLeDiff, reduceIte, if_false, if_true, mkVal, unLV, List.map, optTmps, evParts, fillParts, hw]; rfl) ?_
    repeat' (first | refine gA @hll ?_ | (refine gB @hll ?_; intro bb hbb; cases bb <;> (try simp only [hbs, if_false, reduceCtorEq] at hbb)) | apply qc_seq | fail)
    refine ⟨.inr trivial, ?_⟩
    simp [l65, resVal, resOne, mkVal, pcell, splice]
end Go.Proofs.YtohldpfjnllkdaaDoor
