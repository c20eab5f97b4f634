/- Operations that make a row of cells. -/
import Derived.Test.YtmfpcofncfhklaaPvLook6
set_option linter.unusedSimpArgs false
namespace Go.Pv
open Go Go.RowKit

section
variable {w : World} {w0 : Bs} {μ : Mu} {ι : Io} {δ : Nat → Prop} {s s' : St} {cmp : Nat → LCode → Code → Prop} {c : Ctx} {e : Env} {a : Act} {o : Oper} {v : LV}

theorem wrap_i64 (n : Int) (h0 : -9223372036854775808 ≤ n) (h1 : n ≤ 9223372036854775807) : IntKind.i64.wrap n = n := by
  unfold IntKind.wrap
  have e1 : (2 ^ 64 : Int) = 18446744073709551616 := by decide
  have e2 : (2 ^ (64 - 1) : Int) = 9223372036854775808 := by decide
  simp only [IntKind.bits, IntKind.signed, Bool.true_and, decide_eq_true_eq, e1, e2, ge_iff_le]
  split <;> omega

theorem rep_length (n : Nat) (z : List LV) : (rep n z).length = n * z.length := by
  induction n with
  | zero => simp [rep]
  | succ n ih =>
    unfold rep at ih ⊢
    rw [List.replicate_succ, List.flatten_cons, List.length_append, ih, Nat.succ_mul]; omega

theorem rep_getD (z : List LV) : ∀ (n i : Nat), i < n * z.length → (rep n z).getD i .top = z.getD (i % z.length) .top := by
  intro n
  induction n with
  | zero => intro i h; omega
  | succ n ih =>
    intro i h
    unfold rep at ih ⊢
    rw [List.replicate_succ, List.flatten_cons]
    by_cases hi : i < z.length
    · rw [Nat.mod_eq_of_lt hi]
      simp [List.getD_eq_getElem?_getD, List.getElem?_append_left hi]
    · rw [Nat.succ_mul] at h
      have := ih (i - z.length) (by omega)
      rw [List.getD_eq_getElem?_getD, List.getElem?_append_right (by omega), ← List.getD_eq_getElem?_getD, this]
      congr 1
      have h0 : i - z.length + z.length = i := by omega
      rw [← Nat.add_mod_right, h0]

/-- The zero cells of a row of n elements. -/
theorem zeroRow_rel {z : List LV} {zv : Array Value} (hz : Ra μ ι w z zv) (hp : 0 < z.length) (m l : Nat) (hl : l ≤ m) :
    l * z.length ≤ ((Array.range (m * z.length)).map (zv[· % zv.size]!)).size ∧
    ∀ i, i < l * z.length → Rv μ ι w ((rep l z).getD i .top) (((Array.range (m * z.length)).map (zv[· % zv.size]!)).getD i undef) := by
  have hm : l * z.length ≤ m * z.length := Nat.mul_le_mul_right _ hl
  refine ⟨by simpa using hm, fun i hi => ?_⟩
  rw [rep_getD z l i hi]
  have h2 := hz.2 (i % z.length) (Nat.mod_lt _ hp)
  have h3 : i < m * z.length := by omega
  have h4 : i % z.length < zv.size := by rw [hz.1]; exact Nat.mod_lt _ hp
  rw [Array.getD_eq_getD_getElem?] at h2 ⊢
  simp only [Array.getElem?_map, Array.getElem?_range, h3, if_true, Option.map_some, Option.getD_some, hz.1] 
  simp only [h4, getElem?_pos, Option.getD_some] at h2
  rw [getElem!_pos zv (i % z.length) h4]
  simpa [h4, hz.1] using h2

theorem Ra.one {cs : List LV} {vs : Array Value} (h : Ra μ ι w cs vs) (hc : ∀ y ∈ cs, isCell y = true) : ∀ i, i < vs.size → (vs.getD i undef).oneCell' = true := fun i hi => by
  have hi' : i < cs.length := by rw [← h.1]; exact hi
  refine oneCell_rel (h.2 i hi') (hc _ ?_)
  rw [List.getD_eq_getElem?_getD, List.getElem?_eq_getElem hi', Option.getD_some]
  exact List.getElem_mem hi'

theorem splice_mem (new : List LV) : ∀ (cs : List LV) (off : Nat), (∀ y ∈ cs, isCell y = true) → (∀ y ∈ new, isCell y = true) → ∀ y ∈ splice cs off new, isCell y = true := by
  induction new with
  | nil => intro cs off h _; exact h
  | cons v new ih =>
    intro cs off h hn
    refine ih _ _ (fun y hy => ?_) (fun y hy => hn y (by simp [hy]))
    rcases List.mem_or_eq_of_mem_set hy with h1 | rfl
    · exact h y h1
    · exact hn _ (by simp)

theorem cells?_isCell {v : LV} {cs : List LV} (h : cells? v = some cs) : ∀ y ∈ cs, isCell y = true := by
  cases v <;> simp only [cells?, reduceCtorEq] at h
  case agg l =>
    split at h
    · rename_i ha; cases h; simpa using ha
    · cases h
  all_goals (cases h; simp [isCell])

theorem fillParts_isCell : ∀ (ls : List (Nat × Nat × LV)) (cs cs' : List LV), fillParts cs ls = some cs' → (∀ y ∈ cs, isCell y = true) → (cs'.length = cs.length ∧ ∀ y ∈ cs', isCell y = true) := by
  intro ls
  induction ls with
  | nil => intro cs cs' h hc; simp [fillParts] at h; rw [← h]; exact ⟨rfl, hc⟩
  | cons l ls ih =>
    intro cs cs' h hcs
    obtain ⟨off, size, v⟩ := l
    simp only [fillParts] at h
    cases hc : cells? v with
    | none => simp [hc] at h
    | some vs =>
      simp only [hc] at h
      split at h
      · obtain ⟨h1, h2⟩ := ih _ _ h (splice_mem _ _ _ hcs (cells?_isCell hc))
        exact ⟨by rw [h1, splice_length], h2⟩
      · cases h

theorem rep_mem {n : Nat} {z : List LV} (h : ∀ y ∈ z, isCell y = true) : ∀ y ∈ rep n z, isCell y = true := by
  intro y hy
  unfold rep at hy
  obtain ⟨l, hl, hy⟩ := List.mem_flatten.1 hy
  rw [(List.mem_replicate.1 hl).2] at hy
  exact h y hy

def Rowed (c : Ctx) (a : Act) (o : Oper) (w : World) (T : TypeId) (arr : Array Value) (x : Value) : Prop :=
  (execOp a.eval o).run c.P w = .ok (.value x) { w with heap := w.heap.push (.cells arr T) }

theorem row_sound {lo : LOp} (hm : Op.makes o.op = true) (hl : isRow lo = true) (hc : compOp c o = some lo) (hρ : Ho μ ι w c e a o) (hr : lo.run e s = some (v, s')) :
    ∃ cs arr T x, s' = s.new (.cells .mut cs) ∧ Rowed c a o w T arr x ∧ cs.length ≤ arr.size ∧ (∀ i, i < cs.length → Rv μ ι w (cs.getD i .top) (arr.getD i undef)) ∧
      (∀ i, i < arr.size → (arr.getD i undef).oneCell' = true) ∧ ∀ μ' ι' w', μ' s.n = some ⟨w.heap.size, 0, arr.size⟩ → Rv μ' ι' w' v x := by
  cases ho : o.op <;> rw [ho] at hm <;> (try (cases hm; done)) <;> simp only [compOp, ho, reduceCtorEq] at hc
  case alloc t =>
    obtain ⟨z, hz, hc⟩ := bind_some hc; cases hc
    cases hr
    obtain ⟨zv, hzr, hza, hzc⟩ := zeroC_run (μ := μ) (ι := ι) (w := w) hz
    refine ⟨z, zv.cells, t, .pointer (some ⟨w.heap.size, 0, none⟩), rfl, ?_, Nat.le_of_eq hza.1.symm, hza.2, hza.one hzc, fun μ' ι' w' h => ?_⟩
    · simp [Rowed, execOp, ho, Instr.alloc, hzr, newVar, newRow]
    · exact .pref (off := 0) h
  case box t x =>
    obtain ⟨y, hy, hc⟩ := bind_some hc; cases hc
    have hx := hρ x y (by simp [ho, Op.operands]) hy
    unfold LOp.run at hr
    split at hr <;> simp only [isRow, reduceCtorEq, Bool.false_eq_true, LOp.box.injEq] at * 
    · rename_i h
      rw [h.1] at hl
      cases hl
    · rename_i h
      rw [← h.2] at hr
      obtain ⟨cs, hcs, hr⟩ := bind_some hr
      cases hr
      obtain ⟨h1, h2, h3⟩ := cells_rel hx hcs
      refine ⟨cs, (a.eval x).cells, t, .pointer (some ⟨w.heap.size, 0, none⟩), rfl, ?_, Nat.le_of_eq h1.symm, h2, Ra.one (μ := μ) (ι := ι) (w := w) ⟨h1, h2⟩ (by simpa using h3), fun μ' ι' w' h => ?_⟩
      · simp [Rowed, execOp, ho, Instr.box, newVar, newRow]
      · exact .pref (off := 0) h
  case buildSlice t len ps =>
    cases hu : c.P.underlying t with
    | none => simp [hu] at hc
    | some ty =>
      rw [hu] at hc
      cases ty <;> simp only [reduceCtorEq] at hc
      rename_i el
      obtain ⟨sz, hsz, hc⟩ := bind_some hc
      obtain ⟨z, hz, hc⟩ := bind_some hc
      split at hc
      · cases hc
      · rename_i hno
        simp only [not_or, Nat.not_lt, ne_eq, Decidable.not_not] at hno
        obtain ⟨hs0, hzl, hbig⟩ := hno
        obtain ⟨ls, hls, hc⟩ := bind_some hc
        cases hc
        unfold LOp.run at hr
        dsimp only at hr
        obtain ⟨cs, hf, hr⟩ := bind_some hr
        cases hr
        obtain ⟨zv, hzr, hza, hzc⟩ := zeroC_run (μ := μ) (ι := ι) (w := w) hz
        have hps : ∀ x y, x ∈ ps.toList.map (·.2) → opd c x = some y → Rv μ ι w (y.ev e) (a.eval x) := fun x y hx hy => hρ x y (by simpa [ho, Op.operands] using hx) hy
        have hmap : (ps.map fun (i, x) => (i, a.eval x)).toList = maParts a ps.toList := by simp [maParts]
        obtain ⟨h1, h2⟩ := partsOf_rel (μ := μ) (ι := ι) (w := w) (e := e) (a := a) hls hps
        have hra0 : len * sz = 0 → Ra μ ι w (rep len z) ((Array.range (len * sz)).map ((#[] : Array Value)[· % (#[] : Array Value).size]!)) := fun h0 => by
          have hlen : len = 0 := by
            rcases Nat.mul_eq_zero.1 h0 with h | h
            · exact h
            · exact absurd h hs0
          subst hlen
          exact ⟨by simp [rep], fun i hi => by simp [rep] at hi⟩
        have hra1 : Ra μ ι w (rep len z) ((Array.range (len * sz)).map (zv.cells[· % zv.cells.size]!)) := by
          have hzp : 0 < z.length := by omega
          obtain ⟨k1, k2⟩ := zeroRow_rel hza hzp len len (Nat.le_refl _)
          rw [hzl] at k1 k2
          exact ⟨by rw [rep_length, hzl]; simp, fun i hi => k2 i (by rw [rep_length, hzl] at hi; exact hi)⟩
        have hex : ∃ vs', Ra μ ι w cs vs' ∧ Rowed c a o w el vs' (.slice (some ⟨w.heap.size, 0, none⟩) len len) := by
          by_cases h0 : len * sz = 0
          · obtain ⟨vs', hv1, hv2⟩ := fill_rel (place := fun i => some (i * sz, sz)) _ _ _ _ _ (hra0 h0) h1 h2 hf
            refine ⟨vs', hv2, ?_⟩
            simp only [Rowed, execOp, ho, Instr.buildSlice, Sem.run_bind, ru hu, rsz hsz, Result.andThen_ok]
            rw [if_neg (by omega), if_pos h0]
            simp only [Sem.run_pure, Sem.run_bind, Result.andThen_ok, hmap, hv1]
            simp [newRow]
          · obtain ⟨vs', hv1, hv2⟩ := fill_rel (place := fun i => some (i * sz, sz)) _ _ _ _ _ hra1 h1 h2 hf
            refine ⟨vs', hv2, ?_⟩
            simp only [Rowed, execOp, ho, Instr.buildSlice, Sem.run_bind, ru hu, rsz hsz, Result.andThen_ok]
            rw [if_neg (by omega), if_neg h0]
            simp only [Sem.run_pure, Sem.run_bind, Result.andThen_ok, hzr, hmap, hv1]
            simp [newRow]
        obtain ⟨vs', hv2, hrow⟩ := hex
        refine ⟨cs, vs', el, .slice (some ⟨w.heap.size, 0, none⟩) len len, rfl, hrow, Nat.le_of_eq hv2.1.symm, hv2.2, hv2.one (fillParts_isCell _ _ _ hf (rep_mem hzc)).2, fun μ' ι' w' h => ?_⟩
        · refine .sref (off := 0) (off' := 0) h ?_ (Nat.le_refl _) (fun _ => rfl)
          have : vs'.size = len * sz := by
            rw [hv2.1]
            have : cs.length = (rep len z).length := (fillParts_isCell _ _ _ hf (rep_mem hzc)).1
            rw [this, rep_length, hzl]
          simp only; omega
  case makeSlice t l k =>
    cases hu : c.P.underlying t with
    | none => simp [hu] at hc
    | some ty =>
      rw [hu] at hc
      cases ty <;> simp only [reduceCtorEq] at hc
      rename_i el
      obtain ⟨i, hi, hc⟩ := bind_some hc
      obtain ⟨z, hz, hc⟩ := bind_some hc
      split at hc
      · cases hc
      · rename_i hs0
        obtain ⟨ll, hll, hc⟩ := bind_some hc
        obtain ⟨lk, hlk, hc⟩ := bind_some hc
        cases hc
        have h1 := hρ l ll (by simp [ho, Op.operands]) hll
        have h2 := hρ k lk (by simp [ho, Op.operands]) hlk
        unfold LOp.run at hr
        dsimp only at hr
        generalize ll.ev e = vl at *
        generalize lk.ev e = vk at *
        generalize hal : a.eval l = al at *
        generalize hak : a.eval k = ak at *
        cases h1 <;> try (cases hr; done)
        cases h2 <;> try (cases hr; done)
        rename_i kl nl kk nk
        dsimp only at hr
        split at hr
        · rename_i hb
          obtain ⟨hb0, hb1, hb2, hb3, hb4⟩ := hb
          cases hr
          obtain ⟨zv, hzr, hza, hzc⟩ := zeroC_run (μ := μ) (ι := ι) (w := w) hz
          have hw1 : IntKind.i64.wrap nl = nl := by unfold big at hb3; exact wrap_i64 _ (by omega) (by omega)
          have hw2 : IntKind.i64.wrap nk = nk := by unfold big at hb3; exact wrap_i64 _ (by omega) (by omega)
          have hzp : 0 < z.length := by omega
          have htl : (nk < 0 || (i.bytes : Int) * nk > 2 ^ 48) = false := by
            unfold big at hb2
            have h2' : (i.bytes : Int) * nk ≤ 2 ^ 32 := by rw [Int.mul_comm]; exact_mod_cast hb2
            simp only [Bool.or_eq_false_iff, decide_eq_false_iff_not]
            omega
          have hnk : nk.toNat * i.size = nk.toNat * z.length := by rw [hb4]
          obtain ⟨k1, k2⟩ := zeroRow_rel hza hzp nk.toNat nl.toNat (by omega)
          by_cases h0 : nk.toNat * i.size = 0
          · have hn0 : nk.toNat = 0 := by
              rcases Nat.mul_eq_zero.1 h0 with h | h
              · exact h
              · exact absurd h hs0
            have hl0 : nl.toNat = 0 := by omega
            refine ⟨rep nl.toNat z, #[], el, .slice (some ⟨w.heap.size, 0, none⟩) nl.toNat nk.toNat, rfl, ?_, by simp [hl0, rep], fun j hj => by simp [hl0, rep] at hj, fun j hj => by simp at hj, fun μ' ι' w' h => ?_⟩
            · simp only [Rowed, execOp, ho, hal, hak, Instr.makeSlice, Sem.run_bind, ru hu, rti hi, Result.andThen_ok, asInt, asIntOf, Sem.run_pure, hw1, hw2, htl]
              rw [if_neg (by simp; omega)]
              simp only [Sem.run_bind, run_askRoom, Result.andThen_ok, sizeOf, rti hi, Sem.run_pure, h0, if_true]
              simp [newRow, show Array.range 0 = #[] from rfl]
            · exact .sref (off := 0) (off' := 0) h (by rw [hn0]; simp) (by omega) (fun _ => rfl)
          · refine ⟨rep nl.toNat z, _, el, .slice (some ⟨w.heap.size, 0, none⟩) nl.toNat nk.toNat, rfl, ?_, by rw [rep_length]; exact k1, fun j hj => k2 j (by rw [rep_length] at hj; exact hj), fun j hj => ?_, fun μ' ι' w' h => ?_⟩
            · simp only [Rowed, execOp, ho, hal, hak, Instr.makeSlice, Sem.run_bind, ru hu, rti hi, Result.andThen_ok, asInt, asIntOf, Sem.run_pure, hw1, hw2, htl]
              rw [if_neg (by simp; omega)]
              simp only [Sem.run_bind, run_askRoom, Result.andThen_ok, sizeOf, rti hi, Sem.run_pure, h0, if_false, hzr]
              simp [newRow, hb4]
            · have hj' : j < nk.toNat * z.length := by simpa using hj
              have hmod : j % zv.cells.size < zv.cells.size := Nat.mod_lt _ (by rw [hza.1]; exact hzp)
              have := hza.one hzc _ hmod
              rw [Array.getD_eq_getD_getElem?] at this ⊢
              simp only [hmod, getElem?_pos, Option.getD_some] at this
              simp only [Array.getElem?_map, Array.getElem?_range, hj', if_true, Option.map_some, Option.getD_some]
              rw [getElem!_pos zv.cells _ hmod]
              exact this
            · refine .sref (off := 0) (off' := 0) h ?_ (by omega) (fun _ => rfl)
              simp [hb4]
        · cases hr

end
end Go.Pv
