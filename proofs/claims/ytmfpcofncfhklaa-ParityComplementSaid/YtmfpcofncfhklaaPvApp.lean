/- append and copy. -/
import Derived.Test.YtmfpcofncfhklaaPvEff
set_option linter.unusedSimpArgs false
namespace Go.Pv
open Go Go.RowKit

section
variable {P : Program} {w : World} {w0 : Bs} {μ : Mu} {ι : Io} {δ : Nat → Prop} {s s' : St} {cmp : Nat → LCode → Code → Prop} {c : Ctx} {e : Env} {a : Act} {o : Oper} {v : LV}

theorem growBy_le (need : Nat) : ∀ (r c : Nat), Builtin.growBy need r c ≤ max c (need + need / 4 + 192) := by
  intro r
  induction r with
  | zero => intro c; simp [Builtin.growBy]; omega
  | succ r ih =>
    intro c
    unfold Builtin.growBy
    split
    · omega
    · rename_i h
      have := ih (c + (c + 768) / 4)
      omega

theorem nextcap_le (need old : Nat) (h : old < need) : Builtin.nextslicecap need old ≤ 2 * need + 192 := by
  unfold Builtin.nextslicecap
  split
  · omega
  · split
    · omega
    · have := growBy_le need 4 old
      omega

theorem isSeq_cases {d : TypeDesc} (h : isSeq d = true) : (∃ e, d = .slice e) ∨ d = .string := by
  cases d <;> first | (cases h; done) | exact .inl ⟨_, rfl⟩ | exact .inr rfl

/-- append, where it fits. -/
theorem append_fits {t u el : TypeId} {ty : TypeId} {d : TypeDesc} {i : TypeInfo} (ht : P.underlying t = some (.slice el)) (hu : P.underlying u = some d) (hd : isSeq d = true) (hi : P.info? el = some i)
    {base : Option Addr} {sLen sCap n : Nat} {x : Value} (hl : Builtin.lenOf x = Sem.pure n) (hfit : sLen + n ≤ sCap) {new : Array Value} (hnew : (Builtin.firstCells i.size n x).run P w = .ok new w) {w' : World}
    (hst : ∀ b, base = some b → (storeCells (b.add (sLen * i.size)) new.toList).run P w = .ok () w') (hno : base = none → w' = w) :
    (Builtin.append_ #[t, u] ty #[.slice base sLen sCap, x]).run P w = .ok (.slice base (sLen + n) sCap) w' := by
  have hsz : (sizeOf el).run P w = .ok i.size w := by simp [sizeOf, rti hi]
  rcases isSeq_cases hd with ⟨e', rfl⟩ | rfl <;> cases base with
  | none =>
    obtain rfl := hno rfl
    simp only [Builtin.append_]
    simp [ru ht, ru hu, hsz, hl, hfit, hnew]
  | some b =>
    simp only [Builtin.append_]
    simp [ru ht, ru hu, hsz, hl, hfit, hnew, hst b rfl]

/-- append, where it grows: whatever the new capacity. -/
theorem append_grows {t u el : TypeId} {ty : TypeId} {d : TypeDesc} {i : TypeInfo} (ht : P.underlying t = some (.slice el)) (hu : P.underlying u = some d) (hd : isSeq d = true) (hi : P.info? el = some i)
    {base : Option Addr} {sLen sCap n : Nat} {x : Value} (hl : Builtin.lenOf x = Sem.pure n) (hfit : sCap < sLen + n) (hb0 : i.bytes ≠ 0) (hbig : (sLen + n) * i.bytes ≤ 2 ^ 32) {zv : Value} (hz : i.zero = some zv)
    {old new : Array Value} (ho1 : (Builtin.firstCells i.size sLen (.slice base sLen sCap)).run P w.drew = .ok old w.drew) (hn1 : (Builtin.firstCells i.size n x).run P w.drew = .ok new w.drew) :
    ∃ newCap, sLen + n ≤ newCap ∧ (Builtin.append_ #[t, u] ty #[.slice base sLen sCap, x]).run P w =
      .ok (.slice (some ⟨w.heap.size, 0, none⟩) (sLen + n) newCap) (({ w with drawn := w.drawn + 1 } : World).alloc (.cells (old ++ new ++ Builtin.zeroCells zv.cells (newCap - (sLen + n))) el)) := by
  have hsz : ∀ w' : World, (sizeOf el).run P w' = .ok i.size w' := fun w' => by simp [sizeOf, rti hi]
  have hle : sLen + n ≤ 2 ^ 32 := Nat.le_trans (Nat.le_mul_of_pos_right _ (Nat.pos_of_ne_zero hb0)) hbig
  have hcap : ¬ (281474976710656 < Builtin.nextslicecap (sLen + n) sCap * i.bytes) := by
    have h1 := nextcap_le (sLen + n) sCap hfit
    have h2 : Builtin.nextslicecap (sLen + n) sCap * i.bytes ≤ (2 * (sLen + n) + 192) * i.bytes := Nat.mul_le_mul_right _ h1
    have h3 : (2 * (sLen + n) + 192) * i.bytes = 2 * ((sLen + n) * i.bytes) + 192 * i.bytes := by rw [Nat.add_mul, Nat.mul_assoc]
    have h4 : i.bytes ≤ (sLen + n) * i.bytes := Nat.le_mul_of_pos_left _ (by omega)
    omega
  have hf : (Question.appendCap (sLen + n) sCap el).forced = false := rfl
  refine ⟨(Question.appendCap (sLen + n) sCap el).cut (w.tape w.drawn (.appendCap (sLen + n) sCap el)), by simp [Question.cut], ?_⟩
  have hn : ¬ (sLen + n ≤ sCap) := by omega
  have h63 : ¬ (9223372036854775807 < (sLen : Int) + (n : Int)) := by omega
  have hti : ∀ w' : World, (typeInfo el).run P w' = .ok i w' := fun w' => rti hi
  have hzv : ∀ w' : World, (zeroValue el).run P w' = .ok zv w' := fun w' => rz hi hz
  rcases isSeq_cases hd with ⟨e', rfl⟩ | rfl
  · simp only [Builtin.append_]
    simp [ru ht, ru hu, hsz, hl, hn, hti, hb0, hcap, hf, ho1, hn1, hzv, newRow]
  · simp only [Builtin.append_]
    simp [ru ht, ru hu, hsz, hl, hn, hti, hb0, hcap, hf, ho1, hn1, hzv, newRow]


theorem Ra.append {xs ys : List LV} {us vs : Array Value} (h : Ra μ ι w xs us) (k : Ra μ ι w ys vs) : Ra μ ι w (xs ++ ys) (us ++ vs) := by
  refine ⟨by simp [h.1, k.1], fun i hi => ?_⟩
  by_cases hx : i < xs.length
  · have := h.2 i hx
    have hu : i < us.size := by rw [h.1]; exact hx
    simpa [List.getD_eq_getElem?_getD, Array.getD_eq_getD_getElem?, List.getElem?_append_left hx, Array.getElem?_append_left hu] using this
  · have hi' : i - xs.length < ys.length := by simp at hi; omega
    have := k.2 (i - xs.length) hi'
    have hu : us.size ≤ i := by rw [h.1]; omega
    have e : i - us.size = i - xs.length := by rw [h.1]
    simpa [List.getD_eq_getElem?_getD, Array.getD_eq_getD_getElem?, List.getElem?_append_right (Nat.le_of_not_lt hx), Array.getElem?_append_right hu, e] using this

theorem zeroCells_size (z : Array Value) (k : Nat) : (Builtin.zeroCells z k).size = k * z.size := by simp [Builtin.zeroCells]
theorem zeroCells_one {z : Array Value} (hz : ∀ i, i < z.size → (z.getD i undef).oneCell' = true) (k : Nat) : ∀ i, i < (Builtin.zeroCells z k).size → ((Builtin.zeroCells z k).getD i undef).oneCell' = true := by
  intro i hi
  rw [zeroCells_size] at hi
  have hp : 0 < z.size := by
    rcases Nat.eq_zero_or_pos z.size with h | h
    · rw [h] at hi; simp at hi
    · exact h
  have hm : i % z.size < z.size := Nat.mod_lt _ hp
  have := hz _ hm
  rw [Array.getD_eq_getD_getElem?] at this ⊢
  simp only [hm, getElem?_pos, Option.getD_some] at this
  simp only [Builtin.zeroCells, Array.getElem?_map, Array.getElem?_range, hi, if_true, Option.map_some, Option.getD_some]
  rw [getElem!_pos z _ hm]
  exact this

theorem one_append {us vs : Array Value} (h : ∀ i, i < us.size → (us.getD i undef).oneCell' = true) (k : ∀ i, i < vs.size → (vs.getD i undef).oneCell' = true) :
    ∀ i, i < (us ++ vs).size → ((us ++ vs).getD i undef).oneCell' = true := by
  intro i hi
  by_cases hx : i < us.size
  · have := h i hx
    simpa [Array.getD_eq_getD_getElem?, Array.getElem?_append_left hx] using this
  · have := k (i - us.size) (by simp at hi; omega)
    simpa [Array.getD_eq_getD_getElem?, Array.getElem?_append_right (Nat.le_of_not_lt hx)] using this

theorem lenOf_rel {v : LV} {x : Value} {n : Nat} (hv : Rv μ ι w v x) (h : lenLV v = some n) : Builtin.lenOf x = Sem.pure n := by
  rcases lenLV_rel hv h with ⟨b, k, rfl⟩ | ⟨s, rfl, rfl⟩ <;> rfl

/-- What a new row holds behind an append that grew. -/
theorem grow_row {old new : Array Value} {xs ys : List LV} (h : Ra μ ι w xs old) (k : Ra μ ι w ys new) (z : Array Value) :
    (xs ++ ys).length ≤ (old ++ new ++ z).size ∧ ∀ i, i < (xs ++ ys).length → Rv μ ι w ((xs ++ ys).getD i .top) ((old ++ new ++ z).getD i undef) := by
  have hr := h.append k
  refine ⟨by rw [← hr.1]; simp, fun i hi => ?_⟩
  have hi' : i < (old ++ new).size := by rw [hr.1]; exact hi
  have := hr.2 i hi
  rw [Array.getD_eq_getD_getElem?, Array.getElem?_append_left hi', ← Array.getD_eq_getD_getElem?]
  exact this

end
end Go.Pv
