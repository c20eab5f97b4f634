/- A search that numbers what is reached, in order: what it keeps. No program is in sight. -/
set_option linter.unusedSimpArgs false
set_option linter.unusedVariables false
section
namespace Go.Bfs
variable {α : Type} [DecidableEq α]
abbrev Ac (α : Type) := List (α × Int)
def add (acc : Ac α) (p : α) (b : Int) : Ac α := if p ∈ acc.map (·.1) then acc else acc ++ [(p, b)]
def adds (acc : Ac α) (l : List α) (b : Int) : Ac α := l.foldl (fun acc p => add acc p b) acc
def run (succ : α → List α) : Nat → Nat → Ac α → Ac α
  | 0, _, acc => acc
  | f + 1, k, acc =>
    match acc[k]? with
    | none => acc
    | some x => run succ f (k + 1) (adds acc (succ x.1) k)
theorem add_len (acc : Ac α) (p : α) (b : Int) : acc.length ≤ (add acc p b).length := by unfold add; split <;> simp
theorem add_get {acc : Ac α} {p : α} {b : Int} {i : Nat} (h : i < acc.length) : (add acc p b)[i]? = acc[i]? := by
  unfold add; split
  · rfl
  · rw [List.getElem?_append_left h]
theorem adds_get {l : List α} : ∀ {acc : Ac α} {b : Int} {i : Nat}, i < acc.length → (adds acc l b)[i]? = acc[i]? := by
  induction l with
  | nil => intros; rfl
  | cons p l ih =>
    intro acc b i h
    have := ih (acc := add acc p b) (b := b) (Nat.lt_of_lt_of_le h (add_len acc p b))
    rw [add_get h] at this
    exact this
theorem add_sub {acc : Ac α} {p : α} {b : Int} {x : α × Int} (h : x ∈ acc) : x ∈ add acc p b := by
  unfold add; split
  · exact h
  · exact List.mem_append_left _ h
theorem adds_sub {l : List α} : ∀ {acc : Ac α} {b : Int} {x : α × Int}, x ∈ acc → x ∈ adds acc l b := by
  induction l with
  | nil => intro acc b x h; exact h
  | cons p l ih => intro acc b x h; exact ih (add_sub h)
theorem add_mem (acc : Ac α) (p : α) (b : Int) : p ∈ (add acc p b).map (·.1) := by
  unfold add; split
  · assumption
  · simp
theorem adds_mem {l : List α} : ∀ {acc : Ac α} {b : Int} {p : α}, p ∈ l → p ∈ (adds acc l b).map (·.1) := by
  induction l with
  | nil => intro acc b p h; cases h
  | cons a l ih =>
    intro acc b p h
    rcases List.mem_cons.1 h with rfl | h
    · obtain ⟨x, hx, e⟩ := List.mem_map.1 (add_mem acc p b)
      exact List.mem_map.2 ⟨x, adds_sub (l := l) hx, e⟩
    · exact ih h
structure Ok (succ : α → List α) (from_ : List α) (R : α → Prop) (acc : Ac α) : Prop where
  nd : (acc.map (·.1)).Nodup
  rng : ∀ x ∈ acc, R x.1
  way : ∀ (i : Nat) (x : α × Int), acc[i]? = some x → (x.2 = -1 ∧ x.1 ∈ from_) ∨ ∃ (j : Nat) (y : α × Int), j < i ∧ x.2 = (j : Int) ∧ acc[j]? = some y ∧ x.1 ∈ succ y.1
theorem Ok.nil {β : Type} (succ : β → List β) (from_ : List β) (R : β → Prop) : Ok succ from_ R [] := ⟨by simp, (fun x h => by cases h), (fun i x h => by simp at h)⟩
theorem Ok.add {succ : α → List α} {from_ : List α} {R : α → Prop} {acc : Ac α} (h : Ok succ from_ R acc) {p : α} {b : Int} (hR : R p) (hb : (b = -1 ∧ p ∈ from_) ∨ ∃ (j : Nat) (y : α × Int), b = (j : Int) ∧ acc[j]? = some y ∧ p ∈ succ y.1) : Ok succ from_ R (add acc p b) := by
  unfold Bfs.add
  split
  · exact h
  · rename_i hn
    refine ⟨?_, ?_, ?_⟩
    · rw [List.map_append, List.nodup_append]
      exact ⟨h.nd, by simp, fun a ha c hc => by
        rintro rfl
        rw [List.map_cons, List.map_nil, List.mem_singleton] at hc
        rw [hc] at ha
        exact hn ha⟩
    · intro x hx
      rcases List.mem_append.1 hx with hx | hx
      · exact h.rng x hx
      · rw [List.mem_singleton.1 hx]; exact hR
    · intro i x hx
      by_cases hi : i < acc.length
      · rw [List.getElem?_append_left hi] at hx
        rcases h.way i x hx with hh | ⟨j, y, h1, h2, h3, h4⟩
        · exact .inl hh
        · exact .inr ⟨j, y, h1, h2, by rw [List.getElem?_append_left (by omega)]; exact h3, h4⟩
      · rw [List.getElem?_append_right (by omega)] at hx
        have hi' : i - acc.length = 0 := by
          have := (List.getElem?_eq_some_iff.1 hx).1
          simpa using this
        rw [hi'] at hx
        cases hx
        rcases hb with hb | ⟨j, y, h1, h2, h3⟩
        · exact .inl hb
        · have hj := (List.getElem?_eq_some_iff.1 h2).1
          exact .inr ⟨j, y, by omega, h1, by rw [List.getElem?_append_left hj]; exact h2, h3⟩
theorem Ok.adds {succ : α → List α} {from_ : List α} {R : α → Prop} : ∀ {l : List α} {acc : Ac α} (h : Ok succ from_ R acc) {b : Int} (hR : ∀ p ∈ l, R p) (hb : ∀ p ∈ l, (b = -1 ∧ p ∈ from_) ∨ ∃ (j : Nat) (y : α × Int), b = (j : Int) ∧ acc[j]? = some y ∧ p ∈ succ y.1), Ok succ from_ R (adds acc l b) := by
  intro l
  induction l with
  | nil => intro acc h b _ _; exact h
  | cons p l ih =>
    intro acc h b hR hb
    refine ih (h.add (hR p (by simp)) (hb p (by simp))) (fun q hq => hR q (List.mem_cons_of_mem _ hq)) fun q hq => ?_
    rcases hb q (List.mem_cons_of_mem _ hq) with hh | ⟨j, y, h1, h2, h3⟩
    · exact .inl hh
    · exact .inr ⟨j, y, h1, by rw [add_get (List.getElem?_eq_some_iff.1 h2).1]; exact h2, h3⟩
theorem Ok.first {succ : α → List α} {from_ : List α} {R : α → Prop} (hR : ∀ p ∈ from_, R p) : Ok succ from_ R (Bfs.adds [] from_ (-1)) := (Ok.nil succ from_ R).adds hR fun p hp => .inl ⟨rfl, hp⟩
theorem Ok.step {succ : α → List α} {from_ : List α} {R : α → Prop} {acc : Ac α} (h : Ok succ from_ R acc) (hs : ∀ p, R p → ∀ q ∈ succ p, R q) {k : Nat} {x : α × Int} (hk : acc[k]? = some x) : Ok succ from_ R (Bfs.adds acc (succ x.1) k) :=
  h.adds (fun p hp => hs _ (h.rng x (List.mem_of_getElem? hk)) p hp) fun p hp => .inr ⟨k, x, rfl, hk, hp⟩
def Cl (succ : α → List α) (acc : Ac α) (k : Nat) : Prop := ∀ (i : Nat) (x : α × Int), i < k → acc[i]? = some x → ∀ p ∈ succ x.1, p ∈ acc.map (·.1)
theorem Cl.step {succ : α → List α} {acc : Ac α} {k : Nat} (h : Cl succ acc k) {x : α × Int} (hk : acc[k]? = some x) : Cl succ (adds acc (succ x.1) k) (k + 1) := by
  intro i y hi hy p hp
  have hkl := (List.getElem?_eq_some_iff.1 hk).1
  rw [adds_get (by omega)] at hy
  by_cases he : i = k
  · subst he
    rw [hk] at hy; cases hy
    exact adds_mem hp
  · obtain ⟨z, hz, rfl⟩ := List.mem_map.1 (h i y (by omega) hy p hp)
    exact List.mem_map.2 ⟨z, adds_sub hz, rfl⟩
def back (acc : Ac α) : Nat → Int → List Nat
  | 0, _ => []
  | f + 1, i => if i < 0 then [] else i.toNat :: back acc f (match acc[i.toNat]? with | some x => x.2 | none => -1)
def idx (p : α) : List α → Nat → Option Nat
  | [], _ => none
  | q :: r, i => if p = q then some i else idx p r (i + 1)
theorem idx_none {p : α} : ∀ {l : List α} {i : Nat}, idx p l i = none ↔ p ∉ l := by
  intro l
  induction l with
  | nil => intro i; simp [idx]
  | cons q r ih =>
    intro i
    simp only [idx]
    split
    · rename_i h; simp [h]
    · rename_i h; rw [ih]; simp [h]
theorem idx_some {p : α} : ∀ {l : List α} {i j : Nat}, idx p l i = some j → i ≤ j ∧ l[j - i]? = some p := by
  intro l
  induction l with
  | nil => intro i j h; cases h
  | cons q r ih =>
    intro i j h
    simp only [idx] at h
    split at h
    · rename_i e; cases h; subst e; simp
    · obtain ⟨a, b⟩ := ih h
      exact ⟨by omega, by rw [show j - i = j - (i + 1) + 1 by omega]; simpa using b⟩
end Go.Bfs
end
section
namespace Go.Aut
abbrev Mv := Nat → Nat → List (Nat × Bool)
inductive Walk {α : Type} (E : α → α → Prop) : Nat → α → α → Prop
  | nil (x : α) : Walk E 0 x x
  | cons {n : Nat} {x y z : α} (h : E x y) (k : Walk E n y z) : Walk E (n + 1) x z
theorem Walk.trans {α : Type} {E : α → α → Prop} {m n : Nat} {x y z : α} (h : Walk E m x y) (k : Walk E n y z) : Walk E (m + n) x z := by
  induction h with
  | nil => simpa using k
  | cons e _ ih => rw [Nat.add_right_comm]; exact .cons e (ih k)
theorem Walk.fn {α : Type} {E : α → α → Prop} {n : Nat} {x y : α} (h : Walk E n x y) : ∃ f : Nat → α, f 0 = x ∧ f n = y ∧ ∀ i, i < n → E (f i) (f (i + 1)) := by
  induction h with
  | nil x => exact ⟨fun _ => x, rfl, rfl, fun i hi => absurd hi (Nat.not_lt_zero _)⟩
  | @cons n x y z e _ ih =>
    obtain ⟨f, h0, h1, h2⟩ := ih
    refine ⟨fun i => match i with | 0 => x | i + 1 => f i, rfl, h1, fun i hi => ?_⟩
    cases i with
    | zero => simpa [h0] using e
    | succ i => exact h2 i (by omega)
theorem pig (n : Nat) : ∀ l : List Nat, l.Nodup → (∀ x ∈ l, x < n) → l.length ≤ n := by
  induction n with
  | zero =>
    intro l _ h
    cases l with
    | nil => simp
    | cons a l => exact absurd (h a (by simp)) (Nat.not_lt_zero _)
  | succ n ih =>
    intro l hd h
    by_cases hm : n ∈ l
    · have h1 := ih (l.erase n) (hd.erase n) fun x hx => by
        have a := h x (List.mem_of_mem_erase hx)
        have b : x ≠ n := by rintro rfl; exact (List.Nodup.not_mem_erase hd) hx
        omega
      rw [List.length_erase_of_mem hm] at h1
      omega
    · have := ih l hd fun x hx => by
        have a := h x hx
        have b : x ≠ n := by rintro rfl; exact hm hx
        omega
      omega
structure Tk where
  n : Nat
  back : Nat
  lt : Nat → Nat
  mv : Mv
def Tk.nxt (k : Tk) (p : Nat) : Nat := if p + 1 = k.n then k.back else p + 1
def Tk.pos (k : Tk) : Nat → Nat
  | 0 => 0
  | i + 1 => k.nxt (k.pos i)
abbrev Pl := Nat × Nat
def Tk.moves (k : Tk) (x : Pl) : List (Nat × Bool) := k.mv x.2 (k.lt x.1)
def Tk.after (k : Tk) (x : Pl) (m : Nat × Bool) : Pl := (k.nxt x.1, m.1)
def Tk.E (k : Tk) (x y : Pl) : Prop := ∃ m ∈ k.moves x, k.after x m = y
end Go.Aut
end
