/- From what a row says of its input to plain values, and from a plain run to what a row asks. -/
import Derived.Test.YtmfpcofncfhklaaPvEval
import Derived.Carry
import Derived.ChangeArms
import Derived.ChangeSame
import Derived.Deep.Slices
import Derived.OpenShut
set_option linter.unusedSimpArgs false
set_option linter.unusedVariables false
namespace Go.Pv
open Go Go.RowKit Go.ChangeShapes Go.WideShapes

/-- What one cell of plain data may hold. -/
inductive CT where
  | bool
  | int (k : IntKind)
  | str
  | sl (es : List CT)

mutual
inductive HasC : CT → LV → Prop
  | bool (b : Bool) : HasC .bool (.bool b)
  | int {k : IntKind} {n : Int} (h : (Lit.int k n).wf = true) : HasC (.int k) (.int k n)
  | str (s : ByteArray) (h : s.size ≤ maxLen) : HasC .str (.str s)
  | nil {es : List CT} : HasC (.sl es) .nils
  | zs {es : List CT} : HasC (.sl es) .zs
  | sl {es : List CT} {rows : List (List LV)} (hn : rows.length ≤ maxLen) (h : HasRs es rows) : HasC (.sl es) (.simm rows.flatten rows.length)
inductive HasR : List CT → List LV → Prop
  | nil : HasR [] []
  | cons {c : CT} {v : LV} {cs : List CT} {vs : List LV} (h : HasC c v) (hs : HasR cs vs) : HasR (c :: cs) (v :: vs)
inductive HasRs : List CT → List (List LV) → Prop
  | nil {es : List CT} : HasRs es []
  | cons {es : List CT} {r : List LV} {rs : List (List LV)} (h : HasR es r) (hs : HasRs es rs) : HasRs es (r :: rs)
end

def fieldsTy (P : Program) (f : TypeId → Option (List CT)) : List Field → Nat → Option (List CT)
  | [], _ => some []
  | fl :: fs, off =>
    match f fl.type with
    | some r =>
      if fl.offset = off ∧ r.length = P.cellsOf fl.type then (match fieldsTy P f fs (off + r.length) with | some rs => some (r ++ rs) | none => none) else none
    | none => none

def rowTy (P : Program) : Nat → TypeId → Option (List CT)
  | 0, _ => none
  | n + 1, t =>
    match P.underlying t with
    | some .bool => some [.bool]
    | some (.int k) => some [.int k]
    | some .string => some [.str]
    | some (.slice e) =>
      match rowTy P n e with
      | some r => if r.length = P.cellsOf e ∧ 0 < r.length then some [.sl r] else none
      | none => none
    | some (.struct fs) =>
      match fieldsTy P (rowTy P n) fs.toList 0 with
      | some r => if r.length = P.cellsOf t then some r else none
      | none => none
    | _ => none

theorem HasR.length : ∀ {cs : List CT} {vs : List LV}, HasR cs vs → vs.length = cs.length := by
  intro cs
  induction cs with
  | nil => intro vs h; cases h; rfl
  | cons c cs ih => intro vs h; cases h with | cons h hs => simp [ih hs]

theorem HasR.append : ∀ {cs ds : List CT} {vs ws : List LV}, HasR cs vs → HasR ds ws → HasR (cs ++ ds) (vs ++ ws) := by
  intro cs
  induction cs with
  | nil => intro ds vs ws h k; cases h; exact k
  | cons c cs ih => intro ds vs ws h k; cases h with | cons h hs => exact .cons h (ih hs k)

section
variable {P : Program} {G : Globs} {H : Type} {enc : TypeId × Value → H} {W : World}

def noMu : Mu := fun _ => none

/-- Plain cells and the world's. -/
def Rd (κ : Io) (W : World) (lvs : List LV) (cs : List Value) : Prop := lvs.length = cs.length ∧ ∀ i, i < cs.length → Rv noMu κ W (lvs.getD i .top) (cs.getD i undef) ∧ (cs.getD i undef).oneCell' = true

theorem Rd.one {κ : Io} {v : LV} {x : Value} (h : Rv noMu κ W v x) (h1 : x.oneCell' = true) : Rd κ W [v] [x] :=
  ⟨rfl, fun i hi => by
    have h0 : i = 0 := by simpa using hi
    subst h0
    exact ⟨by simpa using h, by simpa using h1⟩⟩

theorem Rd.append {κ : Io} {a b : List LV} {x y : List Value} (h : Rd κ W a x) (k : Rd κ W b y) : Rd κ W (a ++ b) (x ++ y) := by
  refine ⟨by simp [h.1, k.1], fun i hi => ?_⟩
  by_cases hx : i < x.length
  · have := h.2 i hx
    have ha : i < a.length := by rw [h.1]; exact hx
    simpa [List.getD_eq_getElem?_getD, List.getElem?_append_left hx, List.getElem?_append_left ha] using this
  · have hi' : i - x.length < y.length := by simp at hi; omega
    have := k.2 _ hi'
    have ha : a.length ≤ i := by rw [h.1]; omega
    simpa [List.getD_eq_getElem?_getD, List.getElem?_append_right (Nat.le_of_not_lt hx), List.getElem?_append_right ha, h.1] using this

theorem flatten_len {α : Type} {rows : List (List α)} {m : Nat} (h : ∀ r ∈ rows, r.length = m) : rows.flatten.length = rows.length * m := by
  induction rows with
  | nil => simp
  | cons r rs ih =>
    rw [List.flatten_cons, List.length_append, ih (fun x hx => h x (by simp [hx])), h r (by simp), List.length_cons, Nat.add_mul, Nat.one_mul, Nat.add_comm]

theorem flatten_get {α : Type} {m : Nat} : ∀ {rows : List (List α)}, (∀ r ∈ rows, r.length = m) → ∀ i j, j < m → rows.flatten[i * m + j]? = (rows[i]?).bind (·[j]?) := by
  intro rows
  induction rows with
  | nil => intro _ i j _; simp
  | cons r rs ih =>
    intro h i j hj
    have hr := h r (by simp)
    cases i with
    | zero => simp [List.getElem?_append_left (show j < r.length by omega)]
    | succ i =>
      have : (i + 1) * m + j = r.length + (i * m + j) := by rw [Nat.add_mul, hr]; omega
      rw [this, List.flatten_cons, List.getElem?_append_right (by omega), Nat.add_sub_cancel_left, ih (fun x hx => h x (by simp [hx])) i j hj]
      simp

theorem cells?_get {W : World} {base : Nat} {a : Addr} {n : Nat} {cs : List Value} (h : W.cells? base a n = some cs) : cs.length = n ∧ ∀ i, i < n → W.cell? (a.add i) = some (cs.getD i undef) := by
  unfold World.cells? at h
  split at h
  · obtain ⟨h1, h2⟩ := Go.Pv.mapM_get h
    refine ⟨by simpa using h1, fun i hi => ?_⟩
    obtain ⟨y, hy, hc⟩ := h2 i (by simpa using hi)
    simp only [List.getElem_range] at hc
    rw [hc, List.getD_eq_getElem?_getD, hy]
    rfl
  · cases h

theorem HasRs.all {es : List CT} : ∀ {rows : List (List LV)}, HasRs es rows ↔ ∀ r ∈ rows, HasR es r := by
  intro rows
  induction rows with
  | nil => exact Iff.intro (fun _ r hr => absurd hr List.not_mem_nil) (fun _ => HasRs.nil)
  | cons r rs ih =>
    constructor
    · intro h x hx
      cases h with
      | cons h hs =>
        rcases List.mem_cons.1 hx with rfl | hx
        · exact h
        · exact ih.1 hs x hx
    · intro h
      exact .cons (h r (by simp)) (ih.2 fun x hx => h x (by simp [hx]))

theorem read_row {κ : Io} : ∀ {n : Nat} {t : TypeId} {row : List CT}, rowTy P n t = some row → ∀ {fuel : Nat} {cs : List Value} {x : DataW H × List MemPlace}, DataW.trod enc P W 0 (fun _ => true) true fuel t cs = some x →
    (∀ b o, MemPlace.cell b o ∈ x.2 → κ b o) → ∃ lvs, HasR row lvs ∧ Rd κ W lvs cs := by
  intro n
  induction n with
  | zero => intro t row h; cases h
  | succ n ih =>
    intro t row h fuel cs x hx hκ
    unfold rowTy at h
    split at h
    · rename_i ht; cases h
      obtain ⟨b, rfl, -⟩ := DataW.trod_bool ht hx
      exact ⟨[.bool b], .cons (.bool b) .nil, Rd.one (.bool b) rfl⟩
    · rename_i k ht; cases h
      obtain ⟨n, rfl, -, hw⟩ := DataW.trod_int ht hx
      exact ⟨[.int k n], .cons (.int hw) .nil, Rd.one (.int k n) rfl⟩
    · rename_i ht; cases h
      obtain ⟨s, rfl, -, hw⟩ := DataW.trod_string ht hx
      exact ⟨[.str s], .cons (.str s hw) .nil, Rd.one (.str s) rfl⟩
    · rename_i e ht
      split at h
      · rename_i r hr
        split at h
        · rename_i hlen
          cases h
          rcases Deep.open_slice ht hx with ⟨rfl, -⟩ | ⟨a, len, cap, m, n', D, Pl, rfl, hb, hl, hcap, hm, rfl, hel⟩
          · exact ⟨[.nils], .cons .nil .nil, Rd.one .nils rfl⟩
          · simp only [if_true] at hm
            subst hm
            by_cases hc0 : m = 0
            · subst hc0
              obtain rfl : len = 0 := by omega
              exact ⟨[.zs], .cons .zs .nil, Rd.one (.zs a) rfl⟩
            · have hcl := hlen.1
              have hpos : 0 < P.cellsOf e := by omega
              have hea : ∀ i, i < m → ∃ q : List LV × List Value, W.cells? 0 (a.add (i * P.cellsOf e)) (P.cellsOf e) = some q.2 ∧ HasR r q.1 ∧ Rd κ W q.1 q.2 := fun i hi => by
                obtain ⟨cs', h1, h2⟩ := hel i hi
                obtain ⟨lvs, h3, h4⟩ := ih hr h2 (fun b o hmem => hκ b o (List.mem_append_right _ (List.mem_flatMap.2 ⟨i, List.mem_range.2 hi, hmem⟩)))
                exact ⟨(lvs, cs'), h1, h3, h4⟩
              obtain ⟨Q, hQ⟩ := Deep.choose_lt hea
              have hspot : a.spot = none := by
                have h0 := hQ 0 (by omega)
                have := (cells?_get h0.1).2 0 hpos
                simp only [Nat.zero_mul, Addr.add, if_true] at this
                unfold World.cell? at this
                split at this
                · split at this
                  · cases this
                  · rename_i hs; simpa using hs
                · cases this
              have hadd : ∀ k, a.add k = ⟨a.block, a.off + k, none⟩ := fun k => by
                unfold Addr.add
                split
                · rename_i h0; subst h0; cases a; simp at hspot; subst hspot; rfl
                · rfl
              let rows := (List.range len).map fun i => (Q i).1
              have hrl : ∀ q ∈ rows, q.length = P.cellsOf e := fun q hq => by
                obtain ⟨i, hi, rfl⟩ := List.mem_map.1 hq
                rw [(hQ i (by have := List.mem_range.1 hi; omega)).2.1.length, hcl]
              have hlen' : rows.length = len := by simp [rows]
              have hfl := flatten_len hrl
              refine ⟨[.simm rows.flatten rows.length], .cons (.sl (by rw [hlen']; exact Nat.le_trans hl hcap) (HasRs.all.2 fun q hq => ?_)) .nil, ?_⟩
              · obtain ⟨i, hi, rfl⟩ := List.mem_map.1 hq
                exact (hQ i (by have := List.mem_range.1 hi; omega)).2.1
              · rw [hlen']
                have ha : a = ⟨a.block, a.off, none⟩ := by cases a; simp at hspot; subst hspot; rfl
                have key : ∀ i, i < rows.flatten.length → ∃ y : Value, W.cell? ⟨a.block, a.off + i, none⟩ = some y ∧ Rv noMu κ W (rows.flatten.getD i .top) y ∧ y.oneCell' = true ∧ κ a.block (a.off + i) := fun i hi => by
                  rw [hfl, hlen'] at hi
                  have hdm := Nat.div_add_mod i (P.cellsOf e)
                  have hj := Nat.mod_lt i hpos
                  have hq : i / P.cellsOf e < len := Nat.div_lt_of_lt_mul (by rw [Nat.mul_comm]; exact hi)
                  obtain ⟨h1, h2, h3⟩ := hQ (i / P.cellsOf e) (by omega)
                  obtain ⟨g1, g2⟩ := cells?_get h1
                  have h4 := g2 (i % P.cellsOf e) hj
                  have h5 := h3.2 (i % P.cellsOf e) (by rw [g1]; exact hj)
                  have e1 : i / P.cellsOf e * P.cellsOf e + i % P.cellsOf e = i := by rw [Nat.mul_comm]; exact hdm
                  refine ⟨_, ?_, ?_, h5.2, hκ _ _ (List.mem_append_left _ ?_)⟩
                  · rw [Deep.add_add, e1, hadd] at h4
                    exact h4
                  · have := flatten_get hrl (i / P.cellsOf e) (i % P.cellsOf e) hj
                    rw [e1] at this
                    rw [List.getD_eq_getElem?_getD, this]
                    have : rows[i / P.cellsOf e]? = some (Q (i / P.cellsOf e)).1 := by simp [rows, hq]
                    rw [this]
                    have h6 := h5.1
                    rw [List.getD_eq_getElem?_getD] at h6
                    exact h6
                  · refine List.mem_map.2 ⟨i, List.mem_range.2 ?_, rfl⟩
                    exact Nat.lt_of_lt_of_le hi (Nat.mul_le_mul_right _ hl)
                obtain ⟨V, hV⟩ := Deep.choose_lt (α := Value) (n := rows.flatten.length) key
                rw [ha]
                exact Rd.one (.simm V (fun i hi => (hV i hi).1) (fun i hi => (hV i hi).2.2.2) (fun i hi => (hV i hi).2.2.1) (fun i hi => (hV i hi).2.1) hl) rfl
        · cases h
      · cases h
    · rename_i fs ht
      split at h
      · rename_i r hr
        split at h
        · rename_i hlen
          cases h
          obtain ⟨xs, n', -, rfl, hcl, hxl, hf⟩ := DataW.trod_struct ht hx
          have key : ∀ (fl : List Field) (off : Nat) (r : List CT) (ys : List (DataW H × List MemPlace)), fieldsTy P (rowTy P n) fl off = some r → (∀ (i : Nat) f, fl[i]? = some f → DataW.trod enc P W 0 (fun _ => true) true n' f.type ((cs.drop f.offset).take (P.cellsOf f.type)) = ys[i]?) →
              ys.length = fl.length → (∀ b o, MemPlace.cell b o ∈ ys.flatMap (·.2) → κ b o) → off + r.length ≤ cs.length → ∃ lvs, HasR r lvs ∧ Rd κ W lvs ((cs.drop off).take r.length) := by
            intro fl
            induction fl with
            | nil =>
              intro off r ys h _ _ _ _
              cases h
              exact ⟨[], .nil, by simp [Rd]⟩
            | cons f fl ihf =>
              intro off r ys h hys hyl hk hle
              simp only [fieldsTy] at h
              split at h
              · rename_i r1 hr1
                split at h
                · rename_i hc
                  split at h
                  · rename_i r2 hr2
                    cases h
                    obtain ⟨hoff, hsz⟩ := hc
                    match ys, hyl with
                    | y :: ys, hyl =>
                      have hy := hys 0 f rfl
                      simp only [List.getElem?_cons_zero] at hy
                      obtain ⟨l1, g1, g2⟩ := ih hr1 hy (fun b o hm => hk b o (by simp [hm]))
                      simp only [List.length_append] at hle
                      obtain ⟨l2, g3, g4⟩ := ihf (off + r1.length) r2 ys hr2 (fun i f' hi => by simpa using hys (i + 1) f' (by simpa using hi)) (by simpa using hyl)
                        (fun b o hm => hk b o (by simp only [List.flatMap_cons, List.mem_append]; exact .inr hm)) (by omega)
                      refine ⟨l1 ++ l2, g1.append g3, ?_⟩
                      have : (cs.drop off).take (r1 ++ r2).length = (cs.drop off).take r1.length ++ (cs.drop (off + r1.length)).take r2.length := by
                        rw [List.length_append, List.take_add, List.drop_drop]
                      rw [this]
                      rw [hoff, ← hsz] at g2
                      exact g2.append g4
                  · cases h
                · cases h
              · cases h
          obtain ⟨lvs, g1, g2⟩ := key fs.toList 0 row xs hr (fun i f hi => hf i f (by simpa using hi)) (by simpa using hxl) hκ (by omega)
          refine ⟨lvs, g1, ?_⟩
          rw [List.drop_zero, List.take_of_length_le (by omega)] at g2
          exact g2
        · cases h
      · cases h
    · cases h

/-- What an argument of a type is. -/
def HasArg (P : Program) (n : Nat) (t : TypeId) (v : LV) : Prop :=
  ∃ row lvs, rowTy P n t = some row ∧ HasR row lvs ∧ (match P.underlying t with | some (.struct _) => v = .agg lvs | _ => lvs = [v])

theorem read_arg {κ : Io} {n : Nat} {t : TypeId} {row : List CT} (hrow : rowTy P n t = some row) {base : Nat} {v : Value} (hval : Value.okWide P W .any base t v) {d : DataW H} {ps : List MemPlace} (h : DataW.Trod enc P W 0 (fun _ => true) true t v d ps)
    (hκ : ∀ b o, MemPlace.cell b o ∈ ps → κ b o) : ∃ lv, HasArg P n t lv ∧ Rv noMu κ W lv v := by
  obtain ⟨fuel, hf⟩ := h
  obtain ⟨lvs, h1, h2⟩ := read_row hrow hf hκ
  have hone : (∀ x, v ≠ .agg x) → (∀ fs, P.underlying t ≠ some (.struct fs)) → ∃ lv, HasArg P n t lv ∧ Rv noMu κ W lv v := fun hn hs => by
    have hc : v.cells.toList = [v] := by
      cases v <;> first | rfl | exact absurd rfl (hn _)
    rw [hc] at h2
    match lvs, h2.1 with
    | [lv], _ =>
      refine ⟨lv, ⟨row, [lv], hrow, h1, ?_⟩, by simpa using (h2.2 0 (by simp)).1⟩
      split
      · rename_i fs hu; exact absurd hu (hs fs)
      · rfl
  cases n with
  | zero => cases hrow
  | succ n =>
    have hrow' := hrow
    unfold rowTy at hrow
    unfold Value.okWide at hval
    split at hrow
    · rename_i ht
      rw [ht] at hval
      refine hone (fun x => ?_) (fun fs hu => by rw [ht] at hu; cases hu)
      rintro rfl
      simp [Cell.okWide, ht, Cell.ok] at hval
    · rename_i k ht
      rw [ht] at hval
      refine hone (fun x => ?_) (fun fs hu => by rw [ht] at hu; cases hu)
      rintro rfl
      simp [Cell.okWide, ht, Cell.ok] at hval
    · rename_i ht
      rw [ht] at hval
      refine hone (fun x => ?_) (fun fs hu => by rw [ht] at hu; cases hu)
      rintro rfl
      simp [Cell.okWide, ht, Cell.ok] at hval
    · rename_i e ht
      rw [ht] at hval
      refine hone (fun x => ?_) (fun fs hu => by rw [ht] at hu; cases hu)
      rintro rfl
      simp [Cell.okWide, ht, Cell.ok] at hval
    · rename_i fs ht
      rw [ht] at hval
      obtain ⟨cs, rfl, -, -⟩ := hval
      refine ⟨.agg lvs, ⟨row, lvs, hrow', h1, by rw [ht]⟩, .agg (by have := h2.1; simpa [Value.cells] using this.symm) fun i hi => ?_⟩
      have := (h2.2 i (by rw [← h2.1]; exact hi)).1
      simpa [Value.cells, List.getD_eq_getElem?_getD, Array.getD_eq_getD_getElem?] using this
    · cases hrow

/-- All arguments. -/
inductive HasArgs (P : Program) (n : Nat) : List TypeId → List LV → Prop
  | nil : HasArgs P n [] []
  | cons {t : TypeId} {v : LV} {ts : List TypeId} {vs : List LV} (h : HasArg P n t v) (hs : HasArgs P n ts vs) : HasArgs P n (t :: ts) (v :: vs)

theorem read_args {κ : Io} {n base : Nat} : ∀ {ts : List TypeId} {vs : List Value} {ds : List (DataW H)} {ps : List MemPlace}, (∀ t ∈ ts, (rowTy P n t).isSome = true) → DataW.TrodAll enc P W 0 (fun _ => true) true ts vs ds ps →
    (∀ (j : Nat) t v, ts[j]? = some t → vs[j]? = some v → Value.okWide P W .any base t v) → (∀ b o, MemPlace.cell b o ∈ ps → κ b o) →
    ∃ lvs, HasArgs P n ts lvs ∧ lvs.length = vs.length ∧ ∀ i, i < vs.length → Rv noMu κ W (lvs.getD i .top) (vs.getD i undef) := by
  intro ts
  induction ts with
  | nil =>
    intro vs ds ps _ h _ _
    obtain ⟨rfl, rfl, rfl⟩ := trodAll_nil h
    exact ⟨[], .nil, rfl, fun i hi => absurd hi (Nat.not_lt_zero _)⟩
  | cons t ts ih =>
    intro vs ds ps hr h hv hκ
    obtain ⟨v, vs', d, ds', p, q, rfl, rfl, rfl, h0, h1⟩ := trodAll_cons h
    obtain ⟨row, hrow⟩ := Option.isSome_iff_exists.1 (hr t (by simp))
    obtain ⟨lv, g1, g2⟩ := read_arg hrow (hv 0 t v rfl rfl) h0 (fun b o hm => hκ b o (by simp [hm]))
    obtain ⟨lvs, g3, g4, g5⟩ := ih (fun t ht => hr t (by simp [ht])) h1 (fun j t v hj hv' => hv (j + 1) t v (by simpa using hj) (by simpa using hv')) (fun b o hm => hκ b o (by simp [hm]))
    refine ⟨lv :: lvs, .cons g1 g3, by simp [g4], fun i hi => ?_⟩
    cases i with
    | zero => simpa using g2
    | succ i => simpa using g5 i (by simpa using hi)

/-- **A function called from outside.** -/
theorem calls_fn {refs : List Nat} {f : FuncId} {fn : Func} {lf : LFunc} {args : List LV} {Q : LV → Prop} (hG : G = []) (hf : P.funcs[f]? = some fn) (hn : (fn.name == "runtime.NumGoroutine") = false)
    (hc : compFunc P G refs fn = some lf) (hlen : args.length ≤ lf.ntmps)
    (h : CodeOk P G false lf.ntmps lf.body (envOf args) St.empty (fun o e s' => (o = .normal ∨ o = .jmp .ret) ∧ ∃ v, resVal lf.results e s' = some v ∧ Q v))
    {κ : Io} {vargs : Array Value} (hκ : ∀ b o, κ b o → ∃ v, W.cell? ⟨b, o, none⟩ = some v) (hvl : vargs.size = args.length) (hva : ∀ i, i < args.length → Rv noMu κ W (args.getD i .top) (vargs.getD i undef)) :
    Calls P f vargs W fun e W' => ∃ lv v μ' ι', e = .returned v ∧ Q lv ∧ Below W.heap.size W W' ∧ Rv μ' ι' W' lv v := by
  intro cs
  unfold compFunc at hc
  obtain ⟨body, hbody, hc⟩ := bind_some hc
  obtain ⟨lrs, hlrs, hc⟩ := bind_some hc
  cases hc
  let w0 : Bs := ⟨W, κ⟩
  have hN : Now P G w0 noMu κ (fun _ => False) St.empty W := by
    refine ⟨⟨Below.refl _ _, fun id p hp => (by cases hp), hκ, fun id b p _ hp => (by cases hp), fun _ _ _ _ _ _ hb => (by cases hb), fun _ hr => hr.elim, fun b o hi _ => hi⟩, fun x hx => ?_⟩
    rw [hG] at hx; cases hx
  let b : Frame := { (default : Frame) with fn := f, kind := .normal, roundOf := none }
  let a : Act := { tmps := vargs ++ Array.replicate (fn.ntmps - vargs.size) undef, defers := [] }
  have hfr : Frame.enter P f vargs .normal = b.atR a [.code body] := by
    simp [Frame.enter, Frame.atR, hf, hbody, a, b]
  have hF : Fr P G w0 noMu κ (fun _ => False) St.empty W fn.ntmps (envOf args) a := by
    refine ⟨hN, fun t => ?_, by simp only [a, Array.size_append, Array.size_replicate]; simp only at hlen; omega⟩
    rw [envOf_at]
    by_cases ht : t < args.length
    · have := hva t ht
      have hx : a.tmps.getD t undef = vargs.getD t undef := by
        simp only [a, Array.getD_eq_getD_getElem?]
        rw [Array.getElem?_append_left (by omega)]
      rw [hx]; exact this
    · rw [List.getD_eq_getElem?_getD, List.getElem?_eq_none (by omega)]
      exact .top _
  obtain ⟨o, e', s', μ', ι', δ', w1, a', ⟨ho, v, hv, q⟩, har, hF', hW⟩ := h body ⟨refs, rfl⟩ w0 noMu κ (fun _ => False) W b a [] cs rfl hF
  have hend : ∃ todo, Steps P (lone (b.atR a [.code body]) cs W) (lone { b.atR a' todo with mode := .returning } cs w1) := by
    rcases ho with rfl | rfl
    · exact ⟨[], Steps.trans har (.one (stepR_end rfl))⟩
    · obtain ⟨k', har⟩ := har
      exact ⟨_, Steps.trans har (.one (stepR_ret rfl))⟩
  obtain ⟨todo, hs1⟩ := hend
  obtain ⟨rs, hd, hnd, hnδ, hδ⟩ := hW.marks
  obtain ⟨w2, hs2, I2, x2⟩ := unwind_marks (P := P) (fr := { b.atR a' todo with mode := .returning }) (cs := cs) rfl rs δ' w1 hnd hnδ hδ hF'.now.inv
  have hfr2 : { b.atR a' todo with mode := FrameMode.returning } = { ({ b.atR a' todo with mode := FrameMode.returning } : Frame) with defers := rs.map mark } := by
    have : a'.defers = rs.map mark := by rw [hd]; simp [a]
    simp [Frame.atR, this]
  rw [hfr2] at hs1
  have hx : Ext noMu κ (fun _ => False) W μ' ι' (fun _ => False) w2 := ⟨hW.ext.mu, hW.ext.io, fun b o hi => (x2.cell b o (hW.ext.io b o hi)).trans (hW.ext.cell b o hi), Nat.le_trans hW.ext.size x2.size, fun _ h => h⟩
  have hF2 : Fr P G w0 μ' ι' (fun _ => False) s' w2 fn.ntmps e' a' := ⟨hN.ext I2 hx, fun t => (hF'.re t).mono x2.cell (fun _ _ h => h) (fun _ _ h => h), hF'.size⟩
  obtain ⟨x, hres, hrv⟩ := res_run (c := ⟨P, G, refs, fn.ntmps⟩) rfl hlrs hF2 hv
  refine ⟨.returned x, w2, { ({ b.atR a' todo with mode := FrameMode.returning } : Frame) with defers := [] }, ⟨v, x, μ', ι', rfl, q, I2.below, hrv⟩, ?_, rfl, ⟨rfl, rfl, rfl, fn, hf, hres⟩⟩
  rw [hfr]
  exact Steps.trans hs1 hs2
end
end Go.Pv
