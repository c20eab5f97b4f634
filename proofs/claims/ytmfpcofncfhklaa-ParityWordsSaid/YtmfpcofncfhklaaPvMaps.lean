/- Maps, bytes as a string, slices without room. -/
import Derived.Test.YtmfpcofncfhklaaPvAlloc
import Derived.MapKept
import Derived.Laws.BytesString
set_option linter.unusedSimpArgs false
namespace Go.Pv
open Go Go.RowKit Go.MapKept

section
variable {P : Program} {w : World} {w0 : Bs} {μ : Mu} {ι : Io} {δ : Nat → Prop} {s s' : St} {cmp : Nat → LCode → Code → Prop} {c : Ctx} {e : Env} {a : Act} {o : Oper} {v : LV}

theorem keyKind_cases {t : TypeId} {kd : KTy} (h : keyKind P t = some kd) :
    (∃ d, P.underlying t = some d ∧ (∀ es, kd ≠ .st es) ∧ ∀ {k : LV} {x : Value}, Rv μ ι w k x → keyOk kd k = true → IsKey d x) ∨
    (∃ es fs, kd = .st es ∧ P.underlying t = some (.struct fs) ∧ P.stoodInHeld t = false ∧ fs.toList.all (fun f => f.name != "_") = true ∧ fs.toList.mapM (fun f => (scTy P f.type).map fun e => (f.offset, 1, e)) = some es) := by
  unfold keyKind at h
  cases hu : P.underlying t with
  | none => simp [hu] at h
  | some d =>
    rw [hu] at h
    cases d <;> simp only [Option.some.injEq, reduceCtorEq] at h
    case int k =>
      subst h
      refine .inl ⟨_, rfl, fun es h => (by cases h), fun {k x} hk hok => ?_⟩
      cases hk <;> simp [keyOk] at hok
      exact hok
    case string =>
      subst h
      refine .inl ⟨_, rfl, fun es h => (by cases h), fun {k x} hk hok => ?_⟩
      cases hk <;> simp [keyOk] at hok
      trivial
    case struct fs =>
      split at h
      · rename_i es he
        cases h
        unfold eqTy at he
        rw [hu] at he
        simp only at he
        split at he
        · cases he
        · rename_i hg
          simp only [Bool.or_eq_true, not_or, Bool.not_eq_true] at hg
          split at he
          · rename_i hall
            obtain ⟨es', hes, h2⟩ := map_some' he
            cases h2
            exact .inr ⟨_, fs, rfl, rfl, hg.1, hall, hes⟩
          · cases he
      · cases h

theorem ra_tail {x : LV} {xs : List LV} {u : Value} {us : List Value} (h : Ra μ ι w (x :: xs) (u :: us).toArray) : Rv μ ι w x u ∧ Ra μ ι w xs us.toArray := by
  refine ⟨by simpa using h.2 0 (by simp), by simpa using h.1, fun i hi => ?_⟩
  have := h.2 (i + 1) (by simpa using hi)
  simpa [Array.getD_eq_getD_getElem?] using this

theorem sameInts_rel : ∀ {xs ys : List LV} {us vs : List Value}, Ra μ ι w xs us.toArray → Ra μ ι w ys vs.toArray → sameInts xs ys = true → us = vs ∧ ∀ u ∈ us, ∃ k n, u = .int k n := by
  intro xs
  induction xs with
  | nil =>
    intro ys us vs hx hy h
    cases ys <;> simp only [sameInts, Bool.false_eq_true] at h
    have h1 : us = [] := List.length_eq_zero_iff.1 (by simpa using hx.1)
    have h2 : vs = [] := List.length_eq_zero_iff.1 (by simpa using hy.1)
    subst h1; subst h2
    exact ⟨rfl, fun u hu => by cases hu⟩
  | cons x xs ih =>
    intro ys us vs hx hy h
    cases ys with
    | nil => cases x <;> simp [sameInts] at h
    | cons y ys =>
      have h1 := hx.1
      have h2 := hy.1
      cases us with
      | nil => simp at h1
      | cons u us =>
        cases vs with
        | nil => simp at h2
        | cons v vs =>
          obtain ⟨r1, t1⟩ := ra_tail hx
          obtain ⟨r2, t2⟩ := ra_tail hy
          cases r1 <;> (try (simp only [sameInts, Bool.false_eq_true] at h; done))
          cases r2 <;> simp only [sameInts, Bool.false_eq_true, Bool.and_eq_true, beq_iff_eq] at h
          obtain ⟨⟨rfl, rfl⟩, h⟩ := h
          obtain ⟨rfl, hall⟩ := ih t1 t2 h
          refine ⟨rfl, fun u hu => ?_⟩
          rcases List.mem_cons.1 hu with rfl | hu
          · exact ⟨_, _, rfl⟩
          · exact hall u hu

theorem sameBits_ints {us : Array Value} (h : ∀ u ∈ us.toList, ∃ k n, u = .int k n) (m : Nat) : Instr.sameBits (m + 1) (.agg us) (.agg us) = true := by
  simp only [Instr.sameBits, beq_self_eq_true, Bool.true_and]
  generalize us.toList = l at h
  induction l with
  | nil => rfl
  | cons u l ih =>
    obtain ⟨k, n, rfl⟩ := h u (by simp)
    simp only [List.zip_cons_cons, List.all_cons, Bool.and_eq_true]
    refine ⟨?_, ih fun v hv => h v (by simp [hv])⟩
    cases m <;> simp [Instr.sameBits]

theorem keyEq_rel {d : TypeDesc} {k k' : LV} {x x' : Value} {b : Bool} (hx : Rv μ ι w k x) (hx' : Rv μ ι w k' x') (hk : IsKey d x) (h : keyEq k k' = some b) : Instr.sameNow d x x' = some b ∧ (b = true → x' = x) := by
  cases hx <;> cases hx' <;> simp only [keyEq, reduceCtorEq] at h
  · split at h
    · rename_i hkk; subst hkk; cases h
      cases d <;> simp only [IsKey] at hk
      refine ⟨by simp [Instr.sameNow], fun hb => ?_⟩
      have := eq_of_beq hb
      rw [this]
    · cases h
  · cases h
    rename_i b1 b2
    cases d <;> simp only [IsKey] at hk
    have hbe : (b1 == b2) = decide (b1.data.toList = b2.data.toList) := by
      apply Bool.eq_iff_iff.2
      rw [bytes_beq, decide_eq_true_iff]
      constructor
      · rintro rfl; rfl
      · intro h
        cases b1; cases b2
        congr 1
        exact Array.ext' h
    refine ⟨by simp [Instr.sameNow, hbe], fun hb => ?_⟩
    rw [← hbe] at hb
    rw [(bytes_beq _ _).1 hb]

theorem mfind_rel {d : TypeDesc} {kd : KTy} (hns : ∀ es, kd ≠ .st es) {k : LV} {x : Value} (hx : Rv μ ι w k x) (hk : IsKey d x) : ∀ (es : List (LV × LV)) (l : List MapEntry) (i : Nat) (r : Option (Nat × LV)), l.length = es.length →
    (∀ j, j < es.length → Rv μ ι w (es.getD j default).1 (l.getD j default).key ∧ Rv μ ι w (es.getD j default).2 (l.getD j default).val) → mfind kd k es i = some r →
    match r with
    | none => Instr.findNow d x l i = some none
    | some (n, v) => ∃ j en, n = i + j ∧ l[j]? = some en ∧ Instr.findNow d x l i = some (some (n, en.val)) ∧ Rv μ ι w v en.val ∧ en.key = x := by
  have hke : ∀ k k', keyEqT kd k k' = keyEq k k' := fun k k' => by
    cases kd with
    | st es => exact absurd rfl (hns es)
    | _ => rfl
  intro es
  induction es with
  | nil =>
    intro l i r hl _ h
    cases h
    obtain rfl := List.length_eq_zero_iff.1 hl
    rfl
  | cons p es ih =>
    obtain ⟨k', v'⟩ := p
    intro l i r hl hr h
    match l, hl with
    | en :: l, hl =>
      have h0 := hr 0 (by simp)
      have h0' : Rv μ ι w k' en.key ∧ Rv μ ι w v' en.val := by simpa using h0
      simp only [mfind, hke] at h
      cases hq : keyEq k k' with
      | none => rw [hq] at h; cases h
      | some b =>
        rw [hq] at h
        obtain ⟨hs, he⟩ := keyEq_rel hx h0'.1 hk hq
        cases b with
        | true =>
          cases h
          exact ⟨0, en, rfl, rfl, by simp [Instr.findNow, hs], h0'.2, he rfl⟩
        | false =>
          have := ih l (i + 1) r (by simpa using hl) (fun j hj => by simpa using hr (j + 1) (by simpa using hj)) h
          cases r with
          | none => simp only at this ⊢; simp [Instr.findNow, hs, this]
          | some q =>
            obtain ⟨n, u⟩ := q
            obtain ⟨j, en', h1, h2, h3, h4, h5⟩ := this
            exact ⟨j + 1, en', by omega, by simpa using h2, by simp [Instr.findNow, hs, h3], h4, h5⟩

theorem keyEqSt_rel {kt : TypeId} {fs : Array Field} {es : List (Nat × Nat × EqTy)} (hu : P.underlying kt = some (.struct fs)) (hst : P.stoodInHeld kt = false) (hall : fs.toList.all (fun f => f.name != "_") = true)
    (hes : fs.toList.mapM (fun f => (scTy P f.type).map fun e => (f.offset, 1, e)) = some es) {k k' : LV} {x x' : Value} {b : Bool} (hx : Rv μ ι w k x) (hx' : Rv μ ι w k' x') (h : keyEqT (.st es) k k' = some b) :
    (Op.equal kt x x').run P w = .ok b w ∧ (b = true → (Instr.keyThatStays x' x).run P w = .ok x w) := by
  cases hx <;> simp only [keyEqT, reduceCtorEq] at h
  cases hx' <;> simp only [keyEqT, reduceCtorEq] at h
  rename_i xs us hl hr ys vs hl' hr'
  have hf : P.fieldsOf kt = fs := by simp [Program.fieldsOf, hu]
  have hrun := run_equalIn_struct (P := P) w 9999 kt us vs (by rw [hf]; exact hu) hst
  split at h
  · rename_i he
    split at h
    · rename_i hsame
      cases h
      rw [hf, eqFields_rel (c := ⟨P, [], [], 0⟩) 9998 ⟨hl, hr⟩ ⟨hl', hr'⟩ fs.toList es true hall hes he] at hrun
      refine ⟨hrun, fun _ => ?_⟩
      have hx0 : Ra μ ι w xs us.toList.toArray := ⟨by simpa using hl, by simpa using hr⟩
      have hy0 : Ra μ ι w ys vs.toList.toArray := ⟨by simpa using hl', by simpa using hr'⟩
      obtain ⟨he2, hints⟩ := sameInts_rel hx0 hy0 hsame
      obtain rfl : us = vs := Array.ext' he2
      simp [Instr.keyThatStays, sameBits_ints hints 9999]
    · cases h
  · rename_i hne
    rw [hf, eqFields_rel (c := ⟨P, [], [], 0⟩) 9998 ⟨hl, hr⟩ ⟨hl', hr'⟩ fs.toList es b hall hes h] at hrun
    refine ⟨hrun, fun hb => ?_⟩
    subst hb
    exact absurd h hne

theorem mfindSt_rel {kt : TypeId} {fs : Array Field} {es0 : List (Nat × Nat × EqTy)} (hu : P.underlying kt = some (.struct fs)) (hst : P.stoodInHeld kt = false) (hall : fs.toList.all (fun f => f.name != "_") = true)
    (hes : fs.toList.mapM (fun f => (scTy P f.type).map fun e => (f.offset, 1, e)) = some es0) {k : LV} {x : Value} (hx : Rv μ ι w k x) : ∀ (es : List (LV × LV)) (l : List MapEntry) (i : Nat) (r : Option (Nat × LV)), l.length = es.length →
    (∀ j, j < es.length → Rv μ ι w (es.getD j default).1 (l.getD j default).key ∧ Rv μ ι w (es.getD j default).2 (l.getD j default).val) → mfind (.st es0) k es i = some r →
    match r with
    | none => (Instr.findAsking kt x l i).run P w = .ok none w
    | some (n, v) => ∃ j en, n = i + j ∧ l[j]? = some en ∧ (Instr.findAsking kt x l i).run P w = .ok (some (n, en.val)) w ∧ Rv μ ι w v en.val ∧ (Instr.keyThatStays en.key x).run P w = .ok x w := by
  intro es
  induction es with
  | nil =>
    intro l i r hl _ h
    cases h
    obtain rfl := List.length_eq_zero_iff.1 hl
    rfl
  | cons p es ih =>
    obtain ⟨k', v'⟩ := p
    intro l i r hl hr h
    match l, hl with
    | en :: l, hl =>
      have h0 := hr 0 (by simp)
      have h0' : Rv μ ι w k' en.key ∧ Rv μ ι w v' en.val := by simpa using h0
      simp only [mfind] at h
      cases hq : keyEqT (.st es0) k k' with
      | none => rw [hq] at h; cases h
      | some b =>
        rw [hq] at h
        obtain ⟨hs, he⟩ := keyEqSt_rel hu hst hall hes hx h0'.1 hq
        cases b with
        | true =>
          cases h
          exact ⟨0, en, rfl, rfl, by simp [Instr.findAsking, hs], h0'.2, he rfl⟩
        | false =>
          have := ih l (i + 1) r (by simpa using hl) (fun j hj => by simpa using hr (j + 1) (by simpa using hj)) h
          cases r with
          | none => simp only at this ⊢; simp [Instr.findAsking, hs, this]
          | some q =>
            obtain ⟨n, u⟩ := q
            obtain ⟨j, en', h1, h2, h3, h4, h5⟩ := this
            exact ⟨j + 1, en', by omega, by simpa using h2, by simp [Instr.findAsking, hs, h3], h4, h5⟩

/-- Where a key is found. -/
theorem findKey_rel {kt : TypeId} {kd : KTy} (hkk : keyKind P kt = some kd) {k : LV} {x : Value} (hx : Rv μ ι w k x) (hok : keyOk kd k = true) {es : List (LV × LV)} {l : List MapEntry} (hl : l.length = es.length)
    (hr : ∀ j, j < es.length → Rv μ ι w (es.getD j default).1 (l.getD j default).key ∧ Rv μ ι w (es.getD j default).2 (l.getD j default).val) {r : Option (Nat × LV)} (h : mfind kd k es 0 = some r) :
    match r with
    | none => (Instr.findKey kt x l).run P w = .ok none w
    | some (n, v) => ∃ en, l[n]? = some en ∧ (Instr.findKey kt x l).run P w = .ok (some (n, en.val)) w ∧ Rv μ ι w v en.val ∧ (Instr.keyThatStays en.key x).run P w = .ok x w := by
  rcases keyKind_cases (μ := μ) (ι := ι) (w := w) hkk with ⟨d, hd, hns, hkey⟩ | ⟨es0, fs, rfl, hu, hst, hall, hes⟩
  · have hik := hkey hx hok
    have := mfind_rel hns hx hik es l 0 r hl hr h
    cases r with
    | none => exact MapKept.run_findKey hd this
    | some q =>
      obtain ⟨n, v⟩ := q
      obtain ⟨j, en, hj, hen, hfn, hrv, rfl⟩ := this
      obtain rfl : n = j := by omega
      exact ⟨en, hen, MapKept.run_findKey hd hfn, hrv, MapKept.run_keyThatStays hik⟩
  · have := mfindSt_rel hu hst hall hes hx es l 0 r hl hr h
    have hfk : ∀ {a}, (Instr.findAsking kt x l 0).run P w = .ok a w → (Instr.findKey kt x l).run P w = .ok a w := fun {a} ha => by
      cases l with
      | nil =>
        simp only [Instr.findAsking] at ha
        simp [Instr.findKey, ru hu, Instr.findNow]
        simpa using ha
      | cons en l =>
        have hn : Instr.findNow (.struct fs) x (en :: l) 0 = none := by simp [Instr.findNow, Instr.sameNow]
        simp [Instr.findKey, ru hu, hn, ha]
    cases r with
    | none => exact hfk this
    | some q =>
      obtain ⟨n, v⟩ := q
      obtain ⟨j, en, hj, hen, hfn, hrv, hst⟩ := this
      obtain rfl : n = j := by omega
      exact ⟨en, hen, hfk hfn, hrv, hst⟩

theorem checkKey_fields {em : Bool} (n : Nat) {us : Array Value} : ∀ (fs : List Field) (es : List (Nat × Nat × EqTy)), fs.mapM (fun f => (scTy P f.type).map fun e => (f.offset, 1, e)) = some es → es.all (fun f => f.1 < us.size) = true →
    (forIn fs PUnit.unit (fun f _ => if f.name ≠ "_" then (do let x ← part f.type us f.offset; Instr.checkKey em (n + 1) f.type x; pure (ForInStep.yield PUnit.unit)) else pure (ForInStep.yield PUnit.unit)) : Sem PUnit).run P w = .ok PUnit.unit w := by
  intro fs
  induction fs with
  | nil => intro es _ _; simp
  | cons f fs ih =>
    intro es hm ha
    rw [List.mapM_cons] at hm
    cases hs : scTy P f.type with
    | none => simp [hs] at hm
    | some et =>
      cases hl : fs.mapM (fun f => (scTy P f.type).map fun e => (f.offset, 1, e)) with
      | none => simp [hs, hl] at hm
      | some es' =>
        simp [hs, hl] at hm
        subst hm
        simp only [List.all_cons, Bool.and_eq_true, decide_eq_true_eq] at ha
        have hp1 : (part f.type us f.offset).run P w = .ok us[f.offset] w := by simp [part, scTy_part (c := ⟨P, [], [], 0⟩) hs, ha.1]
        have hck : ∀ v : Value, (Instr.checkKey em (n + 1) f.type v).run P w = .ok () w := fun v => by
          unfold scTy at hs
          cases hu : P.underlying f.type with
          | none => simp [hu] at hs
          | some d =>
            rw [hu] at hs
            cases d <;> simp only [Option.some.injEq, reduceCtorEq] at hs <;> simp [Instr.checkKey, ru hu]
        have hrest := ih es' hl ha.2
        by_cases hn : f.name = "_"
        · simp only [List.forIn_cons, Sem.run_bind, hn, ne_eq, not_true_eq_false, if_false, Result.andThen_ok, Sem.run_pure]
          exact hrest
        · simp only [List.forIn_cons, Sem.run_bind, hn, ne_eq, not_false_eq_true, if_true, Result.andThen_ok, Sem.run_pure, hp1, hck]
          exact hrest

theorem checkKey_rel {kt : TypeId} {kd : KTy} (hkk : keyKind P kt = some kd) {k : LV} {x : Value} (hx : Rv μ ι w k x) (hok : keyOk kd k = true) (em : Bool) : (Instr.checkKey em 10000 kt x).run P w = .ok () w := by
  rcases keyKind_cases (μ := μ) (ι := ι) (w := w) hkk with ⟨d, hd, hns, hkey⟩ | ⟨es0, fs, rfl, hu, hst, hall, hes⟩
  · exact MapKept.run_checkKey hd (hkey hx hok) em 9999
  · cases hx <;> simp only [keyOk, Bool.false_eq_true, Bool.and_eq_true] at hok
    rename_i cs us hl hr
    have ha : es0.all (fun f => f.1 < us.size) = true := by rw [hl]; exact hok.1
    have := checkKey_fields (P := P) (w := w) (em := em) 9998 fs.toList es0 hes ha
    rw [show (10000 : Nat) = 9999 + 1 from rfl, Instr.checkKey]
    simp only [Sem.run_bind, ru hu, Result.andThen_ok]
    rw [← Array.forIn_toList]
    simp at this ⊢
    rw [this]
    rfl

theorem ok_mkmap {t : TypeId} {x : Option Operand} (ho : o.op = .makeMap t x) (I : Inv cmp w0 μ ι δ s w) (hρ : Ho μ ι w c e a o) {kt et : TypeId} (hu : c.P.underlying t = some (.map kt et)) {y : Option Opd} (hy : opdO c x = some y)
    (hr : (LOp.mkmap y).run e s = some (v, s')) : OpOk cmp w0 μ ι δ s w c.P a o v s' := by
  have hgo : v = .mref s.n ∧ s' = s.new (.map []) ∧ (execOp a.eval o).run c.P w = .ok (.value (.map (some w.heap.size))) { w with heap := w.heap.push (.map #[] 0) } := by
    cases x with
    | none =>
      cases hy
      cases hr
      exact ⟨rfl, rfl, by simp [execOp, ho, Instr.makeMap]⟩
    | some x =>
      simp only [opdO, Option.map_eq_some_iff] at hy
      obtain ⟨z, hz, rfl⟩ := hy
      have hx := hρ x z (by simp [ho, Op.operands]) hz
      simp only [LOp.run] at hr
      generalize hav : a.eval x = av at *
      generalize z.ev e = lv at *
      cases hx <;> simp only [reduceCtorEq] at hr
      cases hr
      exact ⟨rfl, rfl, by simp [execOp, ho, hav, Instr.makeMap, ru hu, asInt, asIntOf]⟩
  obtain ⟨rfl, rfl, hrun⟩ := hgo
  let w' : World := { w with heap := w.heap.push (.map #[] 0) }
  have hs : Same w w' := Same.alloc w _
  have hsz : w'.heap.size = w.heap.size + 1 := by simp [w']
  obtain ⟨I2, x2⟩ := (I.same hs).addBlk ⟨w.heap.size, 0, 0⟩ (.map []) I.hB (by show w.heap.size < w'.heap.size; omega) ⟨#[], by simp [w'], rfl, fun i hi => absurd hi (Nat.not_lt_zero _)⟩
    (fun _ id b' p' _ _ hm he => by have := (I.dom id p' hm).2.2; have he' : p'.b = w.heap.size := he; omega)
  exact ⟨_, w', _, ι, .inl hrun, I2, (I.ext_same hs).trans x2, .mref (p := ⟨w.heap.size, 0, 0⟩) (by simp [Mu.upd]), Kept.new _ _⟩

theorem rv_zero {t : TypeId} {z : Value} {x : LV} (hz : (c.P.info? t).bind (·.zero) = some z) (hx : constC z = some x) : (zeroValue t).run c.P w = .ok z w ∧ Rv μ ι w x z := by
  cases hi : c.P.info? t with
  | none => simp [hi] at hz
  | some i =>
    rw [hi] at hz
    exact ⟨rz hi hz, rv_constC hx⟩

theorem run_lookup_some {t kt et : TypeId} {r clock : Nat} {es : Array MapEntry} {kv : Value} {ok : Bool} (hu : P.underlying t = some (.map kt et)) (hck : ∀ em, (Instr.checkKey em 10000 kt kv).run P w = .ok () w)
    (hb : w.heap[r]? = some (.map es clock)) {fr : Option (Nat × Value)} (hf : (Instr.findKey kt kv es.toList).run P w = .ok fr w) {z : Value} (hz : (zeroValue et).run P w = .ok z w) :
    (Instr.lookup t (.map (some r)) kv ok).run P w = .ok (if ok then .tuple #[(match fr with | some (_, v) => v | none => z), .bool fr.isSome] else (match fr with | some (_, v) => v | none => z)) w := by
  cases fr with
  | none => simp [Instr.lookup, ru hu, MapKept.run_getObj_map hb, hck, hf, hz]
  | some q => simp [Instr.lookup, ru hu, MapKept.run_getObj_map hb, hck, hf, hz]

theorem run_lookup_nil {t kt et : TypeId} {kv : Value} {ok : Bool} (hu : P.underlying t = some (.map kt et)) (hck : ∀ em, (Instr.checkKey em 10000 kt kv).run P w = .ok () w) (hf : (Instr.findKey kt kv []).run P w = .ok none w) {z : Value} (hz : (zeroValue et).run P w = .ok z w) :
    (Instr.lookup t (.map none) kv ok).run P w = .ok (if ok then .tuple #[z, .bool false] else z) w := by
  simp [Instr.lookup, ru hu, hck, hf, hz]

theorem rv_pair {ok : Bool} {x : LV} {u : Value} {b : Bool} (h : Rv μ ι w x u) : Rv μ ι w (if ok then .tup [x, .bool b] else x) (if ok then .tuple #[u, .bool b] else u) := by
  cases ok
  · exact h
  · refine .tup rfl fun i hi => ?_
    match i, hi with
    | 0, _ => exact h
    | 1, _ => exact .bool b

theorem map_entries {es : List (LV × LV)} {arr : Array MapEntry} (h2 : arr.size = es.length) (h3 : ∀ i, i < es.length → ((arr.getD i default).born = i ∧ isKeyL (es.getD i default).1 = true ∧ Rv μ ι w (es.getD i default).1 (arr.getD i default).key ∧ Rv μ ι w (es.getD i default).2 (arr.getD i default).val)) :
    arr.toList.length = es.length ∧ ∀ j, j < es.length → Rv μ ι w (es.getD j default).1 (arr.toList.getD j default).key ∧ Rv μ ι w (es.getD j default).2 (arr.toList.getD j default).val := by
  refine ⟨by simpa using h2, fun j hj => ?_⟩
  have := h3 j hj
  have he : arr.toList.getD j default = arr.getD j default := by simp [List.getD_eq_getElem?_getD, Array.getD_eq_getD_getElem?]
  rw [he]
  exact this.2.2

theorem ok_lookup {t : TypeId} {m k : Operand} {ok : Bool} (ho : o.op = .lookup t m k ok) (I : Inv cmp w0 μ ι δ s w) (hρ : Ho μ ι w c e a o) {kt et : TypeId} (hu : c.P.underlying t = some (.map kt et))
    {kd : KTy} (hk : keyKind c.P kt = some kd) {z : Value} (hz : (c.P.info? et).bind (·.zero) = some z) {lz : LV} (hlz : constC z = some lz) {ym yk : Opd} (hm : opd c m = some ym) (hkk : opd c k = some yk)
    (hr : (LOp.mlook kd lz ok ym yk).run e s = some (v, s')) : OpOk cmp w0 μ ι δ s w c.P a o v s' := by
  have hx := hρ m ym (by simp [ho, Op.operands]) hm
  have hy := hρ k yk (by simp [ho, Op.operands]) hkk
  obtain ⟨hzr, hzv⟩ := rv_zero (w := w) (μ := μ) (ι := ι) hz hlz
  have hex : ∀ {x w'}, (Instr.lookup t (a.eval m) (a.eval k) ok).run c.P w = .ok x w' → (execOp a.eval o).run c.P w = .ok (.value x) w' := fun h => by simp [execOp, ho, h]
  simp only [LOp.run] at hr
  generalize hmv : a.eval m = mv at *
  generalize hkv : a.eval k = kv at *
  generalize ym.ev e = lm at *
  generalize yk.ev e = lk at *
  split at hr
  · rename_i hok
    have hik := fun em => checkKey_rel hk hy hok em
    cases hx <;> simp only [reduceCtorEq] at hr
    case nilm =>
      cases hr
      have hnk : (Instr.findKey kt kv []).run c.P w = .ok none w := findKey_rel hk hy hok (es := []) (l := []) rfl (fun j hj => absurd hj (Nat.not_lt_zero _)) rfl
      exact ⟨_, w, μ, ι, .inl (hex (run_lookup_nil hu hik hnk hzr)), I, Ext.refl _ _ _ _, rv_pair hzv, Kept.refl _ _⟩
    case mref id p hp =>
      split at hr
      · rename_i es hg
        obtain ⟨r, hf, hr⟩ := bind_some hr
        obtain ⟨arr, h1, h2, h3⟩ := I.blk id _ p hg hp
        obtain ⟨hl, hent⟩ := map_entries h2 h3
        have hres := findKey_rel hk hy hok hl hent hf
        cases r with
        | none =>
          cases hr
          exact ⟨_, w, μ, ι, .inl (hex (run_lookup_some hu hik h1 hres hzr)), I, Ext.refl _ _ _ _, rv_pair hzv, Kept.refl _ _⟩
        | some q =>
          obtain ⟨n, u⟩ := q
          obtain ⟨en, _, hfn, hrv, _⟩ := hres
          cases hr
          exact ⟨_, w, μ, ι, .inl (hex (run_lookup_some hu hik h1 hfn hzr)), I, Ext.refl _ _ _ _, rv_pair hrv, Kept.refl _ _⟩
      · cases hr
  · cases hr

/-- A map's record turned. -/
theorem Inv.remap (I : Inv cmp w0 μ ι δ s w) {id : Nat} {p : Place} {es es' : List (LV × LV)} {arr arr' : Array MapEntry} (hg : s.get id = some (.map es)) (hp : μ id = some p) (hm : w.heap[p.b]? = some (.map arr es.length))
    (hl : arr'.size = es'.length) (hr : ∀ i, i < es'.length → ((arr'.getD i default).born = i ∧ isKeyL (es'.getD i default).1 = true ∧ Rv μ ι w (es'.getD i default).1 (arr'.getD i default).key ∧ Rv μ ι w (es'.getD i default).2 (arr'.getD i default).val)) :
    Inv cmp w0 μ ι δ (s.put id (.map es')) { w with heap := w.heap.setIfInBounds p.b (.map arr' es'.length) } ∧ Ext μ ι δ w μ ι δ { w with heap := w.heap.setIfInBounds p.b (.map arr' es'.length) } := by
  generalize hw' : ({ w with heap := w.heap.setIfInBounds p.b (.map arr' es'.length) } : World) = w'
  have hsz : w'.heap.size = w.heap.size := by rw [← hw']; simp
  have hdom := I.dom id p hp
  have hoth : ∀ k, k ≠ p.b → w'.heap[k]? = w.heap[k]? := fun k hk => by rw [← hw']; exact Array.getElem?_setIfInBounds_ne (Ne.symm hk)
  have hsame : w'.heap[p.b]? = some (.map arr' es'.length) := by rw [← hw']; simp [hdom.2.2]
  have hcellr : ∀ b o v, w.cell? ⟨b, o, none⟩ = some v → b ≠ p.b := by
    rintro b o v hv rfl
    simp [World.cell?, hm] at hv
  have hcell : ∀ b o, ι b o → w'.cell? ⟨b, o, none⟩ = w.cell? ⟨b, o, none⟩ := fun b o hi => by
    obtain ⟨v, hv⟩ := I.io b o hi
    exact cell_of_heap (hoth b (hcellr b o v hv))
  refine ⟨⟨⟨by rw [← hw']; exact I.below.os, by rw [← hw']; exact I.below.tape, by rw [← hw']; exact I.below.output, by rw [hsz]; exact I.below.size, fun k hk => by rw [hoth k (by have := hdom.2.1; omega)]; exact I.below.block k hk⟩,
    fun id p hp => by rw [hsz]; exact I.dom id p hp, fun b o hi => by obtain ⟨v, hv⟩ := I.io b o hi; exact ⟨v, (hcell b o hi).trans hv⟩, fun id' b q hb hq => ?_, ?_, fun x hx => ?_, I.low⟩,
    ⟨fun _ _ h => h, fun _ _ h => h, hcell, by rw [hsz]; exact Nat.le_refl _, fun _ h => h⟩⟩
  · rw [St.get_put] at hb
    split at hb
    · rename_i he; subst he; cases hb
      obtain rfl : p = q := Option.some.inj (hp.symm.trans hq)
      exact ⟨arr', hsame, hl, fun i hi => ⟨(hr i hi).1, (hr i hi).2.1, (hr i hi).2.2.1.mono hcell (fun _ _ h => h) (fun _ _ h => h), (hr i hi).2.2.2.mono hcell (fun _ _ h => h) (fun _ _ h => h)⟩⟩
    · rename_i he
      have hrb := I.blk id' b q hb hq
      have hne : q.b ≠ p.b := by
        intro hqe
        cases b with
        | cells m cs => obtain ⟨⟨x, h0⟩, _⟩ := hrb; rw [hqe] at h0; simp [World.shape?, hm] at h0
        | loop st pend env ps as bo => exact he (I.sep id' id _ _ q p hb hg rfl rfl hq hp hqe)
        | map es => exact he (I.sep id' id _ _ q p hb hg rfl rfl hq hp hqe)
        | iter m n0 seen last => exact he (I.sep id' id _ _ q p hb hg rfl rfl hq hp hqe)
      exact hrb.mono (fun _ _ h => h) (fun _ _ h => h) hcell (hoth _ hne) (fun _ _ h => h)
  · intro i j b1 b2 p1 p2 g1 g2 o1 o2 m1 m2 e
    rw [St.get_put] at g1 g2
    have f : ∀ {k : Nat} {b : Blk}, (if k = id then some (Blk.map es') else s.get k) = some b → b.owns = true → ∃ b', s.get k = some b' ∧ b'.owns = true := by
      intro k b h ho
      split at h
      · rename_i e; subst e; exact ⟨_, hg, rfl⟩
      · exact ⟨b, h, ho⟩
    obtain ⟨c1, k1, l1⟩ := f g1 o1
    obtain ⟨c2, k2, l2⟩ := f g2 o2
    exact I.sep i j c1 c2 p1 p2 k1 k2 l1 l2 m1 m2 e
  · obtain ⟨a, b⟩ := I.defers x hx
    refine ⟨a, ?_⟩
    rw [hoth x ?_]
    · exact b
    · rintro rfl; rw [hm] at b; cases b

theorem keyOk_isKey {kd : KTy} {k : LV} (h : keyOk kd k = true) : isKeyL k = true := by
  cases k <;> first | rfl | (cases kd <;> simp [keyOk] at h; done)

theorem ok_mupd {t : TypeId} {m k x : Operand} (ho : o.op = .mapUpdate t m k x) (I : Inv cmp w0 μ ι δ s w) (hρ : Ho μ ι w c e a o) {kt et : TypeId} (hu : c.P.underlying t = some (.map kt et))
    {kd : KTy} (hk : keyKind c.P kt = some kd) {ym yk yx : Opd} (hm : opd c m = some ym) (hkk : opd c k = some yk) (hxx : opd c x = some yx)
    (hr : (LOp.mupd kd ym yk yx).run e s = some (v, s')) : OpOk cmp w0 μ ι δ s w c.P a o v s' := by
  have hx := hρ m ym (by simp [ho, Op.operands]) hm
  have hy := hρ k yk (by simp [ho, Op.operands]) hkk
  have hz := hρ x yx (by simp [ho, Op.operands]) hxx
  have hex : ∀ {w'}, (Instr.mapUpdate t (a.eval m) (a.eval k) (a.eval x)).run c.P w = .ok () w' → (execOp a.eval o).run c.P w = .ok .skip w' := fun h => by simp [execOp, ho, h]
  simp only [LOp.run] at hr
  generalize hmv : a.eval m = mv at *
  generalize hkv : a.eval k = kv at *
  generalize hxv : a.eval x = xv at *
  generalize ym.ev e = lm at *
  generalize yk.ev e = lk at *
  generalize yx.ev e = lx at *
  split at hr
  · rename_i hok
    have hik := fun em => checkKey_rel hk hy hok em
    cases hx <;> simp only [reduceCtorEq] at hr
    case mref id p hp =>
      split at hr
      · rename_i es hg
        obtain ⟨r, hf, hr⟩ := bind_some hr
        obtain ⟨arr, h1, h2, h3⟩ := I.blk id _ p hg hp
        obtain ⟨hl, hent⟩ := map_entries h2 h3
        have hres := findKey_rel hk hy hok hl hent hf
        cases r with
        | none =>
          cases hr
          obtain ⟨I', x'⟩ := I.remap (es' := es ++ [(lk, lx)]) (arr' := arr.push { key := kv, val := xv, born := es.length }) hg hp h1 (by simp [h2]) (fun i hi => by
            by_cases hlt : i < es.length
            · have := h3 i hlt
              have hlt' : i < arr.size := by omega
              simpa [List.getD_eq_getElem?_getD, List.getElem?_append_left hlt, Array.getD_eq_getD_getElem?, Array.getElem?_push, Nat.ne_of_lt hlt'] using this
            · have hi' : i = es.length := by simp at hi; omega
              subst hi'
              have : (arr.push { key := kv, val := xv, born := es.length }).getD es.length default = { key := kv, val := xv, born := es.length } := by simp [Array.getD_eq_getD_getElem?, ← h2]
              rw [this]
              simp only [List.getD_eq_getElem?_getD, List.getElem?_append_right (Nat.le_refl _), Nat.sub_self, List.getElem?_cons_zero, Option.getD_some]
              exact ⟨trivial, keyOk_isKey hok, hy, hz⟩)
          exact ⟨undef, _, μ, ι, .inr ⟨hex (by simp [Instr.mapUpdate, ru hu, MapKept.run_getObj_map h1, hik, hres, MapKept.run_setObj_map _ h1]), rfl⟩, I', x', .tup rfl (fun i hi => absurd hi (Nat.not_lt_zero _)), Kept.put hp _⟩
        | some q =>
          obtain ⟨n, u⟩ := q
          obtain ⟨en, hen, hfn, hrv, hek⟩ := hres
          cases hr
          have hna : arr[n]? = some en := by simpa using hen
          have hnlt : n < arr.size := (Array.getElem?_eq_some_iff.1 hna).1
          obtain ⟨I', x'⟩ := I.remap (es' := es.set n (lk, lx)) (arr' := arr.modify n fun e => { e with key := kv, val := xv }) hg hp h1 (by simp [h2]) (fun i hi => by
            have hi' : i < es.length := by simpa using hi
            have hia : i < arr.size := by omega
            by_cases hin : i = n
            · subst hin
              have : ((arr.modify i fun e => { e with key := kv, val := xv }).getD i default) = { en with key := kv, val := xv } := by
                simp only [Array.getD_eq_getD_getElem?, Array.getElem?_modify, if_true, hna, Option.map_some, Option.getD_some]
              rw [this]
              simp only [List.getD_eq_getElem?_getD, List.getElem?_set, hi', if_true, Option.getD_some]
              exact ⟨by have hb := (h3 i hi').1; simpa [Array.getD_eq_getD_getElem?, hna] using hb, keyOk_isKey hok, hy, hz⟩
            · have h4 := h3 i hi'
              have : ((arr.modify n fun e => { e with key := kv, val := xv }).getD i default) = arr.getD i default := by
                simp only [Array.getD_eq_getD_getElem?, Array.getElem?_modify, if_neg (Ne.symm hin)]
              rw [this]
              have : (es.set n (lk, lx)).getD i default = es.getD i default := by simp [List.getD_eq_getElem?_getD, List.getElem?_set, Ne.symm hin]
              rw [this]
              exact h4)
          refine ⟨undef, _, μ, ι, .inr ⟨hex ?_, rfl⟩, I', x', .tup rfl (fun i hi => absurd hi (Nat.not_lt_zero _)), Kept.put hp _⟩
          have hkk' : ((arr[n]?).map (·.key)).getD kv = en.key := by rw [hna]; rfl
          simp [Instr.mapUpdate, ru hu, MapKept.run_getObj_map h1, hik, hfn, MapKept.run_setObj_map _ h1, hkk', hek]
      · cases hr
  · cases hr

theorem look_lenMap {t : TypeId} {x : Operand} (ho : o.op = .call { callee := .builtin .len, args := #[x], argTypes := #[t] }) (I : Inv cmp w0 μ ι δ s w) (hρ : Ho μ ι w c e a o) {kt et : TypeId} (hu : c.P.underlying t = some (.map kt et))
    {y : Opd} (hy : opd c x = some y) (hr : (LOp.lenMap y).run e s = some (v, s')) : s' = s ∧ Looks μ ι w c.P a o v := by
  have hx := hρ x y (by simp [ho, Op.operands, Call.operands]) hy
  unfold LOp.run at hr
  dsimp only at hr
  generalize y.ev e = lv at *
  generalize hav : a.eval x = av at *
  cases hx <;> simp only [reduceCtorEq] at hr
  case nilm =>
    cases hr
    exact ⟨rfl, _, by simp only [execOp, ho, resolve, Sem.run_bind, Sem.run_pure, Result.andThen_ok, invoke, builtin, List.map_toArray, List.map_cons, List.map_nil, hav]; simp [Builtin.len_, ru hu]; rfl, .int _ _⟩
  case mref id p hp =>
    split at hr
    · rename_i es hg
      cases hr
      obtain ⟨arr, h1, h2, h3⟩ := I.blk id _ p hg hp
      refine ⟨rfl, .int .i64 es.length, ?_, .int _ _⟩
      simp only [execOp, ho, resolve, Sem.run_bind, Sem.run_pure, Result.andThen_ok, invoke, builtin, List.map_toArray, List.map_cons, List.map_nil, hav]
      simp [Builtin.len_, ru hu, MapKept.run_getObj_map h1, h2, goInt]
    · cases hr

theorem look_sliceZ {t : TypeId} {x lo hi mx : Operand} (ho : o.op = .slice t x (some lo) (some hi) (some mx)) (hρ : Ho μ ι w c e a o) {el : TypeId} (hu : c.P.underlying t = some (.slice el)) {n : Nat} (hn : szOf c.P el = some n)
    {y ylo yhi ymx : Opd} (hy : opd c x = some y) (hlo : opd c lo = some ylo) (hhi : opd c hi = some yhi) (hmx : opd c mx = some ymx) (hr : (LOp.sliceZ y ylo yhi ymx).run e s = some (v, s')) : s' = s ∧ Looks μ ι w c.P a o v := by
  have hx := hρ x y (by simp [ho, Op.operands]) hy
  have h1 := hρ lo ylo (by simp [ho, Op.operands]) hlo
  have h2 := hρ hi yhi (by simp [ho, Op.operands]) hhi
  have h3 := hρ mx ymx (by simp [ho, Op.operands]) hmx
  unfold LOp.run at hr
  dsimp only at hr
  generalize y.ev e = lv at *
  generalize ylo.ev e = l1 at *
  generalize yhi.ev e = l2 at *
  generalize ymx.ev e = l3 at *
  generalize hav : a.eval x = av at *
  generalize hlv : a.eval lo = lov at *
  generalize hhv : a.eval hi = hiv at *
  generalize hmv : a.eval mx = mxv at *
  cases h1 <;> (try (simp only [reduceCtorEq] at hr; done)) <;> cases h2 <;> (try (simp only [reduceCtorEq] at hr; done)) <;> cases h3 <;> (try (simp only [reduceCtorEq] at hr; done))
  rename_i k1 l k2 h k3 m
  cases hsl : slLen lv with
  | none => simp [hsl] at hr
  | some len =>
    simp only [hsl] at hr
    split at hr
    · rename_i hc
      obtain ⟨rfl, rfl, h0, h4⟩ := hc
      have hshape : ∃ ba cap, av = .slice ba len cap ∧ len ≤ cap ∧ (ba = none → len = 0 ∧ cap = 0) := by
        cases hx <;> simp only [slLen, reduceCtorEq] at hsl <;> cases hsl
        · exact ⟨_, _, rfl, Nat.le_refl _, fun _ => ⟨rfl, rfl⟩⟩
        · exact ⟨_, _, rfl, Nat.le_refl _, fun h => by cases h⟩
        · exact ⟨_, _, rfl, by assumption, fun h => by cases h⟩
        · exact ⟨_, _, rfl, by assumption, fun h => by cases h⟩
      obtain ⟨ba, cap, rfl, hlc, hnil⟩ := hshape
      have hlcap : l ≤ (cap : Int) := by omega
      have hll : l ≤ max l 0 := by omega
      have hrun : (execOp a.eval o).run c.P w = .ok (.value (.slice ba 0 0)) w := by
        simp [execOp, ho, hav, hlv, hhv, hmv, Instr.sliceAt, Instr.slice, ru hu, Instr.sliceBounds, Instr.sliceBound, asIntOf, h0, hlcap, hll, rsz hn]
      cases hx <;> simp only [reduceCtorEq] at hr <;> cases hr
      · exact ⟨rfl, _, hrun, .nils⟩
      · exact ⟨rfl, _, hrun, .zs _⟩
      · exact ⟨rfl, _, hrun, .zs _⟩
      · exact ⟨rfl, _, hrun, .zs _⟩
    · cases hr

theorem bytesOf_rel : ∀ (cs : List LV) (vs : List Value) (bs : List UInt8), bytesOf cs = some bs → vs.length = cs.length → (∀ i, i < cs.length → Rv μ ι w (cs.getD i .top) (vs.getD i undef)) →
    ∃ ns : List Int, vs = ns.map (Value.int .u8) ∧ ns.map (fun n => UInt8.ofNat n.toNat) = bs := by
  intro cs
  induction cs with
  | nil =>
    intro vs bs h hl _
    cases h
    obtain rfl := List.length_eq_zero_iff.1 hl
    exact ⟨[], rfl, rfl⟩
  | cons x cs ih =>
    intro vs bs h hl hr
    match vs, hl with
    | v :: vs, hl =>
      have h0 : Rv μ ι w x v := by simpa using hr 0 (by simp)
      unfold bytesOf at h
      split at h
      · rename_i heq; cases heq
      · rename_i n r heq
        obtain ⟨bs', hb, h⟩ := bind_some h
        cases h
        simp only [List.cons.injEq] at heq
        obtain ⟨rfl, rfl⟩ := heq
        cases h0
        obtain ⟨ns, h1, h2⟩ := ih vs bs' hb (by simpa using hl) (fun i hi => by simpa using hr (i + 1) (by simpa using hi))
        exact ⟨n :: ns, by simp [h1], by simp [h2]⟩
      · cases h

theorem foldl_push (bs : List UInt8) : ∀ (r : ByteArray), (bs.foldl (fun r b => r.push b) r).data.toList = r.data.toList ++ bs := by
  induction bs with
  | nil => intro r; simp
  | cons b bs ih => intro r; rw [List.foldl_cons, ih]; simp [ByteArray.push]

theorem foldl_bytes (ns : List Int) : ns.foldl (fun r n => r.push (UInt8.ofNat n.toNat)) ByteArray.empty = ⟨(ns.map (fun n => UInt8.ofNat n.toNat)).toArray⟩ := by
  have h := foldl_push (ns.map (fun n => UInt8.ofNat n.toNat)) ByteArray.empty
  rw [List.foldl_map] at h
  generalize ns.foldl (fun r n => r.push (UInt8.ofNat n.toNat)) ByteArray.empty = x at *
  cases x
  congr 1
  apply Array.ext'
  simpa using h

theorem look_bytesStr {t dst : TypeId} {x : Operand} (ho : o.op = .convert t dst x) (I : Inv cmp w0 μ ι δ s w) (hρ : Ho μ ι w c e a o) (hk : c.P.underlying dst = some .string) {el : TypeId} (hts : c.P.underlying t = some (.slice el)) (hel : isU8 c.P el = true)
    {y : Opd} (hy : opd c x = some y) (hr : (LOp.bytesStr y).run e s = some (v, s')) : s' = s ∧ Looks μ ι w c.P a o v := by
  have hx := hρ x y (by simp [ho, Op.operands]) hy
  have hel' : c.P.underlying el = some (.int .u8) := by
    unfold isU8 at hel
    split at hel
    · assumption
    · cases hel
  simp only [LOp.run] at hr
  generalize y.ev e = lv at *
  generalize hav : a.eval x = av at *
  obtain ⟨n, hn, hr⟩ := bind_some hr
  obtain ⟨cs, hcs, hr⟩ := bind_some hr
  obtain ⟨bs, hbs, hr⟩ := bind_some hr
  cases hr
  obtain ⟨arr, h1, h2, h3, h4⟩ := rowOf_rel (P := c.P) I hx hcs
  obtain ⟨ns, hns, hnb⟩ := bytesOf_rel cs arr.toList bs hbs (by simpa using h2.1) (fun i hi => by
    have := h2.2 i hi
    simpa [List.getD_eq_getElem?_getD, Array.getD_eq_getD_getElem?] using this)
  have harr : arr = (ns.map (Value.int .u8)).toArray := by apply Array.ext'; simpa using hns
  have hrun : (Conv.bytesToString av).run c.P w = .ok (.string ⟨bs.toArray⟩) w := by
    cases hx <;> simp only [slLen, reduceCtorEq] at hn <;> cases hn
    · have : bs = [] := by
        simp only [rowOf, if_true] at hcs
        cases hcs; cases hbs; rfl
      subst this
      simp [Conv.bytesToString]
      rfl
    all_goals
      have hf := h1 w (Same.refl w)
      simp only [Builtin.firstCells, Nat.mul_one] at hf
      rw [harr] at hf
      rw [run_bytesToString w _ _ _ ns hf, foldl_bytes, hnb]
  refine ⟨rfl, _, ?_, .str _⟩
  simp only [execOp, ho, hav, convert, Sem.run_bind, ru hts, ru hk, Result.andThen_ok]
  have : ∀ s, av ≠ .string s ∧ (∀ k n, av ≠ .int k n) := fun s => by cases hx <;> simp [slLen] at hn <;> simp
  cases hx <;> simp only [slLen, reduceCtorEq] at hn <;> simp only [Sem.run_bind, ru hel', Result.andThen_ok, hrun, Sem.run_pure]

theorem ok_mrange {t : TypeId} {x : Operand} (ho : o.op = .range t x) (I : Inv cmp w0 μ ι δ s w) (hρ : Ho μ ι w c e a o) {kt et : TypeId} (hu : c.P.underlying t = some (.map kt et)) {y : Opd} (hy : opd c x = some y)
    (hr : (LOp.mrange y).run e s = some (v, s')) : OpOk cmp w0 μ ι δ s w c.P a o v s' := by
  have hx := hρ x y (by simp [ho, Op.operands]) hy
  have fin : ∀ (m : Option Nat) (n0 : Nat) (pb : Option Nat), (match m with | none => pb = none | some id => ∃ pm, μ id = some pm ∧ pb = some pm.b) →
      (execOp a.eval o).run c.P w = .ok (.value (.pointer (some ⟨w.heap.size, 0, none⟩))) { w with heap := w.heap.push (.mapIter pb n0 #[] n0) } → OpOk cmp w0 μ ι δ s w c.P a o (.pref s.n 0) (s.new (.iter m n0 [] n0)) := by
    intro m n0 pb hm hrun
    let w' : World := { w with heap := w.heap.push (.mapIter pb n0 #[] n0) }
    have hs : Same w w' := Same.alloc w _
    have hsz : w'.heap.size = w.heap.size + 1 := by simp [w']
    obtain ⟨I2, x2⟩ := (I.same hs).addBlk ⟨w.heap.size, 0, 0⟩ (.iter m n0 [] n0) I.hB (by show w.heap.size < w'.heap.size; omega) ⟨rfl, pb, by simp [w'], hm⟩
      (fun _ id b' p' _ _ hm he => by have := (I.dom id p' hm).2.2; have he' : p'.b = w.heap.size := he; omega)
    exact ⟨_, w', _, ι, .inl hrun, I2, (I.ext_same hs).trans x2, .pref (p := ⟨w.heap.size, 0, 0⟩) (off := 0) (by simp [Mu.upd]), Kept.new _ _⟩
  simp only [LOp.run] at hr
  generalize y.ev e = lv at *
  generalize hav : a.eval x = av at *
  cases hx <;> simp only [reduceCtorEq] at hr
  case nilm =>
    cases hr
    exact fin none 0 none rfl (by simp [execOp, ho, hav, Instr.range, ru hu])
  case mref id p hp =>
    split at hr
    · rename_i es hg
      cases hr
      obtain ⟨arr, h1, h2, h3⟩ := I.blk id _ p hg hp
      exact fin (some id) es.length (some p.b) ⟨p, hp, rfl⟩ (by simp [execOp, ho, hav, Instr.range, ru hu, MapKept.run_getObj_map h1])
    · cases hr

theorem run_getObj' {r : Nat} {ob : Obj} (h : w.heap[r]? = some ob) (hc : ∀ c t f, ob ≠ .cells c t f) : (getObj r).run P w = .ok ob w := by
  cases ob <;> first | (simp [getObj, Sem.run, h]; done) | exact absurd rfl (hc _ _ _)

theorem find_born {es : List (LV × LV)} {arr : Array MapEntry} (h2 : arr.size = es.length) (h3 : ∀ i, i < es.length → (arr.getD i default).born = i) {i : Nat} (hi : i < es.length) :
    arr.find? (fun x => x.born == i) = some (arr.getD i default) := by
  rw [← Array.find?_toList]
  have hia : i < arr.size := by omega
  refine List.find?_eq_some_iff_append.2 ⟨by simpa using h3 i hi, arr.toList.take i, arr.toList.drop (i + 1), ?_, fun x hx => ?_⟩
  · have : arr.getD i default = arr.toList[i]'(by simpa using hia) := by simp [Array.getD_eq_getD_getElem?, hia]
    rw [this]
    have hil : i < arr.toList.length := by simpa using hia
    conv => lhs; rw [← List.take_append_drop i arr.toList, List.drop_eq_getElem_cons hil]
  · obtain ⟨j, hj, rfl⟩ := List.getElem_of_mem hx
    have hji : j < i := by simp at hj; omega
    have hja : j < arr.size := by omega
    have hb := h3 j (by omega)
    have : arr.getD j default = arr[j] := by simp [Array.getD_eq_getD_getElem?, hja]
    rw [this] at hb
    simp [hb]
    omega

theorem look_mentry {x : Operand} (ho : o.op = .entry x) (I : Inv cmp w0 μ ι δ s w) (hρ : Ho μ ι w c e a o) {y : Opd} (hy : opd c x = some y) (hr : (LOp.mentry y).run e s = some (v, s')) : s' = s ∧ Looks μ ι w c.P a o v := by
  have hx := hρ x y (by simp [ho, Op.operands]) hy
  simp only [LOp.run] at hr
  generalize y.ev e = lv at *
  generalize hav : a.eval x = av at *
  cases hx <;> try (cases hr; done)
  case pref id off p hp =>
    split at hr
    · rename_i id' heq
      obtain ⟨rfl, rfl⟩ : id = id' ∧ off = 0 := by injection heq; exact ⟨by assumption, by assumption⟩
      split at hr
      · rename_i m n0 seen last hg
        split at hr
        · rename_i es hgm
          split at hr
          · rename_i i hi
            split at hr
            · rename_i hc
              obtain ⟨hlast, hlt⟩ := hc
              cases hr
              obtain ⟨hoff, pb, k1, pm, hpm, rfl⟩ := I.blk id _ p hg hp
              obtain ⟨arr, h1, h2, h3⟩ := I.blk m _ pm hgm hpm
              have hfb := find_born h2 (fun i hi => (h3 i hi).1) hlt
              have hback : seen.toArray.back? = some i := by simp [hi]
              refine ⟨rfl, .tuple #[(arr.getD i default).key, (arr.getD i default).val], ?_, .tup rfl fun j hj => ?_⟩
              · rw [hoff] at hav
                simp only [execOp, ho, hav, Instr.entry, Sem.run_bind, run_getObj' k1 (by simp), run_getObj' h1 (by simp), Result.andThen_ok, hback, hfb]
                simp [hlast, Sem.run_bind, run_getObj' h1 (by simp), hfb]
              · have := h3 i hlt
                match j, hj with
                | 0, _ => exact this.2.2.1
                | 1, _ => exact this.2.2.2
            · cases hr
          · cases hr
        · cases hr
      · cases hr
    · cases hr

theorem look_capZ {t : TypeId} {x : Operand} (ho : o.op = .call { callee := .builtin .cap, args := #[x], argTypes := #[t] }) (hρ : Ho μ ι w c e a o) {el : TypeId} (hu : c.P.underlying t = some (.slice el))
    {y : Opd} (hy : opd c x = some y) (hr : (LOp.capZ y).run e s = some (v, s')) : s' = s ∧ Looks μ ι w c.P a o v := by
  have hx := hρ x y (by simp [ho, Op.operands, Call.operands]) hy
  unfold LOp.run at hr
  dsimp only at hr
  generalize y.ev e = lv at *
  generalize hav : a.eval x = av at *
  cases hx <;> simp only [reduceCtorEq] at hr <;> cases hr
  all_goals exact ⟨rfl, _, by simp only [execOp, ho, resolve, Sem.run_bind, Sem.run_pure, Result.andThen_ok, invoke, builtin, List.map_toArray, List.map_cons, List.map_nil, hav]; simp [Builtin.cap_, ru hu]; rfl, .int _ _⟩

theorem append_zgrows {t u el : TypeId} {ty : TypeId} {k kk : IntKind} {i : TypeInfo} (ht : P.underlying t = some (.slice el)) (hu : P.underlying u = some (.int k)) (hi : P.info? el = some i)
    {n : Nat} (hn : 0 < n) (hs0 : i.size ≠ 0) (hb0 : i.bytes ≠ 0) (hbig : n * i.bytes ≤ 2 ^ 32) {zv : Value} (hz : i.zero = some zv) :
    ∃ newCap, n ≤ newCap ∧ (Builtin.append_ #[t, u] ty #[.slice none 0 0, .int kk n]).run P w =
      .ok (.slice (some ⟨w.heap.size, 0, none⟩) n newCap) (({ w with drawn := w.drawn + 1 } : World).alloc (.cells (#[] ++ Builtin.zeroCells zv.cells n ++ Builtin.zeroCells zv.cells (newCap - n)) el)) := by
  have hsz : ∀ w' : World, (sizeOf el).run P w' = .ok i.size w' := fun w' => by simp [sizeOf, rti hi]
  have hle : n ≤ 2 ^ 32 := Nat.le_trans (Nat.le_mul_of_pos_right _ (Nat.pos_of_ne_zero hb0)) hbig
  have hcap : ¬ (281474976710656 < Builtin.nextslicecap n 0 * i.bytes) := by
    have h1 := nextcap_le n 0 hn
    have h2 : Builtin.nextslicecap n 0 * i.bytes ≤ (2 * n + 192) * i.bytes := Nat.mul_le_mul_right _ h1
    have h3 : (2 * n + 192) * i.bytes = 2 * (n * i.bytes) + 192 * i.bytes := by rw [Nat.add_mul, Nat.mul_assoc]
    have h4 : i.bytes ≤ n * i.bytes := Nat.le_mul_of_pos_left _ (by omega)
    omega
  have hf : (Question.appendCap n 0 el).forced = false := rfl
  refine ⟨(Question.appendCap n 0 el).cut (w.tape w.drawn (.appendCap n 0 el)), by simp [Question.cut], ?_⟩
  have hn0 : ¬ (n = 0) := by omega
  have hti : ∀ w' : World, (typeInfo el).run P w' = .ok i w' := fun w' => rti hi
  have hzv : ∀ w' : World, (zeroValue el).run P w' = .ok zv w' := fun w' => rz hi hz
  have hwr : IntKind.i64.wrap (n : Int) = n := wrap_i64 _ (by omega) (by omega)
  have hneg : ¬ ((n : Int) < 0) := by omega
  have hbb : ¬ (281474976710656 < (n : Int) * (i.bytes : Int)) := by
    have : ((n * i.bytes : Nat) : Int) ≤ ((2 ^ 32 : Nat) : Int) := Int.ofNat_le.2 hbig
    rw [Int.natCast_mul] at this
    omega
  have h63 : ¬ (9223372036854775807 < (n : Int)) := by omega
  have hns : ¬ (n * i.size = 0) := by
    intro h; rcases Nat.mul_eq_zero.1 h with h | h
    · exact hn0 h
    · exact hs0 h
  have hfc : ∀ w' : World, (Builtin.firstCells i.size 0 (.slice none 0 0)).run P w' = .ok #[] w' := fun w' => by simp [Builtin.firstCells]
  simp only [Builtin.append_]
  simp [ru ht, ru hu, hsz, hti, asInt, asIntOf, hwr, hneg, hbb, hn0, h63, hcap, hf, hzv, hns, hs0, newRow, hfc]

theorem ok_appz {x y : Operand} {t u : TypeId} (ho : o.op = .call { callee := .builtin .append, args := #[x, y], argTypes := #[t, u] }) (I : Inv cmp w0 μ ι δ s w) (hρ : Ho μ ι w c e a o) {el : TypeId} {d : TypeDesc} {i : TypeInfo} {z : List LV}
    (ht : c.P.underlying t = some (.slice el)) (hu : c.P.underlying u = some d) (hd : isIntD d = true) (hi : c.P.info? el = some i) (hs0 : i.size ≠ 0) (hb0 : i.bytes ≠ 0) (hz : zeroC c.P el = some z) (hzl : z.length = i.size) {lx ly : Opd} (hlx : opd c x = some lx) (hly : opd c y = some ly)
    (hr : (LOp.appz i.size i.bytes z lx ly).run e s = some (v, s')) : OpOk cmp w0 μ ι δ s w c.P a o v s' := by
  have hx := hρ x lx (by simp [ho, Op.operands, Call.operands]) hlx
  have hy := hρ y ly (by simp [ho, Op.operands, Call.operands]) hly
  have hdd : ∃ k, d = .int k := by cases d <;> first | exact ⟨_, rfl⟩ | cases hd
  obtain ⟨k, rfl⟩ := hdd
  have hex : ∀ {r : Value} {w' : World}, (Builtin.append_ #[t, u] o.type #[a.eval x, a.eval y]).run c.P w = .ok r w' → (execOp a.eval o).run c.P w = .ok (.value r) w' := fun h => by
    simp only [execOp, ho, resolve, Sem.run_bind, Sem.run_pure, Result.andThen_ok, invoke, builtin, List.map_toArray, List.map_cons, List.map_nil, h]
  simp only [LOp.run] at hr
  generalize hav : a.eval x = av at *
  generalize hbv : a.eval y = bv at *
  generalize lx.ev e = l1 at *
  generalize ly.ev e = l2 at *
  cases hx <;> (try (simp only [reduceCtorEq] at hr; done))
  cases hy <;> (try (simp only [reduceCtorEq] at hr; done))
  rename_i kk m
  dsimp only at hr
  have hsz : ∀ w' : World, (sizeOf el).run c.P w' = .ok i.size w' := fun w' => by simp [sizeOf, rti hi]
  have hti : ∀ w' : World, (typeInfo el).run c.P w' = .ok i w' := fun w' => rti hi
  split at hr
  · rename_i h0
    subst h0
    cases hr
    refine ⟨.slice none 0 0, w, μ, ι, .inl (hex ?_), I, Ext.refl _ _ _ _, .nils, Kept.refl _ _⟩
    simp only [Builtin.append_]
    simp [ru ht, ru hu, hsz, hti, asInt, asIntOf, wrap_i64 0 (by omega) (by omega)]
  · rename_i h0
    split at hr
    · rename_i hc
      obtain ⟨hp, hb1, hb2⟩ := hc
      cases hr
      obtain ⟨i', zv, hi', hzv⟩ : ∃ i' zv, c.P.info? el = some i' ∧ i'.zero = some zv ∧ ∃ x, constC zv = some x ∧ cells? x = some z := by
        unfold zeroC at hz
        obtain ⟨i', h1, hz⟩ := bind_some hz
        obtain ⟨zv, h2, hz⟩ := bind_some hz
        obtain ⟨x, h3, hz⟩ := bind_some hz
        exact ⟨i', zv, h1, h2, x, h3, hz⟩
      obtain rfl : i = i' := Option.some.inj (hi.symm.trans hi')
      obtain ⟨hzv, zx, hzx, hzc⟩ := hzv
      have hdrew : Same w w.drew := Same.drew w
      have Id := I.same hdrew
      have xd := I.ext_same hdrew
      obtain ⟨hz1, hz2, hz3⟩ := cells_rel (rv_constC (μ := μ) (ι := ι) (w := w.drew) hzx) hzc
      have hz4 := Ra.one (μ := μ) (ι := ι) (w := w.drew) ⟨hz1, hz2⟩ (by simpa using hz3)
      obtain ⟨n, rfl⟩ : ∃ n : Nat, m = n := ⟨m.toNat, by omega⟩
      have hn : 0 < n := by omega
      have hb1' : n * i.bytes ≤ 2 ^ 32 := by unfold big at hb1; exact_mod_cast hb1
      obtain ⟨nc, hnc, hrun⟩ := append_zgrows (w := w) (ty := o.type) (kk := kk) ht hu hi hn hs0 hb0 hb1' hzv
      have hzp : 0 < z.length := by omega
      obtain ⟨q1, q2⟩ := zeroRow_rel (μ := μ) (ι := ι) (w := w.drew) ⟨hz1, hz2⟩ hzp n n (Nat.le_refl _)
      have hra : Ra μ ι w.drew (rep n z) (Builtin.zeroCells zv.cells n) := by
        refine ⟨by rw [zeroCells_size, rep_length, hz1], fun j hj => ?_⟩
        rw [rep_length] at hj
        have := q2 j hj
        simpa [Builtin.zeroCells, hz1] using this
      have hempty : Ra μ ι w.drew [] #[] := ⟨rfl, fun j hj => absurd hj (Nat.not_lt_zero _)⟩
      obtain ⟨g1, g2⟩ := grow_row hempty hra (Builtin.zeroCells zv.cells (nc - n))
      rw [List.nil_append] at g1 g2
      have hone' := one_append (one_append (us := #[]) (fun j hj => by simp at hj) (zeroCells_one hz4 n)) (zeroCells_one hz4 (nc - n))
      obtain ⟨I2, x2⟩ := Id.newCells el _ (rep n z) g1 hone' g2
      have hto : ((n : Int)).toNat = n := by simp
      rw [hto]
      refine ⟨_, _, _, ι, .inl (hex hrun), I2, xd.trans x2, ?_, Kept.new _ _⟩
      have hsz2 : zv.cells.size = i.size := by rw [hz1, hzl]
      exact sref_new (by simp [zeroCells_size, hsz2]; rw [← Nat.add_mul]; exact Nat.mul_le_mul_right _ (by omega)) hnc
    · cases hr

/-- The operations that were taken in last. -/
theorem new_sound {lo : LOp} (hnew : isNewL lo = true) (hc : compOp c o = some lo) (hρ : Ho μ ι w c e a o) (I : Inv cmp w0 μ ι δ s w) (hr : lo.run e s = some (v, s')) : OpOk cmp w0 μ ι δ s w c.P a o v s' := by
  have lk : s' = s ∧ Looks μ ι w c.P a o v → OpOk cmp w0 μ ι δ s w c.P a o v s' := fun h => by
    obtain ⟨rfl, h⟩ := h
    exact ok_look I h
  cases ho : o.op
  case range t x =>
    simp only [compOp, ho] at hc
    split at hc
    · rename_i hu
      obtain ⟨y, hy, hc⟩ := bind_some hc
      cases hc
      exact ok_mrange ho I hρ hu hy hr
    · cases hc
  case entry x =>
    simp only [compOp, ho] at hc
    obtain ⟨y, hy, rfl⟩ := map_some' hc
    exact lk (look_mentry ho I hρ hy hr)
  case next x b =>
    cases b <;> simp only [compOp, ho, reduceCtorEq] at hc
    obtain ⟨y, hy, rfl⟩ := map_some' hc
    cases hnew
  case makeMap t x =>
    simp only [compOp, ho] at hc
    split at hc
    · rename_i hu
      obtain ⟨y, hy, hc⟩ := bind_some hc
      cases hc
      exact ok_mkmap ho I hρ hu hy hr
    · cases hc
  case lookup t m k ok =>
    simp only [compOp, ho] at hc
    split at hc
    · rename_i hu
      obtain ⟨kd, hk, hc⟩ := bind_some hc
      obtain ⟨z, hz, hc⟩ := bind_some hc
      obtain ⟨lz, hlz, hc⟩ := bind_some hc
      obtain ⟨ym, hm, hc⟩ := bind_some hc
      obtain ⟨yk, hkk, hc⟩ := bind_some hc
      cases hc
      exact ok_lookup ho I hρ hu hk hz hlz hm hkk hr
    · cases hc
  case mapUpdate t m k x =>
    simp only [compOp, ho] at hc
    split at hc
    · rename_i hu
      obtain ⟨kd, hk, hc⟩ := bind_some hc
      obtain ⟨ym, hm, hc⟩ := bind_some hc
      obtain ⟨yk, hkk, hc⟩ := bind_some hc
      obtain ⟨yx, hxx, hc⟩ := bind_some hc
      cases hc
      exact ok_mupd ho I hρ hu hk hm hkk hxx hr
    · cases hc
  case convert t d x =>
    simp only [compOp, ho] at hc
    split at hc
    · obtain ⟨_, _, hc⟩ := bind_some hc
      obtain ⟨_, _, hc⟩ := bind_some hc
      cases hc
      cases hnew
    · rename_i hk
      split at hc
      · rename_i hts
        split at hc
        · rename_i hel
          obtain ⟨y, hy, rfl⟩ := map_some' hc
          exact lk (look_bytesStr ho I hρ hk hts hel hy hr)
        · cases hc
      · obtain ⟨y, hy, rfl⟩ := map_some' hc
        cases hnew
      · cases hc
    · cases hc
  case slice t x l h m =>
    cases m with
    | none =>
      exfalso
      simp only [compOp, ho] at hc
      split at hc
      · obtain ⟨_, _, hc⟩ := bind_some hc; obtain ⟨_, _, hc⟩ := bind_some hc; obtain ⟨_, _, hc⟩ := bind_some hc; obtain ⟨_, _, hc⟩ := bind_some hc; cases hc; cases hnew
      · obtain ⟨_, _, hc⟩ := bind_some hc; obtain ⟨_, _, hc⟩ := bind_some hc; obtain ⟨_, _, hc⟩ := bind_some hc; cases hc; cases hnew
      · cases hc
    | some mx =>
      cases l <;> cases h <;> simp only [compOp, ho, reduceCtorEq] at hc
      split at hc
      · rename_i hu
        obtain ⟨n, hn, hc⟩ := bind_some hc; obtain ⟨y, hy, hc⟩ := bind_some hc; obtain ⟨y1, hy1, hc⟩ := bind_some hc; obtain ⟨y2, hy2, hc⟩ := bind_some hc; obtain ⟨y3, hy3, hc⟩ := bind_some hc
        cases hc
        exact lk (look_sliceZ ho hρ hu hn hy hy1 hy2 hy3 hr)
      · cases hc
  case call cl =>
    obtain ⟨cal, as, ts⟩ := cl
    cases cal <;> simp only [compOp, ho, reduceCtorEq] at hc
    case value f =>
      obtain ⟨_, _, hc⟩ := bind_some hc; obtain ⟨_, _, hc⟩ := bind_some hc; cases hc; cases hnew
    case builtin bb =>
      unfold compBuiltin at hc
      split at hc
      · rename_i x t has hts
        have h1 : as = #[x] := by apply Array.ext'; simpa using has
        have h2 : ts = #[t] := by apply Array.ext'; simpa using hts
        subst h1; subst h2
        unfold compLen at hc
        split at hc
        · obtain ⟨_, _, hc⟩ := bind_some hc; cases hc; cases hnew
        · obtain ⟨_, _, hc⟩ := bind_some hc; cases hc; cases hnew
        · cases hc; cases hnew
        · rename_i hu
          obtain ⟨y, hy, hc⟩ := bind_some hc; cases hc
          exact lk (look_lenMap ho I hρ hu hy hr)
        · cases hc
      · rename_i x y t u has hts
        have h1 : as = #[x, y] := by apply Array.ext'; simpa using has
        have h2 : ts = #[t, u] := by apply Array.ext'; simpa using hts
        subst h1; subst h2
        unfold compAppend at hc
        split at hc
        · rename_i ht
          obtain ⟨d, hu, hc⟩ := bind_some hc; obtain ⟨i, hi, hc⟩ := bind_some hc; obtain ⟨z, hz, hc⟩ := bind_some hc
          split at hc
          · cases hc
          · rename_i hno
            simp only [not_or, ne_eq, Decidable.not_not] at hno
            obtain ⟨g0, g1, g3⟩ := hno
            split at hc
            · obtain ⟨_, _, hc⟩ := bind_some hc; obtain ⟨_, _, hc⟩ := bind_some hc; cases hc; cases hnew
            · split at hc
              · rename_i hd
                obtain ⟨lx, hlx, hc⟩ := bind_some hc; obtain ⟨ly, hly, hc⟩ := bind_some hc; cases hc
                exact ok_appz ho I hρ ht hu hd hi g0 g1 hz g3 hlx hly hr
              · cases hc
        · cases hc
      · exfalso
        unfold compCopy at hc
        split at hc
        · obtain ⟨_, _, hc⟩ := bind_some hc; obtain ⟨_, _, hc⟩ := bind_some hc; obtain ⟨_, _, hc⟩ := bind_some hc; cases hc; cases hnew
        · cases hc
      · rename_i x t has hts
        have h1 : as = #[x] := by apply Array.ext'; simpa using has
        have h2 : ts = #[t] := by apply Array.ext'; simpa using hts
        subst h1; subst h2
        unfold compCap at hc
        split at hc
        · rename_i hu
          obtain ⟨y, hy, hc⟩ := bind_some hc; cases hc
          exact lk (look_capZ ho hρ hu hy hr)
        · cases hc
      · obtain ⟨_, _, hc⟩ := bind_some hc; cases hc; cases hnew
      · obtain ⟨_, _, hc⟩ := bind_some hc; cases hc; cases hnew
      · cases hc
  all_goals exfalso
  all_goals simp only [compOp, ho, reduceCtorEq, Option.map_eq_some_iff, and_false, exists_false] at hc
  all_goals repeat' (first | (cases hc; cases hnew; done) | (cases hc; done) | (obtain ⟨_, _, rfl⟩ := hc; cases hnew; done) | contradiction | (obtain ⟨_, _, hc⟩ := bind_some hc) | (split at hc))
end
end Go.Pv
