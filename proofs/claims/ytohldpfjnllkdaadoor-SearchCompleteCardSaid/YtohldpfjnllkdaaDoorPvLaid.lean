/- Package variables that a row lists: from the datum to plain cells. -/
import Derived.Test.YtohldpfjnllkdaaDoorPvRow
import Derived.FnData
import Derived.MakeChecks
set_option linter.unusedSimpArgs false
set_option linter.unusedVariables false
namespace Go.Pv
open Go Go.RowKit Go.ChangeShapes Go.WideShapes
section
variable {P : Program} {H : Type} {enc : TypeId × Value → H} {W : World}
def datFs (P : Program) (f : TypeId → DataW H → Option (List LV)) : List Field → List (DataW H) → Nat → Option (List LV)
  | [], [], _ => some []
  | fl :: fs, d :: ds, off =>
    match f fl.type d with
    | some r => if fl.offset = off ∧ r.length = P.cellsOf fl.type then (match datFs P f fs ds (off + r.length) with | some rs => some (r ++ rs) | none => none) else none
    | none => none
  | _, _, _ => none
def datEs (f : DataW H → Option (List LV)) (m : Nat) : List (DataW H) → Option (List LV)
  | [] => some []
  | d :: ds =>
    match f d with
    | some r => if r.length = m then (match datEs f m ds with | some rs => some (r ++ rs) | none => none) else none
    | none => none
def datLV (P : Program) : Nat → TypeId → DataW H → Option (List LV)
  | 0, _, _ => none
  | n + 1, t, d =>
    match P.underlying t, d with
    | some .bool, .lit (.bool b) => some [.bool b]
    | some (.int k), .lit (.int k' z) => if k = k' then some [.int k z] else none
    | some .string, .lit (.string bs) => some [.str ⟨bs.toArray⟩]
    | some (.struct fs), .agg ds =>
      match datFs P (datLV P n) fs.toList ds 0 with
      | some r => if r.length = P.cellsOf t then some r else none
      | none => none
    | some (.array m e), .agg ds =>
      match datEs (datLV P n e) (P.cellsOf e) ds with
      | some r => if r.length = P.cellsOf t then some r else none
      | none => none
    | _, _ => none
theorem datFs_ok {κ : Io} {f : TypeId → DataW H → Option (List LV)} {cs : List Value} (g : TypeId → List Value → Option (DataW H × List MemPlace)) (hf : ∀ t d r cs x, f t d = some r → g t cs = some x → x.1 = d → Rd κ W r cs) :
    ∀ (fl : List Field) (ds : List (DataW H)) (off : Nat) (r : List LV) (ys : List (DataW H × List MemPlace)), datFs P f fl ds off = some r → (∀ (i : Nat) fd, fl[i]? = some fd → g fd.type ((cs.drop fd.offset).take (P.cellsOf fd.type)) = ys[i]?) → ys.map (·.1) = ds → ys.length = fl.length → off + r.length ≤ cs.length → Rd κ W r ((cs.drop off).take r.length) := by
  intro fl
  induction fl with
  | nil =>
    intro ds off r ys h _ _ _ _
    cases ds with
    | nil => cases h; simp [Rd]
    | cons => cases h
  | cons fd fl ih =>
    intro ds off r ys h hys hds hyl hle
    match ds, ys with
    | d :: ds, y :: ys =>
      simp only [datFs] at h
      split at h
      · rename_i r1 hr1
        split at h
        · rename_i hc
          split at h
          · rename_i r2 hr2
            cases h
            obtain ⟨hoff, hsz⟩ := hc
            have hds' : y.1 = d ∧ ys.map (·.1) = ds := by simpa using hds
            have hy := hys 0 fd rfl
            simp only [List.getElem?_cons_zero] at hy
            have g2 := hf _ _ _ _ _ hr1 hy hds'.1
            simp only [List.length_append] at hle
            have g4 := ih ds (off + r1.length) r2 ys hr2 (fun i f' hi => by simpa using hys (i + 1) f' (by simpa using hi)) hds'.2 (by simpa using hyl) (by omega)
            have : (cs.drop off).take (r1 ++ r2).length = (cs.drop off).take r1.length ++ (cs.drop (off + r1.length)).take r2.length := by
              rw [List.length_append, List.take_add, List.drop_drop]
            rw [this]
            rw [hoff, ← hsz] at g2
            exact g2.append g4
          · cases h
        · cases h
      · cases h
    | d :: ds, [] => simp at hyl
    | [], _ => cases h
theorem datEs_ok {κ : Io} {f : DataW H → Option (List LV)} {cs : List Value} {m : Nat} (g : List Value → Option (DataW H × List MemPlace)) (hf : ∀ d r cs x, f d = some r → g cs = some x → x.1 = d → Rd κ W r cs) :
    ∀ (ds : List (DataW H)) (k : Nat) (r : List LV) (ys : List (DataW H × List MemPlace)), datEs f m ds = some r → (∀ (i : Nat), i < ys.length → g ((cs.drop ((k + i) * m)).take m) = ys[i]?) → ys.map (·.1) = ds → k * m + r.length ≤ cs.length → Rd κ W r ((cs.drop (k * m)).take r.length) := by
  intro ds
  induction ds with
  | nil => intro k r ys h _ _ _; cases h; simp [Rd]
  | cons d ds ih =>
    intro k r ys h hys hds hle
    match ys with
    | [] => simp at hds
    | y :: ys =>
      simp only [datEs] at h
      split at h
      · rename_i r1 hr1
        split at h
        · rename_i hc
          split at h
          · rename_i r2 hr2
            cases h
            have hds' : y.1 = d ∧ ys.map (·.1) = ds := by simpa using hds
            have hy := hys 0 (by simp)
            simp only [List.getElem?_cons_zero, Nat.add_zero] at hy
            have g2 := hf _ _ _ _ hr1 hy hds'.1
            simp only [List.length_append] at hle
            have hkm : (k + 1) * m = k * m + r1.length := by rw [Nat.add_mul, Nat.one_mul, hc]
            have g4 := ih (k + 1) r2 ys hr2 (fun i hi => by
              have := hys (i + 1) (by simpa using hi)
              rw [show k + (i + 1) = k + 1 + i by omega] at this
              simpa using this) hds'.2 (by rw [hkm]; omega)
            rw [hkm] at g4
            have : (cs.drop (k * m)).take (r1 ++ r2).length = (cs.drop (k * m)).take r1.length ++ (cs.drop (k * m + r1.length)).take r2.length := by
              rw [List.length_append, List.take_add, List.drop_drop]
            rw [this]
            subst hc
            exact g2.append g4
          · cases h
        · cases h
      · cases h
theorem datLV_ok {κ : Io} {held : Bool} {sp : Nat → Bool} : ∀ {n : Nat} {t : TypeId} {d : DataW H} {r : List LV}, datLV P n t d = some r → ∀ {fuel : Nat} {cs : List Value} {x : DataW H × List MemPlace}, DataW.trod enc P W 0 sp held fuel t cs = some x → x.1 = d → Rd κ W r cs := by
  intro n
  induction n with
  | zero => intro t d r h; cases h
  | succ n ih =>
    intro t d r h fuel cs x hx hd
    unfold datLV at h
    split at h
    · rename_i b ht; cases h
      obtain ⟨b', rfl, rfl⟩ := DataW.trod_bool ht hx
      cases hd
      exact Rd.one (.bool _) rfl
    · rename_i k k' z ht
      split at h
      · rename_i hk; cases h; subst hk
        obtain ⟨z', rfl, h2, hw⟩ := DataW.trod_int ht hx
        rw [h2] at hd; cases hd
        exact Rd.one (.int _ _) rfl
      · cases h
    · rename_i bs ht; cases h
      obtain ⟨s, rfl, h2, hw⟩ := DataW.trod_string ht hx
      rw [h2] at hd
      have : s.data.toList = bs := by simpa using hd
      subst this
      exact Rd.one (.str _) rfl
    · rename_i fs ds ht
      split at h
      · rename_i r' hr
        split at h
        · rename_i hlen; cases h
          obtain ⟨xs, n', -, rfl, hcl, hxl, hf⟩ := DataW.trod_struct ht hx
          have := datFs_ok (κ := κ) (W := W) (P := P) (cs := cs) (fun t cs => DataW.trod enc P W 0 sp held n' t cs) (fun t d r cs x h1 h2 h3 => ih h1 h2 h3) fs.toList ds 0 r xs hr (fun i f hi => hf i f (by simpa using hi)) (by simpa using hd) (by simpa using hxl) (by omega)
          rw [List.drop_zero, List.take_of_length_le (by omega)] at this
          exact this
        · cases h
      · cases h
    · rename_i m e ds ht
      split at h
      · rename_i r' hr
        split at h
        · rename_i hlen; cases h
          obtain ⟨xs, n', -, rfl, hcl, hxl, hf⟩ := DataW.trod_array ht hx
          have := datEs_ok (κ := κ) (W := W) (cs := cs) (fun cs => DataW.trod enc P W 0 sp held n' e cs) (fun d r cs x h1 h2 h3 => ih h1 h2 h3) ds 0 r xs hr (fun i hi => by rw [Nat.zero_add]; exact hf i (by omega)) (by simpa using hd) (by omega)
          rw [Nat.zero_mul, List.drop_zero, List.take_of_length_le (by omega)] at this
          exact this
        · cases h
      · cases h
    · cases h
def globLV (P : Program) (n : Nat) : List (String × DataW Unit) → Option Globs
  | [] => some []
  | (nm, d) :: r =>
    match P.globalNamed nm with
    | some g =>
      match (P.globals[g]?).map (·.type) with
      | some t =>
        match datLV P n t d, globLV P n r with
        | some c, some G => some ((g, c) :: G)
        | _, _ => none
      | none => none
    | none => none
def GMet (W : World) (G : Globs) : Prop := ∀ x ∈ G, ∀ i, i < x.2.length → ∃ v, W.cell? ⟨x.1, i, none⟩ = some v ∧ (∀ κ : Io, Rv noMu κ W (x.2.getD i .top) v) ∧ v.oneCell' = true
theorem globs_vars {n : Nat} : ∀ {l : List (String × DataW Unit)} {ps : List MemPlace} {G : Globs}, globLV P n l = some G → DataW.LaidVars P W l ps → GMet W G := by
  intro l
  induction l with
  | nil => intro ps G h _; cases h; exact fun x hx => by cases hx
  | cons y l ih =>
    intro ps G h hl
    obtain ⟨nm, d⟩ := y
    obtain ⟨g, t, cs, fuel, p, q, h1, h2, h3, h4, h5, -⟩ := hl
    simp only [globLV, h1, h2] at h
    split at h
    · rename_i c G' hc hG
      cases h
      intro x hx
      rcases List.mem_cons.1 hx with rfl | hx
      · intro i hi
        have hr : ∀ κ : Io, Rd κ W c cs.toList := fun κ => datLV_ok (κ := κ) hc h4 rfl
        have hlen := (hr (fun _ _ => True)).1
        have hi' : i < cs.toList.length := by rw [← hlen]; exact hi
        have hcell := World.var?_cell h1 h3 i
        have hv : cs[i]? = some (cs.toList.getD i undef) := by
          rw [List.getD_eq_getElem?_getD, Array.getElem?_toList]
          have : i < cs.size := by simpa using hi'
          rw [Array.getElem?_eq_getElem this]
          rfl
        exact ⟨_, hcell.trans hv, fun κ => ((hr κ).2 i hi').1, ((hr (fun _ _ => True)).2 i hi').2⟩
      · exact ih hG h5 x hx
    · cases h
theorem globs_met {n : Nat} {l : List (String × DataW Unit)} {G : Globs} (hp : (l.all fun x => x.2.handleName?.isNone) = true) (hg : globLV P n l = some G) (h : laidMetH P l W) : GMet W G := by
  rw [MakeChecks.laidMetH_plain _ _ _ hp] at h
  obtain ⟨ps, h1, _⟩ := h
  exact globs_vars hg h1
def LawOkG (P : Program) (G : Globs) (k : Nat) (args : List LV) : Prop :=
  ∃ fn refs lf, P.funcs[k]? = some fn ∧ (fn.name == "runtime.NumGoroutine") = false ∧ compFunc P G refs fn = some lf ∧ args.length ≤ lf.ntmps ∧
    CodeOk P G false lf.ntmps lf.body (envOf args) St.empty (fun o e s' => (o = .normal ∨ o = .jmp .ret) ∧ resVal lf.results e s' = some (.bool true))
theorem law_contractG {k n : Nat} {f : Func} {s : ChangeSpec} {apart fresh handsOn again : Bool} {tb : TypeId} {base : Nat} {args : Array Value} {ds gs : List (DataW H)} {before : List MemPlace} {G : Globs} (hGm : GMet W G)
    (hv : s.vars = []) (hspec : ∀ ds : List (DataW H), ds.length = f.params.size → s.fn H ds = { results := [.lit (.bool true)], args := ds })
    (hr : f.resultTypes = #[tb]) (htb : P.underlying tb = some .bool) (hl : laidOutB P = true) (hts : ∀ t ∈ f.params.toList, P.readableRec t = true ∧ t < P.types.size) (hrow : ∀ t ∈ f.params.toList, (rowTy P n t).isSome = true)
    (hlaw : ∀ lvs, HasArgs P n f.params.toList lvs → LawOkG P G k lvs)
    (hval : ∀ (j : Nat) t v, f.params[j]? = some t → args[j]? = some v → Value.okWide P W .any base t v)
    (hW : DataW.Whole enc P f.params.toList s.vars apart W args.toList ds gs before) :
    Calls P k args W fun e W' => ∃ v, e = .returned v ∧ s.post enc P f apart fresh handsOn again W args v W' := by
  have hW' := hW
  obtain ⟨p, q, hA, hV, rfl, hz, hn⟩ := hW
  rw [hv] at hV
  obtain ⟨rfl, rfl⟩ := trodVars_none hV
  let κ1 : Io := fun b o => MemPlace.cell b o ∈ p ∨ ∃ x ∈ G, b = x.1 ∧ o < x.2.length
  let κ : Io := fun b o => κ1 b o ∧ ∃ v, W.cell? ⟨b, o, none⟩ = some v
  let κ0 : Io := fun b o => MemPlace.cell b o ∈ p
  obtain ⟨lvs, h1, h2, h3⟩ := read_args (κ := κ0) hrow hA (fun j t v hj hv => hval j t v (by simpa using hj) (by simpa using hv)) (fun b o h => h)
  obtain ⟨fn, refs, lf, g1, g2, g3, g4, g5⟩ := hlaw lvs h1
  have hκ : ∀ b o, κ b o → ∃ v, W.cell? ⟨b, o, none⟩ = some v := fun b o h => h.2
  have hglob : ∀ x ∈ G, Rv noMu κ W (.pimm x.2 0) (.pointer (some ⟨x.1, 0, none⟩)) := fun x hx => by
    have key := hGm x hx
    obtain ⟨V, hV⟩ := Deep.choose_lt (α := Value) (n := x.2.length) key
    have := Rv.pimm (μ := noMu) (ι := κ) (w := W) (cs := x.2) (off := 0) (b := x.1) (o := 0) V (fun i hi => by rw [Nat.zero_add]; exact (hV i hi).1) (fun i hi => ⟨.inr ⟨x, hx, rfl, by rw [Nat.zero_add]; exact hi⟩, _, by rw [Nat.zero_add]; exact (hV i hi).1⟩) (fun i hi => (hV i hi).2.2) (fun i hi => (hV i hi).2.1 κ)
    simpa using this
  refine (calls_fnG (Q := fun v => v = .bool true) (κ := κ) hglob g1 g2 g3 g4 (CodeOk.mono g5 fun o e s' hh => ⟨hh.1, _, hh.2, rfl⟩) hκ (vargs := args) (by rw [h2]; simp) (fun i hi => ?_)).mono fun e W' hh => ?_
  · have := h3 i (by rw [← h2]; exact hi)
    have hs := (this.strict).mono (ι' := κ) (fun _ _ _ => rfl) (fun _ _ h => h) (fun b o h => ⟨.inl h.1, h.2⟩)
    simpa [List.getD_eq_getElem?_getD, Array.getD_eq_getD_getElem?] using hs
  · obtain ⟨lv, v, μ', ι', rfl, rfl, hb, hrv⟩ := hh
    cases hrv
    exact ⟨_, rfl, post_true hW' hv hspec hr htb hl hts hb⟩
end
end Go.Pv
