/- From a plain run of a law to what its row asks. -/
import Derived.Test.YtmfpcofncfhklaaPvRow
set_option linter.unusedSimpArgs false
set_option linter.unusedVariables false
namespace Go.Pv
open Go Go.RowKit Go.ChangeShapes Go.WideShapes

section
variable {P : Program} {H : Type} {enc : TypeId × Value → H} {W W' : World}

theorem trodAll_stays (hl : laidOutB P = true) (hb : Below W.heap.size W W') {sp : Nat → Bool} : ∀ {ts : List TypeId} {vs : List Value} {ds : List (DataW H)} {ps : List MemPlace}, (∀ t ∈ ts, P.readableRec t = true ∧ t < P.types.size) →
    DataW.TrodAll enc P W 0 (fun _ => true) true ts vs ds ps → (∀ p ∈ ps, p.block < W.heap.size) → (∀ p ∈ ps, sp p.block = true) → DataW.TrodAll enc P W' 0 sp true ts vs ds ps := by
  intro ts
  induction ts with
  | nil =>
    intro vs ds ps _ h _ _
    obtain ⟨rfl, rfl, rfl⟩ := trodAll_nil h
    exact rfl
  | cons t ts ih =>
    intro vs ds ps hr h hlt hsp
    obtain ⟨v, vs', d, ds', p, q, rfl, rfl, rfl, h0, h1⟩ := trodAll_cons h
    exact ⟨p, q, WideElems.Trod_stays hl (hr t (by simp)).1 (hr t (by simp)).2 h0 (fun x hx => hb.same (hlt x (by simp [hx]))) (fun x hx => hsp x (by simp [hx])),
      ih (fun t ht => hr t (by simp [ht])) h1 (fun x hx => hlt x (by simp [hx])) (fun x hx => hsp x (by simp [hx])), rfl⟩

theorem trodAll_len {base : Nat} {sp : Nat → Bool} {hd : Bool} : ∀ {ts : List TypeId} {vs : List Value} {ds : List (DataW H)} {ps : List MemPlace}, DataW.TrodAll enc P W base sp hd ts vs ds ps → vs.length = ts.length ∧ ds.length = ts.length := by
  intro ts
  induction ts with
  | nil => intro vs ds ps h; obtain ⟨rfl, rfl, rfl⟩ := trodAll_nil h; exact ⟨rfl, rfl⟩
  | cons t ts ih =>
    intro vs ds ps h
    obtain ⟨v, vs', d, ds', p, q, rfl, rfl, rfl, h0, h1⟩ := trodAll_cons h
    have := ih h1
    exact ⟨by simp [this.1], by simp [this.2]⟩

theorem post_true {f : Func} {s : ChangeSpec} {apart fresh handsOn again : Bool} {args : Array Value} {ds gs : List (DataW H)} {before : List MemPlace} {tb : TypeId}
    (hW : DataW.Whole enc P f.params.toList s.vars apart W args.toList ds gs before) (hv : s.vars = []) (hspec : ∀ ds : List (DataW H), ds.length = f.params.size → s.fn H ds = { results := [.lit (.bool true)], args := ds })
    (hr : f.resultTypes = #[tb]) (htb : P.underlying tb = some .bool) (hl : laidOutB P = true) (hts : ∀ t ∈ f.params.toList, P.readableRec t = true ∧ t < P.types.size) (hb : Below W.heap.size W W') :
    s.post enc P f apart fresh handsOn again W args (.bool true) W' := by
  have hW' := hW
  obtain ⟨p, q, hA, hV, rfl, hz, hn⟩ := hW
  rw [hv] at hV
  obtain ⟨rfl, rfl⟩ := trodVars_none hV
  have hlen := (trodAll_len hA).2
  have hsp := hspec ds (by simpa using hlen)
  have hlt : ∀ x ∈ p, x.block < W.heap.size := fun x hx => hW'.lt x (by simpa using hx)
  have hres : ∀ (b : Nat) (sp : Nat → Bool) (hd : Bool), DataW.TrodAll enc P W' b sp hd f.resultTypes.toList ((Value.bool true).resultList f.resultTypes.size) (s.fn H (ds ++ [])).results [] := fun b sp hd => by
    rw [List.append_nil, hsp, hr]
    exact trodAll_cons_mk (shut_bool htb _) trodAll_mk0
  have hargs : ∀ sp : Nat → Bool, (∀ x ∈ p, sp x.block = true) → DataW.TrodAll enc P W' 0 sp true f.params.toList args.toList (s.fn H (ds ++ [])).args p := fun sp hs => by
    rw [List.append_nil, hsp]
    exact trodAll_stays hl hb hts hA hlt hs
  have hvars : ∀ sp : Nat → Bool, DataW.TrodVars enc P W' sp s.vars (s.fn H (ds ++ [])).vars [] := fun sp => by
    rw [List.append_nil, hsp, hv]
    rfl
  have hold : ∀ x ∈ p ++ [], (fun b => decide (b < W.heap.size)) x.block = true := fun x hx => by simpa using hW'.lt x hx
  refine ⟨ds, [], p ++ [], [], p, [], hW', hres _ _ _, hargs _ (fun x hx => hold x (by simpa using hx)), hvars _, World.keptBut_mono (fun x hx => ⟨hx, by simpa using hx⟩) (hb.frame _), fun _ => ?_⟩
  refine ⟨ok_one hr rfl (okWide_bool_mk htb _), _, _, ([] ++ p) ++ [], ⟨[] ++ p, [], trodAll_append (hargs _ (fun _ _ => rfl)) (hres _ _ _), hvars _, rfl, ?_, ?_⟩, ?_⟩
  · intro b off hp
    have hm : MemPlace.cell b off ∈ p := by simpa using hp
    rw [hb.frozen (p := ⟨b, off, none⟩) (hlt _ hm)]
    exact hz b off (by simpa using hm)
  · intro ha
    have := hn ha
    simpa using this
  · intro x hx _
    simpa using hx

/-- A law, run on plain values: true. -/
def LawOk (P : Program) (k : Nat) (args : List LV) : Prop :=
  ∃ fn refs lf, P.funcs[k]? = some fn ∧ (fn.name == "runtime.NumGoroutine") = false ∧ compFunc P [] refs fn = some lf ∧ args.length ≤ lf.ntmps ∧
    CodeOk P [] false lf.ntmps lf.body (envOf args) St.empty (fun o e s' => (o = .normal ∨ o = .jmp .ret) ∧ resVal lf.results e s' = some (.bool true))

/-- Cells that are known are there. -/
theorem Rv.strict {μ : Mu} {ι : Io} {w : World} {v : LV} {x : Value} (h : Rv μ ι w v x) : Rv μ (fun b o => ι b o ∧ ∃ u, w.cell? ⟨b, o, none⟩ = some u) w v x := by
  induction h with
  | top v => exact .top v
  | bool b => exact .bool b
  | int k n => exact .int k n
  | str s => exact .str s
  | agg hl _ ih => exact .agg hl ih
  | tup hl _ ih => exact .tup hl ih
  | nilp => exact .nilp
  | pimm vs hc hi h1 _ ih => exact .pimm vs hc (fun i h => ⟨hi i h, _, hc i h⟩) h1 ih
  | pref hp => exact .pref hp
  | nils => exact .nils
  | zs a => exact .zs a
  | simm vs hc hi h1 _ hlc ih => exact .simm vs hc (fun i h => ⟨hi i h, _, hc i h⟩) h1 ih hlc
  | sref hp hcap hlc had => exact .sref hp hcap hlc had
  | fn hl hl' _ _ ih ih' => exact .fn hl hl' ih ih'
  | nilf => exact .nilf
  | yld hp => exact .yld hp
  | ifc _ ih => exact .ifc ih
  | nili => exact .nili
  | nilm => exact .nilm
  | mref hp => exact .mref hp

theorem law_contract {k n : Nat} {f : Func} {s : ChangeSpec} {apart fresh handsOn again : Bool} {tb : TypeId} {base : Nat} {args : Array Value} {ds gs : List (DataW H)} {before : List MemPlace}
    (hv : s.vars = []) (hspec : ∀ ds : List (DataW H), ds.length = f.params.size → s.fn H ds = { results := [.lit (.bool true)], args := ds })
    (hr : f.resultTypes = #[tb]) (htb : P.underlying tb = some .bool) (hl : laidOutB P = true) (hts : ∀ t ∈ f.params.toList, P.readableRec t = true ∧ t < P.types.size) (hrow : ∀ t ∈ f.params.toList, (rowTy P n t).isSome = true)
    (hlaw : ∀ lvs, HasArgs P n f.params.toList lvs → LawOk P k lvs)
    (hval : ∀ (j : Nat) t v, f.params[j]? = some t → args[j]? = some v → Value.okWide P W .any base t v)
    (hW : DataW.Whole enc P f.params.toList s.vars apart W args.toList ds gs before) :
    Calls P k args W fun e W' => ∃ v, e = .returned v ∧ s.post enc P f apart fresh handsOn again W args v W' := by
  have hW' := hW
  obtain ⟨p, q, hA, hV, rfl, hz, hn⟩ := hW
  rw [hv] at hV
  obtain ⟨rfl, rfl⟩ := trodVars_none hV
  let κ : Io := fun b o => MemPlace.cell b o ∈ p ∧ ∃ v, W.cell? ⟨b, o, none⟩ = some v
  let κ0 : Io := fun b o => MemPlace.cell b o ∈ p
  obtain ⟨lvs, h1, h2, h3⟩ := read_args (κ := κ0) hrow hA (fun j t v hj hv => hval j t v (by simpa using hj) (by simpa using hv)) (fun b o h => h)
  obtain ⟨fn, refs, lf, g1, g2, g3, g4, g5⟩ := hlaw lvs h1
  have hκ : ∀ b o, κ b o → ∃ v, W.cell? ⟨b, o, none⟩ = some v := fun b o h => h.2
  refine (calls_fn (Q := fun v => v = .bool true) (κ := κ) rfl g1 g2 g3 g4 (CodeOk.mono g5 fun o e s' hh => ⟨hh.1, _, hh.2, rfl⟩) hκ (vargs := args) (by rw [h2]; simp) (fun i hi => ?_)).mono fun e W' hh => ?_
  · have := h3 i (by rw [← h2]; exact hi)
    have hs := this.strict
    simpa [List.getD_eq_getElem?_getD, Array.getD_eq_getD_getElem?] using hs
  · obtain ⟨lv, v, μ', ι', rfl, rfl, hb, hrv⟩ := hh
    cases hrv
    exact ⟨_, rfl, post_true hW' hv hspec hr htb hl hts hb⟩
end
end Go.Pv
