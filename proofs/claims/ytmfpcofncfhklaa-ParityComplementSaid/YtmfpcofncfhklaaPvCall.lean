/- A function called: from its body's plain form. -/
import Derived.Test.YtmfpcofncfhklaaPvDraw2
import Derived.RangeFuncRecord
set_option linter.unusedSimpArgs false
set_option linter.unusedVariables false
namespace Go.Pv
open Go Go.RowKit

def envGo : List LV → Nat → Env → Env
  | [], _, e => e
  | v :: r, i, e => envGo r (i + 1) (Tr.set e i v)
def envOf (l : List LV) : Env := envGo l 0 .nil

theorem envGo_at : ∀ (l : List LV) (i : Nat) (e : Env) (t : Nat), (envGo l i e).at t = if i ≤ t ∧ t < i + l.length then l.getD (t - i) .top else e.at t := by
  intro l
  induction l with
  | nil => intro i e t; simp [envGo]; omega
  | cons v l ih =>
    intro i e t
    rw [envGo, ih, Env.at_set]
    simp only [List.length_cons]
    by_cases h1 : t = i
    · subst h1
      rw [if_neg (by omega), if_pos rfl, if_pos (by omega)]
      simp
    · by_cases h2 : i + 1 ≤ t ∧ t < i + 1 + l.length
      · rw [if_pos h2, if_pos (by omega)]
        obtain ⟨j, hj⟩ : ∃ j, t - i = j + 1 := ⟨t - i - 1, by omega⟩
        rw [hj, List.getD_cons_succ]
        congr 1; omega
      · rw [if_neg h2, if_neg h1, if_neg (by omega)]

theorem envOf_at (l : List LV) (t : Nat) : (envOf l).at t = l.getD t .top := by
  unfold envOf
  rw [envGo_at]
  by_cases h : t < l.length
  · rw [if_pos (by omega)]; simp
  · rw [if_neg (by omega), Env.at_nil, List.getD_eq_getElem?_getD, List.getElem?_eq_none (by omega)]; rfl

def resOne (e : Env) (s : St) : LRes → Option LV
  | .tmp t => some (e.at t)
  | .cell t n =>
    match e.at t with
    | .pimm cs off => mkVal n cs off
    | .pref id off => match s.get id with | some (.cells _ cs) => mkVal n cs off | _ => none
    | _ => none

def resVal (rs : List LRes) (e : Env) (s : St) : Option LV :=
  match rs.mapM (resOne e s) with
  | some [v] => some v
  | some vs => some (.tup vs)
  | none => none

section
variable {P : Program} {G : Globs} {w0 : Bs} {μ : Mu} {ι : Io} {δ δ' : Nat → Prop} {s : St} {w : World} {nt : Nat} {e : Env} {a : Act}

theorem res_one {c : Ctx} (hP : c.P = P) {r : ResultVar} {lr : LRes} (hr : compRes c r = some lr) (hf : Fr P G w0 μ ι δ s w nt e a) {v : LV} (h : resOne e s lr = some v) :
    ∃ x, (match r with | .tmp t => pure (a.tmps.getD t undef) | .cell b t => (do loadVar t (← asAddr (a.tmps.getD b undef))) : Sem Value).run P w = .ok x w ∧ Rv μ ι w v x := by
  cases r with
  | tmp t =>
    cases hr
    cases h
    exact ⟨_, by simp, hf.re t⟩
  | cell b t =>
    simp only [compRes] at hr
    obtain ⟨n, hn, hr⟩ := bind_some hr
    cases hr
    rw [hP] at hn
    simp only [resOne] at h
    have hv := hf.re b
    generalize e.at b = lv at hv h
    generalize hav : a.tmps.getD b undef = av at hv
    cases hv <;> simp only [reduceCtorEq] at h
    · rename_i vs hc hi ho1 hh
      obtain ⟨u, hu, hru⟩ := loadVar_rel (w := w) hn (fun i hi => ⟨_, hc i hi, hh i hi⟩) h
      refine ⟨u, ?_, hru⟩
      dsimp only; rw [hav]; simp only [asAddr, Sem.run_bind, Sem.run_pure, Result.andThen_ok, hu]
    · rename_i hp
      split at h
      · rename_i m cs hg
        obtain ⟨u, hu, hru⟩ := loadVar_rel (w := w) hn (hf.now.inv.cellsAt hg hp) h
        refine ⟨u, ?_, hru⟩
        dsimp only; rw [hav]; simp only [asAddr, Sem.run_bind, Sem.run_pure, Result.andThen_ok, hu]
      · cases h

theorem res_list {c : Ctx} (hP : c.P = P) (hf : Fr P G w0 μ ι δ s w nt e a) : ∀ {rs : List ResultVar} {lrs : List LRes} {vs : List LV}, rs.mapM (compRes c) = some lrs → lrs.mapM (resOne e s) = some vs →
    ∃ xs, (rs.mapM (fun r => (match r with | .tmp t => pure (a.tmps.getD t undef) | .cell b t => (do loadVar t (← asAddr (a.tmps.getD b undef))) : Sem Value))).run P w = .ok xs w ∧ Rs μ ι w vs xs := by
  intro rs
  induction rs with
  | nil =>
    intro lrs vs h1 h2
    simp at h1; subst h1; simp at h2; subst h2
    exact ⟨[], by simp, rfl, fun i hi => absurd hi (Nat.not_lt_zero _)⟩
  | cons r rs ih =>
    intro lrs vs h1 h2
    rw [List.mapM_cons] at h1
    obtain ⟨lr, hlr, h1⟩ := bind_some h1
    obtain ⟨lrs', hlrs, h1⟩ := bind_some h1
    cases h1
    rw [List.mapM_cons] at h2
    obtain ⟨v, hv, h2⟩ := bind_some h2
    obtain ⟨vs', hvs, h2⟩ := bind_some h2
    cases h2
    obtain ⟨x, hx, hxr⟩ := res_one hP hlr hf hv
    obtain ⟨xs, hxs, hl, hr⟩ := ih hlrs hvs
    refine ⟨x :: xs, ?_, by simp [hl], fun i hi => ?_⟩
    · rw [List.mapM_cons]
      simp only [Sem.run_bind, hx, hxs, Result.andThen_ok, Sem.run_pure]
    · cases i with
      | zero => simpa using hxr
      | succ i => simpa using hr i (by simpa using hi)

theorem res_run {c : Ctx} (hP : c.P = P) {fn : Func} {lrs : List LRes} (h1 : fn.results.toList.mapM (compRes c) = some lrs) (hf : Fr P G w0 μ ι δ s w nt e a) {v : LV} (h : resVal lrs e s = some v) :
    ∃ x, (results fn a.tmps).run P w = .ok x w ∧ Rv μ ι w v x := by
  unfold resVal at h
  have hrun : ∀ xs : List Value, (fn.results.toList.mapM (fun r => (match r with | .tmp t => pure (a.tmps.getD t undef) | .cell b t => (do loadVar t (← asAddr (a.tmps.getD b undef))) : Sem Value))).run P w = .ok xs w →
      (results fn a.tmps).run P w = .ok (if h : xs.toArray.size = 1 then xs.toArray[0] else .tuple xs.toArray) w := by
    intro xs hxs
    unfold results
    rw [Array.mapM_eq_mapM_toList]
    simp only [Sem.run_bind, map_eq_pure_bind, Sem.run_pure, bind_assoc, pure_bind]
    exact congrArg (fun r => Result.andThen r (fun (a : List Value) w' => (Result.ok (if h : a.toArray.size = 1 then a.toArray[0] else Value.tuple a.toArray) w' : Result Value))) hxs
  split at h
  · rename_i u hm
    cases h
    obtain ⟨xs, hxs, hl, hr⟩ := res_list hP hf h1 hm
    match xs, hl with
    | [x], _ => exact ⟨x, by have := hrun _ hxs; simpa using this, by simpa using hr 0 (by simp)⟩
  · rename_i vs hne hm
    cases h
    obtain ⟨xs, hxs, hl, hr⟩ := res_list hP hf h1 hm
    have hn1 : xs.toArray.size ≠ 1 := by
      intro h1
      match vs, hne, hl with
      | [], _, hl => simp [hl] at h1
      | [u], hne, _ => exact hne u rfl
      | u :: u' :: r, _, hl => simp [hl] at h1
    refine ⟨.tuple xs.toArray, ?_, .tup (by simpa using hl) (fun i hi => ?_)⟩
    · have := hrun _ hxs
      rw [this, dif_neg hn1]
    · have := hr i hi
      simpa [List.getD_eq_getElem?_getD, Array.getD_eq_getD_getElem?] using this
  · cases h

/-- A mark's block is shut. -/
theorem Inv.shut {cmp : Nat → LCode → Code → Prop} (I : Inv cmp w0 μ ι δ' s w) {r : Nat} (hr : δ' r) (hδ : ∀ x, δ x → δ' x ∧ x ≠ r) :
    Inv cmp w0 μ ι δ s (w.putObj r (.deferred none)) ∧ Ext μ ι δ w μ ι δ (w.putObj r (.deferred none)) := by
  obtain ⟨h1, h2⟩ := I.defers r hr
  have hoth : ∀ k, k ≠ r → (w.putObj r (.deferred none)).heap[k]? = w.heap[k]? := fun k hk => World.putObj_heap_other hk
  have hcellr : ∀ b o v, w.cell? ⟨b, o, none⟩ = some v → b ≠ r := by
    rintro b o v hv rfl
    simp [World.cell?, h2] at hv
  have hcell : ∀ b o, ι b o → (w.putObj r (.deferred none)).cell? ⟨b, o, none⟩ = w.cell? ⟨b, o, none⟩ := fun b o hi => by
    obtain ⟨v, hv⟩ := I.io b o hi
    exact cell_of_heap (hoth b (hcellr b o v hv))
  refine ⟨⟨⟨I.below.os, I.below.tape, I.below.output, by rw [World.putObj_size]; exact I.below.size, fun k hk => by rw [hoth k (by omega)]; exact I.below.block k hk⟩,
    fun id p hp => by rw [World.putObj_size]; exact I.dom id p hp, fun b o hi => by obtain ⟨v, hv⟩ := I.io b o hi; exact ⟨v, (hcell b o hi).trans hv⟩, fun id b p hb hp => ?_, I.sep, fun x hx => ?_, I.low⟩,
    ⟨fun _ _ h => h, fun _ _ h => h, hcell, by rw [World.putObj_size]; exact Nat.le_refl _, fun _ h => h⟩⟩
  · have hrb := I.blk id b p hb hp
    have hne : p.b ≠ r := by
      rintro rfl
      cases b with
      | cells m cs => obtain ⟨⟨x, h0⟩, _⟩ := hrb; simp [World.shape?, h2] at h0
      | loop st pend env ps as bo => obtain ⟨L, hL, _⟩ := hrb; rw [h2] at hL; cases hL
      | map es => obtain ⟨arr, hL, _⟩ := hrb; rw [h2] at hL; cases hL
      | iter m n0 seen last => obtain ⟨_, pb, hL, _⟩ := hrb; rw [h2] at hL; cases hL
    exact hrb.mono (fun _ _ h => h) (fun _ _ h => h) hcell (hoth _ hne) (fun _ _ h => h)
  · obtain ⟨hx1, hx2⟩ := hδ x hx
    obtain ⟨a, b⟩ := I.defers x hx1
    exact ⟨a, by rw [hoth x hx2]; exact b⟩

/-- A frame on its way out passes its marks. -/
theorem unwind_marks {cmp : Nat → LCode → Code → Prop} {fr : Frame} {cs : List Frame} (hm : fr.mode = .returning) : ∀ (rs : List Nat) (δ' : Nat → Prop) (w : World), rs.Nodup → (∀ r ∈ rs, ¬ δ r) → (∀ r, δ' r ↔ δ r ∨ r ∈ rs) → Inv cmp w0 μ ι δ' s w →
    ∃ w', Steps P (lone { fr with defers := rs.map mark } cs w) (lone { fr with defers := [] } cs w') ∧ Inv cmp w0 μ ι δ s w' ∧ Ext μ ι δ w μ ι δ w' := by
  intro rs
  induction rs with
  | nil =>
    intro δ' w _ _ hd I
    have : δ' = δ := funext fun r => by simpa using hd r
    subst this
    exact ⟨w, .refl _ _, I, Ext.refl _ _ _ _⟩
  | cons r rs ih =>
    intro δ' w hnd hn hd I
    obtain ⟨hr, hnd'⟩ := List.nodup_cons.1 hnd
    have hδr : δ' r := (hd r).2 (.inr (by simp))
    obtain ⟨I1, x1⟩ := I.shut (δ := fun x => δ x ∨ x ∈ rs) hδr (fun x hx => ⟨(hd x).2 (hx.imp id (List.mem_cons_of_mem _)), by
      rintro rfl
      rcases hx with hx | hx
      · exact hn _ (by simp) hx
      · exact hr hx⟩)
    have hst := step_collected (P := P) (fr := { fr with defers := (r :: rs).map mark }) (cs := cs) (w := w) (d := mark r) (r := r) (ds := rs.map mark) (by simp [hm]) rfl rfl (run_takeDeferred (I.defers r hδr).2)
    obtain ⟨w', hs, I', x'⟩ := ih (fun x => δ x ∨ x ∈ rs) _ hnd' (fun x hx => hn x (List.mem_cons_of_mem _ hx)) (fun _ => Iff.rfl) I1
    refine ⟨w', .head hst hs, I', ⟨fun _ _ h => h, fun _ _ h => h, fun b o hi => (x'.cell b o hi).trans (x1.cell b o hi), Nat.le_trans x1.size x'.size, fun _ h => h⟩⟩

theorem ofValue_run (f : Fn) (first caps args : Array Value) (P : Program) (w : World) : (Deferred.ofValue (.func f first caps) args).run P w = .ok { target := .fn f caps, args := first ++ args } w := by
  simp [Deferred.ofValue]

/-- **A function called.** -/
theorem call_fn {refs : List Nat} {f : FuncId} {fn : Func} {lf : LFunc} {first caps args : List LV} {Q : LV → St → Prop} (hf : P.funcs[f]? = some fn) (hn : (fn.name == "runtime.NumGoroutine") = false)
    (hc : compFunc P G refs fn = some lf) (hlen : (first ++ args ++ caps).length ≤ lf.ntmps)
    (h : CodeOk P G false lf.ntmps lf.body (envOf (first ++ args ++ caps)) s (fun o e s' => (o = .normal ∨ o = .jmp .ret) ∧ ∃ v, resVal lf.results e s' = some v ∧ Q v s')) : CallOk P G (.fn (.func f) first caps) args s Q := by
  intro w0 μ ι δ w vf vargs c cs hN hvf hvl hva
  unfold compFunc at hc
  obtain ⟨body, hbody, hc⟩ := bind_some hc
  obtain ⟨lrs, hlrs, hc⟩ := bind_some hc
  cases hc
  cases hvf with
  | fn hl hl' hr hr' =>
    rename_i va vb
    have hinv : (invoke (.fn (.func f) vb) (va ++ vargs)).run P w = .ok (.enter f (va ++ vargs ++ vb)) w := by
      have hn' : ¬ fn.name = "runtime.NumGoroutine" := by simpa using hn
      simp [invoke, callFunc, hf, hn', hbody]
    have hsz : (va ++ vargs ++ vb).size = (first ++ args ++ caps).length := by simp [hl, hl', hvl]
    -- the frame
    let b : Frame := { (default : Frame) with fn := f, kind := .normal, roundOf := none }
    let a : Act := { tmps := (va ++ vargs ++ vb) ++ Array.replicate (fn.ntmps - (va ++ vargs ++ vb).size) undef, defers := [] }
    have hfr : Frame.enter P f (va ++ vargs ++ vb) .normal = b.atR a [.code body] := by
      simp [Frame.enter, Frame.atR, hf, hbody, a, b]
    have hat : ∀ i, i < (first ++ args ++ caps).length → Rv μ ι w ((first ++ args ++ caps).getD i .top) ((va ++ vargs ++ vb).getD i undef) := by
      intro i hi
      simp only [List.getD_eq_getElem?_getD, Array.getD_eq_getD_getElem?]
      by_cases h1 : i < first.length
      · rw [List.append_assoc, List.getElem?_append_left h1, Array.append_assoc, Array.getElem?_append_left (by omega)]
        have := hr i h1
        simpa [List.getD_eq_getElem?_getD, Array.getD_eq_getD_getElem?] using this
      · by_cases h2 : i < first.length + args.length
        · rw [List.append_assoc, List.getElem?_append_right (by omega), List.getElem?_append_left (by omega), Array.append_assoc, Array.getElem?_append_right (by omega), Array.getElem?_append_left (by omega), hl]
          have := hva (i - first.length) (by omega)
          simpa [List.getD_eq_getElem?_getD, Array.getD_eq_getD_getElem?] using this
        · have hi' : i < first.length + args.length + caps.length := by simpa [Nat.add_assoc] using hi
          rw [List.getElem?_append_right (by simp; omega), Array.getElem?_append_right (by simp; omega)]
          have := hr' (i - (first.length + args.length)) (by omega)
          simpa [List.getD_eq_getElem?_getD, Array.getD_eq_getD_getElem?, hl, hvl] using this
    have hF : Fr P G w0 μ ι δ s w fn.ntmps (envOf (first ++ args ++ caps)) a := by
      refine ⟨hN, fun t => ?_, by simp only [a, Array.size_append, Array.size_replicate] at hsz ⊢; simp only at hlen; omega⟩
      rw [envOf_at]
      by_cases ht : t < (first ++ args ++ caps).length
      · have := hat t ht
        have hx : a.tmps.getD t undef = (va ++ vargs ++ vb).getD t undef := by
          simp only [a, Array.getD_eq_getD_getElem?]
          rw [Array.getElem?_append_left (by omega)]
        rw [hx]; exact this
      · rw [List.getD_eq_getElem?_getD, List.getElem?_eq_none (by omega)]
        exact .top _
    have hD := fun w => ofValue_run (.func f) va vb vargs P w
    -- the run
    obtain ⟨o, e', s', μ', ι', δ', w1, a', ⟨ho, v, hv, q⟩, har, hF', hW⟩ := h body ⟨refs, rfl⟩ w0 μ ι δ w b a [] (c :: cs) rfl hF
    have hend : ∃ todo, Steps P (lone (b.atR a [.code body]) (c :: cs) w) (lone { b.atR a' todo with mode := .returning } (c :: cs) w1) := by
      rcases ho with rfl | rfl
      · exact ⟨[], Steps.trans har (.one (stepR_end rfl))⟩
      · obtain ⟨k', har⟩ := har
        exact ⟨_, Steps.trans har (.one (stepR_ret rfl))⟩
    obtain ⟨todo, hs1⟩ := hend
    obtain ⟨rs, hd, hnd, hnδ, hδ⟩ := hW.marks
    obtain ⟨w2, hs2, I2, x2⟩ := unwind_marks (P := P) (fr := { b.atR a' todo with mode := .returning }) (cs := c :: cs) rfl rs δ' w1 hnd hnδ hδ hF'.now.inv
    have hfr2 : { b.atR a' todo with mode := FrameMode.returning } = { ({ b.atR a' todo with mode := FrameMode.returning } : Frame) with defers := rs.map mark } := by
      have : a'.defers = rs.map mark := by rw [hd]; simp [a]
      simp [Frame.atR, this]
    rw [hfr2] at hs1
    have hx : Ext μ ι δ w μ' ι' δ w2 := ⟨hW.ext.mu, hW.ext.io, fun b o hi => (x2.cell b o (hW.ext.io b o hi)).trans (hW.ext.cell b o hi), Nat.le_trans hW.ext.size x2.size, fun _ h => h⟩
    have hF2 : Fr P G w0 μ' ι' δ s' w2 fn.ntmps e' a' := ⟨hN.ext I2 hx, fun t => (hF'.re t).mono x2.cell (fun _ _ h => h) (fun _ _ h => h), hF'.size⟩
    obtain ⟨x, hres, hrv⟩ := res_run (c := ⟨P, G, refs, fn.ntmps⟩) rfl hlrs hF2 hv
    refine ⟨v, s', μ', ι', w2, x, q, ⟨_, _, _, hD, hinv, ?_⟩, I2, hx, hW.kept, hrv⟩
    show Steps P (lone (Frame.enter P f (va ++ vargs ++ vb) .normal) (c :: cs) w) (lone (c.finish x) cs w2)
    rw [hfr]
    refine Steps.trans hs1 (Steps.trans hs2 (.one (step_leave_returned ?_)))
    exact ⟨rfl, rfl, rfl, fn, hf, hres⟩
end
end Go.Pv
