/- Drawn regions: the whole of one. -/
import Derived.Test.YtmfpcofncfhklaaPvDraw
set_option linter.unusedSimpArgs false
set_option linter.unusedVariables false
namespace Go.Pv
open Go Go.RowKit

theorem put_getD_ne (a : Act) (d : Option Nat) (x : Value) (t : Nat) (h : d ≠ some t) : (a.put d x).tmps.getD t undef = a.tmps.getD t undef := by
  cases d with
  | none => rfl
  | some d =>
    have hne : d ≠ t := fun e => h (by rw [e])
    simp [Act.put, Array.getD_eq_getD_getElem?, Array.getElem?_setIfInBounds, hne]

theorem put_getD_eq (a : Act) (d : Nat) (x : Value) (h : d < a.tmps.size) : (a.put (some d) x).tmps.getD d undef = x := by
  simp [Act.put, Array.getD_eq_getD_getElem?, h]

theorem env_put_ne (e : Env) (d : Option Nat) (v : LV) (t : Nat) (h : d ≠ some t) : (e.put d v).at t = e.at t := by
  cases d with
  | none => rfl
  | some d => rw [Env.put_some, Env.at_set, if_neg (fun e => h (by rw [e]))]

theorem listed_set (l : Array Bool) (i j : Nat) (hi : i < l.size) : (l.setIfInBounds i true).getD j false = if j = i then true else l.getD j false := by
  by_cases h : j = i
  · subst h; simp [Array.getD_eq_getD_getElem?, hi]
  · have h' : i ≠ j := Ne.symm h
    simp [Array.getD_eq_getD_getElem?, Array.getElem?_setIfInBounds, h, h']

section
variable {P : Program} {G : Globs} {refs : List Nat} {nt : Nat} {ops : Array Oper} {base : List DOp} {w0 : Bs} {δ : Nat → Prop} {μs μ : Mu} {ιs ι : Io} {ss s : St} {ws w : World} {e : Env} {a : Act} {b : Frame} {k : List Item} {cs : List Frame}

theorem mem_reads {x : DOp} {t : Nat} (h : .tmp t ∈ x.2.1.op.operands.toList) : t ∈ readsOf ops x := by
  unfold readsOf Oper.looksAt
  refine List.mem_append_left _ (List.mem_append_left _ (List.mem_append_left _ ?_))
  exact List.mem_filterMap.2 ⟨.tmp t, h, rfl⟩

theorem sim_run (K : Known ⟨P, G, refs, nt⟩ ops base) {KK : Env → St → Prop} : ∀ (m t : Nat) (pend pre rest : List DOp) (listed : Array Bool) (pid : Nat → Option Nat) (μ : Mu) (ι : Io) (e : Env) (s : St) (w : World) (a : Act),
    Sim P G nt ops base w0 δ μs ιs ss ws pend pre rest listed pid μ ι e s w a → m = pend.length + rest.length → Chain P G (drawn (ancs ops.toList []) pre rest) e s KK →
    (rest = [] ∨ ∃ x r, rest = x :: r ∧ isFloat x.2.2.op = false) →
    ∃ e' s' μ' ι' w' a', KK e' s' ∧ Steps P (lone (b.atR a (.inRegion ops (Region.linearise.go .any ops m t listed []) :: k)) cs w) (lone (b.atR a' (.inRegion ops [] :: k)) cs w') ∧
      Fr P G w0 μ' ι' δ s' w' nt e' a' ∧ Ext μs ιs δ ws μ' ι' δ w' ∧ Kept μs ss μ' s' ∧ a'.defers = a.defers := by
  intro m
  induction m with
  | zero =>
    intro t pend pre rest listed pid μ ι e s w a S hm hch hrest
    have hp : pend = [] := List.length_eq_zero_iff.1 (by omega)
    have hr : rest = [] := List.length_eq_zero_iff.1 (by omega)
    subst hp; subst hr
    exact ⟨e, s, μ, ι, w, a, hch, by simp only [Region.linearise.go, List.reverse_nil]; exact .refl _ _, ⟨S.now, fun t => S.re t (fun x hx => absurd hx (List.not_mem_nil)), S.size⟩, S.ext, S.kept, rfl⟩
  | succ m ih =>
    intro t pend pre rest listed pid μ ι e s w a S hm hch hrest
    have hnd : base.Nodup := List.Pairwise.of_map (·.1) (fun a b h e => h (by rw [e])) K.nd
    have hsubb : ∀ y ∈ pend, y ∈ base := fun y hy => by rw [S.base]; exact List.mem_append_left _ (S.sub y hy)
    have hrestb : ∀ y ∈ rest, y ∈ base := fun y hy => by rw [S.base]; exact List.mem_append_right _ hy
    -- something is ready
    have hne : Region.ready .any ops listed ≠ [] := by
      have hun : ∃ y ∈ base, listed.getD y.1 false = false := by
        have : ∃ y, y ∈ pend ∨ y ∈ rest := by
          cases pend with
          | cons y p => exact ⟨y, .inl (by simp)⟩
          | nil =>
            cases rest with
            | cons y r => exact ⟨y, .inr (by simp)⟩
            | nil => simp at hm
        obtain ⟨y, hy⟩ := this
        have hyb : y ∈ base := hy.elim (hsubb y) (hrestb y)
        refine ⟨y, hyb, ?_⟩
        cases hl : listed.getD y.1 false with
        | false => rfl
        | true =>
          obtain ⟨h1, h2⟩ := (S.lst y hyb).1 hl
          exact absurd hy (fun h => h.elim h1 h2)
      obtain ⟨y, hyb, hyl⟩ := hun
      cases hfd : base.find? (fun x => !listed.getD x.1 false) with
      | none =>
        have := List.find?_eq_none.1 hfd y hyb
        simp [hyl] at this
      | some x =>
        obtain ⟨h1, as, bs, h2, h3⟩ := List.find?_eq_some_iff_append.1 hfd
        have hxb : x ∈ base := by rw [h2]; simp
        obtain ⟨hox, _⟩ := K.at_ x hxb
        have hlt : x.1 < ops.size := (Array.getElem?_eq_some_iff.1 hox).1
        intro hnil
        have : x.1 ∈ Region.ready .any ops listed := by
          unfold Region.ready
          refine List.mem_filter.2 ⟨by simpa using hlt, ?_⟩
          have hl' : listed.getD x.1 true = false := by
            have hsz : x.1 < listed.size := by rw [S.lsz]; exact hlt
            simp only [Array.getD_eq_getD_getElem?, Array.getElem?_eq_getElem hsz, Option.getD_some, Bool.not_eq_true', Bool.not_eq_eq_eq_not, Bool.not_true] at h1 ⊢
            exact h1
          rw [hl', hox]
          simp only [Bool.not_false, Bool.true_and, Option.map_some, Option.getD_some, Array.all_eq_true']
          intro ed hed
          cases hb : Region.binds .any ed with
          | false => simp
          | true =>
            obtain ⟨z, hz, hze⟩ := K.deps as x bs h2 ed.on (List.mem_filterMap.2 ⟨ed, by simpa using hed, by simp [hb]⟩)
            have := h3 z hz
            rw [hze] at this
            simpa using this
        rw [hnil] at this
        exact absurd this (List.not_mem_nil)
    rw [Region.linearise.go]
    change ∃ e' s' μ' ι' w' a', KK e' s' ∧ Steps P (lone (b.atR a (.inRegion ops (match (Region.ready .any ops listed)[t % (Region.ready .any ops listed).length]? with
      | some i => Region.linearise.go .any ops m (t / (Region.ready .any ops listed).length) (listed.setIfInBounds i true) [i]
      | none => [].reverse) :: k)) cs w) _ ∧ _
    have hlen : 0 < (Region.ready .any ops listed).length := List.length_pos_iff.2 hne
    cases hi : (Region.ready .any ops listed)[t % (Region.ready .any ops listed).length]? with
    | none =>
      have := Nat.mod_lt t hlen
      rw [List.getElem?_eq_none_iff] at hi
      omega
    | some i =>
      dsimp only
      rw [linearise_go_acc, List.reverse_singleton, List.singleton_append]
      generalize t / (Region.ready .any ops listed).length = t'
      have hir : i ∈ Region.ready .any ops listed := List.mem_of_getElem? hi
      unfold Region.ready at hir
      obtain ⟨hi1, hi2⟩ := List.mem_filter.1 hir
      have hilt : i < ops.size := by simpa using hi1
      have hils : i < listed.size := by rw [S.lsz]; exact hilt
      simp only [Bool.and_eq_true] at hi2
      obtain ⟨hi2, hi3⟩ := hi2
      have hil : listed.getD i false = false := by
        simp only [Array.getD_eq_getD_getElem?, Array.getElem?_eq_getElem hils, Option.getD_some, Bool.not_eq_true'] at hi2 ⊢
        exact hi2
      obtain ⟨x, hxb, rfl⟩ := K.all i hilt
      obtain ⟨hox, hcx⟩ := K.at_ x hxb
      obtain ⟨hcop, hdst, hdlt, hgd⟩ := compOper_inv hcx
      have hdeps : ∀ d ∈ depsOf x.2.1, listed.getD d false = true := by
        intro d hd
        obtain ⟨ed, hed, hde⟩ := List.mem_filterMap.1 hd
        rw [hox] at hi3
        simp only [Option.map_some, Option.getD_some, Array.all_eq_true'] at hi3
        have := hi3 ed (by simpa using hed)
        cases hb : Region.binds .any ed with
        | false => rw [hb] at hde; simp at hde
        | true => rw [hb] at hde this; simp at hde this; rw [← hde]; simpa using this
      have hanc : ∀ j, ((ancs ops.toList []).getD x.1 0).testBit j = true → listed.getD j false = true := anc_listed (L := fun j => listed.getD j false = true) S.cls x.1 x.2.1 hox hdeps
      have hnp : ∀ y ∈ pend, ((ancs ops.toList []).getD x.1 0).testBit y.1 = false := fun y hy => by
        cases hb : ((ancs ops.toList []).getD x.1 0).testBit y.1 with
        | false => rfl
        | true => exact absurd hy ((S.lst y (hsubb y hy)).1 (hanc y.1 hb)).1
      have hre : ∀ t ∈ readsOf ops x, Rv μ ι w (e.at t) (a.tmps.getD t undef) := fun t ht => S.re t fun y hy hd => by
        have := (K.reads x hxb y (hsubb y hy) t hd ht).2
        rw [hnp y hy] at this
        cases this
      have hρ : Ho μ ι w ⟨P, G, refs, nt⟩ e a x.2.1 := Re.ho rfl rfl S.now fun t ht => hre t (mem_reads ht)
      have hlisted : ∀ j, (listed.setIfInBounds x.1 true).getD j false = if j = x.1 then true else listed.getD j false := fun j => listed_set listed x.1 j hils
      have hcls' : ∀ k, (listed.setIfInBounds x.1 true).getD k false = true → ∀ o, ops[k]? = some o → ∀ d ∈ depsOf o, (listed.setIfInBounds x.1 true).getD d false = true := by
        intro k hk o ho d hd
        rw [hlisted] at hk ⊢
        split
        · rfl
        · split at hk
          · rename_i hkx; subst hkx; rw [hox] at ho; cases ho; exact hdeps d hd
          · exact S.cls k hk o ho d hd
      by_cases hxp : x ∈ pend
      · -- done here already
        obtain ⟨p1, p2, rfl⟩ := List.append_of_mem hxp
        have hnd' := S.nd
        have hxn : x ∉ p1 ++ p2 := by
          obtain ⟨h1, h2, h3⟩ := List.nodup_append.1 hnd'
          intro h
          rcases List.mem_append.1 h with h | h
          · exact h3 x h x (by simp) rfl
          · exact (List.nodup_cons.1 h2).1 h
        have hsub' : ∀ y ∈ p1 ++ p2, y ∈ p1 ++ x :: p2 := fun y hy => by
          rcases List.mem_append.1 hy with h | h
          · exact List.mem_append_left _ h
          · exact List.mem_append_right _ (List.mem_cons_of_mem _ h)
        have hxrest : x ∉ rest := fun h => by
          rw [S.base] at hnd
          exact (List.nodup_append.1 hnd).2.2 x (S.sub x hxp) x h rfl
        have mk : ∀ (μ' : Mu) (ι' : Io) (w' : World) (val : Value) (v : LV), Inv (cmpR P G) w0 μ' ι' δ s w' → Ext μ ι δ w μ' ι' δ w' → DstIs e x.2.2 v → Rv μ' ι' w' v val →
            (∀ y ∈ p1 ++ p2, ∀ id, pid y.1 = some id → μ id = none → μ' id = none) → Kept μs ss μ' s →
            Sim P G nt ops base w0 δ μs ιs ss ws (p1 ++ p2) pre rest (listed.setIfInBounds x.1 true) pid μ' ι' e s w' (a.put x.2.1.dst val) := by
          intro μ' ι' w' val v hI hx hdi hrv hun hk
          refine ⟨S.now.ext hI hx, by rw [Act.put_size]; exact S.size, fun t ht => ?_, fun y hy => ?_, S.pinj, S.plt, fun y hy => S.flt y (hsub' y hy), by simp [S.lsz], fun y hy => ?_, hcls', S.base, fun y hy => S.sub y (hsub' y hy), ?_, S.ext.trans hx, hk⟩
          · by_cases hd : x.2.1.dst = some t
            · rw [hd, put_getD_eq _ _ _ (by rw [S.size]; exact hdlt t hd), hdi t (by rw [hdst, hd])]
              exact hrv
            · rw [put_getD_ne _ _ _ _ hd]
              refine (S.re t fun y hy => ?_).ext hx
              rcases List.mem_append.1 hy with h | h
              · exact ht y (List.mem_append_left _ h)
              · rcases List.mem_cons.1 h with rfl | h
                · rw [hdst]; exact hd
                · exact ht y (List.mem_append_right _ h)
          · exact (S.pok y (hsub' y hy)).congr (ops := ops) (fun _ _ => rfl) (fun _ _ => rfl) (fun _ h => h) (fun _ _ _ => rfl) (hun y hy) (fun _ _ v _ h => h)
          · rw [hlisted]
            by_cases hyx : y = x
            · subst hyx; simp [hxn, hxrest]
            · have : y.1 ≠ x.1 := fun h => hyx (key_inj K hy hxb h)
              rw [if_neg this, S.lst y hy]
              simp [hyx]
          · obtain ⟨h1, h2, h3⟩ := List.nodup_append.1 hnd'
            exact List.nodup_append.2 ⟨h1, (List.nodup_cons.1 h2).2, fun y hy z hz => h3 y hy z (List.mem_cons_of_mem _ hz)⟩
        have hm' : m = (p1 ++ p2).length + rest.length := by simp at hm ⊢; omega
        have hgw : ∀ {tt : Bool}, wantedG x.2.2.guard e = some tt → Region.wanted x.2.1 (yielded ops a.tmps) = tt := fun h => wanted_rel hcx h fun d want hg => hre d (by simp [readsOf, hg])
        have fin : ∀ (μ' : Mu) (ι' : Io) (w' : World) (val : Value) (v : LV), Inv (cmpR P G) w0 μ' ι' δ s w' → Ext μ ι δ w μ' ι' δ w' → DstIs e x.2.2 v → Rv μ' ι' w' v val →
            (∀ y ∈ p1 ++ p2, ∀ id, pid y.1 = some id → μ id = none → μ' id = none) → Kept μs ss μ' s →
            step P (lone (b.atR a (.inRegion ops (x.1 :: Region.linearise.go .any ops m t' (listed.setIfInBounds x.1 true) []) :: k)) cs w) = .next (lone (b.atR (a.put x.2.1.dst val) (.inRegion ops (Region.linearise.go .any ops m t' (listed.setIfInBounds x.1 true) []) :: k)) cs w') →
            ∃ e' s' μ' ι' w' a', KK e' s' ∧ Steps P (lone (b.atR a (.inRegion ops (x.1 :: Region.linearise.go .any ops m t' (listed.setIfInBounds x.1 true) []) :: k)) cs w) (lone (b.atR a' (.inRegion ops [] :: k)) cs w') ∧
              Fr P G w0 μ' ι' δ s' w' nt e' a' ∧ Ext μs ιs δ ws μ' ι' δ w' ∧ Kept μs ss μ' s' ∧ a'.defers = a.defers := by
          intro μ' ι' w' val v hI hx hdi hrv hun hk hst
          obtain ⟨e', s', μ2, ι2, w2, a2, q, hs, r1, r2, r3, r4⟩ := ih t' (p1 ++ p2) pre rest (listed.setIfInBounds x.1 true) pid μ' ι' e s w' _ (mk μ' ι' w' val v hI hx hdi hrv hun hk) hm' hch hrest
          exact ⟨e', s', μ2, ι2, w2, a2, q, .head hst hs, r1, r2, r3, r4.trans (Act.put_defers' _ _ _)⟩
        rcases S.pok x hxp with ⟨hw, hdi⟩ | ⟨hw, hnr, hl, v, hdi, hrun⟩ | ⟨hw, hrow, s0, cs0, v, hpid, hrun, hdi, hmn, hsg⟩
        · refine fin μ ι w undef (.tup []) S.now.inv (Ext.refl _ _ _ _) hdi rv_undef (fun _ _ _ _ h => h) S.kept ?_
          have := stepR_op_skip (P := P) (b := b) (a := a) (k := k) (cs := cs) (w := w) (ops := ops) (i := x.1) (rest := Region.linearise.go .any ops m t' (listed.setIfInBounds x.1 true) []) (by rw [hox]; simpa using hgw hw)
          rw [hox] at this
          exact this
        · obtain ⟨val, w', μ', ι', hex, hI, hx, hrv, hk⟩ := op_sound hcop hρ S.now.inv hrun
          exact fin μ' ι' w' val v hI hx hdi hrv (fun y hy id hid hm => hk.free id (S.plt _ _ hid).1 hm) (S.kept.trans hk) (stepR_value hox (hgw hw) (ne_defer hcop) hex)
        · obtain ⟨cs', arr, T, val, hs', hrw, h1, h2, h3, h4⟩ := row_sound (K.makes x hxb hrow) hrow hcop hρ hrun
          have hcs : cs0 = cs' := by
            have := congrArg (fun s => St.get s s0.n) hs'
            simpa using this
          subst hcs
          obtain ⟨I', x1, hrb, hlt, hnb⟩ := S.now.inv.rbNew T arr cs0 h1 h3 h2
          obtain ⟨I2, x2⟩ := I'.place s0.n (S.plt _ _ hpid).1 hmn ⟨w.heap.size, 0, arr.size⟩ _ hsg S.now.inv.hB hlt hrb (fun _ j b' p' _ _ hm e => hnb j p' hm e)
          refine fin _ ι _ val v I2 (x1.trans x2) hdi (h4 _ _ _ (by simp [Mu.upd])) (fun y hy id hid hm => Mu.upd_none (fun he => ?_) hm) ⟨S.kept.n, S.kept.get, fun id hid hm => Mu.upd_none (fun he => ?_) (S.kept.free id hid hm)⟩
            (stepR_value hox (hgw hw) (ne_defer hcop) (.inl hrw))
          · subst he
            have := S.pinj _ _ _ hid hpid
            exact hxn (key_inj K (hsubb y (hsub' y hy)) hxb this ▸ hy)
          · have := (S.plt _ _ hpid).2; omega
      · -- its turn
        have hxr : x ∈ rest := by
          by_cases h : x ∈ rest
          · exact h
          · have := (S.lst x hxb).2 ⟨hxp, h⟩
            rw [hil] at this
            cases this
        rcases hrest with rfl | ⟨y, r, rfl, hyf⟩
        · exact absurd hxr (List.not_mem_nil)
        · have hxy : x = y := by
            rcases List.mem_cons.1 hxr with h | h
            · exact h
            · have hb := hanc y.1 (K.eff pre y r S.base hyf x h)
              exact absurd (by simp) ((S.lst y (hrestb y (by simp))).1 hb).2
          subst hxy
          have hbn : (pre ++ x :: r).Nodup := by rw [← S.base]; exact hnd
          have hxpre : x ∉ pre := fun h => (List.nodup_append.1 hbn).2.2 x h x (by simp) rfl
          have hlater := K.later pre x r S.base
          have hgw : ∀ {tt : Bool}, wantedG x.2.2.guard e = some tt → Region.wanted x.2.1 (yielded ops a.tmps) = tt := fun h => wanted_rel hcx h fun d want hg => hre d (by simp [readsOf, hg])
          have hlb : (looksL x.2.2.op || isBoxIm x.2.2.op) = false ∧ isRow x.2.2.op = false := by
            unfold isFloat at hyf
            rwa [Bool.or_eq_false_iff] at hyf
          have mk : ∀ (μ' : Mu) (ι' : Io) (s' : St) (w' : World) (val : Value) (v : LV), Inv (cmpR P G) w0 μ' ι' δ s' w' → Ext μ ι δ w μ' ι' δ w' → Rv μ' ι' w' v val → Kept μ s μ' s' → (s' = s ∨ Chks (chkOf (ancs ops.toList []) pre x) (e.put x.2.2.dst v) s') →
              Sim P G nt ops base w0 δ μs ιs ss ws pend (pre ++ [x]) r (listed.setIfInBounds x.1 true) pid μ' ι' (e.put x.2.2.dst v) s' w' (a.put x.2.1.dst val) := by
            intro μ' ι' s' w' val v hI hx hrv hk hck
            have hpd : ∀ y ∈ pend, ∀ d, y.2.2.dst = some d → x.2.2.dst ≠ some d := fun y hy d hd hd' =>
              hxpre ((key_inj K (hsubb y hy) hxb (K.dst y (hsubb y hy) x hxb d hd hd')) ▸ S.sub y hy)
            refine ⟨S.now.ext hI hx, by rw [Act.put_size]; exact S.size, fun t ht => ?_, fun y hy => ?_, S.pinj, fun i id h => ?_, S.flt, by simp [S.lsz], fun y hy => ?_, hcls', by rw [S.base]; simp, fun y hy => List.mem_append_left _ (S.sub y hy), S.nd, S.ext.trans hx, S.kept.trans hk⟩
            · rw [← hdst]
              by_cases hd : x.2.2.dst = some t
              · rw [hd, put_getD_eq _ _ _ (by rw [S.size]; exact hdlt t (by rw [← hdst]; exact hd)), Env.put_some, Env.at_set, if_pos rfl]
                exact hrv
              · rw [put_getD_ne _ _ _ _ hd, env_put_ne _ _ _ _ hd]
                exact (S.re t ht).ext hx
            · refine (S.pok y hy).congr (ops := ops) (fun t ht => env_put_ne _ _ _ _ fun hd => hlater y (S.sub y hy) t hd ht) (fun d hd => env_put_ne _ _ _ _ (hpd y hy d hd)) (fun _ h => h) (fun id h hm => hk.get id (S.plt _ _ h).1 hm) (fun id h hm => hk.free id (S.plt _ _ h).1 hm) (fun hl hwy v' hv' hr => ?_)
              rcases hck with rfl | hck
              · rw [← hr]
                exact run_congr _ fun t ht => env_put_ne _ _ _ _ fun hd => hlater y (S.sub y hy) t hd (by simp [readsOf, ht])
              · exact chk_load hck hlb.1 (S.sub y hy) hl (K.ldst y (hsubb y hy) hl) (.inr (hnp y hy)) hwy hv'
            · have := S.plt i id h; have := hk.n; omega
            · rw [hlisted]
              by_cases hyx : y = x
              · subst hyx
                have : y ∉ r := (List.nodup_cons.1 (List.nodup_append.1 hbn).2.1).1
                simp [hxp, this]
              · have : y.1 ≠ x.1 := fun h => hyx (key_inj K hy hxb h)
                rw [if_neg this, S.lst y hy]
                simp [hyx]
          have fin : ∀ (μ' : Mu) (ι' : Io) (s' : St) (w' : World) (val : Value) (v : LV), Inv (cmpR P G) w0 μ' ι' δ s' w' → Ext μ ι δ w μ' ι' δ w' → Rv μ' ι' w' v val → Kept μ s μ' s' → (s' = s ∨ Chks (chkOf (ancs ops.toList []) pre x) (e.put x.2.2.dst v) s') →
              Chain P G (drawn (ancs ops.toList []) (pre ++ [x]) r) (e.put x.2.2.dst v) s' KK →
              Steps P (lone (b.atR a (.inRegion ops (x.1 :: Region.linearise.go .any ops m t' (listed.setIfInBounds x.1 true) []) :: k)) cs w) (lone (b.atR (a.put x.2.1.dst val) (.inRegion ops (Region.linearise.go .any ops m t' (listed.setIfInBounds x.1 true) []) :: k)) cs w') →
              ∃ e' s' μ' ι' w' a', KK e' s' ∧ Steps P (lone (b.atR a (.inRegion ops (x.1 :: Region.linearise.go .any ops m t' (listed.setIfInBounds x.1 true) []) :: k)) cs w) (lone (b.atR a' (.inRegion ops [] :: k)) cs w') ∧
                Fr P G w0 μ' ι' δ s' w' nt e' a' ∧ Ext μs ιs δ ws μ' ι' δ w' ∧ Kept μs ss μ' s' ∧ a'.defers = a.defers := by
            intro μ' ι' s' w' val v hI hx hrv hk hck hchn hst
            obtain ⟨pend', pre', rest', pid', e', s'', S', hch', hrest', hlen'⟩ := Sim.greedy K r pend (pre ++ [x]) (listed.setIfInBounds x.1 true) pid _ s' (mk μ' ι' s' w' val v hI hx hrv hk hck) hchn
            obtain ⟨e2, s2, μ2, ι2, w2, a2, q, hs, r1, r2, r3, r4⟩ := ih t' pend' pre' rest' (listed.setIfInBounds x.1 true) pid' μ' ι' e' s'' w' _ S' (by rw [hlen']; simp at hm; omega) hch' hrest'
            exact ⟨e2, s2, μ2, ι2, w2, a2, q, Steps.trans hst hs, r1, r2, r3, r4.trans (Act.put_defers' _ _ _)⟩
          simp only [drawn, Chain] at hch
          split at hch
          · exact hch.elim
          · rename_i hw
            refine fin μ ι s w undef (.tup []) S.now.inv (Ext.refl _ _ _ _) rv_undef (Kept.refl _ _) (.inl rfl) hch (.one ?_)
            have := stepR_op_skip (P := P) (b := b) (a := a) (k := k) (cs := cs) (w := w) (ops := ops) (i := x.1) (rest := Region.linearise.go .any ops m t' (listed.setIfInBounds x.1 true) []) (by rw [hox]; simpa using hgw hw)
            rw [hox] at this
            exact this
          · rename_i hw
            have hcx' : compOper ⟨P, G, refs, nt⟩ ops x.2.1 = some x.2.2 := hcx
            have hgo : OpGo P G true x.2.2.op e s (fun v s' => Chks (chkOf (ancs ops.toList []) pre x) (e.put x.2.2.dst v) s' ∧ Chain P G (drawn (ancs ops.toList []) (pre ++ [x]) r) (e.put x.2.2.dst v) s' KK) := hch
            have hgo' : OpGo P G x.2.2.fl x.2.2.op e s (fun v s' => Chks (chkOf (ancs ops.toList []) pre x) (e.put x.2.2.dst v) s' ∧ Chain P G (drawn (ancs ops.toList []) (pre ++ [x]) r) (e.put x.2.2.dst v) s' KK) := by
              cases hcl : isCallL x.2.2.op with
              | true =>
                rcases isCallL_inv hcl with ⟨f, as, hcc⟩ | ⟨f, hcc⟩ <;> rw [hcc] at hgo ⊢ <;> exact hgo
              | false =>
                rw [opGo_eq hcl] at hgo ⊢
                cases hr : x.2.2.op.run e s with
                | none => rw [hr] at hgo; exact hgo.elim
                | some p =>
                  rw [hr] at hgo
                  refine ⟨?_, hgo.2⟩
                  cases hop : x.2.2.op <;> try rfl
                  rename_i im y
                  have := hlb.1
                  cases im
                  · rfl
                  · rw [hop] at this; cases this
            obtain ⟨v, s1, μ1, ι1, w1, val, ⟨hck, hchn⟩, hst, hI, hx, hk, hrv⟩ := op_step (b := b) (k := k) (cs := cs) (rest := Region.linearise.go .any ops m t' (listed.setIfInBounds x.1 true) []) rfl hox hcx' S.now hρ (hgw hw) hgo'
            exact fin μ1 ι1 s1 w1 val v hI hx hrv hk (.inr hck) hchn hst

theorem comp_region {c : Ctx} {x : Code} {l : List LOper} (h : compCode c x = .region l) : ∃ id ops draw, x = .region id ops draw ∧ compRegion c ops draw = some l := by
  cases x <;> simp only [compCode, reduceCtorEq] at h
  · split at h
    · rename_i hc; cases h; exact ⟨_, _, _, rfl, hc⟩
    · cases h
  · split at h <;> cases h
  · split at h <;> (try cases h); split at h <;> cases h

/-- **A region.** -/
theorem ok_region (hmx : P.follows .mixedOrders = true) {rd : Bool} {l : List LOper} {Q : Out → Env → St → Prop} (h : Chain P G l e s (Q .normal)) : CodeOk P G rd nt (.region l) e s Q := by
  rintro c ⟨refs, hc⟩ w0 μ ι δ w b a k cs hb hf
  obtain ⟨id, ops, draw, rfl, hr⟩ := comp_region hc
  cases draw with
  | false =>
    change ops.toList.mapM (compOper ⟨P, G, refs, nt⟩ ops) = some l at hr
    obtain ⟨hl, hg⟩ := mapM_get hr
    obtain ⟨e', s', μ', ι', w', a', q, hs, hf', hx, hk, hd⟩ := chain_text (b := b) (k := k) (cs := cs) (refs := refs) ops l 0 e s μ ι w a (fun j hj => by
      have hj' : j < ops.toList.length := by rw [← hl]; exact hj
      obtain ⟨lo, h1, h2⟩ := hg j hj'
      refine ⟨ops.toList[j], lo, ?_, h1, h2⟩
      have hj2 : j < ops.size := by simpa using hj'
      simp [hj2]) hf h
    refine ⟨.normal, e', s', μ', ι', δ, w', a', q, ?_, hf', by rw [hd]; exact Went.one hx hk⟩
    have hr : (List.range l.length).map (0 + ·) = List.range ops.size := by
      have : l.length = ops.size := by rw [hl]; simp
      rw [this]
      simp
    rw [hr] at hs
    exact Steps.head stepR_region (Steps.trans hs (.one stepR_region_end))
  | true =>
    change compDraw ⟨P, G, refs, nt⟩ ops = some l at hr
    obtain ⟨base, K, rfl⟩ := compDraw_known hr
    have hsame := Same.drew w
    have S0 : Sim P G nt ops base w0 δ μ ι s w [] [] base (Array.replicate ops.size false) (fun _ => none) μ ι e s { w with drawn := w.drawn + 1 } a := by
      refine ⟨hf.now.ext (hf.now.inv.same hsame) (hf.now.inv.ext_same hsame), hf.size, fun t _ => (hf.re t).ext (hf.now.inv.ext_same hsame), fun x hx => absurd hx (List.not_mem_nil), fun i j id h => by (cases h), fun i id h => by (cases h), fun x hx => absurd hx (List.not_mem_nil), by simp, fun x hx => ?_, fun k hk => ?_, rfl, fun x hx => absurd hx (List.not_mem_nil), List.nodup_nil, hf.now.inv.ext_same hsame, Kept.refl _ _⟩
      · have : (Array.replicate ops.size false).getD x.1 false = false := by simp only [Array.getD_eq_getD_getElem?, Array.getElem?_replicate]; split <;> rfl
        rw [this]
        simp [hx]
      · have : (Array.replicate ops.size false).getD k false = false := by simp only [Array.getD_eq_getD_getElem?, Array.getElem?_replicate]; split <;> rfl
        rw [this] at hk
        cases hk
    obtain ⟨pend', pre', rest', pid', e1, s1, S1, hch1, hrest1, hlen1⟩ := Sim.greedy K base [] [] _ _ e s S0 h
    obtain ⟨e', s', μ', ι', w', a', q, hs, hf', hx, hk, hd⟩ := sim_run (b := b) (k := k) (cs := cs) K ops.size (w.tape w.drawn (.order b.fn id)) pend' pre' rest' _ pid' μ ι e1 s1 _ a S1 (by rw [hlen1, K.len]; simp) hch1 hrest1
    refine ⟨.normal, e', s', μ', ι', δ, w', a', q, ?_, hf', by rw [hd]; exact Went.one hx hk⟩
    refine Steps.head stepR_region_draw ?_
    have : Region.schedule (P.follows .mixedOrders) ops (w.tape w.drawn (.order b.fn id)) = Region.linearise.go .any ops ops.size (w.tape w.drawn (.order b.fn id)) (Array.replicate ops.size false) [] := by
      simp only [Region.schedule, hmx, Bool.true_or, if_true, Region.linearise]
    rw [this]
    exact Steps.trans hs (.one stepR_region_end)

end
end Go.Pv
