/- The plain code run: for calls on known values. -/
import Derived.Test.YtmfpcofncfhklaaPvPure
set_option linter.unusedSimpArgs false
set_option linter.unusedVariables false
namespace Go.Pv
open Go Go.RowKit

/-- Equal, as far as can be seen. -/
def LV.beq : LV → LV → Bool
  | .bool a, .bool b => a == b
  | .int k a, .int k' b => k == k' && a == b
  | .str a, .str b => decide (a.data.toList = b.data.toList)
  | .agg a, .agg b => beqAll a b
  | .tup a, .tup b => beqAll a b
  | .nilp, .nilp | .nils, .nils | .zs, .zs | .nilf, .nilf | .nili, .nili | .nilm, .nilm => true
  | .pimm a i, .pimm b j => i == j && beqAll a b
  | .simm a i, .simm b j => i == j && beqAll a b
  | .pref i o, .pref j p => i == j && o == p
  | .sref a b c d, .sref a' b' c' d' => a == a' && b == b' && c == c' && d == d'
  | .yld i, .yld j => i == j
  | .mref i, .mref j => i == j
  | .ifc t a, .ifc u b => t == u && a.beq b
  | _, _ => false
where beqAll : List LV → List LV → Bool
  | [], [] => true
  | a :: l, b :: r => a.beq b && beqAll l r
  | _, _ => false

mutual
theorem LV.beq_eq : ∀ (a b : LV), a.beq b = true → a = b := by
  intro a b h
  cases a <;> cases b <;> simp only [LV.beq, Bool.and_eq_true, beq_iff_eq, reduceCtorEq, decide_eq_true_eq, Bool.false_eq_true] at h
  case bool.bool => rw [h]
  case int.int => rw [h.1, h.2]
  case str.str x y =>
    congr 1
    cases x; cases y
    congr 1
    exact Array.ext' h
  case agg.agg => rw [LV.beqAll_eq _ _ h]
  case tup.tup => rw [LV.beqAll_eq _ _ h]
  case nilp.nilp => rfl
  case pimm.pimm => rw [h.1, LV.beqAll_eq _ _ h.2]
  case pref.pref => rw [h.1, h.2]
  case nils.nils => rfl
  case zs.zs => rfl
  case simm.simm => rw [h.1, LV.beqAll_eq _ _ h.2]
  case sref.sref => rw [h.1.1.1, h.1.1.2, h.1.2, h.2]
  case nilf.nilf => rfl
  case yld.yld => rw [h]
  case ifc.ifc => rw [h.1, LV.beq_eq _ _ h.2]
  case nili.nili => rfl
  case nilm.nilm => rfl
  case mref.mref => rw [h]
theorem LV.beqAll_eq : ∀ (a b : List LV), LV.beq.beqAll a b = true → a = b := by
  intro a b h
  cases a <;> cases b <;> simp only [LV.beq.beqAll, Bool.and_eq_true, Bool.false_eq_true] at h
  · rfl
  · rw [LV.beq_eq _ _ h.1, LV.beqAll_eq _ _ h.2]
end

def chksB : List (Nat × Option (Nat × Bool) × LOp) → Env → St → Bool
  | [], _, _ => true
  | (t, g, o) :: r, e, s =>
    (match wantedG g e with
     | some false => true
     | some true => looksL o && (match o.run e s with | some (v, _) => v.beq (e.at t) | none => false)
     | none => false) && chksB r e s

theorem chksB_ok : ∀ {l : List (Nat × Option (Nat × Bool) × LOp)} {e : Env} {s : St}, chksB l e s = true → Chks l e s := by
  intro l
  induction l with
  | nil => intro e s _; trivial
  | cons p l ih =>
    obtain ⟨t, g, o⟩ := p
    intro e s h
    simp only [chksB, Bool.and_eq_true] at h
    refine ⟨?_, ih h.2⟩
    have h1 := h.1
    split at h1
    · rename_i hw; exact .inl hw
    · rename_i hw
      simp only [Bool.and_eq_true] at h1
      obtain ⟨hl, h1⟩ := h1
      refine .inr ⟨hw, ?_⟩
      split at h1
      · rename_i v s' hr
        rw [hr, LV.beq_eq _ _ h1, look_same hl hr]
      · cases h1
    · cases h1

inductive Tk where
  | code (rd : Bool) (c : LCode) (e : Env) (s : St)
  | ops (l : List LOper) (e : Env) (s : St)
  | call (f : LV) (args : List LV) (s : St)

inductive Re' where
  | code (o : Out) (e : Env) (s : St)
  | ops (e : Env) (s : St)
  | call (v : LV) (s : St)

/-- Known answers of calls on closed values. -/
abbrev PTab := List (Nat × List LV × LV)

def PTab.look : PTab → Nat → List LV → Option LV
  | [], _, _ => none
  | (k', as', r) :: J, k, as => if k' == k && LV.beq.beqAll as' as then some r else PTab.look J k as

def PTab.has : PTab → Nat → Bool
  | [], _ => false
  | (k', _, _) :: J, k => k' == k || PTab.has J k

/-- A known answer, the arguments taken by value. -/
def PTab.lookF (J : PTab) (k : Nat) (as : List LV) (s : St) : Option (LV × St) :=
  if J.has k then
    match frz.frzAll (frz frzDepth) as s with
    | some (as', s') => (match J.look k as' with | some r => some (r, s') | none => none)
    | none => none
  else none

def thenGo (f : Re' → Option (List Re')) : List Re' → Option (List Re')
  | [] => some []
  | [r] => f r
  | r :: l =>
    match f r with
    | some a => (match thenGo f l with | some b => some (a ++ b) | none => none)
    | none => none

def thenAll (x : Option (List Re')) (f : Re' → Option (List Re')) : Option (List Re') :=
  match x with
  | some l => thenGo f l
  | none => none

/-- What a step of a walk over a map may come to. -/
def nexts (v : LV) (s : St) : Option (List Re') :=
  match v with
  | .pref id 0 =>
    match s.get id with
    | some (.iter none _ _ _) => some [.call (.tup [.bool false]) s]
    | some (.iter (some m) n0 seen last) =>
      match s.get m with
      | some (.map es) =>
        if seen.isEmpty || Nat.blt 0 last then
          some ((((List.range es.length).filter (fun i => !seen.contains i)).map fun i => .call (.tup [.bool true, (es.getD i default).1, (es.getD i default).2]) (s.put id (.iter (some m) n0 (seen ++ [i]) es.length))) ++
            (if (List.range n0).all (fun i => !Nat.blt i es.length || seen.contains i) then [.call (.tup [.bool false]) s] else []))
        else none
      | _ => none
    | _ => none
  | _ => none

/-- All that a run may come to (orders of maps are drawn). -/
def ev (T : Nat → Option LFunc) (J : PTab) : Nat → Tk → Option (List Re')
  | 0, _ => none
  | n + 1, .code rd c e s =>
    match c with
    | .skip => some [.code .normal e s]
    | .region l => thenAll (ev T J n (.ops l e s)) fun | .ops e s => some [.code .normal e s] | _ => none
    | .seq a b =>
      thenAll (ev T J n (.code rd a e s)) fun
      | .code .normal e s => ev T J n (.code rd b e s)
      | .code (.jmp j) e s => some [.code (.jmp j) e s]
      | _ => none
    | .cond x a b => match x.ev e with | .bool t => ev T J n (.code rd (if t then a else b) e s) | _ => none
    | .block id a =>
      thenAll (ev T J n (.code rd a e s)) fun
      | .code (.jmp (.exit id')) e s => if id' = id then some [.code .normal e s] else some [.code (.jmp (.exit id')) e s]
      | .code o e s => some [.code o e s]
      | _ => none
    | .loop a =>
      thenAll (ev T J n (.code rd a e s)) fun
      | .code .normal e s => ev T J n (.code rd (.loop a) e s)
      | .code (.jmp j) e s => some [.code (.jmp j) e s]
      | _ => none
    | .rangeFunc y ps as bo =>
      if rd then none else
      thenAll (ev T J n (.call (y.ev e) [.yld s.n] (s.new (.loop .ready none e ps as bo)))) fun
      | .call _ s' =>
        match s'.get s.n with
        | some (.loop .busy _ _ _ _ _) => none
        | some (.loop _ none env ps as bo) => some [.code .normal e (s'.put s.n (.loop .exhausted none env ps as bo))]
        | some (.loop _ (some j) env ps as bo) => some [.code (.jmp j) e (s'.put s.n (.loop .exhausted (some j) env ps as bo))]
        | _ => none
      | _ => none
    | .exit id => some [.code (.jmp (.exit id)) e s]
    | .scope a => ev T J n (.code rd a e s)
    | .ret => some [.code (.jmp .ret) e s]
    | .bad => none
  | n + 1, .ops l e s =>
    match l with
    | [] => some [.ops e s]
    | o :: l =>
      match wantedG o.guard e with
      | none => none
      | some false => ev T J n (.ops l (e.put o.dst (.tup [])) s)
      | some true =>
        match o.op with
        | .call f as =>
          thenAll (ev T J n (.call (f.ev e) (as.map (·.ev e)) s)) fun
          | .call v s' => if chksB o.chk (e.put o.dst v) s' then ev T J n (.ops l (e.put o.dst v) s') else none
          | _ => none
        | .mnext x =>
          thenAll (nexts (x.ev e) s) fun
          | .call v s' => if chksB o.chk (e.put o.dst v) s' then ev T J n (.ops l (e.put o.dst v) s') else none
          | _ => none
        | op =>
          match op.run e s with
          | some (v, s') => if strictOk o.fl op e && chksB o.chk (e.put o.dst v) s' then ev T J n (.ops l (e.put o.dst v) s') else none
          | none => none
  | n + 1, .call f args s =>
    match f with
    | .fn (.func k) first caps =>
      match (match first, caps with | [], [] => J.lookF k args s | _, _ => none) with
      | some (r, s') => some [.call r s']
      | none =>
      match T k with
      | some lf =>
        if (first ++ args ++ caps).length ≤ lf.ntmps then
          thenAll (ev T J n (.code false lf.body (envOf (first ++ args ++ caps)) s)) fun
          | .code .normal e s' => (match resVal lf.results e s' with | some v => some [.call v s'] | none => none)
          | .code (.jmp .ret) e s' => (match resVal lf.results e s' with | some v => some [.call v s'] | none => none)
          | _ => none
        else none
      | none => none
    | .yld id =>
      match s.get id with
      | some (.loop .ready _ env ps as bo) =>
        if args.length = ps.length then
          thenAll (ev T J n (.code true as (putPs ps args env) s)) fun
          | .code .normal e1 s1 =>
            (match s1.get id with
            | some (.loop .ready pend env ps as' bo') =>
              thenAll (ev T J n (.code true bo e1 (s1.put id (.loop .busy pend env ps as' bo')))) fun
              | .code .normal _ s3 =>
                (match s3.get id with
                | some (.loop _ _ env ps as bo) => some [.call (.bool true) (s3.put id (.loop .ready none env ps as bo))]
                | _ => none)
              | .code (.jmp j) _ s3 =>
                (match s3.get id with
                | some (.loop _ _ env ps as bo) => some [.call (.bool false) (s3.put id (.loop .done (some j) env ps as bo))]
                | _ => none)
              | _ => none
            | _ => none)
          | _ => none
        else none
      | _ => none
    | _ => none

theorem PTab.look_mem : ∀ {J : PTab} {k : Nat} {as : List LV} {r : LV}, J.look k as = some r → (k, as, r) ∈ J := by
  intro J
  induction J with
  | nil => intro k as r h; cases h
  | cons p J ih =>
    obtain ⟨k', as', r'⟩ := p
    intro k as r h
    simp only [PTab.look] at h
    split at h
    · rename_i hc
      simp only [Bool.and_eq_true, beq_iff_eq] at hc
      cases h
      rw [hc.1, LV.beqAll_eq _ _ hc.2]
      exact .head _
    · exact .tail _ (ih h)

theorem thenGo_mem {f : Re' → Option (List Re')} : ∀ {l out : List Re'}, thenGo f l = some out → ∀ r ∈ l, ∃ o, f r = some o ∧ ∀ x ∈ o, x ∈ out := by
  intro l
  induction l with
  | nil => intro out _ r hr; cases hr
  | cons r l ih =>
    intro out h r' hr
    cases l with
    | nil =>
      rcases List.mem_singleton.1 hr with rfl
      exact ⟨out, h, fun x hx => hx⟩
    | cons r2 l =>
      unfold thenGo at h
      · split at h
        · rename_i a ha
          split at h
          · rename_i b hb
            cases h
            rcases List.mem_cons.1 hr with rfl | hr
            · exact ⟨a, ha, fun x hx => List.mem_append_left _ hx⟩
            · obtain ⟨o, ho, hs⟩ := ih hb r' hr
              exact ⟨o, ho, fun x hx => List.mem_append_right _ (hs x hx)⟩
          · cases h
        · cases h

theorem thenAll_mem {x : Option (List Re')} {f : Re' → Option (List Re')} {out : List Re'} (h : thenAll x f = some out) : ∃ l, x = some l ∧ ∀ r ∈ l, ∃ o, f r = some o ∧ ∀ x ∈ o, x ∈ out := by
  unfold thenAll at h
  split at h
  · exact ⟨_, rfl, thenGo_mem h⟩
  · cases h

theorem nexts_ok {v : LV} {s : St} {l : List Re'} (h : nexts v s = some l) {R : LV → St → Prop} (hR : ∀ v s, Re'.call v s ∈ l → R v s) : NextOk v s R := by
  unfold nexts at h
  split at h
  · rename_i id
    simp only [NextOk]
    split at h
    · rename_i n0 seen last hg
      cases h
      rw [hg]
      exact hR _ _ (.head _)
    · rename_i m n0 seen last hg
      split at h
      · rename_i es hm
        split at h
        · rename_i hs
          cases h
          rw [hg]
          simp only [hm]
          refine ⟨?_, fun i hi hn => hR _ _ ?_, fun ha => hR _ _ ?_⟩
          · simp only [Bool.or_eq_true, List.isEmpty_iff] at hs
            rcases hs with h | h
            · exact .inl h
            · exact .inr (Nat.le_of_ble_eq_true h)
          · refine List.mem_append_left _ (List.mem_map.2 ⟨i, List.mem_filter.2 ⟨List.mem_range.2 hi, by simpa using hn⟩, rfl⟩)
          · have : (List.range n0).all (fun i => !Nat.blt i es.length || seen.contains i) = true := by
              rw [List.all_eq_true]
              intro i hi
              by_cases hl : i < es.length
              · simp [ha i (List.mem_range.1 hi) hl]
              · have : Nat.blt i es.length = false := by
                  cases hb : Nat.blt i es.length with
                  | false => rfl
                  | true => exact absurd (Nat.le_of_ble_eq_true hb) hl
                simp [this]
            rw [if_pos this]
            exact List.mem_append_right _ (.head _)
        · cases h
      · cases h
    · cases h
  · cases h

section
variable {P : Program} {G : Globs} {T : Nat → Option LFunc} {J : PTab}

structure Tab (P : Program) (G : Globs) (T : Nat → Option LFunc) (J : PTab) : Prop where
  mixed : P.follows .mixedOrders = true
  fn : ∀ k lf, T k = some lf → ∃ fn refs, P.funcs[k]? = some fn ∧ (fn.name == "runtime.NumGoroutine") = false ∧ compFunc P G refs fn = some lf
  globs : ∀ x ∈ G, LV.closed.closedAll x.2 = true
  pure : ∀ x ∈ J, PureOk P G (.fn (.func x.1) [] []) x.2.1 x.2.2

/-- What a run says. -/
def Says (P : Program) (G : Globs) (t : Tk) (l : List Re') : Prop :=
  match t with
  | .code rd c e s => ∀ nt, CodeOk P G rd nt c e s (fun o e s => .code o e s ∈ l)
  | .ops ops e s => Chain P G ops e s (fun e s => .ops e s ∈ l)
  | .call f args s => CallOk P G f args s (fun v s => .call v s ∈ l)

theorem ev_sound (hT : Tab P G T J) : ∀ (n : Nat) (t : Tk) (l : List Re'), ev T J n t = some l → Says P G t l := by
  intro n
  induction n using Nat.strongRecOn with
  | ind n ih =>
    intro t out h
    cases n with
    | zero => cases h
    | succ n =>
      have ihn := ih n (Nat.lt_succ_self n)
      cases t with
      | code rd c e s =>
        cases c with
        | skip => cases h; exact fun nt => ok_skip (.head _)
        | exit id => cases h; exact fun nt => ok_exit (.head _)
        | ret => cases h; exact fun nt => ok_ret (.head _)
        | bad => cases h
        | region ops =>
          simp only [ev] at h
          obtain ⟨l, hl, hm⟩ := thenAll_mem h
          refine fun nt => ok_region hT.mixed (Chain.mono (fun e1 s1 hh => ?_) (ihn _ _ hl))
          obtain ⟨o, ho, hs⟩ := hm _ hh
          cases ho
          exact hs _ (.head _)
        | seq a b =>
          simp only [ev] at h
          obtain ⟨l, hl, hm⟩ := thenAll_mem h
          refine fun nt => ok_seq (CodeOk.mono (ihn _ _ hl nt) fun o e1 s1 hh => ?_)
          obtain ⟨o', ho, hs⟩ := hm _ hh
          cases o with
          | normal => exact CodeOk.mono (ihn _ _ ho nt) fun o e s hh => hs _ hh
          | jmp j => cases ho; exact hs _ (.head _)
        | cond x a b =>
          simp only [ev] at h
          split at h
          · rename_i t ht
            exact fun nt => ok_cond ht (ihn _ _ h nt)
          · cases h
        | block id a =>
          simp only [ev] at h
          obtain ⟨l, hl, hm⟩ := thenAll_mem h
          refine fun nt => ok_block (CodeOk.mono (ihn _ _ hl nt) fun o e1 s1 hh => ?_)
          obtain ⟨o', ho, hs⟩ := hm _ hh
          rcases o with _ | _ | id'
          · cases ho; exact hs _ (.head _)
          · cases ho; exact hs _ (.head _)
          · simp only at ho
            split at ho
            · rename_i hid; cases ho; simp only [Blkd, hid, if_true]; exact hs _ (.head _)
            · rename_i hid; cases ho; simp only [Blkd, hid, if_false]; exact hs _ (.head _)
        | scope a => exact fun nt => ok_scope (ihn _ _ (show ev T J n (.code rd a e s) = some out from h) nt)
        | loop a =>
          intro nt
          refine ok_loop_inv (fun m e s => m ≤ n + 1 ∧ ∃ o, ev T J m (.code rd (.loop a) e s) = some o ∧ ∀ x ∈ o, x ∈ out) ?_ (n + 1) ⟨Nat.le_refl _, out, h, fun x hx => hx⟩
          rintro m e s ⟨hm, o, hh, hsub⟩
          cases m with
          | zero => cases hh
          | succ m =>
            simp only [ev] at hh
            obtain ⟨l, hl, hm'⟩ := thenAll_mem hh
            refine CodeOk.mono (ih m (by omega) _ _ hl nt) fun o1 e2 s2 h3 => ?_
            obtain ⟨o', ho, hs⟩ := hm' _ h3
            cases o1 with
            | normal => exact ⟨m, Nat.lt_succ_self m, by omega, o', ho, fun x hx => hsub x (hs x hx)⟩
            | jmp j => cases ho; exact hsub _ (hs _ (.head _))
        | rangeFunc y ps as bo =>
          simp only [ev] at h
          cases rd with
          | true => simp at h
          | false =>
            simp only [Bool.false_eq_true, if_false] at h
            obtain ⟨l, hl, hm⟩ := thenAll_mem h
            refine fun nt => ok_rangeFunc (CallOk.mono (ihn _ _ hl) fun v1 s1 hh => ?_)
            obtain ⟨o', ho, hs⟩ := hm _ hh
            simp only at ho
            split at ho
            · cases ho
            · rename_i st env ps' as' bo' hne hg
              cases ho
              exact ⟨st, none, env, ps', as', bo', hg, fun hb => hne hb, hs _ (.head _)⟩
            · rename_i st j env ps' as' bo' hne hg
              cases ho
              exact ⟨st, some j, env, ps', as', bo', hg, fun hb => hne hb, hs _ (.head _)⟩
            · cases ho
      | ops l e s =>
        cases l with
        | nil => cases h; exact .head _
        | cons o l =>
          simp only [ev] at h
          split at h
          · cases h
          · rename_i hw
            simp only [Says, Chain, hw]
            exact ihn _ _ h
          · rename_i hw
            split at h
            · rename_i f as hop
              obtain ⟨l', hl, hm⟩ := thenAll_mem h
              simp only [Says, Chain, hw, hop, OpGo]
              refine CallOk.mono (ihn _ _ hl) fun v1 s2 hh => ?_
              obtain ⟨o', ho, hs⟩ := hm _ hh
              simp only at ho
              split at ho
              · rename_i hck
                exact ⟨chksB_ok hck, Chain.mono (fun e s hh => hs _ hh) (ihn _ _ ho)⟩
              · cases ho
            · rename_i x hop
              obtain ⟨l', hl, hm⟩ := thenAll_mem h
              simp only [Says, Chain, hw, hop, OpGo]
              refine nexts_ok hl fun v1 s2 hh => ?_
              obtain ⟨o', ho, hs⟩ := hm _ hh
              simp only at ho
              split at ho
              · rename_i hck
                exact ⟨chksB_ok hck, Chain.mono (fun e s hh => hs _ hh) (ihn _ _ ho)⟩
              · cases ho
            · rename_i hne hne2
              have hcl : isCallL o.op = false := by
                cases hc : isCallL o.op with
                | false => rfl
                | true =>
                  rcases isCallL_inv hc with ⟨f, as, hh⟩ | ⟨f, hh⟩
                  · exact absurd hh (hne f as)
                  · exact absurd hh (hne2 f)
              split at h
              · rename_i v s1 hr
                split at h
                · rename_i hck
                  simp only [Bool.and_eq_true] at hck
                  simp only [Says, Chain, hw]
                  rw [opGo_eq hcl, hr]
                  exact ⟨hck.1, chksB_ok hck.2, ihn _ _ h⟩
                · cases h
              · cases h
      | call f args s =>
        simp only [ev] at h
        split at h
        · rename_i k first caps
          split at h
          · rename_i r s' hr
            cases h
            split at hr
            · unfold PTab.lookF at hr
              split at hr
              · split at hr
                · rename_i as' s2 hfz
                  split at hr
                  · rename_i r2 hlk
                    cases hr
                    exact call_frz hfz (pure_call hT.globs (hT.pure _ (PTab.look_mem hlk)) (.head _))
                  · cases hr
                · cases hr
              · cases hr
            · cases hr
          split at h
          · rename_i lf hlf
            obtain ⟨fn, refs, hf, hn, hc⟩ := hT.fn k lf hlf
            split at h
            · rename_i hlen
              obtain ⟨l, hl, hm⟩ := thenAll_mem h
              refine call_fn hf hn hc hlen (CodeOk.mono (ihn _ _ hl lf.ntmps) fun o1 e1 s1 hh => ?_)
              obtain ⟨o', ho, hs⟩ := hm _ hh
              rcases o1 with _ | _ | id'
              · simp only at ho
                split at ho
                · rename_i v hv; cases ho; exact ⟨.inl rfl, v, hv, hs _ (.head _)⟩
                · cases ho
              · simp only at ho
                split at ho
                · rename_i v hv; cases ho; exact ⟨.inr rfl, v, hv, hs _ (.head _)⟩
                · cases ho
              · cases ho
            · cases h
          · cases h
        · rename_i id
          split at h
          · rename_i pend0 env ps as bo hg
            split at h
            · rename_i hl
              obtain ⟨l, hl1, hm⟩ := thenAll_mem h
              refine call_yield hg hl fun nt => CodeOk.mono (ihn _ _ hl1 nt) fun o1 e1 s1 hh => ?_
              obtain ⟨o', ho, hs⟩ := hm _ hh
              cases o1 with
              | jmp j => cases ho
              | normal =>
                simp only at ho
                split at ho
                · rename_i pend1 env1 ps1 as1 bo1 hg1
                  obtain ⟨l2, hl2, hm2⟩ := thenAll_mem ho
                  refine ⟨pend1, env1, ps1, as1, bo1, hg1, CodeOk.mono (ihn _ _ hl2 nt) fun o4 e4 s4 hh => ?_⟩
                  obtain ⟨o5, ho5, hs5⟩ := hm2 _ hh
                  cases o4 with
                  | normal =>
                    simp only at ho5
                    split at ho5
                    · rename_i st pd env3 ps3 as3 bo3 hg3
                      cases ho5
                      exact ⟨st, pd, env3, ps3, as3, bo3, hg3, hs _ (hs5 _ (.head _))⟩
                    · cases ho5
                  | jmp j =>
                    simp only at ho5
                    split at ho5
                    · rename_i st pd env3 ps3 as3 bo3 hg3
                      cases ho5
                      exact ⟨st, pd, env3, ps3, as3, bo3, hg3, hs _ (hs5 _ (.head _))⟩
                    · cases ho5
                · cases ho
            · cases h
          · cases h
        · cases h

/-- All answers, frozen, are the one. -/
def allFrz (r : LV) : List Re' → Bool
  | [] => true
  | .call v s :: l => (match frz frzDepth v s with | some (x, _) => x.beq r && allFrz r l | none => false)
  | _ :: _ => false

theorem allFrz_mem {r : LV} : ∀ {l : List Re'}, allFrz r l = true → ∀ v s, Re'.call v s ∈ l → ∃ s', frz frzDepth v s = some (r, s') := by
  intro l
  induction l with
  | nil => intro _ v s h; cases h
  | cons x l ih =>
    intro h v s hm
    cases x <;> simp only [allFrz, Bool.false_eq_true] at h
    split at h
    · rename_i y s' hf
      simp only [Bool.and_eq_true] at h
      rcases List.mem_cons.1 hm with he | hm
      · cases he
        exact ⟨s', by rw [hf, LV.beq_eq _ _ h.1]⟩
      · exact ih h.2 v s hm
    · cases h

def pureB (T : Nat → Option LFunc) (J : PTab) (n k : Nat) (args : List LV) (r : LV) : Bool :=
  LV.closed.closedAll args && r.closed && (match ev T J n (.call (.fn (.func k) [] []) args St.empty) with | some l => allFrz r l | none => false)

/-- **A call on closed values, run.** -/
theorem pure_ev (hT : Tab P G T J) {n k : Nat} {args : List LV} {r : LV} (h : pureB T J n k args r = true) : PureOk P G (.fn (.func k) [] []) args r := by
  simp only [pureB, Bool.and_eq_true] at h
  obtain ⟨⟨h1, h2⟩, h3⟩ := h
  split at h3
  · rename_i l hl
    exact ⟨rfl, h1, h2, CallOk.mono (ev_sound hT _ _ _ hl) fun v s hh => allFrz_mem h3 v s hh⟩
  · cases h3

/-- The functions of a program, turned; 'refs': of which boxes it is known that they are written behind their making. -/
def tabOf (P : Program) (G : Globs) (refs : List (Nat × List Nat)) (k : Nat) : Option LFunc :=
  match P.funcs[k]? with
  | some fn => if fn.name == "runtime.NumGoroutine" then none else compFunc P G ((refs.lookup k).getD []) fn
  | none => none

theorem tabOf_tab {refs : List (Nat × List Nat)} (hm : P.follows .mixedOrders = true) (hG : ∀ x ∈ G, LV.closed.closedAll x.2 = true) : Tab P G (tabOf P G refs) [] := by
  refine ⟨hm, fun k lf h => ?_, hG, fun x hx => by cases hx⟩
  unfold tabOf at h
  split at h
  · rename_i fn hf
    split at h
    · cases h
    · rename_i hn
      exact ⟨fn, _, hf, by simpa using hn, h⟩
  · cases h

theorem Tab.cons (hT : Tab P G T J) {k : Nat} {args : List LV} {r : LV} (h : PureOk P G (.fn (.func k) [] []) args r) : Tab P G T ((k, args, r) :: J) :=
  ⟨hT.mixed, hT.fn, hT.globs, fun x hx => by
    rcases List.mem_cons.1 hx with rfl | hx
    · exact h
    · exact hT.pure x hx⟩
end
end Go.Pv
