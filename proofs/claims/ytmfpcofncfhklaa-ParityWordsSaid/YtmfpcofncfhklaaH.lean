/- Whether an automaton accepts a word. -/
import Derived.Test.YtmfpcofncfhklaaG
import Derived.Test.YtmfpcofncfhklaaPvQ
set_option linter.unusedSimpArgs false
set_option linter.unusedVariables false
namespace Go.Proofs.Ytmfpcofncfhklaa
open Go Go.Pv
open Classical

def fnd (q : Nat) : List Nat → Nat → Option Nat
  | [], _ => none
  | x :: r, i => if x = q then some i else fnd q r (i + 1)
def ent : Nat → List Nat → List (LV × LV)
  | _, [] => []
  | i, x :: r => (.int .i64 (x : Int), .int .i64 (i : Int)) :: ent (i + 1) r

theorem mfind_ent (q : Nat) : ∀ (qs : List Nat) (i k : Nat), mfind (.int .i64) (.int .i64 (q : Int)) (ent i qs) k = some ((fnd q qs i).map fun j => (k + (j - i), LV.int .i64 (j : Int))) := by
  intro qs
  induction qs with
  | nil => intro i k; rfl
  | cons x r ih =>
    intro i k
    by_cases h : x = q
    · subst h
      simp [ent, mfind, keyEqT, keyEq, fnd]
    · have hne : ((q : Int) == (x : Int)) = false := by simpa using fun hh : (q : Int) = (x : Int) => h (by omega)
      simp only [ent, mfind, keyEqT, keyEq, if_true, hne, fnd, h, if_false, ih]
      have hge : ∀ (r : List Nat) (i j : Nat), fnd q r i = some j → i ≤ j := by
        intro r
        induction r with
        | nil => intro i j h; cases h
        | cons y r ih => intro i j h; simp only [fnd] at h; split at h; · cases h; exact Nat.le_refl _
                         · have := ih _ _ h; omega
      cases hf : fnd q r (i + 1) with
      | none => rfl
      | some j =>
        have := hge _ _ _ hf
        simp only [Option.map_some, Option.some.injEq, Prod.mk.injEq, and_true]
        omega

theorem ent_snoc (q : Nat) : ∀ (qs : List Nat) (i : Nat), ent i qs ++ [(.int .i64 (q : Int), .int .i64 ((i + qs.length : Nat) : Int))] = ent i (qs ++ [q]) := by
  intro qs
  induction qs with
  | nil => intro i; simp [ent]
  | cons x r ih => intro i; simp only [List.cons_append, ent, List.length_cons, ← ih (i + 1)]; simp [Nat.add_assoc, Nat.add_comm 1]

theorem fnd_some {q : Nat} : ∀ {qs : List Nat} {i j : Nat}, fnd q qs i = some j → i ≤ j ∧ j < i + qs.length := by
  intro qs
  induction qs with
  | nil => intro i j h; cases h
  | cons x r ih =>
    intro i j h
    simp only [fnd] at h
    split at h
    · cases h; simp
    · have := ih h; simp; omega
theorem fnd_none {q : Nat} : ∀ {qs : List Nat} {i : Nat}, fnd q qs i = none → q ∉ qs := by
  intro qs
  induction qs with
  | nil => intro i _ h; cases h
  | cons x r ih =>
    intro i h hm
    simp only [fnd] at h
    split at h
    · cases h
    · rename_i hne
      rcases List.mem_cons.1 hm with rfl | hm
      · exact hne rfl
      · exact ih h hm

theorem pigeon : ∀ (n : Nat) (qs : List Nat), qs.Nodup → (∀ x ∈ qs, x < n) → qs.length ≤ n := by
  intro n
  induction n with
  | zero => intro qs _ h; cases qs with | nil => simp | cons x r => exact absurd (h x (by simp)) (Nat.not_lt_zero _)
  | succ n ih =>
    intro qs hd h
    have h1 := ih (qs.erase n) (hd.erase n) (fun x hx => by
      have h2 := h x (List.mem_of_mem_erase hx)
      have h3 : x ≠ n := fun he => by subst he; exact (hd.not_mem_erase) hx
      omega)
    rw [List.length_erase] at h1
    split at h1 <;> omega

/-- The rounds of a loop, until a state comes again. -/
def wv (nxt : Nat → Nat) (lst : Nat → Int) : Nat → List Nat → Nat → Bool
  | 0, _, _ => false
  | f + 1, qs, q =>
    match fnd q qs 0 with
    | some j => decide ((mn ((qs.map lst).drop j)).tmod 2 = 0)
    | none => wv nxt lst f (qs ++ [q]) (nxt q)

theorem runQ_lt {L S : Int} {N R : List (List Int)} (hp : PV L S N R) : ∀ {l : List Int} {q : Nat}, q < N.length → (∀ a ∈ l, 0 ≤ a ∧ a < L) → runQ N l q < N.length := by
  intro l
  induction l with
  | nil => intro q hq _; exact hq
  | cons a l ih => intro q hq h; exact ih (stp_lt hp hq (h a (by simp)).1 (h a (by simp)).2).2 (fun b hb => h b (by simp [hb]))
theorem AllB.mem {l : List Int} {m : Int} (h : AllB l m) : ∀ a ∈ l, 0 ≤ a ∧ a < m := fun a ha => by
  obtain ⟨j, hj, rfl⟩ := List.getElem_of_mem ha
  have := h j hj
  rwa [List.getD_eq_getElem?_getD, List.getElem?_eq_getElem hj, Option.getD_some] at this

def AccI (ls : List Int) (s : St) (acc : LV) : Prop :=
  (ls = [] ∧ acc = .nils) ∨ (0 < ls.length ∧ ∃ j, 1 < j ∧ j < s.n ∧ acc = .sref j 0 ls.length 1 ∧ s.get j = some (.cells .mut (ints ls)))
theorem AccI.len {ls : List Int} {s : St} {acc : LV} (h : AccI ls s acc) : slLen acc = some ls.length := by
  rcases h with ⟨rfl, rfl⟩ | ⟨_, j, _, _, rfl, _⟩ <;> rfl
theorem AccI.cell {ls : List Int} {s : St} {acc : LV} (h : AccI ls s acc) : isCell acc = true := by
  rcases h with ⟨rfl, rfl⟩ | ⟨_, j, _, _, rfl, _⟩ <;> rfl
theorem AccI.mono {ls : List Int} {s s' : St} {acc : LV} (h : AccI ls s acc) (hn : s.n ≤ s'.n) (hg : ∀ id, 1 < id → id < s.n → s'.get id = s.get id) : AccI ls s' acc := by
  rcases h with h | ⟨h0, j, h1, h2, h3, h4⟩
  · exact .inl h
  · exact .inr ⟨h0, j, h1, by omega, h3, by rw [hg j h1 h2]; exact h4⟩
theorem accI_append {x : Int} {ls : List Int} {s : St} {acc : LV} (h : AccI ls s acc) (h1 : 1 < s.n) (hl : ls.length ≤ 2 ^ 20) :
    ∃ acc' s4, appendLV 1 8 acc [.int .i64 x] 1 s = some (acc', s4) ∧ AccI (ls ++ [x]) s4 acc' ∧ s.n < s4.n ∧ s4.get 0 = s.get 0 ∧ s4.get 1 = s.get 1 := by
  rcases h with ⟨rfl, rfl⟩ | ⟨h0, j, hj1, hj2, rfl, hsj⟩
  · exact ⟨_, _, appendLV_nils (by omega), .inr ⟨by simp, s.n, by omega, by simp, rfl, by rw [St.get_new, if_pos rfl]; rfl⟩, by simp, by rw [St.get_new, if_neg (by omega)], by rw [St.get_new, if_neg (by omega)]⟩
  · refine ⟨_, _, appendLV_mut hsj (by simp) (by decide) hl, .inr ⟨by simp, s.n, by omega, by simp, by simp, by rw [St.get_new, St.n_put, if_pos rfl]; simp [ints]⟩, by simp, ?_, ?_⟩
    · rw [St.get_new, St.n_put, if_neg (by omega), St.get_put, if_neg (by omega)]
    · rw [St.get_new, St.n_put, if_neg (by omega), St.get_put, if_neg (by omega)]

theorem frz_srefO {s : St} {j off len : Nat} {cs : List LV} (h : s.get j = some (.cells .mut cs)) (hl : off + len = cs.length) (hc : LV.closed.closedAll cs = true) : frz frzDepth (.sref j off len 1) s = some (.simm (cs.drop off) len, s.put j (.cells .app cs)) := by
  have : frz frzDepth (.sref j off len 1) s = frz (38 + 1 + 1) (.sref j off len 1) s := rfl
  rw [this]
  unfold frz
  simp only [LV.closed, Bool.false_eq_true, if_false, h, Nat.mul_one, hl, Nat.le_refl, if_true, frzAll_closed hc, Option.bind_eq_bind, Option.bind_some, Option.some.injEq, Prod.mk.injEq, and_true]
  rw [List.take_of_length_le (by simp; omega)]

theorem minR_rng {L S : Int} {N R : List (List Int)} (hp : PV L S N R) : ∀ {l : List Int} {q : Nat} {m : Int}, q < N.length → (∀ a ∈ l, 0 ≤ a ∧ a < L) → 0 ≤ m → m ≤ 20000 → 0 ≤ minR N R l q m ∧ minR N R l q m ≤ 20000 := by
  intro l
  induction l with
  | nil => intro q m hq _ h0 h1; exact ⟨h0, h1⟩
  | cons a l ih =>
    intro q m hq h h0 h1
    have ha := h a (by simp)
    obtain ⟨u1, u2, u3, u4⟩ := (hp.2 q hq).2.2 a.toNat (by omega)
    exact ih (stp_lt hp hq ha.1 ha.2).2 (fun b hb => h b (by simp [hb])) (by omega) (by omega)

set_option maxHeartbeats 8000000 in
theorem word_ok {L S : Int} {nx pr st lo : LV} {N R : List (List Int)} {vN vR : List LV} {sl ll : List Int} (hN : IsRows nx N vN) (hR : IsRows pr R vR) (hS : IsInts st sl) (hL : IsInts lo ll) :
    PO 12 [.agg [.int .i64 L, .int .i64 S, nx, pr], .agg [st, lo]] (.bool (decide (PV L S N R ∧ Fm sl ll ∧ AllB sl L ∧ AllB ll L) && wv (runQ N ll) (fun q => minR N R ll q 20000) (N.length + 1) [] (runQ N sl S.toNat))) := by
  have hcl : (LV.agg [.int .i64 L, .int .i64 S, nx, pr]).closed = true := by simp [LV.closed, LV.closed.closedAll, hN.closed, hR.closed]
  have hcl2 : (LV.agg [st, lo]).closed = true := by simp [LV.closed, LV.closed.closedAll, hS.closed, hL.closed]
  have hc1 := hN.sl.cell
  have hc2 := hR.sl.cell
  have hc3 := hS.sl.cell
  have hc4 := hL.sl.cell
  refine q_fn (t := 4) hm Try.func12 (by decide +kernel) c12 (Nat.le_of_ble_eq_true rfl) (by simp [LV.closed.closedAll, hcl, hcl2]) rfl rfl ?_
  have h0 : (envOf [LV.agg [.int .i64 L, .int .i64 S, nx, pr], .agg [st, lo]]).at 0 = .agg [.int .i64 L, .int .i64 S, nx, pr] := by rw [envOf_at]; rfl
  have h1 : (envOf [LV.agg [.int .i64 L, .int .i64 S, nx, pr], .agg [st, lo]]).at 1 = .agg [st, lo] := by rw [envOf_at]; rfl
  generalize envOf [LV.agg [.int .i64 L, .int .i64 S, nx, pr], .agg [st, lo]] = e at *
  unfold l12
  dsimp only
  repeat' (first
      | (apply qc_block)
      | (apply qc_seq)
      | (apply qc_region hm)
      | ((first | apply qc_skip | apply qc_exit | apply qc_ret | apply q_nil); try simp only [Thn, Blkd, reduceIte, Nat.reduceEqDiff, Nat.succ_ne_self])
      | (apply qc_condT; (focus (simp only [lk, Nat.reduceEqDiff, reduceIte, Bool.not_true, Bool.not_false, h0, h1]; (try rfl); done))) | (apply qc_condF; (focus (simp only [lk, Nat.reduceEqDiff, reduceIte, Bool.not_true, Bool.not_false, h0, h1]; (try rfl); done)))
      | ((first | apply u_skip | apply u_skipN); (focus (simp only [lk, Nat.reduceEqDiff, reduceIte, Bool.not_true, Bool.not_false, h0, h1]; (try rfl); done)); (focus rfl))
      | ((first | apply q_mv | apply u_alloc | apply u_bslice0 | apply u_faddr | apply u_load | apply u_len | apply u_ext | apply u_un | apply u_pick | apply u_field | apply u_conv | apply u_nilchk | apply u_box | apply u_boxR | apply u_bslice1 | apply u_mkfn | apply u_store | apply q_iaddr | apply u_mm | apply u_lss | apply u_leq | apply u_gtr | apply u_geq | apply u_eql | apply u_neq | apply q_eq | apply q_bin) <;> (first
        | exact wN | (apply wG; (simp only [lk, Nat.reduceEqDiff, reduceIte, Bool.not_true, Bool.not_false, h0, h1]; (try rfl); done)) | (show W _ _ _ _ _ _) | (show ∀ _, _; intro bb hbb; cases bb <;> (try simp only [decide_eq_true_eq, decide_eq_false_iff_not, bne_iff_ne, beq_iff_eq, ne_eq, bne_eq_false_iff_eq, beq_eq_false_iff_ne, Int.not_lt, Int.not_le, gt_iff_lt, ge_iff_le, Bool.not_eq_true, Bool.false_eq_true, if_false, reduceCtorEq] at hbb))
        | ((first | apply ev_I | apply map_I | apply at_I); (simp only [lk, Nat.reduceEqDiff, reduceIte, Bool.not_true, Bool.not_false, h0, h1]; (try rfl); done)) | (apply n_I; (simp only [u1, Nat.reduceAdd, Nat.reduceEqDiff, reduceIte, *]; (try rfl); done))
        | (apply cells_I; (first | rfl | (simp only [u3, u4, if_true, eq_self, reduceIte, *]; (try rfl); done))) | (apply closed_I; (first | assumption | (simp only [u5, eq_self, *]; done)))
        | (apply fa_I; simp only [faddrLV, Nat.zero_add, Nat.reduceAdd]; rfl)
        | (apply pick_I; simp only [pickB]; (try rfl); done) | (apply wrap_I; (first | assumption | (simp only [u1, Nat.reduceAdd, Nat.reduceEqDiff, reduceIte, *]; (try rfl); done) | rfl)) | exact mm_max | exact mm_min
        | (apply load_imm; (first | rfl | (simp only [u1, Nat.reduceAdd, Nat.reduceEqDiff, reduceIte, *]; (try rfl); done))) | (apply loadN_imm rfl; simp only [u2]; (try rfl); done)
        | (apply load_ref; (focus (simp only [u1, Nat.reduceAdd, Nat.reduceEqDiff, reduceIte, *]; (try rfl); done)); (focus (first | rfl | (simp only [u1, Nat.reduceAdd, Nat.reduceEqDiff, reduceIte, *]; (try rfl); done)))) | (apply loadN_ref; (focus (simp only [u1, Nat.reduceAdd, Nat.reduceEqDiff, reduceIte, *]; (try rfl); done)); (focus rfl); (focus (simp only [u2]; (try rfl); done)))
        | (apply store_ref; (focus (first | rfl | (simp only [u3, u4, if_true, eq_self, reduceIte, *]; (try rfl); done))); (focus (simp only [u1, Nat.reduceAdd, Nat.reduceEqDiff, reduceIte, *]; (try rfl); done)); (focus rfl); (focus rfl); (focus (simp only [splice, List.set_cons_zero, List.set_cons_succ]; (try rfl); done)))
        | rfl | (simp only [u1, Nat.reduceAdd, Nat.reduceEqDiff, reduceIte, *]; (try rfl); done))))
  refine q_pureB hG0 (pvalid_ok (L := L) (S := S) hN hR) (by first | exact wN | (apply wG; (simp only [lk, Nat.reduceEqDiff, reduceIte, h0, h1]; (try rfl); done))) (by simp only [List.map, lk, Nat.reduceEqDiff, reduceIte, h0, h1]; try rfl) (fun bb hbb => ⟨by first | trivial | (simp only [Chks, wantedG, LOp.run, Env.put_some, Env.put_none, lk, sv1, sv2, sv3, Nat.reduceEqDiff, Nat.reduceAdd, Nat.reduceLeDiff, reduceIte, if_false, if_true, mkVal, unLV, List.map, optTmps, beq_self_eq_true, reduceCtorEq, false_or, true_and, and_true, Option.some.injEq, *]; done), ?_⟩)
  simp only [Env.put_some]
  cases bb <;> simp only [decide_eq_true_eq, decide_eq_false_iff_not] at hbb
  · repeat' (first
        | (apply qc_block)
        | (apply qc_seq)
        | (apply qc_region hm)
        | ((first | apply qc_skip | apply qc_exit | apply qc_ret | apply q_nil); try simp only [Thn, Blkd, reduceIte, Nat.reduceEqDiff, Nat.succ_ne_self])
        | (apply qc_condT; (focus (simp only [lk, Nat.reduceEqDiff, reduceIte, Bool.not_true, Bool.not_false, h0, h1]; (try rfl); done))) | (apply qc_condF; (focus (simp only [lk, Nat.reduceEqDiff, reduceIte, Bool.not_true, Bool.not_false, h0, h1]; (try rfl); done)))
        | ((first | apply u_skip | apply u_skipN); (focus (simp only [lk, Nat.reduceEqDiff, reduceIte, Bool.not_true, Bool.not_false, h0, h1]; (try rfl); done)); (focus rfl))
        | ((first | apply q_mv | apply u_alloc | apply u_bslice0 | apply u_faddr | apply u_load | apply u_len | apply u_ext | apply u_un | apply u_pick | apply u_field | apply u_conv | apply u_nilchk | apply u_box | apply u_boxR | apply u_bslice1 | apply u_mkfn | apply u_store | apply q_iaddr | apply u_mm | apply u_lss | apply u_leq | apply u_gtr | apply u_geq | apply u_eql | apply u_neq | apply q_eq | apply q_bin) <;> (first
          | exact wN | (apply wG; (simp only [lk, Nat.reduceEqDiff, reduceIte, Bool.not_true, Bool.not_false, h0, h1]; (try rfl); done)) | (show W _ _ _ _ _ _) | (show ∀ _, _; intro bb hbb; cases bb <;> (try simp only [decide_eq_true_eq, decide_eq_false_iff_not, bne_iff_ne, beq_iff_eq, ne_eq, bne_eq_false_iff_eq, beq_eq_false_iff_ne, Int.not_lt, Int.not_le, gt_iff_lt, ge_iff_le, Bool.not_eq_true, Bool.false_eq_true, if_false, reduceCtorEq] at hbb))
          | ((first | apply ev_I | apply map_I | apply at_I); (simp only [lk, Nat.reduceEqDiff, reduceIte, Bool.not_true, Bool.not_false, h0, h1]; (try rfl); done)) | (apply n_I; (simp only [u1, Nat.reduceAdd, Nat.reduceEqDiff, reduceIte, *]; (try rfl); done))
          | (apply cells_I; (first | rfl | (simp only [u3, u4, if_true, eq_self, reduceIte, *]; (try rfl); done))) | (apply closed_I; (first | assumption | (simp only [u5, eq_self, *]; done)))
          | (apply fa_I; simp only [faddrLV, Nat.zero_add, Nat.reduceAdd]; rfl)
          | (apply pick_I; simp only [pickB]; (try rfl); done) | (apply wrap_I; (first | assumption | (simp only [u1, Nat.reduceAdd, Nat.reduceEqDiff, reduceIte, *]; (try rfl); done) | rfl)) | exact mm_max | exact mm_min
          | (apply load_imm; (first | rfl | (simp only [u1, Nat.reduceAdd, Nat.reduceEqDiff, reduceIte, *]; (try rfl); done))) | (apply loadN_imm rfl; simp only [u2]; (try rfl); done)
          | (apply load_ref; (focus (simp only [u1, Nat.reduceAdd, Nat.reduceEqDiff, reduceIte, *]; (try rfl); done)); (focus (first | rfl | (simp only [u1, Nat.reduceAdd, Nat.reduceEqDiff, reduceIte, *]; (try rfl); done)))) | (apply loadN_ref; (focus (simp only [u1, Nat.reduceAdd, Nat.reduceEqDiff, reduceIte, *]; (try rfl); done)); (focus rfl); (focus (simp only [u2]; (try rfl); done)))
          | (apply store_ref; (focus (first | rfl | (simp only [u3, u4, if_true, eq_self, reduceIte, *]; (try rfl); done))); (focus (simp only [u1, Nat.reduceAdd, Nat.reduceEqDiff, reduceIte, *]; (try rfl); done)); (focus rfl); (focus rfl); (focus (simp only [splice, List.set_cons_zero, List.set_cons_succ]; (try rfl); done)))
          | rfl | (simp only [u1, Nat.reduceAdd, Nat.reduceEqDiff, reduceIte, *]; (try rfl); done))))
    refine ⟨.inr trivial, ?_⟩
    simp only [lk, sv1, sv2, sv3, Nat.reduceEqDiff, Nat.reduceAdd, Nat.reduceLeDiff, reduceIte, if_false, if_true, mkVal, unLV, List.map, optTmps]
    rw [decide_eq_false (fun h => hbb h.1)]; rfl
  repeat' (first
      | (apply qc_block)
      | (apply qc_seq)
      | (apply qc_region hm)
      | ((first | apply qc_skip | apply qc_exit | apply qc_ret | apply q_nil); try simp only [Thn, Blkd, reduceIte, Nat.reduceEqDiff, Nat.succ_ne_self])
      | (apply qc_condT; (focus (simp only [lk, Nat.reduceEqDiff, reduceIte, Bool.not_true, Bool.not_false, h0, h1]; (try rfl); done))) | (apply qc_condF; (focus (simp only [lk, Nat.reduceEqDiff, reduceIte, Bool.not_true, Bool.not_false, h0, h1]; (try rfl); done)))
      | ((first | apply u_skip | apply u_skipN); (focus (simp only [lk, Nat.reduceEqDiff, reduceIte, Bool.not_true, Bool.not_false, h0, h1]; (try rfl); done)); (focus rfl))
      | ((first | apply q_mv | apply u_alloc | apply u_bslice0 | apply u_faddr | apply u_load | apply u_len | apply u_ext | apply u_un | apply u_pick | apply u_field | apply u_conv | apply u_nilchk | apply u_box | apply u_boxR | apply u_bslice1 | apply u_mkfn | apply u_store | apply q_iaddr | apply u_mm | apply u_lss | apply u_leq | apply u_gtr | apply u_geq | apply u_eql | apply u_neq | apply q_eq | apply q_bin) <;> (first
        | exact wN | (apply wG; (simp only [lk, Nat.reduceEqDiff, reduceIte, Bool.not_true, Bool.not_false, h0, h1]; (try rfl); done)) | (show W _ _ _ _ _ _) | (show ∀ _, _; intro bb hbb; cases bb <;> (try simp only [decide_eq_true_eq, decide_eq_false_iff_not, bne_iff_ne, beq_iff_eq, ne_eq, bne_eq_false_iff_eq, beq_eq_false_iff_ne, Int.not_lt, Int.not_le, gt_iff_lt, ge_iff_le, Bool.not_eq_true, Bool.false_eq_true, if_false, reduceCtorEq] at hbb))
        | ((first | apply ev_I | apply map_I | apply at_I); (simp only [lk, Nat.reduceEqDiff, reduceIte, Bool.not_true, Bool.not_false, h0, h1]; (try rfl); done)) | (apply n_I; (simp only [u1, Nat.reduceAdd, Nat.reduceEqDiff, reduceIte, *]; (try rfl); done))
        | (apply cells_I; (first | rfl | (simp only [u3, u4, if_true, eq_self, reduceIte, *]; (try rfl); done))) | (apply closed_I; (first | assumption | (simp only [u5, eq_self, *]; done)))
        | (apply fa_I; simp only [faddrLV, Nat.zero_add, Nat.reduceAdd]; rfl)
        | (apply pick_I; simp only [pickB]; (try rfl); done) | (apply wrap_I; (first | assumption | (simp only [u1, Nat.reduceAdd, Nat.reduceEqDiff, reduceIte, *]; (try rfl); done) | rfl)) | exact mm_max | exact mm_min
        | (apply load_imm; (first | rfl | (simp only [u1, Nat.reduceAdd, Nat.reduceEqDiff, reduceIte, *]; (try rfl); done))) | (apply loadN_imm rfl; simp only [u2]; (try rfl); done)
        | (apply load_ref; (focus (simp only [u1, Nat.reduceAdd, Nat.reduceEqDiff, reduceIte, *]; (try rfl); done)); (focus (first | rfl | (simp only [u1, Nat.reduceAdd, Nat.reduceEqDiff, reduceIte, *]; (try rfl); done)))) | (apply loadN_ref; (focus (simp only [u1, Nat.reduceAdd, Nat.reduceEqDiff, reduceIte, *]; (try rfl); done)); (focus rfl); (focus (simp only [u2]; (try rfl); done)))
        | (apply store_ref; (focus (first | rfl | (simp only [u3, u4, if_true, eq_self, reduceIte, *]; (try rfl); done))); (focus (simp only [u1, Nat.reduceAdd, Nat.reduceEqDiff, reduceIte, *]; (try rfl); done)); (focus rfl); (focus rfl); (focus (simp only [splice, List.set_cons_zero, List.set_cons_succ]; (try rfl); done)))
        | rfl | (simp only [u1, Nat.reduceAdd, Nat.reduceEqDiff, reduceIte, *]; (try rfl); done))))
  have hp := hbb
  refine q_pureB hG0 (wvalid_ok hS hL L) (by first | exact wN | (apply wG; (simp only [lk, Nat.reduceEqDiff, reduceIte, h0, h1]; (try rfl); done))) (by simp only [List.map, lk, Nat.reduceEqDiff, reduceIte, h0, h1]; try rfl) (fun bb hbb => ⟨by first | trivial | (simp only [Chks, wantedG, LOp.run, Env.put_some, Env.put_none, lk, sv1, sv2, sv3, Nat.reduceEqDiff, Nat.reduceAdd, Nat.reduceLeDiff, reduceIte, if_false, if_true, mkVal, unLV, List.map, optTmps, beq_self_eq_true, reduceCtorEq, false_or, true_and, and_true, Option.some.injEq, *]; done), ?_⟩)
  simp only [Env.put_some]
  cases bb <;> simp only [decide_eq_true_eq, decide_eq_false_iff_not] at hbb
  · repeat' (first
        | (apply qc_block)
        | (apply qc_seq)
        | (apply qc_region hm)
        | ((first | apply qc_skip | apply qc_exit | apply qc_ret | apply q_nil); try simp only [Thn, Blkd, reduceIte, Nat.reduceEqDiff, Nat.succ_ne_self])
        | (apply qc_condT; (focus (simp only [lk, Nat.reduceEqDiff, reduceIte, Bool.not_true, Bool.not_false, h0, h1]; (try rfl); done))) | (apply qc_condF; (focus (simp only [lk, Nat.reduceEqDiff, reduceIte, Bool.not_true, Bool.not_false, h0, h1]; (try rfl); done)))
        | ((first | apply u_skip | apply u_skipN); (focus (simp only [lk, Nat.reduceEqDiff, reduceIte, Bool.not_true, Bool.not_false, h0, h1]; (try rfl); done)); (focus rfl))
        | ((first | apply q_mv | apply u_alloc | apply u_bslice0 | apply u_faddr | apply u_load | apply u_len | apply u_ext | apply u_un | apply u_pick | apply u_field | apply u_conv | apply u_nilchk | apply u_box | apply u_boxR | apply u_bslice1 | apply u_mkfn | apply u_store | apply q_iaddr | apply u_mm | apply u_lss | apply u_leq | apply u_gtr | apply u_geq | apply u_eql | apply u_neq | apply q_eq | apply q_bin) <;> (first
          | exact wN | (apply wG; (simp only [lk, Nat.reduceEqDiff, reduceIte, Bool.not_true, Bool.not_false, h0, h1]; (try rfl); done)) | (show W _ _ _ _ _ _) | (show ∀ _, _; intro bb hbb; cases bb <;> (try simp only [decide_eq_true_eq, decide_eq_false_iff_not, bne_iff_ne, beq_iff_eq, ne_eq, bne_eq_false_iff_eq, beq_eq_false_iff_ne, Int.not_lt, Int.not_le, gt_iff_lt, ge_iff_le, Bool.not_eq_true, Bool.false_eq_true, if_false, reduceCtorEq] at hbb))
          | ((first | apply ev_I | apply map_I | apply at_I); (simp only [lk, Nat.reduceEqDiff, reduceIte, Bool.not_true, Bool.not_false, h0, h1]; (try rfl); done)) | (apply n_I; (simp only [u1, Nat.reduceAdd, Nat.reduceEqDiff, reduceIte, *]; (try rfl); done))
          | (apply cells_I; (first | rfl | (simp only [u3, u4, if_true, eq_self, reduceIte, *]; (try rfl); done))) | (apply closed_I; (first | assumption | (simp only [u5, eq_self, *]; done)))
          | (apply fa_I; simp only [faddrLV, Nat.zero_add, Nat.reduceAdd]; rfl)
          | (apply pick_I; simp only [pickB]; (try rfl); done) | (apply wrap_I; (first | assumption | (simp only [u1, Nat.reduceAdd, Nat.reduceEqDiff, reduceIte, *]; (try rfl); done) | rfl)) | exact mm_max | exact mm_min
          | (apply load_imm; (first | rfl | (simp only [u1, Nat.reduceAdd, Nat.reduceEqDiff, reduceIte, *]; (try rfl); done))) | (apply loadN_imm rfl; simp only [u2]; (try rfl); done)
          | (apply load_ref; (focus (simp only [u1, Nat.reduceAdd, Nat.reduceEqDiff, reduceIte, *]; (try rfl); done)); (focus (first | rfl | (simp only [u1, Nat.reduceAdd, Nat.reduceEqDiff, reduceIte, *]; (try rfl); done)))) | (apply loadN_ref; (focus (simp only [u1, Nat.reduceAdd, Nat.reduceEqDiff, reduceIte, *]; (try rfl); done)); (focus rfl); (focus (simp only [u2]; (try rfl); done)))
          | (apply store_ref; (focus (first | rfl | (simp only [u3, u4, if_true, eq_self, reduceIte, *]; (try rfl); done))); (focus (simp only [u1, Nat.reduceAdd, Nat.reduceEqDiff, reduceIte, *]; (try rfl); done)); (focus rfl); (focus rfl); (focus (simp only [splice, List.set_cons_zero, List.set_cons_succ]; (try rfl); done)))
          | rfl | (simp only [u1, Nat.reduceAdd, Nat.reduceEqDiff, reduceIte, *]; (try rfl); done))))
    refine ⟨.inr trivial, ?_⟩
    simp only [lk, sv1, sv2, sv3, Nat.reduceEqDiff, Nat.reduceAdd, Nat.reduceLeDiff, reduceIte, if_false, if_true, mkVal, unLV, List.map, optTmps]
    rw [decide_eq_false (fun h => hbb h.2)]; rfl
  have hwv := hbb
  repeat' (first
      | (apply qc_block)
      | (apply qc_seq)
      | (apply qc_region hm)
      | ((first | apply qc_skip | apply qc_exit | apply qc_ret | apply q_nil); try simp only [Thn, Blkd, reduceIte, Nat.reduceEqDiff, Nat.succ_ne_self])
      | (apply qc_condT; (focus (simp only [lk, Nat.reduceEqDiff, reduceIte, Bool.not_true, Bool.not_false, h0, h1]; (try rfl); done))) | (apply qc_condF; (focus (simp only [lk, Nat.reduceEqDiff, reduceIte, Bool.not_true, Bool.not_false, h0, h1]; (try rfl); done)))
      | ((first | apply u_skip | apply u_skipN); (focus (simp only [lk, Nat.reduceEqDiff, reduceIte, Bool.not_true, Bool.not_false, h0, h1]; (try rfl); done)); (focus rfl))
      | ((first | apply q_mv | apply u_alloc | apply u_bslice0 | apply u_faddr | apply u_load | apply u_len | apply u_ext | apply u_un | apply u_pick | apply u_field | apply u_conv | apply u_nilchk | apply u_box | apply u_boxR | apply u_bslice1 | apply u_mkfn | apply u_store | apply q_iaddr | apply u_mm | apply u_lss | apply u_leq | apply u_gtr | apply u_geq | apply u_eql | apply u_neq | apply q_eq | apply q_bin) <;> (first
        | exact wN | (apply wG; (simp only [lk, Nat.reduceEqDiff, reduceIte, Bool.not_true, Bool.not_false, h0, h1]; (try rfl); done)) | (show W _ _ _ _ _ _) | (show ∀ _, _; intro bb hbb; cases bb <;> (try simp only [decide_eq_true_eq, decide_eq_false_iff_not, bne_iff_ne, beq_iff_eq, ne_eq, bne_eq_false_iff_eq, beq_eq_false_iff_ne, Int.not_lt, Int.not_le, gt_iff_lt, ge_iff_le, Bool.not_eq_true, Bool.false_eq_true, if_false, reduceCtorEq] at hbb))
        | ((first | apply ev_I | apply map_I | apply at_I); (simp only [lk, Nat.reduceEqDiff, reduceIte, Bool.not_true, Bool.not_false, h0, h1]; (try rfl); done)) | (apply n_I; (simp only [u1, Nat.reduceAdd, Nat.reduceEqDiff, reduceIte, *]; (try rfl); done))
        | (apply cells_I; (first | rfl | (simp only [u3, u4, if_true, eq_self, reduceIte, *]; (try rfl); done))) | (apply closed_I; (first | assumption | (simp only [u5, eq_self, *]; done)))
        | (apply fa_I; simp only [faddrLV, Nat.zero_add, Nat.reduceAdd]; rfl)
        | (apply pick_I; simp only [pickB]; (try rfl); done) | (apply wrap_I; (first | assumption | (simp only [u1, Nat.reduceAdd, Nat.reduceEqDiff, reduceIte, *]; (try rfl); done) | rfl)) | exact mm_max | exact mm_min
        | (apply load_imm; (first | rfl | (simp only [u1, Nat.reduceAdd, Nat.reduceEqDiff, reduceIte, *]; (try rfl); done))) | (apply loadN_imm rfl; simp only [u2]; (try rfl); done)
        | (apply load_ref; (focus (simp only [u1, Nat.reduceAdd, Nat.reduceEqDiff, reduceIte, *]; (try rfl); done)); (focus (first | rfl | (simp only [u1, Nat.reduceAdd, Nat.reduceEqDiff, reduceIte, *]; (try rfl); done)))) | (apply loadN_ref; (focus (simp only [u1, Nat.reduceAdd, Nat.reduceEqDiff, reduceIte, *]; (try rfl); done)); (focus rfl); (focus (simp only [u2]; (try rfl); done)))
        | (apply store_ref; (focus (first | rfl | (simp only [u3, u4, if_true, eq_self, reduceIte, *]; (try rfl); done))); (focus (simp only [u1, Nat.reduceAdd, Nat.reduceEqDiff, reduceIte, *]; (try rfl); done)); (focus rfl); (focus rfl); (focus (simp only [splice, List.set_cons_zero, List.set_cons_succ]; (try rfl); done)))
        | rfl | (simp only [u1, Nat.reduceAdd, Nat.reduceEqDiff, reduceIte, *]; (try rfl); done))))
  have hS0 : ((S.toNat : Nat) : Int) = S := Int.toNat_of_nonneg hp.1.2.2.2.2.2.1
  have hSn : S.toNat < N.length := by have := hp.1.2.2.2.2.2.2; omega
  refine q_call wN (fv := .fn (.func 31) [] [.pimm [.int .i64 L, .int .i64 S, nx, pr] 0, .pref 0 0]) (vs := [st]) (by simp only [lk, sv1, sv2, sv3, Nat.reduceEqDiff, Nat.reduceAdd, Nat.reduceLeDiff, reduceIte, if_false, if_true, mkVal, unLV, List.map, optTmps]) (by simp only [lk, sv1, sv2, sv3, Nat.reduceEqDiff, Nat.reduceAdd, Nat.reduceLeDiff, reduceIte, if_false, if_true, mkVal, unLV, List.map, optTmps]) ?_
  refine CallOk.mono (read_ok hN hR hp hS hwv.2.1 (c := 0) (q := S.toNat) hSn (by rw [St.get_put, if_pos rfl, hS0])) fun v s1 hh => ?_
  obtain ⟨rfl, hn1, hg1, -⟩ := hh
  have hn1' : s1.n = 1 := hn1
  clear hn1
  refine ⟨trivial, ?_⟩
  simp only [Env.put_some]
  repeat' (first
      | (apply qc_block)
      | (apply qc_seq)
      | (apply qc_region hm)
      | ((first | apply qc_skip | apply qc_exit | apply qc_ret | apply q_nil); try simp only [Thn, Blkd, reduceIte, Nat.reduceEqDiff, Nat.succ_ne_self])
      | (apply qc_condT; (focus (simp only [lk, Nat.reduceEqDiff, reduceIte, Bool.not_true, Bool.not_false, h0, h1]; (try rfl); done))) | (apply qc_condF; (focus (simp only [lk, Nat.reduceEqDiff, reduceIte, Bool.not_true, Bool.not_false, h0, h1]; (try rfl); done)))
      | ((first | apply u_skip | apply u_skipN); (focus (simp only [lk, Nat.reduceEqDiff, reduceIte, Bool.not_true, Bool.not_false, h0, h1]; (try rfl); done)); (focus rfl))
      | ((first | apply q_mv | apply u_alloc | apply u_bslice0 | apply u_faddr | apply u_load | apply u_len | apply u_ext | apply u_un | apply u_pick | apply u_field | apply u_conv | apply u_nilchk | apply u_box | apply u_boxR | apply u_bslice1 | apply u_mkfn | apply u_store | apply q_iaddr | apply u_mm | apply u_lss | apply u_leq | apply u_gtr | apply u_geq | apply u_eql | apply u_neq | apply q_eq | apply q_bin) <;> (first
        | exact wN | (apply wG; (simp only [lk, Nat.reduceEqDiff, reduceIte, Bool.not_true, Bool.not_false, h0, h1]; (try rfl); done)) | (show W _ _ _ _ _ _) | (show ∀ _, _; intro bb hbb; cases bb <;> (try simp only [decide_eq_true_eq, decide_eq_false_iff_not, bne_iff_ne, beq_iff_eq, ne_eq, bne_eq_false_iff_eq, beq_eq_false_iff_ne, Int.not_lt, Int.not_le, gt_iff_lt, ge_iff_le, Bool.not_eq_true, Bool.false_eq_true, if_false, reduceCtorEq] at hbb))
        | ((first | apply ev_I | apply map_I | apply at_I); (simp only [lk, Nat.reduceEqDiff, reduceIte, Bool.not_true, Bool.not_false, h0, h1]; (try rfl); done)) | (apply n_I; (simp only [u1, Nat.reduceAdd, Nat.reduceEqDiff, reduceIte, *]; (try rfl); done))
        | (apply cells_I; (first | rfl | (simp only [u3, u4, if_true, eq_self, reduceIte, *]; (try rfl); done))) | (apply closed_I; (first | assumption | (simp only [u5, eq_self, *]; done)))
        | (apply fa_I; simp only [faddrLV, Nat.zero_add, Nat.reduceAdd]; rfl)
        | (apply pick_I; simp only [pickB]; (try rfl); done) | (apply wrap_I; (first | assumption | (simp only [u1, Nat.reduceAdd, Nat.reduceEqDiff, reduceIte, *]; (try rfl); done) | rfl)) | exact mm_max | exact mm_min
        | (apply load_imm; (first | rfl | (simp only [u1, Nat.reduceAdd, Nat.reduceEqDiff, reduceIte, *]; (try rfl); done))) | (apply loadN_imm rfl; simp only [u2]; (try rfl); done)
        | (apply load_ref; (focus (simp only [u1, Nat.reduceAdd, Nat.reduceEqDiff, reduceIte, *]; (try rfl); done)); (focus (first | rfl | (simp only [u1, Nat.reduceAdd, Nat.reduceEqDiff, reduceIte, *]; (try rfl); done)))) | (apply loadN_ref; (focus (simp only [u1, Nat.reduceAdd, Nat.reduceEqDiff, reduceIte, *]; (try rfl); done)); (focus rfl); (focus (simp only [u2]; (try rfl); done)))
        | (apply store_ref; (focus (first | rfl | (simp only [u3, u4, if_true, eq_self, reduceIte, *]; (try rfl); done))); (focus (simp only [u1, Nat.reduceAdd, Nat.reduceEqDiff, reduceIte, *]; (try rfl); done)); (focus rfl); (focus rfl); (focus (simp only [splice, List.set_cons_zero, List.set_cons_succ]; (try rfl); done)))
        | rfl | (simp only [u1, Nat.reduceAdd, Nat.reduceEqDiff, reduceIte, *]; (try rfl); done))))
  refine q_run0 (v := .mref 1) (s' := s1.new (.map [])) (by simp only [LOp.run, hn1']) ?_
  repeat' (first
      | (apply qc_block)
      | (apply qc_seq)
      | (apply qc_region hm)
      | ((first | apply qc_skip | apply qc_exit | apply qc_ret | apply q_nil); try simp only [Thn, Blkd, reduceIte, Nat.reduceEqDiff, Nat.succ_ne_self])
      | (apply qc_condT; (focus (simp only [lk, Nat.reduceEqDiff, reduceIte, Bool.not_true, Bool.not_false, h0, h1]; (try rfl); done))) | (apply qc_condF; (focus (simp only [lk, Nat.reduceEqDiff, reduceIte, Bool.not_true, Bool.not_false, h0, h1]; (try rfl); done)))
      | ((first | apply u_skip | apply u_skipN); (focus (simp only [lk, Nat.reduceEqDiff, reduceIte, Bool.not_true, Bool.not_false, h0, h1]; (try rfl); done)); (focus rfl))
      | ((first | apply q_mv | apply u_alloc | apply u_bslice0 | apply u_faddr | apply u_load | apply u_len | apply u_ext | apply u_un | apply u_pick | apply u_field | apply u_conv | apply u_nilchk | apply u_box | apply u_boxR | apply u_bslice1 | apply u_mkfn | apply u_store | apply q_iaddr | apply u_mm | apply u_lss | apply u_leq | apply u_gtr | apply u_geq | apply u_eql | apply u_neq | apply q_eq | apply q_bin) <;> (first
        | exact wN | (apply wG; (simp only [lk, Nat.reduceEqDiff, reduceIte, Bool.not_true, Bool.not_false, h0, h1]; (try rfl); done)) | (show W _ _ _ _ _ _) | (show ∀ _, _; intro bb hbb; cases bb <;> (try simp only [decide_eq_true_eq, decide_eq_false_iff_not, bne_iff_ne, beq_iff_eq, ne_eq, bne_eq_false_iff_eq, beq_eq_false_iff_ne, Int.not_lt, Int.not_le, gt_iff_lt, ge_iff_le, Bool.not_eq_true, Bool.false_eq_true, if_false, reduceCtorEq] at hbb))
        | ((first | apply ev_I | apply map_I | apply at_I); (simp only [lk, Nat.reduceEqDiff, reduceIte, Bool.not_true, Bool.not_false, h0, h1]; (try rfl); done)) | (apply n_I; (simp only [u1, Nat.reduceAdd, Nat.reduceEqDiff, reduceIte, *]; (try rfl); done))
        | (apply cells_I; (first | rfl | (simp only [u3, u4, if_true, eq_self, reduceIte, *]; (try rfl); done))) | (apply closed_I; (first | assumption | (simp only [u5, eq_self, *]; done)))
        | (apply fa_I; simp only [faddrLV, Nat.zero_add, Nat.reduceAdd]; rfl)
        | (apply pick_I; simp only [pickB]; (try rfl); done) | (apply wrap_I; (first | assumption | (simp only [u1, Nat.reduceAdd, Nat.reduceEqDiff, reduceIte, *]; (try rfl); done) | rfl)) | exact mm_max | exact mm_min
        | (apply load_imm; (first | rfl | (simp only [u1, Nat.reduceAdd, Nat.reduceEqDiff, reduceIte, *]; (try rfl); done))) | (apply loadN_imm rfl; simp only [u2]; (try rfl); done)
        | (apply load_ref; (focus (simp only [u1, Nat.reduceAdd, Nat.reduceEqDiff, reduceIte, *]; (try rfl); done)); (focus (first | rfl | (simp only [u1, Nat.reduceAdd, Nat.reduceEqDiff, reduceIte, *]; (try rfl); done)))) | (apply loadN_ref; (focus (simp only [u1, Nat.reduceAdd, Nat.reduceEqDiff, reduceIte, *]; (try rfl); done)); (focus rfl); (focus (simp only [u2]; (try rfl); done)))
        | (apply store_ref; (focus (first | rfl | (simp only [u3, u4, if_true, eq_self, reduceIte, *]; (try rfl); done))); (focus (simp only [u1, Nat.reduceAdd, Nat.reduceEqDiff, reduceIte, *]; (try rfl); done)); (focus rfl); (focus rfl); (focus (simp only [splice, List.set_cons_zero, List.set_cons_succ]; (try rfl); done)))
        | rfl | (simp only [u1, Nat.reduceAdd, Nat.reduceEqDiff, reduceIte, *]; (try rfl); done))))
  have hq0 : runQ N sl S.toNat < N.length := runQ_lt hp hSn hwv.2.1.mem
  have hNl : N.length ≤ 3000 := hp.1.2.2.2.1
  generalize hT : wv (runQ N ll) (fun q => minR N R ll q 20000) (N.length + 1) [] (runQ N sl S.toNat) = T
  refine qc_loop (fun n e s => ∃ (qs : List Nat) (q : Nat) (acc : LV), qs.length + n = N.length + 1 ∧ q < N.length ∧ qs.Nodup ∧ (∀ x ∈ qs, x < N.length) ∧ e.at 3 = .pimm [st, lo] 0 ∧ e.at 5 = .pref 0 0 ∧ e.at 6 = .fn (.func 31) [] [.pimm [.int .i64 L, .int .i64 S, nx, pr] 0, .pref 0 0] ∧ e.at 7 = acc ∧ e.at 8 = .mref 1 ∧
      1 < s.n ∧ s.get 0 = some (.cells .mut [.int .i64 (q : Int)]) ∧ s.get 1 = some (.map (ent 0 qs)) ∧ AccI (qs.map fun q => minR N R ll q 20000) s acc ∧
      wv (runQ N ll) (fun q => minR N R ll q 20000) n qs q = T) (N.length + 1)
    ⟨[], runQ N sl S.toNat, .nils, by simp, hq0, List.nodup_nil, fun x hx => (by cases hx), by simp, by simp, by simp, by simp, by simp, by simp [hn1'], by rw [St.get_new, if_neg (by omega)]; exact hg1, by rw [St.get_new, if_pos hn1'.symm]; rfl, .inl ⟨rfl, rfl⟩, hT⟩ ?_
  rintro n e s ⟨qs, q, acc, hlen, hq, hnd, hall, e3, e5, e6, e7, e8, hn, hs0, hs1, hacc, hwvq⟩
  have hpig := pigeon _ _ hnd hall
  obtain ⟨f, rfl⟩ : ∃ f, n = f + 1 := ⟨n - 1, by omega⟩
  have hal := hacc.len
  have hac := hacc.cell
  repeat' (first
      | (apply qc_block)
      | (apply qc_seq)
      | (apply qc_region hm)
      | ((first | apply qc_skip | apply qc_exit | apply qc_ret | apply q_nil); try simp only [Thn, Blkd, reduceIte, Nat.reduceEqDiff, Nat.succ_ne_self])
      | (apply qc_condT; (focus (simp only [lk, Nat.reduceEqDiff, reduceIte, Bool.not_true, Bool.not_false, e3, e5, e6, e7, e8]; (try rfl); done))) | (apply qc_condF; (focus (simp only [lk, Nat.reduceEqDiff, reduceIte, Bool.not_true, Bool.not_false, e3, e5, e6, e7, e8]; (try rfl); done)))
      | ((first | apply u_skip | apply u_skipN); (focus (simp only [lk, Nat.reduceEqDiff, reduceIte, Bool.not_true, Bool.not_false, e3, e5, e6, e7, e8]; (try rfl); done)); (focus rfl))
      | ((first | apply q_mv | apply u_alloc | apply u_bslice0 | apply u_faddr | apply u_load | apply u_len | apply u_ext | apply u_un | apply u_pick | apply u_field | apply u_conv | apply u_nilchk | apply u_box | apply u_boxR | apply u_bslice1 | apply u_mkfn | apply u_store | apply q_iaddr | apply u_mm | apply u_lss | apply u_leq | apply u_gtr | apply u_geq | apply u_eql | apply u_neq | apply q_eq | apply q_bin) <;> (first
        | exact wN | (apply wG; (simp only [lk, Nat.reduceEqDiff, reduceIte, Bool.not_true, Bool.not_false, e3, e5, e6, e7, e8]; (try rfl); done)) | (show W _ _ _ _ _ _) | (show ∀ _, _; intro bb hbb; cases bb <;> (try simp only [decide_eq_true_eq, decide_eq_false_iff_not, bne_iff_ne, beq_iff_eq, ne_eq, bne_eq_false_iff_eq, beq_eq_false_iff_ne, Int.not_lt, Int.not_le, gt_iff_lt, ge_iff_le, Bool.not_eq_true, Bool.false_eq_true, if_false, reduceCtorEq] at hbb))
        | ((first | apply ev_I | apply map_I | apply at_I); (simp only [lk, Nat.reduceEqDiff, reduceIte, Bool.not_true, Bool.not_false, e3, e5, e6, e7, e8]; (try rfl); done)) | (apply n_I; (simp only [u1, Nat.reduceAdd, Nat.reduceEqDiff, reduceIte, hal, *]; (try rfl); done))
        | (apply cells_I; (first | rfl | (simp only [u3, u4, if_true, eq_self, reduceIte, *]; (try rfl); done))) | (apply closed_I; (first | assumption | (simp only [u5, eq_self, *]; done)))
        | (apply fa_I; simp only [faddrLV, Nat.zero_add, Nat.reduceAdd]; rfl)
        | (apply pick_I; simp only [pickB]; (try rfl); done) | (apply wrap_I; (first | assumption | (simp only [u1, Nat.reduceAdd, Nat.reduceEqDiff, reduceIte, hal, *]; (try rfl); done) | rfl)) | exact mm_max | exact mm_min
        | (apply load_imm; (first | rfl | (simp only [u1, Nat.reduceAdd, Nat.reduceEqDiff, reduceIte, hal, *]; (try rfl); done))) | (apply loadN_imm rfl; simp only [u2]; (try rfl); done)
        | (apply load_ref; (focus (simp only [u1, Nat.reduceAdd, Nat.reduceEqDiff, reduceIte, hal, *]; (try rfl); done)); (focus (first | rfl | (simp only [u1, Nat.reduceAdd, Nat.reduceEqDiff, reduceIte, hal, *]; (try rfl); done)))) | (apply loadN_ref; (focus (simp only [u1, Nat.reduceAdd, Nat.reduceEqDiff, reduceIte, hal, *]; (try rfl); done)); (focus rfl); (focus (simp only [u2]; (try rfl); done)))
        | (apply store_ref; (focus (first | rfl | (simp only [u3, u4, if_true, eq_self, reduceIte, *]; (try rfl); done))); (focus (simp only [u1, Nat.reduceAdd, Nat.reduceEqDiff, reduceIte, hal, *]; (try rfl); done)); (focus rfl); (focus rfl); (focus (simp only [splice, List.set_cons_zero, List.set_cons_succ]; (try rfl); done)))
        | rfl | (simp only [u1, Nat.reduceAdd, Nat.reduceEqDiff, reduceIte, hal, *]; (try rfl); done))))
  have hmf := mfind_ent q qs 0 0
  simp only [wv] at hwvq
  cases hf : fnd q qs 0 with
  | some j =>
    rw [hf] at hmf hwvq
    simp only [Option.map_some] at hmf hwvq
    obtain ⟨-, hj⟩ := fnd_some hf
    refine q_run0 (v := .tup [.int .i64 (j : Int), .bool true]) (s' := s) (by simp only [LOp.run, keyOk, beq_self_eq_true, lk, sv1, sv2, sv3, Nat.reduceEqDiff, Nat.reduceAdd, Nat.reduceLeDiff, reduceIte, if_false, if_true, mkVal, unLV, List.map, optTmps, e8, hs1, hmf]) ?_
    repeat' (first
        | (apply qc_block)
        | (apply qc_seq)
        | (apply qc_region hm)
        | ((first | apply qc_skip | apply qc_exit | apply qc_ret | apply q_nil); try simp only [Thn, Blkd, reduceIte, Nat.reduceEqDiff, Nat.succ_ne_self])
        | (apply qc_condT; (focus (simp only [lk, Nat.reduceEqDiff, reduceIte, Bool.not_true, Bool.not_false, e3, e5, e6, e7, e8]; (try rfl); done))) | (apply qc_condF; (focus (simp only [lk, Nat.reduceEqDiff, reduceIte, Bool.not_true, Bool.not_false, e3, e5, e6, e7, e8]; (try rfl); done)))
        | ((first | apply u_skip | apply u_skipN); (focus (simp only [lk, Nat.reduceEqDiff, reduceIte, Bool.not_true, Bool.not_false, e3, e5, e6, e7, e8]; (try rfl); done)); (focus rfl))
        | ((first | apply q_mv | apply u_alloc | apply u_bslice0 | apply u_faddr | apply u_load | apply u_len | apply u_ext | apply u_un | apply u_pick | apply u_field | apply u_conv | apply u_nilchk | apply u_box | apply u_boxR | apply u_bslice1 | apply u_mkfn | apply u_store | apply q_iaddr | apply u_mm | apply u_lss | apply u_leq | apply u_gtr | apply u_geq | apply u_eql | apply u_neq | apply q_eq | apply q_bin) <;> (first
          | exact wN | (apply wG; (simp only [lk, Nat.reduceEqDiff, reduceIte, Bool.not_true, Bool.not_false, e3, e5, e6, e7, e8]; (try rfl); done)) | (show W _ _ _ _ _ _) | (show ∀ _, _; intro bb hbb; cases bb <;> (try simp only [decide_eq_true_eq, decide_eq_false_iff_not, bne_iff_ne, beq_iff_eq, ne_eq, bne_eq_false_iff_eq, beq_eq_false_iff_ne, Int.not_lt, Int.not_le, gt_iff_lt, ge_iff_le, Bool.not_eq_true, Bool.false_eq_true, if_false, reduceCtorEq] at hbb))
          | ((first | apply ev_I | apply map_I | apply at_I); (simp only [lk, Nat.reduceEqDiff, reduceIte, Bool.not_true, Bool.not_false, e3, e5, e6, e7, e8]; (try rfl); done)) | (apply n_I; (simp only [u1, Nat.reduceAdd, Nat.reduceEqDiff, reduceIte, hal, *]; (try rfl); done))
          | (apply cells_I; (first | rfl | (simp only [u3, u4, if_true, eq_self, reduceIte, *]; (try rfl); done))) | (apply closed_I; (first | assumption | (simp only [u5, eq_self, *]; done)))
          | (apply fa_I; simp only [faddrLV, Nat.zero_add, Nat.reduceAdd]; rfl)
          | (apply pick_I; simp only [pickB]; (try rfl); done) | (apply wrap_I; (first | assumption | (simp only [u1, Nat.reduceAdd, Nat.reduceEqDiff, reduceIte, hal, *]; (try rfl); done) | rfl)) | exact mm_max | exact mm_min
          | (apply load_imm; (first | rfl | (simp only [u1, Nat.reduceAdd, Nat.reduceEqDiff, reduceIte, hal, *]; (try rfl); done))) | (apply loadN_imm rfl; simp only [u2]; (try rfl); done)
          | (apply load_ref; (focus (simp only [u1, Nat.reduceAdd, Nat.reduceEqDiff, reduceIte, hal, *]; (try rfl); done)); (focus (first | rfl | (simp only [u1, Nat.reduceAdd, Nat.reduceEqDiff, reduceIte, hal, *]; (try rfl); done)))) | (apply loadN_ref; (focus (simp only [u1, Nat.reduceAdd, Nat.reduceEqDiff, reduceIte, hal, *]; (try rfl); done)); (focus rfl); (focus (simp only [u2]; (try rfl); done)))
          | (apply store_ref; (focus (first | rfl | (simp only [u3, u4, if_true, eq_self, reduceIte, *]; (try rfl); done))); (focus (simp only [u1, Nat.reduceAdd, Nat.reduceEqDiff, reduceIte, hal, *]; (try rfl); done)); (focus rfl); (focus rfl); (focus (simp only [splice, List.set_cons_zero, List.set_cons_succ]; (try rfl); done)))
          | rfl | (simp only [u1, Nat.reduceAdd, Nat.reduceEqDiff, reduceIte, hal, *]; (try rfl); done))))
    have hlq : (qs.map fun q => minR N R ll q 20000).length = qs.length := by simp
    generalize hls : (qs.map fun q => minR N R ll q 20000) = ls at *
    have hrng : ∀ x ∈ ls, inI64 x := fun x hx => by
      rw [← hls] at hx
      obtain ⟨y, hy, rfl⟩ := List.mem_map.1 hx
      have := minR_rng hp (l := ll) (m := 20000) (hall y hy) hwv.2.2.mem (by omega) (by omega)
      constructor <;> omega
    rcases hacc with ⟨h1, -⟩ | ⟨h1, id, hid1, hid2, rfl, hsid⟩
    · rw [h1] at hlq; simp at hlq; omega
    have hjl : (j : Int) ≤ (ls.length : Int) := by omega
    refine q_run0 (v := .sref id j (ls.length - j) 1) (s' := s) (by simp only [LOp.run, lk, sv1, sv2, sv3, Nat.reduceEqDiff, Nat.reduceAdd, Nat.reduceLeDiff, reduceIte, if_false, if_true, mkVal, unLV, List.map, optTmps, bndOf, Option.map_none, Int.natCast_nonneg, true_and, hjl, and_self, Int.toNat_natCast]) ?_
    have hmx : (3001 : Nat) ≤ maxLen := by decide
    have hjn : j < ls.length := by omega
    have hmi : IsInts (.simm ((ints ls).drop j) (ls.length - j)) (ls.drop j) := by
      refine ⟨?_, by simp; omega, fun x hx => hrng x (List.mem_of_mem_drop hx)⟩
      have : ints (ls.drop j) = (ints ls).drop j := by simp [ints, List.map_drop]
      rw [this, List.length_drop]
      exact .simm _ _
    refine q_call wN (fv := .fn (.func 32) [] []) (vs := [.sref id j (ls.length - j) 1]) (by simp only [lk, sv1, sv2, sv3, Nat.reduceEqDiff, Nat.reduceAdd, Nat.reduceLeDiff, reduceIte, if_false, if_true, mkVal, unLV, List.map, optTmps]) (by simp only [lk, sv1, sv2, sv3, Nat.reduceEqDiff, Nat.reduceAdd, Nat.reduceLeDiff, reduceIte, if_false, if_true, mkVal, unLV, List.map, optTmps]) ?_
    refine call_frz (args' := [.simm ((ints ls).drop j) (ls.length - j)]) (s' := s.put id (.cells .app (ints ls))) (by
      have hoff : j + (ls.length - j) = (ints ls).length := by rw [ints_length]; omega
      simp [frz.frzAll, frz_srefO hsid hoff (ints_closed _)]) ?_
    refine pure_call hG0 (min_ok hmi (by simp; omega)) ⟨trivial, ?_⟩
    simp only [Env.put_some]
    repeat' (first
        | (apply qc_block)
        | (apply qc_seq)
        | (apply qc_region hm)
        | ((first | apply qc_skip | apply qc_exit | apply qc_ret | apply q_nil); try simp only [Thn, Blkd, reduceIte, Nat.reduceEqDiff, Nat.succ_ne_self])
        | (apply qc_condT; (focus (simp only [lk, Nat.reduceEqDiff, reduceIte, Bool.not_true, Bool.not_false, e3, e5, e6, e7, e8]; (try rfl); done))) | (apply qc_condF; (focus (simp only [lk, Nat.reduceEqDiff, reduceIte, Bool.not_true, Bool.not_false, e3, e5, e6, e7, e8]; (try rfl); done)))
        | ((first | apply u_skip | apply u_skipN); (focus (simp only [lk, Nat.reduceEqDiff, reduceIte, Bool.not_true, Bool.not_false, e3, e5, e6, e7, e8]; (try rfl); done)); (focus rfl))
        | ((first | apply q_mv | apply u_alloc | apply u_bslice0 | apply u_faddr | apply u_load | apply u_len | apply u_ext | apply u_un | apply u_pick | apply u_field | apply u_conv | apply u_nilchk | apply u_box | apply u_boxR | apply u_bslice1 | apply u_mkfn | apply u_store | apply q_iaddr | apply u_mm | apply u_lss | apply u_leq | apply u_gtr | apply u_geq | apply u_eql | apply u_neq | apply q_eq | apply q_bin) <;> (first
          | exact wN | (apply wG; (simp only [lk, Nat.reduceEqDiff, reduceIte, Bool.not_true, Bool.not_false, e3, e5, e6, e7, e8]; (try rfl); done)) | (show W _ _ _ _ _ _) | (show ∀ _, _; intro bb hbb; cases bb <;> (try simp only [decide_eq_true_eq, decide_eq_false_iff_not, bne_iff_ne, beq_iff_eq, ne_eq, bne_eq_false_iff_eq, beq_eq_false_iff_ne, Int.not_lt, Int.not_le, gt_iff_lt, ge_iff_le, Bool.not_eq_true, Bool.false_eq_true, if_false, reduceCtorEq] at hbb))
          | ((first | apply ev_I | apply map_I | apply at_I); (simp only [lk, Nat.reduceEqDiff, reduceIte, Bool.not_true, Bool.not_false, e3, e5, e6, e7, e8]; (try rfl); done)) | (apply n_I; (simp only [u1, Nat.reduceAdd, Nat.reduceEqDiff, reduceIte, hal, *]; (try rfl); done))
          | (apply cells_I; (first | rfl | (simp only [u3, u4, if_true, eq_self, reduceIte, *]; (try rfl); done))) | (apply closed_I; (first | assumption | (simp only [u5, eq_self, *]; done)))
          | (apply fa_I; simp only [faddrLV, Nat.zero_add, Nat.reduceAdd]; rfl)
          | (apply pick_I; simp only [pickB]; (try rfl); done) | (apply wrap_I; (first | assumption | (simp only [u1, Nat.reduceAdd, Nat.reduceEqDiff, reduceIte, hal, *]; (try rfl); done) | rfl)) | exact mm_max | exact mm_min
          | (apply load_imm; (first | rfl | (simp only [u1, Nat.reduceAdd, Nat.reduceEqDiff, reduceIte, hal, *]; (try rfl); done))) | (apply loadN_imm rfl; simp only [u2]; (try rfl); done)
          | (apply load_ref; (focus (simp only [u1, Nat.reduceAdd, Nat.reduceEqDiff, reduceIte, hal, *]; (try rfl); done)); (focus (first | rfl | (simp only [u1, Nat.reduceAdd, Nat.reduceEqDiff, reduceIte, hal, *]; (try rfl); done)))) | (apply loadN_ref; (focus (simp only [u1, Nat.reduceAdd, Nat.reduceEqDiff, reduceIte, hal, *]; (try rfl); done)); (focus rfl); (focus (simp only [u2]; (try rfl); done)))
          | (apply store_ref; (focus (first | rfl | (simp only [u3, u4, if_true, eq_self, reduceIte, *]; (try rfl); done))); (focus (simp only [u1, Nat.reduceAdd, Nat.reduceEqDiff, reduceIte, hal, *]; (try rfl); done)); (focus rfl); (focus rfl); (focus (simp only [splice, List.set_cons_zero, List.set_cons_succ]; (try rfl); done)))
          | rfl | (simp only [u1, Nat.reduceAdd, Nat.reduceEqDiff, reduceIte, hal, *]; (try rfl); done))))
    all_goals
      refine ⟨.inr trivial, ?_⟩
      simp only [lk, sv1, sv2, sv3, Nat.reduceEqDiff, Nat.reduceAdd, Nat.reduceLeDiff, reduceIte, if_false, if_true, mkVal, unLV, List.map, optTmps]
      rw [decide_eq_true ⟨hp, hwv⟩, Bool.true_and, ← hwvq]
      first | exact bool_t hbb | exact bool_f hbb
  | none =>
    rw [hf] at hmf hwvq
    simp only [Option.map_none] at hmf hwvq
    refine q_run0 (v := .tup [.int .i64 0, .bool false]) (s' := s) (by simp only [LOp.run, keyOk, beq_self_eq_true, lk, sv1, sv2, sv3, Nat.reduceEqDiff, Nat.reduceAdd, Nat.reduceLeDiff, reduceIte, if_false, if_true, mkVal, unLV, List.map, optTmps, e8, hs1, hmf]) ?_
    repeat' (first
        | (apply qc_block)
        | (apply qc_seq)
        | (apply qc_region hm)
        | ((first | apply qc_skip | apply qc_exit | apply qc_ret | apply q_nil); try simp only [Thn, Blkd, reduceIte, Nat.reduceEqDiff, Nat.succ_ne_self])
        | (apply qc_condT; (focus (simp only [lk, Nat.reduceEqDiff, reduceIte, Bool.not_true, Bool.not_false, e3, e5, e6, e7, e8]; (try rfl); done))) | (apply qc_condF; (focus (simp only [lk, Nat.reduceEqDiff, reduceIte, Bool.not_true, Bool.not_false, e3, e5, e6, e7, e8]; (try rfl); done)))
        | ((first | apply u_skip | apply u_skipN); (focus (simp only [lk, Nat.reduceEqDiff, reduceIte, Bool.not_true, Bool.not_false, e3, e5, e6, e7, e8]; (try rfl); done)); (focus rfl))
        | ((first | apply q_mv | apply u_alloc | apply u_bslice0 | apply u_faddr | apply u_load | apply u_len | apply u_ext | apply u_un | apply u_pick | apply u_field | apply u_conv | apply u_nilchk | apply u_box | apply u_boxR | apply u_bslice1 | apply u_mkfn | apply u_store | apply q_iaddr | apply u_mm | apply u_lss | apply u_leq | apply u_gtr | apply u_geq | apply u_eql | apply u_neq | apply q_eq | apply q_bin) <;> (first
          | exact wN | (apply wG; (simp only [lk, Nat.reduceEqDiff, reduceIte, Bool.not_true, Bool.not_false, e3, e5, e6, e7, e8]; (try rfl); done)) | (show W _ _ _ _ _ _) | (show ∀ _, _; intro bb hbb; cases bb <;> (try simp only [decide_eq_true_eq, decide_eq_false_iff_not, bne_iff_ne, beq_iff_eq, ne_eq, bne_eq_false_iff_eq, beq_eq_false_iff_ne, Int.not_lt, Int.not_le, gt_iff_lt, ge_iff_le, Bool.not_eq_true, Bool.false_eq_true, if_false, reduceCtorEq] at hbb))
          | ((first | apply ev_I | apply map_I | apply at_I); (simp only [lk, Nat.reduceEqDiff, reduceIte, Bool.not_true, Bool.not_false, e3, e5, e6, e7, e8]; (try rfl); done)) | (apply n_I; (simp only [u1, Nat.reduceAdd, Nat.reduceEqDiff, reduceIte, hal, *]; (try rfl); done))
          | (apply cells_I; (first | rfl | (simp only [u3, u4, if_true, eq_self, reduceIte, *]; (try rfl); done))) | (apply closed_I; (first | assumption | (simp only [u5, eq_self, *]; done)))
          | (apply fa_I; simp only [faddrLV, Nat.zero_add, Nat.reduceAdd]; rfl)
          | (apply pick_I; simp only [pickB]; (try rfl); done) | (apply wrap_I; (first | assumption | (simp only [u1, Nat.reduceAdd, Nat.reduceEqDiff, reduceIte, hal, *]; (try rfl); done) | rfl)) | exact mm_max | exact mm_min
          | (apply load_imm; (first | rfl | (simp only [u1, Nat.reduceAdd, Nat.reduceEqDiff, reduceIte, hal, *]; (try rfl); done))) | (apply loadN_imm rfl; simp only [u2]; (try rfl); done)
          | (apply load_ref; (focus (simp only [u1, Nat.reduceAdd, Nat.reduceEqDiff, reduceIte, hal, *]; (try rfl); done)); (focus (first | rfl | (simp only [u1, Nat.reduceAdd, Nat.reduceEqDiff, reduceIte, hal, *]; (try rfl); done)))) | (apply loadN_ref; (focus (simp only [u1, Nat.reduceAdd, Nat.reduceEqDiff, reduceIte, hal, *]; (try rfl); done)); (focus rfl); (focus (simp only [u2]; (try rfl); done)))
          | (apply store_ref; (focus (first | rfl | (simp only [u3, u4, if_true, eq_self, reduceIte, *]; (try rfl); done))); (focus (simp only [u1, Nat.reduceAdd, Nat.reduceEqDiff, reduceIte, hal, *]; (try rfl); done)); (focus rfl); (focus rfl); (focus (simp only [splice, List.set_cons_zero, List.set_cons_succ]; (try rfl); done)))
          | rfl | (simp only [u1, Nat.reduceAdd, Nat.reduceEqDiff, reduceIte, hal, *]; (try rfl); done))))
    have hkk : mfind (.int .i64) (.int .i64 (q : Int)) (ent 0 qs) 0 = some none := hmf
    refine q_runN (v := zeroVal) (s' := s.put 1 (.map (ent 0 (qs ++ [q])))) (by simp only [LOp.run, keyOk, beq_self_eq_true, lk, sv1, sv2, sv3, Nat.reduceEqDiff, Nat.reduceAdd, Nat.reduceLeDiff, reduceIte, if_false, if_true, mkVal, unLV, List.map, optTmps, e8, hs1, hkk]; rw [← ent_snoc]; simp) ?_
    repeat' (first
        | (apply qc_block)
        | (apply qc_seq)
        | (apply qc_region hm)
        | ((first | apply qc_skip | apply qc_exit | apply qc_ret | apply q_nil); try simp only [Thn, Blkd, reduceIte, Nat.reduceEqDiff, Nat.succ_ne_self])
        | (apply qc_condT; (focus (simp only [lk, Nat.reduceEqDiff, reduceIte, Bool.not_true, Bool.not_false, e3, e5, e6, e7, e8]; (try rfl); done))) | (apply qc_condF; (focus (simp only [lk, Nat.reduceEqDiff, reduceIte, Bool.not_true, Bool.not_false, e3, e5, e6, e7, e8]; (try rfl); done)))
        | ((first | apply u_skip | apply u_skipN); (focus (simp only [lk, Nat.reduceEqDiff, reduceIte, Bool.not_true, Bool.not_false, e3, e5, e6, e7, e8]; (try rfl); done)); (focus rfl))
        | ((first | apply q_mv | apply u_alloc | apply u_bslice0 | apply u_faddr | apply u_load | apply u_len | apply u_ext | apply u_un | apply u_pick | apply u_field | apply u_conv | apply u_nilchk | apply u_box | apply u_boxR | apply u_bslice1 | apply u_mkfn | apply u_store | apply q_iaddr | apply u_mm | apply u_lss | apply u_leq | apply u_gtr | apply u_geq | apply u_eql | apply u_neq | apply q_eq | apply q_bin) <;> (first
          | exact wN | (apply wG; (simp only [lk, Nat.reduceEqDiff, reduceIte, Bool.not_true, Bool.not_false, e3, e5, e6, e7, e8]; (try rfl); done)) | (show W _ _ _ _ _ _) | (show ∀ _, _; intro bb hbb; cases bb <;> (try simp only [decide_eq_true_eq, decide_eq_false_iff_not, bne_iff_ne, beq_iff_eq, ne_eq, bne_eq_false_iff_eq, beq_eq_false_iff_ne, Int.not_lt, Int.not_le, gt_iff_lt, ge_iff_le, Bool.not_eq_true, Bool.false_eq_true, if_false, reduceCtorEq] at hbb))
          | ((first | apply ev_I | apply map_I | apply at_I); (simp only [lk, Nat.reduceEqDiff, reduceIte, Bool.not_true, Bool.not_false, e3, e5, e6, e7, e8]; (try rfl); done)) | (apply n_I; (simp only [u1, Nat.reduceAdd, Nat.reduceEqDiff, reduceIte, hal, *]; (try rfl); done))
          | (apply cells_I; (first | rfl | (simp only [u3, u4, if_true, eq_self, reduceIte, *]; (try rfl); done))) | (apply closed_I; (first | assumption | (simp only [u5, eq_self, *]; done)))
          | (apply fa_I; simp only [faddrLV, Nat.zero_add, Nat.reduceAdd]; rfl)
          | (apply pick_I; simp only [pickB]; (try rfl); done) | (apply wrap_I; (first | assumption | (simp only [u1, Nat.reduceAdd, Nat.reduceEqDiff, reduceIte, hal, *]; (try rfl); done) | rfl)) | exact mm_max | exact mm_min
          | (apply load_imm; (first | rfl | (simp only [u1, Nat.reduceAdd, Nat.reduceEqDiff, reduceIte, hal, *]; (try rfl); done))) | (apply loadN_imm rfl; simp only [u2]; (try rfl); done)
          | (apply load_ref; (focus (simp only [u1, Nat.reduceAdd, Nat.reduceEqDiff, reduceIte, hal, *]; (try rfl); done)); (focus (first | rfl | (simp only [u1, Nat.reduceAdd, Nat.reduceEqDiff, reduceIte, hal, *]; (try rfl); done)))) | (apply loadN_ref; (focus (simp only [u1, Nat.reduceAdd, Nat.reduceEqDiff, reduceIte, hal, *]; (try rfl); done)); (focus rfl); (focus (simp only [u2]; (try rfl); done)))
          | (apply store_ref; (focus (first | rfl | (simp only [u3, u4, if_true, eq_self, reduceIte, *]; (try rfl); done))); (focus (simp only [u1, Nat.reduceAdd, Nat.reduceEqDiff, reduceIte, hal, *]; (try rfl); done)); (focus rfl); (focus rfl); (focus (simp only [splice, List.set_cons_zero, List.set_cons_succ]; (try rfl); done)))
          | rfl | (simp only [u1, Nat.reduceAdd, Nat.reduceEqDiff, reduceIte, hal, *]; (try rfl); done))))
    refine q_call wN (fv := .fn (.func 31) [] [.pimm [.int .i64 L, .int .i64 S, nx, pr] 0, .pref 0 0]) (vs := [lo]) (by simp only [lk, sv1, sv2, sv3, Nat.reduceEqDiff, Nat.reduceAdd, Nat.reduceLeDiff, reduceIte, if_false, if_true, mkVal, unLV, List.map, optTmps, e6]) (by simp only [lk, sv1, sv2, sv3, Nat.reduceEqDiff, Nat.reduceAdd, Nat.reduceLeDiff, reduceIte, if_false, if_true, mkVal, unLV, List.map, optTmps]) ?_
    refine CallOk.mono (read_ok hN hR hp hL hwv.2.2 (c := 0) (q := q) hq (by rw [St.get_put, if_neg (by omega)]; exact hs0)) fun v s2 hh => ?_
    obtain ⟨rfl, hn2, hg2, hold2⟩ := hh
    have hn2' : s2.n = s.n := hn2
    clear hn2
    refine ⟨trivial, ?_⟩
    simp only [Env.put_some]
    repeat' (first
        | (apply qc_block)
        | (apply qc_seq)
        | (apply qc_region hm)
        | ((first | apply qc_skip | apply qc_exit | apply qc_ret | apply q_nil); try simp only [Thn, Blkd, reduceIte, Nat.reduceEqDiff, Nat.succ_ne_self])
        | (apply qc_condT; (focus (simp only [lk, Nat.reduceEqDiff, reduceIte, Bool.not_true, Bool.not_false, e3, e5, e6, e7, e8]; (try rfl); done))) | (apply qc_condF; (focus (simp only [lk, Nat.reduceEqDiff, reduceIte, Bool.not_true, Bool.not_false, e3, e5, e6, e7, e8]; (try rfl); done)))
        | ((first | apply u_skip | apply u_skipN); (focus (simp only [lk, Nat.reduceEqDiff, reduceIte, Bool.not_true, Bool.not_false, e3, e5, e6, e7, e8]; (try rfl); done)); (focus rfl))
        | ((first | apply q_mv | apply u_alloc | apply u_bslice0 | apply u_faddr | apply u_load | apply u_len | apply u_ext | apply u_un | apply u_pick | apply u_field | apply u_conv | apply u_nilchk | apply u_box | apply u_boxR | apply u_bslice1 | apply u_mkfn | apply u_store | apply q_iaddr | apply u_mm | apply u_lss | apply u_leq | apply u_gtr | apply u_geq | apply u_eql | apply u_neq | apply q_eq | apply q_bin) <;> (first
          | exact wN | (apply wG; (simp only [lk, Nat.reduceEqDiff, reduceIte, Bool.not_true, Bool.not_false, e3, e5, e6, e7, e8]; (try rfl); done)) | (show W _ _ _ _ _ _) | (show ∀ _, _; intro bb hbb; cases bb <;> (try simp only [decide_eq_true_eq, decide_eq_false_iff_not, bne_iff_ne, beq_iff_eq, ne_eq, bne_eq_false_iff_eq, beq_eq_false_iff_ne, Int.not_lt, Int.not_le, gt_iff_lt, ge_iff_le, Bool.not_eq_true, Bool.false_eq_true, if_false, reduceCtorEq] at hbb))
          | ((first | apply ev_I | apply map_I | apply at_I); (simp only [lk, Nat.reduceEqDiff, reduceIte, Bool.not_true, Bool.not_false, e3, e5, e6, e7, e8]; (try rfl); done)) | (apply n_I; (simp only [u1, Nat.reduceAdd, Nat.reduceEqDiff, reduceIte, hal, *]; (try rfl); done))
          | (apply cells_I; (first | rfl | (simp only [u3, u4, if_true, eq_self, reduceIte, *]; (try rfl); done))) | (apply closed_I; (first | assumption | (simp only [u5, eq_self, *]; done)))
          | (apply fa_I; simp only [faddrLV, Nat.zero_add, Nat.reduceAdd]; rfl)
          | (apply pick_I; simp only [pickB]; (try rfl); done) | (apply wrap_I; (first | assumption | (simp only [u1, Nat.reduceAdd, Nat.reduceEqDiff, reduceIte, hal, *]; (try rfl); done) | rfl)) | exact mm_max | exact mm_min
          | (apply load_imm; (first | rfl | (simp only [u1, Nat.reduceAdd, Nat.reduceEqDiff, reduceIte, hal, *]; (try rfl); done))) | (apply loadN_imm rfl; simp only [u2]; (try rfl); done)
          | (apply load_ref; (focus (simp only [u1, Nat.reduceAdd, Nat.reduceEqDiff, reduceIte, hal, *]; (try rfl); done)); (focus (first | rfl | (simp only [u1, Nat.reduceAdd, Nat.reduceEqDiff, reduceIte, hal, *]; (try rfl); done)))) | (apply loadN_ref; (focus (simp only [u1, Nat.reduceAdd, Nat.reduceEqDiff, reduceIte, hal, *]; (try rfl); done)); (focus rfl); (focus (simp only [u2]; (try rfl); done)))
          | (apply store_ref; (focus (first | rfl | (simp only [u3, u4, if_true, eq_self, reduceIte, *]; (try rfl); done))); (focus (simp only [u1, Nat.reduceAdd, Nat.reduceEqDiff, reduceIte, hal, *]; (try rfl); done)); (focus rfl); (focus rfl); (focus (simp only [splice, List.set_cons_zero, List.set_cons_succ]; (try rfl); done)))
          | rfl | (simp only [u1, Nat.reduceAdd, Nat.reduceEqDiff, reduceIte, hal, *]; (try rfl); done))))
    have hg21 : s2.get 1 = some (.map (ent 0 (qs ++ [q]))) := by rw [hold2 1 (by omega), St.get_put, if_pos rfl]
    obtain ⟨acc', s4, hap, hacc', hn4, h40, h41⟩ := accI_append (x := minR N R ll q 20000) (s := s2.new (.cells .mut [.int .i64 (minR N R ll q 20000)])) (hacc.mono (by simp; omega) (fun id h1 h2 => by rw [St.get_new, if_neg (by omega), hold2 id (by omega), St.get_put, if_neg (by omega)])) (by simp; omega) (by simp; omega)
    refine q_append wN (xv := acc) (yv := .sref s2.n 0 1 1) (by simp only [lk, sv1, sv2, sv3, Nat.reduceEqDiff, Nat.reduceAdd, Nat.reduceLeDiff, reduceIte, if_false, if_true, mkVal, unLV, List.map, optTmps]) (by simp only [lk, sv1, sv2, sv3, Nat.reduceEqDiff, Nat.reduceAdd, Nat.reduceLeDiff, reduceIte, if_false, if_true, mkVal, unLV, List.map, optTmps, hn2']) rfl (rowOf_one (by rw [St.get_new, if_pos rfl])) (frzTry_closed rfl) hap ?_
    repeat' (first
        | (apply qc_block)
        | (apply qc_seq)
        | (apply qc_region hm)
        | ((first | apply qc_skip | apply qc_exit | apply qc_ret | apply q_nil); try simp only [Thn, Blkd, reduceIte, Nat.reduceEqDiff, Nat.succ_ne_self])
        | (apply qc_condT; (focus (simp only [lk, Nat.reduceEqDiff, reduceIte, Bool.not_true, Bool.not_false, e3, e5, e6, e7, e8]; (try rfl); done))) | (apply qc_condF; (focus (simp only [lk, Nat.reduceEqDiff, reduceIte, Bool.not_true, Bool.not_false, e3, e5, e6, e7, e8]; (try rfl); done)))
        | ((first | apply u_skip | apply u_skipN); (focus (simp only [lk, Nat.reduceEqDiff, reduceIte, Bool.not_true, Bool.not_false, e3, e5, e6, e7, e8]; (try rfl); done)); (focus rfl))
        | ((first | apply q_mv | apply u_alloc | apply u_bslice0 | apply u_faddr | apply u_load | apply u_len | apply u_ext | apply u_un | apply u_pick | apply u_field | apply u_conv | apply u_nilchk | apply u_box | apply u_boxR | apply u_bslice1 | apply u_mkfn | apply u_store | apply q_iaddr | apply u_mm | apply u_lss | apply u_leq | apply u_gtr | apply u_geq | apply u_eql | apply u_neq | apply q_eq | apply q_bin) <;> (first
          | exact wN | (apply wG; (simp only [lk, Nat.reduceEqDiff, reduceIte, Bool.not_true, Bool.not_false, e3, e5, e6, e7, e8]; (try rfl); done)) | (show W _ _ _ _ _ _) | (show ∀ _, _; intro bb hbb; cases bb <;> (try simp only [decide_eq_true_eq, decide_eq_false_iff_not, bne_iff_ne, beq_iff_eq, ne_eq, bne_eq_false_iff_eq, beq_eq_false_iff_ne, Int.not_lt, Int.not_le, gt_iff_lt, ge_iff_le, Bool.not_eq_true, Bool.false_eq_true, if_false, reduceCtorEq] at hbb))
          | ((first | apply ev_I | apply map_I | apply at_I); (simp only [lk, Nat.reduceEqDiff, reduceIte, Bool.not_true, Bool.not_false, e3, e5, e6, e7, e8]; (try rfl); done)) | (apply n_I; (simp only [u1, Nat.reduceAdd, Nat.reduceEqDiff, reduceIte, hal, *]; (try rfl); done))
          | (apply cells_I; (first | rfl | (simp only [u3, u4, if_true, eq_self, reduceIte, *]; (try rfl); done))) | (apply closed_I; (first | assumption | (simp only [u5, eq_self, *]; done)))
          | (apply fa_I; simp only [faddrLV, Nat.zero_add, Nat.reduceAdd]; rfl)
          | (apply pick_I; simp only [pickB]; (try rfl); done) | (apply wrap_I; (first | assumption | (simp only [u1, Nat.reduceAdd, Nat.reduceEqDiff, reduceIte, hal, *]; (try rfl); done) | rfl)) | exact mm_max | exact mm_min
          | (apply load_imm; (first | rfl | (simp only [u1, Nat.reduceAdd, Nat.reduceEqDiff, reduceIte, hal, *]; (try rfl); done))) | (apply loadN_imm rfl; simp only [u2]; (try rfl); done)
          | (apply load_ref; (focus (simp only [u1, Nat.reduceAdd, Nat.reduceEqDiff, reduceIte, hal, *]; (try rfl); done)); (focus (first | rfl | (simp only [u1, Nat.reduceAdd, Nat.reduceEqDiff, reduceIte, hal, *]; (try rfl); done)))) | (apply loadN_ref; (focus (simp only [u1, Nat.reduceAdd, Nat.reduceEqDiff, reduceIte, hal, *]; (try rfl); done)); (focus rfl); (focus (simp only [u2]; (try rfl); done)))
          | (apply store_ref; (focus (first | rfl | (simp only [u3, u4, if_true, eq_self, reduceIte, *]; (try rfl); done))); (focus (simp only [u1, Nat.reduceAdd, Nat.reduceEqDiff, reduceIte, hal, *]; (try rfl); done)); (focus rfl); (focus rfl); (focus (simp only [splice, List.set_cons_zero, List.set_cons_succ]; (try rfl); done)))
          | rfl | (simp only [u1, Nat.reduceAdd, Nat.reduceEqDiff, reduceIte, hal, *]; (try rfl); done))))
    refine ⟨f, by omega, qs ++ [q], runQ N ll q, acc', by simp; omega, runQ_lt hp hq hwv.2.2.mem, ?_, ?_, ?_⟩
    · exact List.nodup_append.2 ⟨hnd, by simp, fun a ha b hb => by
        rintro rfl
        rcases List.mem_singleton.1 hb with rfl
        exact fnd_none hf ha⟩
    · intro x hx
      rcases List.mem_append.1 hx with h | h
      · exact hall x h
      · rcases List.mem_singleton.1 h with rfl; exact hq
    simp only [lk, sv1, sv2, sv3, Nat.reduceEqDiff, Nat.reduceAdd, Nat.reduceLeDiff, reduceIte, if_false, if_true, mkVal, unLV, List.map, optTmps, true_and, e3, e5, e6, e7, e8]
    simp only [St.n_new] at hn4
    refine ⟨by omega, ?_, ?_, by rw [List.map_append]; exact hacc', hwvq⟩
    · rw [h40, St.get_new, if_neg (by omega)]; exact hg2
    · rw [h41, St.get_new, if_neg (by omega)]; exact hg21
end Go.Proofs.Ytmfpcofncfhklaa
