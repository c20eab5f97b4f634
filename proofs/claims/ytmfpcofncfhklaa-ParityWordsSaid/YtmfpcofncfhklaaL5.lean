/- The law of words, run. -/
import Derived.Test.YtmfpcofncfhklaaArg
import Derived.Test.YtmfpcofncfhklaaHead
import Derived.Test.YtmfpcofncfhklaaWg
import Derived.Test.YtmfpcofncfhklaaPvQ
set_option linter.unusedSimpArgs false
set_option linter.unusedVariables false
set_option maxRecDepth 100000
namespace Go.Proofs.Ytmfpcofncfhklaa
open Go Go.Pv
open Classical

theorem app_ints {s : St} (M j k n m : Nat) {cs new cs' : List LV} (hM : s.n = M) (h : s.get j = some (.cells .mut cs)) (hl : cs.length = k) (hn : new.length = n) (hm : k + n = m) (hk : m ≤ 2 ^ 20) (hc : cs ++ new = cs') :
    ∃ s', appendLV 1 8 (.sref j 0 k 1) new n s = some (.sref M 0 m 1, s') ∧ s'.n = M + 1 ∧ s'.get M = some (.cells .mut cs') ∧ ∀ id, id ≠ M → id ≠ j → s'.get id = s.get id := by
  subst hM hm hc
  exact ⟨_, appendLV_mutN h hl hn (by decide) hk, by simp, by simp, fun id h1 h2 => by rw [St.get_new, St.n_put, if_neg h1, St.get_put, if_neg h2]⟩

theorem q_loadHas2 {P : Program} {G : Globs} {K : Env → St → Prop} {l : List LOper} {e : Env} {s : St} {d i : Nat} {g : Option (Nat × Bool)} {fl : Bool} {x : Opd} {a b : LV} (hg : wantedG g e = some true) (hx : x.ev e = .pref i 0) (hs : Has s i [a, b]) (k : W P G K l (Tr.set e d (.agg [a, b])) s) : W P G K (⟨some d, .load (some 2) x, g, [], fl⟩ :: l) e s := by
  obtain ⟨m, hm⟩ := hs
  exact q_gen (v := .agg [a, b]) hg (by simp [LOp.run, hx, hm, mkVal]) (by cases fl <;> rfl) trivial k
theorem q_loadHas4 {P : Program} {G : Globs} {K : Env → St → Prop} {l : List LOper} {e : Env} {s : St} {d i : Nat} {g : Option (Nat × Bool)} {fl : Bool} {x : Opd} {a b a' b' : LV} (hg : wantedG g e = some true) (hx : x.ev e = .pref i 0) (hs : Has s i [a, b, a', b']) (k : W P G K l (Tr.set e d (.agg [a, b, a', b'])) s) : W P G K (⟨some d, .load (some 4) x, g, [], fl⟩ :: l) e s := by
  obtain ⟨m, hm⟩ := hs
  exact q_gen (v := .agg [a, b, a', b']) hg (by simp [LOp.run, hx, hm, mkVal]) (by cases fl <;> rfl) trivial k
theorem q_pureFB {P : Program} {G : Globs} {K : Env → St → Prop} {l : List LOper} {e : Env} {s s' : St} {g : Option (Nat × Bool)} {fl : Bool} (hG : ∀ x ∈ G, LV.closed.closedAll x.2 = true) {dst : Option Nat} {ops : List Opd} {vs vs' : List LV} {fv : LV} {b0 : Bool}
    (hp : PureOk P G fv vs' (.bool b0)) (hg : wantedG g e = some true) (ha : ops.map (·.ev e) = vs) (hfz : frz.frzAll (frz frzDepth) vs s = some (vs', s'))
    (h : ∀ b, b0 = b → W P G K l (e.put dst (.bool b)) s') : W P G K (⟨dst, .call (.c fv) ops, g, [], fl⟩ :: l) e s :=
  q_pureF hG hp hg ha hfz trivial (h b0 rfl)

set_option maxHeartbeats 8000000 in
theorem law5 : ∀ lvs, HasArgs Try.prog 9 Try.f5.params.toList lvs → LawOk Try.prog 5 lvs := by
  intro lvs h
  rw [Try.params5] at h
  cases h with | cons a h => cases h with | cons b h => cases h with | cons c h =>
  cases h
  obtain ⟨L, S, nx, pr, N, R, vN, vR, rfl, hN, hR⟩ := arg32 a
  obtain ⟨st, lo, sl, ll, rfl, hS, hL⟩ := arg27 b
  obtain ⟨m, rfl, hm0, hm1⟩ := arg5 c
  refine ⟨Try.f5, [], l5, Try.func5, by decide +kernel, c5, Nat.le_of_ble_eq_true rfl, CodeOk.mono (Q := fun o e s => (o = .normal ∨ o = .jmp .ret) ∧ e.at 6 = .bool true) (Cd.out ?_) fun o e s hh => ⟨hh.1, by simp [l5, resVal, resOne, hh.2]⟩⟩
  have hcl : (LV.agg [.int .i64 L, .int .i64 S, nx, pr]).closed = true := by simp [LV.closed, LV.closed.closedAll, hN.closed, hR.closed]
  have hcl2 : (LV.agg [st, lo]).closed = true := by simp [LV.closed, LV.closed.closedAll, hS.closed, hL.closed]
  have hc1 := hN.sl.cell
  have hc2 := hR.sl.cell
  have hc3 := hS.sl.cell
  have hc4 := hL.sl.cell
  have h0 : (envOf [LV.agg [.int .i64 L, .int .i64 S, nx, pr], .agg [st, lo], .int .u8 m]).at 0 = .agg [.int .i64 L, .int .i64 S, nx, pr] := by rw [envOf_at]; rfl
  have h1 : (envOf [LV.agg [.int .i64 L, .int .i64 S, nx, pr], .agg [st, lo], .int .u8 m]).at 1 = .agg [st, lo] := by rw [envOf_at]; rfl
  have h2 : (envOf [LV.agg [.int .i64 L, .int .i64 S, nx, pr], .agg [st, lo], .int .u8 m]).at 2 = .int .u8 m := by rw [envOf_at]; rfl
  generalize envOf [LV.agg [.int .i64 L, .int .i64 S, nx, pr], .agg [st, lo], .int .u8 m] = e at *
  unfold l5
  dsimp only
  repeat' (first
      | (apply qc_block)
      | (apply qc_seq)
      | (apply qc_region hm)
      | ((first | apply qc_skip | apply qc_exit | apply qc_ret | apply q_nil); try simp only [Thn, Blkd, reduceIte, Nat.reduceEqDiff, Nat.succ_ne_self])
      | (apply qc_condT; (focus (simp only [lk, Nat.reduceEqDiff, reduceIte, Bool.not_true, Bool.not_false, h0, h1, h2]; (try rfl); done))) | (apply qc_condF; (focus (simp only [lk, Nat.reduceEqDiff, reduceIte, Bool.not_true, Bool.not_false, h0, h1, h2]; (try rfl); done)))
      | ((first | apply u_skip | apply u_skipN); (focus (simp only [lk, Nat.reduceEqDiff, reduceIte, Bool.not_true, Bool.not_false, h0, h1, h2]; (try rfl); done)); (focus rfl))
      | ((first | apply q_mv | apply u_alloc | apply u_bslice0 | apply u_faddr | apply u_load | apply u_len | apply u_ext | apply u_un | apply u_pick | apply u_field | apply u_conv | apply u_nilchk | apply u_box | apply u_boxR | apply u_bslice1 | apply u_mkfn | apply u_store | apply q_iaddr | apply u_mm | apply u_lss | apply u_leq | apply u_gtr | apply u_geq | apply u_eql | apply u_neq | apply q_eq | apply q_bin) <;> (first
        | exact wN | (apply wG; (simp only [lk, Nat.reduceEqDiff, reduceIte, Bool.not_true, Bool.not_false, h0, h1, h2]; (try rfl); done)) | (show W _ _ _ _ _ _) | (show ∀ _, _; intro bb hbb; cases bb <;> (try simp only [decide_eq_true_eq, decide_eq_false_iff_not, bne_iff_ne, beq_iff_eq, ne_eq, bne_eq_false_iff_eq, beq_eq_false_iff_ne, Int.not_lt, Int.not_le, gt_iff_lt, ge_iff_le, Bool.not_eq_true, Bool.false_eq_true, if_false, reduceCtorEq] at hbb))
        | ((first | apply ev_I | apply map_I | apply at_I); (simp only [lk, Nat.reduceEqDiff, reduceIte, Bool.not_true, Bool.not_false, h0, h1, h2]; (try rfl); done)) | (apply n_I; (simp only [u1, Nat.reduceAdd, Nat.reduceEqDiff, reduceIte, *]; (try rfl); done))
        | (apply cells_I; (first | rfl | (simp only [u3, u4, if_true, eq_self, reduceIte, *]; (try rfl); done))) | (apply closed_I; (first | assumption | (simp only [u5, eq_self, *]; done)))
        | (apply fa_I; simp only [faddrLV, Nat.zero_add, Nat.reduceAdd]; rfl)
        | (apply pick_I; simp only [pickB]; (try rfl); done) | (apply wrap_I; (first | assumption | (simp only [u1, Nat.reduceAdd, Nat.reduceEqDiff, reduceIte, *]; (try rfl); done) | rfl)) | exact mm_max | exact mm_min
        | (apply load_imm; (first | rfl | (simp only [u1, Nat.reduceAdd, Nat.reduceEqDiff, reduceIte, *]; (try rfl); done))) | (apply loadN_imm rfl; simp only [u2]; (try rfl); done)
        | (apply load_ref; (focus (simp only [u1, Nat.reduceAdd, Nat.reduceEqDiff, reduceIte, *]; (try rfl); done)); (focus (first | rfl | (simp only [u1, Nat.reduceAdd, Nat.reduceEqDiff, reduceIte, *]; (try rfl); done)))) | (apply loadN_ref; (focus (simp only [u1, Nat.reduceAdd, Nat.reduceEqDiff, reduceIte, *]; (try rfl); done)); (focus rfl); (focus (simp only [u2]; (try rfl); done)))
        | (apply store_ref; (focus (first | rfl | (simp only [u3, u4, if_true, eq_self, reduceIte, *]; (try rfl); done))); (focus (simp only [u1, Nat.reduceAdd, Nat.reduceEqDiff, reduceIte, *]; (try rfl); done)); (focus rfl); (focus rfl); (focus (simp only [splice, List.set_cons_zero, List.set_cons_succ]; (try rfl); done)))
        | rfl | (simp only [u1, Nat.reduceAdd, Nat.reduceEqDiff, reduceIte, *]; (try rfl); done))))
  refine q_pure hG0 (head_true) (by first | exact wN | (apply wG; (simp only [lk, Nat.reduceEqDiff, reduceIte, h0, h1, h2]; (try rfl); done))) (by simp only [List.map, lk, Nat.reduceEqDiff, reduceIte, h0, h1, h2]; try rfl) (by first | trivial | (simp only [Chks, wantedG, LOp.run, Env.put_some, Env.put_none, lk, sv1, sv2, sv3, Nat.reduceEqDiff, Nat.reduceAdd, Nat.reduceLeDiff, reduceIte, if_false, if_true, mkVal, unLV, List.map, optTmps, beq_self_eq_true, reduceCtorEq, false_or, true_and, and_true, Option.some.injEq, *]; done)) ?_
  simp only [Env.put_some]
  repeat' (first
      | (apply qc_block)
      | (apply qc_seq)
      | (apply qc_region hm)
      | ((first | apply qc_skip | apply qc_exit | apply qc_ret | apply q_nil); try simp only [Thn, Blkd, reduceIte, Nat.reduceEqDiff, Nat.succ_ne_self])
      | (apply qc_condT; (focus (simp only [lk, Nat.reduceEqDiff, reduceIte, Bool.not_true, Bool.not_false, h0, h1, h2]; (try rfl); done))) | (apply qc_condF; (focus (simp only [lk, Nat.reduceEqDiff, reduceIte, Bool.not_true, Bool.not_false, h0, h1, h2]; (try rfl); done)))
      | ((first | apply u_skip | apply u_skipN); (focus (simp only [lk, Nat.reduceEqDiff, reduceIte, Bool.not_true, Bool.not_false, h0, h1, h2]; (try rfl); done)); (focus rfl))
      | ((first | apply q_mv | apply u_alloc | apply u_bslice0 | apply u_faddr | apply u_load | apply u_len | apply u_ext | apply u_un | apply u_pick | apply u_field | apply u_conv | apply u_nilchk | apply u_box | apply u_boxR | apply u_bslice1 | apply u_mkfn | apply u_store | apply q_iaddr | apply u_mm | apply u_lss | apply u_leq | apply u_gtr | apply u_geq | apply u_eql | apply u_neq | apply q_eq | apply q_bin) <;> (first
        | exact wN | (apply wG; (simp only [lk, Nat.reduceEqDiff, reduceIte, Bool.not_true, Bool.not_false, h0, h1, h2]; (try rfl); done)) | (show W _ _ _ _ _ _) | (show ∀ _, _; intro bb hbb; cases bb <;> (try simp only [decide_eq_true_eq, decide_eq_false_iff_not, bne_iff_ne, beq_iff_eq, ne_eq, bne_eq_false_iff_eq, beq_eq_false_iff_ne, Int.not_lt, Int.not_le, gt_iff_lt, ge_iff_le, Bool.not_eq_true, Bool.false_eq_true, if_false, reduceCtorEq] at hbb))
        | ((first | apply ev_I | apply map_I | apply at_I); (simp only [lk, Nat.reduceEqDiff, reduceIte, Bool.not_true, Bool.not_false, h0, h1, h2]; (try rfl); done)) | (apply n_I; (simp only [u1, Nat.reduceAdd, Nat.reduceEqDiff, reduceIte, *]; (try rfl); done))
        | (apply cells_I; (first | rfl | (simp only [u3, u4, if_true, eq_self, reduceIte, *]; (try rfl); done))) | (apply closed_I; (first | assumption | (simp only [u5, eq_self, *]; done)))
        | (apply fa_I; simp only [faddrLV, Nat.zero_add, Nat.reduceAdd]; rfl)
        | (apply pick_I; simp only [pickB]; (try rfl); done) | (apply wrap_I; (first | assumption | (simp only [u1, Nat.reduceAdd, Nat.reduceEqDiff, reduceIte, *]; (try rfl); done) | rfl)) | exact mm_max | exact mm_min
        | (apply load_imm; (first | rfl | (simp only [u1, Nat.reduceAdd, Nat.reduceEqDiff, reduceIte, *]; (try rfl); done))) | (apply loadN_imm rfl; simp only [u2]; (try rfl); done)
        | (apply load_ref; (focus (simp only [u1, Nat.reduceAdd, Nat.reduceEqDiff, reduceIte, *]; (try rfl); done)); (focus (first | rfl | (simp only [u1, Nat.reduceAdd, Nat.reduceEqDiff, reduceIte, *]; (try rfl); done)))) | (apply loadN_ref; (focus (simp only [u1, Nat.reduceAdd, Nat.reduceEqDiff, reduceIte, *]; (try rfl); done)); (focus rfl); (focus (simp only [u2]; (try rfl); done)))
        | (apply store_ref; (focus (first | rfl | (simp only [u3, u4, if_true, eq_self, reduceIte, *]; (try rfl); done))); (focus (simp only [u1, Nat.reduceAdd, Nat.reduceEqDiff, reduceIte, *]; (try rfl); done)); (focus rfl); (focus rfl); (focus (simp only [splice, List.set_cons_zero, List.set_cons_succ]; (try rfl); done)))
        | rfl | (simp only [u1, Nat.reduceAdd, Nat.reduceEqDiff, reduceIte, *]; (try rfl); done))))
  refine q_pureB hG0 (small_ok (L := L) (S := S) hN hR) (by first | exact wN | (apply wG; (simp only [lk, Nat.reduceEqDiff, reduceIte, h0, h1, h2]; (try rfl); done))) (by simp only [List.map, lk, Nat.reduceEqDiff, reduceIte, h0, h1, h2]; try rfl) (fun bb hbb => ⟨by first | trivial | (simp only [Chks, wantedG, LOp.run, Env.put_some, Env.put_none, lk, sv1, sv2, sv3, Nat.reduceEqDiff, Nat.reduceAdd, Nat.reduceLeDiff, reduceIte, if_false, if_true, mkVal, unLV, List.map, optTmps, beq_self_eq_true, reduceCtorEq, false_or, true_and, and_true, Option.some.injEq, *]; done), ?_⟩)
  simp only [Env.put_some]
  cases bb <;> simp only [decide_eq_true_eq, decide_eq_false_iff_not] at hbb
  · repeat' (first
        | (apply qc_block)
        | (apply qc_seq)
        | (apply qc_region hm)
        | ((first | apply qc_skip | apply qc_exit | apply qc_ret | apply q_nil); try simp only [Thn, Blkd, reduceIte, Nat.reduceEqDiff, Nat.succ_ne_self])
        | (apply qc_condT; (focus (simp only [lk, Nat.reduceEqDiff, reduceIte, Bool.not_true, Bool.not_false, h0, h1, h2]; (try rfl); done))) | (apply qc_condF; (focus (simp only [lk, Nat.reduceEqDiff, reduceIte, Bool.not_true, Bool.not_false, h0, h1, h2]; (try rfl); done)))
        | ((first | apply u_skip | apply u_skipN); (focus (simp only [lk, Nat.reduceEqDiff, reduceIte, Bool.not_true, Bool.not_false, h0, h1, h2]; (try rfl); done)); (focus rfl))
        | ((first | apply q_mv | apply u_alloc | apply u_bslice0 | apply u_faddr | apply u_load | apply u_len | apply u_ext | apply u_un | apply u_pick | apply u_field | apply u_conv | apply u_nilchk | apply u_box | apply u_boxR | apply u_bslice1 | apply u_mkfn | apply u_store | apply q_iaddr | apply u_mm | apply u_lss | apply u_leq | apply u_gtr | apply u_geq | apply u_eql | apply u_neq | apply q_eq | apply q_bin) <;> (first
          | exact wN | (apply wG; (simp only [lk, Nat.reduceEqDiff, reduceIte, Bool.not_true, Bool.not_false, h0, h1, h2]; (try rfl); done)) | (show W _ _ _ _ _ _) | (show ∀ _, _; intro bb hbb; cases bb <;> (try simp only [decide_eq_true_eq, decide_eq_false_iff_not, bne_iff_ne, beq_iff_eq, ne_eq, bne_eq_false_iff_eq, beq_eq_false_iff_ne, Int.not_lt, Int.not_le, gt_iff_lt, ge_iff_le, Bool.not_eq_true, Bool.false_eq_true, if_false, reduceCtorEq] at hbb))
          | ((first | apply ev_I | apply map_I | apply at_I); (simp only [lk, Nat.reduceEqDiff, reduceIte, Bool.not_true, Bool.not_false, h0, h1, h2]; (try rfl); done)) | (apply n_I; (simp only [u1, Nat.reduceAdd, Nat.reduceEqDiff, reduceIte, *]; (try rfl); done))
          | (apply cells_I; (first | rfl | (simp only [u3, u4, if_true, eq_self, reduceIte, *]; (try rfl); done))) | (apply closed_I; (first | assumption | (simp only [u5, eq_self, *]; done)))
          | (apply fa_I; simp only [faddrLV, Nat.zero_add, Nat.reduceAdd]; rfl)
          | (apply pick_I; simp only [pickB]; (try rfl); done) | (apply wrap_I; (first | assumption | (simp only [u1, Nat.reduceAdd, Nat.reduceEqDiff, reduceIte, *]; (try rfl); done) | rfl)) | exact mm_max | exact mm_min
          | (apply load_imm; (first | rfl | (simp only [u1, Nat.reduceAdd, Nat.reduceEqDiff, reduceIte, *]; (try rfl); done))) | (apply loadN_imm rfl; simp only [u2]; (try rfl); done)
          | (apply load_ref; (focus (simp only [u1, Nat.reduceAdd, Nat.reduceEqDiff, reduceIte, *]; (try rfl); done)); (focus (first | rfl | (simp only [u1, Nat.reduceAdd, Nat.reduceEqDiff, reduceIte, *]; (try rfl); done)))) | (apply loadN_ref; (focus (simp only [u1, Nat.reduceAdd, Nat.reduceEqDiff, reduceIte, *]; (try rfl); done)); (focus rfl); (focus (simp only [u2]; (try rfl); done)))
          | (apply store_ref; (focus (first | rfl | (simp only [u3, u4, if_true, eq_self, reduceIte, *]; (try rfl); done))); (focus (simp only [u1, Nat.reduceAdd, Nat.reduceEqDiff, reduceIte, *]; (try rfl); done)); (focus rfl); (focus rfl); (focus (simp only [splice, List.set_cons_zero, List.set_cons_succ]; (try rfl); done)))
          | rfl | (simp only [u1, Nat.reduceAdd, Nat.reduceEqDiff, reduceIte, *]; (try rfl); done))))
    exact ⟨.inr trivial, by simp only [lk, sv1, sv2, sv3, Nat.reduceEqDiff, Nat.reduceAdd, Nat.reduceLeDiff, reduceIte, if_false, if_true, mkVal, unLV, List.map, optTmps]⟩
  repeat' (first
      | (apply qc_block)
      | (apply qc_seq)
      | (apply qc_region hm)
      | ((first | apply qc_skip | apply qc_exit | apply qc_ret | apply q_nil); try simp only [Thn, Blkd, reduceIte, Nat.reduceEqDiff, Nat.succ_ne_self])
      | (apply qc_condT; (focus (simp only [lk, Nat.reduceEqDiff, reduceIte, Bool.not_true, Bool.not_false, h0, h1, h2]; (try rfl); done))) | (apply qc_condF; (focus (simp only [lk, Nat.reduceEqDiff, reduceIte, Bool.not_true, Bool.not_false, h0, h1, h2]; (try rfl); done)))
      | ((first | apply u_skip | apply u_skipN); (focus (simp only [lk, Nat.reduceEqDiff, reduceIte, Bool.not_true, Bool.not_false, h0, h1, h2]; (try rfl); done)); (focus rfl))
      | ((first | apply q_mv | apply u_alloc | apply u_bslice0 | apply u_faddr | apply u_load | apply u_len | apply u_ext | apply u_un | apply u_pick | apply u_field | apply u_conv | apply u_nilchk | apply u_box | apply u_boxR | apply u_bslice1 | apply u_mkfn | apply u_store | apply q_iaddr | apply u_mm | apply u_lss | apply u_leq | apply u_gtr | apply u_geq | apply u_eql | apply u_neq | apply q_eq | apply q_bin) <;> (first
        | exact wN | (apply wG; (simp only [lk, Nat.reduceEqDiff, reduceIte, Bool.not_true, Bool.not_false, h0, h1, h2]; (try rfl); done)) | (show W _ _ _ _ _ _) | (show ∀ _, _; intro bb hbb; cases bb <;> (try simp only [decide_eq_true_eq, decide_eq_false_iff_not, bne_iff_ne, beq_iff_eq, ne_eq, bne_eq_false_iff_eq, beq_eq_false_iff_ne, Int.not_lt, Int.not_le, gt_iff_lt, ge_iff_le, Bool.not_eq_true, Bool.false_eq_true, if_false, reduceCtorEq] at hbb))
        | ((first | apply ev_I | apply map_I | apply at_I); (simp only [lk, Nat.reduceEqDiff, reduceIte, Bool.not_true, Bool.not_false, h0, h1, h2]; (try rfl); done)) | (apply n_I; (simp only [u1, Nat.reduceAdd, Nat.reduceEqDiff, reduceIte, *]; (try rfl); done))
        | (apply cells_I; (first | rfl | (simp only [u3, u4, if_true, eq_self, reduceIte, *]; (try rfl); done))) | (apply closed_I; (first | assumption | (simp only [u5, eq_self, *]; done)))
        | (apply fa_I; simp only [faddrLV, Nat.zero_add, Nat.reduceAdd]; rfl)
        | (apply pick_I; simp only [pickB]; (try rfl); done) | (apply wrap_I; (first | assumption | (simp only [u1, Nat.reduceAdd, Nat.reduceEqDiff, reduceIte, *]; (try rfl); done) | rfl)) | exact mm_max | exact mm_min
        | (apply load_imm; (first | rfl | (simp only [u1, Nat.reduceAdd, Nat.reduceEqDiff, reduceIte, *]; (try rfl); done))) | (apply loadN_imm rfl; simp only [u2]; (try rfl); done)
        | (apply load_ref; (focus (simp only [u1, Nat.reduceAdd, Nat.reduceEqDiff, reduceIte, *]; (try rfl); done)); (focus (first | rfl | (simp only [u1, Nat.reduceAdd, Nat.reduceEqDiff, reduceIte, *]; (try rfl); done)))) | (apply loadN_ref; (focus (simp only [u1, Nat.reduceAdd, Nat.reduceEqDiff, reduceIte, *]; (try rfl); done)); (focus rfl); (focus (simp only [u2]; (try rfl); done)))
        | (apply store_ref; (focus (first | rfl | (simp only [u3, u4, if_true, eq_self, reduceIte, *]; (try rfl); done))); (focus (simp only [u1, Nat.reduceAdd, Nat.reduceEqDiff, reduceIte, *]; (try rfl); done)); (focus rfl); (focus rfl); (focus (simp only [splice, List.set_cons_zero, List.set_cons_succ]; (try rfl); done)))
        | rfl | (simp only [u1, Nat.reduceAdd, Nat.reduceEqDiff, reduceIte, *]; (try rfl); done))))
  refine q_pureB hG0 (rvalid_ok (L := L) (S := S) hN hR) (by first | exact wN | (apply wG; (simp only [lk, Nat.reduceEqDiff, reduceIte, h0, h1, h2]; (try rfl); done))) (by simp only [List.map, lk, Nat.reduceEqDiff, reduceIte, h0, h1, h2]; try rfl) (fun bb hbb => ⟨by first | trivial | (simp only [Chks, wantedG, LOp.run, Env.put_some, Env.put_none, lk, sv1, sv2, sv3, Nat.reduceEqDiff, Nat.reduceAdd, Nat.reduceLeDiff, reduceIte, if_false, if_true, mkVal, unLV, List.map, optTmps, beq_self_eq_true, reduceCtorEq, false_or, true_and, and_true, Option.some.injEq, *]; done), ?_⟩)
  simp only [Env.put_some]
  cases bb <;> simp only [decide_eq_true_eq, decide_eq_false_iff_not] at hbb
  · repeat' (first
        | (apply qc_block)
        | (apply qc_seq)
        | (apply qc_region hm)
        | ((first | apply qc_skip | apply qc_exit | apply qc_ret | apply q_nil); try simp only [Thn, Blkd, reduceIte, Nat.reduceEqDiff, Nat.succ_ne_self])
        | (apply qc_condT; (focus (simp only [lk, Nat.reduceEqDiff, reduceIte, Bool.not_true, Bool.not_false, h0, h1, h2]; (try rfl); done))) | (apply qc_condF; (focus (simp only [lk, Nat.reduceEqDiff, reduceIte, Bool.not_true, Bool.not_false, h0, h1, h2]; (try rfl); done)))
        | ((first | apply u_skip | apply u_skipN); (focus (simp only [lk, Nat.reduceEqDiff, reduceIte, Bool.not_true, Bool.not_false, h0, h1, h2]; (try rfl); done)); (focus rfl))
        | ((first | apply q_mv | apply u_alloc | apply u_bslice0 | apply u_faddr | apply u_load | apply u_len | apply u_ext | apply u_un | apply u_pick | apply u_field | apply u_conv | apply u_nilchk | apply u_box | apply u_boxR | apply u_bslice1 | apply u_mkfn | apply u_store | apply q_iaddr | apply u_mm | apply u_lss | apply u_leq | apply u_gtr | apply u_geq | apply u_eql | apply u_neq | apply q_eq | apply q_bin) <;> (first
          | exact wN | (apply wG; (simp only [lk, Nat.reduceEqDiff, reduceIte, Bool.not_true, Bool.not_false, h0, h1, h2]; (try rfl); done)) | (show W _ _ _ _ _ _) | (show ∀ _, _; intro bb hbb; cases bb <;> (try simp only [decide_eq_true_eq, decide_eq_false_iff_not, bne_iff_ne, beq_iff_eq, ne_eq, bne_eq_false_iff_eq, beq_eq_false_iff_ne, Int.not_lt, Int.not_le, gt_iff_lt, ge_iff_le, Bool.not_eq_true, Bool.false_eq_true, if_false, reduceCtorEq] at hbb))
          | ((first | apply ev_I | apply map_I | apply at_I); (simp only [lk, Nat.reduceEqDiff, reduceIte, Bool.not_true, Bool.not_false, h0, h1, h2]; (try rfl); done)) | (apply n_I; (simp only [u1, Nat.reduceAdd, Nat.reduceEqDiff, reduceIte, *]; (try rfl); done))
          | (apply cells_I; (first | rfl | (simp only [u3, u4, if_true, eq_self, reduceIte, *]; (try rfl); done))) | (apply closed_I; (first | assumption | (simp only [u5, eq_self, *]; done)))
          | (apply fa_I; simp only [faddrLV, Nat.zero_add, Nat.reduceAdd]; rfl)
          | (apply pick_I; simp only [pickB]; (try rfl); done) | (apply wrap_I; (first | assumption | (simp only [u1, Nat.reduceAdd, Nat.reduceEqDiff, reduceIte, *]; (try rfl); done) | rfl)) | exact mm_max | exact mm_min
          | (apply load_imm; (first | rfl | (simp only [u1, Nat.reduceAdd, Nat.reduceEqDiff, reduceIte, *]; (try rfl); done))) | (apply loadN_imm rfl; simp only [u2]; (try rfl); done)
          | (apply load_ref; (focus (simp only [u1, Nat.reduceAdd, Nat.reduceEqDiff, reduceIte, *]; (try rfl); done)); (focus (first | rfl | (simp only [u1, Nat.reduceAdd, Nat.reduceEqDiff, reduceIte, *]; (try rfl); done)))) | (apply loadN_ref; (focus (simp only [u1, Nat.reduceAdd, Nat.reduceEqDiff, reduceIte, *]; (try rfl); done)); (focus rfl); (focus (simp only [u2]; (try rfl); done)))
          | (apply store_ref; (focus (first | rfl | (simp only [u3, u4, if_true, eq_self, reduceIte, *]; (try rfl); done))); (focus (simp only [u1, Nat.reduceAdd, Nat.reduceEqDiff, reduceIte, *]; (try rfl); done)); (focus rfl); (focus rfl); (focus (simp only [splice, List.set_cons_zero, List.set_cons_succ]; (try rfl); done)))
          | rfl | (simp only [u1, Nat.reduceAdd, Nat.reduceEqDiff, reduceIte, *]; (try rfl); done))))
    exact ⟨.inr trivial, by simp only [lk, sv1, sv2, sv3, Nat.reduceEqDiff, Nat.reduceAdd, Nat.reduceLeDiff, reduceIte, if_false, if_true, mkVal, unLV, List.map, optTmps]⟩
  repeat' (first
      | (apply qc_block)
      | (apply qc_seq)
      | (apply qc_region hm)
      | ((first | apply qc_skip | apply qc_exit | apply qc_ret | apply q_nil); try simp only [Thn, Blkd, reduceIte, Nat.reduceEqDiff, Nat.succ_ne_self])
      | (apply qc_condT; (focus (simp only [lk, Nat.reduceEqDiff, reduceIte, Bool.not_true, Bool.not_false, h0, h1, h2]; (try rfl); done))) | (apply qc_condF; (focus (simp only [lk, Nat.reduceEqDiff, reduceIte, Bool.not_true, Bool.not_false, h0, h1, h2]; (try rfl); done)))
      | ((first | apply u_skip | apply u_skipN); (focus (simp only [lk, Nat.reduceEqDiff, reduceIte, Bool.not_true, Bool.not_false, h0, h1, h2]; (try rfl); done)); (focus rfl))
      | ((first | apply q_mv | apply u_alloc | apply u_bslice0 | apply u_faddr | apply u_load | apply u_len | apply u_ext | apply u_un | apply u_pick | apply u_field | apply u_conv | apply u_nilchk | apply u_box | apply u_boxR | apply u_bslice1 | apply u_mkfn | apply u_store | apply q_iaddr | apply u_mm | apply u_lss | apply u_leq | apply u_gtr | apply u_geq | apply u_eql | apply u_neq | apply q_eq | apply q_bin) <;> (first
        | exact wN | (apply wG; (simp only [lk, Nat.reduceEqDiff, reduceIte, Bool.not_true, Bool.not_false, h0, h1, h2]; (try rfl); done)) | (show W _ _ _ _ _ _) | (show ∀ _, _; intro bb hbb; cases bb <;> (try simp only [decide_eq_true_eq, decide_eq_false_iff_not, bne_iff_ne, beq_iff_eq, ne_eq, bne_eq_false_iff_eq, beq_eq_false_iff_ne, Int.not_lt, Int.not_le, gt_iff_lt, ge_iff_le, Bool.not_eq_true, Bool.false_eq_true, if_false, reduceCtorEq] at hbb))
        | ((first | apply ev_I | apply map_I | apply at_I); (simp only [lk, Nat.reduceEqDiff, reduceIte, Bool.not_true, Bool.not_false, h0, h1, h2]; (try rfl); done)) | (apply n_I; (simp only [u1, Nat.reduceAdd, Nat.reduceEqDiff, reduceIte, *]; (try rfl); done))
        | (apply cells_I; (first | rfl | (simp only [u3, u4, if_true, eq_self, reduceIte, *]; (try rfl); done))) | (apply closed_I; (first | assumption | (simp only [u5, eq_self, *]; done)))
        | (apply fa_I; simp only [faddrLV, Nat.zero_add, Nat.reduceAdd]; rfl)
        | (apply pick_I; simp only [pickB]; (try rfl); done) | (apply wrap_I; (first | assumption | (simp only [u1, Nat.reduceAdd, Nat.reduceEqDiff, reduceIte, *]; (try rfl); done) | rfl)) | exact mm_max | exact mm_min
        | (apply load_imm; (first | rfl | (simp only [u1, Nat.reduceAdd, Nat.reduceEqDiff, reduceIte, *]; (try rfl); done))) | (apply loadN_imm rfl; simp only [u2]; (try rfl); done)
        | (apply load_ref; (focus (simp only [u1, Nat.reduceAdd, Nat.reduceEqDiff, reduceIte, *]; (try rfl); done)); (focus (first | rfl | (simp only [u1, Nat.reduceAdd, Nat.reduceEqDiff, reduceIte, *]; (try rfl); done)))) | (apply loadN_ref; (focus (simp only [u1, Nat.reduceAdd, Nat.reduceEqDiff, reduceIte, *]; (try rfl); done)); (focus rfl); (focus (simp only [u2]; (try rfl); done)))
        | (apply store_ref; (focus (first | rfl | (simp only [u3, u4, if_true, eq_self, reduceIte, *]; (try rfl); done))); (focus (simp only [u1, Nat.reduceAdd, Nat.reduceEqDiff, reduceIte, *]; (try rfl); done)); (focus rfl); (focus rfl); (focus (simp only [splice, List.set_cons_zero, List.set_cons_succ]; (try rfl); done)))
        | rfl | (simp only [u1, Nat.reduceAdd, Nat.reduceEqDiff, reduceIte, *]; (try rfl); done))))
  have hp := hbb
  refine q_pureB hG0 (short_ok hS hL) (by first | exact wN | (apply wG; (simp only [lk, Nat.reduceEqDiff, reduceIte, h0, h1, h2]; (try rfl); done))) (by simp only [List.map, lk, Nat.reduceEqDiff, reduceIte, h0, h1, h2]; try rfl) (fun bb hbb => ⟨by first | trivial | (simp only [Chks, wantedG, LOp.run, Env.put_some, Env.put_none, lk, sv1, sv2, sv3, Nat.reduceEqDiff, Nat.reduceAdd, Nat.reduceLeDiff, reduceIte, if_false, if_true, mkVal, unLV, List.map, optTmps, beq_self_eq_true, reduceCtorEq, false_or, true_and, and_true, Option.some.injEq, *]; done), ?_⟩)
  simp only [Env.put_some]
  cases bb <;> simp only [decide_eq_true_eq, decide_eq_false_iff_not] at hbb
  · repeat' (first
        | (apply qc_block)
        | (apply qc_seq)
        | (apply qc_region hm)
        | ((first | apply qc_skip | apply qc_exit | apply qc_ret | apply q_nil); try simp only [Thn, Blkd, reduceIte, Nat.reduceEqDiff, Nat.succ_ne_self])
        | (apply qc_condT; (focus (simp only [lk, Nat.reduceEqDiff, reduceIte, Bool.not_true, Bool.not_false, h0, h1, h2]; (try rfl); done))) | (apply qc_condF; (focus (simp only [lk, Nat.reduceEqDiff, reduceIte, Bool.not_true, Bool.not_false, h0, h1, h2]; (try rfl); done)))
        | ((first | apply u_skip | apply u_skipN); (focus (simp only [lk, Nat.reduceEqDiff, reduceIte, Bool.not_true, Bool.not_false, h0, h1, h2]; (try rfl); done)); (focus rfl))
        | ((first | apply q_mv | apply u_alloc | apply u_bslice0 | apply u_faddr | apply u_load | apply u_len | apply u_ext | apply u_un | apply u_pick | apply u_field | apply u_conv | apply u_nilchk | apply u_box | apply u_boxR | apply u_bslice1 | apply u_mkfn | apply u_store | apply q_iaddr | apply u_mm | apply u_lss | apply u_leq | apply u_gtr | apply u_geq | apply u_eql | apply u_neq | apply q_eq | apply q_bin) <;> (first
          | exact wN | (apply wG; (simp only [lk, Nat.reduceEqDiff, reduceIte, Bool.not_true, Bool.not_false, h0, h1, h2]; (try rfl); done)) | (show W _ _ _ _ _ _) | (show ∀ _, _; intro bb hbb; cases bb <;> (try simp only [decide_eq_true_eq, decide_eq_false_iff_not, bne_iff_ne, beq_iff_eq, ne_eq, bne_eq_false_iff_eq, beq_eq_false_iff_ne, Int.not_lt, Int.not_le, gt_iff_lt, ge_iff_le, Bool.not_eq_true, Bool.false_eq_true, if_false, reduceCtorEq] at hbb))
          | ((first | apply ev_I | apply map_I | apply at_I); (simp only [lk, Nat.reduceEqDiff, reduceIte, Bool.not_true, Bool.not_false, h0, h1, h2]; (try rfl); done)) | (apply n_I; (simp only [u1, Nat.reduceAdd, Nat.reduceEqDiff, reduceIte, *]; (try rfl); done))
          | (apply cells_I; (first | rfl | (simp only [u3, u4, if_true, eq_self, reduceIte, *]; (try rfl); done))) | (apply closed_I; (first | assumption | (simp only [u5, eq_self, *]; done)))
          | (apply fa_I; simp only [faddrLV, Nat.zero_add, Nat.reduceAdd]; rfl)
          | (apply pick_I; simp only [pickB]; (try rfl); done) | (apply wrap_I; (first | assumption | (simp only [u1, Nat.reduceAdd, Nat.reduceEqDiff, reduceIte, *]; (try rfl); done) | rfl)) | exact mm_max | exact mm_min
          | (apply load_imm; (first | rfl | (simp only [u1, Nat.reduceAdd, Nat.reduceEqDiff, reduceIte, *]; (try rfl); done))) | (apply loadN_imm rfl; simp only [u2]; (try rfl); done)
          | (apply load_ref; (focus (simp only [u1, Nat.reduceAdd, Nat.reduceEqDiff, reduceIte, *]; (try rfl); done)); (focus (first | rfl | (simp only [u1, Nat.reduceAdd, Nat.reduceEqDiff, reduceIte, *]; (try rfl); done)))) | (apply loadN_ref; (focus (simp only [u1, Nat.reduceAdd, Nat.reduceEqDiff, reduceIte, *]; (try rfl); done)); (focus rfl); (focus (simp only [u2]; (try rfl); done)))
          | (apply store_ref; (focus (first | rfl | (simp only [u3, u4, if_true, eq_self, reduceIte, *]; (try rfl); done))); (focus (simp only [u1, Nat.reduceAdd, Nat.reduceEqDiff, reduceIte, *]; (try rfl); done)); (focus rfl); (focus rfl); (focus (simp only [splice, List.set_cons_zero, List.set_cons_succ]; (try rfl); done)))
          | rfl | (simp only [u1, Nat.reduceAdd, Nat.reduceEqDiff, reduceIte, *]; (try rfl); done))))
    exact ⟨.inr trivial, by simp only [lk, sv1, sv2, sv3, Nat.reduceEqDiff, Nat.reduceAdd, Nat.reduceLeDiff, reduceIte, if_false, if_true, mkVal, unLV, List.map, optTmps]⟩
  repeat' (first
      | (apply qc_block)
      | (apply qc_seq)
      | (apply qc_region hm)
      | ((first | apply qc_skip | apply qc_exit | apply qc_ret | apply q_nil); try simp only [Thn, Blkd, reduceIte, Nat.reduceEqDiff, Nat.succ_ne_self])
      | (apply qc_condT; (focus (simp only [lk, Nat.reduceEqDiff, reduceIte, Bool.not_true, Bool.not_false, h0, h1, h2]; (try rfl); done))) | (apply qc_condF; (focus (simp only [lk, Nat.reduceEqDiff, reduceIte, Bool.not_true, Bool.not_false, h0, h1, h2]; (try rfl); done)))
      | ((first | apply u_skip | apply u_skipN); (focus (simp only [lk, Nat.reduceEqDiff, reduceIte, Bool.not_true, Bool.not_false, h0, h1, h2]; (try rfl); done)); (focus rfl))
      | ((first | apply q_mv | apply u_alloc | apply u_bslice0 | apply u_faddr | apply u_load | apply u_len | apply u_ext | apply u_un | apply u_pick | apply u_field | apply u_conv | apply u_nilchk | apply u_box | apply u_boxR | apply u_bslice1 | apply u_mkfn | apply u_store | apply q_iaddr | apply u_mm | apply u_lss | apply u_leq | apply u_gtr | apply u_geq | apply u_eql | apply u_neq | apply q_eq | apply q_bin) <;> (first
        | exact wN | (apply wG; (simp only [lk, Nat.reduceEqDiff, reduceIte, Bool.not_true, Bool.not_false, h0, h1, h2]; (try rfl); done)) | (show W _ _ _ _ _ _) | (show ∀ _, _; intro bb hbb; cases bb <;> (try simp only [decide_eq_true_eq, decide_eq_false_iff_not, bne_iff_ne, beq_iff_eq, ne_eq, bne_eq_false_iff_eq, beq_eq_false_iff_ne, Int.not_lt, Int.not_le, gt_iff_lt, ge_iff_le, Bool.not_eq_true, Bool.false_eq_true, if_false, reduceCtorEq] at hbb))
        | ((first | apply ev_I | apply map_I | apply at_I); (simp only [lk, Nat.reduceEqDiff, reduceIte, Bool.not_true, Bool.not_false, h0, h1, h2]; (try rfl); done)) | (apply n_I; (simp only [u1, Nat.reduceAdd, Nat.reduceEqDiff, reduceIte, *]; (try rfl); done))
        | (apply cells_I; (first | rfl | (simp only [u3, u4, if_true, eq_self, reduceIte, *]; (try rfl); done))) | (apply closed_I; (first | assumption | (simp only [u5, eq_self, *]; done)))
        | (apply fa_I; simp only [faddrLV, Nat.zero_add, Nat.reduceAdd]; rfl)
        | (apply pick_I; simp only [pickB]; (try rfl); done) | (apply wrap_I; (first | assumption | (simp only [u1, Nat.reduceAdd, Nat.reduceEqDiff, reduceIte, *]; (try rfl); done) | rfl)) | exact mm_max | exact mm_min
        | (apply load_imm; (first | rfl | (simp only [u1, Nat.reduceAdd, Nat.reduceEqDiff, reduceIte, *]; (try rfl); done))) | (apply loadN_imm rfl; simp only [u2]; (try rfl); done)
        | (apply load_ref; (focus (simp only [u1, Nat.reduceAdd, Nat.reduceEqDiff, reduceIte, *]; (try rfl); done)); (focus (first | rfl | (simp only [u1, Nat.reduceAdd, Nat.reduceEqDiff, reduceIte, *]; (try rfl); done)))) | (apply loadN_ref; (focus (simp only [u1, Nat.reduceAdd, Nat.reduceEqDiff, reduceIte, *]; (try rfl); done)); (focus rfl); (focus (simp only [u2]; (try rfl); done)))
        | (apply store_ref; (focus (first | rfl | (simp only [u3, u4, if_true, eq_self, reduceIte, *]; (try rfl); done))); (focus (simp only [u1, Nat.reduceAdd, Nat.reduceEqDiff, reduceIte, *]; (try rfl); done)); (focus rfl); (focus rfl); (focus (simp only [splice, List.set_cons_zero, List.set_cons_succ]; (try rfl); done)))
        | rfl | (simp only [u1, Nat.reduceAdd, Nat.reduceEqDiff, reduceIte, *]; (try rfl); done))))
  refine q_pureB hG0 (rwvalid_ok hS hL L) (by first | exact wN | (apply wG; (simp only [lk, Nat.reduceEqDiff, reduceIte, h0, h1, h2]; (try rfl); done))) (by simp only [List.map, lk, Nat.reduceEqDiff, reduceIte, h0, h1, h2]; try rfl) (fun bb hbb => ⟨by first | trivial | (simp only [Chks, wantedG, LOp.run, Env.put_some, Env.put_none, lk, sv1, sv2, sv3, Nat.reduceEqDiff, Nat.reduceAdd, Nat.reduceLeDiff, reduceIte, if_false, if_true, mkVal, unLV, List.map, optTmps, beq_self_eq_true, reduceCtorEq, false_or, true_and, and_true, Option.some.injEq, *]; done), ?_⟩)
  simp only [Env.put_some]
  cases bb <;> simp only [decide_eq_true_eq, decide_eq_false_iff_not] at hbb
  · repeat' (first
        | (apply qc_block)
        | (apply qc_seq)
        | (apply qc_region hm)
        | ((first | apply qc_skip | apply qc_exit | apply qc_ret | apply q_nil); try simp only [Thn, Blkd, reduceIte, Nat.reduceEqDiff, Nat.succ_ne_self])
        | (apply qc_condT; (focus (simp only [lk, Nat.reduceEqDiff, reduceIte, Bool.not_true, Bool.not_false, h0, h1, h2]; (try rfl); done))) | (apply qc_condF; (focus (simp only [lk, Nat.reduceEqDiff, reduceIte, Bool.not_true, Bool.not_false, h0, h1, h2]; (try rfl); done)))
        | ((first | apply u_skip | apply u_skipN); (focus (simp only [lk, Nat.reduceEqDiff, reduceIte, Bool.not_true, Bool.not_false, h0, h1, h2]; (try rfl); done)); (focus rfl))
        | ((first | apply q_mv | apply u_alloc | apply u_bslice0 | apply u_faddr | apply u_load | apply u_len | apply u_ext | apply u_un | apply u_pick | apply u_field | apply u_conv | apply u_nilchk | apply u_box | apply u_boxR | apply u_bslice1 | apply u_mkfn | apply u_store | apply q_iaddr | apply u_mm | apply u_lss | apply u_leq | apply u_gtr | apply u_geq | apply u_eql | apply u_neq | apply q_eq | apply q_bin) <;> (first
          | exact wN | (apply wG; (simp only [lk, Nat.reduceEqDiff, reduceIte, Bool.not_true, Bool.not_false, h0, h1, h2]; (try rfl); done)) | (show W _ _ _ _ _ _) | (show ∀ _, _; intro bb hbb; cases bb <;> (try simp only [decide_eq_true_eq, decide_eq_false_iff_not, bne_iff_ne, beq_iff_eq, ne_eq, bne_eq_false_iff_eq, beq_eq_false_iff_ne, Int.not_lt, Int.not_le, gt_iff_lt, ge_iff_le, Bool.not_eq_true, Bool.false_eq_true, if_false, reduceCtorEq] at hbb))
          | ((first | apply ev_I | apply map_I | apply at_I); (simp only [lk, Nat.reduceEqDiff, reduceIte, Bool.not_true, Bool.not_false, h0, h1, h2]; (try rfl); done)) | (apply n_I; (simp only [u1, Nat.reduceAdd, Nat.reduceEqDiff, reduceIte, *]; (try rfl); done))
          | (apply cells_I; (first | rfl | (simp only [u3, u4, if_true, eq_self, reduceIte, *]; (try rfl); done))) | (apply closed_I; (first | assumption | (simp only [u5, eq_self, *]; done)))
          | (apply fa_I; simp only [faddrLV, Nat.zero_add, Nat.reduceAdd]; rfl)
          | (apply pick_I; simp only [pickB]; (try rfl); done) | (apply wrap_I; (first | assumption | (simp only [u1, Nat.reduceAdd, Nat.reduceEqDiff, reduceIte, *]; (try rfl); done) | rfl)) | exact mm_max | exact mm_min
          | (apply load_imm; (first | rfl | (simp only [u1, Nat.reduceAdd, Nat.reduceEqDiff, reduceIte, *]; (try rfl); done))) | (apply loadN_imm rfl; simp only [u2]; (try rfl); done)
          | (apply load_ref; (focus (simp only [u1, Nat.reduceAdd, Nat.reduceEqDiff, reduceIte, *]; (try rfl); done)); (focus (first | rfl | (simp only [u1, Nat.reduceAdd, Nat.reduceEqDiff, reduceIte, *]; (try rfl); done)))) | (apply loadN_ref; (focus (simp only [u1, Nat.reduceAdd, Nat.reduceEqDiff, reduceIte, *]; (try rfl); done)); (focus rfl); (focus (simp only [u2]; (try rfl); done)))
          | (apply store_ref; (focus (first | rfl | (simp only [u3, u4, if_true, eq_self, reduceIte, *]; (try rfl); done))); (focus (simp only [u1, Nat.reduceAdd, Nat.reduceEqDiff, reduceIte, *]; (try rfl); done)); (focus rfl); (focus rfl); (focus (simp only [splice, List.set_cons_zero, List.set_cons_succ]; (try rfl); done)))
          | rfl | (simp only [u1, Nat.reduceAdd, Nat.reduceEqDiff, reduceIte, *]; (try rfl); done))))
    exact ⟨.inr trivial, by simp only [lk, sv1, sv2, sv3, Nat.reduceEqDiff, Nat.reduceAdd, Nat.reduceLeDiff, reduceIte, if_false, if_true, mkVal, unLV, List.map, optTmps]⟩
  repeat' (first
      | (apply qc_block)
      | (apply qc_seq)
      | (apply qc_region hm)
      | ((first | apply qc_skip | apply qc_exit | apply qc_ret | apply q_nil); try simp only [Thn, Blkd, reduceIte, Nat.reduceEqDiff, Nat.succ_ne_self])
      | (apply qc_condT; (focus (simp only [lk, Nat.reduceEqDiff, reduceIte, Bool.not_true, Bool.not_false, h0, h1, h2]; (try rfl); done))) | (apply qc_condF; (focus (simp only [lk, Nat.reduceEqDiff, reduceIte, Bool.not_true, Bool.not_false, h0, h1, h2]; (try rfl); done)))
      | ((first | apply u_skip | apply u_skipN); (focus (simp only [lk, Nat.reduceEqDiff, reduceIte, Bool.not_true, Bool.not_false, h0, h1, h2]; (try rfl); done)); (focus rfl))
      | ((first | apply q_mv | apply u_alloc | apply u_bslice0 | apply u_faddr | apply u_load | apply u_len | apply u_ext | apply u_un | apply u_pick | apply u_field | apply u_conv | apply u_nilchk | apply u_box | apply u_boxR | apply u_bslice1 | apply u_mkfn | apply u_store | apply q_iaddr | apply u_mm | apply u_lss | apply u_leq | apply u_gtr | apply u_geq | apply u_eql | apply u_neq | apply q_eq | apply q_bin) <;> (first
        | exact wN | (apply wG; (simp only [lk, Nat.reduceEqDiff, reduceIte, Bool.not_true, Bool.not_false, h0, h1, h2]; (try rfl); done)) | (show W _ _ _ _ _ _) | (show ∀ _, _; intro bb hbb; cases bb <;> (try simp only [decide_eq_true_eq, decide_eq_false_iff_not, bne_iff_ne, beq_iff_eq, ne_eq, bne_eq_false_iff_eq, beq_eq_false_iff_ne, Int.not_lt, Int.not_le, gt_iff_lt, ge_iff_le, Bool.not_eq_true, Bool.false_eq_true, if_false, reduceCtorEq] at hbb))
        | ((first | apply ev_I | apply map_I | apply at_I); (simp only [lk, Nat.reduceEqDiff, reduceIte, Bool.not_true, Bool.not_false, h0, h1, h2]; (try rfl); done)) | (apply n_I; (simp only [u1, Nat.reduceAdd, Nat.reduceEqDiff, reduceIte, *]; (try rfl); done))
        | (apply cells_I; (first | rfl | (simp only [u3, u4, if_true, eq_self, reduceIte, *]; (try rfl); done))) | (apply closed_I; (first | assumption | (simp only [u5, eq_self, *]; done)))
        | (apply fa_I; simp only [faddrLV, Nat.zero_add, Nat.reduceAdd]; rfl)
        | (apply pick_I; simp only [pickB]; (try rfl); done) | (apply wrap_I; (first | assumption | (simp only [u1, Nat.reduceAdd, Nat.reduceEqDiff, reduceIte, *]; (try rfl); done) | rfl)) | exact mm_max | exact mm_min
        | (apply load_imm; (first | rfl | (simp only [u1, Nat.reduceAdd, Nat.reduceEqDiff, reduceIte, *]; (try rfl); done))) | (apply loadN_imm rfl; simp only [u2]; (try rfl); done)
        | (apply load_ref; (focus (simp only [u1, Nat.reduceAdd, Nat.reduceEqDiff, reduceIte, *]; (try rfl); done)); (focus (first | rfl | (simp only [u1, Nat.reduceAdd, Nat.reduceEqDiff, reduceIte, *]; (try rfl); done)))) | (apply loadN_ref; (focus (simp only [u1, Nat.reduceAdd, Nat.reduceEqDiff, reduceIte, *]; (try rfl); done)); (focus rfl); (focus (simp only [u2]; (try rfl); done)))
        | (apply store_ref; (focus (first | rfl | (simp only [u3, u4, if_true, eq_self, reduceIte, *]; (try rfl); done))); (focus (simp only [u1, Nat.reduceAdd, Nat.reduceEqDiff, reduceIte, *]; (try rfl); done)); (focus rfl); (focus rfl); (focus (simp only [splice, List.set_cons_zero, List.set_cons_succ]; (try rfl); done)))
        | rfl | (simp only [u1, Nat.reduceAdd, Nat.reduceEqDiff, reduceIte, *]; (try rfl); done))))
  have hw0 := hbb
  have hw : Fm sl ll ∧ AllB sl L ∧ AllB ll L := ⟨hw0.2.2, fun j hj => ⟨(hw0.2.2.2.2.2.1 j hj).1, hw0.1 j hj⟩, fun j hj => ⟨(hw0.2.2.2.2.2.2 j hj).1, hw0.2.1 j hj⟩⟩
  have hr0 := read_word hN hR hS hL hp hw
  refine q_pure hG0 (hr0) (by first | exact wN | (apply wG; (simp only [lk, Nat.reduceEqDiff, reduceIte, h0, h1, h2]; (try rfl); done))) (by simp only [List.map, lk, Nat.reduceEqDiff, reduceIte, h0, h1, h2]; try rfl) (by first | trivial | (simp only [Chks, wantedG, LOp.run, Env.put_some, Env.put_none, lk, sv1, sv2, sv3, Nat.reduceEqDiff, Nat.reduceAdd, Nat.reduceLeDiff, reduceIte, if_false, if_true, mkVal, unLV, List.map, optTmps, beq_self_eq_true, reduceCtorEq, false_or, true_and, and_true, Option.some.injEq, *]; done)) ?_
  simp only [Env.put_some]
  repeat' (first
      | (apply qc_block)
      | (apply qc_seq)
      | (apply qc_region hm)
      | ((first | apply qc_skip | apply qc_exit | apply qc_ret | apply q_nil); try simp only [Thn, Blkd, reduceIte, Nat.reduceEqDiff, Nat.succ_ne_self])
      | (apply qc_condT; (focus (simp only [lk, Nat.reduceEqDiff, reduceIte, Bool.not_true, Bool.not_false, h0, h1, h2]; (try rfl); done))) | (apply qc_condF; (focus (simp only [lk, Nat.reduceEqDiff, reduceIte, Bool.not_true, Bool.not_false, h0, h1, h2]; (try rfl); done)))
      | ((first | apply u_skip | apply u_skipN); (focus (simp only [lk, Nat.reduceEqDiff, reduceIte, Bool.not_true, Bool.not_false, h0, h1, h2]; (try rfl); done)); (focus rfl))
      | ((first | apply q_mv | apply u_alloc | apply u_bslice0 | apply u_faddr | apply u_load | apply u_len | apply u_ext | apply u_un | apply u_pick | apply u_field | apply u_conv | apply u_nilchk | apply u_box | apply u_boxR | apply u_bslice1 | apply u_mkfn | apply u_store | apply q_iaddr | apply u_mm | apply u_lss | apply u_leq | apply u_gtr | apply u_geq | apply u_eql | apply u_neq | apply q_eq | apply q_bin) <;> (first
        | exact wN | (apply wG; (simp only [lk, Nat.reduceEqDiff, reduceIte, Bool.not_true, Bool.not_false, h0, h1, h2]; (try rfl); done)) | (show W _ _ _ _ _ _) | (show ∀ _, _; intro bb hbb; cases bb <;> (try simp only [decide_eq_true_eq, decide_eq_false_iff_not, bne_iff_ne, beq_iff_eq, ne_eq, bne_eq_false_iff_eq, beq_eq_false_iff_ne, Int.not_lt, Int.not_le, gt_iff_lt, ge_iff_le, Bool.not_eq_true, Bool.false_eq_true, if_false, reduceCtorEq] at hbb))
        | ((first | apply ev_I | apply map_I | apply at_I); (simp only [lk, Nat.reduceEqDiff, reduceIte, Bool.not_true, Bool.not_false, h0, h1, h2]; (try rfl); done)) | (apply n_I; (simp only [u1, Nat.reduceAdd, Nat.reduceEqDiff, reduceIte, *]; (try rfl); done))
        | (apply cells_I; (first | rfl | (simp only [u3, u4, if_true, eq_self, reduceIte, *]; (try rfl); done))) | (apply closed_I; (first | assumption | (simp only [u5, eq_self, *]; done)))
        | (apply fa_I; simp only [faddrLV, Nat.zero_add, Nat.reduceAdd]; rfl)
        | (apply pick_I; simp only [pickB]; (try rfl); done) | (apply wrap_I; (first | assumption | (simp only [u1, Nat.reduceAdd, Nat.reduceEqDiff, reduceIte, *]; (try rfl); done) | rfl)) | exact mm_max | exact mm_min
        | (apply load_imm; (first | rfl | (simp only [u1, Nat.reduceAdd, Nat.reduceEqDiff, reduceIte, *]; (try rfl); done))) | (apply loadN_imm rfl; simp only [u2]; (try rfl); done)
        | (apply load_ref; (focus (simp only [u1, Nat.reduceAdd, Nat.reduceEqDiff, reduceIte, *]; (try rfl); done)); (focus (first | rfl | (simp only [u1, Nat.reduceAdd, Nat.reduceEqDiff, reduceIte, *]; (try rfl); done)))) | (apply loadN_ref; (focus (simp only [u1, Nat.reduceAdd, Nat.reduceEqDiff, reduceIte, *]; (try rfl); done)); (focus rfl); (focus (simp only [u2]; (try rfl); done)))
        | (apply store_ref; (focus (first | rfl | (simp only [u3, u4, if_true, eq_self, reduceIte, *]; (try rfl); done))); (focus (simp only [u1, Nat.reduceAdd, Nat.reduceEqDiff, reduceIte, *]; (try rfl); done)); (focus rfl); (focus rfl); (focus (simp only [splice, List.set_cons_zero, List.set_cons_succ]; (try rfl); done)))
        | rfl | (simp only [u1, Nat.reduceAdd, Nat.reduceEqDiff, reduceIte, *]; (try rfl); done))))
  refine q_pureEx hG0 (wnormal_ok hS hL hw.1) wN (by simp only [lk, sv1, sv2, sv3, Nat.reduceEqDiff, Nat.reduceAdd, Nat.reduceLeDiff, reduceIte, if_false, if_true, mkVal, unLV, List.map, optTmps]) (fun r hr hrc => ?_)
  obtain ⟨st', lo', sl', ll', rfl, hS', hL', y1, y2, y3, y4, y5, y6⟩ := hr
  refine ⟨by simp only [Chks, wantedG, LOp.run, Env.put_some, Env.put_none, lk, sv1, sv2, sv3, Nat.reduceEqDiff, Nat.reduceAdd, Nat.reduceLeDiff, reduceIte, if_false, if_true, mkVal, unLV, List.map, optTmps, beq_self_eq_true, reduceCtorEq, false_or, true_and, and_true, Option.some.injEq, *], ?_⟩
  simp only [Env.put_some]
  have hw' := fm_sub hw y1 y2 y3 y4 y5
  have hr1 := read_word hN hR hS' hL' hp hw'
  rw [vw_same hp hw hw' y6] at hr1
  clear hw' y1 y2 y3 y4 y5 y6
  refine q_pure hG0 (hr1) (by first | exact wN | (apply wG; (simp only [lk, Nat.reduceEqDiff, reduceIte, h0, h1, h2]; (try rfl); done))) (by simp only [List.map, lk, Nat.reduceEqDiff, reduceIte, h0, h1, h2]; try rfl) (by first | trivial | (simp only [Chks, wantedG, LOp.run, Env.put_some, Env.put_none, lk, sv1, sv2, sv3, Nat.reduceEqDiff, Nat.reduceAdd, Nat.reduceLeDiff, reduceIte, if_false, if_true, mkVal, unLV, List.map, optTmps, beq_self_eq_true, reduceCtorEq, false_or, true_and, and_true, Option.some.injEq, *]; done)) ?_
  simp only [Env.put_some]
  repeat' (first
      | (apply qc_block)
      | (apply qc_seq)
      | (apply qc_region hm)
      | ((first | apply qc_skip | apply qc_exit | apply qc_ret | apply q_nil); try simp only [Thn, Blkd, reduceIte, Nat.reduceEqDiff, Nat.succ_ne_self])
      | (apply qc_condT; (focus (simp only [lk, Nat.reduceEqDiff, reduceIte, Bool.not_true, Bool.not_false, h0, h1, h2]; (try rfl); done))) | (apply qc_condF; (focus (simp only [lk, Nat.reduceEqDiff, reduceIte, Bool.not_true, Bool.not_false, h0, h1, h2]; (try rfl); done)))
      | ((first | apply u_skip | apply u_skipN); (focus (simp only [lk, Nat.reduceEqDiff, reduceIte, Bool.not_true, Bool.not_false, h0, h1, h2]; (try rfl); done)); (focus rfl))
      | ((first | apply q_mv | apply u_alloc | apply u_bslice0 | apply u_faddr | apply u_load | apply u_len | apply u_ext | apply u_un | apply u_pick | apply u_field | apply u_conv | apply u_nilchk | apply u_box | apply u_boxR | apply u_bslice1 | apply u_mkfn | apply u_store | apply q_iaddr | apply u_mm | apply u_lss | apply u_leq | apply u_gtr | apply u_geq | apply u_eql | apply u_neq | apply q_eq | apply q_bin) <;> (first
        | exact wN | (apply wG; (simp only [lk, Nat.reduceEqDiff, reduceIte, Bool.not_true, Bool.not_false, h0, h1, h2]; (try rfl); done)) | (show W _ _ _ _ _ _) | (show ∀ _, _; intro bb hbb; cases bb <;> (try simp only [decide_eq_true_eq, decide_eq_false_iff_not, bne_iff_ne, beq_iff_eq, ne_eq, bne_eq_false_iff_eq, beq_eq_false_iff_ne, Int.not_lt, Int.not_le, gt_iff_lt, ge_iff_le, Bool.not_eq_true, Bool.false_eq_true, if_false, reduceCtorEq] at hbb))
        | ((first | apply ev_I | apply map_I | apply at_I); (simp only [lk, Nat.reduceEqDiff, reduceIte, Bool.not_true, Bool.not_false, h0, h1, h2]; (try rfl); done)) | (apply n_I; (simp only [u1, Nat.reduceAdd, Nat.reduceEqDiff, reduceIte, *]; (try rfl); done))
        | (apply cells_I; (first | rfl | (simp only [u3, u4, if_true, eq_self, reduceIte, *]; (try rfl); done))) | (apply closed_I; (first | assumption | (simp only [u5, eq_self, *]; done)))
        | (apply fa_I; simp only [faddrLV, Nat.zero_add, Nat.reduceAdd]; rfl)
        | (apply pick_I; simp only [pickB]; (try rfl); done) | (apply wrap_I; (first | assumption | (simp only [u1, Nat.reduceAdd, Nat.reduceEqDiff, reduceIte, *]; (try rfl); done) | rfl)) | exact mm_max | exact mm_min
        | (apply load_imm; (first | rfl | (simp only [u1, Nat.reduceAdd, Nat.reduceEqDiff, reduceIte, *]; (try rfl); done))) | (apply loadN_imm rfl; simp only [u2]; (try rfl); done)
        | (apply load_ref; (focus (simp only [u1, Nat.reduceAdd, Nat.reduceEqDiff, reduceIte, *]; (try rfl); done)); (focus (first | rfl | (simp only [u1, Nat.reduceAdd, Nat.reduceEqDiff, reduceIte, *]; (try rfl); done)))) | (apply loadN_ref; (focus (simp only [u1, Nat.reduceAdd, Nat.reduceEqDiff, reduceIte, *]; (try rfl); done)); (focus rfl); (focus (simp only [u2]; (try rfl); done)))
        | (apply store_ref; (focus (first | rfl | (simp only [u3, u4, if_true, eq_self, reduceIte, *]; (try rfl); done))); (focus (simp only [u1, Nat.reduceAdd, Nat.reduceEqDiff, reduceIte, *]; (try rfl); done)); (focus rfl); (focus rfl); (focus (simp only [splice, List.set_cons_zero, List.set_cons_succ]; (try rfl); done)))
        | rfl | (simp only [u1, Nat.reduceAdd, Nat.reduceEqDiff, reduceIte, *]; (try rfl); done))))
  rotate_left
  · exfalso; revert hbb; cases Vw N R sl ll S.toNat <;> simp
  have hm2 : maxLen = 9223372036854775807 := by decide
  have hll1 : 1 ≤ ll.length := hw.1.2.1
  have hll2 : ll.length ≤ 40 := hw.1.2.2.1
  have hsl2 : sl.length ≤ 60 := hw.1.1
  have x0 : ((0 : Nat) : Int) < (ll.length : Int) := by omega
  have x1 : (0 : Int) < (ll.length : Int) := by omega
  have hia : ∀ s : St, iaLV 1 lo (.int .i64 0) s = some (.pimm (ints ll) 0, s) := fun s => by
    have := iaN (esz := 1) (k := .i64) (s := s) hL.sl (i := 0) x0
    simpa using this
  have hg0 : (ints ll)[0]? = some (.int .i64 (ll.getD 0 0)) := ints_get (i := 0) x0
  repeat' (first
      | (apply qc_block)
      | (apply qc_seq)
      | (apply qc_region hm)
      | ((first | apply qc_skip | apply qc_exit | apply qc_ret | apply q_nil); try simp only [Thn, Blkd, reduceIte, Nat.reduceEqDiff, Nat.succ_ne_self])
      | (apply qc_condT; (focus (simp only [lk, Nat.reduceEqDiff, reduceIte, Bool.not_true, Bool.not_false, h0, h1, h2]; (try rfl); done))) | (apply qc_condF; (focus (simp only [lk, Nat.reduceEqDiff, reduceIte, Bool.not_true, Bool.not_false, h0, h1, h2]; (try rfl); done)))
      | ((first | apply u_skip | apply u_skipN); (focus (simp only [lk, Nat.reduceEqDiff, reduceIte, Bool.not_true, Bool.not_false, h0, h1, h2]; (try rfl); done)); (focus rfl))
      | ((first | apply q_mv | apply u_alloc | apply u_bslice0 | apply u_faddr | apply u_load | apply u_len | apply u_ext | apply u_un | apply u_pick | apply u_field | apply u_conv | apply u_nilchk | apply u_box | apply u_boxR | apply u_bslice1 | apply u_mkfn | apply u_store | apply q_iaddr | apply u_mm | apply u_lss | apply u_leq | apply u_gtr | apply u_geq | apply u_eql | apply u_neq | apply q_eq | apply q_bin) <;> (first
        | exact wN | (apply wG; (simp only [lk, Nat.reduceEqDiff, reduceIte, Bool.not_true, Bool.not_false, h0, h1, h2]; (try rfl); done)) | (show W _ _ _ _ _ _) | (show ∀ _, _; intro bb hbb; cases bb <;> (try simp only [decide_eq_true_eq, decide_eq_false_iff_not, bne_iff_ne, beq_iff_eq, ne_eq, bne_eq_false_iff_eq, beq_eq_false_iff_ne, Int.not_lt, Int.not_le, gt_iff_lt, ge_iff_le, Bool.not_eq_true, Bool.false_eq_true, if_false, reduceCtorEq] at hbb))
        | ((first | apply ev_I | apply map_I | apply at_I); (simp only [lk, Nat.reduceEqDiff, reduceIte, Bool.not_true, Bool.not_false, h0, h1, h2]; (try rfl); done)) | (apply n_I; (simp only [u1, Nat.reduceAdd, Nat.reduceEqDiff, reduceIte, hia, hg0, *]; (try rfl); done))
        | (apply cells_I; (first | rfl | (simp only [u3, u4, if_true, eq_self, reduceIte, *]; (try rfl); done))) | (apply closed_I; (first | assumption | (simp only [u5, eq_self, *]; done)))
        | (apply fa_I; simp only [faddrLV, Nat.zero_add, Nat.reduceAdd]; rfl)
        | (apply pick_I; simp only [pickB]; (try rfl); done) | (apply wrap_I; (first | assumption | (simp only [u1, Nat.reduceAdd, Nat.reduceEqDiff, reduceIte, hia, hg0, *]; (try rfl); done) | rfl)) | exact mm_max | exact mm_min
        | (apply load_imm; (first | rfl | (simp only [u1, Nat.reduceAdd, Nat.reduceEqDiff, reduceIte, hia, hg0, *]; (try rfl); done))) | (apply loadN_imm rfl; simp only [u2]; (try rfl); done)
        | (apply load_ref; (focus (simp only [u1, Nat.reduceAdd, Nat.reduceEqDiff, reduceIte, hia, hg0, *]; (try rfl); done)); (focus (first | rfl | (simp only [u1, Nat.reduceAdd, Nat.reduceEqDiff, reduceIte, hia, hg0, *]; (try rfl); done)))) | (apply loadN_ref; (focus (simp only [u1, Nat.reduceAdd, Nat.reduceEqDiff, reduceIte, hia, hg0, *]; (try rfl); done)); (focus rfl); (focus (simp only [u2]; (try rfl); done)))
        | (apply store_ref; (focus (first | rfl | (simp only [u3, u4, if_true, eq_self, reduceIte, *]; (try rfl); done))); (focus (simp only [u1, Nat.reduceAdd, Nat.reduceEqDiff, reduceIte, hia, hg0, *]; (try rfl); done)); (focus rfl); (focus rfl); (focus (simp only [splice, List.set_cons_zero, List.set_cons_succ]; (try rfl); done)))
        | rfl | (simp only [u1, Nat.reduceAdd, Nat.reduceEqDiff, reduceIte, hia, hg0, *]; (try rfl); done))))
  refine q_gen (v := .sref 1 0 1 1) (s' := St.new (St.new St.empty (.cells .mut [])) (.cells .mut [.int .i64 (ll.getD 0 0)])) rfl (run_bslice1 (by simp only [lk, sv1, sv2, sv3, Nat.reduceEqDiff, Nat.reduceAdd, Nat.reduceLeDiff, reduceIte, if_false, if_true, mkVal, unLV, List.map, optTmps]) rfl) rfl (by simp only [Chks, wantedG, LOp.run, Env.put_some, Env.put_none, lk, sv1, sv2, sv3, Nat.reduceEqDiff, Nat.reduceAdd, Nat.reduceLeDiff, reduceIte, if_false, if_true, mkVal, unLV, List.map, optTmps, beq_self_eq_true, reduceCtorEq, false_or, true_and, and_true, Option.some.injEq, hg0]) ?_
  simp only [Env.put_some]
  refine q_gen (v := .sref 2 0 0 1) (s' := St.new (St.new (St.new St.empty (.cells .mut [])) (.cells .mut [.int .i64 (ll.getD 0 0)])) (.cells .mut [])) rfl (by simp only [LOp.run, fillParts, evParts, rep]; rfl) rfl (by simp only [Chks, wantedG, LOp.run, Env.put_some, Env.put_none, lk, sv1, sv2, sv3, Nat.reduceEqDiff, Nat.reduceAdd, Nat.reduceLeDiff, reduceIte, if_false, if_true, mkVal, unLV, List.map, optTmps, beq_self_eq_true, reduceCtorEq, false_or, true_and, and_true, Option.some.injEq, hg0]) ?_
  simp only [Env.put_some]
  repeat' (first
      | (apply qc_block)
      | (apply qc_seq)
      | (apply qc_region hm)
      | ((first | apply qc_skip | apply qc_exit | apply qc_ret | apply q_nil); try simp only [Thn, Blkd, reduceIte, Nat.reduceEqDiff, Nat.succ_ne_self])
      | (apply qc_condT; (focus (simp only [lk, Nat.reduceEqDiff, reduceIte, Bool.not_true, Bool.not_false, h0, h1, h2]; (try rfl); done))) | (apply qc_condF; (focus (simp only [lk, Nat.reduceEqDiff, reduceIte, Bool.not_true, Bool.not_false, h0, h1, h2]; (try rfl); done)))
      | ((first | apply u_skip | apply u_skipN); (focus (simp only [lk, Nat.reduceEqDiff, reduceIte, Bool.not_true, Bool.not_false, h0, h1, h2]; (try rfl); done)); (focus rfl))
      | ((first | apply q_mv | apply u_alloc | apply u_bslice0 | apply u_faddr | apply u_load | apply u_len | apply u_ext | apply u_un | apply u_pick | apply u_field | apply u_conv | apply u_nilchk | apply u_box | apply u_boxR | apply u_bslice1 | apply u_mkfn | apply u_store | apply q_iaddr | apply u_mm | apply u_lss | apply u_leq | apply u_gtr | apply u_geq | apply u_eql | apply u_neq | apply q_eq | apply q_bin) <;> (first
        | exact wN | (apply wG; (simp only [lk, Nat.reduceEqDiff, reduceIte, Bool.not_true, Bool.not_false, h0, h1, h2]; (try rfl); done)) | (show W _ _ _ _ _ _) | (show ∀ _, _; intro bb hbb; cases bb <;> (try simp only [decide_eq_true_eq, decide_eq_false_iff_not, bne_iff_ne, beq_iff_eq, ne_eq, bne_eq_false_iff_eq, beq_eq_false_iff_ne, Int.not_lt, Int.not_le, gt_iff_lt, ge_iff_le, Bool.not_eq_true, Bool.false_eq_true, if_false, reduceCtorEq] at hbb))
        | ((first | apply ev_I | apply map_I | apply at_I); (simp only [lk, Nat.reduceEqDiff, reduceIte, Bool.not_true, Bool.not_false, h0, h1, h2]; (try rfl); done)) | (apply n_I; (simp only [u1, Nat.reduceAdd, Nat.reduceEqDiff, reduceIte, hia, hg0, *]; (try rfl); done))
        | (apply cells_I; (first | rfl | (simp only [u3, u4, if_true, eq_self, reduceIte, *]; (try rfl); done))) | (apply closed_I; (first | assumption | (simp only [u5, eq_self, *]; done)))
        | (apply fa_I; simp only [faddrLV, Nat.zero_add, Nat.reduceAdd]; rfl)
        | (apply pick_I; simp only [pickB]; (try rfl); done) | (apply wrap_I; (first | assumption | (simp only [u1, Nat.reduceAdd, Nat.reduceEqDiff, reduceIte, hia, hg0, *]; (try rfl); done) | rfl)) | exact mm_max | exact mm_min
        | (apply load_imm; (first | rfl | (simp only [u1, Nat.reduceAdd, Nat.reduceEqDiff, reduceIte, hia, hg0, *]; (try rfl); done))) | (apply loadN_imm rfl; simp only [u2]; (try rfl); done)
        | (apply load_ref; (focus (simp only [u1, Nat.reduceAdd, Nat.reduceEqDiff, reduceIte, hia, hg0, *]; (try rfl); done)); (focus (first | rfl | (simp only [u1, Nat.reduceAdd, Nat.reduceEqDiff, reduceIte, hia, hg0, *]; (try rfl); done)))) | (apply loadN_ref; (focus (simp only [u1, Nat.reduceAdd, Nat.reduceEqDiff, reduceIte, hia, hg0, *]; (try rfl); done)); (focus rfl); (focus (simp only [u2]; (try rfl); done)))
        | (apply store_ref; (focus (first | rfl | (simp only [u3, u4, if_true, eq_self, reduceIte, *]; (try rfl); done))); (focus (simp only [u1, Nat.reduceAdd, Nat.reduceEqDiff, reduceIte, hia, hg0, *]; (try rfl); done)); (focus rfl); (focus rfl); (focus (simp only [splice, List.set_cons_zero, List.set_cons_succ]; (try rfl); done)))
        | rfl | (simp only [u1, Nat.reduceAdd, Nat.reduceEqDiff, reduceIte, hia, hg0, *]; (try rfl); done))))
  refine q_gen (v := .simm (((ints ll).drop 1).take (ll.length - 1)) (ll.length - 1)) wN (run_slice (h := ll.length) (k := 1) (lov := some (.int .i64 (1 : Nat))) (hiv := none) (by simp only [lk, sv1, sv2, sv3, Nat.reduceEqDiff, Nat.reduceAdd, Nat.reduceLeDiff, reduceIte, if_false, if_true, mkVal, unLV, List.map, optTmps]; exact hL.sl.pos (by omega)) rfl rfl rfl (bnd_int hll1) (ints_length ll)) rfl trivial ?_
  simp only [Env.put_some]
  repeat' (first
      | (apply qc_block)
      | (apply qc_seq)
      | (apply qc_region hm)
      | ((first | apply qc_skip | apply qc_exit | apply qc_ret | apply q_nil); try simp only [Thn, Blkd, reduceIte, Nat.reduceEqDiff, Nat.succ_ne_self])
      | (apply qc_condT; (focus (simp only [lk, Nat.reduceEqDiff, reduceIte, Bool.not_true, Bool.not_false, h0, h1, h2]; (try rfl); done))) | (apply qc_condF; (focus (simp only [lk, Nat.reduceEqDiff, reduceIte, Bool.not_true, Bool.not_false, h0, h1, h2]; (try rfl); done)))
      | ((first | apply u_skip | apply u_skipN); (focus (simp only [lk, Nat.reduceEqDiff, reduceIte, Bool.not_true, Bool.not_false, h0, h1, h2]; (try rfl); done)); (focus rfl))
      | ((first | apply q_mv | apply u_alloc | apply u_bslice0 | apply u_faddr | apply u_load | apply u_len | apply u_ext | apply u_un | apply u_pick | apply u_field | apply u_conv | apply u_nilchk | apply u_box | apply u_boxR | apply u_bslice1 | apply u_mkfn | apply u_store | apply q_iaddr | apply u_mm | apply u_lss | apply u_leq | apply u_gtr | apply u_geq | apply u_eql | apply u_neq | apply q_eq | apply q_bin) <;> (first
        | exact wN | (apply wG; (simp only [lk, Nat.reduceEqDiff, reduceIte, Bool.not_true, Bool.not_false, h0, h1, h2]; (try rfl); done)) | (show W _ _ _ _ _ _) | (show ∀ _, _; intro bb hbb; cases bb <;> (try simp only [decide_eq_true_eq, decide_eq_false_iff_not, bne_iff_ne, beq_iff_eq, ne_eq, bne_eq_false_iff_eq, beq_eq_false_iff_ne, Int.not_lt, Int.not_le, gt_iff_lt, ge_iff_le, Bool.not_eq_true, Bool.false_eq_true, if_false, reduceCtorEq] at hbb))
        | ((first | apply ev_I | apply map_I | apply at_I); (simp only [lk, Nat.reduceEqDiff, reduceIte, Bool.not_true, Bool.not_false, h0, h1, h2]; (try rfl); done)) | (apply n_I; (simp only [u1, Nat.reduceAdd, Nat.reduceEqDiff, reduceIte, hia, hg0, *]; (try rfl); done))
        | (apply cells_I; (first | rfl | (simp only [u3, u4, if_true, eq_self, reduceIte, *]; (try rfl); done))) | (apply closed_I; (first | assumption | (simp only [u5, eq_self, *]; done)))
        | (apply fa_I; simp only [faddrLV, Nat.zero_add, Nat.reduceAdd]; rfl)
        | (apply pick_I; simp only [pickB]; (try rfl); done) | (apply wrap_I; (first | assumption | (simp only [u1, Nat.reduceAdd, Nat.reduceEqDiff, reduceIte, hia, hg0, *]; (try rfl); done) | rfl)) | exact mm_max | exact mm_min
        | (apply load_imm; (first | rfl | (simp only [u1, Nat.reduceAdd, Nat.reduceEqDiff, reduceIte, hia, hg0, *]; (try rfl); done))) | (apply loadN_imm rfl; simp only [u2]; (try rfl); done)
        | (apply load_ref; (focus (simp only [u1, Nat.reduceAdd, Nat.reduceEqDiff, reduceIte, hia, hg0, *]; (try rfl); done)); (focus (first | rfl | (simp only [u1, Nat.reduceAdd, Nat.reduceEqDiff, reduceIte, hia, hg0, *]; (try rfl); done)))) | (apply loadN_ref; (focus (simp only [u1, Nat.reduceAdd, Nat.reduceEqDiff, reduceIte, hia, hg0, *]; (try rfl); done)); (focus rfl); (focus (simp only [u2]; (try rfl); done)))
        | (apply store_ref; (focus (first | rfl | (simp only [u3, u4, if_true, eq_self, reduceIte, *]; (try rfl); done))); (focus (simp only [u1, Nat.reduceAdd, Nat.reduceEqDiff, reduceIte, hia, hg0, *]; (try rfl); done)); (focus rfl); (focus rfl); (focus (simp only [splice, List.set_cons_zero, List.set_cons_succ]; (try rfl); done)))
        | rfl | (simp only [u1, Nat.reduceAdd, Nat.reduceEqDiff, reduceIte, hia, hg0, *]; (try rfl); done))))
  generalize hy : ll.getD 0 0 = y at *
  obtain ⟨s4, hs4⟩ : ∃ s4, s4 = St.new (St.new (St.new (St.new (St.new St.empty (.cells .mut [])) (.cells .mut [.int .i64 y])) (.cells .mut [])) (.cells .mut [.int .i64 y])) (.cells .mut [.nils, .nils]) := ⟨_, rfl⟩
  have n4 : s4.n = 5 := by rw [hs4]; simp [n_empty]
  have k0 : s4.get 0 = some (.cells .mut []) := by rw [hs4]; simp [n_empty]
  have k1 : s4.get 1 = some (.cells .mut [.int .i64 y]) := by rw [hs4]; simp [n_empty]
  have k2 : s4.get 2 = some (.cells .mut []) := by rw [hs4]; simp [n_empty]
  have k3 : s4.get 3 = some (.cells .mut [.int .i64 y]) := by rw [hs4]; simp [n_empty]
  have k4 : s4.get 4 = some (.cells .mut [.nils, .nils]) := by rw [hs4]; simp [n_empty]
  refine q_gen (v := .sref 3 0 1 1) (s' := St.new (St.new (St.new (St.new St.empty (.cells .mut [])) (.cells .mut [.int .i64 y])) (.cells .mut [])) (.cells .mut [.int .i64 y])) rfl (run_bslice1 (by simp only [lk, sv1, sv2, sv3, Nat.reduceEqDiff, Nat.reduceAdd, Nat.reduceLeDiff, reduceIte, if_false, if_true, mkVal, unLV, List.map, optTmps]) rfl) rfl (by simp only [Chks, wantedG, LOp.run, Env.put_some, Env.put_none, lk, sv1, sv2, sv3, Nat.reduceEqDiff, Nat.reduceAdd, Nat.reduceLeDiff, reduceIte, if_false, if_true, mkVal, unLV, List.map, optTmps, beq_self_eq_true, reduceCtorEq, false_or, true_and, and_true, Option.some.injEq, hg0]) ?_
  simp only [Env.put_some]
  refine q_gen (v := .pref 4 0) (s' := s4) rfl (by rw [hs4]; rfl) rfl (by simp only [Chks, wantedG, LOp.run, Env.put_some, Env.put_none, lk, sv1, sv2, sv3, Nat.reduceEqDiff, Nat.reduceAdd, Nat.reduceLeDiff, reduceIte, if_false, if_true, mkVal, unLV, List.map, optTmps, beq_self_eq_true, reduceCtorEq, false_or, true_and, and_true, Option.some.injEq, hg0]) ?_
  simp only [Env.put_some]
  clear hs4
  obtain ⟨z1, z2⟩ := row_ints hS
  obtain ⟨s5, a5, n5, g5, o5⟩ := app_ints (s := s4) 5 0 0 sl.length sl.length (cs := []) (new := ints sl) (cs' := ints sl) n4 k0 rfl (ints_length sl) (by omega) (by omega) rfl
  refine q_gen (v := .sref 5 0 sl.length 1) (s' := s5) rfl (by simp only [LOp.run, lk, sv1, sv2, sv3, Nat.reduceEqDiff, Nat.reduceAdd, Nat.reduceLeDiff, reduceIte, if_false, if_true, mkVal, unLV, List.map, optTmps, z1, z2, frzTry_all (ints_closed sl), a5, Option.bind_eq_bind, Option.bind_some]) rfl (by simp only [Chks, wantedG, LOp.run, Env.put_some, Env.put_none, lk, sv1, sv2, sv3, Nat.reduceEqDiff, Nat.reduceAdd, Nat.reduceLeDiff, reduceIte, if_false, if_true, mkVal, unLV, List.map, optTmps, beq_self_eq_true, reduceCtorEq, false_or, true_and, and_true, Option.some.injEq, hg0]) ?_
  simp only [Env.put_some]
  obtain ⟨s6, a6, n6, g6, o6⟩ := app_ints (s := s5) 6 5 sl.length 1 (sl.length + 1) (cs := ints sl) (new := [.int .i64 y]) (cs' := ints (sl ++ [y])) n5 g5 (by simp) rfl (by omega) (by omega) (by simp [ints])
  refine q_gen (v := .sref 6 0 (sl.length + 1) 1) (s' := s6) rfl (by simp only [LOp.run, lk, sv1, sv2, sv3, Nat.reduceEqDiff, Nat.reduceAdd, Nat.reduceLeDiff, reduceIte, if_false, if_true, mkVal, unLV, List.map, optTmps, lenLV, rowOf_one (show s5.get 1 = some (.cells .mut [.int .i64 y]) by rw [o5 1 (by omega) (by omega)]; exact k1), frzTry_closed (show (LV.int .i64 y).closed = true from rfl), a6, Option.bind_eq_bind, Option.bind_some]) rfl (by simp only [Chks, wantedG, LOp.run, Env.put_some, Env.put_none, lk, sv1, sv2, sv3, Nat.reduceEqDiff, Nat.reduceAdd, Nat.reduceLeDiff, reduceIte, if_false, if_true, mkVal, unLV, List.map, optTmps, beq_self_eq_true, reduceCtorEq, false_or, true_and, and_true, Option.some.injEq, hg0]) ?_
  simp only [Env.put_some]
  have hd1 : ((ints ll).drop 1).take (ll.length - 1) = ints (ll.drop 1) := by rw [List.take_of_length_le (by simp)]; simp [ints, List.map_drop]
  have hd2 : (ll.drop 1).length = ll.length - 1 := by simp
  rw [hd1]
  have q2 : s6.get 2 = some (.cells .mut []) := by rw [o6 2 (by omega) (by omega), o5 2 (by omega) (by omega)]; exact k2
  have q3 : s6.get 3 = some (.cells .mut [.int .i64 y]) := by rw [o6 3 (by omega) (by omega), o5 3 (by omega) (by omega)]; exact k3
  have q4 : s6.get 4 = some (.cells .mut [.nils, .nils]) := by rw [o6 4 (by omega) (by omega), o5 4 (by omega) (by omega)]; exact k4
  have hrow : rowOf s6 1 (ll.length - 1) (.simm (ints (ll.drop 1)) (ll.length - 1)) = some (ints (ll.drop 1)) := rowOf_simm (by simp)
  obtain ⟨s7, a7, n7, g7, o7⟩ := app_ints (s := s6) 7 2 0 (ll.length - 1) (ll.length - 1) (cs := []) (new := ints (ll.drop 1)) (cs' := ints (ll.drop 1)) n6 q2 rfl (by simp) (by omega) (by omega) rfl
  refine q_gen (v := .sref 7 0 (ll.length - 1) 1) (s' := s7) rfl (by simp only [LOp.run, lk, sv1, sv2, sv3, Nat.reduceEqDiff, Nat.reduceAdd, Nat.reduceLeDiff, reduceIte, if_false, if_true, mkVal, unLV, List.map, optTmps, lenLV, hrow, frzTry_all (ints_closed (ll.drop 1)), a7, Option.bind_eq_bind, Option.bind_some]) rfl (by simp only [Chks, wantedG, LOp.run, Env.put_some, Env.put_none, lk, sv1, sv2, sv3, Nat.reduceEqDiff, Nat.reduceAdd, Nat.reduceLeDiff, reduceIte, if_false, if_true, mkVal, unLV, List.map, optTmps, beq_self_eq_true, reduceCtorEq, false_or, true_and, and_true, Option.some.injEq, hg0]) ?_
  simp only [Env.put_some]
  obtain ⟨s8, a8, n8, g8, o8⟩ := app_ints (s := s7) 8 7 (ll.length - 1) 1 ll.length (cs := ints (ll.drop 1)) (new := [.int .i64 y]) (cs' := ints (ll.drop 1 ++ [y])) n7 g7 (by simp) rfl (by omega) (by omega) (by simp [ints])
  refine q_gen (v := .sref 8 0 ll.length 1) (s' := s8) rfl (by simp only [LOp.run, lk, sv1, sv2, sv3, Nat.reduceEqDiff, Nat.reduceAdd, Nat.reduceLeDiff, reduceIte, if_false, if_true, mkVal, unLV, List.map, optTmps, lenLV, rowOf_one (show s7.get 3 = some (.cells .mut [.int .i64 y]) by rw [o7 3 (by omega) (by omega)]; exact q3), frzTry_closed (show (LV.int .i64 y).closed = true from rfl), a8, Option.bind_eq_bind, Option.bind_some]) rfl trivial ?_
  simp only [Env.put_some]
  refine q_gen (v := .agg [.sref 6 0 (sl.length + 1) 1, .sref 8 0 ll.length 1]) (s' := s8) rfl (by simp only [LOp.run, lk, sv1, sv2, sv3, Nat.reduceEqDiff, Nat.reduceAdd, Nat.reduceLeDiff, reduceIte, if_false, if_true, mkVal, unLV, List.map, optTmps, fillParts, evParts, cells_sref]; rfl) rfl trivial ?_
  simp only [Env.put_some]
  have r4 : s8.get 4 = some (.cells .mut [.nils, .nils]) := by rw [o8 4 (by omega) (by omega), o7 4 (by omega) (by omega)]; exact q4
  refine q_storeG (i := 4) (o := 0) (n := 2) (cs := [.nils, .nils]) (vs := [.sref 6 0 (sl.length + 1) 1, .sref 8 0 ll.length 1]) (cs' := [.sref 6 0 (sl.length + 1) 1, .sref 8 0 ll.length 1]) (v := .agg [.sref 6 0 (sl.length + 1) 1, .sref 8 0 ll.length 1]) (by simp only [lk, sv1, sv2, sv3, Nat.reduceEqDiff, Nat.reduceAdd, Nat.reduceLeDiff, reduceIte, if_false, if_true, mkVal, unLV, List.map, optTmps]) (by simp only [lk, sv1, sv2, sv3, Nat.reduceEqDiff, Nat.reduceAdd, Nat.reduceLeDiff, reduceIte, if_false, if_true, mkVal, unLV, List.map, optTmps]) rfl r4 rfl (by simp) rfl ?_
  obtain ⟨s9, hs9⟩ : ∃ s9, s9 = s8.put 4 (.cells .mut [.sref 6 0 (sl.length + 1) 1, .sref 8 0 ll.length 1]) := ⟨_, rfl⟩
  have n9 : s9.n = 9 := by rw [hs9, St.n_put, n8]
  have H4 : Has s9 4 [.sref 6 0 (sl.length + 1) 1, .sref 8 0 ll.length 1] := ⟨.mut, by rw [hs9, St.get_put, if_pos rfl]⟩
  have hil : ∀ l : List Int, l.length ≤ 64 → (∀ x ∈ l, inI64 x) → ∀ a, Has s9 a (ints l) → Fld s9 (.sref a 0 l.length 1) l := fun l hl hx a ha => .inr ⟨a, rfl, ha, mk_ints hl hx⟩
  have hyr : inI64 y := by rw [← hy]; exact hL.rng _ (getD_mem (by omega))
  have F6 := hil (sl ++ [y]) (by simp; omega) (fun x hx => by
    rcases List.mem_append.1 hx with h | h
    · exact hS.rng x h
    · rw [List.mem_singleton.1 h]; exact hyr) 6 ⟨.mut, by rw [hs9, St.get_put, if_neg (by omega), o8 6 (by omega) (by omega), o7 6 (by omega) (by omega)]; exact g6⟩
  have F8 := hil (ll.drop 1 ++ [y]) (by simp; omega) (fun x hx => by
    rcases List.mem_append.1 hx with h | h
    · exact hL.rng x (List.mem_of_mem_drop h)
    · rw [List.mem_singleton.1 h]; exact hyr) 8 ⟨.mut, by rw [hs9, St.get_put, if_neg (by omega)]; exact g8⟩
  rw [← hs9]
  clear hs9 hil hrow q2 q3 q4 r4 k0 k1 k2 k3 k4 g5 g6 g7 g8 o5 o6 o7 o8 a5 a6 a7 a8 n4 n5 n6 n7 n8 s4 s5 s6 s7 s8
  simp only [List.length_append, List.length_cons, List.length_nil, Nat.zero_add, List.length_drop, show ll.length - 1 + 1 = ll.length by omega] at F6 F8
  repeat' (first
      | (apply qc_block)
      | (apply qc_seq)
      | (apply qc_region hm)
      | ((first | apply qc_skip | apply qc_exit | apply qc_ret | apply q_nil); try simp only [Thn, Blkd, reduceIte, Nat.reduceEqDiff, Nat.succ_ne_self])
      | (apply qc_condT; (focus (simp only [lk, Nat.reduceEqDiff, reduceIte, Bool.not_true, Bool.not_false, h0, h1, h2]; (try rfl); done))) | (apply qc_condF; (focus (simp only [lk, Nat.reduceEqDiff, reduceIte, Bool.not_true, Bool.not_false, h0, h1, h2]; (try rfl); done)))
      | ((first | apply u_skip | apply u_skipN); (focus (simp only [lk, Nat.reduceEqDiff, reduceIte, Bool.not_true, Bool.not_false, h0, h1, h2]; (try rfl); done)); (focus rfl))
      | ((first | apply q_mv | apply u_alloc | apply u_bslice0 | apply u_faddr | apply u_load | apply u_len | apply u_ext | apply u_un | apply u_pick | apply u_field | apply u_conv | apply u_nilchk | apply u_box | apply u_boxR | apply u_bslice1 | apply u_mkfn | apply u_store | apply q_iaddr | apply u_mm | apply u_lss | apply u_leq | apply u_gtr | apply u_geq | apply u_eql | apply u_neq | apply q_eq | apply q_bin) <;> (first
        | exact wN | (apply wG; (simp only [lk, Nat.reduceEqDiff, reduceIte, Bool.not_true, Bool.not_false, h0, h1, h2]; (try rfl); done)) | (show W _ _ _ _ _ _) | (show ∀ _, _; intro bb hbb; cases bb <;> (try simp only [decide_eq_true_eq, decide_eq_false_iff_not, bne_iff_ne, beq_iff_eq, ne_eq, bne_eq_false_iff_eq, beq_eq_false_iff_ne, Int.not_lt, Int.not_le, gt_iff_lt, ge_iff_le, Bool.not_eq_true, Bool.false_eq_true, if_false, reduceCtorEq] at hbb))
        | ((first | apply ev_I | apply map_I | apply at_I); (simp only [lk, Nat.reduceEqDiff, reduceIte, Bool.not_true, Bool.not_false, h0, h1, h2]; (try rfl); done)) | (apply n_I; (simp only [u1, Nat.reduceAdd, Nat.reduceEqDiff, reduceIte, hia, hg0, *]; (try rfl); done))
        | (apply cells_I; (first | rfl | (simp only [u3, u4, if_true, eq_self, reduceIte, *]; (try rfl); done))) | (apply closed_I; (first | assumption | (simp only [u5, eq_self, *]; done)))
        | (apply fa_I; simp only [faddrLV, Nat.zero_add, Nat.reduceAdd]; rfl)
        | (apply pick_I; simp only [pickB]; (try rfl); done) | (apply wrap_I; (first | assumption | (simp only [u1, Nat.reduceAdd, Nat.reduceEqDiff, reduceIte, hia, hg0, *]; (try rfl); done) | rfl)) | exact mm_max | exact mm_min
        | (apply load_imm; (first | rfl | (simp only [u1, Nat.reduceAdd, Nat.reduceEqDiff, reduceIte, hia, hg0, *]; (try rfl); done))) | (apply loadN_imm rfl; simp only [u2]; (try rfl); done)
        | (apply load_ref; (focus (simp only [u1, Nat.reduceAdd, Nat.reduceEqDiff, reduceIte, hia, hg0, *]; (try rfl); done)); (focus (first | rfl | (simp only [u1, Nat.reduceAdd, Nat.reduceEqDiff, reduceIte, hia, hg0, *]; (try rfl); done)))) | (apply loadN_ref; (focus (simp only [u1, Nat.reduceAdd, Nat.reduceEqDiff, reduceIte, hia, hg0, *]; (try rfl); done)); (focus rfl); (focus (simp only [u2]; (try rfl); done)))
        | (apply store_ref; (focus (first | rfl | (simp only [u3, u4, if_true, eq_self, reduceIte, *]; (try rfl); done))); (focus (simp only [u1, Nat.reduceAdd, Nat.reduceEqDiff, reduceIte, hia, hg0, *]; (try rfl); done)); (focus rfl); (focus rfl); (focus (simp only [splice, List.set_cons_zero, List.set_cons_succ]; (try rfl); done)))
        | rfl | (simp only [u1, Nat.reduceAdd, Nat.reduceEqDiff, reduceIte, hia, hg0, *]; (try rfl); done))))
  refine q_loadHas2 wN (by simp only [lk, sv1, sv2, sv3, Nat.reduceEqDiff, Nat.reduceAdd, Nat.reduceLeDiff, reduceIte, if_false, if_true, mkVal, unLV, List.map, optTmps]) H4 ?_
  obtain ⟨xa, xb, s10, f10, i1, i2, n10, hh10⟩ := frz_lasso (c := .int .i64 L) rfl F6 F8
  refine q_mono (fun e s => s.n = 9 ∧ e.at 2 = .int .u8 m ∧ e.at 3 = .pimm [.int .i64 L, .int .i64 S, nx, pr] 0 ∧ e.at 4 = .pimm [st, lo] 0 ∧ e.at 7 = .bool true ∧ e.at 76 = .bool false) ?_ ?_
  · refine q_pureFB hG0 (rwvalid_ok i1 i2 L) wN (by simp only [List.map, lk, sv1, sv2, sv3, Nat.reduceEqDiff, Nat.reduceAdd, Nat.reduceLeDiff, reduceIte, if_false, if_true, mkVal, unLV, List.map, optTmps]) f10 (fun bb hbv => ?_)
    simp only [Env.put_some]
    cases bb <;> simp only [decide_eq_true_eq, decide_eq_false_iff_not] at hbv
    · repeat' (first
          | (apply qc_block)
          | (apply qc_seq)
          | (apply qc_region hm)
          | ((first | apply qc_skip | apply qc_exit | apply qc_ret | apply q_nil); try simp only [Thn, Blkd, reduceIte, Nat.reduceEqDiff, Nat.succ_ne_self])
          | (apply qc_condT; (focus (simp only [lk, Nat.reduceEqDiff, reduceIte, Bool.not_true, Bool.not_false, h0, h1, h2]; (try rfl); done))) | (apply qc_condF; (focus (simp only [lk, Nat.reduceEqDiff, reduceIte, Bool.not_true, Bool.not_false, h0, h1, h2]; (try rfl); done)))
          | ((first | apply u_skip | apply u_skipN); (focus (simp only [lk, Nat.reduceEqDiff, reduceIte, Bool.not_true, Bool.not_false, h0, h1, h2]; (try rfl); done)); (focus rfl))
          | ((first | apply q_mv | apply u_alloc | apply u_bslice0 | apply u_faddr | apply u_load | apply u_len | apply u_ext | apply u_un | apply u_pick | apply u_field | apply u_conv | apply u_nilchk | apply u_box | apply u_boxR | apply u_bslice1 | apply u_mkfn | apply u_store | apply q_iaddr | apply u_mm | apply u_lss | apply u_leq | apply u_gtr | apply u_geq | apply u_eql | apply u_neq | apply q_eq | apply q_bin) <;> (first
            | exact wN | (apply wG; (simp only [lk, Nat.reduceEqDiff, reduceIte, Bool.not_true, Bool.not_false, h0, h1, h2]; (try rfl); done)) | (show W _ _ _ _ _ _) | (show ∀ _, _; intro bb hbb; cases bb <;> (try simp only [decide_eq_true_eq, decide_eq_false_iff_not, bne_iff_ne, beq_iff_eq, ne_eq, bne_eq_false_iff_eq, beq_eq_false_iff_ne, Int.not_lt, Int.not_le, gt_iff_lt, ge_iff_le, Bool.not_eq_true, Bool.false_eq_true, if_false, reduceCtorEq] at hbb))
            | ((first | apply ev_I | apply map_I | apply at_I); (simp only [lk, Nat.reduceEqDiff, reduceIte, Bool.not_true, Bool.not_false, h0, h1, h2]; (try rfl); done)) | (apply n_I; (simp only [u1, Nat.reduceAdd, Nat.reduceEqDiff, reduceIte, *]; (try rfl); done))
            | (apply cells_I; (first | rfl | (simp only [u3, u4, if_true, eq_self, reduceIte, *]; (try rfl); done))) | (apply closed_I; (first | assumption | (simp only [u5, eq_self, *]; done)))
            | (apply fa_I; simp only [faddrLV, Nat.zero_add, Nat.reduceAdd]; rfl)
            | (apply pick_I; simp only [pickB]; (try rfl); done) | (apply wrap_I; (first | assumption | (simp only [u1, Nat.reduceAdd, Nat.reduceEqDiff, reduceIte, *]; (try rfl); done) | rfl)) | exact mm_max | exact mm_min
            | (apply load_imm; (first | rfl | (simp only [u1, Nat.reduceAdd, Nat.reduceEqDiff, reduceIte, *]; (try rfl); done))) | (apply loadN_imm rfl; simp only [u2]; (try rfl); done)
            | (apply load_ref; (focus (simp only [u1, Nat.reduceAdd, Nat.reduceEqDiff, reduceIte, *]; (try rfl); done)); (focus (first | rfl | (simp only [u1, Nat.reduceAdd, Nat.reduceEqDiff, reduceIte, *]; (try rfl); done)))) | (apply loadN_ref; (focus (simp only [u1, Nat.reduceAdd, Nat.reduceEqDiff, reduceIte, *]; (try rfl); done)); (focus rfl); (focus (simp only [u2]; (try rfl); done)))
            | (apply store_ref; (focus (first | rfl | (simp only [u3, u4, if_true, eq_self, reduceIte, *]; (try rfl); done))); (focus (simp only [u1, Nat.reduceAdd, Nat.reduceEqDiff, reduceIte, *]; (try rfl); done)); (focus rfl); (focus rfl); (focus (simp only [splice, List.set_cons_zero, List.set_cons_succ]; (try rfl); done)))
            | rfl | (simp only [u1, Nat.reduceAdd, Nat.reduceEqDiff, reduceIte, *]; (try rfl); done))))
      refine ⟨by rw [n10, n9], ?_⟩
      simp only [lk, sv1, sv2, sv3, Nat.reduceEqDiff, Nat.reduceAdd, Nat.reduceLeDiff, reduceIte, if_false, if_true, mkVal, unLV, List.map, optTmps, h2, and_self]
    · repeat' (first
          | (apply qc_block)
          | (apply qc_seq)
          | (apply qc_region hm)
          | ((first | apply qc_skip | apply qc_exit | apply qc_ret | apply q_nil); try simp only [Thn, Blkd, reduceIte, Nat.reduceEqDiff, Nat.succ_ne_self])
          | (apply qc_condT; (focus (simp only [lk, Nat.reduceEqDiff, reduceIte, Bool.not_true, Bool.not_false, h0, h1, h2]; (try rfl); done))) | (apply qc_condF; (focus (simp only [lk, Nat.reduceEqDiff, reduceIte, Bool.not_true, Bool.not_false, h0, h1, h2]; (try rfl); done)))
          | ((first | apply u_skip | apply u_skipN); (focus (simp only [lk, Nat.reduceEqDiff, reduceIte, Bool.not_true, Bool.not_false, h0, h1, h2]; (try rfl); done)); (focus rfl))
          | ((first | apply q_mv | apply u_alloc | apply u_bslice0 | apply u_faddr | apply u_load | apply u_len | apply u_ext | apply u_un | apply u_pick | apply u_field | apply u_conv | apply u_nilchk | apply u_box | apply u_boxR | apply u_bslice1 | apply u_mkfn | apply u_store | apply q_iaddr | apply u_mm | apply u_lss | apply u_leq | apply u_gtr | apply u_geq | apply u_eql | apply u_neq | apply q_eq | apply q_bin) <;> (first
            | exact wN | (apply wG; (simp only [lk, Nat.reduceEqDiff, reduceIte, Bool.not_true, Bool.not_false, h0, h1, h2]; (try rfl); done)) | (show W _ _ _ _ _ _) | (show ∀ _, _; intro bb hbb; cases bb <;> (try simp only [decide_eq_true_eq, decide_eq_false_iff_not, bne_iff_ne, beq_iff_eq, ne_eq, bne_eq_false_iff_eq, beq_eq_false_iff_ne, Int.not_lt, Int.not_le, gt_iff_lt, ge_iff_le, Bool.not_eq_true, Bool.false_eq_true, if_false, reduceCtorEq] at hbb))
            | ((first | apply ev_I | apply map_I | apply at_I); (simp only [lk, Nat.reduceEqDiff, reduceIte, Bool.not_true, Bool.not_false, h0, h1, h2]; (try rfl); done)) | (apply n_I; (simp only [u1, Nat.reduceAdd, Nat.reduceEqDiff, reduceIte, *]; (try rfl); done))
            | (apply cells_I; (first | rfl | (simp only [u3, u4, if_true, eq_self, reduceIte, *]; (try rfl); done))) | (apply closed_I; (first | assumption | (simp only [u5, eq_self, *]; done)))
            | (apply fa_I; simp only [faddrLV, Nat.zero_add, Nat.reduceAdd]; rfl)
            | (apply pick_I; simp only [pickB]; (try rfl); done) | (apply wrap_I; (first | assumption | (simp only [u1, Nat.reduceAdd, Nat.reduceEqDiff, reduceIte, *]; (try rfl); done) | rfl)) | exact mm_max | exact mm_min
            | (apply load_imm; (first | rfl | (simp only [u1, Nat.reduceAdd, Nat.reduceEqDiff, reduceIte, *]; (try rfl); done))) | (apply loadN_imm rfl; simp only [u2]; (try rfl); done)
            | (apply load_ref; (focus (simp only [u1, Nat.reduceAdd, Nat.reduceEqDiff, reduceIte, *]; (try rfl); done)); (focus (first | rfl | (simp only [u1, Nat.reduceAdd, Nat.reduceEqDiff, reduceIte, *]; (try rfl); done)))) | (apply loadN_ref; (focus (simp only [u1, Nat.reduceAdd, Nat.reduceEqDiff, reduceIte, *]; (try rfl); done)); (focus rfl); (focus (simp only [u2]; (try rfl); done)))
            | (apply store_ref; (focus (first | rfl | (simp only [u3, u4, if_true, eq_self, reduceIte, *]; (try rfl); done))); (focus (simp only [u1, Nat.reduceAdd, Nat.reduceEqDiff, reduceIte, *]; (try rfl); done)); (focus rfl); (focus rfl); (focus (simp only [splice, List.set_cons_zero, List.set_cons_succ]; (try rfl); done)))
            | rfl | (simp only [u1, Nat.reduceAdd, Nat.reduceEqDiff, reduceIte, *]; (try rfl); done))))
      refine q_loadHas2 (by apply wG; simp only [lk, sv1, sv2, sv3, Nat.reduceEqDiff, Nat.reduceAdd, Nat.reduceLeDiff, reduceIte, if_false, if_true, mkVal, unLV, List.map, optTmps]) (by simp only [lk, sv1, sv2, sv3, Nat.reduceEqDiff, Nat.reduceAdd, Nat.reduceLeDiff, reduceIte, if_false, if_true, mkVal, unLV, List.map, optTmps]) (hh10 _ _ H4) ?_
      obtain ⟨xc, xd, s11, f11, i3, i4, n11, hh11⟩ := frz_lasso (c := .agg [.int .i64 L, .int .i64 S, nx, pr]) hcl (F6.mono hh10) (F8.mono hh10)
      have hw2 : Fm (sl ++ [y]) (ll.drop 1 ++ [y]) ∧ AllB (sl ++ [y]) L ∧ AllB (ll.drop 1 ++ [y]) L := ⟨hbv.2.2, fun j hj => ⟨(hbv.2.2.2.2.2.1 j hj).1, hbv.1 j hj⟩, fun j hj => ⟨(hbv.2.2.2.2.2.2 j hj).1, hbv.2.1 j hj⟩⟩
      have hr2 := read_word hN hR i3 i4 hp hw2
      rw [vw_same hp hw hw2 (fun i => by rw [← hy]; exact lett_long hll1 i)] at hr2
      refine q_pureF hG0 hr2 (by apply wG; simp only [lk, sv1, sv2, sv3, Nat.reduceEqDiff, Nat.reduceAdd, Nat.reduceLeDiff, reduceIte, if_false, if_true, mkVal, unLV, List.map, optTmps]) (by simp only [List.map, lk, sv1, sv2, sv3, Nat.reduceEqDiff, Nat.reduceAdd, Nat.reduceLeDiff, reduceIte, if_false, if_true, mkVal, unLV, List.map, optTmps]) f11 trivial ?_
      simp only [Env.put_some]
      repeat' (first
          | (apply qc_block)
          | (apply qc_seq)
          | (apply qc_region hm)
          | ((first | apply qc_skip | apply qc_exit | apply qc_ret | apply q_nil); try simp only [Thn, Blkd, reduceIte, Nat.reduceEqDiff, Nat.succ_ne_self])
          | (apply qc_condT; (focus (simp only [lk, Nat.reduceEqDiff, reduceIte, Bool.not_true, Bool.not_false, h0, h1, h2]; (try rfl); done))) | (apply qc_condF; (focus (simp only [lk, Nat.reduceEqDiff, reduceIte, Bool.not_true, Bool.not_false, h0, h1, h2]; (try rfl); done)))
          | ((first | apply u_skip | apply u_skipN); (focus (simp only [lk, Nat.reduceEqDiff, reduceIte, Bool.not_true, Bool.not_false, h0, h1, h2]; (try rfl); done)); (focus rfl))
          | ((first | apply q_mv | apply u_alloc | apply u_bslice0 | apply u_faddr | apply u_load | apply u_len | apply u_ext | apply u_un | apply u_pick | apply u_field | apply u_conv | apply u_nilchk | apply u_box | apply u_boxR | apply u_bslice1 | apply u_mkfn | apply u_store | apply q_iaddr | apply u_mm | apply u_lss | apply u_leq | apply u_gtr | apply u_geq | apply u_eql | apply u_neq | apply q_eq | apply q_bin) <;> (first
            | exact wN | (apply wG; (simp only [lk, Nat.reduceEqDiff, reduceIte, Bool.not_true, Bool.not_false, h0, h1, h2]; (try rfl); done)) | (show W _ _ _ _ _ _) | (show ∀ _, _; intro bb hbb; cases bb <;> (try simp only [decide_eq_true_eq, decide_eq_false_iff_not, bne_iff_ne, beq_iff_eq, ne_eq, bne_eq_false_iff_eq, beq_eq_false_iff_ne, Int.not_lt, Int.not_le, gt_iff_lt, ge_iff_le, Bool.not_eq_true, Bool.false_eq_true, if_false, reduceCtorEq] at hbb))
            | ((first | apply ev_I | apply map_I | apply at_I); (simp only [lk, Nat.reduceEqDiff, reduceIte, Bool.not_true, Bool.not_false, h0, h1, h2]; (try rfl); done)) | (apply n_I; (simp only [u1, Nat.reduceAdd, Nat.reduceEqDiff, reduceIte, *]; (try rfl); done))
            | (apply cells_I; (first | rfl | (simp only [u3, u4, if_true, eq_self, reduceIte, *]; (try rfl); done))) | (apply closed_I; (first | assumption | (simp only [u5, eq_self, *]; done)))
            | (apply fa_I; simp only [faddrLV, Nat.zero_add, Nat.reduceAdd]; rfl)
            | (apply pick_I; simp only [pickB]; (try rfl); done) | (apply wrap_I; (first | assumption | (simp only [u1, Nat.reduceAdd, Nat.reduceEqDiff, reduceIte, *]; (try rfl); done) | rfl)) | exact mm_max | exact mm_min
            | (apply load_imm; (first | rfl | (simp only [u1, Nat.reduceAdd, Nat.reduceEqDiff, reduceIte, *]; (try rfl); done))) | (apply loadN_imm rfl; simp only [u2]; (try rfl); done)
            | (apply load_ref; (focus (simp only [u1, Nat.reduceAdd, Nat.reduceEqDiff, reduceIte, *]; (try rfl); done)); (focus (first | rfl | (simp only [u1, Nat.reduceAdd, Nat.reduceEqDiff, reduceIte, *]; (try rfl); done)))) | (apply loadN_ref; (focus (simp only [u1, Nat.reduceAdd, Nat.reduceEqDiff, reduceIte, *]; (try rfl); done)); (focus rfl); (focus (simp only [u2]; (try rfl); done)))
            | (apply store_ref; (focus (first | rfl | (simp only [u3, u4, if_true, eq_self, reduceIte, *]; (try rfl); done))); (focus (simp only [u1, Nat.reduceAdd, Nat.reduceEqDiff, reduceIte, *]; (try rfl); done)); (focus rfl); (focus rfl); (focus (simp only [splice, List.set_cons_zero, List.set_cons_succ]; (try rfl); done)))
            | rfl | (simp only [u1, Nat.reduceAdd, Nat.reduceEqDiff, reduceIte, *]; (try rfl); done))))
      · refine ⟨by rw [n11, n10, n9], ?_⟩
        simp only [lk, sv1, sv2, sv3, Nat.reduceEqDiff, Nat.reduceAdd, Nat.reduceLeDiff, reduceIte, if_false, if_true, mkVal, unLV, List.map, optTmps, h2, and_self]
      · exfalso; revert hbb; cases Vw N R sl ll S.toNat <;> simp
  clear hr1 hr0
  clear hia hg0 hbb z1 z2 hd1 hd2 H4 hyr F6 F8 xa xb f10 i1 i2 n10 hh10 n9 s9 s10
  rintro e s ⟨n9, e2, e3, e4, e7, e76⟩
  simp only [Thn]
  have hL1 : 1 ≤ L := hp.1.1
  have hL2 : L ≤ 64 := hp.1.2.1
  have hwm : IntKind.i64.wrap m = m := wrap_i64 _ (by omega) (by omega)
  repeat' (first
      | (apply qc_block)
      | (apply qc_seq)
      | (apply qc_region hm)
      | ((first | apply qc_skip | apply qc_exit | apply qc_ret | apply q_nil); try simp only [Thn, Blkd, reduceIte, Nat.reduceEqDiff, Nat.succ_ne_self])
      | (apply qc_condT; (focus (simp only [lk, Nat.reduceEqDiff, reduceIte, Bool.not_true, Bool.not_false, e2, e3, e4, e7, e76]; (try rfl); done))) | (apply qc_condF; (focus (simp only [lk, Nat.reduceEqDiff, reduceIte, Bool.not_true, Bool.not_false, e2, e3, e4, e7, e76]; (try rfl); done)))
      | ((first | apply u_skip | apply u_skipN); (focus (simp only [lk, Nat.reduceEqDiff, reduceIte, Bool.not_true, Bool.not_false, e2, e3, e4, e7, e76]; (try rfl); done)); (focus rfl))
      | ((first | apply q_mv | apply u_alloc | apply u_bslice0 | apply u_faddr | apply u_load | apply u_len | apply u_ext | apply u_un | apply u_pick | apply u_field | apply u_conv | apply u_nilchk | apply u_box | apply u_boxR | apply u_bslice1 | apply u_mkfn | apply u_store | apply q_iaddr | apply u_mm | apply u_lss | apply u_leq | apply u_gtr | apply u_geq | apply u_eql | apply u_neq | apply q_eq | apply q_bin) <;> (first
        | exact wN | (apply wG; (simp only [lk, Nat.reduceEqDiff, reduceIte, Bool.not_true, Bool.not_false, e2, e3, e4, e7, e76]; (try rfl); done)) | (show W _ _ _ _ _ _) | (show ∀ _, _; intro bb hbb; cases bb <;> (try simp only [decide_eq_true_eq, decide_eq_false_iff_not, bne_iff_ne, beq_iff_eq, ne_eq, bne_eq_false_iff_eq, beq_eq_false_iff_ne, Int.not_lt, Int.not_le, gt_iff_lt, ge_iff_le, Bool.not_eq_true, Bool.false_eq_true, if_false, reduceCtorEq] at hbb))
        | ((first | apply ev_I | apply map_I | apply at_I); (simp only [lk, Nat.reduceEqDiff, reduceIte, Bool.not_true, Bool.not_false, e2, e3, e4, e7, e76]; (try rfl); done)) | (apply n_I; (simp only [u1, Nat.reduceAdd, Nat.reduceEqDiff, reduceIte, *]; (try rfl); done))
        | (apply cells_I; (first | rfl | (simp only [u3, u4, if_true, eq_self, reduceIte, *]; (try rfl); done))) | (apply closed_I; (first | assumption | (simp only [u5, eq_self, *]; done)))
        | (apply fa_I; simp only [faddrLV, Nat.zero_add, Nat.reduceAdd]; rfl)
        | (apply pick_I; simp only [pickB]; (try rfl); done) | (apply wrap_I; (first | assumption | (simp only [u1, Nat.reduceAdd, Nat.reduceEqDiff, reduceIte, *]; (try rfl); done) | rfl)) | exact mm_max | exact mm_min
        | (apply load_imm; (first | rfl | (simp only [u1, Nat.reduceAdd, Nat.reduceEqDiff, reduceIte, *]; (try rfl); done))) | (apply loadN_imm rfl; simp only [u2]; (try rfl); done)
        | (apply load_ref; (focus (simp only [u1, Nat.reduceAdd, Nat.reduceEqDiff, reduceIte, *]; (try rfl); done)); (focus (first | rfl | (simp only [u1, Nat.reduceAdd, Nat.reduceEqDiff, reduceIte, *]; (try rfl); done)))) | (apply loadN_ref; (focus (simp only [u1, Nat.reduceAdd, Nat.reduceEqDiff, reduceIte, *]; (try rfl); done)); (focus rfl); (focus (simp only [u2]; (try rfl); done)))
        | (apply store_ref; (focus (first | rfl | (simp only [u3, u4, if_true, eq_self, reduceIte, *]; (try rfl); done))); (focus (simp only [u1, Nat.reduceAdd, Nat.reduceEqDiff, reduceIte, *]; (try rfl); done)); (focus rfl); (focus rfl); (focus (simp only [splice, List.set_cons_zero, List.set_cons_succ]; (try rfl); done)))
        | rfl | (simp only [u1, Nat.reduceAdd, Nat.reduceEqDiff, reduceIte, *]; (try rfl); done))))
  have hxm : 0 ≤ m.tmod L ∧ m.tmod L < L := by
    rw [Int.tmod_eq_emod_of_nonneg hm0]
    exact ⟨Int.emod_nonneg _ (by omega), Int.emod_lt_of_pos _ (by omega)⟩
  generalize hx : m.tmod L = x at hxm
  refine q_bin wN (a := .int .i64 m) (b := .int .i64 L) (v := .int .i64 x) (by simp only [lk, sv1, sv2, sv3, Nat.reduceEqDiff, Nat.reduceAdd, Nat.reduceLeDiff, reduceIte, if_false, if_true, mkVal, unLV, List.map, optTmps]) (by simp only [lk, sv1, sv2, sv3, Nat.reduceEqDiff, Nat.reduceAdd, Nat.reduceLeDiff, reduceIte, if_false, if_true, mkVal, unLV, List.map, optTmps]) (by
    have : ¬ (L = 0) := by omega
    simp [binLV, intBin, this, hx]) ?_
  obtain ⟨z1, z2⟩ := row_ints hS
  repeat' (first
      | (apply qc_block)
      | (apply qc_seq)
      | (apply qc_region hm)
      | ((first | apply qc_skip | apply qc_exit | apply qc_ret | apply q_nil); try simp only [Thn, Blkd, reduceIte, Nat.reduceEqDiff, Nat.succ_ne_self])
      | (apply qc_condT; (focus (simp only [lk, Nat.reduceEqDiff, reduceIte, Bool.not_true, Bool.not_false, e2, e3, e4, e7, e76]; (try rfl); done))) | (apply qc_condF; (focus (simp only [lk, Nat.reduceEqDiff, reduceIte, Bool.not_true, Bool.not_false, e2, e3, e4, e7, e76]; (try rfl); done)))
      | ((first | apply u_skip | apply u_skipN); (focus (simp only [lk, Nat.reduceEqDiff, reduceIte, Bool.not_true, Bool.not_false, e2, e3, e4, e7, e76]; (try rfl); done)); (focus rfl))
      | ((first | apply q_mv | apply u_alloc | apply u_bslice0 | apply u_faddr | apply u_load | apply u_len | apply u_ext | apply u_un | apply u_pick | apply u_field | apply u_conv | apply u_nilchk | apply u_box | apply u_boxR | apply u_bslice1 | apply u_mkfn | apply u_store | apply q_iaddr | apply u_mm | apply u_lss | apply u_leq | apply u_gtr | apply u_geq | apply u_eql | apply u_neq | apply q_eq | apply q_bin) <;> (first
        | exact wN | (apply wG; (simp only [lk, Nat.reduceEqDiff, reduceIte, Bool.not_true, Bool.not_false, e2, e3, e4, e7, e76]; (try rfl); done)) | (show W _ _ _ _ _ _) | (show ∀ _, _; intro bb hbb; cases bb <;> (try simp only [decide_eq_true_eq, decide_eq_false_iff_not, bne_iff_ne, beq_iff_eq, ne_eq, bne_eq_false_iff_eq, beq_eq_false_iff_ne, Int.not_lt, Int.not_le, gt_iff_lt, ge_iff_le, Bool.not_eq_true, Bool.false_eq_true, if_false, reduceCtorEq] at hbb))
        | ((first | apply ev_I | apply map_I | apply at_I); (simp only [lk, Nat.reduceEqDiff, reduceIte, Bool.not_true, Bool.not_false, e2, e3, e4, e7, e76]; (try rfl); done)) | (apply n_I; (simp only [u1, Nat.reduceAdd, Nat.reduceEqDiff, reduceIte, *]; (try rfl); done))
        | (apply cells_I; (first | rfl | (simp only [u3, u4, if_true, eq_self, reduceIte, *]; (try rfl); done))) | (apply closed_I; (first | assumption | (simp only [u5, eq_self, *]; done)))
        | (apply fa_I; simp only [faddrLV, Nat.zero_add, Nat.reduceAdd]; rfl)
        | (apply pick_I; simp only [pickB]; (try rfl); done) | (apply wrap_I; (first | assumption | (simp only [u1, Nat.reduceAdd, Nat.reduceEqDiff, reduceIte, *]; (try rfl); done) | rfl)) | exact mm_max | exact mm_min
        | (apply load_imm; (first | rfl | (simp only [u1, Nat.reduceAdd, Nat.reduceEqDiff, reduceIte, *]; (try rfl); done))) | (apply loadN_imm rfl; simp only [u2]; (try rfl); done)
        | (apply load_ref; (focus (simp only [u1, Nat.reduceAdd, Nat.reduceEqDiff, reduceIte, *]; (try rfl); done)); (focus (first | rfl | (simp only [u1, Nat.reduceAdd, Nat.reduceEqDiff, reduceIte, *]; (try rfl); done)))) | (apply loadN_ref; (focus (simp only [u1, Nat.reduceAdd, Nat.reduceEqDiff, reduceIte, *]; (try rfl); done)); (focus rfl); (focus (simp only [u2]; (try rfl); done)))
        | (apply store_ref; (focus (first | rfl | (simp only [u3, u4, if_true, eq_self, reduceIte, *]; (try rfl); done))); (focus (simp only [u1, Nat.reduceAdd, Nat.reduceEqDiff, reduceIte, *]; (try rfl); done)); (focus rfl); (focus rfl); (focus (simp only [splice, List.set_cons_zero, List.set_cons_succ]; (try rfl); done)))
        | rfl | (simp only [u1, Nat.reduceAdd, Nat.reduceEqDiff, reduceIte, *]; (try rfl); done))))
  obtain ⟨s1, hs1⟩ : ∃ s1, s1 = (s.new (.cells .mut [.int .i64 x])).new (.cells .mut [.nils, .nils]) := ⟨_, rfl⟩
  have n1 : s1.n = 11 := by rw [hs1]; simp [n9]
  have k9 : s1.get 9 = some (.cells .mut [.int .i64 x]) := by rw [hs1]; simp [n9]
  have k10 : s1.get 10 = some (.cells .mut [.nils, .nils]) := by rw [hs1]; simp [n9]
  refine q_gen (v := .pref 10 0) (s' := s1) rfl (by simp only [LOp.run, hs1, St.n_new, n9]) rfl (by simp only [Chks, wantedG, LOp.run, Env.put_some, Env.put_none, lk, sv1, sv2, sv3, Nat.reduceEqDiff, Nat.reduceAdd, Nat.reduceLeDiff, reduceIte, if_false, if_true, mkVal, unLV, List.map, optTmps, beq_self_eq_true, reduceCtorEq, false_or, true_and, and_true, Option.some.injEq]) ?_
  clear hs1
  simp only [Env.put_some]
  obtain ⟨s2, a2, n2, g2, o2⟩ := app_ints (s := s1) 11 9 1 sl.length (sl.length + 1) (cs := [.int .i64 x]) (new := ints sl) (cs' := ints (x :: sl)) n1 k9 rfl (ints_length sl) (by omega) (by omega) (by simp [ints])
  refine q_gen (v := .sref 11 0 (sl.length + 1) 1) (s' := s2) rfl (by simp only [LOp.run, lk, sv1, sv2, sv3, Nat.reduceEqDiff, Nat.reduceAdd, Nat.reduceLeDiff, reduceIte, if_false, if_true, mkVal, unLV, List.map, optTmps, z1, z2, frzTry_all (ints_closed sl), a2, Option.bind_eq_bind, Option.bind_some]) rfl (by simp only [Chks, wantedG, LOp.run, Env.put_some, Env.put_none, lk, sv1, sv2, sv3, Nat.reduceEqDiff, Nat.reduceAdd, Nat.reduceLeDiff, reduceIte, if_false, if_true, mkVal, unLV, List.map, optTmps, beq_self_eq_true, reduceCtorEq, false_or, true_and, and_true, Option.some.injEq]) ?_
  simp only [Env.put_some]
  refine q_gen (v := .agg [.sref 11 0 (sl.length + 1) 1, lo]) (s' := s2) rfl (by simp only [LOp.run, fillParts, evParts, List.map, lk, sv1, sv2, sv3, Nat.reduceEqDiff, Nat.reduceAdd, Nat.reduceLeDiff, reduceIte, if_false, if_true, mkVal, unLV, List.map, optTmps, cells_sref, cells_cell hc4]; rfl) rfl trivial ?_
  simp only [Env.put_some]
  have r4 : s2.get 10 = some (.cells .mut [.nils, .nils]) := by rw [o2 10 (by omega) (by omega)]; exact k10
  refine q_storeG (i := 10) (o := 0) (n := 2) (cs := [.nils, .nils]) (vs := [.sref 11 0 (sl.length + 1) 1, lo]) (cs' := [.sref 11 0 (sl.length + 1) 1, lo]) (v := .agg [.sref 11 0 (sl.length + 1) 1, lo]) (by simp only [lk, sv1, sv2, sv3, Nat.reduceEqDiff, Nat.reduceAdd, Nat.reduceLeDiff, reduceIte, if_false, if_true, mkVal, unLV, List.map, optTmps]) (by simp only [lk, sv1, sv2, sv3, Nat.reduceEqDiff, Nat.reduceAdd, Nat.reduceLeDiff, reduceIte, if_false, if_true, mkVal, unLV, List.map, optTmps]) (by simp [cells_agg, hc4, isC_sref]) r4 rfl (by simp) rfl ?_
  obtain ⟨s3, hs3⟩ : ∃ s3, s3 = s2.put 10 (.cells .mut [.sref 11 0 (sl.length + 1) 1, lo]) := ⟨_, rfl⟩
  have n3 : s3.n = 12 := by rw [hs3, St.n_put, n2]
  have G10 : s3.get 10 = some (.cells .mut [.sref 11 0 (sl.length + 1) 1, lo]) := by rw [hs3, St.get_put, if_pos rfl]
  have G11 : s3.get 11 = some (.cells .mut (ints (x :: sl))) := by rw [hs3, St.get_put, if_neg (by omega)]; exact g2
  rw [← hs3]
  clear hs3 n2 g2 o2 a2 r4 k9 k10 n1 n9 s1 s2 s
  have hxr : inI64 x := ⟨by omega, by omega⟩
  have hcN := hN.sl.cell
  repeat' (first
      | (apply qc_block)
      | (apply qc_seq)
      | (apply qc_region hm)
      | ((first | apply qc_skip | apply qc_exit | apply qc_ret | apply q_nil); try simp only [Thn, Blkd, reduceIte, Nat.reduceEqDiff, Nat.succ_ne_self])
      | (apply qc_condT; (focus (simp only [lk, Nat.reduceEqDiff, reduceIte, Bool.not_true, Bool.not_false, e2, e3, e4, e7, e76]; (try rfl); done))) | (apply qc_condF; (focus (simp only [lk, Nat.reduceEqDiff, reduceIte, Bool.not_true, Bool.not_false, e2, e3, e4, e7, e76]; (try rfl); done)))
      | ((first | apply u_skip | apply u_skipN); (focus (simp only [lk, Nat.reduceEqDiff, reduceIte, Bool.not_true, Bool.not_false, e2, e3, e4, e7, e76]; (try rfl); done)); (focus rfl))
      | ((first | apply q_mv | apply u_alloc | apply u_bslice0 | apply u_faddr | apply u_load | apply u_len | apply u_ext | apply u_un | apply u_pick | apply u_field | apply u_conv | apply u_nilchk | apply u_box | apply u_boxR | apply u_bslice1 | apply u_mkfn | apply u_store | apply q_iaddr | apply u_mm | apply u_lss | apply u_leq | apply u_gtr | apply u_geq | apply u_eql | apply u_neq | apply q_eq | apply q_bin) <;> (first
        | exact wN | (apply wG; (simp only [lk, Nat.reduceEqDiff, reduceIte, Bool.not_true, Bool.not_false, e2, e3, e4, e7, e76]; (try rfl); done)) | (show W _ _ _ _ _ _) | (show ∀ _, _; intro bb hbb; cases bb <;> (try simp only [decide_eq_true_eq, decide_eq_false_iff_not, bne_iff_ne, beq_iff_eq, ne_eq, bne_eq_false_iff_eq, beq_eq_false_iff_ne, Int.not_lt, Int.not_le, gt_iff_lt, ge_iff_le, Bool.not_eq_true, Bool.false_eq_true, if_false, reduceCtorEq] at hbb))
        | ((first | apply ev_I | apply map_I | apply at_I); (simp only [lk, Nat.reduceEqDiff, reduceIte, Bool.not_true, Bool.not_false, e2, e3, e4, e7, e76]; (try rfl); done)) | (apply n_I; (simp only [u1, Nat.reduceAdd, Nat.reduceEqDiff, reduceIte, *]; (try rfl); done))
        | (apply cells_I; (first | rfl | (simp only [u3, u4, if_true, eq_self, reduceIte, *]; (try rfl); done))) | (apply closed_I; (first | assumption | (simp only [u5, eq_self, *]; done)))
        | (apply fa_I; simp only [faddrLV, Nat.zero_add, Nat.reduceAdd]; rfl)
        | (apply pick_I; simp only [pickB]; (try rfl); done) | (apply wrap_I; (first | assumption | (simp only [u1, Nat.reduceAdd, Nat.reduceEqDiff, reduceIte, *]; (try rfl); done) | rfl)) | exact mm_max | exact mm_min
        | (apply load_imm; (first | rfl | (simp only [u1, Nat.reduceAdd, Nat.reduceEqDiff, reduceIte, *]; (try rfl); done))) | (apply loadN_imm rfl; simp only [u2]; (try rfl); done)
        | (apply load_ref; (focus (simp only [u1, Nat.reduceAdd, Nat.reduceEqDiff, reduceIte, *]; (try rfl); done)); (focus (first | rfl | (simp only [u1, Nat.reduceAdd, Nat.reduceEqDiff, reduceIte, *]; (try rfl); done)))) | (apply loadN_ref; (focus (simp only [u1, Nat.reduceAdd, Nat.reduceEqDiff, reduceIte, *]; (try rfl); done)); (focus rfl); (focus (simp only [u2]; (try rfl); done)))
        | (apply store_ref; (focus (first | rfl | (simp only [u3, u4, if_true, eq_self, reduceIte, *]; (try rfl); done))); (focus (simp only [u1, Nat.reduceAdd, Nat.reduceEqDiff, reduceIte, *]; (try rfl); done)); (focus rfl); (focus rfl); (focus (simp only [splice, List.set_cons_zero, List.set_cons_succ]; (try rfl); done)))
        | rfl | (simp only [u1, Nat.reduceAdd, Nat.reduceEqDiff, reduceIte, *]; (try rfl); done))))
  have hS0 : 0 ≤ S ∧ S < N.length := ⟨hp.1.2.2.2.2.2.1, hp.1.2.2.2.2.2.2⟩
  obtain ⟨r1, r2, r3⟩ := hp.2 S.toNat (by omega)
  have hrow := hN.row S.toNat (by omega)
  have hia1 : ∀ s : St, iaLV 1 nx (.int .i64 S) s = some (.pimm vN S.toNat, s) := fun s => by
    have := iaN (esz := 1) (k := .i64) (s := s) hN.sl (i := S.toNat) (by omega)
    rw [Int.toNat_of_nonneg hS0.1, Nat.mul_one] at this
    exact this
  have hg1 : vN[S.toNat]? = some (vN.getD S.toNat .top) := hN.getI (by omega)
  have hia2 : ∀ s : St, iaLV 1 (vN.getD S.toNat .top) (.int .i64 x) s = some (.pimm (ints (N.getD S.toNat [])) x.toNat, s) := fun s => by
    have := iaN (esz := 1) (k := .i64) (s := s) hrow.sl (i := x.toNat) (by omega)
    rw [Int.toNat_of_nonneg hxm.1, Nat.mul_one] at this
    exact this
  have hg2 : (ints (N.getD S.toNat []))[x.toNat]? = some (.int .i64 ((N.getD S.toNat []).getD x.toNat 0)) := ints_get (i := x.toNat) (by omega)
  have hpn := pv_next hp hxm.1 hxm.2
  have hqs : ((N.getD S.toNat []).getD x.toNat 0).toNat = stp N S.toNat x := rfl
  generalize (N.getD S.toNat []).getD x.toNat 0 = q at *
  repeat' (first
      | (apply qc_block)
      | (apply qc_seq)
      | (apply qc_region hm)
      | ((first | apply qc_skip | apply qc_exit | apply qc_ret | apply q_nil); try simp only [Thn, Blkd, reduceIte, Nat.reduceEqDiff, Nat.succ_ne_self])
      | (apply qc_condT; (focus (simp only [lk, Nat.reduceEqDiff, reduceIte, Bool.not_true, Bool.not_false, e2, e3, e4, e7, e76]; (try rfl); done))) | (apply qc_condF; (focus (simp only [lk, Nat.reduceEqDiff, reduceIte, Bool.not_true, Bool.not_false, e2, e3, e4, e7, e76]; (try rfl); done)))
      | ((first | apply u_skip | apply u_skipN); (focus (simp only [lk, Nat.reduceEqDiff, reduceIte, Bool.not_true, Bool.not_false, e2, e3, e4, e7, e76]; (try rfl); done)); (focus rfl))
      | ((first | apply q_mv | apply u_alloc | apply u_bslice0 | apply u_faddr | apply u_load | apply u_len | apply u_ext | apply u_un | apply u_pick | apply u_field | apply u_conv | apply u_nilchk | apply u_box | apply u_boxR | apply u_bslice1 | apply u_mkfn | apply u_store | apply q_iaddr | apply u_mm | apply u_lss | apply u_leq | apply u_gtr | apply u_geq | apply u_eql | apply u_neq | apply q_eq | apply q_bin) <;> (first
        | exact wN | (apply wG; (simp only [lk, Nat.reduceEqDiff, reduceIte, Bool.not_true, Bool.not_false, e2, e3, e4, e7, e76]; (try rfl); done)) | (show W _ _ _ _ _ _) | (show ∀ _, _; intro bb hbb; cases bb <;> (try simp only [decide_eq_true_eq, decide_eq_false_iff_not, bne_iff_ne, beq_iff_eq, ne_eq, bne_eq_false_iff_eq, beq_eq_false_iff_ne, Int.not_lt, Int.not_le, gt_iff_lt, ge_iff_le, Bool.not_eq_true, Bool.false_eq_true, if_false, reduceCtorEq] at hbb))
        | ((first | apply ev_I | apply map_I | apply at_I); (simp only [lk, Nat.reduceEqDiff, reduceIte, Bool.not_true, Bool.not_false, e2, e3, e4, e7, e76]; (try rfl); done)) | (apply n_I; (simp only [u1, Nat.reduceAdd, Nat.reduceEqDiff, reduceIte, hia1, hg1, hia2, hg2, *]; (try rfl); done))
        | (apply cells_I; (first | rfl | (simp only [u3, u4, if_true, eq_self, reduceIte, *]; (try rfl); done))) | (apply closed_I; (first | assumption | (simp only [u5, eq_self, *]; done)))
        | (apply fa_I; simp only [faddrLV, Nat.zero_add, Nat.reduceAdd]; rfl)
        | (apply pick_I; simp only [pickB]; (try rfl); done) | (apply wrap_I; (first | assumption | (simp only [u1, Nat.reduceAdd, Nat.reduceEqDiff, reduceIte, hia1, hg1, hia2, hg2, *]; (try rfl); done) | rfl)) | exact mm_max | exact mm_min
        | (apply load_imm; (first | rfl | (simp only [u1, Nat.reduceAdd, Nat.reduceEqDiff, reduceIte, hia1, hg1, hia2, hg2, *]; (try rfl); done))) | (apply loadN_imm rfl; simp only [u2]; (try rfl); done)
        | (apply load_ref; (focus (simp only [u1, Nat.reduceAdd, Nat.reduceEqDiff, reduceIte, hia1, hg1, hia2, hg2, *]; (try rfl); done)); (focus (first | rfl | (simp only [u1, Nat.reduceAdd, Nat.reduceEqDiff, reduceIte, hia1, hg1, hia2, hg2, *]; (try rfl); done)))) | (apply loadN_ref; (focus (simp only [u1, Nat.reduceAdd, Nat.reduceEqDiff, reduceIte, hia1, hg1, hia2, hg2, *]; (try rfl); done)); (focus rfl); (focus (simp only [u2]; (try rfl); done)))
        | (apply store_ref; (focus (first | rfl | (simp only [u3, u4, if_true, eq_self, reduceIte, *]; (try rfl); done))); (focus (simp only [u1, Nat.reduceAdd, Nat.reduceEqDiff, reduceIte, hia1, hg1, hia2, hg2, *]; (try rfl); done)); (focus rfl); (focus rfl); (focus (simp only [splice, List.set_cons_zero, List.set_cons_succ]; (try rfl); done)))
        | rfl | (simp only [u1, Nat.reduceAdd, Nat.reduceEqDiff, reduceIte, hia1, hg1, hia2, hg2, *]; (try rfl); done))))
  refine w_gen (fun e s => s.n = 13 ∧ Has s 10 [.sref 11 0 (sl.length + 1) 1, lo] ∧ Has s 11 (ints (x :: sl)) ∧ Has s 12 [.int .i64 L, .int .i64 q, nx, pr] ∧ e.at 3 = .pimm [.int .i64 L, .int .i64 S, nx, pr] 0 ∧ e.at 4 = .pimm [st, lo] 0 ∧ e.at 11 = .pref 10 0 ∧ e.at 12 = .pref 12 0 ∧ e.at 102 = .bool true ∧ e.at 104 = .int .i64 L ∧ e.at 105 = .agg [.sref 11 0 (sl.length + 1) 1, lo])
    ⟨by simp [n3], ⟨.mut, by simp [n3, G10]⟩, ⟨.mut, by simp [n3, G11]⟩, ⟨.mut, by simp [n3]⟩, by simp only [lk, sv1, sv2, sv3, Nat.reduceEqDiff, Nat.reduceAdd, Nat.reduceLeDiff, reduceIte, if_false, if_true, mkVal, unLV, List.map, optTmps, e3], by simp only [lk, sv1, sv2, sv3, Nat.reduceEqDiff, Nat.reduceAdd, Nat.reduceLeDiff, reduceIte, if_false, if_true, mkVal, unLV, List.map, optTmps, e4], by simp only [lk, sv1, sv2, sv3, Nat.reduceEqDiff, Nat.reduceAdd, Nat.reduceLeDiff, reduceIte, if_false, if_true, mkVal, unLV, List.map, optTmps], by simp only [lk, sv1, sv2, sv3, Nat.reduceEqDiff, Nat.reduceAdd, Nat.reduceLeDiff, reduceIte, if_false, if_true, mkVal, unLV, List.map, optTmps, n3], by simp only [lk, sv1, sv2, sv3, Nat.reduceEqDiff, Nat.reduceAdd, Nat.reduceLeDiff, reduceIte, if_false, if_true, mkVal, unLV, List.map, optTmps], by simp only [lk, sv1, sv2, sv3, Nat.reduceEqDiff, Nat.reduceAdd, Nat.reduceLeDiff, reduceIte, if_false, if_true, mkVal, unLV, List.map, optTmps], by simp only [lk, sv1, sv2, sv3, Nat.reduceEqDiff, Nat.reduceAdd, Nat.reduceLeDiff, reduceIte, if_false, if_true, mkVal, unLV, List.map, optTmps]⟩ ?_
  clear e2 e3 e4 e7 e76
  clear n3 G10 G11 e s3 hia1 hg1 hia2 hg2
  rintro e s ⟨n5, H10, H11, H12, e3, e4, e11, e12, e102, e104, e105⟩
  have hlx : IsInts (.simm (ints (x :: sl)) (x :: sl).length) (x :: sl) := mk_ints (by simp; omega) (fun y hy => by
    rcases List.mem_cons.1 hy with rfl | h
    · exact hxr
    · exact hS.rng y h)
  have FA : Fld s (.sref 11 0 (sl.length + 1) 1) (x :: sl) := .inr ⟨11, rfl, H11, hlx⟩
  have FB : Fld s lo ll := .inl hL
  obtain ⟨xa, xb, s6, f6, i1, i2, n6, hh6⟩ := frz_lasso (c := .int .i64 L) rfl FA FB
  refine q_pureFB hG0 (rwvalid_ok i1 i2 L) (by apply wG; simp only [lk, sv1, sv2, sv3, Nat.reduceEqDiff, Nat.reduceAdd, Nat.reduceLeDiff, reduceIte, if_false, if_true, mkVal, unLV, List.map, optTmps, e102]) (by simp only [List.map, lk, sv1, sv2, sv3, Nat.reduceEqDiff, Nat.reduceAdd, Nat.reduceLeDiff, reduceIte, if_false, if_true, mkVal, unLV, List.map, optTmps, e104, e105]) f6 (fun bb hbv => ?_)
  simp only [Env.put_some]
  cases bb <;> simp only [decide_eq_true_eq, decide_eq_false_iff_not] at hbv
  · repeat' (first
        | (apply qc_block)
        | (apply qc_seq)
        | (apply qc_region hm)
        | ((first | apply qc_skip | apply qc_exit | apply qc_ret | apply q_nil); try simp only [Thn, Blkd, reduceIte, Nat.reduceEqDiff, Nat.succ_ne_self])
        | (apply qc_condT; (focus (simp only [lk, Nat.reduceEqDiff, reduceIte, Bool.not_true, Bool.not_false, e3, e4, e11, e12, e102]; (try rfl); done))) | (apply qc_condF; (focus (simp only [lk, Nat.reduceEqDiff, reduceIte, Bool.not_true, Bool.not_false, e3, e4, e11, e12, e102]; (try rfl); done)))
        | ((first | apply u_skip | apply u_skipN); (focus (simp only [lk, Nat.reduceEqDiff, reduceIte, Bool.not_true, Bool.not_false, e3, e4, e11, e12, e102]; (try rfl); done)); (focus rfl))
        | ((first | apply q_mv | apply u_alloc | apply u_bslice0 | apply u_faddr | apply u_load | apply u_len | apply u_ext | apply u_un | apply u_pick | apply u_field | apply u_conv | apply u_nilchk | apply u_box | apply u_boxR | apply u_bslice1 | apply u_mkfn | apply u_store | apply q_iaddr | apply u_mm | apply u_lss | apply u_leq | apply u_gtr | apply u_geq | apply u_eql | apply u_neq | apply q_eq | apply q_bin) <;> (first
          | exact wN | (apply wG; (simp only [lk, Nat.reduceEqDiff, reduceIte, Bool.not_true, Bool.not_false, e3, e4, e11, e12, e102]; (try rfl); done)) | (show W _ _ _ _ _ _) | (show ∀ _, _; intro bb hbb; cases bb <;> (try simp only [decide_eq_true_eq, decide_eq_false_iff_not, bne_iff_ne, beq_iff_eq, ne_eq, bne_eq_false_iff_eq, beq_eq_false_iff_ne, Int.not_lt, Int.not_le, gt_iff_lt, ge_iff_le, Bool.not_eq_true, Bool.false_eq_true, if_false, reduceCtorEq] at hbb))
          | ((first | apply ev_I | apply map_I | apply at_I); (simp only [lk, Nat.reduceEqDiff, reduceIte, Bool.not_true, Bool.not_false, e3, e4, e11, e12, e102]; (try rfl); done)) | (apply n_I; (simp only [u1, Nat.reduceAdd, Nat.reduceEqDiff, reduceIte, *]; (try rfl); done))
          | (apply cells_I; (first | rfl | (simp only [u3, u4, if_true, eq_self, reduceIte, *]; (try rfl); done))) | (apply closed_I; (first | assumption | (simp only [u5, eq_self, *]; done)))
          | (apply fa_I; simp only [faddrLV, Nat.zero_add, Nat.reduceAdd]; rfl)
          | (apply pick_I; simp only [pickB]; (try rfl); done) | (apply wrap_I; (first | assumption | (simp only [u1, Nat.reduceAdd, Nat.reduceEqDiff, reduceIte, *]; (try rfl); done) | rfl)) | exact mm_max | exact mm_min
          | (apply load_imm; (first | rfl | (simp only [u1, Nat.reduceAdd, Nat.reduceEqDiff, reduceIte, *]; (try rfl); done))) | (apply loadN_imm rfl; simp only [u2]; (try rfl); done)
          | (apply load_ref; (focus (simp only [u1, Nat.reduceAdd, Nat.reduceEqDiff, reduceIte, *]; (try rfl); done)); (focus (first | rfl | (simp only [u1, Nat.reduceAdd, Nat.reduceEqDiff, reduceIte, *]; (try rfl); done)))) | (apply loadN_ref; (focus (simp only [u1, Nat.reduceAdd, Nat.reduceEqDiff, reduceIte, *]; (try rfl); done)); (focus rfl); (focus (simp only [u2]; (try rfl); done)))
          | (apply store_ref; (focus (first | rfl | (simp only [u3, u4, if_true, eq_self, reduceIte, *]; (try rfl); done))); (focus (simp only [u1, Nat.reduceAdd, Nat.reduceEqDiff, reduceIte, *]; (try rfl); done)); (focus rfl); (focus rfl); (focus (simp only [splice, List.set_cons_zero, List.set_cons_succ]; (try rfl); done)))
          | rfl | (simp only [u1, Nat.reduceAdd, Nat.reduceEqDiff, reduceIte, *]; (try rfl); done))))
    refine ⟨.inr trivial, ?_⟩
    simp only [lk, sv1, sv2, sv3, Nat.reduceEqDiff, Nat.reduceAdd, Nat.reduceLeDiff, reduceIte, if_false, if_true, mkVal, unLV, List.map, optTmps]
  · repeat' (first
        | (apply qc_block)
        | (apply qc_seq)
        | (apply qc_region hm)
        | ((first | apply qc_skip | apply qc_exit | apply qc_ret | apply q_nil); try simp only [Thn, Blkd, reduceIte, Nat.reduceEqDiff, Nat.succ_ne_self])
        | (apply qc_condT; (focus (simp only [lk, Nat.reduceEqDiff, reduceIte, Bool.not_true, Bool.not_false, e3, e4, e11, e12, e102]; (try rfl); done))) | (apply qc_condF; (focus (simp only [lk, Nat.reduceEqDiff, reduceIte, Bool.not_true, Bool.not_false, e3, e4, e11, e12, e102]; (try rfl); done)))
        | ((first | apply u_skip | apply u_skipN); (focus (simp only [lk, Nat.reduceEqDiff, reduceIte, Bool.not_true, Bool.not_false, e3, e4, e11, e12, e102]; (try rfl); done)); (focus rfl))
        | ((first | apply q_mv | apply u_alloc | apply u_bslice0 | apply u_faddr | apply u_load | apply u_len | apply u_ext | apply u_un | apply u_pick | apply u_field | apply u_conv | apply u_nilchk | apply u_box | apply u_boxR | apply u_bslice1 | apply u_mkfn | apply u_store | apply q_iaddr | apply u_mm | apply u_lss | apply u_leq | apply u_gtr | apply u_geq | apply u_eql | apply u_neq | apply q_eq | apply q_bin) <;> (first
          | exact wN | (apply wG; (simp only [lk, Nat.reduceEqDiff, reduceIte, Bool.not_true, Bool.not_false, e3, e4, e11, e12, e102]; (try rfl); done)) | (show W _ _ _ _ _ _) | (show ∀ _, _; intro bb hbb; cases bb <;> (try simp only [decide_eq_true_eq, decide_eq_false_iff_not, bne_iff_ne, beq_iff_eq, ne_eq, bne_eq_false_iff_eq, beq_eq_false_iff_ne, Int.not_lt, Int.not_le, gt_iff_lt, ge_iff_le, Bool.not_eq_true, Bool.false_eq_true, if_false, reduceCtorEq] at hbb))
          | ((first | apply ev_I | apply map_I | apply at_I); (simp only [lk, Nat.reduceEqDiff, reduceIte, Bool.not_true, Bool.not_false, e3, e4, e11, e12, e102]; (try rfl); done)) | (apply n_I; (simp only [u1, Nat.reduceAdd, Nat.reduceEqDiff, reduceIte, *]; (try rfl); done))
          | (apply cells_I; (first | rfl | (simp only [u3, u4, if_true, eq_self, reduceIte, *]; (try rfl); done))) | (apply closed_I; (first | assumption | (simp only [u5, eq_self, *]; done)))
          | (apply fa_I; simp only [faddrLV, Nat.zero_add, Nat.reduceAdd]; rfl)
          | (apply pick_I; simp only [pickB]; (try rfl); done) | (apply wrap_I; (first | assumption | (simp only [u1, Nat.reduceAdd, Nat.reduceEqDiff, reduceIte, *]; (try rfl); done) | rfl)) | exact mm_max | exact mm_min
          | (apply load_imm; (first | rfl | (simp only [u1, Nat.reduceAdd, Nat.reduceEqDiff, reduceIte, *]; (try rfl); done))) | (apply loadN_imm rfl; simp only [u2]; (try rfl); done)
          | (apply load_ref; (focus (simp only [u1, Nat.reduceAdd, Nat.reduceEqDiff, reduceIte, *]; (try rfl); done)); (focus (first | rfl | (simp only [u1, Nat.reduceAdd, Nat.reduceEqDiff, reduceIte, *]; (try rfl); done)))) | (apply loadN_ref; (focus (simp only [u1, Nat.reduceAdd, Nat.reduceEqDiff, reduceIte, *]; (try rfl); done)); (focus rfl); (focus (simp only [u2]; (try rfl); done)))
          | (apply store_ref; (focus (first | rfl | (simp only [u3, u4, if_true, eq_self, reduceIte, *]; (try rfl); done))); (focus (simp only [u1, Nat.reduceAdd, Nat.reduceEqDiff, reduceIte, *]; (try rfl); done)); (focus rfl); (focus rfl); (focus (simp only [splice, List.set_cons_zero, List.set_cons_succ]; (try rfl); done)))
          | rfl | (simp only [u1, Nat.reduceAdd, Nat.reduceEqDiff, reduceIte, *]; (try rfl); done))))
    have hwx : Fm (x :: sl) ll ∧ AllB (x :: sl) L ∧ AllB ll L := ⟨hbv.2.2, fun j hj => ⟨(hbv.2.2.2.2.2.1 j hj).1, hbv.1 j hj⟩, fun j hj => ⟨(hbv.2.2.2.2.2.2 j hj).1, hbv.2.1 j hj⟩⟩
    refine q_loadHas2 (by apply wG; simp only [lk, sv1, sv2, sv3, Nat.reduceEqDiff, Nat.reduceAdd, Nat.reduceLeDiff, reduceIte, if_false, if_true, mkVal, unLV, List.map, optTmps]) (by simp only [lk, sv1, sv2, sv3, Nat.reduceEqDiff, Nat.reduceAdd, Nat.reduceLeDiff, reduceIte, if_false, if_true, mkVal, unLV, List.map, optTmps, e11]) (hh6 _ _ H10) ?_
    refine q_loadHas4 (by apply wG; simp only [lk, sv1, sv2, sv3, Nat.reduceEqDiff, Nat.reduceAdd, Nat.reduceLeDiff, reduceIte, if_false, if_true, mkVal, unLV, List.map, optTmps]) (by simp only [lk, sv1, sv2, sv3, Nat.reduceEqDiff, Nat.reduceAdd, Nat.reduceLeDiff, reduceIte, if_false, if_true, mkVal, unLV, List.map, optTmps, e12]) (hh6 _ _ H12) ?_
    repeat' (first
        | (apply qc_block)
        | (apply qc_seq)
        | (apply qc_region hm)
        | ((first | apply qc_skip | apply qc_exit | apply qc_ret | apply q_nil); try simp only [Thn, Blkd, reduceIte, Nat.reduceEqDiff, Nat.succ_ne_self])
        | (apply qc_condT; (focus (simp only [lk, Nat.reduceEqDiff, reduceIte, Bool.not_true, Bool.not_false, e3, e4, e11, e12, e102]; (try rfl); done))) | (apply qc_condF; (focus (simp only [lk, Nat.reduceEqDiff, reduceIte, Bool.not_true, Bool.not_false, e3, e4, e11, e12, e102]; (try rfl); done)))
        | ((first | apply u_skip | apply u_skipN); (focus (simp only [lk, Nat.reduceEqDiff, reduceIte, Bool.not_true, Bool.not_false, e3, e4, e11, e12, e102]; (try rfl); done)); (focus rfl))
        | ((first | apply q_mv | apply u_alloc | apply u_bslice0 | apply u_faddr | apply u_load | apply u_len | apply u_ext | apply u_un | apply u_pick | apply u_field | apply u_conv | apply u_nilchk | apply u_box | apply u_boxR | apply u_bslice1 | apply u_mkfn | apply u_store | apply q_iaddr | apply u_mm | apply u_lss | apply u_leq | apply u_gtr | apply u_geq | apply u_eql | apply u_neq | apply q_eq | apply q_bin) <;> (first
          | exact wN | (apply wG; (simp only [lk, Nat.reduceEqDiff, reduceIte, Bool.not_true, Bool.not_false, e3, e4, e11, e12, e102]; (try rfl); done)) | (show W _ _ _ _ _ _) | (show ∀ _, _; intro bb hbb; cases bb <;> (try simp only [decide_eq_true_eq, decide_eq_false_iff_not, bne_iff_ne, beq_iff_eq, ne_eq, bne_eq_false_iff_eq, beq_eq_false_iff_ne, Int.not_lt, Int.not_le, gt_iff_lt, ge_iff_le, Bool.not_eq_true, Bool.false_eq_true, if_false, reduceCtorEq] at hbb))
          | ((first | apply ev_I | apply map_I | apply at_I); (simp only [lk, Nat.reduceEqDiff, reduceIte, Bool.not_true, Bool.not_false, e3, e4, e11, e12, e102]; (try rfl); done)) | (apply n_I; (simp only [u1, Nat.reduceAdd, Nat.reduceEqDiff, reduceIte, *]; (try rfl); done))
          | (apply cells_I; (first | rfl | (simp only [u3, u4, if_true, eq_self, reduceIte, *]; (try rfl); done))) | (apply closed_I; (first | assumption | (simp only [u5, eq_self, *]; done)))
          | (apply fa_I; simp only [faddrLV, Nat.zero_add, Nat.reduceAdd]; rfl)
          | (apply pick_I; simp only [pickB]; (try rfl); done) | (apply wrap_I; (first | assumption | (simp only [u1, Nat.reduceAdd, Nat.reduceEqDiff, reduceIte, *]; (try rfl); done) | rfl)) | exact mm_max | exact mm_min
          | (apply load_imm; (first | rfl | (simp only [u1, Nat.reduceAdd, Nat.reduceEqDiff, reduceIte, *]; (try rfl); done))) | (apply loadN_imm rfl; simp only [u2]; (try rfl); done)
          | (apply load_ref; (focus (simp only [u1, Nat.reduceAdd, Nat.reduceEqDiff, reduceIte, *]; (try rfl); done)); (focus (first | rfl | (simp only [u1, Nat.reduceAdd, Nat.reduceEqDiff, reduceIte, *]; (try rfl); done)))) | (apply loadN_ref; (focus (simp only [u1, Nat.reduceAdd, Nat.reduceEqDiff, reduceIte, *]; (try rfl); done)); (focus rfl); (focus (simp only [u2]; (try rfl); done)))
          | (apply store_ref; (focus (first | rfl | (simp only [u3, u4, if_true, eq_self, reduceIte, *]; (try rfl); done))); (focus (simp only [u1, Nat.reduceAdd, Nat.reduceEqDiff, reduceIte, *]; (try rfl); done)); (focus rfl); (focus rfl); (focus (simp only [splice, List.set_cons_zero, List.set_cons_succ]; (try rfl); done)))
          | rfl | (simp only [u1, Nat.reduceAdd, Nat.reduceEqDiff, reduceIte, *]; (try rfl); done))))
    obtain ⟨xc, xd, s7, f7, i3, i4, n7, hh7⟩ := frz_lasso (c := .agg [.int .i64 L, .int .i64 S, nx, pr]) hcl (FA.mono hh6) (FB.mono hh6)
    obtain ⟨m7, hm7⟩ := hh7 _ _ (hh6 _ _ H12)
    have hr3 := read_word hN hR i3 i4 hp hwx
    rw [vw_before, ← hqs] at hr3
    have hr4 := read_word hN hR hS hL hpn hw
    refine q_pureF hG0 hr3 (by apply wG; simp only [lk, sv1, sv2, sv3, Nat.reduceEqDiff, Nat.reduceAdd, Nat.reduceLeDiff, reduceIte, if_false, if_true, mkVal, unLV, List.map, optTmps]) (by simp only [List.map, lk, sv1, sv2, sv3, Nat.reduceEqDiff, Nat.reduceAdd, Nat.reduceLeDiff, reduceIte, if_false, if_true, mkVal, unLV, List.map, optTmps]) f7 ⟨.inr ⟨by apply wG; simp only [lk, sv1, sv2, sv3, Nat.reduceEqDiff, Nat.reduceAdd, Nat.reduceLeDiff, reduceIte, if_false, if_true, mkVal, unLV, List.map, optTmps, Env.put_some], by simp only [LOp.run, lk, sv1, sv2, sv3, Nat.reduceEqDiff, Nat.reduceAdd, Nat.reduceLeDiff, reduceIte, if_false, if_true, mkVal, unLV, List.map, optTmps, Env.put_some, e12, hm7, Option.bind_eq_bind]⟩, .inr ⟨by apply wG; simp only [lk, sv1, sv2, sv3, Nat.reduceEqDiff, Nat.reduceAdd, Nat.reduceLeDiff, reduceIte, if_false, if_true, mkVal, unLV, List.map, optTmps, Env.put_some], by simp only [LOp.run, lk, sv1, sv2, sv3, Nat.reduceEqDiff, Nat.reduceAdd, Nat.reduceLeDiff, reduceIte, if_false, if_true, mkVal, unLV, List.map, optTmps, Env.put_some, e4, Option.bind_eq_bind]⟩, trivial⟩ ?_
    simp only [Env.put_some]
    refine q_pure hG0 (hr4) (by first | exact wN | (apply wG; (simp only [lk, Nat.reduceEqDiff, reduceIte, e3, e4, e11, e12, e102]; (try rfl); done))) (by simp only [List.map, lk, Nat.reduceEqDiff, reduceIte, e3, e4, e11, e12, e102]; try rfl) (by first | trivial | (simp only [Chks, wantedG, LOp.run, Env.put_some, Env.put_none, lk, sv1, sv2, sv3, Nat.reduceEqDiff, Nat.reduceAdd, Nat.reduceLeDiff, reduceIte, if_false, if_true, mkVal, unLV, List.map, optTmps, beq_self_eq_true, reduceCtorEq, false_or, true_and, and_true, Option.some.injEq, *]; done)) ?_
    simp only [Env.put_some]
    generalize Vw N R sl ll q.toNat = V
    repeat' (first
        | (apply qc_block)
        | (apply qc_seq)
        | (apply qc_region hm)
        | ((first | apply qc_skip | apply qc_exit | apply qc_ret | apply q_nil); try simp only [Thn, Blkd, reduceIte, Nat.reduceEqDiff, Nat.succ_ne_self])
        | (apply qc_condT; (focus (simp only [lk, Nat.reduceEqDiff, reduceIte, Bool.not_true, Bool.not_false, e3, e4, e11, e12, e102]; (try rfl); done))) | (apply qc_condF; (focus (simp only [lk, Nat.reduceEqDiff, reduceIte, Bool.not_true, Bool.not_false, e3, e4, e11, e12, e102]; (try rfl); done)))
        | ((first | apply u_skip | apply u_skipN); (focus (simp only [lk, Nat.reduceEqDiff, reduceIte, Bool.not_true, Bool.not_false, e3, e4, e11, e12, e102]; (try rfl); done)); (focus rfl))
        | ((first | apply q_mv | apply u_alloc | apply u_bslice0 | apply u_faddr | apply u_load | apply u_len | apply u_ext | apply u_un | apply u_pick | apply u_field | apply u_conv | apply u_nilchk | apply u_box | apply u_boxR | apply u_bslice1 | apply u_mkfn | apply u_store | apply q_iaddr | apply u_mm | apply u_lss | apply u_leq | apply u_gtr | apply u_geq | apply u_eql | apply u_neq | apply q_eq | apply q_bin) <;> (first
          | exact wN | (apply wG; (simp only [lk, Nat.reduceEqDiff, reduceIte, Bool.not_true, Bool.not_false, e3, e4, e11, e12, e102]; (try rfl); done)) | (show W _ _ _ _ _ _) | (show ∀ _, _; intro bb hbb; cases bb <;> (try simp only [decide_eq_true_eq, decide_eq_false_iff_not, bne_iff_ne, beq_iff_eq, ne_eq, bne_eq_false_iff_eq, beq_eq_false_iff_ne, Int.not_lt, Int.not_le, gt_iff_lt, ge_iff_le, Bool.not_eq_true, Bool.false_eq_true, if_false, reduceCtorEq] at hbb))
          | ((first | apply ev_I | apply map_I | apply at_I); (simp only [lk, Nat.reduceEqDiff, reduceIte, Bool.not_true, Bool.not_false, e3, e4, e11, e12, e102]; (try rfl); done)) | (apply n_I; (simp only [u1, Nat.reduceAdd, Nat.reduceEqDiff, reduceIte, *]; (try rfl); done))
          | (apply cells_I; (first | rfl | (simp only [u3, u4, if_true, eq_self, reduceIte, *]; (try rfl); done))) | (apply closed_I; (first | assumption | (simp only [u5, eq_self, *]; done)))
          | (apply fa_I; simp only [faddrLV, Nat.zero_add, Nat.reduceAdd]; rfl)
          | (apply pick_I; simp only [pickB]; (try rfl); done) | (apply wrap_I; (first | assumption | (simp only [u1, Nat.reduceAdd, Nat.reduceEqDiff, reduceIte, *]; (try rfl); done) | rfl)) | exact mm_max | exact mm_min
          | (apply load_imm; (first | rfl | (simp only [u1, Nat.reduceAdd, Nat.reduceEqDiff, reduceIte, *]; (try rfl); done))) | (apply loadN_imm rfl; simp only [u2]; (try rfl); done)
          | (apply load_ref; (focus (simp only [u1, Nat.reduceAdd, Nat.reduceEqDiff, reduceIte, *]; (try rfl); done)); (focus (first | rfl | (simp only [u1, Nat.reduceAdd, Nat.reduceEqDiff, reduceIte, *]; (try rfl); done)))) | (apply loadN_ref; (focus (simp only [u1, Nat.reduceAdd, Nat.reduceEqDiff, reduceIte, *]; (try rfl); done)); (focus rfl); (focus (simp only [u2]; (try rfl); done)))
          | (apply store_ref; (focus (first | rfl | (simp only [u3, u4, if_true, eq_self, reduceIte, *]; (try rfl); done))); (focus (simp only [u1, Nat.reduceAdd, Nat.reduceEqDiff, reduceIte, *]; (try rfl); done)); (focus rfl); (focus rfl); (focus (simp only [splice, List.set_cons_zero, List.set_cons_succ]; (try rfl); done)))
          | rfl | (simp only [u1, Nat.reduceAdd, Nat.reduceEqDiff, reduceIte, *]; (try rfl); done))))
    all_goals first
      | (exfalso; revert hbb; cases V <;> simp; done)
      | (refine ⟨.inr trivial, ?_⟩; simp only [lk, sv1, sv2, sv3, Nat.reduceEqDiff, Nat.reduceAdd, Nat.reduceLeDiff, reduceIte, if_false, if_true, mkVal, unLV, List.map, optTmps]; done)
end Go.Proofs.Ytmfpcofncfhklaa
