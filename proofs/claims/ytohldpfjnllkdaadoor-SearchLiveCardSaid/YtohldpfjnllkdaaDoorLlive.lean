/- The law of what is live, run. -/
import Derived.Test.YtohldpfjnllkdaaDoorTtrim
import Derived.Test.YtohldpfjnllkdaaDoorTlive
import Derived.Test.YtohldpfjnllkdaaDoorArgs
import Derived.Test.YtohldpfjnllkdaaDoorHead
import Derived.Test.YtohldpfjnllkdaaDoorRval
import Derived.Test.YtohldpfjnllkdaaDoorRfew
import Derived.Test.YtohldpfjnllkdaaDoorPvRow
set_option linter.unusedSimpArgs false
set_option linter.unusedVariables false
set_option maxRecDepth 100000
namespace Go.Proofs.YtohldpfjnllkdaaDoor
open Go Go.Pv Go.Aut Go.Tarjan
open Classical
def LL (n : Nat) (bv : List LV) (f : Nat → Bool) (e : Env) : Prop := e.at 1 = .pimm bv 0 ∧ e.at 3 = .bool true ∧ e.at 4 = .simm (bcells n f) n
def NX (B : Bu) (f : Nat → Bool) (i a k : Nat) (b : Bool) : Prop := b = true ↔ ∃ (a' k' : Nat) (m : Int × Bool), (a' < a ∨ a' = a ∧ k' < k) ∧ (rowAt B i a')[k']? = some m ∧ f m.1.toNat = true
theorem NX.init (B : Bu) (f : Nat → Bool) (i : Nat) : NX B f i 0 0 false := by
  refine ⟨fun h => (by cases h), ?_⟩
  rintro ⟨a', k', m, h, _⟩
  omega
theorem NX.move {B : Bu} {f : Nat → Bool} {i a k : Nat} {b : Bool} (h : NX B f i a k b) {m : Int × Bool} (hm : (rowAt B i a)[k]? = some m) : NX B f i a (k + 1) (b || f m.1.toNat) := by
  unfold NX at *
  rw [Bool.or_eq_true, h]
  constructor
  · rintro (⟨a', k', m', h1, h2, h3⟩ | h1)
    · exact ⟨a', k', m', by omega, h2, h3⟩
    · exact ⟨a, k, m, .inr ⟨rfl, by omega⟩, hm, h1⟩
  · rintro ⟨a', k', m', h1, h2, h3⟩
    by_cases he : a' = a ∧ k' = k
    · obtain ⟨rfl, rfl⟩ := he
      rw [hm] at h2
      cases h2
      exact .inr h3
    · exact .inl ⟨a', k', m', by omega, h2, h3⟩
theorem NX.letter {B : Bu} {f : Nat → Bool} {i a k : Nat} {b : Bool} (h : NX B f i a k b) (hk : k = (rowAt B i a).length) : NX B f i (a + 1) 0 b := by
  unfold NX at *
  rw [h]
  constructor
  · rintro ⟨a', k', m', h1, h2, h3⟩
    exact ⟨a', k', m', by omega, h2, h3⟩
  · rintro ⟨a', k', m', h1, h2, h3⟩
    refine ⟨a', k', m', ?_, h2, h3⟩
    by_cases he : a' = a
    · subst he
      have := (List.getElem?_eq_some_iff.1 h2).1
      exact .inr ⟨rfl, by omega⟩
    · omega
theorem NX.fin {B : Bu} {f : Nat → Bool} {i a : Nat} {b : Bool} (hok : Vb B) (hf : ∀ u, u < B.next.length → (f u = true ↔ Lvs B u)) (hi : i < B.next.length) (h : NX B f i a 0 b) (ha : (a : Int) = B.L) : b = f i := by
  unfold NX at h
  rw [Bool.eq_iff_iff, h, hf i hi, lvs_step hok]
  constructor
  · rintro ⟨a', k', m, _, h2, h3⟩
    have hm : (m.1.toNat, m.2) ∈ bmv B i a' := by
      simp only [bmv]
      exact List.mem_map_of_mem (List.mem_of_getElem? h2)
    exact ⟨a', _, m.2, hm, (hf _ (bmv_lt hok _ _ hi _ hm)).1 h3⟩
  · rintro ⟨a', p, g, hm, hl⟩
    have hal := blet hok _ _ _ hm
    have hp := bmv_lt hok _ _ hi _ hm
    obtain ⟨k, m, h1, h2, h3⟩ := bmv_row hm
    exact ⟨a', k, m, .inl (by omega), h1, by rw [h2]; exact (hf _ hp).2 hl⟩
set_option maxHeartbeats 16000000 in
theorem lawLive : ∀ lvs, HasArgs Tryd.prog 9 Tryd.f7.params.toList lvs → LawOkG Tryd.prog GL 7 lvs := by
  intro lvs h
  rw [Tryd.params7] at h
  cases h with | cons a h =>
  cases h
  obtain ⟨B, sv, nv, hB, -⟩ := argB a
  refine ⟨Tryd.f7, [], l7, Tryd.func7, by decide +kernel, c7, Nat.le_of_ble_eq_true rfl, CodeOk.mono (Q := fun o e s => (o = .normal ∨ o = .jmp .ret) ∧ e.at 2 = .bool true) (Cd.out ?_) fun o e s hh => ⟨hh.1, by simp [l7, resVal, resOne, hh.2]⟩⟩
  have hcl := hB.closed
  have hfew := rbfew_ok hB
  have hval := rbvalid_ok hB
  have hfind := sfind_ok hB
  have htrim := ttrim_ok hB
  have hlive := fun (hok : Vb B) (hsm : B.next.length ≤ 40) => live_ok hB hok hsm
  obtain ⟨rfl, hst, vs, hn⟩ := hB
  have hc1 := hst.sl.cell
  have hc2 := hn.sl.cell
  have hnl := hn.sl.len
  have hstl := hst.sl.len
  have e0 : (envOf [LV.agg [.int .i64 B.L, sv, nv]]).at 0 = .agg [.int .i64 B.L, sv, nv] := by rw [envOf_at]; rfl
  generalize envOf [LV.agg [.int .i64 B.L, sv, nv]] = e at *
  unfold l7
  dsimp only
  repeat' (first | refine gA trivial ?_ | (refine gB trivial ?_; intro bb hbb; cases bb <;> (try simp only [hbs, if_false, reduceCtorEq] at hbb)) | apply qc_seq | fail)
  refine q_pure hG0 (head_true) (by first | exact wN | (apply wG; (simp only [lk, Nat.reduceEqDiff, reduceIte, e0]; (try rfl); done))) (by simp only [List.map, lk, Nat.reduceEqDiff, reduceIte, e0]; try rfl) (by first | trivial | (simp only [Chks, wantedG, LOp.run, Env.put_some, Env.put_none, lk, sv1, sv2, sv3, Nat.reduceEqDiff, Nat.reduceAdd, Nat.reduceLeDiff, reduceIte, if_false, if_true, mkVal, unLV, List.map, optTmps, beq_self_eq_true, reduceCtorEq, false_or, true_and, and_true, Option.some.injEq, *]; done)) ?_
  simp only [Env.put_some]
  repeat' (first | refine gA trivial ?_ | (refine gB trivial ?_; intro bb hbb; cases bb <;> (try simp only [hbs, if_false, reduceCtorEq] at hbb)) | apply qc_seq | fail)
  refine q_pureEx hG0 hfew wN (by simp only [List.map, lk, sv1, sv2, sv3, Nat.reduceEqDiff, Nat.reduceAdd, Nat.reduceLeDiff, reduceIte, if_false, if_true, mkVal, unLV, List.map, optTmps]) (fun r hr hrc => ⟨trivial, ?_⟩)
  obtain ⟨b, rfl, hb⟩ := hr
  simp only [Env.put_some]
  cases b with
  | false =>
    repeat' (first | refine gA trivial ?_ | (refine gB trivial ?_; intro bb hbb; cases bb <;> (try simp only [hbs, if_false, reduceCtorEq] at hbb)) | apply qc_seq | fail)
    exact ⟨.inr trivial, ef⟩
  | true =>
    have hb10 := (hb rfl).1
    have hbs20 := (hb rfl).2.2
    repeat' (first | refine gA trivial ?_ | (refine gB trivial ?_; intro bb hbb; cases bb <;> (try simp only [hbs, if_false, reduceCtorEq] at hbb)) | apply qc_seq | fail)
    refine q_pureB hG0 (hval) (by first | exact wN | (apply wG; (simp only [lk, Nat.reduceEqDiff, reduceIte, e0]; (try rfl); done))) (by simp only [List.map, lk, Nat.reduceEqDiff, reduceIte, e0]; try rfl) (fun bb hbb => ⟨by first | trivial | (simp only [Chks, wantedG, LOp.run, Env.put_some, Env.put_none, lk, sv1, sv2, sv3, Nat.reduceEqDiff, Nat.reduceAdd, Nat.reduceLeDiff, reduceIte, if_false, if_true, mkVal, unLV, List.map, optTmps, beq_self_eq_true, reduceCtorEq, false_or, true_and, and_true, Option.some.injEq, *]; done), ?_⟩)
    simp only [Env.put_some]
    cases bb <;> simp only [decide_eq_true_eq, decide_eq_false_iff_not] at hbb
    · repeat' (first | refine gA trivial ?_ | (refine gB trivial ?_; intro bb hbb; cases bb <;> (try simp only [hbs, if_false, reduceCtorEq] at hbb)) | apply qc_seq | fail)
      exact ⟨.inr trivial, ef⟩
    have hok := hbb
    have hL1 := hok.1
    have hL2 := hok.2.1
    repeat' (first | refine gA trivial ?_ | (refine gB trivial ?_; intro bb hbb; cases bb <;> (try simp only [hbs, if_false, reduceCtorEq] at hbb)) | apply qc_seq | fail)
    refine q_pureEx hG0 (hlive hok (by omega)) wN (by simp only [List.map, lk, sv1, sv2, sv3, Nat.reduceEqDiff, Nat.reduceAdd, Nat.reduceLeDiff, reduceIte, if_false, if_true, mkVal, unLV, List.map, optTmps]) (fun r hr hrc => ⟨trivial, ?_⟩)
    obtain ⟨f, rfl, hf⟩ := hr
    simp only [Env.put_some]
    repeat' (first | refine gA @hnl ?_ | (refine gB @hnl ?_; intro bb hbb; cases bb <;> (try simp only [hbs, if_false, reduceCtorEq] at hbb)) | apply qc_seq | fail)
    rotate_left
    · exfalso; first | omega | exact hbb rfl
    refine q_pureEx hG0 hfind wN (by simp only [List.map, lk, sv1, sv2, sv3, Nat.reduceEqDiff, Nat.reduceAdd, Nat.reduceLeDiff, reduceIte, if_false, if_true, mkVal, unLV, List.map, optTmps]) (fun r hr hrc' => ⟨trivial, ?_⟩)
    obtain ⟨st, lo, S, L, ok, rfl, hS, hL, hR⟩ := hr
    have hR' : FindR B S L ok := by
      rcases hR with ⟨h, _⟩ | ⟨_, h⟩
      · exact absurd hok h
      · exact h
    have hiff := find_iff hok hR'
    have hcs := hS.sl.cell
    have hcL := hL.sl.cell
    clear hR hR' hfind hlive
    simp only [Env.put_some]
    repeat' (first | refine gA trivial ?_ | (refine gB trivial ?_; intro bb hbb; cases bb <;> (try simp only [hbs, if_false, reduceCtorEq] at hbb)) | apply qc_seq | fail)
    refine q_pureEx hG0 htrim wN (by simp only [List.map, lk, sv1, sv2, sv3, Nat.reduceEqDiff, Nat.reduceAdd, Nat.reduceLeDiff, reduceIte, if_false, if_true, mkVal, unLV, List.map, optTmps]) (fun r hr hrc2 => ⟨trivial, ?_⟩)
    obtain ⟨C, sv', nv', hBC, hT⟩ : ∃ C sv' nv', IsB r C sv' nv' ∧ TrimR B C := by
      rcases hr with ⟨h, _⟩ | ⟨_, h⟩
      · exact absurd hok h
      · exact h
    have hokC := vb_trim hok hT
    simp only [Env.put_some]
    refine q_pureEx hG0 (sfind_ok hBC) wN (by simp only [List.map, lk, sv1, sv2, sv3, Nat.reduceEqDiff, Nat.reduceAdd, Nat.reduceLeDiff, reduceIte, if_false, if_true, mkVal, unLV, List.map, optTmps]) (fun r2 hr2 hrc3 => ⟨trivial, ?_⟩)
    obtain ⟨st2, lo2, S2, L2, ok2, rfl, hS2, hL2', hR2⟩ := hr2
    have hR2' : FindR C S2 L2 ok2 := by
      rcases hR2 with ⟨h, _⟩ | ⟨_, h⟩
      · exact absurd hokC h
      · exact h
    have hiff2 := (find_iff hokC hR2').trans (trim_hasL hok hT)
    have hcs2 := hS2.sl.cell
    have hcL2 := hL2'.sl.cell
    have hoo : ok2 = ok := by
      rw [Bool.eq_iff_iff, hiff2, hiff]
    clear hiff2
    clear hR2 hR2' htrim hr
    simp only [Env.put_some]
    rw [hoo]
    repeat' (first | refine gA trivial ?_ | (refine gB trivial ?_; intro bb hbb; cases bb <;> (try simp only [hbs, if_false, reduceCtorEq] at hbb)) | apply qc_seq | fail)
    refine qc_loop (fun m e s => ∃ (i : Nat) (b : Bool), m = B.start.length - i ∧ i ≤ B.start.length ∧ (b = true ↔ ∃ j, j < i ∧ f (B.start.getD j 0).toNat = true) ∧ LL B.next.length [.int .i64 B.L, sv, nv] f e ∧ e.at 6 = .bool ok ∧ e.at 8 = .bool ok ∧ e.at 9 = .bool b ∧ e.at 10 = .int .i64 (i : Int)) _
      ⟨0, false, rfl, by omega, by simp, by simp only [LL, lk, sv1, sv2, sv3, Nat.reduceEqDiff, Nat.reduceAdd, Nat.reduceLeDiff, reduceIte, if_false, if_true, mkVal, unLV, List.map, optTmps, and_self], ef, ef, ef, by simp only [lk, sv1, sv2, sv3, Nat.reduceEqDiff, Nat.reduceAdd, Nat.reduceLeDiff, reduceIte, if_false, if_true, mkVal, unLV, List.map, optTmps]; rfl⟩ ?_
    clear e0
    rintro m e s ⟨i, b, rfl, hi, hbi, ⟨e1, e3, e4⟩, e6, e8, e9, e10⟩
    by_cases hil : i < B.start.length
    · have hiI : (i : Int) < (B.start.length : Int) := by omega
      have hwi : IntKind.i64.wrap ((i : Int) + 1) = ((i + 1 : Nat) : Int) := by rw [wrap_i64 _ (by omega) (by omega)]; rfl
      obtain ⟨z, hz⟩ : ∃ z, B.start[i]? = some z := ⟨_, List.getElem?_eq_getElem hil⟩
      have hzd : B.start.getD i 0 = z := by rw [List.getD_eq_getElem?_getD, hz]; rfl
      have hzr := hok.2.2.2.1 i hil
      rw [hzd] at hzr
      obtain ⟨q, rfl⟩ : ∃ q : Nat, z = (q : Int) := ⟨z.toNat, by omega⟩
      have hqn : q < B.next.length := by omega
      have hqI : (q : Int) < (B.next.length : Int) := by omega
      have hgz : (ints B.start)[i]? = some (.int .i64 (q : Int)) := by simp [ints, hz]
      have hfq : (bcells B.next.length f)[q]? = some (.bool (f q)) := bcells_get hqn
      have hia2 : ∀ s, iaLV 1 (.simm (bcells B.next.length f) B.next.length) (.int .i64 (q : Int)) s = some (.pimm (bcells B.next.length f) q, s) := fun s => by
        have := iaN (esz := 1) (k := .i64) (s := s) (i := q) (Sl.simm (bcells B.next.length f) B.next.length) hqI
        simpa using this
      have hnx : (b || f q) = true ↔ ∃ j, j < i + 1 ∧ f (B.start.getD j 0).toNat = true := by
        rw [Bool.or_eq_true, hbi]
        constructor
        · rintro (⟨j, h1, h2⟩ | h)
          · exact ⟨j, by omega, h2⟩
          · exact ⟨i, by omega, by rw [hzd]; simpa using h⟩
        · rintro ⟨j, h1, h2⟩
          by_cases he : j = i
          · subst he; rw [hzd] at h2; exact .inr (by simpa using h2)
          · exact .inl ⟨j, by omega, h2⟩
      have fin : ∀ (c : Bool) (e' : Env) (s' : St), c = (b || f q) → (LL B.next.length [.int .i64 B.L, sv, nv] f e' ∧ e'.at 6 = .bool ok ∧ e'.at 8 = .bool ok ∧ e'.at 9 = .bool c ∧ e'.at 10 = .int .i64 ((i + 1 : Nat) : Int)) → ∃ m, m < B.start.length - i ∧ ∃ (i : Nat) (b : Bool), m = B.start.length - i ∧ i ≤ B.start.length ∧ (b = true ↔ ∃ j, j < i ∧ f (B.start.getD j 0).toNat = true) ∧ LL B.next.length [.int .i64 B.L, sv, nv] f e' ∧ e'.at 6 = .bool ok ∧ e'.at 8 = .bool ok ∧ e'.at 9 = .bool b ∧ e'.at 10 = .int .i64 (i : Int) := fun c e' s' h1 h2 => ⟨B.start.length - (i + 1), by omega, i + 1, c, rfl, by omega, by rw [h1]; exact hnx, h2⟩
      clear hzd hzr hnx hbi
      cases b with
      | true =>
        repeat' (first | refine gA @hstl ?_ | (refine gB @hstl ?_; intro bb hbb; cases bb <;> (try simp only [hbs, if_false, reduceCtorEq] at hbb)) | apply qc_seq | fail)
        any_goals (exfalso; omega)
        refine fin true _ s rfl ?_
        refine ⟨by simp only [LL, lk, sv1, sv2, sv3, Nat.reduceEqDiff, Nat.reduceAdd, Nat.reduceLeDiff, reduceIte, if_false, if_true, mkVal, unLV, List.map, optTmps, e1, e3, e4, and_self], ?_⟩
        simp only [lk, sv1, sv2, sv3, Nat.reduceEqDiff, Nat.reduceAdd, Nat.reduceLeDiff, reduceIte, if_false, if_true, mkVal, unLV, List.map, optTmps, hwi, e6, e8, and_self]
      | false =>
        repeat' (first | refine gA (And.intro @hstl (And.intro (@iaN _ _ _ hst.sl) (And.intro @hgz (And.intro @hia2 @hfq)))) ?_ | (refine gB (And.intro @hstl (And.intro (@iaN _ _ _ hst.sl) (And.intro @hgz (And.intro @hia2 @hfq)))) ?_; intro bb hbb; cases bb <;> (try simp only [hbs, if_false, reduceCtorEq] at hbb)) | apply qc_seq | fail)
        any_goals (exfalso; omega)
        refine fin (f q) _ s rfl ?_
        refine ⟨by simp only [LL, lk, sv1, sv2, sv3, Nat.reduceEqDiff, Nat.reduceAdd, Nat.reduceLeDiff, reduceIte, if_false, if_true, mkVal, unLV, List.map, optTmps, e1, e3, e4, and_self], ?_⟩
        simp only [lk, sv1, sv2, sv3, Nat.reduceEqDiff, Nat.reduceAdd, Nat.reduceLeDiff, reduceIte, if_false, if_true, mkVal, unLV, List.map, optTmps, hwi, e6, e8, and_self]
    · have hie : i = B.start.length := by omega
      have hbo : b = ok := by
        rw [Bool.eq_iff_iff, hbi, hiff, hie]
        constructor
        · rintro ⟨j, h1, h2⟩
          have h3 := hok.2.2.2.1 j h1
          refine ⟨(B.start.getD j 0).toNat, List.mem_map.2 ⟨B.start.getD j 0, by rw [getD_lt' h1]; exact List.getElem_mem h1, rfl⟩, (hf _ (by omega)).1 h2⟩
        · rintro ⟨q, hq, hl⟩
          obtain ⟨z, hz, rfl⟩ := List.mem_map.1 hq
          obtain ⟨j, hj⟩ := List.mem_iff_getElem?.1 hz
          obtain ⟨h1, h2⟩ := List.getElem?_eq_some_iff.1 hj
          refine ⟨j, h1, ?_⟩
          rw [getD_lt' h1, h2]
          exact (hf _ (start_nat hok hz).2).2 hl
      rw [hbo] at e9
      clear hiff hbi hie
      repeat' (first | refine gA @hstl ?_ | (refine gB @hstl ?_; intro bb hbb; cases bb <;> (try simp only [hbs, if_false, reduceCtorEq] at hbb)) | apply qc_seq | fail)
      rotate_left
      · exfalso; first | omega | exact hbb rfl | (simp at hbb; done)
      · exfalso; first | omega | exact hbb rfl | (simp at hbb; done)
      · exfalso; first | omega | exact hbb rfl | (simp at hbb; done)
      refine qc_loop (fun m e s => ∃ (i : Nat), m = B.next.length - i ∧ i ≤ B.next.length ∧ LL B.next.length [.int .i64 B.L, sv, nv] f e ∧ e.at 11 = .int .i64 (i : Int)) _
        ⟨0, rfl, by omega, by simp only [LL, lk, sv1, sv2, sv3, Nat.reduceEqDiff, Nat.reduceAdd, Nat.reduceLeDiff, reduceIte, if_false, if_true, mkVal, unLV, List.map, optTmps, e1, e3, e4, and_self], by simp only [lk, sv1, sv2, sv3, Nat.reduceEqDiff, Nat.reduceAdd, Nat.reduceLeDiff, reduceIte, if_false, if_true, mkVal, unLV, List.map, optTmps]; rfl⟩ ?_
      clear e1 e3 e4 e6 e8 e9 e10 hbo hil hi
      clear e s
      rintro m e s ⟨i, rfl, hin, ⟨e1, e3, e4⟩, e11⟩
      by_cases hi : i < B.next.length
      · have hiI : (i : Int) < (B.next.length : Int) := by omega
        have hwi : IntKind.i64.wrap ((i : Int) + 1) = ((i + 1 : Nat) : Int) := by rw [wrap_i64 _ (by omega) (by omega)]; rfl
        have g1 : vs[i]? = some (vs.getD i .top) := hn.get (by omega)
        obtain ⟨ws, hr⟩ := hn.row i (by omega)
        have hmv0 := (hok.2.2.2.2 i (by omega)).2
        have hLI : B.L = ((B.next.getD i []).length : Int) := ((hok.2.2.2.2 i (by omega)).1).symm
        have hrl := hr.sl.len
        have hrowd : ∀ a, rowAt B i a = (B.next.getD i []).getD a [] := fun a => rfl
        have hfi : (bcells B.next.length f)[i]? = some (.bool (f i)) := bcells_get hi
        have hiai : ∀ s, iaLV 1 (.simm (bcells B.next.length f) B.next.length) (.int .i64 (i : Int)) s = some (.pimm (bcells B.next.length f) i, s) := fun s => by
          have := iaN (esz := 1) (k := .i64) (s := s) (i := i) (Sl.simm (bcells B.next.length f) B.next.length) hiI
          simpa using this
        have hiav : ∀ s, iaLV 1 nv (.int .i64 (i : Int)) s = some (.pimm vs i, s) := fun s => by
          have := iaN (esz := 1) (k := .i64) (s := s) (i := i) hn.sl (by omega)
          simpa using this
        generalize hrow : B.next.getD i [] = row at *
        generalize hrv : vs.getD i .top = rwv at *
        repeat' (first | refine gA trivial ?_ | (refine gB trivial ?_; intro bb hbb; cases bb <;> (try simp only [hbs, if_false, reduceCtorEq] at hbb)) | apply qc_seq | fail)
        any_goals (exfalso; omega)
        refine qc_loop (fun m e s => ∃ (a : Nat) (b : Bool), m = row.length - a ∧ a ≤ row.length ∧ NX B f i a 0 b ∧ LL B.next.length [.int .i64 B.L, sv, nv] f e ∧ e.at 11 = .int .i64 (i : Int) ∧ e.at 12 = .bool b ∧ e.at 13 = .int .i64 (a : Int)) _
          ⟨0, false, rfl, by omega, NX.init B f i, by simp only [LL, lk, sv1, sv2, sv3, Nat.reduceEqDiff, Nat.reduceAdd, Nat.reduceLeDiff, reduceIte, if_false, if_true, mkVal, unLV, List.map, optTmps, e1, e3, e4, and_self], ef, ef, by simp only [lk, sv1, sv2, sv3, Nat.reduceEqDiff, Nat.reduceAdd, Nat.reduceLeDiff, reduceIte, if_false, if_true, mkVal, unLV, List.map, optTmps]; rfl⟩ ?_
        clear e1 e3 e4 e11 hbb
        clear e s
        rintro m e s ⟨a, b, rfl, han, hN, ⟨e1, e3, e4⟩, e11, e12, e13⟩
        by_cases hal : a < row.length
        · have haI : (a : Int) < B.L := by omega
          have hwa : IntKind.i64.wrap ((a : Int) + 1) = ((a + 1 : Nat) : Int) := by rw [wrap_i64 _ (by omega) (by omega)]; rfl
          have g2 : ws[a]? = some (ws.getD a .top) := hr.get hal
          have hm' := hr.row a hal
          have hmo := hmv0 a hal
          have hmsl := mok_len' hmo
          have hrwa := hrowd a
          generalize hms : row.getD a [] = ms at *
          generalize hmv : ws.getD a .top = mv at *
          have hml := hm'.sl.len
          have hiaa : ∀ s, iaLV 1 rwv (.int .i64 (a : Int)) s = some (.pimm ws a, s) := fun s => by
            have := iaN (esz := 1) (k := .i64) (s := s) (i := a) hr.sl (by omega)
            simpa using this
          repeat' (first | refine gA trivial ?_ | (refine gB trivial ?_; intro bb hbb; cases bb <;> (try simp only [hbs, if_false, reduceCtorEq] at hbb)) | apply qc_seq | fail)
          any_goals (exfalso; omega)
          refine qc_loop (fun m e s => ∃ (k : Nat) (b : Bool), m = ms.length - k ∧ k ≤ ms.length ∧ NX B f i a k b ∧ LL B.next.length [.int .i64 B.L, sv, nv] f e ∧ e.at 11 = .int .i64 (i : Int) ∧ e.at 12 = .bool b ∧ e.at 13 = .int .i64 (a : Int) ∧ e.at 14 = .int .i64 (k : Int)) _
            ⟨0, b, rfl, by omega, hN, by simp only [LL, lk, sv1, sv2, sv3, Nat.reduceEqDiff, Nat.reduceAdd, Nat.reduceLeDiff, reduceIte, if_false, if_true, mkVal, unLV, List.map, optTmps, e1, e3, e4, and_self], ef, ef, ef, by simp only [lk, sv1, sv2, sv3, Nat.reduceEqDiff, Nat.reduceAdd, Nat.reduceLeDiff, reduceIte, if_false, if_true, mkVal, unLV, List.map, optTmps]; rfl⟩ ?_
          clear e1 e3 e4 e11 e12 e13 hbb hN
          clear e s b
          rintro m e s ⟨k, b, rfl, hkn, hN, ⟨e1, e3, e4⟩, e11, e12, e13, e14⟩
          by_cases hkl : k < ms.length
          · have hkI : (k : Int) < (ms.length : Int) := by omega
            have hwk : IntKind.i64.wrap ((k : Int) + 1) = ((k + 1 : Nat) : Int) := by rw [wrap_i64 _ (by omega) (by omega)]; rfl
            have hmr := hmo k hkl
            obtain ⟨md, hmd⟩ : ∃ md, ms[k]? = some md := ⟨_, List.getElem?_eq_getElem hkl⟩
            have hgd : ms.getD k (0, false) = md := by rw [List.getD_eq_getElem?_getD, hmd]; rfl
            rw [hgd] at hmr
            have hmc := mcells_pair hkl
            rw [hgd] at hmc
            have hra : (rowAt B i a)[k]? = some md := by rw [hrwa]; exact hmd
            have hN2 := hN.move hra
            obtain ⟨mt, mg⟩ := md
            obtain ⟨t, rfl⟩ : ∃ t : Nat, mt = (t : Int) := ⟨mt.toNat, by omega⟩
            have htn : t < B.next.length := by have := hmr.2.1; simp only at this; omega
            have htI : (t : Int) < (B.next.length : Int) := by omega
            have hft : (bcells B.next.length f)[t]? = some (.bool (f t)) := bcells_get htn
            have hiat : ∀ s, iaLV 1 (.simm (bcells B.next.length f) B.next.length) (.int .i64 (t : Int)) s = some (.pimm (bcells B.next.length f) t, s) := fun s => by
              have := iaN (esz := 1) (k := .i64) (s := s) (i := t) (Sl.simm (bcells B.next.length f) B.next.length) htI
              simpa using this
            have hmc0 : (mcells ms)[k * 2]? = some (.int .i64 (t : Int)) := by
              have h0 := congrArg (fun l => l[0]?) hmc
              simpa using h0
            have hN2' : NX B f i a (k + 1) (b || f t) := by simpa using hN2
            clear hmr hgd hmc hN2 hN
            cases b with
            | true =>
              repeat' (first | refine gA (And.intro @hiav (And.intro @g1 (And.intro @hiaa (And.intro @g2 @hml)))) ?_ | (refine gB (And.intro @hiav (And.intro @g1 (And.intro @hiaa (And.intro @g2 @hml)))) ?_; intro bb hbb; cases bb <;> (try simp only [hbs, if_false, reduceCtorEq] at hbb)) | apply qc_seq | fail)
              any_goals (exfalso; omega)
              refine ⟨ms.length - (k + 1), by omega, k + 1, true, rfl, by omega, by simpa using hN2', ?_⟩
              refine ⟨by simp only [LL, lk, sv1, sv2, sv3, Nat.reduceEqDiff, Nat.reduceAdd, Nat.reduceLeDiff, reduceIte, if_false, if_true, mkVal, unLV, List.map, optTmps, e1, e3, e4, and_self], ?_⟩
              simp only [lk, sv1, sv2, sv3, Nat.reduceEqDiff, Nat.reduceAdd, Nat.reduceLeDiff, reduceIte, if_false, if_true, mkVal, unLV, List.map, optTmps, hwk, e11, e13, and_self]
            | false =>
              repeat' (first | refine gA (And.intro @hiav (And.intro @g1 (And.intro @hiaa (And.intro @g2 (And.intro @hml (And.intro (@iaN _ _ _ hm'.sl) (And.intro @hmc0 (And.intro @hiat @hft)))))))) ?_ | (refine gB (And.intro @hiav (And.intro @g1 (And.intro @hiaa (And.intro @g2 (And.intro @hml (And.intro (@iaN _ _ _ hm'.sl) (And.intro @hmc0 (And.intro @hiat @hft)))))))) ?_; intro bb hbb; cases bb <;> (try simp only [hbs, if_false, reduceCtorEq] at hbb)) | apply qc_seq | fail)
              any_goals (exfalso; omega)
              refine ⟨ms.length - (k + 1), by omega, k + 1, f t, rfl, by omega, by simpa using hN2', ?_⟩
              refine ⟨by simp only [LL, lk, sv1, sv2, sv3, Nat.reduceEqDiff, Nat.reduceAdd, Nat.reduceLeDiff, reduceIte, if_false, if_true, mkVal, unLV, List.map, optTmps, e1, e3, e4, and_self], ?_⟩
              simp only [lk, sv1, sv2, sv3, Nat.reduceEqDiff, Nat.reduceAdd, Nat.reduceLeDiff, reduceIte, if_false, if_true, mkVal, unLV, List.map, optTmps, hwk, e11, e13, and_self]
          · have hN2 := hN.letter (by rw [hrwa]; omega)
            clear hN
            repeat' (first | refine gA (And.intro @hiav (And.intro @g1 (And.intro @hiaa (And.intro @g2 @hml)))) ?_ | (refine gB (And.intro @hiav (And.intro @g1 (And.intro @hiaa (And.intro @g2 @hml)))) ?_; intro bb hbb; cases bb <;> (try simp only [hbs, if_false, reduceCtorEq] at hbb)) | apply qc_seq | fail)
            any_goals (exfalso; omega)
            refine ⟨row.length - (a + 1), by omega, a + 1, b, rfl, by omega, hN2, ?_⟩
            refine ⟨by simp only [LL, lk, sv1, sv2, sv3, Nat.reduceEqDiff, Nat.reduceAdd, Nat.reduceLeDiff, reduceIte, if_false, if_true, mkVal, unLV, List.map, optTmps, e1, e3, e4, and_self], ?_⟩
            simp only [lk, sv1, sv2, sv3, Nat.reduceEqDiff, Nat.reduceAdd, Nat.reduceLeDiff, reduceIte, if_false, if_true, mkVal, unLV, List.map, optTmps, hwa, e11, e12, and_self]
        · have hfin := hN.fin hok hf hi (by omega)
          rw [hfin] at e12
          clear hN
          repeat' (first | refine gA (And.intro @hiai @hfi) ?_ | (refine gB (And.intro @hiai @hfi) ?_; intro bb hbb; cases bb <;> (try simp only [hbs, if_false, reduceCtorEq] at hbb)) | apply qc_seq | fail)
          any_goals (exfalso; first | omega | exact hbb rfl | (simp at hbb; done))
          refine ⟨B.next.length - (i + 1), by omega, i + 1, rfl, by omega, ?_⟩
          refine ⟨by simp only [LL, lk, sv1, sv2, sv3, Nat.reduceEqDiff, Nat.reduceAdd, Nat.reduceLeDiff, reduceIte, if_false, if_true, mkVal, unLV, List.map, optTmps, e1, e3, e4, and_self], ?_⟩
          simp only [lk, sv1, sv2, sv3, Nat.reduceEqDiff, Nat.reduceAdd, Nat.reduceLeDiff, reduceIte, if_false, if_true, mkVal, unLV, List.map, optTmps, hwi, e11, and_self]
      · repeat' (first | refine gA trivial ?_ | (refine gB trivial ?_; intro bb hbb; cases bb <;> (try simp only [hbs, if_false, reduceCtorEq] at hbb)) | apply qc_seq | fail)
        any_goals (exfalso; omega)
        exact ⟨.inr trivial, ef⟩
end Go.Proofs.YtohldpfjnllkdaaDoor
