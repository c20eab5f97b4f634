/- buchi.automaton at Trim's moves. -/
import Derived.Test.YtbdoggiabclkdaaGreatDoorTsort
import Derived.Test.YtbdoggiabclkdaaGreatDoorTnum
set_option linter.unusedSimpArgs false
set_option linter.unusedVariables false
section
set_option linter.unusedSimpArgs false
set_option linter.unusedVariables false
namespace Go.Proofs.YtbdoggiabclkdaaGreatDoor
open Go Go.Pv
open Classical
structure AI (s s1 : St) (L : Int) (r8 r9 M ja jb jc jd : Nat) (pv stv nxv : LV) (ps : List Nat) : Prop where
  ids : r8 = s.n ∧ r9 = s.n + 1 ∧ M = s.n + 2 ∧ ja = s.n + 3 ∧ jb = s.n + 4 ∧ jc = s.n + 5 ∧ jd = s.n + 6
  nt : NT s.n (fun _ => False) s1 s1 ja jb M pv ps
  n7 : s.n + 7 ≤ s1.n
  g8 : s1.get r8 = some (.cells .mut [.int .i64 0, .nils, .nils])
  g9 : s1.get r9 = some (.cells .mut [.int .i64 0])
  gc : s1.get jc = some (.cells .mut [.fn (.func 48) [] [.pref ja 0, .pref jb 0]])
  gd : s1.get jd = some (.cells .mut [.int .i64 L, stv, nxv])
  low : ∀ id, uses pv id → s.n + 7 ≤ id
  old : ∀ id, id < s.n → s1.get id = s.get id
theorem AI.keep {s s1 s2 : St} {L : Int} {r8 r9 M ja jb jc jd : Nat} {pv stv nxv : LV} {ps : List Nat} (h : AI s s1 L r8 r9 M ja jb jc jd pv stv nxv ps) (hn : s1.n ≤ s2.n) (hs : ∀ id, id < s.n + 7 ∨ uses pv id → s2.get id = s1.get id) : AI s s2 L r8 r9 M ja jb jc jd pv stv nxv ps := by
  obtain ⟨i1, i2, i3, i4, i5, i6, i7⟩ := h.ids
  have n7 := h.n7
  have N := h.nt
  refine ⟨h.ids, ⟨by have := N.le; omega, N.a0, by have := N.a1; omega, N.b0, by have := N.b1; omega, N.m0, by have := N.m1; omega, N.ab, N.ma, N.mb, by rw [hs _ (.inl (by omega))]; exact N.ga, by rw [hs _ (.inl (by omega))]; exact N.gb, by rw [hs _ (.inl (by omega))]; exact N.gM, N.sp.mono hn fun id hu => hs id (.inr hu), N.dp, fun id hk => hk.elim, fun id hk => hk.elim⟩, by omega,
    by rw [hs _ (.inl (by omega))]; exact h.g8, by rw [hs _ (.inl (by omega))]; exact h.g9, by rw [hs _ (.inl (by omega))]; exact h.gc, by rw [hs _ (.inl (by omega))]; exact h.gd, h.low, fun id hid => by rw [hs _ (.inl (by omega))]; exact h.old id hid⟩
theorem start_len {B : Bu} (hok : Vb B) : B.start.length ≤ B.next.length := by
  have hge : ∀ i, i < B.start.length → (i : Int) ≤ B.start.getD i 0 := by
    intro i
    induction i with
    | zero => intro hi; exact (hok.2.2.2.1 0 hi).1
    | succ i ih =>
      intro hi
      have h1 := ih (by omega)
      have h2 := (hok.2.2.2.1 (i + 1) hi).2.2 (by omega)
      rw [Nat.add_sub_cancel] at h2
      omega
  by_cases h : B.start.length = 0
  · omega
  · have h1 := hge (B.start.length - 1) (by omega)
    have h2 := (hok.2.2.2.1 (B.start.length - 1) (by omega)).2.1
    omega
theorem getD_set' {α : Type} {l : List α} {i k : Nat} {x d : α} (h : i < l.length) : (l.set i x).getD k d = if k = i then x else l.getD k d := by
  by_cases e : k = i
  · subst e; simp [List.getD_eq_getElem?_getD, h]
  · have e' : i ≠ k := fun h => e h.symm
    simp [List.getD_eq_getElem?_getD, e, e']
theorem mok_len' {n : Nat} {ms : Moves} (h : MOK n ms) : ms.length ≤ 2 * n := by
  let f : Nat → Int := fun k => 2 * (ms.getD k (0, false)).1 + (if (ms.getD k (0, false)).2 = true then 1 else 0)
  have hf : ∀ k, k < ms.length → (k : Int) ≤ f k := by
    intro k
    induction k with
    | zero =>
      intro hk
      have := (h 0 hk).1
      show (0 : Int) ≤ 2 * _ + _
      split <;> omega
    | succ k ih =>
      intro hk
      have h1 := ih (by omega)
      have h2 := (h (k + 1) hk).2.2 (by omega)
      rw [Nat.add_sub_cancel] at h2
      have h3 : f k < f (k + 1) := by
        show 2 * _ + _ < 2 * _ + _
        rcases h2 with h2 | ⟨h2, h4, h5⟩
        · split <;> split <;> omega
        · rw [h4, h5, h2]
          first
            | (simp; done)
            | (simp; omega)
      omega
  by_cases h0 : ms.length = 0
  · omega
  · have h1 := hf (ms.length - 1) (by omega)
    have h2 := (h (ms.length - 1) (by omega)).2.1
    have h3 : f (ms.length - 1) ≤ 2 * (ms.getD (ms.length - 1) (0, false)).1 + 1 := by
      show 2 * _ + _ ≤ _
      split <;> omega
    omega
theorem stT_pre (B : Bu) (i : Nat) : Pre (addsN [] ((B.start.take i).map Int.toNat)) (trimR B) := by
  refine Pre.trans ?_ (runN_pre (succT B) _ 0 (stT B))
  have : B.start.map Int.toNat = (B.start.take i).map Int.toNat ++ (B.start.drop i).map Int.toNat := by rw [← List.map_append, List.take_append_drop]
  rw [stT, this, addsN_append]
  exact addsN_pre _ _
theorem trim_ok {B : Bu} (hok : Vb B) : (trimR B).Nodup ∧ (∀ p ∈ trimR B, p < B.next.length) ∧ ∀ p ∈ trimR B, ∀ q ∈ succT B p, q ∈ trimR B := by
  have h0 : ∀ p ∈ stT B, p < B.next.length := addsN_in (fun p hp => by cases hp) fun p hp => by
    obtain ⟨z, hz, rfl⟩ := List.mem_map.1 hp
    obtain ⟨i, hi⟩ := List.mem_iff_getElem?.1 hz
    obtain ⟨h1, h2⟩ := List.getElem?_eq_some_iff.1 hi
    have := hok.2.2.2.1 i h1
    have hg : B.start.getD i 0 = z := by rw [List.getD_eq_getElem?_getD, hi]; rfl
    rw [hg] at this
    omega
  have hs : ∀ p, p < B.next.length → ∀ q ∈ succT B p, q < B.next.length := by
    intro p hp q hq
    obtain ⟨a, ha, hq⟩ := List.mem_flatMap.1 hq
    obtain ⟨m, hm, rfl⟩ := List.mem_map.1 hq
    have hrow := hok.2.2.2.2 p hp
    have ha' : a < (B.next.getD p []).length := by have := hrow.1; have := List.mem_range.1 ha; omega
    obtain ⟨k, hk⟩ := List.mem_iff_getElem?.1 hm
    obtain ⟨hk1, hk2⟩ := List.getElem?_eq_some_iff.1 hk
    have := hrow.2 a ha' k hk1
    have hg : ((B.next.getD p []).getD a []).getD k (0, false) = m := by rw [List.getD_eq_getElem?_getD, hk]; rfl
    rw [hg] at this
    omega
  exact runN_ok hs (B.next.length + 1) 0 (stT B) (addsN_nd (by simp)) h0 (fun i p hi => absurd hi (Nat.not_lt_zero _)) (by omega)
theorem ai_len {B : Bu} (hok : Vb B) {ps : List Nat} (hp : Pre ps (trimR B)) : ps.length ≤ B.next.length := by
  obtain ⟨h1, h2, _⟩ := trim_ok hok
  have h3 := Aut.pig B.next.length (trimR B) h1 h2
  obtain ⟨t, ht⟩ := hp
  rw [ht, List.length_append] at h3
  omega
structure Fr1 (s1 s2 : St) (ja jb M : Nat) (pv pv' : LV) : Prop where
  n : s1.n ≤ s2.n
  u : ∀ id, uses pv' id → uses pv id ∨ s1.n ≤ id
  g : ∀ id, id < s1.n → id ≠ ja → id ≠ jb → id ≠ M → ¬ uses pv id → s2.get id = s1.get id
theorem Fr1.refl (s1 : St) (ja jb M : Nat) (pv : LV) : Fr1 s1 s1 ja jb M pv pv := ⟨Nat.le_refl _, fun _ h => .inl h, fun _ _ _ _ _ _ => rfl⟩
theorem Fr1.trans {s1 s2 s3 : St} {ja jb M : Nat} {pv pv' pv'' : LV} (h : Fr1 s1 s2 ja jb M pv pv') (k : Fr1 s2 s3 ja jb M pv' pv'') : Fr1 s1 s3 ja jb M pv pv'' := by
  refine ⟨Nat.le_trans h.n k.n, fun id hu => ?_, fun id h1 h2 h3 h4 h5 => ?_⟩
  · rcases k.u id hu with h6 | h6
    · exact h.u id h6
    · exact .inr (by have := h.n; omega)
  · rw [k.g id (by have := h.n; omega) h2 h3 h4 fun hu => by
      rcases h.u id hu with h6 | h6
      · exact h5 h6
      · omega]
    exact h.g id h1 h2 h3 h4 h5
theorem Fr1.young {s1 s2 s3 : St} {ja jb M : Nat} {pv pv' : LV} (h : Fr1 s1 s2 ja jb M pv pv') (hn : s2.n ≤ s3.n) (hs : ∀ id, id < s1.n → s3.get id = s2.get id) : Fr1 s1 s3 ja jb M pv pv' :=
  ⟨Nat.le_trans h.n hn, h.u, fun id h1 h2 h3 h4 h5 => by rw [hs id h1]; exact h.g id h1 h2 h3 h4 h5⟩
def RowT (B : Bu) (p : Nat) (row : List Moves) (a : Nat) : Prop := ∀ k, k < a → (row.getD k []).Perm (renM (trimR B) (rowM B p k)) ∧ ∀ i j, i < j → j < (row.getD k []).length → ¬ mlt ((row.getD k []).getD j (0, false)) ((row.getD k []).getD i (0, false))
structure AR (B : Bu) (s s1 : St) (r8 r9 M ja jb jc jd : Nat) (pv stv nxv : LV) (ps : List Nat) (n : Nat) : Prop where
  ai : AI s s1 B.L r8 r9 M ja jb jc jd pv stv nxv ps
  ss : SkC s1 stv 1 (ints (B.start.map fun z => (numN (trimR B) z.toNat : Int))) B.start.length
  ds : ∀ id, uses stv id → s.n + 7 ≤ id ∧ ¬ uses pv id
  rows : ∃ (rvs : List LV) (nxs : List (List Moves)), rvs.length = n ∧ nxs.length = n ∧ SkC s1 nxv 1 rvs n ∧ (∀ id, uses nxv id → s.n + 7 ≤ id ∧ ¬ uses pv id ∧ ¬ uses stv id) ∧
    (∀ i, i < n → IsRowM (rvs.getD i .top) (nxs.getD i [])) ∧ ∀ i, i < n → ((nxs.getD i []).length : Int) = B.L ∧ RowT B ((trimR B).getD i 0) (nxs.getD i []) B.L.toNat
theorem AR.next {B : Bu} {s s1 s2 : St} {r8 r9 M ja jb jc jd : Nat} {pv pv' stv nxv : LV} {ps ps' : List Nat} {n : Nat} (h : AR B s s1 r8 r9 M ja jb jc jd pv stv nxv ps n) (hA : AI s s2 B.L r8 r9 M ja jb jc jd pv' stv nxv ps') (hF : Fr1 s1 s2 ja jb M pv pv') : AR B s s2 r8 r9 M ja jb jc jd pv' stv nxv ps' n := by
  obtain ⟨rvs, nxs, h1, h2, h3, h4, h5, h8⟩ := h.rows
  obtain ⟨i1, i2, i3, i4, i5, i6, i7⟩ := h.ai.ids
  have hup : ∀ id, id < s1.n → ¬ uses pv id → ¬ uses pv' id := fun id hid hn hu => by
    rcases hF.u id hu with h | h
    · exact hn h
    · omega
  have hk : ∀ id, s.n + 7 ≤ id → id < s1.n → ¬ uses pv id → s2.get id = s1.get id := fun id a b c => hF.g id b (by omega) (by omega) (by omega) c
  exact ⟨hA, h.ss.mono hF.n fun id hu => hk id (h.ds id hu).1 (h.ss.lt hu) (h.ds id hu).2, fun id hu => ⟨(h.ds id hu).1, hup id (h.ss.lt hu) (h.ds id hu).2⟩, rvs, nxs, h1, h2, h3.mono hF.n fun id hu => hk id (h4 id hu).1 (h3.lt hu) (h4 id hu).2.1, fun id hu => ⟨(h4 id hu).1, hup id (h3.lt hu) (h4 id hu).2.1, (h4 id hu).2.2⟩, h5, h8⟩
theorem AR.row {B : Bu} {s s2 s' : St} {r8 r9 M ja jb jc jd j : Nat} {pv stv nxv v' : LV} {ps : List Nat} {n : Nat} {rvs : List LV} {nxs : List (List Moves)} {row : List Moves} {T : Nat → Prop} (hA : AI s s2 B.L r8 r9 M ja jb jc jd pv stv nxv ps) (ss : SkC s2 stv 1 (ints (B.start.map fun z => (numN (trimR B) z.toNat : Int))) B.start.length) (ds : ∀ id, uses stv id → s.n + 7 ≤ id ∧ ¬ uses pv id)
    (h1 : rvs.length = n) (h2 : nxs.length = n) (h4 : ∀ id, uses nxv id → s.n + 7 ≤ id ∧ ¬ uses pv id ∧ ¬ uses stv id) (h5 : ∀ i, i < n → IsRowM (rvs.getD i .top) (nxs.getD i [])) (h8 : ∀ i, i < n → ((nxs.getD i []).length : Int) = B.L ∧ RowT B ((trimR B).getD i 0) (nxs.getD i []) B.L.toNat)
    (hT : ∀ id, T id → s.n + 7 ≤ id ∧ ¬ uses pv id ∧ ¬ uses stv id) (hv : IsRowM v' row) (hj : s2.n ≤ j) (hS : SkC s' (.sref j 0 (n + 1) 1) 1 (rvs ++ [v']) (n + 1)) (hn : s2.n ≤ s'.n) (hk : ∀ id, id < s2.n → ¬ uses nxv id → ¬ T id → s'.get id = s2.get id) (hrow : (row.length : Int) = B.L ∧ RowT B ((trimR B).getD n 0) row B.L.toNat) :
    AR B s (s'.put jd (.cells .mut [.int .i64 B.L, stv, .sref j 0 (n + 1) 1])) r8 r9 M ja jb jc jd pv stv (.sref j 0 (n + 1) 1) ps (n + 1) := by
  obtain ⟨i1, i2, i3, i4, i5, i6, i7⟩ := hA.ids
  have n7 := hA.n7
  have hyoung : ∀ id, id < s.n + 7 → s'.get id = s2.get id := fun id hid => hk id (by omega) (fun hu => by have := (h4 id hu).1; omega) fun ht => by have := (hT id ht).1; omega
  have hK := hA.keep (s2 := s') hn fun id hid => by
    rcases hid with hid | hid
    · exact hyoung id hid
    · exact hk id (hA.nt.sp.lt hid) (fun hu => (h4 id hu).2.1 hid) fun ht => (hT id ht).2.1 hid
  have N := hK.nt
  have hpvd : ¬ uses pv jd := fun hu => by have := hA.low jd hu; omega
  refine ⟨⟨hK.ids, ⟨N.le, N.a0, N.a1, N.b0, N.b1, N.m0, N.m1, N.ab, N.ma, N.mb, by rw [St.get_put, if_neg (by omega)]; exact N.ga, by rw [St.get_put, if_neg (by omega)]; exact N.gb, by rw [St.get_put, if_neg (by omega)]; exact N.gM, N.sp.mono (Nat.le_refl _) fun id hu => by rw [St.get_put, if_neg (by rintro rfl; exact hpvd hu)], N.dp, fun id h => h.elim, fun id h => h.elim⟩, hK.n7, by rw [St.get_put, if_neg (by omega)]; exact hK.g8, by rw [St.get_put, if_neg (by omega)]; exact hK.g9, by rw [St.get_put, if_neg (by omega)]; exact hK.gc, by rw [St.get_put, if_pos rfl], hK.low, fun id hid => by rw [St.get_put, if_neg (by omega)]; exact hK.old id hid⟩, ?_, ds, rvs ++ [v'], nxs ++ [row], by simp [h1], by simp [h2], ?_, ?_, ?_, ?_⟩
  · exact ss.mono (by rw [St.n_put]; exact hn) fun id hu => by
      rw [St.get_put, if_neg (by have := (ds id hu).1; omega)]
      exact hk id (ss.lt hu) (fun hu' => (h4 id hu').2.2 hu) fun ht => (hT id ht).2.2 hu
  · exact hS.mono (Nat.le_refl _) fun id hu => by
      obtain rfl := uses_sref.1 hu
      rw [St.get_put, if_neg (by omega)]
  · intro id hu
    obtain rfl := uses_sref.1 hu
    exact ⟨by omega, fun hu' => by have := hA.nt.sp.lt hu'; omega, fun hu' => by have := ss.lt hu'; omega⟩
  · intro i hi
    by_cases he : i = n
    · subst he
      rw [List.getD_eq_getElem?_getD, List.getElem?_append_right (by omega), h1, Nat.sub_self, List.getD_eq_getElem?_getD, List.getElem?_append_right (by omega), h2, Nat.sub_self]
      exact hv
    · rw [List.getD_eq_getElem?_getD, List.getElem?_append_left (by omega), ← List.getD_eq_getElem?_getD, List.getD_eq_getElem?_getD (l := nxs ++ [row]), List.getElem?_append_left (by omega), ← List.getD_eq_getElem?_getD]
      exact h5 i (by omega)
  · intro i hi
    by_cases he : i = n
    · subst he
      rw [List.getD_eq_getElem?_getD, List.getElem?_append_right (by omega), h2, Nat.sub_self]
      exact hrow
    · rw [List.getD_eq_getElem?_getD, List.getElem?_append_left (by omega), ← List.getD_eq_getElem?_getD]
      exact h8 i (by omega)
theorem skc_cell {s : St} {v : LV} {esz n : Nat} {cells : List LV} (h : SkC s v esz cells n) : isCell v = true := by
  obtain ⟨_, ⟨rfl, _⟩ | ⟨j, rfl, _⟩⟩ := h <;> rfl
theorem AR.fin {B : Bu} {s s1 : St} {r8 r9 M ja jb jc jd : Nat} {pv stv nxv : LV} {n : Nat} (hok : Vb B) (h : AR B s s1 r8 r9 M ja jb jc jd pv stv nxv (trimR B) n) (hn : n = (trimR B).length) : ∃ C : Bu, TrimR B C ∧ FZ (uses stv) (fun v' => IsInts v' C.start) 39 stv s1 ∧ FZ (uses nxv) (fun v' => IsNext v' C.next) 39 nxv s1 ∧ (∀ id, uses stv id → ¬ uses nxv id) ∧ ∀ id, uses stv id ∨ uses nxv id → s.n + 7 ≤ id ∧ id < s1.n := by
  obtain ⟨rvs, nxs, h1, h2, h3, h4, h5, h8⟩ := h.rows
  have hmx : maxLen = 9223372036854775807 := by decide
  have hlen := ai_len hok (Pre.refl (trimR B))
  have hn3 := hok.2.2.1
  have hsn := start_len hok
  refine ⟨⟨B.L, B.start.map fun z => (numN (trimR B) z.toNat : Int), nxs⟩, ⟨rfl, rfl, by rw [← hn]; exact h2, fun i hi => ⟨(h8 i (by omega)).1, fun a ha => (h8 i (by omega)).2 a (by have := hok.1; omega)⟩⟩, ?_, ?_, fun id hu hu' => (h4 id hu').2.2 hu, fun id hu => ?_⟩
  · refine (fz_skc 37 h.ss (ints_cl' _)).mono fun v hv => ⟨by simpa using hv, by simp only [List.length_map]; omega, fun x hx => ?_⟩
    obtain ⟨z, hz, rfl⟩ := List.mem_map.1 hx
    have hzm : z.toNat ∈ trimR B := (stT_pre B B.start.length).mem (by
      rw [List.take_length]
      exact addsN_mem (List.mem_map_of_mem hz))
    have := numN_lt hzm
    show inI64 ((numN (trimR B) z.toNat : Nat) : Int)
    unfold inI64
    constructor <;> omega
  · refine (fz_skc 37 h3 (closedAll_of fun i hi => (h5 i (by omega)).closed)).mono fun v hv => ⟨rvs, by rw [h2]; exact hv, by rw [h1, h2], by simp only [h2]; omega, fun i hi => h5 i (by simpa [h2] using hi)⟩
  · rcases hu with hu | hu
    · exact ⟨(h.ds id hu).1, h.ss.lt hu⟩
    · exact ⟨(h4 id hu).1, h3.lt hu⟩
end Go.Proofs.YtbdoggiabclkdaaGreatDoor
end
section
set_option linter.unusedSimpArgs false
set_option linter.unusedVariables false
namespace Go.Proofs.YtbdoggiabclkdaaGreatDoor
open Go Go.Pv
open Classical
theorem frz_aut {s : St} {stv nxv : LV} {C : Bu} {T1 T2 : Nat → Prop} (f1 : FZ T1 (fun v' => IsInts v' C.start) 39 stv s) (f2 : FZ T2 (fun v' => IsNext v' C.next) 39 nxv s) (hd : ∀ id, T1 id → ¬ T2 id) :
    ∃ r s' sv nv, frz frzDepth (.agg [.int .i64 C.L, stv, nxv]) s = some (r, s') ∧ IsB r C sv nv := by
  obtain ⟨v1, s1, a1, a2, a3, a4⟩ := f1 s fun _ _ => rfl
  obtain ⟨v2, s2, b1, b2, b3, b4⟩ := f2 s1 fun id hid => a4 id fun h => hd id h hid
  by_cases hc : (LV.agg [.int .i64 C.L, stv, nxv]).closed = true
  · have hc' : stv.closed = true ∧ nxv.closed = true := by simpa [LV.closed, LV.closed.closedAll] using hc
    rw [frz_closed hc'.1] at a1
    rw [frz_closed hc'.2] at b1
    cases a1
    cases b1
    exact ⟨_, s, stv, nxv, frz_closed hc, rfl, a2, b2⟩
  · have hc0 : (LV.agg [.int .i64 C.L, stv, nxv]).closed = false := by simpa using hc
    refine ⟨.agg [.int .i64 C.L, v1, v2], s2, v1, v2, ?_, rfl, a2, b2⟩
    have hb : frz 39 (.int .i64 C.L) s = some (.int .i64 C.L, s) := frz_closed rfl
    show frz (39 + 1) _ s = _
    unfold frz
    rw [hc0]
    simp only [Bool.false_eq_true, if_false, frz.frzAll, hb, a1, b1, Option.bind_eq_bind, Option.bind_some]
end Go.Proofs.YtbdoggiabclkdaaGreatDoor
end
