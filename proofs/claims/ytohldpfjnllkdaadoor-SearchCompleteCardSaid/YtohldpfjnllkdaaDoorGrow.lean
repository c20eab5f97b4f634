/- Grow and Concat of numbers. -/
import Derived.Test.YtohldpfjnllkdaaDoorWoe
import Derived.Test.YtohldpfjnllkdaaDoorSmall
set_option linter.unusedSimpArgs false
set_option linter.unusedVariables false
namespace Go.Proofs.YtohldpfjnllkdaaDoor
open Go Go.Pv
open Classical
theorem frz_sref0 {s : St} {j : Nat} {cs : List LV} (h : s.get j = some (.cells .mut cs)) (hc : LV.closed.closedAll cs = true) : frz frzDepth (.sref j 0 0 1) s = some (.simm [] 0, s.put j (.cells .app cs)) := by
  have : frz frzDepth (.sref j 0 0 1) s = frz (38 + 1 + 1) (.sref j 0 0 1) s := rfl
  rw [this]
  unfold frz
  simp [LV.closed, h, frzAll_closed hc]
set_option maxHeartbeats 4000000 in
theorem grow_ok {n : Nat} (hn : n ≤ 1000) : PE 78 [.nils, .int .i64 (n : Int)] (fun r => IsInts r []) := by
  refine q_fnEx (t := 4) hm Tryd.func78 (by decide +kernel) c78 (Nat.le_of_ble_eq_true rfl) rfl rfl ?_
  have h0 : (envOf [.nils, LV.int .i64 (n : Int)]).at 0 = .nils := by rw [envOf_at]; rfl
  have h1 : (envOf [.nils, LV.int .i64 (n : Int)]).at 1 = .int .i64 (n : Int) := by rw [envOf_at]; rfl
  generalize envOf [.nils, LV.int .i64 (n : Int)] = e at *
  unfold l78
  dsimp only
  repeat' (first | refine gA trivial ?_ | (refine gB trivial ?_; intro bb hbb; cases bb <;> (try simp only [hbs, if_false, reduceCtorEq] at hbb)) | apply qc_seq | fail)
  rotate_left
  · exfalso; omega
  refine q_gen (v := .int .i64 0) (s' := St.empty) wN (by simp only [LOp.run, lk, sv1, sv2, sv3, Nat.reduceEqDiff, Nat.reduceAdd, Nat.reduceLeDiff, reduceIte, if_false, if_true, mkVal, unLV, List.map, optTmps, h0]) rfl trivial ?_
  simp only [Env.put_some]
  repeat' (first | refine gA trivial ?_ | (refine gB trivial ?_; intro bb hbb; cases bb <;> (try simp only [hbs, if_false, reduceCtorEq] at hbb)) | apply qc_seq | fail)
  · refine ⟨.inr trivial, .nils, _, by simp only [lk, sv1, sv2, sv3, Nat.reduceEqDiff, Nat.reduceAdd, Nat.reduceLeDiff, reduceIte, if_false, if_true, mkVal, unLV, List.map, optTmps]; exact frzD_closed rfl, rfl, ⟨.nil, by simp, by simp⟩⟩
  · have hrc : LV.closed.closedAll (rep n [.int .i64 0]) = true := by
      rw [rep_one]
      exact closedAll_of fun i hi => by
        rw [List.length_replicate] at hi
        rw [List.getD_eq_getElem?_getD, List.getElem?_replicate, if_pos hi]; rfl
    have hw : IntKind.i64.wrap ((n : Int) - IntKind.i64.wrap (0 - ((0 : Nat) : Int))) = (n : Int) := by
      have h1 : IntKind.i64.wrap (0 - ((0 : Nat) : Int)) = 0 := by decide
      rw [h1, Int.sub_zero]
      exact wrap_i64 _ (by omega) (by omega)
    rw [hw] at hbb
    simp only [hw]
    refine q_gen (v := .int .i64 0) (s' := St.empty) wN (by simp only [LOp.run, lk, sv1, sv2, sv3, Nat.reduceEqDiff, Nat.reduceAdd, Nat.reduceLeDiff, reduceIte, if_false, if_true, mkVal, unLV, List.map, optTmps, h0]) rfl trivial ?_
    simp only [Env.put_some]
    refine q_gen (v := .nils) (s' := St.empty) wN (by simp only [LOp.run, lk, sv1, sv2, sv3, Nat.reduceEqDiff, Nat.reduceAdd, Nat.reduceLeDiff, reduceIte, if_false, if_true, mkVal, unLV, List.map, optTmps, h0]; rfl) rfl trivial ?_
    simp only [Env.put_some]
    repeat' (first | refine gA trivial ?_ | (refine gB trivial ?_; intro bb hbb; cases bb <;> (try simp only [hbs, if_false, reduceCtorEq] at hbb)) | apply qc_seq | fail)
    refine q_gen (v := .sref 0 0 n 1) (s' := St.new St.empty (.cells .mut (rep n [.int .i64 0]))) wN ?_ rfl trivial ?_
    · have : (n : Int) * 8 ≤ big := by unfold big; omega
      have h2 : (n : Int) ≤ big := by unfold big; omega
      simp only [LOp.run, lk, sv1, sv2, sv3, Nat.reduceEqDiff, Nat.reduceAdd, Nat.reduceLeDiff, reduceIte, if_false, if_true, mkVal, unLV, List.map, optTmps, h0]
      rw [if_neg (by omega), if_pos ⟨by omega, this, h2⟩]
      simp [n_empty]
    simp only [Env.put_some]
    repeat' (first | refine gA trivial ?_ | (refine gB trivial ?_; intro bb hbb; cases bb <;> (try simp only [hbs, if_false, reduceCtorEq] at hbb)) | apply qc_seq | fail)
    refine q_gen (v := .sref 0 0 0 1) (s' := St.new St.empty (.cells .mut (rep n [.int .i64 0]))) wN ?_ rfl trivial ?_
    · simp only [LOp.run, lk, sv1, sv2, sv3, Nat.reduceEqDiff, Nat.reduceAdd, Nat.reduceLeDiff, reduceIte, if_false, if_true, mkVal, unLV, List.map, optTmps, h0, Option.map_some, Option.map_none, bndOf, Option.bind_eq_bind, Option.bind_some]
      simp
    simp only [Env.put_some]
    repeat' (first | refine gA trivial ?_ | (refine gB trivial ?_; intro bb hbb; cases bb <;> (try simp only [hbs, if_false, reduceCtorEq] at hbb)) | apply qc_seq | fail)
    refine ⟨.inr trivial, _, _, by simp only [lk, sv1, sv2, sv3, Nat.reduceEqDiff, Nat.reduceAdd, Nat.reduceLeDiff, reduceIte, if_false, if_true, mkVal, unLV, List.map, optTmps]; exact frz_sref0 (cs := rep n [.int .i64 0]) (by simp [n_empty]) hrc, rfl, ⟨.simm _ _, by simp, by simp⟩⟩
def Gr (s : St) (r : LV) (s' : St) : Prop := (r = .nils ∧ s' = s) ∨ ∃ cs, r = .sref s.n 0 0 1 ∧ s' = s.new (.cells .mut cs) ∧ LV.closed.closedAll cs = true
set_option maxHeartbeats 4000000 in
theorem grow_c {n : Nat} (hn : n ≤ 1000) {s : St} : CallOk Tryd.prog GL (.fn (.func 78) [] []) [.nils, .int .i64 (n : Int)] s (fun r s' => Gr s r s') := by
  refine call_fn (first := []) (caps := []) Tryd.func78 (by decide +kernel) c78 (Nat.le_of_ble_eq_true rfl) (CodeOk.mono (Q := fun o e s' => (o = .normal ∨ o = .jmp .ret) ∧ Gr s (e.at 4) s') ?_ fun o e s' hh => ⟨hh.1, e.at 4, by simp [l78, resVal, resOne], hh.2⟩)
  have h0 : (envOf ([] ++ [.nils, LV.int .i64 (n : Int)] ++ [])).at 0 = .nils := by rw [envOf_at]; rfl
  have h1 : (envOf ([] ++ [.nils, LV.int .i64 (n : Int)] ++ [])).at 1 = .int .i64 (n : Int) := by rw [envOf_at]; rfl
  generalize envOf ([] ++ [.nils, LV.int .i64 (n : Int)] ++ []) = e at *
  refine Cd.out ?_
  unfold l78
  dsimp only
  repeat' (first | refine gA trivial ?_ | (refine gB trivial ?_; intro bb hbb; cases bb <;> (try simp only [hbs, if_false, reduceCtorEq] at hbb)) | apply qc_seq | fail)
  rotate_left
  · exfalso; omega
  refine q_gen (v := .int .i64 0) (s' := s) wN (by simp only [LOp.run, lk, sv1, sv2, sv3, Nat.reduceEqDiff, Nat.reduceAdd, Nat.reduceLeDiff, reduceIte, if_false, if_true, mkVal, unLV, List.map, optTmps, h0]) rfl trivial ?_
  simp only [Env.put_some]
  repeat' (first | refine gA trivial ?_ | (refine gB trivial ?_; intro bb hbb; cases bb <;> (try simp only [hbs, if_false, reduceCtorEq] at hbb)) | apply qc_seq | fail)
  · exact ⟨.inr trivial, .inl ⟨ef, rfl⟩⟩
  · have hrc : LV.closed.closedAll (rep n [.int .i64 0]) = true := by
      rw [rep_one]
      exact closedAll_of fun i hi => by
        rw [List.length_replicate] at hi
        rw [List.getD_eq_getElem?_getD, List.getElem?_replicate, if_pos hi]; rfl
    have hw : IntKind.i64.wrap ((n : Int) - IntKind.i64.wrap (0 - ((0 : Nat) : Int))) = (n : Int) := by
      have h1 : IntKind.i64.wrap (0 - ((0 : Nat) : Int)) = 0 := by decide
      rw [h1, Int.sub_zero]
      exact wrap_i64 _ (by omega) (by omega)
    rw [hw] at hbb
    simp only [hw]
    refine q_gen (v := .int .i64 0) (s' := s) wN (by simp only [LOp.run, lk, sv1, sv2, sv3, Nat.reduceEqDiff, Nat.reduceAdd, Nat.reduceLeDiff, reduceIte, if_false, if_true, mkVal, unLV, List.map, optTmps, h0]) rfl trivial ?_
    simp only [Env.put_some]
    refine q_gen (v := .nils) (s' := s) wN (by simp only [LOp.run, lk, sv1, sv2, sv3, Nat.reduceEqDiff, Nat.reduceAdd, Nat.reduceLeDiff, reduceIte, if_false, if_true, mkVal, unLV, List.map, optTmps, h0]; rfl) rfl trivial ?_
    simp only [Env.put_some]
    repeat' (first | refine gA trivial ?_ | (refine gB trivial ?_; intro bb hbb; cases bb <;> (try simp only [hbs, if_false, reduceCtorEq] at hbb)) | apply qc_seq | fail)
    refine q_gen (v := .sref s.n 0 n 1) (s' := St.new s (.cells .mut (rep n [.int .i64 0]))) wN ?_ rfl trivial ?_
    · have : (n : Int) * 8 ≤ big := by unfold big; omega
      have h2 : (n : Int) ≤ big := by unfold big; omega
      simp only [LOp.run, lk, sv1, sv2, sv3, Nat.reduceEqDiff, Nat.reduceAdd, Nat.reduceLeDiff, reduceIte, if_false, if_true, mkVal, unLV, List.map, optTmps, h0]
      rw [if_neg (by omega), if_pos ⟨by omega, this, h2⟩]
      simp [n_empty]
    simp only [Env.put_some]
    repeat' (first | refine gA trivial ?_ | (refine gB trivial ?_; intro bb hbb; cases bb <;> (try simp only [hbs, if_false, reduceCtorEq] at hbb)) | apply qc_seq | fail)
    refine q_gen (v := .sref s.n 0 0 1) (s' := St.new s (.cells .mut (rep n [.int .i64 0]))) wN ?_ rfl trivial ?_
    · simp only [LOp.run, lk, sv1, sv2, sv3, Nat.reduceEqDiff, Nat.reduceAdd, Nat.reduceLeDiff, reduceIte, if_false, if_true, mkVal, unLV, List.map, optTmps, h0, Option.map_some, Option.map_none, bndOf, Option.bind_eq_bind, Option.bind_some]
      simp
    simp only [Env.put_some]
    repeat' (first | refine gA trivial ?_ | (refine gB trivial ?_; intro bb hbb; cases bb <;> (try simp only [hbs, if_false, reduceCtorEq] at hbb)) | apply qc_seq | fail)
    exact ⟨.inr trivial, .inr ⟨_, ef, rfl, hrc⟩⟩
end Go.Proofs.YtohldpfjnllkdaaDoor
