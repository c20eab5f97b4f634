/- Steps that stop ahead of a branch that returns. -/
import Derived.Test.YtkbiecjdcjfhaaaBase
set_option linter.unusedSimpArgs false
set_option linter.unusedVariables false
namespace Go.Proofs.Ytkbiecjdcjfhaaa
open Go Go.Pv
open Classical
theorem gN {X p q:Prop} (x:X) (k:q) (h:X→Bx q→p:=by
    intro hx k
    (first
      | apply qc_block
      | (first | apply qc_seqR | apply qc_seqX | apply qc_seqB | apply qc_seqS | apply qc_seqRB | apply qc_seqRX | apply qc_seqRY)
      | apply qc_region hm | apply qc_scope
      | ((first | apply qc_skip | apply qc_exit | apply qc_ret | apply q_nil);try simp only [Thn,Blkd,reduceIte,Nat.reduceEqDiff,Nat.succ_ne_self])
      | (apply qc_condT;(focus (simp only [lk,Nat.reduceEqDiff,reduceIte,Bool.not_true,Bool.not_false];(all_goals first | (apply at_I;assumption) | rfl)))) | (apply qc_condF;(focus (simp only [lk,Nat.reduceEqDiff,reduceIte,Bool.not_true,Bool.not_false];(all_goals first | (apply at_I;assumption) | rfl))))
      | ((first | apply u_skip | apply u_skipN);(focus (simp only [lk,Nat.reduceEqDiff,reduceIte,Bool.not_true,Bool.not_false];(all_goals first | (apply at_I;assumption) | rfl)));(focus rfl)) | ((first | apply u_skipT | apply u_skipTN);(focus (simp only [lk,Nat.reduceEqDiff,reduceIte,Bool.not_true,Bool.not_false];(all_goals first | (apply at_I;assumption) | rfl))))
      | ((first | apply q_mv | apply u_alloc | apply u_bslice0 | apply u_faddr | apply u_load | apply u_len | apply u_ext | apply u_un | apply u_pick | apply u_field | apply u_conv | apply u_nilchk | apply u_box | apply u_boxR | apply u_mkfn | apply u_mk1 | apply u_store | apply q_iaddr | apply u_mm | apply u_lenS | apply u_idxS | apply q_binA)<;>(first
        | exact wN | (apply wG;(simp only [lk,Nat.reduceEqDiff,reduceIte,Bool.not_true,Bool.not_false];(all_goals first | (apply at_I;assumption) | rfl))) | (show W _ _ _ _ _ _)
        | ((first | apply ev_I | apply map_I | apply at_I);(simp only [lk,Nat.reduceEqDiff,reduceIte,Bool.not_true,Bool.not_false];(all_goals first | (apply at_I;assumption) | rfl))) | (apply n_I;(first | (simp only [u1,eq_self,Nat.reduceAdd,Nat.reduceEqDiff,reduceIte,hx, *];(try rfl);done) | rfl))
        | (apply cells_I;(first | rfl | (simp only [u3,u4,if_true,eq_self,reduceIte, *];(try rfl);done))) | (apply closed_I;(first | assumption | (simp only [u5,eq_self, *];done)))
        | (apply fa_I;simp only [faddrLV,Nat.zero_add,Nat.reduceAdd];rfl)
        | (apply pick_I;simp only [pickB];(try rfl);done) | (apply wrap_I;(first | assumption | (simp only [u1,eq_self,Nat.reduceAdd,Nat.reduceEqDiff,reduceIte,hx, *];(try rfl);done) | rfl)) | exact mm_max | exact mm_min
        | (apply load_imm;(first | rfl | (simp only [u1,eq_self,Nat.reduceAdd,Nat.reduceEqDiff,reduceIte,hx, *];(try rfl);done))) | (apply loadN_imm rfl;simp only [u2,hx];(try rfl);done)
        | (apply load_ref;(focus (simp only [u1,eq_self,Nat.reduceAdd,Nat.reduceEqDiff,reduceIte,hx, *];(try rfl);done));(focus (first | rfl | (simp only [u1,eq_self,Nat.reduceAdd,Nat.reduceEqDiff,reduceIte,hx, *];(try rfl);done)))) | (apply loadN_ref;(focus (simp only [u1,eq_self,Nat.reduceAdd,Nat.reduceEqDiff,reduceIte,hx, *];(try rfl);done));(focus rfl);(focus (simp only [u2,hx];(try rfl);done)))
        | (apply store_ref;(focus (first | rfl | (simp only [u3,u4,if_true,eq_self,reduceIte, *];(try rfl);done)));(focus (simp only [u1,eq_self,Nat.reduceAdd,Nat.reduceEqDiff,reduceIte,hx, *];(try rfl);done));(focus rfl);(focus rfl);(focus (simp only [splice,List.set_cons_zero,List.set_cons_succ];(try rfl);done)))
        | assumption | rfl | (simp only [u1,eq_self,Nat.reduceAdd,Nat.reduceEqDiff,reduceIte,hx, *];(try rfl);done)))
      | fail)
    repeat (first
      | apply qc_block
      | (first | apply qc_seqR | apply qc_seqX | apply qc_seqB | apply qc_seqS | apply qc_seqRB | apply qc_seqRX | apply qc_seqRY)
      | apply qc_region hm | apply qc_scope
      | ((first | apply qc_skip | apply qc_exit | apply qc_ret | apply q_nil);try simp only [Thn,Blkd,reduceIte,Nat.reduceEqDiff,Nat.succ_ne_self])
      | (apply qc_condT;(focus (simp only [lk,Nat.reduceEqDiff,reduceIte,Bool.not_true,Bool.not_false];(all_goals first | (apply at_I;assumption) | rfl)))) | (apply qc_condF;(focus (simp only [lk,Nat.reduceEqDiff,reduceIte,Bool.not_true,Bool.not_false];(all_goals first | (apply at_I;assumption) | rfl))))
      | ((first | apply u_skip | apply u_skipN);(focus (simp only [lk,Nat.reduceEqDiff,reduceIte,Bool.not_true,Bool.not_false];(all_goals first | (apply at_I;assumption) | rfl)));(focus rfl)) | ((first | apply u_skipT | apply u_skipTN);(focus (simp only [lk,Nat.reduceEqDiff,reduceIte,Bool.not_true,Bool.not_false];(all_goals first | (apply at_I;assumption) | rfl))))
      | ((first | apply q_mv | apply u_alloc | apply u_bslice0 | apply u_faddr | apply u_load | apply u_len | apply u_ext | apply u_un | apply u_pick | apply u_field | apply u_conv | apply u_nilchk | apply u_box | apply u_boxR | apply u_mkfn | apply u_mk1 | apply u_store | apply q_iaddr | apply u_mm | apply u_lenS | apply u_idxS | apply q_binA)<;>(first
        | exact wN | (apply wG;(simp only [lk,Nat.reduceEqDiff,reduceIte,Bool.not_true,Bool.not_false];(all_goals first | (apply at_I;assumption) | rfl))) | (show W _ _ _ _ _ _)
        | ((first | apply ev_I | apply map_I | apply at_I);(simp only [lk,Nat.reduceEqDiff,reduceIte,Bool.not_true,Bool.not_false];(all_goals first | (apply at_I;assumption) | rfl))) | (apply n_I;(first | (simp only [u1,eq_self,Nat.reduceAdd,Nat.reduceEqDiff,reduceIte,hx, *];(try rfl);done) | rfl))
        | (apply cells_I;(first | rfl | (simp only [u3,u4,if_true,eq_self,reduceIte, *];(try rfl);done))) | (apply closed_I;(first | assumption | (simp only [u5,eq_self, *];done)))
        | (apply fa_I;simp only [faddrLV,Nat.zero_add,Nat.reduceAdd];rfl)
        | (apply pick_I;simp only [pickB];(try rfl);done) | (apply wrap_I;(first | assumption | (simp only [u1,eq_self,Nat.reduceAdd,Nat.reduceEqDiff,reduceIte,hx, *];(try rfl);done) | rfl)) | exact mm_max | exact mm_min
        | (apply load_imm;(first | rfl | (simp only [u1,eq_self,Nat.reduceAdd,Nat.reduceEqDiff,reduceIte,hx, *];(try rfl);done))) | (apply loadN_imm rfl;simp only [u2,hx];(try rfl);done)
        | (apply load_ref;(focus (simp only [u1,eq_self,Nat.reduceAdd,Nat.reduceEqDiff,reduceIte,hx, *];(try rfl);done));(focus (first | rfl | (simp only [u1,eq_self,Nat.reduceAdd,Nat.reduceEqDiff,reduceIte,hx, *];(try rfl);done)))) | (apply loadN_ref;(focus (simp only [u1,eq_self,Nat.reduceAdd,Nat.reduceEqDiff,reduceIte,hx, *];(try rfl);done));(focus rfl);(focus (simp only [u2,hx];(try rfl);done)))
        | (apply store_ref;(focus (first | rfl | (simp only [u3,u4,if_true,eq_self,reduceIte, *];(try rfl);done)));(focus (simp only [u1,eq_self,Nat.reduceAdd,Nat.reduceEqDiff,reduceIte,hx, *];(try rfl);done));(focus rfl);(focus rfl);(focus (simp only [splice,List.set_cons_zero,List.set_cons_succ];(try rfl);done)))
        | assumption | rfl | (simp only [u1,eq_self,Nat.reduceAdd,Nat.reduceEqDiff,reduceIte,hx, *];(try rfl);done))))
    exact k.out):p:=h x ⟨k⟩
theorem u_build {P:Program} {G:Globs} {K:Env→St→Prop} {l:List LOper} {e:Env} {s:St} {fl:Bool} {d:Nat} {g:Option (Nat × Bool)} {z vs:List LV} {ps:List (Nat × Nat × Opd)} (hg:wantedG g e=some true) (hf:fillParts z (evParts e ps)=some vs) (k:W P G K l (Tr.set e d (.agg vs)) s):W P G K (⟨some d, .build z ps,g,[],fl⟩::l) e s:=
  q_op hg (by cases fl<;>rfl) (by simp [LOp.run,hf]) k
end Go.Proofs.Ytkbiecjdcjfhaaa
