/- What all the walks of this seat begin with. -/
import Derived.Test.YtkbiecjdcjfhaaaLita
import Derived.Test.YtkbiecjdcjfhaaaPvQ
set_option linter.unusedSimpArgs false
set_option linter.unusedVariables false
namespace Go.Proofs.Ytkbiecjdcjfhaaa
open Go Go.Pv
open Classical
theorem hm:Try.prog.follows .mixedOrders=true:=by decide +kernel
abbrev PO (k:Nat) (args:List LV) (r:LV):Prop:=PureOk Try.prog GL (.fn (.func k) [] []) args r
abbrev PE (k:Nat) (args:List LV) (R:LV→Prop):Prop:=PureEx Try.prog GL (.fn (.func k) [] []) args R
theorem hG0:∀ x∈GL,LV.closed.closedAll x.2=true:=by decide +kernel
theorem bool_t {p:Prop} [Decidable p] (h:p):LV.bool true=LV.bool (decide p):=by rw [decide_eq_true h]
theorem bool_f {p:Prop} [Decidable p] (h:¬ p):LV.bool false=LV.bool (decide p):=by rw [decide_eq_false h]
def cmpOp:BinOp→Bool
  | .lss | .leq | .gtr | .geq | .eql | .neq=>true
  | _=>false
theorem q_binA {P:Program} {G:Globs} {K:Env→St→Prop} {l:List LOper} {e:Env} {s:St} {d:Nat} {g:Option (Nat × Bool)} {fl:Bool} {op:BinOp} {x y:Opd} {a b v:LV} (hc:cmpOp op=false) (hg:wantedG g e=some true) (hx:x.ev e=a) (hy:y.ev e=b) (hr:binLV op a b=some v) (k:W P G K l (Tr.set e d v) s):W P G K (⟨some d, .bin op x y,g,[],fl⟩::l) e s:=q_bin hg hx hy hr k
theorem u_lenS {P:Program} {G:Globs} {K:Env→St→Prop} {l:List LOper} {e:Env} {s:St} {d:Nat} {g:Option (Nat × Bool)} {fl:Bool} {x:Opd} {b:ByteArray} (hg:wantedG g e=some true) (hx:x.ev e = .str b) (k:W P G K l (Tr.set e d (.int .i64 (b.size:Int))) s):W P G K (⟨some d, .lenStr x,g,[],fl⟩::l) e s:=
  q_op hg (by cases fl<;>rfl) (by simp [LOp.run,hx]) k
theorem u_idxS {P:Program} {G:Globs} {K:Env→St→Prop} {l:List LOper} {e:Env} {s:St} {d:Nat} {g:Option (Nat × Bool)} {fl:Bool} {x i:Opd} {b:ByteArray} {v:LV} {j:Nat} (hg:wantedG g e=some true) (hx:x.ev e = .str b) (hi:i.ev e=v) (hz:idxOf b.size v=some j) (k:W P G K l (Tr.set e d (.int .u8 ((b.data.getD j 0).toNat:Int))) s):W P G K (⟨some d, .indexStr x i,g,[],fl⟩::l) e s:=
  q_op hg (by cases fl<;>rfl) (by simp [LOp.run,hx,hi,hz]) k
structure Bx (q:Prop):Prop where
  out:q
theorem gA {X p q:Prop} (x:X) (k:q) (h:X→Bx q→p:=by
    intro hx k
    (first
      | apply qc_block
      | (first | apply qc_seqR | apply qc_seqX | apply qc_seqB | apply qc_seqS | apply qc_seqRB | apply qc_seqRX | apply qc_seqRY | apply qc_seqRT | apply qc_seqRE)
      | apply qc_region hm | apply qc_scope
      | ((first | apply qc_skip | apply qc_exit | apply qc_ret | apply q_nil);try simp only [Thn,Blkd,reduceIte,Nat.reduceEqDiff,Nat.succ_ne_self])
      | (apply qc_condT;(focus (simp only [lk,Nat.reduceEqDiff,reduceIte,Bool.not_true,Bool.not_false];(all_goals first | (apply at_I;assumption) | rfl)))) | (apply qc_condF;(focus (simp only [lk,Nat.reduceEqDiff,reduceIte,Bool.not_true,Bool.not_false];(all_goals first | (apply at_I;assumption) | rfl))))
      | ((first | apply u_skip | apply u_skipN);(focus (simp only [lk,Nat.reduceEqDiff,reduceIte,Bool.not_true,Bool.not_false];(all_goals first | (apply at_I;assumption) | rfl)));(focus rfl)) | ((first | apply u_skipT | apply u_skipTN);(focus (simp only [lk,Nat.reduceEqDiff,reduceIte,Bool.not_true,Bool.not_false];(all_goals first | (apply at_I;assumption) | rfl))))
      | ((first | apply q_mv | apply u_alloc | apply u_bslice0 | apply u_faddr | apply u_load | apply u_len | apply u_ext | apply u_un | apply u_pick | apply u_field | apply u_conv | apply u_nilchk | apply u_box | apply u_boxR | apply u_mkfn | apply u_mk1 | apply u_store | apply q_iaddr | apply u_mm | apply u_lenS | apply u_idxS | apply q_binA)<;>(first
        | exact wN | (apply wG;(simp only [lk,Nat.reduceEqDiff,reduceIte,Bool.not_true,Bool.not_false];(all_goals first | (apply at_I;assumption) | rfl))) | (show W _ _ _ _ _ _)
        | ((first | apply ev_I | apply map_I | apply at_I);(simp only [lk,Nat.reduceEqDiff,reduceIte,Bool.not_true,Bool.not_false];(all_goals first | (apply at_I;assumption) | rfl))) | (apply n_I;(first | (simp only [u1,eq_self,Nat.reduceAdd,Nat.reduceEqDiff,reduceIte,hx, *];(try rfl);done) | rfl))
        | (apply cells_I;(first | rfl | (simp only [u3,u4,if_true,eq_self,reduceIte, *];(try rfl);done))) | (apply closed_I;(first | assumption | (simp only [u5,eq_self, *];done)))
        | (apply fa_I;simp only [faddrLV,Nat.zero_add,Nat.reduceAdd];rfl)
        | (apply pick_I;simp only [pickB];(try rfl);done) | (apply wrap_I;(first | assumption | (simp only [u1,eq_self,Nat.reduceAdd,Nat.reduceEqDiff,reduceIte,hx, *];(try rfl);done) | rfl)) | exact mm_max | exact mm_min
        | (apply load_imm;(first | rfl | (simp only [u1,eq_self,Nat.reduceAdd,Nat.reduceEqDiff,reduceIte,hx, *];(try rfl);done))) | (apply loadN_imm rfl;simp only [u2,hx];(try rfl);done)
        | (apply load_ref;(focus (simp only [u1,eq_self,Nat.reduceAdd,Nat.reduceEqDiff,reduceIte,hx, *];(try rfl);done));(focus (first | rfl | (simp only [u1,eq_self,Nat.reduceAdd,Nat.reduceEqDiff,reduceIte,hx, *];(try rfl);done)))) | (apply loadN_ref;(focus (simp only [u1,eq_self,Nat.reduceAdd,Nat.reduceEqDiff,reduceIte,hx, *];(try rfl);done));(focus rfl);(focus (simp only [u2,hx];(try rfl);done)))
        | (apply store_ref;(focus (first | rfl | (simp only [u3,u4,if_true,eq_self,reduceIte, *];(try rfl);done)));(focus (simp only [u1,eq_self,Nat.reduceAdd,Nat.reduceEqDiff,reduceIte,hx, *];(try rfl);done));(focus rfl);(focus rfl);(focus (simp only [splice,List.set_cons_zero,List.set_cons_succ];(try rfl);done)))
        | assumption | rfl | (simp only [u1,eq_self,Nat.reduceAdd,Nat.reduceEqDiff,reduceIte,hx, *];(try rfl);done)))
      | fail)
    repeat (first
      | apply qc_block
      | (first | apply qc_seqR | apply qc_seqX | apply qc_seqB | apply qc_seqS | apply qc_seqRB | apply qc_seqRX | apply qc_seqRY | apply qc_seqRT | apply qc_seqRE)
      | apply qc_region hm | apply qc_scope
      | ((first | apply qc_skip | apply qc_exit | apply qc_ret | apply q_nil);try simp only [Thn,Blkd,reduceIte,Nat.reduceEqDiff,Nat.succ_ne_self])
      | (apply qc_condT;(focus (simp only [lk,Nat.reduceEqDiff,reduceIte,Bool.not_true,Bool.not_false];(all_goals first | (apply at_I;assumption) | rfl)))) | (apply qc_condF;(focus (simp only [lk,Nat.reduceEqDiff,reduceIte,Bool.not_true,Bool.not_false];(all_goals first | (apply at_I;assumption) | rfl))))
      | ((first | apply u_skip | apply u_skipN);(focus (simp only [lk,Nat.reduceEqDiff,reduceIte,Bool.not_true,Bool.not_false];(all_goals first | (apply at_I;assumption) | rfl)));(focus rfl)) | ((first | apply u_skipT | apply u_skipTN);(focus (simp only [lk,Nat.reduceEqDiff,reduceIte,Bool.not_true,Bool.not_false];(all_goals first | (apply at_I;assumption) | rfl))))
      | ((first | apply q_mv | apply u_alloc | apply u_bslice0 | apply u_faddr | apply u_load | apply u_len | apply u_ext | apply u_un | apply u_pick | apply u_field | apply u_conv | apply u_nilchk | apply u_box | apply u_boxR | apply u_mkfn | apply u_mk1 | apply u_store | apply q_iaddr | apply u_mm | apply u_lenS | apply u_idxS | apply q_binA)<;>(first
        | exact wN | (apply wG;(simp only [lk,Nat.reduceEqDiff,reduceIte,Bool.not_true,Bool.not_false];(all_goals first | (apply at_I;assumption) | rfl))) | (show W _ _ _ _ _ _)
        | ((first | apply ev_I | apply map_I | apply at_I);(simp only [lk,Nat.reduceEqDiff,reduceIte,Bool.not_true,Bool.not_false];(all_goals first | (apply at_I;assumption) | rfl))) | (apply n_I;(first | (simp only [u1,eq_self,Nat.reduceAdd,Nat.reduceEqDiff,reduceIte,hx, *];(try rfl);done) | rfl))
        | (apply cells_I;(first | rfl | (simp only [u3,u4,if_true,eq_self,reduceIte, *];(try rfl);done))) | (apply closed_I;(first | assumption | (simp only [u5,eq_self, *];done)))
        | (apply fa_I;simp only [faddrLV,Nat.zero_add,Nat.reduceAdd];rfl)
        | (apply pick_I;simp only [pickB];(try rfl);done) | (apply wrap_I;(first | assumption | (simp only [u1,eq_self,Nat.reduceAdd,Nat.reduceEqDiff,reduceIte,hx, *];(try rfl);done) | rfl)) | exact mm_max | exact mm_min
        | (apply load_imm;(first | rfl | (simp only [u1,eq_self,Nat.reduceAdd,Nat.reduceEqDiff,reduceIte,hx, *];(try rfl);done))) | (apply loadN_imm rfl;simp only [u2,hx];(try rfl);done)
        | (apply load_ref;(focus (simp only [u1,eq_self,Nat.reduceAdd,Nat.reduceEqDiff,reduceIte,hx, *];(try rfl);done));(focus (first | rfl | (simp only [u1,eq_self,Nat.reduceAdd,Nat.reduceEqDiff,reduceIte,hx, *];(try rfl);done)))) | (apply loadN_ref;(focus (simp only [u1,eq_self,Nat.reduceAdd,Nat.reduceEqDiff,reduceIte,hx, *];(try rfl);done));(focus rfl);(focus (simp only [u2,hx];(try rfl);done)))
        | (apply store_ref;(focus (first | rfl | (simp only [u3,u4,if_true,eq_self,reduceIte, *];(try rfl);done)));(focus (simp only [u1,eq_self,Nat.reduceAdd,Nat.reduceEqDiff,reduceIte,hx, *];(try rfl);done));(focus rfl);(focus rfl);(focus (simp only [splice,List.set_cons_zero,List.set_cons_succ];(try rfl);done)))
        | assumption | rfl | (simp only [u1,eq_self,Nat.reduceAdd,Nat.reduceEqDiff,reduceIte,hx, *];(try rfl);done))))
    exact k.out):p:=h x ⟨k⟩
theorem gB {X p:Prop} {b0:Bool} {F:Bool→Prop} (x:X) (k:∀ b,b0=b→F b) (h:X→(∀ b,b0=b→F b)→p:=by
    intro hx k
    (first | ((first | apply u_lss | apply u_leq | apply u_gtr | apply u_geq | apply u_eql | apply u_neq | apply q_eq)<;>(first
      | exact wN | (apply wG;(simp only [lk,Nat.reduceEqDiff,reduceIte,Bool.not_true,Bool.not_false];(all_goals first | (apply at_I;assumption) | rfl))) | exact k | (apply ev_I;(simp only [lk,Nat.reduceEqDiff,reduceIte,Bool.not_true,Bool.not_false];(all_goals first | (apply at_I;assumption) | rfl))) | assumption | rfl | (simp only [u1,eq_self,Nat.reduceAdd,Nat.reduceEqDiff,reduceIte,hx, *];(try rfl);done))) | fail)):p:=h x k
theorem ef {p:Prop} (h:p:=by
    simp only [lk,sv1,sv2,sv3,Nat.reduceEqDiff,Nat.reduceAdd,Nat.reduceLeDiff,reduceIte,if_false,if_true,mkVal,unLV,List.map,optTmps]
    all_goals first
      | assumption
      | rfl
      | (simp only [*];(try rfl);done)):p:=h
theorem hbs:(∀ (p:Prop) [Decidable p],(decide p=true)=p)∧(∀ (p:Prop) [Decidable p],(decide p=false)=¬ p)∧(∀ a b:Int,((a != b)=true)=(a≠b))∧(∀ a b:Int,((a == b)=true)=(a=b))∧(∀ a b:Int,((a != b)=false)=(a=b))∧(∀ a b:Int,((a == b)=false)=(a≠b))∧(∀ a b:Int,(¬ a<b)=(b≤a))∧(∀ a b:Int,(¬ a≤b)=(b<a))∧(∀ a b:Int,(a > b)=(b<a))∧(∀ a b:Int,(a ≥ b)=(b≤a))∧(∀ b:Bool,(¬ b=true)=(b=false))∧((false=true)=False) :=
  ⟨fun p _=>propext decide_eq_true_iff,fun p _=>propext decide_eq_false_iff_not,fun a b=>propext bne_iff_ne,fun a b=>propext beq_iff_eq,fun a b=>propext (by simp),fun a b=>propext (by simp),fun a b=>propext Int.not_lt,fun a b=>propext Int.not_le,fun a b=>rfl,fun a b=>rfl,fun b=>propext (by simp),propext (by simp)⟩
end Go.Proofs.Ytkbiecjdcjfhaaa
