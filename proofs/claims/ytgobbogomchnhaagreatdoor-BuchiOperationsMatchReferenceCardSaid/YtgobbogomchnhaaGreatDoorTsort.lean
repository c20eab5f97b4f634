/- slices.SortFunc at moves. -/
import Derived.Test.YtgobbogomchnhaaGreatDoorLays
import Derived.Test.YtgobbogomchnhaaGreatDoorPvCall
import Derived.Test.YtgobbogomchnhaaGreatDoorTiter
import Derived.Test.YtgobbogomchnhaaGreatDoorPvSort
set_option linter.unusedSimpArgs false
set_option linter.unusedVariables false
section
set_option linter.unusedSimpArgs false
set_option linter.unusedVariables false
set_option maxRecDepth 100000
namespace Go.Proofs.YtgobbogomchnhaaGreatDoor
open Go Go.Shelf Go.RowKit Go.Lib Go.Sort
open Go.Pv
open Classical
theorem cmp_eq (x y:Int × Bool):mcmp x y=(if Lib.compareInt x.1 y.1≠0∨x.2=y.2 then Lib.compareInt x.1 y.1 else if y.2=true then -1 else 1):=by
 unfold mcmp Lib.compareInt
 by_cases h1:x.1<y.1
 ·simp [h1]
 ·by_cases h2:y.1<x.1
  ·simp [h1,h2]
  ·simp [h1,h2]
set_option maxHeartbeats 1000000 in
theorem cmp_calls (x y:Int × Bool) (W:World):Calls Tryz.prog 34 #[.agg #[.int .i64 x.1, .bool x.2], .agg #[.int .i64 y.1, .bool y.2]] W fun e w'=>e = .returned (.int .i64 (mcmp x y))∧∃ q os',w'=grow (W.drewN q) os':=by
 have hcon:=fun W'=>AnyG.cmp_Compare_int cmpInt x.1 y.1 W'
 change ∀ W',Calls Tryz.prog 77 _ _ _ at hcon
 obtain ⟨R,hR⟩:∃ R,R=mcmp x y:=⟨_,rfl⟩
 rw [← hR]
 rw [cmp_eq] at hR
 obtain ⟨a,b⟩:=x
 obtain ⟨c,d⟩:=y
 simp only at hcon hR ⊢
 generalize Lib.compareInt a c=r at hcon hR ⊢
 cases b<;>cases d
 all_goals
  go_enter Tryz.func34,Tryz.ntmps34
  go_wp2_with (go_at_call 77;refine (hcon _).mono ?_;rintro e w' ⟨rfl,rfl⟩)
  all_goals
   go_ret
   refine ⟨by rw [hR];simp [*],0,_,by rw [alloc_eq_grow,alloc_eq_grow,grow_grow];rfl⟩
theorem lt_iff (x y:Int × Bool):ltOf mcmp x y=decide (mlt x y):=by
 unfold ltOf
 by_cases h:mlt x y
 ·rw [decide_eq_true h]
  exact decide_eq_true ((mcmp_lt x y).2 h)
 ·rw [decide_eq_false h]
  exact decide_eq_false fun h'=>h ((mcmp_lt x y).1 h')
theorem swo_m:SWO (ltOf mcmp) where
 irrefl x:=by
  rw [lt_iff]
  refine decide_eq_false fun h=>?_
  rcases h with h | ⟨_,h1,h2⟩
  ·omega
  ·rw [h1] at h2;cases h2
 trans x y z h1 h2:=by
  rw [lt_iff] at *
  have k1:=of_decide_eq_true h1
  have k2:=of_decide_eq_true h2
  refine decide_eq_true ?_
  unfold mlt at *
  rcases k1 with k1 | ⟨a,b,c⟩<;>rcases k2 with k2 | ⟨d,e,f⟩
  ·exact .inl (by omega)
  ·exact .inl (by omega)
  ·exact .inl (by omega)
  ·rw [c] at e;cases e
 ntrans x y z h1 h2:=by
  rw [lt_iff] at *
  have k1:=of_decide_eq_false h1
  have k2:=of_decide_eq_false h2
  refine decide_eq_false fun h=>?_
  unfold mlt at *
  obtain ⟨a,p⟩:=x
  obtain ⟨b,q⟩:=y
  obtain ⟨c,r⟩:=z
  simp only [not_or,not_and,Int.not_lt] at *
  cases p<;>cases q<;>cases r<;>simp at *<;>omega
theorem tsort_ok {s:St} {j:Nat} {ms:List (Int × Bool)} (hs:s.get j=some (.cells .mut (mcells ms))) (hl1:1≤ms.length) (hl2:ms.length≤1048576) :
  CallOk Tryz.prog GL (.fn (.func 75) [] []) [.sref j 0 ms.length 2, .fn (.func 34) [] []] s (fun _ s'=>∃ ms',ms'.Perm ms∧(∀ a b,a<b→b<ms'.length→¬ mlt (ms'.getD b (0,false)) (ms'.getD a (0,false)))∧s'=s.put j (.cells .mut (mcells ms'))):=by
 have eg:∀ args w,(callFunc 34 args).run Tryz.prog w = .ok (.enter 34 args) w:=enters_of Tryz.func34 (by kernel_rfl) rfl
 refine CallOk.mono (call_sort (lt:=ltOf mcmp) Tryz.func75 (by decide +kernel) (body:=(Tryz.f75.body).getD default) (by kernel_rfl) ?_ hs hl1 hl2) ?_
 ·intro blk off cap d w hH hb hz
  exact AnyQ.slices_SortFunc sortMv 2 Tryz.isAgg51 Tryz.sizeOf51 encM (fun _=>rfl) (fun x v hv=>by simp [encM] at hv;rcases hv with rfl | rfl<;>rfl) mcmp swo_m 34 #[] blk off cap d w eg (fun _ _ _ _ x y=>cmp_calls x y _) hH hb hz
 ·rintro r s' ⟨ms',h1,h2,h3⟩
  refine ⟨ms',h1,fun a b hab hb hm=>?_,h3⟩
  have:=h2 a b hab hb
  rw [lt_iff] at this
  exact of_decide_eq_false this hm
noncomputable def TG:Nat→Option LFunc:=tabOf Tryz.prog GL []
theorem tabG:Tab Tryz.prog GL TG []:=tabOf_tab (by decide +kernel) (by decide +kernel)
theorem tsort_nil:PureOk Tryz.prog GL (.fn (.func 75) [] []) [.nils, .fn (.func 34) [] []] (.tup []) :=
 pure_ev (ow:=false) tabG (n:=20000) (by decide +kernel)
end Go.Proofs.YtgobbogomchnhaaGreatDoor
end
section
set_option linter.unusedSimpArgs false
set_option linter.unusedVariables false
namespace Go.Proofs.YtgobbogomchnhaaGreatDoor
open Go Go.Pv
open Classical
theorem loadN_movesR {ms:Moves} {k j:Nat} (h:k<ms.length) {s:St} {m:Md} (hs:s.get j=some (.cells m (mcells ms))):loadLV (some 2) (.pref j (k*2)) s=some (.agg [.int .i64 (ms.getD k (0,false)).1, .bool (ms.getD k (0,false)).2]):=by
 have h1:=mcells_pair h
 have h2:k*2+2≤(mcells ms).length:=by rw [mcells_length];omega
 simp only [loadLV,hs,mkVal]
 rw [if_pos h2,h1]
theorem meq_false {a b:Int × Bool} (h:a≠b):eqLV (.struct [(0,(1, .int)),(1,(1, .bool))]) (.agg [.int .i64 a.1, .bool a.2]) (.agg [.int .i64 b.1, .bool b.2])=some false:=by
 obtain ⟨x,p⟩:=a
 obtain ⟨y,q⟩:=b
 by_cases h1:x=y
 ·subst h1
  have h2:¬ p=q:=fun h2=>h (by rw [h2])
  cases p<;>cases q<;>simp_all [eqLV,eqLV.eqFields,scEq]
 ·have h2:(x == y)=false:=by simpa using h1
  simp [eqLV,eqLV.eqFields,scEq,h2]
set_option maxHeartbeats 4000000 in
theorem tcomp_ok {s:St} {j:Nat} {ms:Moves} {m:Md} (hs:s.get j=some (.cells m (mcells ms))) (hl2:ms.length≤1048576) (hd:∀ k,0<k→k<ms.length→ms.getD k (0,false)≠ms.getD (k - 1) (0,false)) :
  CallOk Tryz.prog GL (.fn (.func 76) [] []) [.sref j 0 ms.length 2] s (fun r s'=>r = .sref j 0 ms.length 2∧s'=s):=by
 refine call_fn (first:=[]) (caps:=[]) Tryz.func76 (by decide +kernel) c76 (Nat.le_of_ble_eq_true rfl) (CodeOk.mono (Q:=fun o e s'=>(o = .normal∨o = .jmp .ret)∧e.at 2 = .sref j 0 ms.length 2∧s'=s) ?_ fun o e s' hh=>by
  obtain ⟨h1,h2,h3⟩:=hh
  exact ⟨h1, .sref j 0 ms.length 2,by simp [l76,resVal,resOne,h2],rfl,h3⟩)
 have e0:(envOf ([]++[.sref j 0 ms.length 2]++[])).at 0 = .sref j 0 ms.length 2:=by rw [envOf_at];rfl
 generalize envOf ([]++[.sref j 0 ms.length 2]++[])=e at *
 refine Cd.out ?_
 unfold l76
 dsimp only [jA,jB,jG,qM,qN,qS,qI,qA,qB,qC,qm]
 have hsl:slLen (.sref j 0 ms.length 2)=some ms.length:=rfl
 repeat' (first | refine gA @hsl ?_ | (refine gB @hsl ?_;intro bb hbb;cases bb<;>(try simp only [hbs,if_false,reduceCtorEq] at hbb)) | apply qc_seq | fail)
 rotate_left
 ·exact ⟨.inr trivial,ef,trivial⟩
 refine qc_loop (fun m e s1=>s1=s∧∃ k:Nat,m=ms.length - k∧0<k∧k≤ms.length∧e.at 0 = .sref j 0 ms.length 2∧e.at 3 = .int .i64 (k:Int)) _
  ⟨rfl,1,rfl,by omega,by omega,ef,by simp only [lk,sv1,sv2,sv3,Nat.reduceEqDiff,Nat.reduceAdd,Nat.reduceLeDiff,reduceIte,if_false,if_true,mkVal,unLV,List.map,optTmps];rfl⟩ ?_
 clear e0 hbb
 clear e
 rintro mm e s1 ⟨rfl,k,rfl,hk0,hk,e0,e3⟩
 by_cases hkl:k<ms.length
 ·have hkI:(k:Int)<(ms.length:Int):=by omega
  have hkI1:((k - 1:Nat):Int)<(ms.length:Int):=by omega
  have hw:IntKind.i64.wrap ((k:Int)+1)=((k+1:Nat):Int):=by rw [wrap_i64 _ (by omega) (by omega)];rfl
  have hw1:IntKind.i64.wrap ((k:Int) - 1)=((k - 1:Nat):Int):=by rw [wrap_i64 _ (by omega) (by omega)];omega
  have hl1:=loadN_movesR hkl hs
  have hl3:=loadN_movesR (k:=k - 1) (by omega) hs
  have hq:=meq_false (hd k hk0 hkl)
  have hi1:iaLV 2 (.sref j 0 ms.length 2) (.int .i64 (k:Int)) s1=some (.pref j (k*2),s1):=by rw [iaS hkI,Nat.zero_add]
  have hi2:iaLV 2 (.sref j 0 ms.length 2) (.int .i64 ((k - 1:Nat):Int)) s1=some (.pref j ((k - 1)*2),s1):=by rw [iaS hkI1,Nat.zero_add]
  repeat' (first | refine gA (And.intro @hsl (And.intro @hw1 (And.intro @hi1 (And.intro @hi2 (And.intro @hl1 (And.intro @hl3 @hq)))))) ?_ | (refine gB (And.intro @hsl (And.intro @hw1 (And.intro @hi1 (And.intro @hi2 (And.intro @hl1 (And.intro @hl3 @hq)))))) ?_;intro bb hbb;cases bb<;>(try simp only [hbs,if_false,reduceCtorEq] at hbb)) | apply qc_seq | fail)
  ·exfalso;omega
  refine ⟨ms.length - (k+1),by omega,trivial,k+1,rfl,by omega,by omega,?_⟩
  simp only [lk,sv1,sv2,sv3,Nat.reduceEqDiff,Nat.reduceAdd,Nat.reduceLeDiff,reduceIte,if_false,if_true,mkVal,unLV,List.map,optTmps,hw,e0,and_self]
 ·repeat' (first | refine gA @hsl ?_ | (refine gB @hsl ?_;intro bb hbb;cases bb<;>(try simp only [hbs,if_false,reduceCtorEq] at hbb)) | apply qc_seq | fail)
  ·exact ⟨.inr trivial,ef,trivial⟩
  ·exfalso;omega
theorem tcomp_nil:PureOk Tryz.prog GL (.fn (.func 76) [] []) [.nils] .nils:=
 pure_ev (ow:=false) tabG (n:=20000) (by decide +kernel)
end Go.Proofs.YtgobbogomchnhaaGreatDoor
end
