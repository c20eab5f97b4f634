/- tree.name. -/
import Derived.Test.YtkbiecjdcjfhaaaTcol
set_option linter.unusedSimpArgs false
set_option linter.unusedVariables false
namespace Go.Proofs.Ytkbiecjdcjfhaaa
open Go Go.Pv Go.Tre
open Classical
theorem name1_ok {r:GR} (hc:isCell r.2.1=true) (s:St):CallOk Try.prog GL (.fn (.func 77) [] []) [.agg (grow r)] s (fun x s'=>x = .bool r.1.old∧s.n≤s'.n∧∀ id,id<s.n→s'.get id=s.get id):=by
  refine call_fn (first:=[]) (caps:=[]) Try.func77 (by decide +kernel) c77 (Nat.le_of_ble_eq_true rfl) (CodeOk.mono (Q:=fun o e s'=>(o = .normal∨o = .jmp .ret)∧e.at 2 = .bool r.1.old∧s.n≤s'.n∧∀ id,id<s.n→s'.get id=s.get id) ?_ fun o e s' hh=>by
    obtain ⟨h1,h2,h3⟩:=hh
    exact ⟨h1,_,by simp [l77,resVal,resOne,h2],rfl,h3⟩)
  have e0:(envOf ([]++[.agg (grow r)]++[])).at 0 = .agg (grow r):=by rw [envOf_at];rfl
  generalize envOf ([]++[.agg (grow r)]++[])=e at *
  have hcg:=cells_grow r hc
  refine Cd.out ?_
  unfold l77
  dsimp only [jA,qF,qK,qm,ql]
  refine qc_seqR ?_
  refine qc_region hm ?_
  refine q_run0 (v:=.pref s.n 0) (s':=s.new (.cells .mut (grow r))) (by simp only [LOp.run,lk,sv1,sv2,sv3,Nat.reduceEqDiff,Nat.reduceAdd,Nat.reduceLeDiff,reduceIte,if_false,if_true,mkVal,unLV,List.map,optTmps,e0,hcg];try rfl) ?_
  have hg:(s.new (.cells .mut (grow r))).get s.n=some (.cells .mut (grow r)):=by rw [St.get_new,if_pos rfl]
  have hl4:loadLV none (.pref s.n 4) (s.new (.cells .mut (grow r)))=some (.bool r.1.old):=load_ref hg rfl
  have ho:∀ id,id<s.n→(s.new (.cells .mut (grow r))).get id=s.get id:=fun id hid=>by rw [St.get_new,if_neg (by omega)]
  have hn:s.n≤(s.new (.cells .mut (grow r))).n:=by simp
  generalize s.new (.cells .mut (grow r))=s1 at *
  repeat' (first | refine gN @hl4 ?_ | (refine gB @hl4 ?_;intro bb hbb;cases bb<;>(try simp only [hbs,if_false,reduceCtorEq] at hbb)<;>(try first | (exfalso;omega) | exact hbb.elim)) | fail)
  exact ⟨.inr trivial,ef,hn,ho⟩
set_option maxHeartbeats 8000000 in
theorem chosenN_ok {v:LV} {R:List GR} {lo:Nat} {s:St} (hG0:GS s lo v R) (hlen:R.length≤6000) :
    CallOk Try.prog GL (.fn (.func 76) [] []) [v, .fn (.func 77) [] []] s (fun r s'=>Sg s' r 7 (wcl grow (R.filter (·.1.old))) (R.filter (·.1.old)).length∧(∀ id,uses r id→s.n≤id)∧s.n≤s'.n∧∀ id,id<s.n→s'.get id=s.get id):=by
  have hvl:=hG0.sg.len
  refine call_fn (first:=[]) (caps:=[]) Try.func76 (by decide +kernel) c76 (Nat.le_of_ble_eq_true rfl) (CodeOk.mono (Q:=fun o e s'=>(o = .normal∨o = .jmp .ret)∧∃ r,e.at 4=r∧Sg s' r 7 (wcl grow (R.filter (·.1.old))) (R.filter (·.1.old)).length∧(∀ id,uses r id→s.n≤id)∧s.n≤s'.n∧∀ id,id<s.n→s'.get id=s.get id) ?_ fun o e s' hh=>by
    obtain ⟨h1,lv,h2,h3⟩:=hh
    exact ⟨h1,_,by simp [l76,resVal,resOne,h2],h3⟩)
  have e0:(envOf ([]++[v, .fn (.func 77) [] []]++[])).at 0=v:=by rw [envOf_at];rfl
  have e1:(envOf ([]++[v, .fn (.func 77) [] []]++[])).at 1 = .fn (.func 77) [] []:=by rw [envOf_at];rfl
  generalize envOf ([]++[v, .fn (.func 77) [] []]++[])=e at *
  refine Cd.out ?_
  unfold l76
  dsimp only [jA,jG,qN,qS,qI,qA,qB,qC,qm]
  repeat' (first | refine gN @hvl ?_ | (refine gB @hvl ?_;intro bb hbb;cases bb<;>(try simp only [hbs,if_false,reduceCtorEq] at hbb)<;>(try first | (exfalso;omega) | exact hbb.elim)) | fail)
  refine qc_loop (fun m e s1=>∃ (k:Nat) (lv:LV),m=R.length - k∧k≤R.length∧(Sg s1 lv 7 (wcl grow ((R.take k).filter (·.1.old))) ((R.take k).filter (·.1.old)).length∧(∀ id,uses lv id→s.n≤id)∧s.n≤s1.n∧∀ id,id<s.n→s1.get id=s.get id)∧e.at 1 = .fn (.func 77) [] []∧e.at 5=lv∧e.at 8=v∧e.at 9 = .int .i64 (R.length:Int)∧e.at 10 = .int .i64 (k:Int)) _
    ⟨0, .nils,rfl,by omega,⟨Sg.nil _ _,fun id h=>absurd h (uses_nils id),Nat.le_refl _,fun _ _=>rfl⟩,ef,ef,ef,ef,by simp only [lk,sv1,sv2,sv3,Nat.reduceEqDiff,Nat.reduceAdd,Nat.reduceLeDiff,reduceIte,if_false,if_true,mkVal,unLV,List.map,optTmps];rfl⟩ ?_
  clear e0 e1
  clear e
  rintro m e s1 ⟨k,lv,rfl,hk,⟨hS,hU,hn,ho⟩,e1,e5,e8,e9,e10⟩
  by_cases hkl:k<R.length
  · have hkI:(k:Int)<(R.length:Int):=by omega
    have hwk:IntKind.i64.wrap ((k:Int)+1)=((k+1:Nat):Int):=by rw [wrap_i64 _ (by omega) (by omega)];rfl
    obtain ⟨J,rest,hvJ,hJ,hgJ⟩:=hG0.sg.pos (by omega)
    subst hvJ
    have hri:R[k]? = some (R.getD k default):=by rw [List.getD_eq_getElem?_getD,List.getElem?_eq_getElem hkl];rfl
    have htk:=take_one R default (k:=k) hkl
    have hrm:R.getD k default∈R:=getD_mem hkl
    have hfl:=List.length_filter_le (fun r:GR=>r.1.old) (R.take k)
    rw [List.length_take] at hfl
    generalize R.getD k default=r at *
    have hsvc:=(hG0.sets _ hrm).sl.cell
    obtain ⟨g,sv,M⟩:=r
    simp only at hsvc
    have hld:loadLV (some 7) (.pref J (k*7)) s1=some (.agg [.int .i64 g.name, .int .i64 g.par,sv, .mref M, .bool g.old, .bool g.good, .bool g.gone]):=loadN_rw grow_len hri ((ho J hJ).trans hgJ)
    have htB:=Bx.mk htk
    have hSB:=Bx.mk (And.intro hS (And.intro hU (And.intro hn ho)))
    clear htk hS hU hn ho
    repeat' (first | refine gN (And.intro @iaS @hld) ?_ | (refine gB (And.intro @iaS @hld) ?_;intro bb hbb;cases bb<;>(try simp only [hbs,if_false,reduceCtorEq] at hbb)<;>(try first | (exfalso;omega) | exact hbb.elim)) | fail)
    obtain ⟨hS,hU,hn,ho⟩:=hSB.out
    have hlt:=fun id=>hS.lt (id:=id)
    have hS1:=hS.mono (s':=(s1.new (.cells .mut [.int .i64 0, .int .i64 0, .nils, .nilm, .bool false, .bool false, .bool false])).put s1.n (.cells .mut [.int .i64 g.name, .int .i64 g.par,sv, .mref M, .bool g.old, .bool g.good, .bool g.gone])) (by simp) fun id hid=>by
      have:=hlt id hid
      rw [St.get_put,if_neg (by omega),St.get_new,if_neg (by omega)]
    have ho1:∀ id,id<s.n→((s1.new (.cells .mut [.int .i64 0, .int .i64 0, .nils, .nilm, .bool false, .bool false, .bool false])).put s1.n (.cells .mut [.int .i64 g.name, .int .i64 g.par,sv, .mref M, .bool g.old, .bool g.good, .bool g.gone])).get id=s.get id:=fun id hid=>by rw [St.get_put,if_neg (by omega),St.get_new,if_neg (by omega)];exact ho id hid
    have hb1:((s1.new (.cells .mut [.int .i64 0, .int .i64 0, .nils, .nilm, .bool false, .bool false, .bool false])).put s1.n (.cells .mut [.int .i64 g.name, .int .i64 g.par,sv, .mref M, .bool g.old, .bool g.good, .bool g.gone])).get s1.n=some (.cells .mut [.int .i64 g.name, .int .i64 g.par,sv, .mref M, .bool g.old, .bool g.good, .bool g.gone]):=by rw [St.get_put,if_pos rfl]
    have hn1:((s1.new (.cells .mut [.int .i64 0, .int .i64 0, .nils, .nilm, .bool false, .bool false, .bool false])).put s1.n (.cells .mut [.int .i64 g.name, .int .i64 g.par,sv, .mref M, .bool g.old, .bool g.good, .bool g.gone])).n=s1.n+1:=rfl
    generalize (s1.new (.cells .mut [.int .i64 0, .int .i64 0, .nils, .nilm, .bool false, .bool false, .bool false])).put s1.n (.cells .mut [.int .i64 g.name, .int .i64 g.par,sv, .mref M, .bool g.old, .bool g.good, .bool g.gone])=s2 at *
    clear hS ho
    repeat' (first | refine gN @hb1 ?_ | (refine gB @hb1 ?_;intro bb hbb;cases bb<;>(try simp only [hbs,if_false,reduceCtorEq] at hbb)<;>(try first | (exfalso;omega) | exact hbb.elim)) | fail)
    refine q_call wN (fv:=.fn (.func 77) [] []) (vs:=[.agg (grow (g,sv,M))]) ef (by simp only [List.map,lk,sv1,sv2,sv3,Nat.reduceEqDiff,Nat.reduceAdd,Nat.reduceLeDiff,reduceIte,if_false,if_true,mkVal,unLV,List.map,optTmps];try rfl) (CallOk.mono (name1_ok (r:=(g,sv,M)) hsvc _) fun x s3 hh=>⟨trivial,?_⟩)
    obtain ⟨rfl,hn3,ho3⟩:=hh
    simp only [Env.put_some]
    have hS3:=hS1.mono hn3 fun id hid=>ho3 id (hS1.lt hid)
    have hb3:=(ho3 s1.n (by omega)).trans hb1
    have hlt3:=fun id=>hS1.lt (id:=id)
    cases hold:g.old with
    | true=>
      have hxB:Bx ((R.take (k+1)).filter (·.1.old)=(R.take k).filter (·.1.old)++[(g,sv,M)]):=⟨by rw [htB.out,List.filter_append];simp [hold]⟩
      rw [hold] at hb3
      generalize (R.take k).filter (·.1.old)=LL at *
      clear hS1 hb1 hld
      repeat' (first | refine gN @hb3 ?_ | (refine gB @hb3 ?_;intro bb hbb;cases bb<;>(try simp only [hbs,if_false,reduceCtorEq] at hbb)<;>(try first | (exfalso;omega) | exact hbb.elim)) | fail)
      refine q_appG (n:=LL.length) (esz:=7) (xv:=.agg (grow (g,sv,M))) (yv:=lv) (vs:=grow (g,sv,M)) (cells:=wcl grow LL) (by simp only [lk,sv1,sv2,sv3,Nat.reduceEqDiff,Nat.reduceAdd,Nat.reduceLeDiff,reduceIte,if_false,if_true,mkVal,unLV,List.map,optTmps];simp [grow,hold]) (cells_grow _ hsvc) rfl rfl (Stays.mref (M:=M) (by simp [grow])) ef hS3 (by decide) (by omega) (fun s4 j a1 a2 a3 a4 a5 a6=>?_)
      have hfB:Bx (Sg s4 (.sref j 0 ((R.take (k+1)).filter (·.1.old)).length 7) 7 (wcl grow ((R.take (k+1)).filter (·.1.old))) ((R.take (k+1)).filter (·.1.old)).length∧(∀ id,uses (.sref j 0 ((R.take (k+1)).filter (·.1.old)).length 7) id→s.n≤id)∧s.n≤s4.n∧∀ id,id<s.n→s4.get id=s.get id):=⟨by
        rw [hxB.out,List.length_append,List.length_singleton,wcl_append,wcl_one]
        refine ⟨a4,fun id hu=>by have:=uses_sref.1 hu;omega,by omega,fun id hid=>?_⟩
        rw [a6 id (by omega) (fun hu=>by have:=hU id hu;omega),ho3 id (by omega)]
        exact ho1 id hid⟩
      have hll:((R.take (k+1)).filter (·.1.old)).length=LL.length+1:=by rw [hxB.out,List.length_append,List.length_singleton]
      clear a3 a4 a6 hS3 hb3
      repeat' (first | refine gN @hwk ?_ | (refine gB @hwk ?_;intro bb hbb;cases bb<;>(try simp only [hbs,if_false,reduceCtorEq] at hbb)<;>(try first | (exfalso;omega) | exact hbb.elim)) | fail)
      rw [← hll]
      refine ⟨R.length - (k+1),by omega,k+1,_,rfl,by omega,hfB.out,?_⟩
      simp only [lk,sv1,sv2,sv3,Nat.reduceEqDiff,Nat.reduceAdd,Nat.reduceLeDiff,reduceIte,if_false,if_true,mkVal,unLV,List.map,optTmps,hwk,e1,e8,e9,and_self]
    | false=>
      have hxB:Bx ((R.take (k+1)).filter (·.1.old)=(R.take k).filter (·.1.old)):=⟨by rw [htB.out,List.filter_append];simp [hold]⟩
      have hfB:Bx (Sg s3 lv 7 (wcl grow ((R.take (k+1)).filter (·.1.old))) ((R.take (k+1)).filter (·.1.old)).length∧(∀ id,uses lv id→s.n≤id)∧s.n≤s3.n∧∀ id,id<s.n→s3.get id=s.get id):=⟨by
        rw [hxB.out]
        exact ⟨hS3,hU,by omega,fun id hid=>(ho3 id (by omega)).trans (ho1 id hid)⟩⟩
      clear hS1 hb1 hld hS3 hb3
      repeat' (first | refine gN @hwk ?_ | (refine gB @hwk ?_;intro bb hbb;cases bb<;>(try simp only [hbs,if_false,reduceCtorEq] at hbb)<;>(try first | (exfalso;omega) | exact hbb.elim)) | fail)
      refine ⟨R.length - (k+1),by omega,k+1,lv,rfl,by omega,hfB.out,?_⟩
      simp only [lk,sv1,sv2,sv3,Nat.reduceEqDiff,Nat.reduceAdd,Nat.reduceLeDiff,reduceIte,if_false,if_true,mkVal,unLV,List.map,optTmps,hwk,e1,e5,e8,e9,and_self]
  · have hk':k=R.length:=by omega
    subst hk'
    rw [List.take_length] at hS
    have hSB:=Bx.mk (And.intro hS (And.intro hU (And.intro hn ho)))
    clear hS hU hn ho
    repeat' (first | refine gN trivial ?_ | (refine gB trivial ?_;intro bb hbb;cases bb<;>(try simp only [hbs,if_false,reduceCtorEq] at hbb)<;>(try first | (exfalso;omega) | exact hbb.elim)) | fail)
    exact ⟨.inr trivial,lv,ef,hSB.out⟩
theorem nxt_step {used:List Int} {f:Nat} (hu:∀ x∈used,x≤(f:Int)) {n:Int} (hn:0≤n):nxt used (f - n.toNat) n=if n+1∈used then nxt used (f - (n+1).toNat) (n+1) else n+1:=by
  by_cases h:n+1∈used
  · have:=hu _ h
    rw [if_pos h,show f - n.toNat=(f - (n+1).toNat)+1 by omega]
    show (if n+1∈used then nxt used (f - (n+1).toNat) (n+1) else n+1)=_
    rw [if_pos h]
  · rw [if_neg h]
    cases h2:f - n.toNat with
    | zero=>rfl
    | succ k=>
      show (if n+1∈used then nxt used k (n+1) else n+1)=_
      rw [if_neg h]
theorem nxt_le {used:List Int} : ∀ (k:Nat) {n:Int},n<nxt used k n∧nxt used k n≤n+k+1
  | 0,n=>by show n<n+1∧n+1≤n+0+1;omega
  | k+1,n=>by
    have h:=nxt_le (used:=used) k (n:=n+1)
    show n<(if n+1∈used then nxt used k (n+1) else n+1)∧(if n+1∈used then nxt used k (n+1) else n+1)≤n+(k+1:Nat)+1
    split<;>omega
set_option maxHeartbeats 16000000 in
theorem name_ok {v:LV} {R0:List GR} {lo:Nat} {s0:St} {f:Nat} (hG0:GS s0 lo v R0) (hlen:R0.length≤6000) (hlo:lo≤s0.n) (hf:f≤6000) (hu:∀ x∈usedOf (R0.map (·.1)),x≤(f:Int)) :
    CallOk Try.prog GL (.fn (.func 65) [] []) [v] s0 (fun r s'=>∃ R,GS s' lo v R∧R.map (·.1)=named f (R0.map (·.1))∧s0.n≤s'.n∧∀ id,id<lo→s'.get id=s0.get id):=by
  have hvl:=hG0.sg.len
  refine call_fn (first:=[]) (caps:=[]) Try.func65 (by decide +kernel) c65 (Nat.le_of_ble_eq_true rfl) (CodeOk.mono (Q:=fun o e s'=>(o = .normal∨o = .jmp .ret)∧∃ R,GS s' lo v R∧R.map (·.1)=named f (R0.map (·.1))∧s0.n≤s'.n∧∀ id,id<lo→s'.get id=s0.get id) ?_ fun o e s' hh=>by
    obtain ⟨h1,h2⟩:=hh
    exact ⟨h1, .tup [],by simp [l65,resVal],h2⟩)
  have e0:(envOf ([]++[v]++[])).at 0=v:=by rw [envOf_at];rfl
  generalize envOf ([]++[v]++[])=e at *
  refine Cd.out ?_
  unfold l65
  dsimp only [jA,jC,jG,qM,qL,qN,qF,qS,qI,qA,qB,qC,qP,qm,ql]
  repeat' (first | refine gN trivial ?_ | (refine gB trivial ?_;intro bb hbb;cases bb<;>(try simp only [hbs,if_false,reduceCtorEq] at hbb)<;>(try first | (exfalso;omega) | exact hbb.elim)) | fail)
  refine q_mkmap wN rfl ?_
  have hGa:=hG0.mono (s':=s0.new (.map [])) (by simp) fun id hid=>by rw [St.get_new,if_neg (by omega)]
  have hMa:(s0.new (.map [])).get s0.n=some (.map []):=by rw [St.get_new,if_pos rfl]
  have hna:(s0.new (.map [])).n=s0.n+1:=rfl
  have hoa:∀ id,id<lo→(s0.new (.map [])).get id=s0.get id:=fun id hid=>by rw [St.get_new,if_neg (by omega)]
  generalize s0.new (.map [])=s1 at *
  have hch:=chosenN_ok hGa hlen
  repeat' (first | refine gN trivial ?_ | (refine gB trivial ?_;intro bb hbb;cases bb<;>(try simp only [hbs,if_false,reduceCtorEq] at hbb)<;>(try first | (exfalso;omega) | exact hbb.elim)) | fail)
  refine q_call wN (fv:=.fn (.func 76) [] []) (vs:=[v, .fn (.func 77) [] []]) ef (by simp only [List.map,lk,sv1,sv2,sv3,Nat.reduceEqDiff,Nat.reduceAdd,Nat.reduceLeDiff,reduceIte,if_false,if_true,mkVal,unLV,List.map,optTmps,e0]) (CallOk.mono hch fun r s2 hh=>⟨trivial,?_⟩)
  obtain ⟨hSg,hU,hn2,ho2⟩:=hh
  simp only [Env.put_some]
  have hrl:=hSg.len
  have hUsed:usedOf (R0.map (·.1))=(R0.filter (·.1.old)).map (·.1.name):=by
    unfold usedOf
    rw [List.filter_map,List.map_map];rfl
  have hLl:=List.length_filter_le (fun r:GR=>r.1.old) R0
  have hLs:∀ r∈R0.filter (·.1.old),IsInts r.2.1 r.1.set:=fun r hr=>hG0.sets r (List.mem_filter.1 hr).1
  rw [hUsed] at hu
  generalize hLE:R0.filter (·.1.old)=L at *
  have hGb:=hGa.mono hn2 ho2
  have hMb:=(ho2 s0.n (by omega)).trans hMa
  have hob:∀ id,id<lo→s2.get id=s0.get id:=fun id hid=>(ho2 id (by omega)).trans (hoa id hid)
  have hGB:=Bx.mk (And.intro hGb hob)
  clear hch hGa hMa hoa hGb hob ho2
  repeat' (first | refine gN @hrl ?_ | (refine gB @hrl ?_;intro bb hbb;cases bb<;>(try simp only [hbs,if_false,reduceCtorEq] at hbb)<;>(try first | (exfalso;omega) | exact hbb.elim)) | fail)
  refine qc_loop (fun m e s=>∃ k:Nat,m=L.length - k∧k≤L.length∧s2.n≤s.n∧Sg s r 7 (wcl grow L) L.length∧GS s lo v R0∧MapS s s0.n ((L.take k).map (·.1.name))∧(∀ id,id<lo→s.get id=s0.get id)∧e.at 0=v∧e.at 2 = .mref s0.n∧e.at 9=r∧e.at 10 = .int .i64 (L.length:Int)∧e.at 11 = .int .i64 (k:Int)) _
    ⟨0,rfl,by omega,by omega,hSg,hGB.out.1,MapS.nil hMb,hGB.out.2,ef,ef,ef,ef,by simp only [lk,sv1,sv2,sv3,Nat.reduceEqDiff,Nat.reduceAdd,Nat.reduceLeDiff,reduceIte,if_false,if_true,mkVal,unLV,List.map,optTmps];rfl⟩ ?_
  clear e0 hSg hGB hMb
  clear e
  rintro m e s ⟨k,rfl,hk,hn3,hSg,hG,hM,ho,e0,e2,e9,e10,e11⟩
  by_cases hkl:k<L.length
  · have hkI:(k:Int)<(L.length:Int):=by omega
    have hwk:IntKind.i64.wrap ((k:Int)+1)=((k+1:Nat):Int):=by rw [wrap_i64 _ (by omega) (by omega)];rfl
    obtain ⟨J,rest,hvJ,hJ,hgJ⟩:=hSg.pos (by omega)
    subst hvJ
    have hJlo:=hU J (uses_sref.2 rfl)
    have hri:L[k]? = some (L.getD k default):=by rw [List.getD_eq_getElem?_getD,List.getElem?_eq_getElem hkl];rfl
    have htk:=take_one L default (k:=k) hkl
    have hrm:L.getD k default∈L:=getD_mem hkl
    generalize L.getD k default=r at *
    have hsvc:=(hLs _ hrm).sl.cell
    obtain ⟨g,sv,M⟩:=r
    simp only at hsvc
    have hld:loadLV (some 7) (.pref J (k*7)) s=some (.agg [.int .i64 g.name, .int .i64 g.par,sv, .mref M, .bool g.old, .bool g.good, .bool g.gone]):=loadN_rw grow_len hri hgJ
    have htB:Bx ((L.take (k+1)).map (·.1.name)=(L.take k).map (·.1.name)++[g.name]):=⟨by rw [htk,List.map_append];rfl⟩
    have hSB:=Bx.mk (And.intro hSg (And.intro hG (And.intro hM ho)))
    clear htk hSg hG hM ho
    repeat' (first | refine gN (And.intro @iaS @hld) ?_ | (refine gB (And.intro @iaS @hld) ?_;intro bb hbb;cases bb<;>(try simp only [hbs,if_false,reduceCtorEq] at hbb)<;>(try first | (exfalso;omega) | exact hbb.elim)) | fail)
    obtain ⟨hSg,hG,hM,ho⟩:=hSB.out
    have hf1:∀ id,id<s.n→((s.new (.cells .mut [.int .i64 0, .int .i64 0, .nils, .nilm, .bool false, .bool false, .bool false])).put s.n (.cells .mut [.int .i64 g.name, .int .i64 g.par,sv, .mref M, .bool g.old, .bool g.good, .bool g.gone])).get id=s.get id:=fun id hid=>by rw [St.get_put,if_neg (by omega),St.get_new,if_neg (by omega)]
    have hb1:((s.new (.cells .mut [.int .i64 0, .int .i64 0, .nils, .nilm, .bool false, .bool false, .bool false])).put s.n (.cells .mut [.int .i64 g.name, .int .i64 g.par,sv, .mref M, .bool g.old, .bool g.good, .bool g.gone])).get s.n=some (.cells .mut [.int .i64 g.name, .int .i64 g.par,sv, .mref M, .bool g.old, .bool g.good, .bool g.gone]):=by rw [St.get_put,if_pos rfl]
    have hn1:((s.new (.cells .mut [.int .i64 0, .int .i64 0, .nils, .nilm, .bool false, .bool false, .bool false])).put s.n (.cells .mut [.int .i64 g.name, .int .i64 g.par,sv, .mref M, .bool g.old, .bool g.good, .bool g.gone])).n=s.n+1:=rfl
    generalize (s.new (.cells .mut [.int .i64 0, .int .i64 0, .nils, .nilm, .bool false, .bool false, .bool false])).put s.n (.cells .mut [.int .i64 g.name, .int .i64 g.par,sv, .mref M, .bool g.old, .bool g.good, .bool g.gone])=s3 at *
    repeat' (first | refine gN @hb1 ?_ | (refine gB @hb1 ?_;intro bb hbb;cases bb<;>(try simp only [hbs,if_false,reduceCtorEq] at hbb)<;>(try first | (exfalso;omega) | exact hbb.elim)) | fail)
    have hM3:=hM.keep (hf1 s0.n (by omega))
    refine q_setUp hM3 ef ef ef (fun s4 hn4 hm4 ho4=>?_)
    have hg4:∀ id,id<s.n→id≠s0.n→s4.get id=s.get id:=fun id h1 h2=>(ho4 id h2).trans (hf1 id h1)
    have hfB:=Bx.mk (And.intro (hSg.mono (s':=s4) (by omega) fun id hid=>by
        have:=uses_sref.1 hid
        exact hg4 id (by omega) (by omega)) (And.intro (hG.frame (s':=s4) (by omega) (fun id hid=>hg4 id (hG.sg.lt hid) fun e=>by have:=hG0.sg.lt (e ▸ hid);omega) fun r hr=>hg4 _ (hG.at_lt r hr) fun e=>by have:=hG0.at_lt r hr;omega) (And.intro hm4 fun id (hid:id<lo)=>(hg4 id (by omega) (by omega)).trans (ho id hid))))
    clear hSg hG hM ho hSB hM3 hm4 hg4 ho4 hf1 hld hgJ
    repeat' (first | refine gN @hwk ?_ | (refine gB @hwk ?_;intro bb hbb;cases bb<;>(try simp only [hbs,if_false,reduceCtorEq] at hbb)<;>(try first | (exfalso;omega) | exact hbb.elim)) | fail)
    refine ⟨L.length - (k+1),by omega,k+1,rfl,by omega,by omega,hfB.out.1,hfB.out.2.1,by rw [htB.out];exact hfB.out.2.2.1,hfB.out.2.2.2,?_⟩
    simp only [lk,sv1,sv2,sv3,Nat.reduceEqDiff,Nat.reduceAdd,Nat.reduceLeDiff,reduceIte,if_false,if_true,mkVal,unLV,List.map,optTmps,hwk,e0,e2,e9,e10,and_self]
  · have hk':k=L.length:=by omega
    subst hk'
    rw [List.take_length] at hM
    have hSB:=Bx.mk (And.intro hG (And.intro hM ho))
    clear hSg hG hM ho
    repeat' (first | refine gN @hvl ?_ | (refine gB @hvl ?_;intro bb hbb;cases bb<;>(try simp only [hbs,if_false,reduceCtorEq] at hbb)<;>(try first | (exfalso;omega) | exact hbb.elim)) | fail)
    have hl:(R0.map (·.1)).length=R0.length:=List.length_map ..
    generalize hlE:R0.map (·.1)=l at *
    generalize hUE:L.map (·.1.name)=used at *
    unfold named
    rw [hUsed]
    refine qc_loop (fun m e s=>∃ (i:Nat) (R:List GR) (n:Int) (done:List Gn),m=R0.length - i∧i≤R0.length∧s2.n≤s.n∧GS s lo v R∧R.map (·.1)=done++l.drop i∧done.length=i∧namS used f 0 l=done++namS used f n (l.drop i)∧0≤n∧n≤f+i∧MapS s s0.n used∧(∀ id,id<lo→s.get id=s0.get id)∧e.at 0=v∧e.at 2 = .mref s0.n∧e.at 5 = .int .i64 n∧e.at 20=v∧e.at 21 = .int .i64 (R0.length:Int)∧e.at 22 = .int .i64 (i:Int)) _
      ⟨0,R0,0,[],rfl,by omega,hn3,hSB.out.1,by rw [hlE];simp,rfl,by simp,by omega,by omega,hSB.out.2.1,hSB.out.2.2,ef,ef,ef,ef,ef,by simp only [lk,sv1,sv2,sv3,Nat.reduceEqDiff,Nat.reduceAdd,Nat.reduceLeDiff,reduceIte,if_false,if_true,mkVal,unLV,List.map,optTmps];rfl⟩ ?_
    clear e0 e2 e9 e10 e11 hSB hn3 hkl hbb hk
    clear e s
    rintro m e s ⟨i,R,n,done,rfl,hi,hn3,hG,hEq,hdl,hNm,hn0,hnf,hM,ho,e0,e2,e5,e20,e21,e22⟩
    by_cases hil:i<R0.length
    · have hiI:(i:Int)<(R0.length:Int):=by omega
      have hwi:IntKind.i64.wrap ((i:Int)+1)=((i+1:Nat):Int):=by rw [wrap_i64 _ (by omega) (by omega)];rfl
      have hRl:R.length=R0.length:=by
        have:=congrArg List.length hEq
        rw [List.length_map,List.length_append,hdl,List.length_drop] at this
        omega
      have hiR:i<R.length:=by omega
      have hil':i<l.length:=by omega
      obtain ⟨J,rest,hvJ,hJ,hgJ⟩:=hG.sg.pos (by omega)
      rw [hRl] at hvJ
      subst hvJ
      have hJ0:J<s0.n:=hG0.sg.lt (uses_sref.2 rfl)
      have hri:R[i]? = some (R.getD i default):=by rw [List.getD_eq_getElem?_getD,List.getElem?_eq_getElem hiR];rfl
      have hli:l[i]? = some (l.getD i default):=by rw [List.getD_eq_getElem?_getD,List.getElem?_eq_getElem hil'];rfl
      have hr1:(R.getD i default).1=l.getD i default:=by
        have h1:=congrArg (fun L=>L[i]?) hEq
        simp only [List.getElem?_map] at h1
        rw [hri,List.getElem?_append_right (by omega),hdl,Nat.sub_self,List.getElem?_drop,Nat.add_zero,hli] at h1
        exact Option.some.inj h1
      rw [← hr1] at hli
      have hdr:l.drop i=(R.getD i default).1::l.drop (i+1):=by
        obtain ⟨h1,h2⟩:=List.getElem?_eq_some_iff.1 hli
        rw [List.drop_eq_getElem_cons h1,h2]
      clear hr1
      generalize R.getD i default=r at *
      obtain ⟨g,tl⟩:=r
      simp only at hli hdr
      have hl4:=load_rw grow_len hri (k:=4) (v:=.bool g.old) rfl hgJ
      have hl6:=load_rw grow_len hri (k:=6) (v:=.bool g.gone) rfl hgJ
      have hGB:=Bx.mk (And.intro hG (And.intro hM ho))
      have hEB:=Bx.mk (And.intro hEq (And.intro hNm hdr))
      clear hG hM ho hEq hNm hdr
      by_cases hskip:(g.old || g.gone)=true
      · have hfB:Bx (R.map (·.1)=(done++[g])++l.drop (i+1)∧(done++[g]).length=i+1∧namS used f 0 l=(done++[g])++namS used f n (l.drop (i+1))):=⟨by
          refine ⟨by rw [hEB.out.1,hEB.out.2.2];simp,by simp [hdl],?_⟩
          rw [hEB.out.2.1,hEB.out.2.2]
          show done++(if g.old || g.gone then g::namS used f n (l.drop (i+1)) else _)=_
          rw [if_pos hskip];simp⟩
        clear hEB
        cases hold:g.old with
        | true=>
          rw [hold] at hl4
          repeat' (first | refine gN (And.intro @iaS (And.intro @hl4 (And.intro @hl6 @hwi))) ?_ | (refine gB (And.intro @iaS (And.intro @hl4 (And.intro @hl6 @hwi))) ?_;intro bb hbb;cases bb<;>(try simp only [hbs,if_false,reduceCtorEq] at hbb)<;>(try first | (exfalso;omega) | exact hbb.elim)) | fail)
          refine ⟨R0.length - (i+1),by omega,i+1,R,n,_,rfl,by omega,hn3,hGB.out.1,hfB.out.1,hfB.out.2.1,hfB.out.2.2,hn0,by omega,hGB.out.2.1,hGB.out.2.2,?_⟩
          simp only [lk,sv1,sv2,sv3,Nat.reduceEqDiff,Nat.reduceAdd,Nat.reduceLeDiff,reduceIte,if_false,if_true,mkVal,unLV,List.map,optTmps,hwi,e0,e2,e5,e20,e21,e22,and_self]
        | false=>
          have hgo:g.gone=true:=by rw [hold] at hskip;simpa using hskip
          rw [hold] at hl4
          rw [hgo] at hl6
          repeat' (first | refine gN (And.intro @iaS (And.intro @hl4 (And.intro @hl6 @hwi))) ?_ | (refine gB (And.intro @iaS (And.intro @hl4 (And.intro @hl6 @hwi))) ?_;intro bb hbb;cases bb<;>(try simp only [hbs,if_false,reduceCtorEq] at hbb)<;>(try first | (exfalso;omega) | exact hbb.elim)) | fail)
          refine ⟨R0.length - (i+1),by omega,i+1,R,n,_,rfl,by omega,hn3,hGB.out.1,hfB.out.1,hfB.out.2.1,hfB.out.2.2,hn0,by omega,hGB.out.2.1,hGB.out.2.2,?_⟩
          simp only [lk,sv1,sv2,sv3,Nat.reduceEqDiff,Nat.reduceAdd,Nat.reduceLeDiff,reduceIte,if_false,if_true,mkVal,unLV,List.map,optTmps,hwi,e0,e2,e5,e20,e21,e22,and_self]
      · have hold:g.old=false:=by simp at hskip;exact hskip.1
        have hgo:g.gone=false:=by simp at hskip;exact hskip.2
        rw [hold] at hl4
        rw [hgo] at hl6
        have hnx:=nxt_le (used:=used) (f - n.toNat) (n:=n)
        have hfB:Bx ((done++[{ g with name:=nxt used (f - n.toNat) n }]).length=i+1∧namS used f 0 l=(done++[{ g with name:=nxt used (f - n.toNat) n }])++namS used f (nxt used (f - n.toNat) n) (l.drop (i+1))):=⟨by
          refine ⟨by simp [hdl],?_⟩
          rw [hEB.out.2.1,hEB.out.2.2]
          show done++(if g.old || g.gone then _ else { g with name:=nxt used (f - n.toNat) n } :: namS used f (nxt used (f - n.toNat) n) (l.drop (i+1)))=_
          rw [if_neg hskip];simp⟩
        generalize hxE:nxt used (f - n.toNat) n=x at *
        have hxB:Bx (x≤f+i+1∧0<x):=⟨by omega⟩
        clear hskip hold hgo
        repeat' (first | refine gN (And.intro @iaS (And.intro @hl4 @hl6)) ?_ | (refine gB (And.intro @iaS (And.intro @hl4 @hl6)) ?_;intro bb hbb;cases bb<;>(try simp only [hbs,if_false,reduceCtorEq] at hbb)<;>(try first | (exfalso;omega) | exact hbb.elim)) | fail)
        refine qc_loop (fun m e s'=>∃ n':Int,m=(f+1+i) - n'.toNat∧s'=s∧0≤n'∧n'<x∧nxt used (f - n'.toNat) n'=x∧e.at 0 = .sref J 0 R0.length 7∧e.at 2 = .mref s0.n∧e.at 5 = .int .i64 n'∧e.at 6 = .int .i64 (i:Int)∧e.at 20 = .sref J 0 R0.length 7∧e.at 21 = .int .i64 (R0.length:Int)∧e.at 22 = .int .i64 (i:Int)) _
          ⟨n,rfl,rfl,hn0,by omega,hxE,ef,ef,ef,ef,ef,ef,ef⟩ ?_
        clear e0 e2 e5 e20 e21 e22 hnx hl4 hl6 hxE
        clear e
        rintro m e s' ⟨n,rfl,hss,hn0,hnx,hxE,e0,e2,e5,e6,e20,e21,e22⟩
        subst s'
        have hwn:IntKind.i64.wrap (n+1)=n+1:=wrap_i64 _ (by omega) (by have:=hxB.out;omega)
        have hstep:=nxt_step hu hn0
        rw [hxE] at hstep
        repeat' (first | refine gN @hwn ?_ | (refine gB @hwn ?_;intro bb hbb;cases bb<;>(try simp only [hbs,if_false,reduceCtorEq] at hbb)<;>(try first | (exfalso;omega) | exact hbb.elim)) | fail)
        rw [hwn]
        refine q_setLook hGB.out.2.1 wN ef ef (fun b hb=>?_)
        cases b with
        | true=>
          have hin:=of_decide_eq_true hb
          rw [if_pos hin] at hstep
          have hn2:=nxt_le (used:=used) (f - (n+1).toNat) (n:=n+1)
          rw [← hstep] at hn2
          have hq:=hxB.out
          clear hb hin hxE
          repeat' (first | refine gN trivial ?_ | (refine gB trivial ?_;intro bb hbb;cases bb<;>(try simp only [hbs,if_false,reduceCtorEq] at hbb)<;>(try first | (exfalso;omega) | exact hbb.elim)) | fail)
          refine ⟨(f+1+i) - (n+1).toNat,by omega,n+1,rfl,trivial,by omega,by omega,hstep.symm,?_⟩
          simp only [lk,sv1,sv2,sv3,Nat.reduceEqDiff,Nat.reduceAdd,Nat.reduceLeDiff,reduceIte,if_false,if_true,mkVal,unLV,List.map,optTmps,e0,e2,e6,e20,e21,e22,and_self]
        | false=>
          have hin:=of_decide_eq_false hb
          rw [if_neg hin] at hstep
          clear hb hin hxE
          repeat' (first | refine gN @iaS ?_ | (refine gB @iaS ?_;intro bb hbb;cases bb<;>(try simp only [hbs,if_false,reduceCtorEq] at hbb)<;>(try first | (exfalso;omega) | exact hbb.elim)) | fail)
          refine q_storeRw grow_len (i:=i) (k:=0) (c:=(g,tl)) (c':=({ g with name:=x },tl)) (rest:=rest) (v:=.int .i64 x) ef rfl ef rfl hgJ hri (by decide) rfl (fun s4 hn4 hg4 ho4=>?_)
          have hG4:=hGB.out.1.flag hRl hri (g':={ g with name:=x }) rfl rfl hg4 hn4 ho4
          have hJl:=hG4.low.1 J (uses_sref.2 rfl)
          have hzB:=Bx.mk (And.intro hG4 (And.intro (hGB.out.2.1.keep (ho4 s0.n (by omega))) fun id (hid:id<lo)=>(ho4 id (by omega)).trans (hGB.out.2.2 id hid)))
          have hEq2:Bx ((R.set i ({ g with name:=x },tl)).map (·.1)=(done++[{ g with name:=x }])++l.drop (i+1)):=⟨by
            rw [List.map_set,hEB.out.1,drop_set done l i _ g hdl hli]⟩
          have hq:=hxB.out
          clear hG4 hg4 ho4 hGB hgJ hEB
          repeat' (first | refine gN @hwi ?_ | (refine gB @hwi ?_;intro bb hbb;cases bb<;>(try simp only [hbs,if_false,reduceCtorEq] at hbb)<;>(try first | (exfalso;omega) | exact hbb.elim)) | fail)
          refine ⟨R0.length - (i+1),by omega,i+1,_,x,_,rfl,by omega,by omega,hzB.out.1,hEq2.out,hfB.out.1,hfB.out.2,by omega,by omega,hzB.out.2.1,hzB.out.2.2,?_⟩
          simp only [lk,sv1,sv2,sv3,Nat.reduceEqDiff,Nat.reduceAdd,Nat.reduceLeDiff,reduceIte,if_false,if_true,mkVal,unLV,List.map,optTmps,hwi,hstep,e0,e2,e20,e21,and_self]
    · have hi':i=R0.length:=by omega
      subst hi'
      rw [← hl,List.drop_length,List.append_nil] at hEq
      rw [← hl,List.drop_length] at hNm
      have hGB:=Bx.mk (And.intro hG ho)
      clear hG ho hM
      repeat' (first | refine gN trivial ?_ | (refine gB trivial ?_;intro bb hbb;cases bb<;>(try simp only [hbs,if_false,reduceCtorEq] at hbb)<;>(try first | (exfalso;omega) | exact hbb.elim)) | fail)
      exact ⟨.inl trivial,R,hGB.out.1,by rw [hEq,hNm];simp [namS],by omega,hGB.out.2⟩
end Go.Proofs.Ytkbiecjdcjfhaaa
