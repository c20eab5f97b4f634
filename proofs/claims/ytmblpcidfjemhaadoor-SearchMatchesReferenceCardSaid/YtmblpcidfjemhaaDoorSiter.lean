/- search: the iterator yields the states that are reached, in order. -/
import Derived.Test.YtmblpcidfjemhaaDoorSnum
import Derived.Test.YtmblpcidfjemhaaDoorSmall
set_option linter.unusedSimpArgs false
set_option linter.unusedVariables false
namespace Go.Proofs.YtmblpcidfjemhaaDoor
open Go Go.Pv Go.Aut Go.Fnd
open Classical
def psuc (rw':List Moves) (q a k:Nat):List Fnd.En:=((List.range a).flatMap fun b=>(rw'.getD b []).map fun m=>(m.1.toNat,(q:Int),b))++((rw'.getD a []).take k).map fun m=>(m.1.toNat,(q:Int),a)
theorem psuc_next {r:List Moves} {q a k:Nat} (hk:k<(r.getD a []).length):psuc r q a (k+1)=psuc r q a k++[(((r.getD a []).getD k (0,false)).1.toNat,(q:Int),a)]:=by
  unfold psuc
  rw [List.take_add_one,List.getElem?_eq_getElem hk]
  have:(r.getD a []).getD k (0,false)=(r.getD a [])[k]:=by rw [List.getD_eq_getElem?_getD,List.getElem?_eq_getElem hk];rfl
  rw [this,List.map_append,← List.append_assoc]
  rfl
theorem psuc_row (r:List Moves) (q a:Nat):psuc r q (a+1) 0=psuc r q a (r.getD a []).length:=by
  unfold psuc
  rw [List.range_succ,List.flatMap_append,List.take_length]
  simp
theorem psuc_all {B:Bu} {q:Nat} : psuc (B.next.getD q []) q (B.next.getD q []).length 0=sucs (bmv B) (B.next.getD q []).length q:=by
  unfold psuc sucs bmv
  rw [List.take_zero,List.map_nil,List.append_nil]
  congr 1
  funext b
  rw [List.map_map]
  rfl
def sall (B:Bu) (from_:List Nat):List Fnd.En:=Fnd.all (sucs (bmv B) B.L.toNat) B.next.length from_
theorem bfrom {B:Bu} (hok:Vb B):From B.next.length (sucs (bmv B) B.L.toNat):=sucs_from fun q a hq=>bmv_lt hok q a hq
theorem blet {B:Bu} (hok:Vb B):∀ q a m,m∈bmv B q a→a<B.L.toNat:=by
  intro q a m hm
  simp only [bmv] at hm
  obtain ⟨m',hm',rfl⟩:=List.mem_map.1 hm
  by_cases hq:q<B.next.length
  · have hrow:=(hok.2.2.2.2 q hq).1
    have ha:a<(B.next.getD q []).length:=by
      apply Classical.byContradiction
      intro hn
      have:(B.next.getD q []).getD a []=[]:=by rw [List.getD_eq_getElem?_getD,List.getElem?_eq_none (by omega)];rfl
      rw [this] at hm';cases hm'
    omega
  · have:B.next.getD q []=[]:=by rw [List.getD_eq_getElem?_getD,List.getElem?_eq_none (by omega)];rfl
    rw [this] at hm'
    have h2:([]:List Moves).getD a []=[]:=by simp
    rw [h2] at hm';cases hm'
theorem sall_ok {B:Bu} (hok:Vb B) {from_:List Nat} (hR:∀ p∈from_,p<B.next.length):Fnd.Ok (sucs (bmv B) B.L.toNat) from_ B.next.length (sall B from_)∧Fnd.Cl (sucs (bmv B) B.L.toNat) (sall B from_) (sall B from_).length∧∀ p∈from_,p∈(sall B from_).map (·.1) :=
  all_ok (bfrom hok) hR
theorem row_lenB {B:Bu} (hok:Vb B) {q:Nat} (hq:q<B.next.length):B.L.toNat=(B.next.getD q []).length:=by
  have:=(hok.2.2.2.2 q hq).1
  omega
theorem loadN_en {l:List Fnd.En} {k j:Nat} {x:Fnd.En} (h:l[k]? = some x) {s:St} {m:Md} (hs:s.get j=some (.cells m (ecells l))):loadLV (some 3) (.pref j (k*3)) s=some (.agg (ecell x)):=by
  have h1:=ecells_take h
  have h3:=(List.getElem?_eq_some_iff.1 h).1
  have h2:k*3+3≤(ecells l).length:=by rw [ecells_length];omega
  simp only [loadLV,mkVal,hs]
  rw [if_pos h2,h1]
theorem load_en {l:List Fnd.En} {k j:Nat} {x:Fnd.En} (h:l[k]? = some x) {s:St} {m:Md} (hs:s.get j=some (.cells m (ecells l))):loadLV none (.pref j (k*3)) s=some (.int .i64 (x.1:Int)):=by
  have h1:=ecells_take h
  have h2:((ecells l).drop (k*3))[0]? = (ecell x)[0]? := by rw [← h1,List.getElem?_take];simp
  rw [List.getElem?_drop,Nat.add_zero] at h2
  exact load_ref hs h2
set_option maxHeartbeats 16000000 in
theorem siter_ok {v:LV} {B:Bu} {sv nv fv:LV} (hB:IsB v B sv nv) (hok:Vb B) {from_:List Nat} (hf:IsInts fv (zints from_)) (hfr:∀ p∈from_,p<B.next.length) {y:LV} {s:St} {I:Nat→St→Prop} {J:St→Prop} (hI0:I 0 s)
    (hst:∀ k s1 s2,I k s1→s.n≤s1.n→s1.n≤s2.n→(∀ i,i<s.n→s2.get i=s1.get i)→I k s2)
    (hbd:∀ k x s1,(sall B from_)[k]? = some x→I k s1→s.n≤s1.n→CallOk Tryd.prog GL y [.agg (ecell x)] s1 (fun r s2=>s1.n≤s2.n∧(∀ i,s.n≤i→i<s1.n→s2.get i=s1.get i)∧(r = .bool true∧I (k+1) s2∨r = .bool false∧J s2))) :
    CallOk Tryd.prog GL (.fn (.func 38) [] [.pimm [.int .i64 B.L,sv,nv] 0, .pimm [fv] 0]) [y] s (fun _ s'=>I (sall B from_).length s'∨J s'):=by
  obtain ⟨rfl,hst',vs,hn⟩:=hB
  have hc1:=hst'.sl.cell
  have hc2:=hn.sl.cell
  have hc3:=hf.sl.cell
  have hnl:=hn.sl.len
  have hfl:=hf.sl.len
  have hn3:=hok.2.2.1
  have hflen:=hf.len
  have hmx:maxLen=9223372036854775807:=by decide
  have hzl:(zints from_).length=from_.length:=by simp [zints]
  rw [hzl] at hfl
  refine call_fn (first:=[]) (caps:=[.pimm [.int .i64 B.L,sv,nv] 0, .pimm [fv] 0]) Tryd.func38 (by decide +kernel) c38 (Nat.le_of_ble_eq_true rfl) (CodeOk.mono (Q:=fun o e s'=>(o = .normal∨o = .jmp .ret)∧(I (sall B from_).length s'∨J s')) ?_ fun o e s' hh=>by
    exact ⟨hh.1, .tup [],by simp [l38,resVal],hh.2⟩)
  have e0:(envOf ([]++[y]++[.pimm [.int .i64 B.L,sv,nv] 0, .pimm [fv] 0])).at 0=y:=by rw [envOf_at];rfl
  have e1:(envOf ([]++[y]++[.pimm [.int .i64 B.L,sv,nv] 0, .pimm [fv] 0])).at 1 = .pimm [.int .i64 B.L,sv,nv] 0:=by rw [envOf_at];rfl
  have e2:(envOf ([]++[y]++[.pimm [.int .i64 B.L,sv,nv] 0, .pimm [fv] 0])).at 2 = .pimm [fv] 0:=by rw [envOf_at];rfl
  generalize envOf ([]++[y]++[.pimm [.int .i64 B.L,sv,nv] 0, .pimm [fv] 0])=e at *
  refine Cd.out ?_
  unfold l38
  dsimp only [jA,jG,qN,qF,qS,qI,qA,qB,qC,qm,ql]
  repeat' (first | refine gA @hnl ?_ | (refine gB @hnl ?_;intro bb hbb;cases bb<;>(try simp only [hbs,if_false,reduceCtorEq] at hbb)) | fail)
  refine u_mkB (n:=B.next.length) wN rfl ef ef (by omega) ?_
  repeat' (first | refine gA @hfl ?_ | (refine gB @hfl ?_;intro bb hbb;cases bb<;>(try simp only [hbs,if_false,reduceCtorEq] at hbb)) | fail)
  have hOk0:=fun i=>Fnd.Ok.adds (Fnd.Ok.nil (sucs (bmv B) B.L.toNat) from_ B.next.length) (l:=Fnd.firsts (from_.take i)) (fun p hp=>by obtain ⟨q,hq,rfl⟩:=List.mem_map.1 hp;exact hfr q (List.mem_of_mem_take hq)) fun p hp=>by
    obtain ⟨q,hq,rfl⟩:=List.mem_map.1 hp
    exact .inl ⟨rfl,List.mem_of_mem_take hq⟩
  refine qc_loop (fun m e s1=>∃ (i:Nat) (lv:LV),m=from_.length - i∧i≤from_.length∧NS s.n s1 (s.n+1) (s.n+1+1) s.n B.next.length lv (Fnd.adds [] (Fnd.firsts (from_.take i)))∧I 0 s1∧e.at 0=y∧e.at 1 = .pimm [.int .i64 B.L,sv,nv] 0∧e.at 4 = .pref (s.n+1) 0∧e.at 5 = .pref (s.n+1+1) 0∧e.at 6 = .fn (.func 39) [] [.pref (s.n+1) 0, .pref (s.n+1+1) 0]∧e.at 20=fv∧e.at 21 = .int .i64 (from_.length:Int)∧e.at 22 = .int .i64 (i:Int)) _
    ⟨0, .nils,rfl,by omega,⟨by simp<;>omega,by omega,by simp<;>omega,by omega,by simp<;>omega,by omega,by simp<;>omega,by omega,by omega,by omega,by simp,by simp,(by
      simp only [St.get_put,St.get_new,St.n_put,St.n_new]
      rw [if_neg (by omega),if_neg (by omega),if_neg (by omega),if_pos trivial]
      simp [bcells,Fnd.adds,Fnd.firsts]),SkC.nil _ _,fun id h=>absurd h (uses_nils id)⟩,hst 0 s _ hI0 (Nat.le_refl _) (by simp<;>omega) (fun i hi=>by simp only [St.get_put,St.get_new,St.n_new,St.n_put];repeat' (first | rfl | (rw [if_neg (by omega)]))),ef,ef,ef,ef,by simp only [lk,sv1,sv2,sv3,Nat.reduceEqDiff,Nat.reduceAdd,Nat.reduceLeDiff,reduceIte,if_false,if_true,mkVal,unLV,List.map,optTmps,List.map],ef,ef,by simp only [lk,sv1,sv2,sv3,Nat.reduceEqDiff,Nat.reduceAdd,Nat.reduceLeDiff,reduceIte,if_false,if_true,mkVal,unLV,List.map,optTmps];rfl⟩ ?_
  clear e0 e1 e2
  clear e
  rintro m e s1 ⟨i,lv,rfl,hi,hN,hI,e0,e1,e4,e5,e6,e20,e21,e22⟩
  have hb0:=hOk0 i
  have hb1:=hb0.len
  by_cases hil:i<from_.length
  · -- a first state
    obtain ⟨p,hp⟩:∃ p,from_[i]? = some p:=⟨_,List.getElem?_eq_getElem hil⟩
    have hiI:(i:Int)<(from_.length:Int):=by omega
    have hw:IntKind.i64.wrap ((i:Int)+1)=((i+1:Nat):Int):=by rw [wrap_i64 _ (by omega) (by omega)];rfl
    have hgp:(ints (zints from_))[i]? = some (.int .i64 (p:Int)):=by simp [ints,zints,hp]
    have hia:∀ s,iaLV 1 fv (.int .i64 (i:Int)) s=some (.pimm (ints (zints from_)) i,s):=fun s=>by
      have:=iaN (esz:=1) (k:=.i64) (s:=s) (i:=i) hf.sl (by rw [hzl];exact hiI)
      simpa using this
    repeat' (first | refine gA (And.intro @hia @hgp) ?_ | (refine gB (And.intro @hia @hgp) ?_;intro bb hbb;cases bb<;>(try simp only [hbs,if_false,reduceCtorEq] at hbb)) | fail)
    · exfalso;omega
    refine q_gen (v:=.agg (ecell (p,-1,0))) (s':=s1) wN (by simp only [LOp.run,lk,sv1,sv2,sv3,Nat.reduceEqDiff,Nat.reduceAdd,Nat.reduceLeDiff,reduceIte,if_false,if_true,mkVal,unLV,List.map,optTmps,evParts,fillParts];rfl) rfl trivial ?_
    simp only [Env.put_some]
    refine q_call wN (fv:=.fn (.func 39) [] [.pref (s.n+1) 0, .pref (s.n+1+1) 0]) (vs:=[.agg (ecell (p,-1,0))]) ef (by simp only [List.map,lk,sv1,sv2,sv3,Nat.reduceEqDiff,Nat.reduceAdd,Nat.reduceLeDiff,reduceIte,if_false,if_true,mkVal,unLV,List.map,optTmps]) (CallOk.mono (snumber_ok hN (by omega) (hfr p (List.mem_of_getElem? hp))) fun v s2 hh=>⟨trivial,?_⟩)
    obtain ⟨lv',hN',a1,a2⟩:=hh
    simp only [Env.put_some]
    repeat' (first | refine gA trivial ?_ | (refine gB trivial ?_;intro bb hbb;cases bb<;>(try simp only [hbs,if_false,reduceCtorEq] at hbb)) | fail)
    have e9:Fnd.adds [] (Fnd.firsts (from_.take (i+1)))=Fnd.add (Fnd.adds [] (Fnd.firsts (from_.take i))) (p,-1,0):=by
      have h1:from_.take (i+1)=from_.take i++[p]:=take_snoc hp
      rw [h1]
      simp [Fnd.firsts,Fnd.adds_snoc]
    refine ⟨from_.length - (i+1),by omega,i+1,lv',rfl,by omega,by rw [e9];exact hN',hst 0 s1 s2 hI hN.le a1 a2,?_⟩
    simp only [lk,sv1,sv2,sv3,Nat.reduceEqDiff,Nat.reduceAdd,Nat.reduceLeDiff,reduceIte,if_false,if_true,mkVal,unLV,List.map,optTmps,hw,e0,e1,e4,e5,e6,e20,e21,and_self]
  · -- on with what is found
    have hi':i=from_.length:=by omega
    subst hi'
    rw [List.take_length] at hN hb0
    repeat' (first | refine gA trivial ?_ | (refine gB trivial ?_;intro bb hbb;cases bb<;>(try simp only [hbs,if_false,reduceCtorEq] at hbb)) | fail)
    rotate_left
    · exfalso;omega
    generalize hR:sall B from_=R at *
    have hrun0:Fnd.run (sucs (bmv B) B.L.toNat) B.next.length 0 (Fnd.adds [] (Fnd.firsts from_))=R:=hR
    refine qc_loop (fun m e s1=>∃ (k:Nat) (acc:List Fnd.En) (lv:LV),m=B.next.length+1 - k∧k≤acc.length∧Fnd.Ok (sucs (bmv B) B.L.toNat) from_ B.next.length acc∧Fnd.run (sucs (bmv B) B.L.toNat) (B.next.length - k) k acc=R∧NS s.n s1 (s.n+1) (s.n+1+1) s.n B.next.length lv acc∧I k s1∧e.at 0=y∧e.at 1 = .pimm [.int .i64 B.L,sv,nv] 0∧e.at 4 = .pref (s.n+1) 0∧e.at 5 = .pref (s.n+1+1) 0∧e.at 6 = .fn (.func 39) [] [.pref (s.n+1) 0, .pref (s.n+1+1) 0]∧e.at 9 = .int .i64 (k:Int)) _
      ⟨0,_,lv,rfl,by omega,hb0,hrun0,hN,hI,ef,ef,ef,ef,ef,by simp only [lk,sv1,sv2,sv3,Nat.reduceEqDiff,Nat.reduceAdd,Nat.reduceLeDiff,reduceIte,if_false,if_true,mkVal,unLV,List.map,optTmps];rfl⟩ ?_
    clear hN hI hil hi hbb hb0 hb1 hOk0 hrun0 e0 e1 e4 e5 e6 e20 e21 e22
    clear lv s1 e
    rintro m e s1 ⟨k,acc,lv,rfl,hk,hOk,hrun,hN,hI,e0,e1,e4,e5,e6,e9⟩
    have hal:=hOk.len
    have hlen:=hN.sk.len
    have gl:=hN.gl
    have hw:IntKind.i64.wrap ((k:Int)+1)=((k+1:Nat):Int):=by rw [wrap_i64 _ (by omega) (by omega)];rfl
    by_cases hkl:k<acc.length
    · -- a state is yielded
      obtain ⟨x,hx⟩:∃ x,acc[k]? = some x:=⟨_,List.getElem?_eq_getElem hkl⟩
      have hq:x.1<B.next.length:=hOk.rng x (List.mem_of_getElem? hx)
      have hRk:R[k]? = some x:=by rw [← hrun,Fnd.run_get hkl];exact hx
      obtain ⟨pid,rfl,hpid,hpg⟩:=hN.sk.pos (by omega)
      have hkI:(k:Int)<(acc.length:Int):=by omega
      have hl1:=load_en hx hpg
      have hl3:=loadN_en hx hpg
      repeat' (first | refine gA (And.intro @hlen (And.intro @iaS (And.intro @hl1 @hl3))) ?_ | (refine gB (And.intro @hlen (And.intro @iaS (And.intro @hl1 @hl3))) ?_;intro bb hbb;cases bb<;>(try simp only [hbs,if_false,reduceCtorEq] at hbb)) | fail)
      · exfalso;omega
      refine qc_seq ?_
      repeat' (first | refine gA (And.intro @hlen (And.intro @iaS (And.intro @hl1 @hl3))) ?_ | (refine gB (And.intro @hlen (And.intro @iaS (And.intro @hl1 @hl3))) ?_;intro bb hbb;cases bb<;>(try simp only [hbs,if_false,reduceCtorEq] at hbb)) | fail)
      refine q_call wN (fv:=y) (vs:=[.agg (ecell x)]) ef (by simp only [List.map,lk,sv1,sv2,sv3,Nat.reduceEqDiff,Nat.reduceAdd,Nat.reduceLeDiff,reduceIte,if_false,if_true,mkVal,unLV,List.map,optTmps]) (CallOk.mono (hbd k x s1 hRk hI hN.le) fun r s2 hh=>⟨trivial,?_⟩)
      obtain ⟨a1,a2,⟨rfl,hI2⟩ | ⟨rfl,hJ⟩⟩:=hh
      rotate_left
      · simp only [Env.put_some]
        repeat' (first | refine gA trivial ?_ | (refine gB trivial ?_;intro bb hbb;cases bb<;>(try simp only [hbs,if_false,reduceCtorEq] at hbb)) | fail)
        exact ⟨.inr trivial, .inr hJ⟩
      simp only [Env.put_some]
      have hN2:=hN.keep a1 a2
      have hn0:=hN2.le
      clear hN hI hl1 hl3 hpg gl a1 a2 hpid hlen hbb
      clear s1
      generalize hlv:LV.sref pid 0 acc.length 3=lv at *
      clear hlv
      have hqI:(x.1:Int)<(B.next.length:Int):=by omega
      have g1:vs[x.1]? = some (vs.getD x.1 .top):=hn.get hq
      obtain ⟨ws,hr⟩:=hn.row x.1 hq
      have hLr:=row_lenB hok hq
      have hstep:=fun {l:List Fnd.En} (hl:∀ p∈l,p∈sucs (bmv B) B.L.toNat x.1)=>hOk.part (bfrom hok) hx hl
      have hrun':Fnd.run (sucs (bmv B) B.L.toNat) (B.next.length - (k+1)) (k+1) (Fnd.adds acc (sucs (bmv B) B.L.toNat x.1))=R:=by
        rw [← hrun,show B.next.length - k=(B.next.length - (k+1))+1 by omega]
        simp only [Fnd.run,hx]
      have hall:psuc (B.next.getD x.1 []) x.1 (B.next.getD x.1 []).length 0=sucs (bmv B) B.L.toNat x.1:=by rw [hLr];exact psuc_all
      have hmv0:∀ a,a<(B.next.getD x.1 []).length→MOK B.next.length ((B.next.getD x.1 []).getD a []):=(hok.2.2.2.2 x.1 hq).2
      have hLI:B.L=((B.next.getD x.1 []).length:Int):=((hok.2.2.2.2 x.1 hq).1).symm
      have hL64:=hok.2.1
      have hrl:=hr.sl.len
      generalize hrow:B.next.getD x.1 []=row at *
      generalize hrv:vs.getD x.1 .top=rv at *
      repeat' (first | refine gA (And.intro (@iaN _ _ _ hn.sl) (And.intro @g1 @hrl)) ?_ | (refine gB (And.intro (@iaN _ _ _ hn.sl) (And.intro @g1 @hrl)) ?_;intro bb hbb;cases bb<;>(try simp only [hbs,if_false,reduceCtorEq] at hbb)) | fail)
      refine qc_loop (fun m e s1=>∃ (a:Nat) (lv:LV),m=row.length - a∧a≤row.length∧NS s.n s1 (s.n+1) (s.n+1+1) s.n B.next.length lv (Fnd.adds acc (psuc row x.1 a 0))∧I (k+1) s1∧e.at 0=y∧e.at 1 = .pimm [.int .i64 B.L,sv,nv] 0∧e.at 4 = .pref (s.n+1) 0∧e.at 5 = .pref (s.n+1+1) 0∧e.at 6 = .fn (.func 39) [] [.pref (s.n+1) 0, .pref (s.n+1+1) 0]∧e.at 9 = .int .i64 (k:Int)∧e.at 10 = .int .i64 (x.1:Int)∧e.at 53=rv∧e.at 54 = .int .i64 (row.length:Int)∧e.at 55 = .int .i64 (a:Int)) _
        ⟨0,lv,rfl,by omega,hN2,hI2,ef,ef,ef,ef,ef,ef,ef,ef,ef,by simp only [lk,sv1,sv2,sv3,Nat.reduceEqDiff,Nat.reduceAdd,Nat.reduceLeDiff,reduceIte,if_false,if_true,mkVal,unLV,List.map,optTmps];rfl⟩ ?_
      clear hN2 hI2 hn0 e0 e1 e4 e5 e6 e9
      clear lv s2 e
      rintro m e s2 ⟨a,lv,rfl,ha,hN,hI,e0,e1,e4,e5,e6,e9,e10,e53,e54,e55⟩
      have hwa:IntKind.i64.wrap ((a:Int)+1)=((a+1:Nat):Int):=by rw [wrap_i64 _ (by omega) (by omega)];rfl
      by_cases hal2:a<row.length
      · have haI:(a:Int)<(row.length:Int):=by omega
        have g2:ws[a]? = some (ws.getD a .top):=hr.get hal2
        have hm':=hr.row a hal2
        have hmo:=hmv0 a hal2
        have hpn:=fun c (hc:c<(row.getD a []).length)=>psuc_next (r:=row) (q:=x.1) (a:=a) hc
        have hpr:=psuc_row row x.1 a
        have hsub:∀ c,∀ p∈psuc row x.1 a c,p∈sucs (bmv B) B.L.toNat x.1:=fun c p hp=>by
          rw [← hall]
          unfold psuc at hp ⊢
          rw [List.take_zero,List.map_nil,List.append_nil]
          rcases List.mem_append.1 hp with hp | hp
          · obtain ⟨b,hb,hp⟩:=List.mem_flatMap.1 hp
            have:=List.mem_range.1 hb
            exact List.mem_flatMap.2 ⟨b,List.mem_range.2 (by omega),hp⟩
          · obtain ⟨m,hm1,rfl⟩:=List.mem_map.1 hp
            exact List.mem_flatMap.2 ⟨a,List.mem_range.2 hal2,List.mem_map_of_mem (List.mem_of_mem_take hm1)⟩
        generalize hms:row.getD a []=ms at *
        generalize hmv:ws.getD a .top=mv at *
        have hml:=hm'.sl.len
        have hmlen:=hm'.len
        repeat' (first | refine gA (And.intro (@iaN _ _ _ hr.sl) (And.intro @g2 @hml)) ?_ | (refine gB (And.intro (@iaN _ _ _ hr.sl) (And.intro @g2 @hml)) ?_;intro bb hbb;cases bb<;>(try simp only [hbs,if_false,reduceCtorEq] at hbb)) | fail)
        · exfalso;omega
        refine qc_loop (fun m e s1=>∃ (c:Nat) (lv:LV),m=ms.length - c∧c≤ms.length∧NS s.n s1 (s.n+1) (s.n+1+1) s.n B.next.length lv (Fnd.adds acc (psuc row x.1 a c))∧I (k+1) s1∧e.at 0=y∧e.at 1 = .pimm [.int .i64 B.L,sv,nv] 0∧e.at 4 = .pref (s.n+1) 0∧e.at 5 = .pref (s.n+1+1) 0∧e.at 6 = .fn (.func 39) [] [.pref (s.n+1) 0, .pref (s.n+1+1) 0]∧e.at 9 = .int .i64 (k:Int)∧e.at 10 = .int .i64 (x.1:Int)∧e.at 53=rv∧e.at 54 = .int .i64 (row.length:Int)∧e.at 55 = .int .i64 (a:Int)∧e.at 11 = .int .i64 (a:Int)∧e.at 60=mv∧e.at 61 = .int .i64 (ms.length:Int)∧e.at 62 = .int .i64 (c:Int)) _
          ⟨0,lv,rfl,by omega,hN,hI,ef,ef,ef,ef,ef,ef,ef,ef,ef,ef,ef,ef,ef,by simp only [lk,sv1,sv2,sv3,Nat.reduceEqDiff,Nat.reduceAdd,Nat.reduceLeDiff,reduceIte,if_false,if_true,mkVal,unLV,List.map,optTmps];rfl⟩ ?_
        clear hN hI hbb e0 e1 e4 e5 e6 e9 e10 e53 e54 e55
        clear lv s2 e
        rintro m e s2 ⟨c,lv,rfl,hc,hN,hI,e0,e1,e4,e5,e6,e9,e10,e53,e54,e55,e11,e60,e61,e62⟩
        have hOk':=hstep (hsub c)
        have hOl:=hOk'.len
        by_cases hcl:c<ms.length
        · have hcI:(c:Int)<(ms.length:Int):=by omega
          have hwc:IntKind.i64.wrap ((c:Int)+1)=((c+1:Nat):Int):=by rw [wrap_i64 _ (by omega) (by omega)];rfl
          have hld:=fun s=>loadN_moves (s:=s) hcl
          have hmr:=hmo c hcl
          have hpc:=hpn c hcl
          generalize hmd:ms.getD c (0,false)=md at *
          obtain ⟨mt,hmt⟩:∃ mt:Nat,md.1=(mt:Int):=⟨md.1.toNat,by omega⟩
          have hmt2:md.1.toNat=mt:=by omega
          rw [hmt2] at hpc
          rw [hmt] at hld
          have hmtn:mt<B.next.length:=by omega
          repeat' (first | refine gA (And.intro (@iaN _ _ _ hm'.sl) @hld) ?_ | (refine gB (And.intro (@iaN _ _ _ hm'.sl) @hld) ?_;intro bb hbb;cases bb<;>(try simp only [hbs,if_false,reduceCtorEq] at hbb)) | fail)
          · exfalso;omega
          refine q_gen (v:=.agg (ecell (mt,(x.1:Int),a))) wN (by simp only [LOp.run,lk,sv1,sv2,sv3,Nat.reduceEqDiff,Nat.reduceAdd,Nat.reduceLeDiff,reduceIte,if_false,if_true,mkVal,unLV,List.map,optTmps,evParts,fillParts];rfl) rfl trivial ?_
          simp only [Env.put_some]
          have hN3:NS s.n ((s2.new (.cells .mut [.int .i64 0, .bool false])).put s2.n (.cells .mut [.int .i64 (mt:Int), .bool md.2])) (s.n+1) (s.n+1+1) s.n B.next.length lv (Fnd.adds acc (psuc row x.1 a c)) :=
            hN.keep (by simp) fun id h1 h2=>by rw [St.get_put,if_neg (by omega),St.get_new,if_neg (by omega)]
          refine q_call wN (fv:=.fn (.func 39) [] [.pref (s.n+1) 0, .pref (s.n+1+1) 0]) (vs:=[.agg (ecell (mt,(x.1:Int),a))]) ef (by simp only [List.map,lk,sv1,sv2,sv3,Nat.reduceEqDiff,Nat.reduceAdd,Nat.reduceLeDiff,reduceIte,if_false,if_true,mkVal,unLV,List.map,optTmps]) (CallOk.mono (snumber_ok hN3 (by omega) hmtn) fun v s3 hh=>⟨trivial,?_⟩)
          obtain ⟨lv',hN',a1,a2⟩:=hh
          simp only [Env.put_some]
          repeat' (first | refine gA trivial ?_ | (refine gB trivial ?_;intro bb hbb;cases bb<;>(try simp only [hbs,if_false,reduceCtorEq] at hbb)) | fail)
          have hle:=hN.le
          refine ⟨ms.length - (c+1),by omega,c+1,lv',rfl,by omega,by rw [hpc,Fnd.adds_snoc];exact hN',hst (k+1) s2 s3 hI hN.le (by have:s2.n+1≤s3.n:=a1;omega) (fun i hi=>?_),?_⟩
          · rw [a2 i hi,St.get_put,if_neg (by omega),St.get_new,if_neg (by omega)]
          · simp only [lk,sv1,sv2,sv3,Nat.reduceEqDiff,Nat.reduceAdd,Nat.reduceLeDiff,reduceIte,if_false,if_true,mkVal,unLV,List.map,optTmps,hwc,e0,e1,e4,e5,e6,e9,e10,e53,e54,e55,e11,e60,e61,and_self]
        · have hce:c=ms.length:=by omega
          repeat' (first | refine gA trivial ?_ | (refine gB trivial ?_;intro bb hbb;cases bb<;>(try simp only [hbs,if_false,reduceCtorEq] at hbb)) | fail)
          · refine ⟨row.length - (a+1),by omega,a+1,lv,rfl,by omega,by rw [hpr,← hce];exact hN,hI,?_⟩
            simp only [lk,sv1,sv2,sv3,Nat.reduceEqDiff,Nat.reduceAdd,Nat.reduceLeDiff,reduceIte,if_false,if_true,mkVal,unLV,List.map,optTmps,hwa,e0,e1,e4,e5,e6,e9,e10,e53,e54,e55,and_self]
          · exfalso;omega
      · have hae:a=row.length:=by omega
        rw [hae,hall] at hN
        repeat' (first | refine gA trivial ?_ | (refine gB trivial ?_;intro bb hbb;cases bb<;>(try simp only [hbs,if_false,reduceCtorEq] at hbb)) | fail)
        · refine ⟨B.next.length+1 - (k+1),by omega,k+1,_,lv,rfl,?_,hOk.step (bfrom hok) hx,hrun',hN,hI,?_⟩
          · have:=Fnd.adds_len (sucs (bmv B) B.L.toNat x.1) acc
            omega
          · simp only [lk,sv1,sv2,sv3,Nat.reduceEqDiff,Nat.reduceAdd,Nat.reduceLeDiff,reduceIte,if_false,if_true,mkVal,unLV,List.map,optTmps,hw,e0,e1,e4,e5,e6,e9,and_self]
        · exfalso;omega
    · -- the end
      have hke:k=acc.length:=by omega
      have hRa:R=acc:=by
        rw [← hrun]
        cases B.next.length - k with
        | zero=>rfl
        | succ f=>simp only [Fnd.run];rw [List.getElem?_eq_none (by omega)]
      repeat' (first | refine gA @hlen ?_ | (refine gB @hlen ?_;intro bb hbb;cases bb<;>(try simp only [hbs,if_false,reduceCtorEq] at hbb)) | fail)
      · exact ⟨.inl trivial, .inl (by rw [hRa,← hke];exact hI)⟩
      · exfalso;omega
end Go.Proofs.YtmblpcidfjemhaaDoor
