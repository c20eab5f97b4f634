/- The law of the rest of a word, run. -/
import Derived.Test.YtpjdddpjcfdlfaaGreatDoorSuffix
import Derived.Test.YtpjdddpjcfdlfaaGreatDoorFrom
import Derived.Test.YtpjdddpjcfdlfaaGreatDoorArgs
import Derived.Test.YtpjdddpjcfdlfaaGreatDoorFew
import Derived.Test.YtpjdddpjcfdlfaaGreatDoorHead
import Derived.Test.YtpjdddpjcfdlfaaGreatDoorPvRow
set_option linter.unusedSimpArgs false
set_option linter.unusedVariables false
set_option maxRecDepth 100000
namespace Go.Proofs.YtpjdddpjcfdlfaaGreatDoor
open Go Go.Pv Go.Aut
open Classical
noncomputable def oneB (B:Bu) (S L:List Int) (i:Nat):Bool:=decide (∃ j,j<i∧AW (frm B (B.start.getD j 0)) S L)
noncomputable def mvB (B:Bu) (S' L':List Int) (p a:Int) (k:Nat):Bool:=decide (∃ j,j<k∧AW (frm B ((mvs B p a).getD j (0,false)).1) S' L')
noncomputable def movedB (B:Bu) (S' L':List Int) (a:Int) (i:Nat):Bool:=decide (∃ j,j<i∧∃ k,k<(mvs B (B.start.getD j 0) a).length∧AW (frm B ((mvs B (B.start.getD j 0) a).getD k (0,false)).1) S' L')
theorem ex_succ {p:Nat→Prop} {i:Nat} {i1:Decidable (∃ j,j<i+1∧p j)} {i2:Decidable (∃ j,j<i∧p j)} {i3:Decidable (p i)} : @decide _ i1=(@decide _ i2 || @decide _ i3):=by
  rw [Bool.eq_iff_iff,Bool.or_eq_true,decide_eq_true_eq,decide_eq_true_eq,decide_eq_true_eq]
  constructor
  · rintro ⟨j,h1,h2⟩
    by_cases e:j=i
    · exact .inr (e ▸ h2)
    · exact .inl ⟨j,by omega,h2⟩
  · rintro (⟨j,h1,h2⟩ | h)
    · exact ⟨j,by omega,h2⟩
    · exact ⟨i,by omega,h⟩
theorem ex_zero {p:Nat→Prop} [inst:Decidable (∃ j,j<0∧p j)]:@decide (∃ j,j<0∧p j) inst=false:=decide_eq_false fun ⟨_,h,_⟩=>absurd h (Nat.not_lt_zero _)
set_option maxHeartbeats 16000000 in
theorem lawSuf:∀ lvs,HasArgs Tryz.prog 9 Tryz.f3.params.toList lvs→LawOkG Tryz.prog GL 3 lvs:=by
  intro lvs h
  rw [Tryz.params3] at h
  cases h with | cons a h=>
  cases h with | cons b h=>
  cases h
  obtain ⟨B,sv,nv,hB,-⟩:=argB a
  obtain ⟨st,lo,S,L,rfl,hS,hL⟩:=argL b
  refine ⟨Tryz.f3,[],l3,Tryz.func3,by decide +kernel,c3,Nat.le_of_ble_eq_true rfl,CodeOk.mono (Q:=fun o e s=>(o = .normal∨o = .jmp .ret)∧e.at 4 = .bool true) (Cd.out ?_) fun o e s hh=>⟨hh.1,by simp [l3,resVal,resOne,hh.2]⟩⟩
  clear a b
  have hcB:=hB.closed
  have hcw:(LV.agg [st,lo]).closed=true:=by simp [LV.closed,LV.closed.closedAll,hS.closed,hL.closed]
  have cs:=hS.sl.cell
  have cl:=hL.sl.cell
  have hfB:=few_ok hB hS hL
  have hrB:=ready_ok hB hS hL
  have hwB:=aword_ok hB hS hL
  have hsu:=fun (hf:Fm S L)=>suffix_ok hS hL hf
  have hat:=fun (hf:Fm S L)=>At_ok hS hL hf (i:=0) (by decide)
  have hfr:=fun (p:Int) (hp:inI64 p)=>from_ok hB hp
  have hwf:=fun {v:LV} {C:Bu} {sv nv:LV} (hC:IsB v C sv nv)=>aword_ok hC hS hL
  have hwr:=fun {v:LV} {C:Bu} {sv nv:LV} (hC:IsB v C sv nv) {st lo:LV} {S L:List Int} (hS:IsInts st S) (hL:IsInts lo L)=>aword_ok hC hS hL
  obtain ⟨rfl,hst,vs,hn⟩:=hB
  have cb1:=hst.sl.cell
  have cb2:=hn.sl.cell
  have hstl:=hst.sl.len
  have hnl:=hn.sl.len
  have e0:(envOf [LV.agg [.int .i64 B.L,sv,nv], .agg [st,lo]]).at 0 = .agg [.int .i64 B.L,sv,nv]:=by rw [envOf_at];rfl
  have e1:(envOf [LV.agg [.int .i64 B.L,sv,nv], .agg [st,lo]]).at 1 = .agg [st,lo]:=by rw [envOf_at];rfl
  generalize envOf [LV.agg [.int .i64 B.L,sv,nv], .agg [st,lo]]=e at *
  unfold l3
  dsimp only [jA,jB,jC,jD,jF,jG,qM,qL,qN,qF,qS,qI,qA,qB,qC,qK,qO,qP,qm,ql]
  repeat' (first | refine gA trivial ?_ | (refine gB trivial ?_;intro bb hbb;cases bb<;>(try simp only [hbs,if_false,reduceCtorEq] at hbb)) | apply qc_seq | fail)
  refine q_pure hG0 (head_true) (by first | exact wN | (apply wG;(simp only [lk,Nat.reduceEqDiff,reduceIte,e0,e1];(try rfl);done))) (by simp only [List.map,lk,Nat.reduceEqDiff,reduceIte,e0,e1];try rfl) (by first | trivial | (simp only [Chks,wantedG,LOp.run,Env.put_some,Env.put_none,lk,sv1,sv2,sv3,Nat.reduceEqDiff,Nat.reduceAdd,Nat.reduceLeDiff,reduceIte,if_false,if_true,mkVal,unLV,List.map,optTmps,beq_self_eq_true,reduceCtorEq,false_or,true_and,and_true,Option.some.injEq, *];done)) ?_
  simp only [Env.put_some]
  repeat' (first | refine gA trivial ?_ | (refine gB trivial ?_;intro bb hbb;cases bb<;>(try simp only [hbs,if_false,reduceCtorEq] at hbb)) | apply qc_seq | fail)
  refine q_pureEx hG0 hfB wN (by simp only [List.map,lk,sv1,sv2,sv3,Nat.reduceEqDiff,Nat.reduceAdd,Nat.reduceLeDiff,reduceIte,if_false,if_true,mkVal,unLV,List.map,optTmps]) (fun r hr hrc=>⟨trivial,?_⟩)
  obtain ⟨b,rfl,hb⟩:=hr
  simp only [Env.put_some]
  cases b with
  | false=>
    repeat' (first | refine gA trivial ?_ | (refine gB trivial ?_;intro bb hbb;cases bb<;>(try simp only [hbs,if_false,reduceCtorEq] at hbb)) | apply qc_seq | fail)
    exact ⟨.inr trivial,ef⟩
  | true=>
  have hfb:=hb rfl
  clear hb hrc hfB
  repeat' (first | refine gA trivial ?_ | (refine gB trivial ?_;intro bb hbb;cases bb<;>(try simp only [hbs,if_false,reduceCtorEq] at hbb)) | apply qc_seq | fail)
  refine q_pureB hG0 (hrB) (by first | exact wN | (apply wG;(simp only [lk,Nat.reduceEqDiff,reduceIte,e0,e1];(try rfl);done))) (by simp only [List.map,lk,Nat.reduceEqDiff,reduceIte,e0,e1];try rfl) (fun bb hbb=>⟨by first | trivial | (simp only [Chks,wantedG,LOp.run,Env.put_some,Env.put_none,lk,sv1,sv2,sv3,Nat.reduceEqDiff,Nat.reduceAdd,Nat.reduceLeDiff,reduceIte,if_false,if_true,mkVal,unLV,List.map,optTmps,beq_self_eq_true,reduceCtorEq,false_or,true_and,and_true,Option.some.injEq, *];done),?_⟩)
  simp only [Env.put_some]
  cases bb<;>simp only [decide_eq_true_eq,decide_eq_false_iff_not] at hbb
  · repeat' (first | refine gA trivial ?_ | (refine gB trivial ?_;intro bb hbb;cases bb<;>(try simp only [hbs,if_false,reduceCtorEq] at hbb)) | apply qc_seq | fail)
    exact ⟨.inr trivial,ef⟩
  have rB:=hbb
  clear hbb hrB
  repeat' (first | refine gA trivial ?_ | (refine gB trivial ?_;intro bb hbb;cases bb<;>(try simp only [hbs,if_false,reduceCtorEq] at hbb)) | apply qc_seq | fail)
  refine q_pure hG0 (hwB) (by first | exact wN | (apply wG;(simp only [lk,Nat.reduceEqDiff,reduceIte,e0,e1];(try rfl);done))) (by simp only [List.map,lk,Nat.reduceEqDiff,reduceIte,e0,e1];try rfl) (by first | trivial | (simp only [Chks,wantedG,LOp.run,Env.put_some,Env.put_none,lk,sv1,sv2,sv3,Nat.reduceEqDiff,Nat.reduceAdd,Nat.reduceLeDiff,reduceIte,if_false,if_true,mkVal,unLV,List.map,optTmps,beq_self_eq_true,reduceCtorEq,false_or,true_and,and_true,Option.some.injEq, *];done)) ?_
  simp only [Env.put_some]
  repeat' (first | refine gA trivial ?_ | (refine gB trivial ?_;intro bb hbb;cases bb<;>(try simp only [hbs,if_false,reduceCtorEq] at hbb)) | apply qc_seq | fail)
  refine q_pureEx hG0 (hsu rB.2.1) wN (by simp only [List.map,lk,sv1,sv2,sv3,Nat.reduceEqDiff,Nat.reduceAdd,Nat.reduceLeDiff,reduceIte,if_false,if_true,mkVal,unLV,List.map,optTmps]) (fun r hr hrc=>⟨trivial,?_⟩)
  obtain ⟨st',lo',S',L',rfl,hS',hL',hf',hm1,hm2,hlett⟩:=hr
  have cs':=hS'.sl.cell
  have cl':=hL'.sl.cell
  have ha0:=hat rB.2.1
  have hA1:=aw_one (S:=S) (L:=L) rB.1
  have hab:AllB S' B.L∧AllB L' B.L:=⟨AllB.of fun x hx=>by
    rcases hm1 x hx with h | h
    · exact rB.2.2.1.mem h
    · exact rB.2.2.2.mem h,AllB.of fun x hx=>rB.2.2.2.mem (hm2 x hx)⟩
  have hA2:=aw_moved rB.1 rB.2 ⟨hf',hab⟩ hlett
  have hl0:0≤lett S L 0∧lett S L 0<B.L:=by
    simp only [lett]
    split
    · rename_i h;exact rB.2.2.1 0 h
    · have h1:(0 - S.length) % L.length<L.length:=Nat.mod_lt _ (by have:=rB.2.1.2.1;omega)
      exact rB.2.2.2 _ h1
  have hV:=rB.1
  have hr2':=fun {v:LV} {C:Bu} {sv nv:LV} (hC:IsB v C sv nv)=>hwr hC hS' hL'
  have hE1:oneB B S L B.start.length=decide (AW B S L):=decide_eq_decide.2 hA1.symm
  have hE2:movedB B S' L' (lett S L 0) B.start.length=decide (AW B S L):=decide_eq_decide.2 hA2.symm
  clear hat hsu hwr rB hf' hm1 hm2 hlett hab hA1 hA2
  generalize lett S L 0=a0 at *
  generalize decide (AW B S L)=x at *
  obtain ⟨x0,rfl⟩:∃ x0:Nat,a0=(x0:Int):=⟨a0.toNat,by omega⟩
  have hV1:=hV.1
  have hV2:=hV.2.1
  have hV3:=hV.2.2.1
  have hstr:=hst.rng
  have hstlen:=hst.len
  have hmx:maxLen=9223372036854775807:=by decide
  simp only [Env.put_some]
  clear hwB hrc hfb
  repeat' (first | refine gA trivial ?_ | (refine gB trivial ?_;intro bb hbb;cases bb<;>(try simp only [hbs,if_false,reduceCtorEq] at hbb)) | apply qc_seq | fail)
  refine qc_loop (fun m e s=>∃ i:Nat,m=B.start.length - i∧i≤B.start.length∧s.get 0=some (.cells .mut [st',lo'])∧e.at 2 = .pimm [.int .i64 B.L,sv,nv] 0∧e.at 3 = .pimm [st,lo] 0∧e.at 5 = .bool true∧e.at 6 = .bool x∧e.at 7 = .pref 0 0∧e.at 8 = .bool (oneB B S L i)∧e.at 9 = .bool (movedB B S' L' x0 i)∧e.at 10 = .int .i64 (i:Int)) _
    ⟨0,rfl,by omega,by simp [St.get_put,St.get_new,n_empty],ef,ef,ef,ef,ef,ef,ef,by simp only [lk,sv1,sv2,sv3,Nat.reduceEqDiff,Nat.reduceAdd,Nat.reduceLeDiff,reduceIte,if_false,if_true,mkVal,unLV,List.map,optTmps];rfl⟩ ?_
  clear e0 e1
  clear e
  rintro m e s ⟨i,rfl,hi,g0,e2,e3,e5,e6,e7,e8,e9,e10⟩
  by_cases hil:i<B.start.length
  · have hiI:(i:Int)<(B.start.length:Int):=by omega
    have hw:=wrap_succ hiI hst.len
    have hia:=fun s=>iaN hst.sl (esz:=1) (k:=.i64) (s:=s) hiI
    simp only [Nat.mul_one] at hia
    have h1s:oneB B S L (i+1)=(oneB B S L i || decide (AW (frm B (B.start.getD i 0)) S L)):=ex_succ
    have h2s:movedB B S' L' x0 (i+1)=(movedB B S' L' x0 i || mvB B S' L' (B.start.getD i 0) x0 (mvs B (B.start.getD i 0) x0).length):=ex_succ (p:=fun j=>∃ k,k<(mvs B (B.start.getD j 0) x0).length∧AW (frm B ((mvs B (B.start.getD j 0) x0).getD k (0,false)).1) S' L')
    have hp0:=(hV.2.2.2.1 i hil).1
    have hp1:=(hV.2.2.2.1 i hil).2.1
    obtain ⟨p,hp⟩:∃ p:Nat,B.start.getD i 0=(p:Int):=⟨(B.start.getD i 0).toNat,by omega⟩
    have hgp:(ints B.start)[i]? = some (.int .i64 (p:Int)):=by rw [ints_get hiI,hp]
    rw [hp] at h1s h2s hp0 hp1
    have hpn:p<B.next.length:=by omega
    have hpI:(p:Int)<(B.next.length:Int):=hp1
    have hpr:inI64 (p:Int):=by constructor<;>omega
    have hib:=fun s=>iaN hn.sl (esz:=1) (k:=.i64) (s:=s) hpI
    simp only [Nat.mul_one] at hib
    have gr:vs[p]? = some (vs.getD p .top):=hn.get hpn
    obtain ⟨ws,hr⟩:=hn.row p hpn
    have hrow:=hV.2.2.2.2 p hpn
    have hxl:x0<(B.next.getD p []).length:=by have:=hrow.1;omega
    have hxI:(x0:Int)<((B.next.getD p []).length:Int):=by omega
    have hic:=fun s=>iaN hr.sl (esz:=1) (k:=.i64) (s:=s) hxI
    simp only [Nat.mul_one] at hic
    have gx:ws[x0]? = some (ws.getD x0 .top):=hr.get hxl
    have hmo:=hr.row x0 hxl
    have hmvs:mvs B (p:Int) (x0:Int)=(B.next.getD p []).getD x0 []:=by simp [mvs]
    have hmr:=hrow.2 x0 hxl
    rw [← hmvs] at hmo hmr
    generalize vs.getD p .top=rv at *
    generalize ws.getD x0 .top=mv at *
    have hml:=hmo.sl.len
    have hmc:=hmo.sl.cell
    repeat' (first | refine gA @hstl ?_ | (refine gB @hstl ?_;intro bb hbb;cases bb<;>(try simp only [hbs,if_false,reduceCtorEq] at hbb)) | apply qc_seq | fail)
    all_goals first
      | (exfalso;omega)
      | skip
    refine q_mono (fun e' s'=>s'=s∧e'.at 2 = .pimm [.int .i64 B.L,sv,nv] 0∧e'.at 3 = .pimm [st,lo] 0∧e'.at 5 = .bool true∧e'.at 6 = .bool x∧e'.at 7 = .pref 0 0∧e'.at 8 = .bool (oneB B S L (i+1))∧e'.at 9 = .bool (movedB B S' L' x0 i)∧e'.at 10 = .int .i64 (i:Int)) ?_ ?_
    · cases hb1:oneB B S L i with
      | true=>
        rw [hb1,Bool.true_or] at h1s
        rw [hb1] at e8
        repeat' (first | refine gA trivial ?_ | (refine gB trivial ?_;intro bb hbb;cases bb<;>(try simp only [hbs,if_false,reduceCtorEq] at hbb)) | apply qc_seq | fail)
        exact ⟨trivial,ef,ef,ef,ef,ef,ef,ef,ef⟩
      | false=>
        rw [hb1,Bool.false_or] at h1s
        rw [hb1] at e8
        repeat' (first | refine gA (And.intro @hia @hgp) ?_ | (refine gB (And.intro @hia @hgp) ?_;intro bb hbb;cases bb<;>(try simp only [hbs,if_false,reduceCtorEq] at hbb)) | apply qc_seq | fail)
        refine q_pureEx hG0 (hfr p hpr) (wG ef) (by simp only [List.map,lk,sv1,sv2,sv3,Nat.reduceEqDiff,Nat.reduceAdd,Nat.reduceLeDiff,reduceIte,if_false,if_true,mkVal,unLV,List.map,optTmps]) (fun r hr2 hrc=>?_)
        obtain ⟨svq,hF⟩:=hr2
        have hwF:=hwf hF
        rw [← h1s] at hwF
        have hclF:=hF.closed
        obtain ⟨rfl,hse,ve,hne⟩:=hF
        have ce1:=hse.sl.cell
        have ce2:=hne.sl.cell
        refine ⟨by simp only [Chks,wantedG,LOp.run,Env.put_some,Env.put_none,lk,sv1,sv2,sv3,Nat.reduceEqDiff,Nat.reduceAdd,Nat.reduceLeDiff,reduceIte,if_false,if_true,mkVal,unLV,List.map,optTmps,beq_self_eq_true,reduceCtorEq,false_or,true_and,and_true,Option.some.injEq, *],?_⟩
        simp only [Env.put_some]
        refine q_pure hG0 (hwF) (by first | exact wN | (apply wG;(simp only [lk,Nat.reduceEqDiff,reduceIte,e2,e3,e5,e6,e7,e8,e9,e10];(try rfl);done))) (by simp only [List.map,lk,Nat.reduceEqDiff,reduceIte,e2,e3,e5,e6,e7,e8,e9,e10];try rfl) (by first | trivial | (simp only [Chks,wantedG,LOp.run,Env.put_some,Env.put_none,lk,sv1,sv2,sv3,Nat.reduceEqDiff,Nat.reduceAdd,Nat.reduceLeDiff,reduceIte,if_false,if_true,mkVal,unLV,List.map,optTmps,beq_self_eq_true,reduceCtorEq,false_or,true_and,and_true,Option.some.injEq, *];done)) ?_
        simp only [Env.put_some]
        repeat' (first | refine gA trivial ?_ | (refine gB trivial ?_;intro bb hbb;cases bb<;>(try simp only [hbs,if_false,reduceCtorEq] at hbb)) | apply qc_seq | fail)
        exact ⟨trivial,ef,ef,ef,ef,ef,ef,ef,ef⟩
    · clear e2 e3 e5 e6 e7 e8 e9 e10 h1s
      clear e
      rintro e s1 ⟨rfl,e2,e3,e5,e6,e7,e8,e9,e10⟩
      simp only [Thn]
      repeat' (first | refine gA (And.intro @hia (And.intro @hgp (And.intro @hib @gr))) ?_ | (refine gB (And.intro @hia (And.intro @hgp (And.intro @hib @gr))) ?_;intro bb hbb;cases bb<;>(try simp only [hbs,if_false,reduceCtorEq] at hbb)) | apply qc_seq | fail)
      refine q_pure hG0 (ha0) (by first | exact wN | (apply wG;(simp only [lk,Nat.reduceEqDiff,reduceIte,e2,e3,e5,e6,e7,e8,e9,e10];(try rfl);done))) (by simp only [List.map,lk,Nat.reduceEqDiff,reduceIte,e2,e3,e5,e6,e7,e8,e9,e10];try rfl) (by first | trivial | (simp only [Chks,wantedG,LOp.run,Env.put_some,Env.put_none,lk,sv1,sv2,sv3,Nat.reduceEqDiff,Nat.reduceAdd,Nat.reduceLeDiff,reduceIte,if_false,if_true,mkVal,unLV,List.map,optTmps,beq_self_eq_true,reduceCtorEq,false_or,true_and,and_true,Option.some.injEq,hia,hgp,hib,gr, *];done)) ?_
      simp only [Env.put_some]
      repeat' (first | refine gA (And.intro @hic @gx) ?_ | (refine gB (And.intro @hic @gx) ?_;intro bb hbb;cases bb<;>(try simp only [hbs,if_false,reduceCtorEq] at hbb)) | apply qc_seq | fail)
      refine qc_loop (fun m e s=>∃ k:Nat,m=(mvs B (p:Int) (x0:Int)).length - k∧k≤(mvs B (p:Int) (x0:Int)).length∧s.get 0=some (.cells .mut [st',lo'])∧e.at 2 = .pimm [.int .i64 B.L,sv,nv] 0∧e.at 3 = .pimm [st,lo] 0∧e.at 5 = .bool true∧e.at 6 = .bool x∧e.at 7 = .pref 0 0∧e.at 8 = .bool (oneB B S L (i+1))∧e.at 9 = .bool (movedB B S' L' x0 i || mvB B S' L' p x0 k)∧e.at 10 = .int .i64 (i:Int)∧e.at 11=mv∧e.at 12 = .int .i64 (k:Int)) _
        ⟨0,rfl,Nat.zero_le _,g0,ef,ef,ef,ef,ef,ef,by simp only [lk,sv1,sv2,sv3,Nat.reduceEqDiff,Nat.reduceAdd,Nat.reduceLeDiff,reduceIte,if_false,if_true,mkVal,unLV,List.map,optTmps,e9,mvB,ex_zero,Bool.or_false],ef,ef,by simp only [lk,sv1,sv2,sv3,Nat.reduceEqDiff,Nat.reduceAdd,Nat.reduceLeDiff,reduceIte,if_false,if_true,mkVal,unLV,List.map,optTmps];rfl⟩ ?_
      clear e2 e3 e5 e6 e7 e8 e9 e10 g0
      clear e s1
      rintro m e s ⟨k,rfl,hk,g0,e2,e3,e5,e6,e7,e8,e9,e10,e11,e12⟩
      have hmlen:=hmo.len
      by_cases hkl:k<(mvs B (p:Int) (x0:Int)).length
      · have hkI:(k:Int)<((mvs B (p:Int) (x0:Int)).length:Int):=by omega
        have hwk:IntKind.i64.wrap ((k:Int)+1)=((k+1:Nat):Int):=by rw [wrap_i64 _ (by omega) (by omega)];rfl
        have him:=fun s=>iaN hmo.sl (esz:=2) (k:=.i64) (s:=s) hkI
        have gm:=mcells_get0 hkl
        have hto:=hmr k hkl
        have h3s:mvB B S' L' p x0 (k+1)=(mvB B S' L' p x0 k || decide (AW (frm B ((mvs B (p:Int) (x0:Int)).getD k (0,false)).1) S' L')):=ex_succ
        obtain ⟨q,hq⟩:∃ q,((mvs B (p:Int) (x0:Int)).getD k (0,false)).1=q:=⟨_,rfl⟩
        rw [hq] at gm hto h3s
        have hqr:inI64 q:=by have:=hto.1;have:=hto.2.1;constructor<;>omega
        repeat' (first | refine gA @hml ?_ | (refine gB @hml ?_;intro bb hbb;cases bb<;>(try simp only [hbs,if_false,reduceCtorEq] at hbb)) | apply qc_seq | fail)
        all_goals first
          | (exfalso;omega)
          | skip
        refine q_mono (fun e' s'=>s'=s∧e'.at 2 = .pimm [.int .i64 B.L,sv,nv] 0∧e'.at 3 = .pimm [st,lo] 0∧e'.at 5 = .bool true∧e'.at 6 = .bool x∧e'.at 7 = .pref 0 0∧e'.at 8 = .bool (oneB B S L (i+1))∧e'.at 9 = .bool (movedB B S' L' x0 i || mvB B S' L' p x0 (k+1))∧e'.at 10 = .int .i64 (i:Int)∧e'.at 11=mv∧e'.at 12 = .int .i64 (k:Int)) ?_ ?_
        · rw [h3s,← Bool.or_assoc]
          cases hb2:(movedB B S' L' x0 i || mvB B S' L' p x0 k) with
          | true=>
            rw [hb2] at e9
            rw [Bool.true_or]
            repeat' (first | refine gA trivial ?_ | (refine gB trivial ?_;intro bb hbb;cases bb<;>(try simp only [hbs,if_false,reduceCtorEq] at hbb)) | apply qc_seq | fail)
            exact ⟨trivial,ef,ef,ef,ef,ef,ef,ef,ef,ef,ef⟩
          | false=>
            rw [hb2] at e9
            rw [Bool.false_or]
            repeat' (first | refine gA (And.intro @him @gm) ?_ | (refine gB (And.intro @him @gm) ?_;intro bb hbb;cases bb<;>(try simp only [hbs,if_false,reduceCtorEq] at hbb)) | apply qc_seq | fail)
            refine q_pureEx hG0 (hfr q hqr) (wG ef) (by simp only [List.map,lk,sv1,sv2,sv3,Nat.reduceEqDiff,Nat.reduceAdd,Nat.reduceLeDiff,reduceIte,if_false,if_true,mkVal,unLV,List.map,optTmps]) (fun r hr2 hrc=>?_)
            obtain ⟨svq,hF⟩:=hr2
            have hwF:=hr2' hF
            have hclF:=hF.closed
            obtain ⟨rfl,hse,ve,hne⟩:=hF
            have ce1:=hse.sl.cell
            have ce2:=hne.sl.cell
            refine ⟨by simp only [Chks,wantedG,LOp.run,Env.put_some,Env.put_none,lk,sv1,sv2,sv3,Nat.reduceEqDiff,Nat.reduceAdd,Nat.reduceLeDiff,reduceIte,if_false,if_true,mkVal,unLV,List.map,optTmps,beq_self_eq_true,reduceCtorEq,false_or,true_and,and_true,Option.some.injEq, *],?_⟩
            simp only [Env.put_some]
            refine q_pure hG0 (hwF) (by first | exact wN | (apply wG;(simp only [lk,Nat.reduceEqDiff,reduceIte,e2,e3,e5,e6,e7,e8,e9,e10,e11,e12];(try rfl);done))) (by simp only [List.map,lk,Nat.reduceEqDiff,reduceIte,e2,e3,e5,e6,e7,e8,e9,e10,e11,e12];try rfl) (by first | trivial | (simp only [Chks,wantedG,LOp.run,Env.put_some,Env.put_none,lk,sv1,sv2,sv3,Nat.reduceEqDiff,Nat.reduceAdd,Nat.reduceLeDiff,reduceIte,if_false,if_true,mkVal,unLV,List.map,optTmps,beq_self_eq_true,reduceCtorEq,false_or,true_and,and_true,Option.some.injEq, *];done)) ?_
            simp only [Env.put_some]
            repeat' (first | refine gA trivial ?_ | (refine gB trivial ?_;intro bb hbb;cases bb<;>(try simp only [hbs,if_false,reduceCtorEq] at hbb)) | apply qc_seq | fail)
            exact ⟨trivial,ef,ef,ef,ef,ef,ef,ef,ef,ef,ef⟩
        · clear e2 e3 e5 e6 e7 e8 e9 e10 e11 e12 h3s
          clear e
          rintro e s1 ⟨rfl,e2,e3,e5,e6,e7,e8,e9,e10,e11,e12⟩
          try simp only [Thn]
          repeat' (first | refine gA trivial ?_ | (refine gB trivial ?_;intro bb hbb;cases bb<;>(try simp only [hbs,if_false,reduceCtorEq] at hbb)) | apply qc_seq | fail)
          refine ⟨(mvs B (p:Int) (x0:Int)).length - (k+1),by omega,k+1,rfl,by omega,g0,?_⟩
          simp only [lk,sv1,sv2,sv3,Nat.reduceEqDiff,Nat.reduceAdd,Nat.reduceLeDiff,reduceIte,if_false,if_true,mkVal,unLV,List.map,optTmps,hwk,e2,e3,e5,e6,e7,e8,e9,e10,e11,and_self]
      · obtain rfl:k=(mvs B (p:Int) (x0:Int)).length:=by omega
        rw [← h2s] at e9
        repeat' (first | refine gA @hml ?_ | (refine gB @hml ?_;intro bb hbb;cases bb<;>(try simp only [hbs,if_false,reduceCtorEq] at hbb)) | apply qc_seq | fail)
        all_goals first
          | (exfalso;omega)
          | skip
        refine ⟨B.start.length - (i+1),by omega,i+1,rfl,by omega,g0,?_⟩
        simp only [lk,sv1,sv2,sv3,Nat.reduceEqDiff,Nat.reduceAdd,Nat.reduceLeDiff,reduceIte,if_false,if_true,mkVal,unLV,List.map,optTmps,hw,e2,e3,e5,e6,e7,e8,e9,and_self]
  · obtain rfl:i=B.start.length:=by omega
    rw [hE1] at e8
    rw [hE2] at e9
    cases x
    all_goals
      repeat' (first | refine gA @hstl ?_ | (refine gB @hstl ?_;intro bb hbb;cases bb<;>(try simp only [hbs,if_false,reduceCtorEq] at hbb)) | apply qc_seq | fail)
    all_goals first
      | exact absurd hbb (by decide)
      | (exfalso;omega)
      | exact ⟨.inr trivial,ef⟩
end Go.Proofs.YtpjdddpjcfdlfaaGreatDoor
