/- The moves of both, one by one, as long as they are wanted. -/
import Derived.Test.YtmblpcidfjemhaaDoorPnum
set_option linter.unusedSimpArgs false
set_option linter.unusedVariables false
section
set_option linter.unusedSimpArgs false
set_option linter.unusedVariables false
namespace Go.Proofs.YtmblpcidfjemhaaDoor
open Go Go.Pv Go.Bfs
open Classical
set_option maxHeartbeats 16000000 in
theorem piter_lim {vA vB:LV} {A B:Bu} {sa na sb nb:LV} (hA:IsB vA A sa na) (hB:IsB vB B sb nb) (okA:Vb A) (okB:Vb B) (hL:A.L=B.L) {x y t a:Nat} (hx:x<A.next.length) (hy:y<B.next.length) (ht:t<2) (ha:(a:Int)<A.L) {yv:LV} {s:St} {I:Nat→(Nat→Prop)→St→Prop} {J:St→Prop} {U0:Nat→Prop} (hI0:I 0 U0 s)
    (hlt:∀ k U s1,I k U s1→∀ id,U id→id<s1.n)
    (hst:∀ k U s1 s2,I k U s1→s.n≤s1.n→s1.n≤s2.n→(∀ i,i<s1.n→(i<s.n∨U i)→s2.get i=s1.get i)→I k U s2)
    (hbd:∀ k m U s1,(mvX A B x y t a)[k]? = some m→I k U s1→s.n≤s1.n→CallOk Tryd.prog GL yv [.agg [.int .i64 (px B.next.length m.1), .int .i64 (py B.next.length m.1), .int .i64 (pt m.1)], .bool m.2] s1 (fun r s2=>(r = .bool true∧∃ U',s1.n≤s2.n∧(∀ id,s.n≤id→id<s1.n→¬ U id→s2.get id=s1.get id)∧(∀ id,U' id→U id∨s1.n≤id)∧I (k+1) U' s2)∨(r = .bool false∧J s2))) :
    CallOk Tryd.prog GL (.fn (.func 44) [] [.pimm [.int .i64 A.L,sa,na] 0, .pimm [.int .i64 (x:Int), .int .i64 (y:Int), .int .i64 (t:Int)] 0, .pimm [.int .i64 (a:Int)] 0, .pimm [.int .i64 B.L,sb,nb] 0]) [yv] s (fun _ s'=>((s.n≤s'.n∧∃ U,I (mvX A B x y t a).length U s')∨J s')):=by
  obtain ⟨rfl,hstA,vsA,hnA⟩:=hA
  obtain ⟨rfl,hstB,vsB,hnB⟩:=hB
  have hc1:=hstA.sl.cell
  have hc2:=hnA.sl.cell
  have hc3:=hstB.sl.cell
  have hc4:=hnB.sl.cell
  have hnlA:=hnA.sl.len
  have hnlB:=hnB.sl.len
  have hn3A:=okA.2.2.1
  have hn3B:=okB.2.2.1
  have hmx:maxLen=9223372036854775807:=by decide
  refine call_fn (first:=[]) (caps:=[.pimm [.int .i64 A.L,sa,na] 0, .pimm [.int .i64 (x:Int), .int .i64 (y:Int), .int .i64 (t:Int)] 0, .pimm [.int .i64 (a:Int)] 0, .pimm [.int .i64 B.L,sb,nb] 0]) Tryd.func44 (by decide +kernel) c44 (Nat.le_of_ble_eq_true rfl) (CodeOk.mono (Q:=fun o e s'=>(o = .normal∨o = .jmp .ret)∧((s.n≤s'.n∧∃ U,I (mvX A B x y t a).length U s')∨J s')) ?_ fun o e s' hh=>by
    exact ⟨hh.1, .tup [],by simp [l44,resVal],hh.2⟩)
  have e0:(envOf ([]++[yv]++[.pimm [.int .i64 A.L,sa,na] 0, .pimm [.int .i64 (x:Int), .int .i64 (y:Int), .int .i64 (t:Int)] 0, .pimm [.int .i64 (a:Int)] 0, .pimm [.int .i64 B.L,sb,nb] 0])).at 0=yv:=by rw [envOf_at];rfl
  have e1:(envOf ([]++[yv]++[.pimm [.int .i64 A.L,sa,na] 0, .pimm [.int .i64 (x:Int), .int .i64 (y:Int), .int .i64 (t:Int)] 0, .pimm [.int .i64 (a:Int)] 0, .pimm [.int .i64 B.L,sb,nb] 0])).at 1 = .pimm [.int .i64 A.L,sa,na] 0:=by rw [envOf_at];rfl
  have e2:(envOf ([]++[yv]++[.pimm [.int .i64 A.L,sa,na] 0, .pimm [.int .i64 (x:Int), .int .i64 (y:Int), .int .i64 (t:Int)] 0, .pimm [.int .i64 (a:Int)] 0, .pimm [.int .i64 B.L,sb,nb] 0])).at 2 = .pimm [.int .i64 (x:Int), .int .i64 (y:Int), .int .i64 (t:Int)] 0:=by rw [envOf_at];rfl
  have e3:(envOf ([]++[yv]++[.pimm [.int .i64 A.L,sa,na] 0, .pimm [.int .i64 (x:Int), .int .i64 (y:Int), .int .i64 (t:Int)] 0, .pimm [.int .i64 (a:Int)] 0, .pimm [.int .i64 B.L,sb,nb] 0])).at 3 = .pimm [.int .i64 (a:Int)] 0:=by rw [envOf_at];rfl
  have e4:(envOf ([]++[yv]++[.pimm [.int .i64 A.L,sa,na] 0, .pimm [.int .i64 (x:Int), .int .i64 (y:Int), .int .i64 (t:Int)] 0, .pimm [.int .i64 (a:Int)] 0, .pimm [.int .i64 B.L,sb,nb] 0])).at 4 = .pimm [.int .i64 B.L,sb,nb] 0:=by rw [envOf_at];rfl
  generalize envOf ([]++[yv]++[.pimm [.int .i64 A.L,sa,na] 0, .pimm [.int .i64 (x:Int), .int .i64 (y:Int), .int .i64 (t:Int)] 0, .pimm [.int .i64 (a:Int)] 0, .pimm [.int .i64 B.L,sb,nb] 0])=e at *
  refine Cd.out ?_
  unfold l44
  dsimp only [jA,jB,jD,jG,qL,qN,qF,qS,qI,qA,qB,qC,qm,ql]
  have g1:vsA[x]? = some (vsA.getD x .top):=hnA.get hx
  obtain ⟨wsA,hrA⟩:=hnA.row x hx
  have hROKA:=okA.2.2.2.2 x hx
  have hxI:(x:Int)<(A.next.length:Int):=by omega
  have halA:a<(A.next.getD x []).length:=by have:=hROKA.1;omega
  have haIA:(a:Int)<((A.next.getD x []).length:Int):=by omega
  have g2:wsA[a]? = some (wsA.getD a .top):=hrA.get halA
  have hmA:=hrA.row a halA
  have hmoA:=hROKA.2 a halA
  have h1:vsB[y]? = some (vsB.getD y .top):=hnB.get hy
  obtain ⟨wsB,hrB⟩:=hnB.row y hy
  have hROKB:=okB.2.2.2.2 y hy
  have hyI:(y:Int)<(B.next.length:Int):=by omega
  have halB:a<(B.next.getD y []).length:=by have:=hROKB.1;omega
  have haIB:(a:Int)<((B.next.getD y []).length:Int):=by omega
  have h2:wsB[a]? = some (wsB.getD a .top):=hrB.get halB
  have hmB:=hrB.row a halB
  have hmoB:=hROKB.2 a halB
  have hms:rowM A x a=(A.next.getD x []).getD a []:=rfl
  have hns:rowM B y a=(B.next.getD y []).getD a []:=rfl
  rw [← hms] at hmA hmoA
  rw [← hns] at hmB hmoB
  have hrlA:=hrA.sl.len
  have hrlB:=hrB.sl.len
  have hfl:∀ mx∈rowM A x a,((rowM B y a).map (pstep B.next.length t mx)).length=(rowM B y a).length:=fun mx _=>by simp
  have hXl:(mvX A B x y t a).length=(rowM A x a).length*(rowM B y a).length:=fm_len hfl
  have hget:∀ i j mx my,(rowM A x a)[i]? = some mx→(rowM B y a)[j]? = some my→(mvX A B x y t a)[i*(rowM B y a).length+j]? = some (pstep B.next.length t mx my):=fun i j mx my hi hj=>by
    unfold mvX
    rw [fm_get (List.getElem?_eq_some_iff.1 hj).1 hfl hi,List.getElem?_map,hj];rfl
  rw [hXl]
  clear hXl hfl hms hns hROKA hROKB
  generalize mvX A B x y t a=mv at *
  generalize rowM A x a=ms at *
  generalize rowM B y a=ns at *
  have hia1:=fun s=>iaN hnA.sl (esz:=1) (k:=.i64) (s:=s) hxI
  have hia2:=fun s=>iaN hrA.sl (esz:=1) (k:=.i64) (s:=s) haIA
  have hib1:=fun s=>iaN hnB.sl (esz:=1) (k:=.i64) (s:=s) hyI
  have hib2:=fun s=>iaN hrB.sl (esz:=1) (k:=.i64) (s:=s) haIB
  simp only [Nat.mul_one] at hia1 hia2 hib1 hib2
  generalize A.next.getD x []=rowA at *
  generalize B.next.getD y []=rowB at *
  generalize vsA.getD x .top=rvA at *
  generalize wsA.getD a .top=mvA at *
  generalize vsB.getD y .top=rvB at *
  generalize wsB.getD a .top=mvB at *
  have hmlA:=hmA.sl.len
  have hmlB:=hmB.sl.len
  have hlenA:=hmA.len
  have hlenB:=hmB.len
  repeat' (first | refine gA (And.intro @hia1 (And.intro @g1 (And.intro @hia2 (And.intro @g2 @hmlA)))) ?_ | (refine gB (And.intro @hia1 (And.intro @g1 (And.intro @hia2 (And.intro @g2 @hmlA)))) ?_;intro bb hbb;cases bb<;>(try simp only [hbs,if_false,reduceCtorEq] at hbb)) | apply qc_seq | fail)
  refine qc_loop (fun m e s1=>∃ i:Nat,m=ms.length - i∧i≤ms.length∧s.n≤s1.n∧(∃ U,I (i*ns.length) U s1)∧e.at 0=yv∧e.at 2 = .pimm [.int .i64 (x:Int), .int .i64 (y:Int), .int .i64 (t:Int)] 0∧e.at 3 = .pimm [.int .i64 (a:Int)] 0∧e.at 4 = .pimm [.int .i64 B.L,sb,nb] 0∧e.at 19=mvA∧e.at 20 = .int .i64 (ms.length:Int)∧e.at 21 = .int .i64 (i:Int)) _
    ⟨0,rfl,by omega,Nat.le_refl _,⟨U0,by rw [Nat.zero_mul];exact hI0⟩,ef,ef,ef,ef,ef,ef,by simp only [lk,sv1,sv2,sv3,Nat.reduceEqDiff,Nat.reduceAdd,Nat.reduceLeDiff,reduceIte,if_false,if_true,mkVal,unLV,List.map,optTmps];rfl⟩ ?_
  clear e0 e1 e2 e3 e4
  clear e
  rintro m e s1 ⟨i,rfl,hi,hn1,⟨U,hI⟩,e0,e2,e3,e4,e19,e20,e21⟩
  by_cases hil:i<ms.length
  · have hiI:(i:Int)<(ms.length:Int):=by omega
    have hw:IntKind.i64.wrap ((i:Int)+1)=((i+1:Nat):Int):=by rw [wrap_i64 _ (by omega) (by omega)];rfl
    have hld:=fun s=>loadN_moves (s:=s) hil
    obtain ⟨mm,hmm⟩:∃ mm,ms[i]? = some mm:=⟨_,List.getElem?_eq_getElem hil⟩
    have hgd:ms.getD i (0,false)=mm:=by rw [List.getD_eq_getElem?_getD,hmm];rfl
    have hm0:=(hmoA i hil).1
    rw [hgd] at hld hm0
    have hiaM:=fun s=>iaN hmA.sl (esz:=2) (k:=.i64) (s:=s) hiI
    repeat' (first | refine gA (And.intro @hiaM @hld) ?_ | (refine gB (And.intro @hiaM @hld) ?_;intro bb hbb;cases bb<;>(try simp only [hbs,if_false,reduceCtorEq] at hbb)) | apply qc_seq | fail)
    · exfalso;omega
    clear hld hiaM hgd
    obtain ⟨r7,hr7⟩:∃ r7,s1.n=r7:=⟨_,rfl⟩
    have hU7:=hlt _ _ _ hI
    have hI2:=hst _ _ s1 ((s1.new (.cells .mut [.int .i64 0, .bool false])).put s1.n (.cells .mut [.int .i64 mm.1, .bool mm.2])) hI hn1 (by simp) fun i hi _=>by rw [St.get_put,if_neg (by omega),St.get_new,if_neg (by omega)]
    have gr7:((s1.new (.cells .mut [.int .i64 0, .bool false])).put s1.n (.cells .mut [.int .i64 mm.1, .bool mm.2])).get r7=some (.cells .mut [.int .i64 mm.1, .bool mm.2]):=by rw [St.get_put,if_pos hr7.symm]
    have hnn:((s1.new (.cells .mut [.int .i64 0, .bool false])).put s1.n (.cells .mut [.int .i64 mm.1, .bool mm.2])).n=r7+1:=by rw [St.n_put,St.n_new,hr7]
    rw [hr7] at hn1 hU7 hI2 gr7 hnn ⊢
    generalize (s1.new (.cells .mut [.int .i64 0, .bool false])).put r7 (.cells .mut [.int .i64 mm.1, .bool mm.2])=s2 at hI2 gr7 hnn ⊢
    clear hI hr7
    repeat' (first | refine gA (And.intro @hib1 (And.intro @h1 (And.intro @hib2 (And.intro @h2 @hmlB)))) ?_ | (refine gB (And.intro @hib1 (And.intro @h1 (And.intro @hib2 (And.intro @h2 @hmlB)))) ?_;intro bb hbb;cases bb<;>(try simp only [hbs,if_false,reduceCtorEq] at hbb)) | apply qc_seq | fail)
    refine qc_loop (fun m e s2=>∃ (j:Nat) (U:Nat→Prop),m=ns.length - j∧j≤ns.length∧r7<s2.n∧I (i*ns.length+j) U s2∧¬ U r7∧s2.get r7=some (.cells .mut [.int .i64 mm.1, .bool mm.2])∧e.at 0=yv∧e.at 2 = .pimm [.int .i64 (x:Int), .int .i64 (y:Int), .int .i64 (t:Int)] 0∧e.at 3 = .pimm [.int .i64 (a:Int)] 0∧e.at 4 = .pimm [.int .i64 B.L,sb,nb] 0∧e.at 7 = .pref r7 0∧e.at 19=mvA∧e.at 20 = .int .i64 (ms.length:Int)∧e.at 21 = .int .i64 (i:Int)∧e.at 33=mvB∧e.at 34 = .int .i64 (ns.length:Int)∧e.at 35 = .int .i64 (j:Int)) _
      ⟨0,U,rfl,by omega,by omega,hI2,fun hu=>by have:=hU7 _ hu;omega,gr7,ef,ef,ef,ef,ef,ef,ef,ef,ef,ef,by simp only [lk,sv1,sv2,sv3,Nat.reduceEqDiff,Nat.reduceAdd,Nat.reduceLeDiff,reduceIte,if_false,if_true,mkVal,unLV,List.map,optTmps];rfl⟩ ?_
    clear e0 e2 e3 e4 e19 e20 e21 hI2 gr7 hU7 hnn
    clear e U s2
    rintro m e s2 ⟨j,U,rfl,hj,hn2,hI,hu7,gr7,e0,e2,e3,e4,e7,e19,e20,e21,e33,e34,e35⟩
    by_cases hjl:j<ns.length
    · have hjI:(j:Int)<(ns.length:Int):=by omega
      have hwj:IntKind.i64.wrap ((j:Int)+1)=((j+1:Nat):Int):=by rw [wrap_i64 _ (by omega) (by omega)];rfl
      obtain ⟨mk,hmk⟩:∃ mk,ns[j]? = some mk:=⟨_,List.getElem?_eq_getElem hjl⟩
      have hgd:ns.getD j (0,false)=mk:=by rw [List.getD_eq_getElem?_getD,hmk];rfl
      have hk0:=(hmoB j hjl).1
      have hk1:=(hmoB j hjl).2.1
      rw [hgd] at hk0 hk1
      have hstep:=hget i j mm mk hmm hmk
      have hpp:=pcode_parts (m:=B.next.length) (x:=mm.1.toNat) (y:=mk.1.toNat) (t:=tn t mm.2 mk.2 % 2) (by omega) (Nat.mod_lt _ (by decide))
      have hp0:(pstep B.next.length t mm mk).1=pcode B.next.length mm.1.toNat mk.1.toNat (tn t mm.2 mk.2 % 2):=rfl
      have hp1:(pstep B.next.length t mm mk).2=decide (tn t mm.2 mk.2=2):=rfl
      have hb':=fun s3=>hbd (i*ns.length+j) _ U s3 hstep
      rw [hp0,hp1,hpp.1,hpp.2.1,hpp.2.2,show ((mm.1.toNat:Nat):Int)=mm.1 by omega,show ((mk.1.toNat:Nat):Int)=mk.1 by omega] at hb'
      have ht2:=tn_le ht mm.2 mk.2
      have htn:∃ t1,t1=(if t=0∧mm.2=true then 1 else t)∧tn t mm.2 mk.2=(if t1=1∧mk.2=true then 2 else t1):=⟨_,rfl,rfl⟩
      obtain ⟨t1,ht1,htn⟩:=htn
      clear hpp hp0 hp1 hstep hk1
      repeat' (first | refine gA trivial ?_ | (refine gB trivial ?_;intro bb hbb;cases bb<;>(try simp only [hbs,if_false,reduceCtorEq] at hbb)) | apply qc_seq | fail)
      · exfalso;omega
      obtain ⟨r9,hr9⟩:∃ r9,s2.n=r9:=⟨_,rfl⟩
      have hU9:=hlt _ _ _ hI
      have hI3:=hst _ _ s2 ((s2.new (.cells .mut [.int .i64 0, .bool false])).put s2.n (.cells .mut [.int .i64 mk.1, .bool mk.2])) hI (by omega) (by simp) fun i hi _=>by rw [St.get_put,if_neg (by omega),St.get_new,if_neg (by omega)]
      have gr9:((s2.new (.cells .mut [.int .i64 0, .bool false])).put s2.n (.cells .mut [.int .i64 mk.1, .bool mk.2])).get r9=some (.cells .mut [.int .i64 mk.1, .bool mk.2]):=by rw [St.get_put,if_pos hr9.symm]
      have gr7':((s2.new (.cells .mut [.int .i64 0, .bool false])).put s2.n (.cells .mut [.int .i64 mk.1, .bool mk.2])).get r7=some (.cells .mut [.int .i64 mm.1, .bool mm.2]):=by rw [St.get_put,if_neg (by omega),St.get_new,if_neg (by omega)];exact gr7
      have hnn:((s2.new (.cells .mut [.int .i64 0, .bool false])).put s2.n (.cells .mut [.int .i64 mk.1, .bool mk.2])).n=r9+1:=by rw [St.n_put,St.n_new,hr9]
      rw [hr9] at gr9 gr7' hI3
      refine q_mono (fun e' s3=>s3.get r9=some (.cells .mut [.int .i64 mk.1, .bool mk.2])∧s3.get r7=some (.cells .mut [.int .i64 mm.1, .bool mm.2])∧s3.n=r9+1∧I (i*ns.length+j) U s3∧e'.at 0=yv∧e'.at 2 = .pimm [.int .i64 (x:Int), .int .i64 (y:Int), .int .i64 (t:Int)] 0∧e'.at 3 = .pimm [.int .i64 (a:Int)] 0∧e'.at 4 = .pimm [.int .i64 B.L,sb,nb] 0∧e'.at 7 = .pref r7 0∧e'.at 9 = .pref r9 0∧e'.at 19=mvA∧e'.at 20 = .int .i64 (ms.length:Int)∧e'.at 21 = .int .i64 (i:Int)∧e'.at 33=mvB∧e'.at 34 = .int .i64 (ns.length:Int)∧e'.at 35 = .int .i64 (j:Int)) ?_ ?_
      · clear hb'
        have hld:=fun s=>loadN_moves (s:=s) hjl
        rw [hgd] at hld
        have hiaM:=fun s=>iaN hmB.sl (esz:=2) (k:=.i64) (s:=s) hjI
        repeat' (first | refine gA (And.intro @hiaM @hld) ?_ | (refine gB (And.intro @hiaM @hld) ?_;intro bb hbb;cases bb<;>(try simp only [hbs,if_false,reduceCtorEq] at hbb)) | apply qc_seq | fail)
        refine ⟨gr9,gr7',hnn,hI3,?_⟩
        simp only [lk,sv1,sv2,sv3,Nat.reduceEqDiff,Nat.reduceAdd,Nat.reduceLeDiff,reduceIte,if_false,if_true,mkVal,unLV,List.map,optTmps,e0,e2,e3,e4,e7,e19,e20,e21,e33,e34,e35,hr9,and_self]
      clear e0 e2 e3 e4 e7 e19 e20 e21 e33 e34 e35 gr9 gr7' hnn hI3 gr7 hI hgd
      clear e
      rw [hr9] at hn2 hU9
      clear hr9
      clear s2
      rintro e s3 ⟨gr9,gr7,hn3,hI,e0,e2,e3,e4,e7,e9,e19,e20,e21,e33,e34,e35⟩
      simp only [Thn]
      refine qc_mid (fun e' s4=>s3=s4∧e'.at 10 = .int .i64 (t:Int)∧e'.at 0=yv∧e'.at 2 = .pimm [.int .i64 (x:Int), .int .i64 (y:Int), .int .i64 (t:Int)] 0∧e'.at 3 = .pimm [.int .i64 (a:Int)] 0∧e'.at 4 = .pimm [.int .i64 B.L,sb,nb] 0∧e'.at 7 = .pref r7 0∧e'.at 9 = .pref r9 0∧e'.at 19=mvA∧e'.at 20 = .int .i64 (ms.length:Int)∧e'.at 21 = .int .i64 (i:Int)∧e'.at 33=mvB∧e'.at 34 = .int .i64 (ns.length:Int)∧e'.at 35 = .int .i64 (j:Int)) ?_ ?_
      · clear hb'
        repeat' (first | refine gA trivial ?_ | (refine gB trivial ?_;intro bb hbb;cases bb<;>(try simp only [hbs,if_false,reduceCtorEq] at hbb)) | apply qc_seq | fail)
        refine ⟨trivial,?_⟩
        simp only [lk,sv1,sv2,sv3,Nat.reduceEqDiff,Nat.reduceAdd,Nat.reduceLeDiff,reduceIte,if_false,if_true,mkVal,unLV,List.map,optTmps,e0,e2,e3,e4,e7,e9,e19,e20,e21,e33,e34,e35,and_self]
      clear e0 e2 e3 e4 e7 e9 e19 e20 e21 e33 e34 e35
      clear e
      rintro e s4 ⟨rfl,e10,e0,e2,e3,e4,e7,e9,e19,e20,e21,e33,e34,e35⟩
      refine qc_mid (fun e' s4=>s3=s4∧e'.at 10 = .int .i64 (t1:Int)∧e'.at 0=yv∧e'.at 2 = .pimm [.int .i64 (x:Int), .int .i64 (y:Int), .int .i64 (t:Int)] 0∧e'.at 3 = .pimm [.int .i64 (a:Int)] 0∧e'.at 4 = .pimm [.int .i64 B.L,sb,nb] 0∧e'.at 7 = .pref r7 0∧e'.at 9 = .pref r9 0∧e'.at 19=mvA∧e'.at 20 = .int .i64 (ms.length:Int)∧e'.at 21 = .int .i64 (i:Int)∧e'.at 33=mvB∧e'.at 34 = .int .i64 (ns.length:Int)∧e'.at 35 = .int .i64 (j:Int)) ?_ ?_
      · clear hb' htn
        obtain ⟨mm1,gx⟩:=mm
        cases gx
        · repeat' (first | refine gA trivial ?_ | (refine gB trivial ?_;intro bb hbb;cases bb<;>(try simp only [hbs,if_false,reduceCtorEq] at hbb)) | apply qc_seq | fail)
          · refine ⟨trivial,?_⟩
            simp only [lk,sv1,sv2,sv3,Nat.reduceEqDiff,Nat.reduceAdd,Nat.reduceLeDiff,reduceIte,if_false,if_true,mkVal,unLV,List.map,optTmps,e0,e2,e3,e4,e7,e9,e19,e20,e21,e33,e34,e35,e10,ht1,Bool.false_eq_true,and_false,if_false,and_self]
          · refine ⟨trivial,?_⟩
            simp only [lk,sv1,sv2,sv3,Nat.reduceEqDiff,Nat.reduceAdd,Nat.reduceLeDiff,reduceIte,if_false,if_true,mkVal,unLV,List.map,optTmps,e0,e2,e3,e4,e7,e9,e19,e20,e21,e33,e34,e35,e10,ht1,Bool.false_eq_true,and_false,if_false,and_self]
        · repeat' (first | refine gA trivial ?_ | (refine gB trivial ?_;intro bb hbb;cases bb<;>(try simp only [hbs,if_false,reduceCtorEq] at hbb)) | apply qc_seq | fail)
          · refine ⟨trivial,?_⟩
            have h0:¬ t=0:=by omega
            simp only [lk,sv1,sv2,sv3,Nat.reduceEqDiff,Nat.reduceAdd,Nat.reduceLeDiff,reduceIte,if_false,if_true,mkVal,unLV,List.map,optTmps,e0,e2,e3,e4,e7,e9,e19,e20,e21,e33,e34,e35,e10,ht1,h0,false_and,if_false,and_self]
          · refine ⟨trivial,?_⟩
            have h0:t=0:=by omega
            simp only [lk,sv1,sv2,sv3,Nat.reduceEqDiff,Nat.reduceAdd,Nat.reduceLeDiff,reduceIte,if_false,if_true,mkVal,unLV,List.map,optTmps,e0,e2,e3,e4,e7,e9,e19,e20,e21,e33,e34,e35,e10,ht1,h0,true_and,if_true,and_self]
            simp
      clear e0 e2 e3 e4 e7 e9 e19 e20 e21 e33 e34 e35 e10
      clear e
      rintro e s4 ⟨rfl,e10,e0,e2,e3,e4,e7,e9,e19,e20,e21,e33,e34,e35⟩
      refine qc_mid (fun e' s4=>s3=s4∧e'.at 10 = .int .i64 (tn t mm.2 mk.2:Int)∧e'.at 0=yv∧e'.at 2 = .pimm [.int .i64 (x:Int), .int .i64 (y:Int), .int .i64 (t:Int)] 0∧e'.at 3 = .pimm [.int .i64 (a:Int)] 0∧e'.at 4 = .pimm [.int .i64 B.L,sb,nb] 0∧e'.at 7 = .pref r7 0∧e'.at 9 = .pref r9 0∧e'.at 19=mvA∧e'.at 20 = .int .i64 (ms.length:Int)∧e'.at 21 = .int .i64 (i:Int)∧e'.at 33=mvB∧e'.at 34 = .int .i64 (ns.length:Int)∧e'.at 35 = .int .i64 (j:Int)) ?_ ?_
      · clear hb'
        rw [htn]
        obtain ⟨mk1,gx⟩:=mk
        cases gx
        · repeat' (first | refine gA trivial ?_ | (refine gB trivial ?_;intro bb hbb;cases bb<;>(try simp only [hbs,if_false,reduceCtorEq] at hbb)) | apply qc_seq | fail)
          · refine ⟨trivial,?_⟩
            simp only [lk,sv1,sv2,sv3,Nat.reduceEqDiff,Nat.reduceAdd,Nat.reduceLeDiff,reduceIte,if_false,if_true,mkVal,unLV,List.map,optTmps,e0,e2,e3,e4,e7,e9,e19,e20,e21,e33,e34,e35,e10,Bool.false_eq_true,and_false,if_false,and_self]
          · refine ⟨trivial,?_⟩
            simp only [lk,sv1,sv2,sv3,Nat.reduceEqDiff,Nat.reduceAdd,Nat.reduceLeDiff,reduceIte,if_false,if_true,mkVal,unLV,List.map,optTmps,e0,e2,e3,e4,e7,e9,e19,e20,e21,e33,e34,e35,e10,Bool.false_eq_true,and_false,if_false,and_self]
        · repeat' (first | refine gA trivial ?_ | (refine gB trivial ?_;intro bb hbb;cases bb<;>(try simp only [hbs,if_false,reduceCtorEq] at hbb)) | apply qc_seq | fail)
          · refine ⟨trivial,?_⟩
            have h0:¬ t1=1:=by omega
            simp only [lk,sv1,sv2,sv3,Nat.reduceEqDiff,Nat.reduceAdd,Nat.reduceLeDiff,reduceIte,if_false,if_true,mkVal,unLV,List.map,optTmps,e0,e2,e3,e4,e7,e9,e19,e20,e21,e33,e34,e35,e10,h0,false_and,if_false,and_self]
          · refine ⟨trivial,?_⟩
            have h0:t1=1:=by omega
            simp only [lk,sv1,sv2,sv3,Nat.reduceEqDiff,Nat.reduceAdd,Nat.reduceLeDiff,reduceIte,if_false,if_true,mkVal,unLV,List.map,optTmps,e0,e2,e3,e4,e7,e9,e19,e20,e21,e33,e34,e35,e10,h0,true_and,if_true,and_self]
            simp
      clear e0 e2 e3 e4 e7 e9 e19 e20 e21 e33 e34 e35 e10
      clear e ht1 htn
      clear t1
      rintro e s4 ⟨rfl,e10,e0,e2,e3,e4,e7,e9,e19,e20,e21,e33,e34,e35⟩
      generalize tn t mm.2 mk.2=t2 at *
      have hrem:binLV .rem (.int .i64 (t2:Int)) (.int .i64 2)=some (.int .i64 ((t2 % 2:Nat):Int)):=by
        have:t2=0∨t2=1∨t2=2:=by omega
        rcases this with rfl | rfl | rfl<;>rfl
      have heql:binLV .eql (.int .i64 (t2:Int)) (.int .i64 2)=some (.bool (decide (t2=2))):=by
        have:t2=0∨t2=1∨t2=2:=by omega
        rcases this with rfl | rfl | rfl<;>rfl
      have hcl:=hb' s3 hI (by omega)
      repeat' (first | refine gA @hrem ?_ | (refine gB @hrem ?_;intro bb hbb;cases bb<;>(try simp only [hbs,if_false,reduceCtorEq] at hbb)) | apply qc_seq | fail)
      refine q_gen (v:=.agg [.int .i64 mm.1, .int .i64 mk.1, .int .i64 ((t2 % 2:Nat):Int)]) (s':=s3) wN (by simp only [LOp.run,lk,sv1,sv2,sv3,Nat.reduceEqDiff,Nat.reduceAdd,Nat.reduceLeDiff,reduceIte,if_false,if_true,mkVal,unLV,List.map,optTmps,evParts,fillParts];rfl) rfl trivial ?_
      simp only [Env.put_some]
      refine q_mv (v:=.int .i64 (t2:Int)) wN ef ?_
      refine q_bin (a:=.int .i64 (t2:Int)) (b:=.int .i64 2) wN ef ef heql ?_
      refine q_call wN (fv:=yv) (vs:=[.agg [.int .i64 mm.1, .int .i64 mk.1, .int .i64 ((t2 % 2:Nat):Int)], .bool (decide (t2=2))]) ef (by simp only [List.map,lk,sv1,sv2,sv3,Nat.reduceEqDiff,Nat.reduceAdd,Nat.reduceLeDiff,reduceIte,if_false,if_true,mkVal,unLV,List.map,optTmps]) (CallOk.mono hcl fun r s5 hh=>⟨trivial,?_⟩)
      rcases hh with hh | ⟨rfl,hJ⟩
      rotate_left
      · simp only [Env.put_some]
        clear hcl hb' hrem heql gr7 gr9
        repeat' (first | refine gA trivial ?_ | (refine gB trivial ?_;intro bb hbb;cases bb<;>(try simp only [hbs,if_false,reduceCtorEq] at hbb)) | apply qc_seq | fail)
        exact ⟨.inr trivial, .inr hJ⟩
      obtain ⟨rfl,U',a1,a2,a3,a4⟩:=hh
      have gr75:s5.get r7=some (.cells .mut [.int .i64 mm.1, .bool mm.2]):=by rw [a2 r7 (by omega) (by omega) hu7];exact gr7
      simp only [Env.put_some]
      clear hcl hb' hrem heql gr7 gr9 a2
      repeat' (first | refine gA trivial ?_ | (refine gB trivial ?_;intro bb hbb;cases bb<;>(try simp only [hbs,if_false,reduceCtorEq] at hbb)) | apply qc_seq | fail)
      refine ⟨ns.length - (j+1),by omega,j+1,U',rfl,by omega,by omega,a4,fun hu=>?_,gr75,?_⟩
      · rcases a3 _ hu with h | h
        · exact hu7 h
        · omega
      · simp only [lk,sv1,sv2,sv3,Nat.reduceEqDiff,Nat.reduceAdd,Nat.reduceLeDiff,reduceIte,if_false,if_true,mkVal,unLV,List.map,optTmps,hwj,e0,e2,e3,e4,e7,e9,e19,e20,e21,e33,e34,e35,and_self]
    · have hj':j=ns.length:=by omega
      subst hj'
      repeat' (first | refine gA trivial ?_ | (refine gB trivial ?_;intro bb hbb;cases bb<;>(try simp only [hbs,if_false,reduceCtorEq] at hbb)) | apply qc_seq | fail)
      · refine ⟨ms.length - (i+1),by omega,i+1,rfl,by omega,by omega,⟨U,by rw [Nat.add_mul,Nat.one_mul];exact hI⟩,?_⟩
        simp only [lk,sv1,sv2,sv3,Nat.reduceEqDiff,Nat.reduceAdd,Nat.reduceLeDiff,reduceIte,if_false,if_true,mkVal,unLV,List.map,optTmps,hw,e0,e2,e3,e4,e19,e20,and_self]
      · exfalso;omega
  · have hk':i=ms.length:=by omega
    subst hk'
    repeat' (first | refine gA trivial ?_ | (refine gB trivial ?_;intro bb hbb;cases bb<;>(try simp only [hbs,if_false,reduceCtorEq] at hbb)) | apply qc_seq | fail)
    · exact ⟨.inl trivial, .inl ⟨hn1,U,hI⟩⟩
    · exfalso;omega
end Go.Proofs.YtmblpcidfjemhaaDoor
end
section
set_option linter.unusedSimpArgs false
set_option linter.unusedVariables false
namespace Go.Proofs.YtmblpcidfjemhaaDoor
open Go Go.Pv Go.Bfs
open Classical
theorem prange_lim {vA vB:LV} {A B:Bu} {sa na sb nb:LV} (hA:IsB vA A sa na) (hB:IsB vB B sb nb) (okA:Vb A) (okB:Vb B) (hL:A.L=B.L) {x y t a:Nat} (hx:x<A.next.length) (hy:y<B.next.length) (ht:t<2) (ha:(a:Int)<A.L) {yo:Opd} {p p' nt:Nat} {ac bc:LCode} {e:Env} {s:St} {Q:Out→Env→St→Prop}
    (hyo:yo.ev e = .fn (.func 44) [] [.pimm [.int .i64 A.L,sa,na] 0, .pimm [.int .i64 (x:Int), .int .i64 (y:Int), .int .i64 (t:Int)] 0, .pimm [.int .i64 (a:Int)] 0, .pimm [.int .i64 B.L,sb,nb] 0]) (Jv:Nat→(Nat→Prop)→St→Prop) (Jx:Jmp→St→Prop) {U0:Nat→Prop} (h0:Jv 0 U0 s)
    (hlt:∀ k U s1,Jv k U s1→∀ id,U id→id<s1.n)
    (hst:∀ k U s1 s2,Jv k U s1→s.n≤s1.n→s1.n≤s2.n→(∀ i,i<s1.n→(i<s.n∨U i)→s2.get i=s1.get i)→Jv k U s2)
    (hsx:∀ j s1 s2,Jx j s1→s2.n=s1.n→(∀ i,i≠s.n→s2.get i=s1.get i)→Jx j s2)
    (hbd:∀ k m U s1 (b1 b2:Blk),(mvX A B x y t a)[k]? = some m→Jv k U s1→s.n+1≤s1.n→s1.get s.n=some b1→¬ U s.n→∀ nt',Cd Tryd.prog GL true nt' ac (Tr.set (Tr.set e p (.agg [.int .i64 (px B.next.length m.1), .int .i64 (py B.next.length m.1), .int .i64 (pt m.1)])) p' (.bool m.2)) s1 (Thn (fun e1 s2=>s2.get s.n=some b1 ∧
      Cd Tryd.prog GL true nt' bc e1 (s2.put s.n b2) (fun o _ s3=>s3.get s.n=some b2∧s1.n≤s3.n∧(match o with | .normal=>∃ U',(∀ id,s.n+1≤id→id<s1.n→¬ U id→s3.get id=s1.get id)∧(∀ id,U' id→U id∨s1.n≤id)∧Jv (k+1) U' s3 | .jmp j=>Jx j s3))) (fun _ _ _=>False)))
    (hend:∀ U s1,Jv (mvX A B x y t a).length U s1→s.n+1≤s1.n→Q .normal e s1) (hjmp:∀ j s1,Jx j s1→s.n+1≤s1.n→Q (.jmp j) e s1):Cd Tryd.prog GL false nt (.rangeFunc yo [p,p'] ac bc) e s Q:=by
  refine qc_range hyo ?_
  have hU0:¬ U0 s.n:=fun h=>by have:=hlt _ _ _ h0 _ h;omega
  refine CallOk.mono (piter_lim hA hB okA okB hL hx hy ht ha (s:=s.new (.loop .ready none e [p,p'] ac bc)) (yv:=.yld s.n) (U0:=U0)
    (I:=fun k U s1=>s1.get s.n=some (.loop .ready none e [p,p'] ac bc)∧s.n+1≤s1.n∧¬ U s.n∧Jv k U s1) (J:=fun s1=>∃ j,s1.get s.n=some (.loop .done (some j) e [p,p'] ac bc)∧s.n+1≤s1.n∧Jx j s1) ?_ ?_ ?_ ?_) ?_
  · refine ⟨by simp,by simp,hU0,hst 0 U0 s _ h0 (Nat.le_refl _) (by simp) fun i hi _=>?_⟩
    rw [St.get_new,if_neg (by omega)]
  · rintro k U s1 ⟨h1,h2,h3,h4⟩
    exact hlt _ _ _ h4
  · rintro k U s1 s2 ⟨h1,h2,h3,h4⟩ h5 h6 h7
    have hn:(s.new (.loop .ready none e [p,p'] ac bc)).n=s.n+1:=rfl
    rw [hn] at h5 h7
    exact ⟨by rw [h7 s.n (by omega) (.inl (by omega))];exact h1,by omega,h3,hst k U s1 s2 h4 (by omega) h6 fun i hi hu=>h7 i hi (by rcases hu with hu | hu;exact .inl (by omega);exact .inr hu)⟩
  · rintro k m U s1 hxm ⟨h1,h2,h3,h4⟩ h5
    have hn:(s.new (.loop .ready none e [p,p'] ac bc)).n=s.n+1:=rfl
    rw [hn] at h5 ⊢
    refine qc_yield h1 rfl fun nt'=>qc_mono _ (hbd k m U s1 _ (.loop .busy none e [p,p'] ac bc) hxm h4 h2 h1 h3 nt') fun o e1 s2 hh=>?_
    cases o with
    | jmp j=>exact hh.elim
    | normal=>
      refine ⟨hh.1,qc_mono _ hh.2 fun o e3 s3 h6=>?_⟩
      obtain ⟨g1,g2,g6⟩:=h6
      cases o with
      | normal=>
        obtain ⟨U',g3,g4,g5⟩:=g6
        have hU':¬ U' s.n:=fun hu=>by
          rcases g4 _ hu with h | h
          · exact h3 h
          · omega
        refine ⟨_,_,_,_,_,_,g1, .inl ⟨rfl,U',by rw [St.n_put];exact g2,fun id i1 i2 i3=>by rw [St.get_put,if_neg (by omega)];exact g3 id i1 i2 i3,g4,by rw [St.get_put,if_pos rfl],by rw [St.n_put];omega,hU',?_⟩⟩
        refine hst _ _ s3 _ g5 (by omega) (by rw [St.n_put];omega) fun i hi hu=>?_
        rw [St.get_put,if_neg]
        rintro rfl
        rcases hu with hu | hu
        · omega
        · exact hU' hu
      | jmp j=>
        exact ⟨_,_,_,_,_,_,g1, .inr ⟨rfl,j,by rw [St.get_put,if_pos rfl],by rw [St.n_put];omega,hsx _ s3 _ g6 rfl fun i hi=>by rw [St.get_put,if_neg hi]⟩⟩
  · rintro v s1 (⟨h0',U,h1,h2,h3,h4⟩ | ⟨j,h1,h2,h3⟩)
    rotate_left
    · refine ⟨_,_,_,_,_,_,h1,by simp,?_⟩
      exact hjmp _ _ (hsx _ s1 _ h3 rfl fun i hi=>by rw [St.get_put,if_neg hi]) (by rw [St.n_put];omega)
    refine ⟨_,_,_,_,_,_,h1,by simp,?_⟩
    refine hend U _ (hst _ _ s1 _ h4 (by omega) (by rw [St.n_put];omega) fun i hi hu=>?_) (by rw [St.n_put];omega)
    rw [St.get_put,if_neg]
    rintro rfl
    rcases hu with hu | hu
    · omega
    · exact h3 hu
end Go.Proofs.YtmblpcidfjemhaaDoor
end
