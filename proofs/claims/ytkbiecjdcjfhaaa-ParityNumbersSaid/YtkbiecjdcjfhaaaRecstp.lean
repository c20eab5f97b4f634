/- record.Step. -/
import Derived.Test.YtkbiecjdcjfhaaaRecp
set_option linter.unusedSimpArgs false
set_option linter.unusedVariables false
namespace Go.Proofs.Ytkbiecjdcjfhaaa
open Go Go.Pv
open Classical
theorem frz_tup_sref {s:St} {j len:Nat} {cs:List LV} {v:LV} (h:s.get j=some (.cells .mut cs)) (hl:cs.length=len) (hc:LV.closed.closedAll cs=true) (hv:v.closed=true):frz frzDepth (.tup [.sref j 0 len 1,v]) s=some (.tup [.simm cs len,v],s.put j (.cells .app cs)):=by
  have h1:=frz_srefN 37 h hl hc
  have h2:frz 39 v (s.put j (.cells .app cs))=some (v,_):=frz_closed hv
  show frz (39+1) _ s=_
  unfold frz
  simp [LV.closed,LV.closed.closedAll,frz.frzAll,h1,h2]
def recN (f:Int→Int) (r:List Int):List Int:=r.filter (fun x=>!decide (f x=2))++r.filter (fun x=>decide (f x=2))
def recPr (f:Int→Int) (r:List Int):Nat:=if r.findIdx (fun x=>decide (f x=1))<r.findIdx (fun x=>decide (f x=2)) then 2*r.findIdx (fun x=>decide (f x=1))+2 else if r.findIdx (fun x=>decide (f x=2))<r.findIdx (fun x=>decide (f x=1)) then 2*r.findIdx (fun x=>decide (f x=2))+1 else 2*r.length+1
theorem recN_perm (f:Int→Int) (r:List Int):(recN f r).Perm r:=by
  unfold recN
  refine List.Perm.trans List.perm_append_comm ?_
  have:=List.filter_append_perm (fun x=>decide (f x=2)) r
  exact this
theorem recN_ok {f:Int→Int} {r:List Int} (h:RecV r):RecV (recN f r):=by
  have hp:=recN_perm f r
  exact ⟨by rw [hp.length_eq];exact h.1,fun x hx=>by rw [hp.length_eq];exact h.2.1 x (hp.mem_iff.1 hx),hp.nodup_iff.2 h.2.2⟩
theorem recPr_rng (f:Int→Int) (r:List Int):1≤recPr f r∧recPr f r≤2*r.length+1:=by
  have h1:=List.findIdx_le_length (xs:=r) (p:=fun x=>decide (f x=1))
  have h2:=List.findIdx_le_length (xs:=r) (p:=fun x=>decide (f x=2))
  unfold recPr
  split
  · omega
  · split<;>omega
set_option maxHeartbeats 16000000 in
theorem recstep_ok {rv gv bv:LV} {r good bad:List Int} (hr:IsInts rv r) (hv:RecV r) (hg:IsInts gv good) (hb:IsInts bv bad) :
    PE 41 [rv, .agg [gv,bv]] (fun v=>∃ rv',v = .tup [rv', .int .i64 (recPr (marks good bad r.length) r:Int)]∧IsInts rv' (recN (marks good bad r.length) r)):=by
  have hrc:=hr.closed
  have hrl:=hr.sl.len
  have hgc:=hg.closed
  have hbc:=hb.closed
  have hg1:=hg.sl.cell
  have hb1:=hb.sl.cell
  have hl6:=hv.1
  have hmx:maxLen=9223372036854775807:=by decide
  have hvalid:=recvalid_ok hr
  rw [decide_eq_true hv] at hvalid
  have hnames:=fun s=>names_ok hg hb (n:=r.length) (s:=s)
  generalize marks good bad r.length=f at *
  refine q_fnExR Try.func41 (by decide +kernel) c41 (Nat.le_of_ble_eq_true rfl) (by simp [LV.closed.closedAll,LV.closed,hrc,hgc,hbc]) ?_
  have e0:(envOf [rv, .agg [gv,bv]]).at 0=rv:=by rw [envOf_at];rfl
  have e1:(envOf [rv, .agg [gv,bv]]).at 1 = .agg [gv,bv]:=by rw [envOf_at];rfl
  generalize envOf [rv, .agg [gv,bv]]=e at *
  unfold l41
  dsimp only [jA,jG,qN,qS,qI,qA,qB,qC,qO,qm,ql]
  repeat' (first | refine gA @hrl ?_ | (refine gB @hrl ?_;intro bb hbb;cases bb<;>(try simp only [hbs,if_false,reduceCtorEq] at hbb)) | apply qc_seq | fail)
  refine q_pure hG0 (hvalid) (by first | exact wN | (apply wG;(simp only [lk,Nat.reduceEqDiff,reduceIte,e0,e1];(try rfl);done))) (by simp only [List.map,lk,Nat.reduceEqDiff,reduceIte,e0,e1];try rfl) (by first | trivial | (simp only [Chks,wantedG,LOp.run,Env.put_some,Env.put_none,lk,sv1,sv2,sv3,Nat.reduceEqDiff,Nat.reduceAdd,Nat.reduceLeDiff,reduceIte,if_false,if_true,mkVal,unLV,List.map,optTmps,beq_self_eq_true,reduceCtorEq,false_or,true_and,and_true,Option.some.injEq, *];done)) ?_
  simp only [Env.put_some]
  clear hvalid
  repeat' (first | refine gA @hrl ?_ | (refine gB @hrl ?_;intro bb hbb;cases bb<;>(try simp only [hbs,if_false,reduceCtorEq] at hbb)) | apply qc_seq | fail)
  refine q_call wN (fv:=.fn (.func 53) [] []) (vs:=[.agg [gv,bv], .int .i64 (r.length:Int)]) ef (by simp only [List.map,lk,sv1,sv2,sv3,Nat.reduceEqDiff,Nat.reduceAdd,Nat.reduceLeDiff,reduceIte,if_false,if_true,mkVal,unLV,List.map,optTmps]) (CallOk.mono (hnames _) fun v s2 hh=>⟨trivial,?_⟩)
  obtain ⟨M,E,rfl,-,-,hM,gM,kM,-⟩:=hh
  simp only [Env.put_some]
  repeat' (first | refine gA trivial ?_ | (refine gB trivial ?_;intro bb hbb;cases bb<;>(try simp only [hbs,if_false,reduceCtorEq] at hbb)) | apply qc_seq | fail)
  refine q_run0 (v:=.sref (s2.n+1) 0 0 1) (s':=((s2.new (.cells .mut [.nilm])).put s2.n (.cells .mut [.mref M])).new (.cells .mut [])) (by
    have h1:(r.length:Int)*8≤big:=by unfold big;omega
    have h2:(r.length:Int)≤big:=by unfold big;omega
    simp only [LOp.run,lk,sv1,sv2,sv3,Nat.reduceEqDiff,Nat.reduceAdd,Nat.reduceLeDiff,reduceIte,if_false,if_true,mkVal,unLV,List.map,optTmps]
    rw [if_pos ⟨Int.le_refl _,by omega,h1,h2,trivial⟩]
    rfl) ?_
  have n4:(((s2.new (.cells .mut [.nilm])).put s2.n (.cells .mut [.mref M])).new (.cells .mut [])).n=s2.n+2:=rfl
  have g4:(((s2.new (.cells .mut [.nilm])).put s2.n (.cells .mut [.mref M])).new (.cells .mut [])).get s2.n=some (.cells .mut [.mref M]):=by rw [St.get_new,if_neg (by simp),St.get_put,if_pos rfl]
  have m4:(((s2.new (.cells .mut [.nilm])).put s2.n (.cells .mut [.mref M])).new (.cells .mut [])).get M=some (.map (mG embI E)):=by rw [St.get_new,if_neg (by simp;omega),St.get_put,if_neg (by omega),St.get_new,if_neg (by omega)];exact gM
  have a4:(((s2.new (.cells .mut [.nilm])).put s2.n (.cells .mut [.mref M])).new (.cells .mut [])).get (s2.n+1)=some (.cells .mut (ints [])):=by rw [St.get_new,if_pos (by simp)];rfl
  generalize ((s2.new (.cells .mut [.nilm])).put s2.n (.cells .mut [.mref M])).new (.cells .mut [])=s4 at *
  have hjM:M<s2.n:=hM
  generalize s2.n=jm at *
  clear gM hnames
  clear s2
  repeat' (first | refine gA @hrl ?_ | (refine gB @hrl ?_;intro bb hbb;cases bb<;>(try simp only [hbs,if_false,reduceCtorEq] at hbb)) | apply qc_seq | fail)
  refine qc_loop (fun m e s=>∃ (k:Nat) (j:Nat),m=r.length - k∧k≤r.length∧s.get jm=some (.cells .mut [.mref M])∧s.get M=some (.map (mG embI E))∧jm<j∧j<s.n∧s.get j=some (.cells .mut (ints ((r.take k).filter fun x=>!decide (f x=2))))∧e.at 0=rv∧e.at 6 = .int .i64 (r.length:Int)∧e.at 8 = .fn (.func 54) [] [.pref jm 0]∧e.at 9 = .fn (.func 55) [] [.pref jm 0]∧e.at 10 = .sref j 0 ((r.take k).filter fun x=>!decide (f x=2)).length 1∧e.at 30=rv∧e.at 31 = .int .i64 (r.length:Int)∧e.at 32 = .int .i64 (k:Int)) _
    ⟨0,jm+1,rfl,by omega,g4,m4,by omega,by omega,by simpa using a4,ef,ef,by simp only [List.map,lk,sv1,sv2,sv3,Nat.reduceEqDiff,Nat.reduceAdd,Nat.reduceLeDiff,reduceIte,if_false,if_true,mkVal,unLV,List.map,optTmps],by simp only [List.map,lk,sv1,sv2,sv3,Nat.reduceEqDiff,Nat.reduceAdd,Nat.reduceLeDiff,reduceIte,if_false,if_true,mkVal,unLV,List.map,optTmps],by simp only [lk,sv1,sv2,sv3,Nat.reduceEqDiff,Nat.reduceAdd,Nat.reduceLeDiff,reduceIte,if_false,if_true,mkVal,unLV,List.map,optTmps];simp,ef,ef,by simp only [lk,sv1,sv2,sv3,Nat.reduceEqDiff,Nat.reduceAdd,Nat.reduceLeDiff,reduceIte,if_false,if_true,mkVal,unLV,List.map,optTmps];rfl⟩ ?_
  clear e0 e1 g4 m4 a4 n4
  clear e s4
  rintro m e s ⟨k,j,rfl,hk,gj,gM,hj1,hj2,ga,e0,e6,e8,e9,e10,e30,e31,e32⟩
  by_cases hkl:k<r.length
  · have hkI:(k:Int)<(r.length:Int):=by omega
    have hwk:IntKind.i64.wrap ((k:Int)+1)=((k+1:Nat):Int):=by rw [wrap_i64 _ (by omega) (by omega)];rfl
    have hgx:=ints_get hkI
    have htk:r.take (k+1)=r.take k++[r.getD k 0]:=by rw [List.take_add_one,List.getD_eq_getElem?_getD,List.getElem?_eq_getElem hkl];rfl
    have hfl:=List.length_filter_le (fun x=>!decide (f x=2)) (r.take k)
    rw [List.length_take] at hfl
    generalize r.getD k 0=x at *
    have htB:=Bx.mk htk
    clear htk
    have hbad:=bad_ok gj gM kM x
    by_cases hx:f x=2
    · rw [decide_eq_true hx] at hbad
      have hxB:Bx ((r.take (k+1)).filter (fun x=>!decide (f x=2))=(r.take k).filter (fun x=>!decide (f x=2))):=⟨by rw [htB.out,List.filter_append];simp [hx]⟩
      clear hx
      repeat' (first | refine gA (And.intro (@iaN _ _ _ hr.sl) @hgx) ?_ | (refine gB (And.intro (@iaN _ _ _ hr.sl) @hgx) ?_;intro bb hbb;cases bb<;>(try simp only [hbs,if_false,reduceCtorEq] at hbb)) | apply qc_seq | fail)
      all_goals first | (exfalso;first | omega | exact hbb.elim) | skip
      refine q_call wN (fv:=.fn (.func 54) [] [.pref jm 0]) (vs:=[.int .i64 x]) ef (by simp only [List.map,lk,sv1,sv2,sv3,Nat.reduceEqDiff,Nat.reduceAdd,Nat.reduceLeDiff,reduceIte,if_false,if_true,mkVal,unLV,List.map,optTmps]) (CallOk.mono hbad fun b s2 hh=>⟨trivial,?_⟩)
      obtain ⟨h2,rfl⟩:=hh
      subst s2
      simp only [Env.put_some]
      clear hbad
      repeat' (first | refine gA trivial ?_ | (refine gB trivial ?_;intro bb hbb;cases bb<;>(try simp only [hbs,if_false,reduceCtorEq] at hbb)) | apply qc_seq | fail)
      refine ⟨r.length - (k+1),by omega,k+1,j,rfl,by omega,gj,gM,hj1,hj2,by rw [hxB.out];exact ga,?_⟩
      rw [hxB.out]
      simp only [lk,sv1,sv2,sv3,Nat.reduceEqDiff,Nat.reduceAdd,Nat.reduceLeDiff,reduceIte,if_false,if_true,mkVal,unLV,List.map,optTmps,hwk,e0,e6,e8,e9,e10,e30,e31,and_self]
    · rw [decide_eq_false hx] at hbad
      have hxB:Bx ((r.take (k+1)).filter (fun x=>!decide (f x=2))=(r.take k).filter (fun x=>!decide (f x=2))++[x]):=⟨by rw [htB.out,List.filter_append];simp [hx]⟩
      clear hx
      repeat' (first | refine gA (And.intro (@iaN _ _ _ hr.sl) @hgx) ?_ | (refine gB (And.intro (@iaN _ _ _ hr.sl) @hgx) ?_;intro bb hbb;cases bb<;>(try simp only [hbs,if_false,reduceCtorEq] at hbb)) | apply qc_seq | fail)
      all_goals first | (exfalso;first | omega | exact hbb.elim) | skip
      refine q_call wN (fv:=.fn (.func 54) [] [.pref jm 0]) (vs:=[.int .i64 x]) ef (by simp only [List.map,lk,sv1,sv2,sv3,Nat.reduceEqDiff,Nat.reduceAdd,Nat.reduceLeDiff,reduceIte,if_false,if_true,mkVal,unLV,List.map,optTmps]) (CallOk.mono hbad fun b s2 hh=>⟨trivial,?_⟩)
      obtain ⟨h2,rfl⟩:=hh
      subst s2
      simp only [Env.put_some]
      clear hbad
      generalize hLL:(r.take k).filter (fun x=>!decide (f x=2))=LL at *
      repeat' (first | refine gA trivial ?_ | (refine gB trivial ?_;intro bb hbb;cases bb<;>(try simp only [hbs,if_false,reduceCtorEq] at hbb)) | apply qc_seq | fail)
      refine q_appG (n:=LL.length) (esz:=1) (xv:=.int .i64 x) (yv:=.sref j 0 LL.length 1) (vs:=[.int .i64 x]) (cells:=ints LL) ef rfl rfl rfl (Stays.closed rfl) ef ⟨by simp, .inr ⟨j,[],rfl,hj2,by rw [List.append_nil];exact ga⟩⟩ (by decide) (by omega) (fun s3 j3 a1 a2 a3 a4 a5 a6=>?_)
      have gj3:s3.get jm=some (.cells .mut [.mref M]):=by rw [a6 jm (by omega) fun hu=>by have:=uses_sref.1 hu;omega];exact gj
      have gM3:s3.get M=some (.map (mG embI E)):=by rw [a6 M (by omega) fun hu=>by have:=uses_sref.1 hu;omega];exact gM
      clear a4
      repeat' (first | refine gA trivial ?_ | (refine gB trivial ?_;intro bb hbb;cases bb<;>(try simp only [hbs,if_false,reduceCtorEq] at hbb)) | apply qc_seq | fail)
      refine ⟨r.length - (k+1),by omega,k+1,j3,rfl,by omega,gj3,gM3,by omega,a2,by rw [hxB.out,a3];simp [ints],?_⟩
      rw [hxB.out]
      simp only [lk,sv1,sv2,sv3,Nat.reduceEqDiff,Nat.reduceAdd,Nat.reduceLeDiff,reduceIte,if_false,if_true,mkVal,unLV,List.map,optTmps,hwk,e0,e6,e8,e9,e30,e31,List.length_append,List.length_cons,List.length_nil,and_self]
  · have hk':k=r.length:=by omega
    subst hk'
    rw [List.take_length] at ga e10
    repeat' (first | refine gA @hrl ?_ | (refine gB @hrl ?_;intro bb hbb;cases bb<;>(try simp only [hbs,if_false,reduceCtorEq] at hbb)) | apply qc_seq | fail)
    all_goals first | (exfalso;first | omega | exact hbb.elim) | skip
    have hAl:=List.length_filter_le (fun x=>!decide (f x=2)) r
    have hAE:recN f r=(r.filter fun x=>!decide (f x=2))++r.filter (fun x=>decide (f x=2)):=rfl
    have hRP:=recN_ok (f:=f) hv
    have hRperm:=(recN_perm f r).length_eq
    generalize (r.filter fun x=>!decide (f x=2))=A at *
    have hAB:=Bx.mk hAE
    have hRB:=Bx.mk (And.intro hRP hRperm)
    clear hRP hRperm hAE
    refine qc_loop (fun m e s=>∃ (k:Nat) (j:Nat),m=r.length - k∧k≤r.length∧s.get jm=some (.cells .mut [.mref M])∧s.get M=some (.map (mG embI E))∧jm<j∧j<s.n∧s.get j=some (.cells .mut (ints (A++(r.take k).filter fun x=>decide (f x=2))))∧e.at 0=rv∧e.at 6 = .int .i64 (r.length:Int)∧e.at 8 = .fn (.func 54) [] [.pref jm 0]∧e.at 9 = .fn (.func 55) [] [.pref jm 0]∧e.at 10 = .sref j 0 (A++(r.take k).filter fun x=>decide (f x=2)).length 1∧e.at 45=rv∧e.at 46 = .int .i64 (r.length:Int)∧e.at 47 = .int .i64 (k:Int)) _
      ⟨0,j,rfl,by omega,gj,gM,hj1,hj2,by simpa using ga,ef,ef,ef,ef,by simp only [lk,sv1,sv2,sv3,Nat.reduceEqDiff,Nat.reduceAdd,Nat.reduceLeDiff,reduceIte,if_false,if_true,mkVal,unLV,List.map,optTmps,e10];simp,ef,ef,by simp only [lk,sv1,sv2,sv3,Nat.reduceEqDiff,Nat.reduceAdd,Nat.reduceLeDiff,reduceIte,if_false,if_true,mkVal,unLV,List.map,optTmps];rfl⟩ ?_
    clear e0 e6 e8 e9 e10 e30 e31 e32 ga gj gM hj1 hj2 hkl hk hbb
    clear e s j
    rintro m e s ⟨k,j,rfl,hk,gj,gM,hj1,hj2,ga,e0,e6,e8,e9,e10,e45,e46,e47⟩
    by_cases hkl:k<r.length
    · have hkI:(k:Int)<(r.length:Int):=by omega
      have hwk:IntKind.i64.wrap ((k:Int)+1)=((k+1:Nat):Int):=by rw [wrap_i64 _ (by omega) (by omega)];rfl
      have hgx:=ints_get hkI
      have htk:r.take (k+1)=r.take k++[r.getD k 0]:=by rw [List.take_add_one,List.getD_eq_getElem?_getD,List.getElem?_eq_getElem hkl];rfl
      have hfl:=List.length_filter_le (fun x=>decide (f x=2)) (r.take k)
      rw [List.length_take] at hfl
      generalize r.getD k 0=x at *
      have htB:=Bx.mk htk
      clear htk
      have hbad:=bad_ok gj gM kM x
      by_cases hx:f x=2
      · rw [decide_eq_true hx] at hbad
        have hxB:Bx ((A++(r.take (k+1)).filter (fun x=>decide (f x=2)))=(A++(r.take k).filter (fun x=>decide (f x=2)))++[x]):=⟨by rw [htB.out,List.filter_append];simp [hx]⟩
        clear hx
        repeat' (first | refine gA (And.intro (@iaN _ _ _ hr.sl) @hgx) ?_ | (refine gB (And.intro (@iaN _ _ _ hr.sl) @hgx) ?_;intro bb hbb;cases bb<;>(try simp only [hbs,if_false,reduceCtorEq] at hbb)) | apply qc_seq | fail)
        all_goals first | (exfalso;first | omega | exact hbb.elim) | skip
        refine q_call wN (fv:=.fn (.func 54) [] [.pref jm 0]) (vs:=[.int .i64 x]) ef (by simp only [List.map,lk,sv1,sv2,sv3,Nat.reduceEqDiff,Nat.reduceAdd,Nat.reduceLeDiff,reduceIte,if_false,if_true,mkVal,unLV,List.map,optTmps]) (CallOk.mono hbad fun b s2 hh=>⟨trivial,?_⟩)
        obtain ⟨h2,rfl⟩:=hh
        subst s2
        simp only [Env.put_some]
        clear hbad
        have hLl:(A++(r.take k).filter (fun x=>decide (f x=2))).length≤12000:=by rw [List.length_append];omega
        generalize (A++(r.take k).filter (fun x=>decide (f x=2)))=LL at *
        repeat' (first | refine gA trivial ?_ | (refine gB trivial ?_;intro bb hbb;cases bb<;>(try simp only [hbs,if_false,reduceCtorEq] at hbb)) | apply qc_seq | fail)
        refine q_appG (n:=LL.length) (esz:=1) (xv:=.int .i64 x) (yv:=.sref j 0 LL.length 1) (vs:=[.int .i64 x]) (cells:=ints LL) ef rfl rfl rfl (Stays.closed rfl) ef ⟨by simp, .inr ⟨j,[],rfl,hj2,by rw [List.append_nil];exact ga⟩⟩ (by decide) (by omega) (fun s3 j3 a1 a2 a3 a4 a5 a6=>?_)
        have gj3:s3.get jm=some (.cells .mut [.mref M]):=by rw [a6 jm (by omega) fun hu=>by have:=uses_sref.1 hu;omega];exact gj
        have gM3:s3.get M=some (.map (mG embI E)):=by rw [a6 M (by omega) fun hu=>by have:=uses_sref.1 hu;omega];exact gM
        clear a4
        repeat' (first | refine gA trivial ?_ | (refine gB trivial ?_;intro bb hbb;cases bb<;>(try simp only [hbs,if_false,reduceCtorEq] at hbb)) | apply qc_seq | fail)
        refine ⟨r.length - (k+1),by omega,k+1,j3,rfl,by omega,gj3,gM3,by omega,a2,by rw [hxB.out,a3];simp [ints],?_⟩
        rw [hxB.out]
        simp only [lk,sv1,sv2,sv3,Nat.reduceEqDiff,Nat.reduceAdd,Nat.reduceLeDiff,reduceIte,if_false,if_true,mkVal,unLV,List.map,optTmps,hwk,e0,e6,e8,e9,e45,e46,List.length_append,List.length_cons,List.length_nil,and_self]
      · rw [decide_eq_false hx] at hbad
        have hxB:Bx ((A++(r.take (k+1)).filter (fun x=>decide (f x=2)))=(A++(r.take k).filter (fun x=>decide (f x=2)))):=⟨by rw [htB.out,List.filter_append];simp [hx]⟩
        clear hx
        repeat' (first | refine gA (And.intro (@iaN _ _ _ hr.sl) @hgx) ?_ | (refine gB (And.intro (@iaN _ _ _ hr.sl) @hgx) ?_;intro bb hbb;cases bb<;>(try simp only [hbs,if_false,reduceCtorEq] at hbb)) | apply qc_seq | fail)
        all_goals first | (exfalso;first | omega | exact hbb.elim) | skip
        refine q_call wN (fv:=.fn (.func 54) [] [.pref jm 0]) (vs:=[.int .i64 x]) ef (by simp only [List.map,lk,sv1,sv2,sv3,Nat.reduceEqDiff,Nat.reduceAdd,Nat.reduceLeDiff,reduceIte,if_false,if_true,mkVal,unLV,List.map,optTmps]) (CallOk.mono hbad fun b s2 hh=>⟨trivial,?_⟩)
        obtain ⟨h2,rfl⟩:=hh
        subst s2
        simp only [Env.put_some]
        clear hbad
        repeat' (first | refine gA trivial ?_ | (refine gB trivial ?_;intro bb hbb;cases bb<;>(try simp only [hbs,if_false,reduceCtorEq] at hbb)) | apply qc_seq | fail)
        refine ⟨r.length - (k+1),by omega,k+1,j,rfl,by omega,gj,gM,hj1,hj2,by rw [hxB.out];exact ga,?_⟩
        rw [hxB.out]
        simp only [lk,sv1,sv2,sv3,Nat.reduceEqDiff,Nat.reduceAdd,Nat.reduceLeDiff,reduceIte,if_false,if_true,mkVal,unLV,List.map,optTmps,hwk,e0,e6,e8,e9,e10,e45,e46,and_self]
    · have hk':k=r.length:=by omega
      subst hk'
      rw [List.take_length,← hAB.out] at ga e10
      have hp1:=pos_ok hr (by omega) (s:=s) fun x=>bad_ok gj gM kM x
      have hp2:=pos_ok hr (by omega) (s:=s) fun x=>good_ok gj gM kM x
      have hb1:=List.findIdx_le_length (xs:=r) (p:=fun x=>decide (f x=1))
      have hb2:=List.findIdx_le_length (xs:=r) (p:=fun x=>decide (f x=2))
      have hPr:Bx (recPr f r=if r.findIdx (fun x=>decide (f x=1))<r.findIdx (fun x=>decide (f x=2)) then 2*r.findIdx (fun x=>decide (f x=1))+2 else if r.findIdx (fun x=>decide (f x=2))<r.findIdx (fun x=>decide (f x=1)) then 2*r.findIdx (fun x=>decide (f x=2))+1 else 2*r.length+1):=⟨rfl⟩
      generalize recPr f r=pr at *
      generalize r.findIdx (fun x=>decide (f x=1))=kg at *
      generalize r.findIdx (fun x=>decide (f x=2))=kb at *
      have hfin:∀ (s':St) (v:LV),v = .tup [.sref j 0 (recN f r).length 1, .int .i64 (pr:Int)]→∃ r_1 s',frz frzDepth v s=some (r_1,s')∧r_1.closed=true∧∃ rv',r_1 = .tup [rv', .int .i64 (pr:Int)]∧IsInts rv' (recN f r):=by
        intro s' v hv
        subst hv
        refine ⟨_,_,frz_tup_sref ga (by simp) (ints_closed _) rfl,by simp [LV.closed,LV.closed.closedAll,ints_closed],_,rfl, .simm _ _,by rw [hRB.out.2];omega,fun x hx=>?_⟩
        have:=hRB.out.1.2.1 x hx
        rw [hRB.out.2] at this
        unfold inI64
        constructor<;>omega
      have hwg:IntKind.i64.wrap (2*(kg:Int))=2*(kg:Int):=wrap_i64 _ (by omega) (by omega)
      have hwg2:IntKind.i64.wrap (2*(kg:Int)+2)=2*(kg:Int)+2:=wrap_i64 _ (by omega) (by omega)
      have hwb:IntKind.i64.wrap (2*(kb:Int))=2*(kb:Int):=wrap_i64 _ (by omega) (by omega)
      have hwb2:IntKind.i64.wrap (2*(kb:Int)+1)=2*(kb:Int)+1:=wrap_i64 _ (by omega) (by omega)
      have hwn:IntKind.i64.wrap (2*(r.length:Int))=2*(r.length:Int):=wrap_i64 _ (by omega) (by omega)
      have hwn2:IntKind.i64.wrap (2*(r.length:Int)+1)=2*(r.length:Int)+1:=wrap_i64 _ (by omega) (by omega)
      have hfinB:=Bx.mk hfin
      clear hfin ga hRB hAB hv
      repeat' (first | refine gA @hrl ?_ | (refine gB @hrl ?_;intro bb hbb;cases bb<;>(try simp only [hbs,if_false,reduceCtorEq] at hbb)) | apply qc_seq | fail)
      all_goals first | (exfalso;first | omega | exact hbb.elim) | skip
      refine q_call wN (fv:=.fn (.func 56) [] []) (vs:=[rv, .fn (.func 54) [] [.pref jm 0]]) ef (by simp only [List.map,lk,sv1,sv2,sv3,Nat.reduceEqDiff,Nat.reduceAdd,Nat.reduceLeDiff,reduceIte,if_false,if_true,mkVal,unLV,List.map,optTmps,e0,e8]) (CallOk.mono hp1 fun b s2 hh=>⟨trivial,?_⟩)
      obtain ⟨h2,rfl⟩:=hh
      subst s2
      simp only [Env.put_some]
      repeat' (first | refine gA @hrl ?_ | (refine gB @hrl ?_;intro bb hbb;cases bb<;>(try simp only [hbs,if_false,reduceCtorEq] at hbb)) | apply qc_seq | fail)
      refine q_call wN (fv:=.fn (.func 56) [] []) (vs:=[rv, .fn (.func 55) [] [.pref jm 0]]) ef (by simp only [List.map,lk,sv1,sv2,sv3,Nat.reduceEqDiff,Nat.reduceAdd,Nat.reduceLeDiff,reduceIte,if_false,if_true,mkVal,unLV,List.map,optTmps,e0,e9]) (CallOk.mono hp2 fun b s2 hh=>⟨trivial,?_⟩)
      obtain ⟨h2,rfl⟩:=hh
      subst s2
      simp only [Env.put_some]
      clear hp1 hp2
      repeat' (first | refine gA (And.intro @hwg (And.intro @hwg2 (And.intro @hwb (And.intro @hwb2 (And.intro @hwn @hwn2))))) ?_ | (refine gB (And.intro @hwg (And.intro @hwg2 (And.intro @hwb (And.intro @hwb2 (And.intro @hwn @hwn2))))) ?_;intro bb hbb;cases bb<;>(try simp only [hbs,if_false,reduceCtorEq] at hbb)) | apply qc_seq | fail)
      · refine ⟨.inr trivial, .tup [.sref j 0 (recN f r).length 1, .int .i64 (pr:Int)],?_,hfinB.out s _ rfl⟩
        have hpr:(pr:Int)=2*(r.length:Int)+1:=by
          have:=hPr.out
          rw [if_neg (by omega),if_neg (by omega)] at this
          omega
        rw [hpr]
        simp [resVal,resOne,hwn,hwn2]
      · refine ⟨.inr trivial, .tup [.sref j 0 (recN f r).length 1, .int .i64 (pr:Int)],?_,hfinB.out s _ rfl⟩
        have hpr:(pr:Int)=2*(kb:Int)+1:=by
          have:=hPr.out
          rw [if_neg (by omega),if_pos (by omega)] at this
          omega
        rw [hpr]
        simp [resVal,resOne,hwb,hwb2]
      · refine ⟨.inr trivial, .tup [.sref j 0 (recN f r).length 1, .int .i64 (pr:Int)],?_,hfinB.out s _ rfl⟩
        have hpr:(pr:Int)=2*(kg:Int)+2:=by
          have:=hPr.out
          rw [if_pos (by omega)] at this
          omega
        rw [hpr]
        simp [resVal,resOne,hwg,hwg2]
end Go.Proofs.Ytkbiecjdcjfhaaa
