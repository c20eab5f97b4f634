/- Remainders of numbers that are not negative: plain. -/
import Derived.Test.YtgobbogomchnhaaGreatDoorPvQ
import Derived.Test.YtgobbogomchnhaaGreatDoorChkl
set_option linter.unusedSimpArgs false
set_option linter.unusedVariables false
section
set_option linter.unusedSimpArgs false
set_option linter.unusedVariables false
namespace Go.Proofs.YtgobbogomchnhaaGreatDoor
open Go Go.Pv
open Classical
theorem rem_nat (n:Nat) {m:Nat} (h:0<m):binLV .rem (.int .i64 (n:Int)) (.int .i64 (m:Int))=some (.int .i64 ((n % m:Nat):Int)):=by
 have:¬ (m:Int)=0:=by omega
 simp [binLV,intBin,this]
 exact ⟨by omega,Int.tmod_eq_emod_of_nonneg (by omega)⟩
end Go.Proofs.YtgobbogomchnhaaGreatDoor
end
section
set_option linter.unusedSimpArgs false
set_option linter.unusedVariables false
namespace Go.Proofs.YtgobbogomchnhaaGreatDoor
open Go Go.Pv Go.Aut Go.Bfs
open Classical
theorem nints_fc (l:List Nat):nints l=fcells l.length fun k=>l.getD k 0:=by
 apply List.ext_getElem?
 intro j
 by_cases hj:j<l.length
 ·rw [fcells_get hj]
  simp [nints,List.getElem?_eq_getElem hj,List.getD_eq_getElem?_getD]
 ·rw [List.getElem?_eq_none (by simpa using hj),List.getElem?_eq_none (by simpa using hj)]
def rvF (l:List Nat) (i k:Nat):Nat:=if k<i∨l.length≤k+i then l.getD (l.length - 1 - k) 0 else l.getD k 0
theorem rvF_end {l:List Nat} {i:Nat} (h:l.length≤2*i+1):fcells l.length (rvF l i)=nints l.reverse:=by
 rw [nints_fc,List.length_reverse]
 unfold fcells
 refine List.map_congr_left fun k hk=>?_
 have hk':k<l.length:=List.mem_range.1 hk
 have e1:l.reverse.getD k 0=l.getD (l.length - 1 - k) 0:=by
  rw [List.getD_eq_getElem?_getD,List.getD_eq_getElem?_getD,List.getElem?_reverse hk']
 have e2:rvF l i k=l.getD (l.length - 1 - k) 0:=by
  unfold rvF
  by_cases h1:k<i∨l.length≤k+i
  ·rw [if_pos h1]
  ·rw [if_neg h1]
   congr 1
   omega
 show LV.int .i64 (rvF l i k:Int)=LV.int .i64 (l.reverse.getD k 0:Int)
 rw [e1,e2]
theorem pcells_snd {ps:List Pl} {k:Nat} {p:Pl} (h:ps[k]? = some p):(pcells ps)[k*2+1]? = some (.int .i64 (p.2:Int)):=by
 have h1:=pcells_pair h
 have h2:((pcells ps).drop (k*2) |>.take 2)[1]? = some (.int .i64 (p.2:Int)):=by rw [h1];rfl
 rw [List.getElem?_take,if_pos (by decide),List.getElem?_drop] at h2
 exact h2
theorem wayR_step {acc:Ac Pl} {f:Nat} {k:Nat} {x:Pl × Int} (h:acc[k]? = some x):wayR acc (f+1) (k:Int)=x.1::wayR acc f x.2:=by
 simp only [wayR]
 rw [if_neg (by omega),Int.toNat_natCast,h]
theorem wayR_neg {acc:Ac Pl} {f:Nat} {n:Int} (h:n<0):wayR acc f n=[]:=by
 cases f with
 | zero=>rfl
 | succ f=>simp only [wayR];rw [if_pos h]
set_option maxHeartbeats 16000000 in
theorem way_ok {succ:Pl→List Pl} {from_:List Pl} {R:Pl→Prop} {acc:Ac Pl} (hOk:Bfs.Ok succ from_ R acc) {x:Pl} (hx:x∈acc.map (·.1)) (hnl:acc.length≤600000) {s:St} {M:Nat} {pv bv:LV} (hF:FO s M pv bv acc) :
  CallOk Tryz.prog GL (.fn (.func 52) [] []) [.agg [.mref M,pv,bv], .agg (pcell x)] s (fun r s'=>SkC s' r 1 (nints (wayS acc x)) (wayS acc x).length∧s.n≤s'.n∧(∀ id,uses r id→s.n≤id)∧∀ id,id<s.n→s'.get id=s.get id):=by
 obtain ⟨i,hi⟩:=List.mem_iff_getElem?.1 hx
 have hid:=idx_get hOk.nd hi
 obtain ⟨y,hy,hyx⟩:∃ y,acc[i]? = some y∧y.1=x:=by
  rw [List.getElem?_map] at hi
  obtain ⟨y,h1,h2⟩:=Option.map_eq_some_iff.1 hi
  exact ⟨y,h1,h2⟩
 have hil:i<acc.length:=(List.getElem?_eq_some_iff.1 hy).1
 have hW:wayS acc x=((wayR acc acc.length y.2).map (·.2)).reverse:=by
  unfold wayS
  rw [hid,Option.getD_some,hy]
  exact List.map_reverse
 rw [hW]
 have hbefore:∀ (k:Nat) (z:Pl × Int),acc[k]? = some z→-1≤z.2∧z.2<(k:Int):=fun k z hz=>by
  rcases hOk.way k z hz with ⟨h1,_⟩ | ⟨j,_,h1,h2,_⟩<;>omega
 have hyb:=hbefore i y hy
 generalize hT:(wayR acc acc.length y.2).map (·.2)=T
 have hfind:=pfind x (acc.map (·.1)) 0
 rw [hid] at hfind
 simp only [Option.map_some] at hfind
 have hM:=hF.m1
 have hgM:=hF.gM
 have hpc:cells? (.agg (pcell x))=some (pcell x):=rfl
 have hcx:(LV.agg (pcell x)).closed=true:=rfl
 obtain ⟨jp,rfl,hjp,hgp⟩:=hF.sp.pos (by omega)
 obtain ⟨jb,rfl,hjb,hgb⟩:=hF.sb.pos (by omega)
 refine call_fn (first:=[]) (caps:=[]) Tryz.func52 (by decide +kernel) c52 (Nat.le_of_ble_eq_true rfl) (CodeOk.mono (Q:=fun o e s'=>(o = .normal∨o = .jmp .ret)∧∃ r,e.at 4=r∧SkC s' r 1 (nints T.reverse) T.reverse.length∧s.n≤s'.n∧(∀ id,uses r id→s.n≤id)∧∀ id,id<s.n→s'.get id=s.get id) ?_ fun o e s' hh=>by
  obtain ⟨h1,r,h2,h3⟩:=hh
  exact ⟨h1,r,by simp [l52,resVal,resOne,h2],h3⟩)
 have e0:(envOf ([]++[.agg [.mref M, .sref jp 0 acc.length 2, .sref jb 0 acc.length 1], .agg (pcell x)]++[])).at 0 = .agg [.mref M, .sref jp 0 acc.length 2, .sref jb 0 acc.length 1]:=by rw [envOf_at];rfl
 have e1:(envOf ([]++[.agg [.mref M, .sref jp 0 acc.length 2, .sref jb 0 acc.length 1], .agg (pcell x)]++[])).at 1 = .agg (pcell x):=by rw [envOf_at];rfl
 generalize envOf ([]++[.agg [.mref M, .sref jp 0 acc.length 2, .sref jb 0 acc.length 1], .agg (pcell x)]++[])=e at *
 refine Cd.out ?_
 unfold l52
 dsimp only [jA,jB,jH,qM,qL,qN,qF,qS,qI,qA,qB,qC,qO,qm,ql]
 obtain ⟨n,hn⟩:∃ n,acc.length=n:=⟨_,rfl⟩
 rw [hn] at e0 hT hnl hil
 repeat' (first | refine gA @pcell_take ?_ | (refine gB @pcell_take ?_;intro bb hbb;cases bb<;>(try simp only [hbs,if_false,reduceCtorEq] at hbb)) | apply qc_seq | fail)
 have g2:(s.new (.cells .mut [.mref M, .sref jp 0 n 2, .sref jb 0 n 1])).get s.n=some (.cells .mut [.mref M, .sref jp 0 n 2, .sref jb 0 n 1]):=by rw [St.get_new,if_pos rfl]
 have hfr:∀ id,id<s.n→(s.new (.cells .mut [.mref M, .sref jp 0 n 2, .sref jb 0 n 1])).get id=s.get id:=fun id hid=>by rw [St.get_new,if_neg (by omega)]
 have hn1:(s.new (.cells .mut [.mref M, .sref jp 0 n 2, .sref jb 0 n 1])).n=s.n+1:=rfl
 generalize s.new (.cells .mut [.mref M, .sref jp 0 n 2, .sref jb 0 n 1])=s1 at *
 have gM1:=(hfr M hM).trans hgM
 have gp1:=(hfr jp hjp).trans hgp
 have gb1:=(hfr jb hjb).trans hgb
 have hyz:(ints (acc.map (·.2)))[i]? = some (.int .i64 y.2):=by simp [ints,hy]
 have hiI:(i:Int)<(n:Int):=by omega
 repeat' (first | refine gA (And.intro @g2 @pcell_take) ?_ | (refine gB (And.intro @g2 @pcell_take) ?_;intro bb hbb;cases bb<;>(try simp only [hbs,if_false,reduceCtorEq] at hbb)) | apply qc_seq | fail)
 refine q_gen (v:=.int .i64 (i:Int)) (s':=s1) wN (run_mlook1 (M:=M) (kv:=.agg (pcell x)) ef ef rfl gM1 hfind) rfl trivial ?_
 simp only [Env.put_some]
 repeat' (first | refine gA (And.intro @iaS (And.intro @gb1 @hyz)) ?_ | (refine gB (And.intro @iaS (And.intro @gb1 @hyz)) ?_;intro bb hbb;cases bb<;>(try simp only [hbs,if_false,reduceCtorEq] at hbb)) | apply qc_seq | fail)
 have hTn:T.length≤n:=by
  have h1:=(wayR_ok hOk i y hy acc.length (by omega)).2.1
  rw [← hT,List.length_map,← hn]
  omega
 refine qc_loop (fun m e s'=>∃ (D:List Nat) (k:Int) (f:Nat) (lv:LV),m=f∧f≤n∧-1≤k∧k<(f:Int)∧D++(wayR acc f k).map (·.2)=T∧SkC s' lv 1 (nints D) D.length∧(∀ id,uses lv id→s.n<id)∧s.n<s'.n∧s'.get s.n=some (.cells .mut [.mref M, .sref jp 0 n 2, .sref jb 0 n 1])∧(∀ id,id<s.n→s'.get id=s.get id)∧e.at 2 = .pref s.n 0∧e.at 5=lv∧e.at 6 = .int .i64 k) _
  ⟨[],y.2,n, .nils,rfl,Nat.le_refl _,hyb.1,by omega,hT,SkC.nil _ _,fun id h=>absurd h (uses_nils id),by omega,g2,hfr,ef,ef,ef⟩ ?_
 clear e0 e1 g2 hfr hn1 gM1 gp1 gb1
 clear e s1
 rintro m e s1 ⟨D,k,f,lv,rfl,hf,hk1,hk2,hD,hS,hlv,hn1,g2,hfr,e2,e5,e6⟩
 have gp1:=(hfr jp hjp).trans hgp
 have gb1:=(hfr jb hjb).trans hgb
 by_cases hk0:0≤k
 ·obtain ⟨q,rfl⟩:∃ q:Nat,k=(q:Int):=⟨k.toNat,by omega⟩
  obtain ⟨f2,hf2⟩:∃ g,m=g+1:=⟨m - 1,by omega⟩
  subst hf2
  have hqn:q<acc.length:=by omega
  have hqI:(q:Int)<(n:Int):=by omega
  obtain ⟨z,hz⟩:∃ z,acc[q]? = some z:=⟨acc[q],List.getElem?_eq_getElem hqn⟩
  have hzb:=hbefore q z hz
  rw [wayR_step hz] at hD
  have hz1:(pcells (acc.map (·.1)))[q*2+1]? = some (.int .i64 (z.1.2:Int)):=pcells_snd (by rw [List.getElem?_map,hz];rfl)
  have hz2:(ints (acc.map (·.2)))[q]? = some (.int .i64 z.2):=by simp [ints,hz]
  have hDl:D.length≤T.length:=by rw [← hD];simp
  repeat' (first | refine gA (And.intro @iaS (And.intro @g2 (And.intro @gp1 (And.intro @gb1 (And.intro @hz1 @hz2))))) ?_ | (refine gB (And.intro @iaS (And.intro @g2 (And.intro @gp1 (And.intro @gb1 (And.intro @hz1 @hz2))))) ?_;intro bb hbb;cases bb<;>(try simp only [hbs,if_false,reduceCtorEq] at hbb)) | apply qc_seq | fail)
  ·exfalso;omega
  refine q_appC (n:=D.length) (esz:=1) (xv:=.int .i64 (z.1.2:Int)) (yv:=lv) (vs:=[.int .i64 (z.1.2:Int)]) ef rfl rfl rfl rfl ef hS (by decide) (by omega) (fun s2 j2 a1 a2 a3 a4=>?_)
  have g2':s2.get s.n=some (.cells .mut [.mref M, .sref jp 0 n 2, .sref jb 0 n 1]):=by rw [a4 _ hn1 fun hu=>by have:=hlv _ hu;omega];exact g2
  have hfr':∀ id,id<s.n→s2.get id=s.get id:=fun id hid=>by rw [a4 id (by omega) fun hu=>by have:=hlv _ hu;omega];exact hfr id hid
  have gb2:=(hfr' jb hjb).trans hgb
  repeat' (first | refine gA (And.intro @iaS (And.intro @g2' (And.intro @gb2 @hz2))) ?_ | (refine gB (And.intro @iaS (And.intro @g2' (And.intro @gb2 @hz2))) ?_;intro bb hbb;cases bb<;>(try simp only [hbs,if_false,reduceCtorEq] at hbb)) | apply qc_seq | fail)
  refine ⟨f2,by omega,D++[z.1.2],z.2,f2, .sref j2 0 (D.length+1) 1,rfl,by omega,hzb.1,by omega,by rw [← hD];simp,?_,fun id hu=>?_,by omega,g2',hfr',?_⟩
  ·have h2:nints (D++[z.1.2])=nints D++[.int .i64 (z.1.2:Int)]:=by simp [nints]
   rw [h2,List.length_append]
   exact a2
  ·rw [uses_sref.1 hu];omega
  ·simp only [lk,sv1,sv2,sv3,Nat.reduceEqDiff,Nat.reduceAdd,Nat.reduceLeDiff,reduceIte,if_false,if_true,mkVal,unLV,List.map,optTmps,e2,and_self]
 ·rw [wayR_neg (by omega),List.map_nil,List.append_nil] at hD
  subst hD
  obtain ⟨c,hc⟩:∃ c,D.length=c:=⟨_,rfl⟩
  have hSl:=hS.len
  rw [hc] at hSl hTn
  have hw0:IntKind.i64.wrap ((c:Int) - 1)=(c:Int) - 1:=wrap_i64 _ (by omega) (by omega)
  repeat' (first | refine gA (And.intro @hSl @hw0) ?_ | (refine gB (And.intro @hSl @hw0) ?_;intro bb hbb;cases bb<;>(try simp only [hbs,if_false,reduceCtorEq] at hbb)) | apply qc_seq | fail)
  rotate_left
  ·exfalso;omega
  refine qc_loop (fun m e s'=>∃ i:Nat,m=c+1 - 2*i∧2*i≤c+1∧SkC s' lv 1 (fcells c (rvF D i)) c∧s.n<s'.n∧(∀ id,id<s.n→s'.get id=s.get id)∧e.at 5=lv∧e.at 7 = .int .i64 (i:Int)∧e.at 8 = .int .i64 ((c:Int) - 1 - i)) _
   ⟨0, rfl, by omega, by
    have:fcells c (rvF D 0)=nints D:=by
     rw [nints_fc,hc]
     unfold fcells
     refine List.map_congr_left fun k hk=>?_
     have hk':k<c:=List.mem_range.1 hk
     unfold rvF
     rw [if_neg (by omega)]
    rw [this,← hc];exact hS,hn1,hfr,ef,by simp only [lk,sv1,sv2,sv3,Nat.reduceEqDiff,Nat.reduceAdd,Nat.reduceLeDiff,reduceIte,if_false,if_true,mkVal,unLV,List.map,optTmps];rfl,by simp only [lk,sv1,sv2,sv3,Nat.reduceEqDiff,Nat.reduceAdd,Nat.reduceLeDiff,reduceIte,if_false,if_true,mkVal,unLV,List.map,optTmps];rw [hw0];simp⟩ ?_
  clear e2 e5 e6 g2 hfr hn1 gp1 gb1 hS
  clear e s1
  rintro m e s1 ⟨i,rfl,hi,hS,hn1,hfr,e5,e7,e8⟩
  have hw1:IntKind.i64.wrap ((i:Int)+1)=((i+1:Nat):Int):=by rw [wrap_i64 _ (by omega) (by omega)];rfl
  have hw2:IntKind.i64.wrap ((c:Int) - 1 - (i:Int) - 1)=(c:Int) - 1 - ((i+1:Nat):Int):=by rw [wrap_i64 _ (by omega) (by omega)];omega
  by_cases hij:(i:Int)<(c:Int) - 1 - (i:Int)
  ·obtain ⟨j,rfl,hj,hg⟩:=hS.pos (by omega)
   have hjs:=hlv j (uses_sref.2 rfl)
   obtain ⟨q,hq⟩:∃ q:Nat,(c:Int) - 1 - (i:Int)=(q:Int):=⟨c - 1 - i,by omega⟩
   rw [hq] at e8 hij hw2
   have hiI:(i:Int)<(c:Int):=by omega
   have hqI:(q:Int)<(c:Int):=by omega
   have g1:(fcells c (rvF D i))[i]? = some (.int .i64 (rvF D i i:Int)):=fcells_get (by omega)
   have g2:(fcells c (rvF D i))[q]? = some (.int .i64 (rvF D i q:Int)):=fcells_get (by omega)
   repeat' (first | refine gA (And.intro @iaS (And.intro @g1 @g2)) ?_ | (refine gB (And.intro @iaS (And.intro @g1 @g2)) ?_;intro bb hbb;cases bb<;>(try simp only [hbs,if_false,reduceCtorEq] at hbb)) | apply qc_seq | fail)
   ·exfalso;omega
   refine q_storeF (i:=j) (v:=i) (y:=rvF D i q) (f:=rvF D i) (f':=fun k=>if k=i then rvF D i q else rvF D i k) (by simp only [lk,sv1,sv2,sv3,Nat.reduceEqDiff,Nat.reduceAdd,Nat.reduceLeDiff,reduceIte,if_false,if_true,mkVal,unLV,List.map,optTmps,Nat.zero_add,Nat.mul_one]) ef hg (by omega) (fun _=>rfl) (fun s2 a1 a2 a3=>?_)
   repeat' (first | refine gA (And.intro @iaS (And.intro @g1 @g2)) ?_ | (refine gB (And.intro @iaS (And.intro @g1 @g2)) ?_;intro bb hbb;cases bb<;>(try simp only [hbs,if_false,reduceCtorEq] at hbb)) | apply qc_seq | fail)
   refine q_storeF (i:=j) (v:=q) (y:=rvF D i i) (f:=fun k=>if k=i then rvF D i q else rvF D i k) (f':=rvF D (i+1)) (by simp only [lk,sv1,sv2,sv3,Nat.reduceEqDiff,Nat.reduceAdd,Nat.reduceLeDiff,reduceIte,if_false,if_true,mkVal,unLV,List.map,optTmps,Nat.zero_add,Nat.mul_one]) ef a2 (by omega) (fun k=>?_) (fun s3 b1 b2 b3=>?_)
   ·have hq':q=c - 1 - i:=by omega
    subst hq'
    by_cases h1:k=c - 1 - i
    ·rw [if_pos h1]
     unfold rvF
     rw [hc,if_pos (by omega),if_neg (by omega)]
     congr 1
     omega
    ·rw [if_neg h1]
     by_cases h2:k=i
     ·rw [if_pos h2]
      unfold rvF
      rw [hc,if_pos (by omega),if_neg (by omega)]
      congr 1
      omega
     ·rw [if_neg h2]
      unfold rvF
      rw [hc]
      by_cases h3:k<i∨c≤k+i
      ·rw [if_pos h3,if_pos (by omega)]
      ·rw [if_neg h3,if_neg (by omega)]
   repeat' (first | refine gA trivial ?_ | (refine gB trivial ?_;intro bb hbb;cases bb<;>(try simp only [hbs,if_false,reduceCtorEq] at hbb)) | apply qc_seq | fail)
   refine ⟨c+1 - 2*(i+1),by omega,i+1,rfl,by omega,⟨by simp, .inr ⟨j,rfl,by omega,by omega,b2⟩⟩,by omega,fun id hid=>?_,?_⟩
   ·have hne:id≠j:=by omega
    rw [b3 id hne,a3 id hne];exact hfr id hid
   ·simp only [lk,sv1,sv2,sv3,Nat.reduceEqDiff,Nat.reduceAdd,Nat.reduceLeDiff,reduceIte,if_false,if_true,mkVal,unLV,List.map,optTmps,hw1,hw2,e5,and_self]
  ·repeat' (first | refine gA trivial ?_ | (refine gB trivial ?_;intro bb hbb;cases bb<;>(try simp only [hbs,if_false,reduceCtorEq] at hbb)) | apply qc_seq | fail)
   rotate_left
   ·exfalso;omega
   refine ⟨.inr trivial,lv,ef,?_,by omega,fun id hu=>Nat.le_of_lt (hlv id hu),hfr⟩
   have:=rvF_end (l:=D) (i:=i) (by omega)
   rw [hc] at this
   rw [← this,List.length_reverse,hc]
   exact hS
end Go.Proofs.YtgobbogomchnhaaGreatDoor
end
