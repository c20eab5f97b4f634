/- Numbering a graph, plainly: what buchi.automaton makes of any states. -/
import Derived.Test.YtgobbogomchnhaaGreatDoorTnum
import Derived.Test.YtgobbogomchnhaaGreatDoorTsort
set_option linter.unusedSimpArgs false
set_option linter.unusedVariables false
section
set_option linter.unusedSimpArgs false
set_option linter.unusedVariables false
namespace Go.Proofs.YtgobbogomchnhaaGreatDoor
open Go Go.Pv Go.Bfs
open Classical
structure Grf where
 L:Int
 st:List Nat
 N:Nat
 mv:Nat→Nat→List (Nat × Bool)
def Grf.sa (g:Grf) (p a:Nat):List Nat:=(g.mv p a).map (·.1)
def Grf.suc (g:Grf) (p:Nat):List Nat:=(List.range g.L.toNat).flatMap (g.sa p)
def Grf.s0 (g:Grf):List Nat:=addsN [] g.st
def Grf.R (g:Grf):List Nat:=runN g.suc (g.N+1) 0 g.s0
structure GrfOk (g:Grf) (most:Int):Prop where
 L1:1≤g.L
 L2:g.L≤64
 N3:(g.N:Int)≤most
 m3:most≤3000
 stN:∀ p∈g.st,p<g.N
 stl:g.st.length≤1000000
 mvN:∀ p a,p<g.N→∀ m∈g.mv p a,m.1<g.N
 mvl:∀ p a,p<g.N→(g.mv p a).length≤1000000
def Grf.ren (g:Grf) (ms:List (Nat × Bool)):Moves:=ms.map fun m=>((numN g.R m.1:Int),m.2)
def SSt (ms:Moves):Prop:=∀ i j,i<j→j<ms.length→mlt (ms.getD i (0,false)) (ms.getD j (0,false))
structure AutoR (g:Grf) (C:Bu):Prop where
 L:C.L=g.L
 st:C.start=g.st.map fun p=>(numN g.R p:Int)
 len:C.next.length=g.R.length
 row:∀ n,n<g.R.length→((C.next.getD n []).length:Int)=g.L∧∀ a:Nat,(a:Int)<g.L→(∀ x,x∈(C.next.getD n []).getD a []↔x∈g.ren (g.mv (g.R.getD n 0) a))∧SSt ((C.next.getD n []).getD a [])
theorem gr_ok {g:Grf} {most:Int} (h:GrfOk g most):g.R.Nodup∧(∀ p∈g.R,p<g.N)∧∀ p∈g.R,∀ q∈g.suc p,q∈g.R:=by
 have h0:∀ p∈g.s0,p<g.N:=addsN_in (fun p hp=>by cases hp) h.stN
 have hs:∀ p,p<g.N→∀ q∈g.suc p,q<g.N:=by
  intro p hp q hq
  obtain ⟨a,ha,hq⟩:=List.mem_flatMap.1 hq
  obtain ⟨m,hm,rfl⟩:=List.mem_map.1 hq
  exact h.mvN p a hp m hm
 exact runN_ok hs (g.N+1) 0 g.s0 (addsN_nd (by simp)) h0 (fun i p hi=>absurd hi (Nat.not_lt_zero _)) (by omega)
theorem gr_len {g:Grf} {most:Int} (h:GrfOk g most) {ps:List Nat} (hp:Pre ps g.R):ps.length≤g.N:=by
 obtain ⟨h1,h2,_⟩:=gr_ok h
 have h3:=Aut.pig g.N g.R h1 h2
 obtain ⟨t,ht⟩:=hp
 rw [ht,List.length_append] at h3
 omega
theorem s0_pre (g:Grf) (i:Nat):Pre (addsN [] (g.st.take i)) g.R:=by
 refine Pre.trans ?_ (runN_pre g.suc _ 0 g.s0)
 have:g.st=g.st.take i++g.st.drop i:=by rw [List.take_append_drop]
 rw [Grf.s0,this,addsN_append]
 simp only [List.take_append_drop]
 exact addsN_pre _ _
theorem st_in {g:Grf} : ∀ p∈g.st,p∈g.R:=fun p hp=>by
 have:=s0_pre g g.st.length
 rw [List.take_length] at this
 exact this.mem (addsN_mem hp)
theorem mlt_tri' {x y:Int × Bool} (h:x≠y) (hn:¬ mlt y x):mlt x y:=by
 obtain ⟨a,p⟩:=x
 obtain ⟨b,q⟩:=y
 unfold mlt at *
 simp only [not_or,not_and] at *
 by_cases e:a=b
 ·subst e
  cases p<;>cases q<;>simp at *
 ·exact .inl (by omega)
theorem mlt_trans {x y z:Int × Bool} (h:mlt x y) (k:mlt y z):mlt x z:=by
 unfold mlt at *
 rcases h with h | ⟨a,b,c⟩<;>rcases k with k | ⟨d,e,f⟩
 ·exact .inl (by omega)
 ·exact .inl (by omega)
 ·exact .inl (by omega)
 ·rw [c] at e;cases e
def dd (ms:Moves):Nat→Moves
 | 0=>[]
 | i+1=>if 0<i∧ms.getD i (0,false)=ms.getD (i - 1) (0,false) then dd ms i else dd ms i++[ms.getD i (0,false)]
theorem dd_pos (ms:Moves):∀ i,0<i→0<(dd ms i).length
 | 0,h=>absurd h (Nat.lt_irrefl _)
 | i+1,_=>by
  simp only [dd]
  split
  ·rename_i h;exact dd_pos ms i h.1
  ·simp
theorem dd_mem (ms:Moves) (x:Int × Bool):∀ i,x∈dd ms i↔∃ t,t<i∧ms.getD t (0,false)=x
 | 0=>by simp [dd]
 | i + 1 => by
  have ih:=dd_mem ms x i
  simp only [dd]
  split
  ·rename_i h
   rw [ih]
   constructor
   ·rintro ⟨t,h1,h2⟩;exact ⟨t,by omega,h2⟩
   ·rintro ⟨t,h1,h2⟩
    by_cases e:t=i
    ·subst e;exact ⟨t - 1,by omega,by rw [← h.2];exact h2⟩
    ·exact ⟨t,by omega,h2⟩
  ·rw [List.mem_append,ih,List.mem_singleton]
   constructor
   ·rintro (⟨t,h1,h2⟩ | h)
    ·exact ⟨t,by omega,h2⟩
    ·exact ⟨i,by omega,h.symm⟩
   ·rintro ⟨t,h1,h2⟩
    by_cases e:t=i
    ·subst e;exact .inr h2.symm
    ·exact .inl ⟨t,by omega,h2⟩
theorem dd_last (ms:Moves):∀ i,0<i→(dd ms i).getD ((dd ms i).length - 1) (0,false)=ms.getD (i - 1) (0,false)
 | 0,h=>absurd h (Nat.lt_irrefl _)
 | i + 1, _ => by
  simp only [dd]
  split
  ·rename_i h
   rw [dd_last ms i h.1,Nat.add_sub_cancel,h.2]
  ·rw [List.length_append,List.length_singleton,Nat.add_sub_cancel,List.getD_eq_getElem?_getD,List.getElem?_append_right (Nat.le_refl _),Nat.sub_self]
   rfl
theorem dd_sst {ms:Moves} (hs:∀ a b,a<b→b<ms.length→¬ mlt (ms.getD b (0,false)) (ms.getD a (0,false))):∀ i,i≤ms.length→SSt (dd ms i)
 | 0,_=>fun i j _ hj=>absurd hj (Nat.not_lt_zero _)
 | i + 1, hi => by
  have ih:=dd_sst hs i (by omega)
  simp only [dd]
  split
  ·exact ih
  ·rename_i hne
   intro a b hab hb
   rw [List.length_append,List.length_singleton] at hb
   by_cases e:b=(dd ms i).length
   ·subst e
    have ga:(dd ms i++[ms.getD i (0,false)]).getD a (0,false)=(dd ms i).getD a (0,false):=by rw [List.getD_eq_getElem?_getD,List.getElem?_append_left hab,← List.getD_eq_getElem?_getD]
    have gb:(dd ms i++[ms.getD i (0,false)]).getD (dd ms i).length (0,false)=ms.getD i (0,false):=by rw [List.getD_eq_getElem?_getD,List.getElem?_append_right (Nat.le_refl _),Nat.sub_self];rfl
    rw [ga,gb]
    have hip:0<i:=by
     cases i with
     | zero=>exact absurd hab (Nat.not_lt_zero _)
     | succ i=>omega
    have h1:mlt (ms.getD (i - 1) (0,false)) (ms.getD i (0,false)):=mlt_tri' (fun h=>hne ⟨hip,h.symm⟩) (hs (i - 1) i (by omega) (by omega))
    have hl:=dd_last ms i hip
    by_cases e2:a=(dd ms i).length - 1
    ·rw [e2,hl];exact h1
    ·have h2:=ih a ((dd ms i).length - 1) (by omega) (by omega)
     rw [hl] at h2
     exact mlt_trans h2 h1
   ·have ga:(dd ms i++[ms.getD i (0,false)]).getD a (0,false)=(dd ms i).getD a (0,false):=by rw [List.getD_eq_getElem?_getD,List.getElem?_append_left (by omega),← List.getD_eq_getElem?_getD]
    have gb:(dd ms i++[ms.getD i (0,false)]).getD b (0,false)=(dd ms i).getD b (0,false):=by rw [List.getD_eq_getElem?_getD,List.getElem?_append_left (by omega),← List.getD_eq_getElem?_getD]
    rw [ga,gb]
    exact ih a b hab (by omega)
theorem dd_get {ms:Moves} {i:Nat} (hi:i≤ms.length) {x:Int × Bool} : x∈dd ms ms.length↔x∈ms:=by
 rw [dd_mem]
 constructor
 ·rintro ⟨t,h1,h2⟩
  rw [← h2,List.getD_eq_getElem?_getD,List.getElem?_eq_getElem h1]
  exact List.getElem_mem h1
 ·intro h
  obtain ⟨t,ht⟩:=List.mem_iff_getElem?.1 h
  obtain ⟨h1,h2⟩:=List.getElem?_eq_some_iff.1 ht
  exact ⟨t,h1,by rw [List.getD_eq_getElem?_getD,ht];rfl⟩
end Go.Proofs.YtgobbogomchnhaaGreatDoor
end
section
set_option linter.unusedSimpArgs false
set_option linter.unusedVariables false
namespace Go.Proofs.YtgobbogomchnhaaGreatDoor
open Go Go.Pv
open Classical
theorem meq_is (a b:Int × Bool):eqLV (.struct [(0,(1, .int)),(1,(1, .bool))]) (.agg [.int .i64 a.1, .bool a.2]) (.agg [.int .i64 b.1, .bool b.2])=some (decide (a=b)):=by
 by_cases h:a=b
 ·subst h
  obtain ⟨x,p⟩:=a
  cases p<;>simp [eqLV,eqLV.eqFields,scEq]
 ·rw [meq_false h,decide_eq_false h]
theorem mcells_set:∀ {ms:Moves} {k:Nat} {x:Int × Bool},k<ms.length→splice (mcells ms) (k*2) [.int .i64 x.1, .bool x.2]=mcells (ms.set k x)
 | [],k,x,h=>absurd h (Nat.not_lt_zero _)
 | m::ms,0,x,_=>by simp [mcells,splice]
 | m::ms,k+1,x,h=>by
  have:=mcells_set (ms:=ms) (k:=k) (x:=x) (by simpa using h)
  rw [List.set_cons_succ]
  have e:(k+1)*2=k*2+1+1:=by omega
  rw [e]
  simp only [mcells,splice,List.set_cons_succ] at this ⊢
  rw [this]
structure CK (ms cur:Moves) (k i:Nat):Prop where
 len:cur.length=ms.length
 pos:0<i
 le:i≤ms.length
 kd:k=(dd ms i).length
 ki:k<i
 pre:cur.take k=dd ms i
 post:∀ t,i - 1≤t→t<ms.length→cur.getD t (0,false)=ms.getD t (0,false)
theorem dd_all {ms:Moves} : ∀ i,i≤ms.length→(∀ t,0<t→t<i→ms.getD t (0,false)≠ms.getD (t - 1) (0,false))→dd ms i=ms.take i
 | 0,_,_=>by simp [dd]
 | i+1,hi,h=>by
  have ih:=dd_all i (by omega) fun t a b=>h t a (by omega)
  simp only [dd]
  rw [if_neg (fun hh=>h i hh.1 (by omega) hh.2),ih,List.take_add_one,List.getD_eq_getElem?_getD,List.getElem?_eq_getElem (by omega)]
  rfl
theorem CK.init {ms:Moves} {k:Nat} (hk0:0<k) (hk:k<ms.length) (h:∀ t,0<t→t<k→ms.getD t (0,false)≠ms.getD (t - 1) (0,false)) (he:ms.getD k (0,false)=ms.getD (k - 1) (0,false)):CK ms ms k (k+1):=by
 have h1:=dd_all k (by omega) h
 have h2:dd ms (k+1)=dd ms k:=by simp only [dd];rw [if_pos ⟨hk0,he⟩]
 refine ⟨rfl,by omega,by omega,?_,by omega,?_,fun t _ _=>rfl⟩
 ·rw [h2,h1,List.length_take];omega
 ·rw [h2,h1]
theorem CK.same {ms cur:Moves} {k i:Nat} (h:CK ms cur k i) (hi:i<ms.length) (he:ms.getD i (0,false)=ms.getD (i - 1) (0,false)):CK ms cur k (i+1):=by
 have h2:dd ms (i+1)=dd ms i:=by simp only [dd];rw [if_pos ⟨h.pos,he⟩]
 have:=h.ki
 exact ⟨h.len,by omega,by omega,by rw [h2];exact h.kd,by omega,by rw [h2];exact h.pre,fun t a b=>h.post t (by omega) b⟩
theorem CK.more {ms cur:Moves} {k i:Nat} (h:CK ms cur k i) (hi:i<ms.length) (he:ms.getD i (0,false)≠ms.getD (i - 1) (0,false)):CK ms (cur.set k (ms.getD i (0,false))) (k+1) (i+1):=by
 have h2:dd ms (i+1)=dd ms i++[ms.getD i (0,false)]:=by simp only [dd];rw [if_neg fun hh=>he hh.2]
 have hki:=h.ki
 have hl:=h.len
 refine ⟨by simp [hl],by omega,by omega,by rw [h2,List.length_append,← h.kd];rfl,by omega,?_,fun t a b=>?_⟩
 ·rw [h2,List.take_add_one,List.take_set_of_le (Nat.le_refl _),h.pre,List.getElem?_set_self (by omega)]
  rfl
 ·have:=h.post t (by omega) b
  rw [← this,List.getD_eq_getElem?_getD,List.getElem?_set_ne (by omega),← List.getD_eq_getElem?_getD]
theorem run_sliceLo {e:Env} {s:St} {x lo:Opd} {j n k:Nat} (hx:x.ev e = .sref j 0 n 2) (hl:lo.ev e = .int .i64 (k:Int)) (hk:k≤n):(LOp.slice 2 x (some lo) none).run e s=some (.sref j (k*2) (n - k) 2,s):=by
 simp [LOp.run,hx,hl,bndOf,hk]
theorem run_sliceHi {e:Env} {s:St} {x hi:Opd} {j n k:Nat} (hx:x.ev e = .sref j 0 n 2) (hl:hi.ev e = .int .i64 (k:Int)) (hk:k≤n):(LOp.slice 2 x none (some hi)).run e s=some (.sref j 0 k 2,s):=by
 simp [LOp.run,hx,hl,bndOf,hk]
theorem splice_tail (vs:List LV):∀ (cs:List LV) (o:Nat),o+vs.length=cs.length→splice cs o vs=cs.take o++vs:=by
 induction vs with
 | nil=>intro cs o h;simp only [splice,List.append_nil];rw [List.take_of_length_le (by simpa using Nat.le_of_eq h.symm)]
 | cons v vs ih=>
  intro cs o h
  simp only [List.length_cons] at h
  rw [splice,ih (cs.set o v) (o+1) (by simp;omega),List.take_add_one,List.take_set_of_le (Nat.le_refl _),List.getElem?_set_self (by omega)]
  simp
theorem mcells_take (ms:Moves) (k:Nat):(mcells ms).take (k*2)=mcells (ms.take k):=by
 induction ms generalizing k with
 | nil=>simp [mcells]
 | cons m ms ih=>
  cases k with
  | zero=>simp [mcells]
  | succ k=>
   have e:(k+1)*2=k*2+1+1:=by omega
   rw [e]
   simp only [mcells,List.take_succ_cons,ih]
set_option maxHeartbeats 8000000 in
theorem pcomp_ok {s:St} {j:Nat} {ms:Moves} (hs:s.get j=some (.cells .mut (mcells ms))) (hl1:1≤ms.length) (hl2:ms.length≤1048576) (hso:∀ a b,a<b→b<ms.length→¬ mlt (ms.getD b (0,false)) (ms.getD a (0,false))) :
  CallOk Tryz.prog GL (.fn (.func 76) [] []) [.sref j 0 ms.length 2] s (fun r s'=>∃ (ds:Moves) (rest:List LV),r = .sref j 0 ds.length 2∧1≤ds.length∧ds.length≤ms.length∧SSt ds∧(∀ x,x∈ds↔x∈ms)∧LV.closed.closedAll rest=true∧s'.n=s.n∧s'.get j=some (.cells .mut (mcells ds++rest))∧∀ id,id≠j→s'.get id=s.get id):=by
 refine call_fn (first:=[]) (caps:=[]) Tryz.func76 (by decide +kernel) c76 (Nat.le_of_ble_eq_true rfl) (CodeOk.mono (Q:=fun o e s'=>(o = .normal∨o = .jmp .ret)∧∃ (ds:Moves) (rest:List LV),e.at 2 = .sref j 0 ds.length 2∧1≤ds.length∧ds.length≤ms.length∧SSt ds∧(∀ x,x∈ds↔x∈ms)∧LV.closed.closedAll rest=true∧s'.n=s.n∧s'.get j=some (.cells .mut (mcells ds++rest))∧∀ id,id≠j→s'.get id=s.get id) ?_ fun o e s' hh=>by
  obtain ⟨h1,ds,rest,h2,h3⟩:=hh
  exact ⟨h1, .sref j 0 ds.length 2,by simp [l76,resVal,resOne,h2],ds,rest,rfl,h3⟩)
 have e0:(envOf ([]++[.sref j 0 ms.length 2]++[])).at 0 = .sref j 0 ms.length 2:=by rw [envOf_at];rfl
 generalize envOf ([]++[.sref j 0 ms.length 2]++[])=e at *
 refine Cd.out ?_
 unfold l76
 dsimp only [jA,jB,jG,qM,qN,qS,qI,qA,qB,qC,qm]
 have hsl:slLen (.sref j 0 ms.length 2)=some ms.length:=rfl
 have hall:∀ k,k≤ms.length→(∀ t,0<t→t<k→ms.getD t (0,false)≠ms.getD (t - 1) (0,false))→k=ms.length→SSt ms:=fun k hk h he=>by
  subst he
  have h1:=dd_all ms.length (Nat.le_refl _) h
  rw [List.take_length] at h1
  have:=dd_sst hso ms.length (Nat.le_refl _)
  rwa [h1] at this
 repeat' (first | refine gA @hsl ?_ | (refine gB @hsl ?_;intro bb hbb;cases bb<;>(try simp only [hbs,if_false,reduceCtorEq] at hbb)) | apply qc_seq | fail)
 rotate_left
 ·have h1:ms.length=1:=by omega
  exact ⟨.inr trivial,ms,[],ef,hl1,Nat.le_refl _,fun i k _ _=>by omega,fun x=>Iff.rfl,rfl,by first | trivial | rfl,by simpa using hs,by intros;first | trivial | rfl⟩
 refine qc_loop (fun m e s1=>s1=s∧∃ k:Nat,m=ms.length - k∧0<k∧k≤ms.length∧(∀ t,0<t→t<k→ms.getD t (0,false)≠ms.getD (t - 1) (0,false))∧e.at 0 = .sref j 0 ms.length 2∧e.at 3 = .int .i64 (k:Int)) _
  ⟨rfl,1,rfl,by omega,by omega,fun t a b=>by omega,ef,by simp only [lk,sv1,sv2,sv3,Nat.reduceEqDiff,Nat.reduceAdd,Nat.reduceLeDiff,reduceIte,if_false,if_true,mkVal,unLV,List.map,optTmps];rfl⟩ ?_
 clear e0 hbb
 clear e
 rintro mm e s1 ⟨rfl,k,rfl,hk0,hk,hne,e0,e3⟩
 by_cases hkl:k<ms.length
 ·have hkI:(k:Int)<(ms.length:Int):=by omega
  have hkI1:((k - 1:Nat):Int)<(ms.length:Int):=by omega
  have hw:IntKind.i64.wrap ((k:Int)+1)=((k+1:Nat):Int):=by rw [wrap_i64 _ (by omega) (by omega)];rfl
  have hw1:IntKind.i64.wrap ((k:Int) - 1)=((k - 1:Nat):Int):=by rw [wrap_i64 _ (by omega) (by omega)];omega
  have hl1':=loadN_movesR hkl hs
  have hl3:=loadN_movesR (k:=k - 1) (by omega) hs
  have hq:=meq_is (ms.getD k (0,false)) (ms.getD (k - 1) (0,false))
  have hi1:iaLV 2 (.sref j 0 ms.length 2) (.int .i64 (k:Int)) s1=some (.pref j (k*2),s1):=by rw [iaS hkI,Nat.zero_add]
  have hi2:iaLV 2 (.sref j 0 ms.length 2) (.int .i64 ((k - 1:Nat):Int)) s1=some (.pref j ((k - 1)*2),s1):=by rw [iaS hkI1,Nat.zero_add]
  repeat' (first | refine gA (And.intro @hsl (And.intro @hw1 (And.intro @hi1 (And.intro @hi2 (And.intro @hl1' (And.intro @hl3 @hq)))))) ?_ | (refine gB (And.intro @hsl (And.intro @hw1 (And.intro @hi1 (And.intro @hi2 (And.intro @hl1' (And.intro @hl3 @hq)))))) ?_;intro bb hbb;cases bb<;>(try simp only [hbs,if_false,reduceCtorEq] at hbb)) | apply qc_seq | fail)
  ·exfalso;omega
  · -- all different so far
   refine ⟨ms.length - (k+1),by omega,trivial,k+1,rfl,by omega,by omega,fun t a b=>?_,?_⟩
   ·by_cases he:t=k
    ·rw [he];exact hbb
    ·exact hne t a (by omega)
   ·simp only [lk,sv1,sv2,sv3,Nat.reduceEqDiff,Nat.reduceAdd,Nat.reduceLeDiff,reduceIte,if_false,if_true,mkVal,unLV,List.map,optTmps,hw,e0,and_self]
  · -- from here on some are left out
   have hC0:=CK.init hk0 hkl hne hbb
   refine q_run0 (run_sliceLo (n:=ms.length) (k:=k) ef ef hk) ?_
   have hsl2:slLen (.sref j (k*2) (ms.length - k) 2)=some (ms.length - k):=rfl
   repeat' (first | refine gA @hsl2 ?_ | (refine gB @hsl2 ?_;intro bb hbb;cases bb<;>(try simp only [hbs,if_false,reduceCtorEq] at hbb)) | apply qc_seq | fail)
   refine qc_loop (fun m e s2=>∃ (i q:Nat) (cur:Moves),m=ms.length - i∧CK ms cur q i∧k<i∧s2.n=s1.n∧s2.get j=some (.cells .mut (mcells cur))∧(∀ id,id≠j→s2.get id=s1.get id)∧e.at 0 = .sref j 0 ms.length 2∧e.at 3 = .int .i64 (q:Int)∧e.at 4 = .sref j (k*2) (ms.length - k) 2∧e.at 5 = .int .i64 ((i - k:Nat):Int)) _
    ⟨k+1,k,ms,rfl,hC0,by omega,rfl,hs,fun _ _=>rfl,ef,ef,ef,by simp only [lk,sv1,sv2,sv3,Nat.reduceEqDiff,Nat.reduceAdd,Nat.reduceLeDiff,reduceIte,if_false,if_true,mkVal,unLV,List.map,optTmps];rw [Nat.add_sub_cancel_left];rfl⟩ ?_
   clear e0 e3 hl1' hl3 hq hi1 hi2 hw hw1 hkI hkI1 hC0 hbb
   clear e
   rintro mm e s2 ⟨i,q,cur,rfl,hC,hki,hn2,hg2,ho2,e0,e3,e4,e5⟩
   have hcl:=hC.len
   have hqi:=hC.ki
   have hil:=hC.le
   have hqp:0<q:=by rw [hC.kd];exact dd_pos ms i hC.pos
   by_cases hii:i<ms.length
   ·have hiI:((i - k:Nat):Int)<((ms.length - k:Nat):Int):=by omega
    have hiI1:((i - 1 - k:Nat):Int)<((ms.length - k:Nat):Int):=by omega
    have hqI:(q:Int)<(ms.length:Int):=by omega
    have hw:IntKind.i64.wrap (((i - k:Nat):Int)+1)=((i+1 - k:Nat):Int):=by rw [wrap_i64 _ (by omega) (by omega)];omega
    have hw1:IntKind.i64.wrap (((i - k:Nat):Int) - 1)=((i - 1 - k:Nat):Int):=by rw [wrap_i64 _ (by omega) (by omega)];omega
    have hwq:IntKind.i64.wrap ((q:Int)+1)=((q+1:Nat):Int):=by rw [wrap_i64 _ (by omega) (by omega)];rfl
    have p1:=hC.post i (by omega) hii
    have p2:=hC.post (i - 1) (by omega) (by omega)
    have hld:=loadN_movesR (ms:=cur) (k:=i) (by omega) hg2
    have hld1:=loadN_movesR (ms:=cur) (k:=i - 1) (by omega) hg2
    rw [p1] at hld
    rw [p2] at hld1
    have hq:=meq_is (ms.getD i (0,false)) (ms.getD (i - 1) (0,false))
    have hi1:iaLV 2 (.sref j (k*2) (ms.length - k) 2) (.int .i64 ((i - k:Nat):Int)) s2=some (.pref j (i*2),s2):=by
     rw [iaS hiI,show k*2+(i - k)*2=i*2 by omega]
    have hi2:iaLV 2 (.sref j (k*2) (ms.length - k) 2) (.int .i64 ((i - 1 - k:Nat):Int)) s2=some (.pref j ((i - 1)*2),s2):=by
     rw [iaS hiI1,show k*2+(i - 1 - k)*2=(i - 1)*2 by omega]
    have hi3:iaLV 2 (.sref j 0 ms.length 2) (.int .i64 (q:Int)) s2=some (.pref j (q*2),s2):=by rw [iaS hqI,Nat.zero_add]
    clear p1 p2
    repeat' (first | refine gA (And.intro @hsl2 (And.intro @hw1 (And.intro @hi1 (And.intro @hi2 (And.intro @hld (And.intro @hld1 @hq)))))) ?_ | (refine gB (And.intro @hsl2 (And.intro @hw1 (And.intro @hi1 (And.intro @hi2 (And.intro @hld (And.intro @hld1 @hq)))))) ?_;intro bb hbb;cases bb<;>(try simp only [hbs,if_false,reduceCtorEq] at hbb)) | apply qc_seq | fail)
    ·exfalso;omega
    · -- the same again
     have hM:=hC.same hii (by
      by_cases h:ms.getD i (0,false)=ms.getD (i - 1) (0,false)
      ·exact h
      ·rw [decide_eq_false h] at hbb;simp at hbb)
     repeat' (first | refine gA trivial ?_ | (refine gB trivial ?_;intro bb hbb;cases bb<;>(try simp only [hbs,if_false,reduceCtorEq] at hbb)) | apply qc_seq | fail)
     refine ⟨ms.length - (i+1),by omega,i+1,q,cur,rfl,hM,by omega,hn2,hg2,ho2,?_⟩
     simp only [lk,sv1,sv2,sv3,Nat.reduceEqDiff,Nat.reduceAdd,Nat.reduceLeDiff,reduceIte,if_false,if_true,mkVal,unLV,List.map,optTmps,hw,e0,e3,e4,and_self]
    · -- one more is kept
     have hM:=hC.more hii (fun h=>by rw [decide_eq_true h] at hbb;simp at hbb)
     repeat' (first | refine gA (And.intro @hi1 (And.intro @hi3 @hld)) ?_ | (refine gB (And.intro @hi1 (And.intro @hi3 @hld)) ?_;intro bb hbb;cases bb<;>(try simp only [hbs,if_false,reduceCtorEq] at hbb)) | apply qc_seq | fail)
     refine q_storeG (i:=j) (o:=q*2) (n:=2) (cs:=mcells cur) (vs:=[.int .i64 (ms.getD i (0,false)).1, .bool (ms.getD i (0,false)).2]) (cs':=mcells (cur.set q (ms.getD i (0,false)))) (v:=.agg [.int .i64 (ms.getD i (0,false)).1, .bool (ms.getD i (0,false)).2]) ef ef rfl hg2 rfl (by rw [mcells_length];omega) (mcells_set (by omega)) ?_
     repeat' (first | refine gA trivial ?_ | (refine gB trivial ?_;intro bb hbb;cases bb<;>(try simp only [hbs,if_false,reduceCtorEq] at hbb)) | apply qc_seq | fail)
     refine ⟨ms.length - (i+1),by omega,i+1,q+1,_,rfl,hM,by omega,hn2,by rw [St.get_put,if_pos rfl],fun id hid=>by rw [St.get_put,if_neg hid];exact ho2 id hid,?_⟩
     simp only [lk,sv1,sv2,sv3,Nat.reduceEqDiff,Nat.reduceAdd,Nat.reduceLeDiff,reduceIte,if_false,if_true,mkVal,unLV,List.map,optTmps,hw,hwq,e0,e4,and_self]
   · -- the rest is cleared
    have hie:i=ms.length:=by omega
    repeat' (first | refine gA @hsl2 ?_ | (refine gB @hsl2 ?_;intro bb hbb;cases bb<;>(try simp only [hbs,if_false,reduceCtorEq] at hbb)) | apply qc_seq | fail)
    rotate_left
    ·exfalso;omega
    refine q_run0 (run_sliceLo (n:=ms.length) (k:=q) ef ef (by omega)) ?_
    have hrest:∃ rest,LV.closed.closedAll rest=true∧(LOp.clr 2 [.int .i64 0, .bool false] (.t 56)).run (Tr.set (Tr.set (Tr.set e 54 (.sref j 0 ms.length 2)) 55 (.int .i64 (q:Int))) 56 (.sref j (q*2) (ms.length - q) 2)) s2=some (zeroVal,s2.put j (.cells .mut (mcells (dd ms ms.length)++rest))):=by
     have hlen:(rep (ms.length - q) [LV.int .i64 0, .bool false]).length=(ms.length - q)*2:=by simp [rep]
     refine ⟨rep (ms.length - q) [.int .i64 0, .bool false],?_,?_⟩
     ·unfold rep
      generalize ms.length - q=c
      induction c with
      | zero=>rfl
      | succ c ih=>simp [List.replicate_succ,LV.closed.closedAll,LV.closed];simpa using ih
     ·simp only [LOp.run,lk,Nat.reduceEqDiff,reduceIte,hg2]
      rw [if_neg (by omega),if_pos ⟨trivial,rfl,by rw [mcells_length];omega⟩,splice_tail _ _ _ (by rw [hlen,mcells_length];omega),mcells_take,hC.pre,hie]
    obtain ⟨rest,hr1,hr2⟩:=hrest
    refine q_runN hr2 ?_
    have hqd:q=(dd ms ms.length).length:=by rw [hC.kd,hie]
    repeat' (first | refine gA trivial ?_ | (refine gB trivial ?_;intro bb hbb;cases bb<;>(try simp only [hbs,if_false,reduceCtorEq] at hbb)) | apply qc_seq | fail)
    refine q_run0 (run_sliceHi (n:=ms.length) (k:=q) ef ef (by omega)) ?_
    repeat' (first | refine gA trivial ?_ | (refine gB trivial ?_;intro bb hbb;cases bb<;>(try simp only [hbs,if_false,reduceCtorEq] at hbb)) | apply qc_seq | fail)
    refine ⟨.inr trivial,dd ms ms.length,rest,ef,by omega,by omega,dd_sst hso ms.length (Nat.le_refl _),fun x=>dd_get (i:=0) (Nat.zero_le _),hr1,hn2,by rw [St.get_put,if_pos rfl],fun id hid=>by rw [St.get_put,if_neg hid];exact ho2 id hid⟩
 ·repeat' (first | refine gA @hsl ?_ | (refine gB @hsl ?_;intro bb hbb;cases bb<;>(try simp only [hbs,if_false,reduceCtorEq] at hbb)) | apply qc_seq | fail)
  ·exact ⟨.inr trivial,ms,[],ef,hl1,Nat.le_refl _,hall k hk hne (by omega),fun x=>Iff.rfl,rfl,by first | trivial | rfl,by simpa using hs,by intros;first | trivial | rfl⟩
  ·exfalso;omega
end Go.Proofs.YtgobbogomchnhaaGreatDoor
end
