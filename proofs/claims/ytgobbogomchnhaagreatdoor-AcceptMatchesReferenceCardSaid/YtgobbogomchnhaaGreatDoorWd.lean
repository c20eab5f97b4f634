/- The word package: equal, period. -/
import Derived.Test.YtgobbogomchnhaaGreatDoorWoa
import Derived.Test.YtgobbogomchnhaaGreatDoorTurn
set_option linter.unusedSimpArgs false
set_option linter.unusedVariables false
section
set_option linter.unusedSimpArgs false
set_option linter.unusedVariables false
namespace Go.Proofs.YtgobbogomchnhaaGreatDoor
open Go Go.Pv
open Classical
def SameN (a b:Nat):Prop:=a=b
set_option maxHeartbeats 4000000 in
theorem equal_ok {v w:LV} {l r:List Int} (hv:IsInts v l) (hw:IsInts w r):PO 235 [v,w] (.bool (decide (l.length=r.length∧∀ j,j<l.length→l.getD j 0=r.getD j 0))):=by
 refine q_fn (t:=4) hm Tryz.func235 (by decide +kernel) c235 (Nat.le_of_ble_eq_true rfl) (by simp [LV.closed.closedAll,hv.closed,hw.closed]) rfl rfl ?_
 have h0:(envOf [v,w]).at 0=v:=by rw [envOf_at];rfl
 have h1:(envOf [v,w]).at 1=w:=by rw [envOf_at];rfl
 generalize envOf [v,w]=e at *
 unfold l235
 dsimp only [jA,jB,qM,qL,qS,qI,qA,qB,qC,qK,qm]
 repeat' (first | refine gA (And.intro @hv.sl.len @hw.sl.len) ?_ | (refine gB (And.intro @hv.sl.len @hw.sl.len) ?_;intro bb hbb;cases bb<;>(try simp only [hbs,if_false,reduceCtorEq] at hbb)) | fail)
 ·have hsame:SameN l.length r.length:=by unfold SameN;omega
  clear hbb
  refine qc_loop (fun n e s=>s=St.empty∧∃ i:Nat,n=l.length - i∧i≤l.length∧e.at 0=v∧e.at 1=w∧e.at 12 = .int .i64 (l.length:Int)∧e.at 13 = .int .i64 (i:Int)∧∀ j,j<i→l.getD j 0=r.getD j 0) l.length ⟨rfl,0,by simp,by simp,by simp [h0],by simp [h1],by simp,by simp,fun j hj=>absurd hj (Nat.not_lt_zero _)⟩ ?_
  rintro n e s ⟨rfl,i,rfl,hi,e0,e1,e12,e13,hall⟩
  by_cases hil:i<l.length
  ·have x1:(i:Int)<(l.length:Int):=by omega
   have x2:(i:Int)<(r.length:Int):=by unfold SameN at hsame;omega
   repeat' (first | refine gA (And.intro (@iaN _ _ _ hv.sl) (And.intro (@iaN _ _ _ hw.sl) @ints_get)) ?_ | (refine gB (And.intro (@iaN _ _ _ hv.sl) (And.intro (@iaN _ _ _ hw.sl) @ints_get)) ?_;intro bb hbb;cases bb<;>(try simp only [hbs,if_false,reduceCtorEq] at hbb)) | fail)
   ·omega
   ·refine ⟨_,?_,trivial,i+1,rfl,?_⟩
    ·omega
    simp only [lk,sv1,sv2,sv3,Nat.reduceEqDiff,Nat.reduceAdd,Nat.reduceLeDiff,reduceIte,if_false,if_true,mkVal,unLV,List.map,optTmps,true_and,wrap_succ (i:=i) (n:=l.length) (by omega) hv.len,e0,e1,e12,e13]
    refine ⟨by omega,fun j hj=>?_⟩
    rcases Nat.lt_succ_iff_lt_or_eq.1 hj with h | rfl
    ·exact hall j h
    ·assumption
   ·refine ⟨.inr trivial,?_⟩
    simp only [lk,sv1,sv2,sv3,Nat.reduceEqDiff,Nat.reduceAdd,Nat.reduceLeDiff,reduceIte,if_false,if_true,mkVal,unLV,List.map,optTmps]
    exact bool_f fun h=>hbb (h.2 i (by omega))
  ·repeat' (first | refine gA trivial ?_ | (refine gB trivial ?_;intro bb hbb;cases bb<;>(try simp only [hbs,if_false,reduceCtorEq] at hbb)) | fail)
   ·refine ⟨.inr trivial,?_⟩
    simp only [lk,sv1,sv2,sv3,Nat.reduceEqDiff,Nat.reduceAdd,Nat.reduceLeDiff,reduceIte,if_false,if_true,mkVal,unLV,List.map,optTmps]
    exact bool_t ⟨hsame,fun j hj=>hall j (by omega)⟩
   ·omega
 ·refine ⟨.inr trivial,?_⟩
  simp only [lk,sv1,sv2,sv3,Nat.reduceEqDiff,Nat.reduceAdd,Nat.reduceLeDiff,reduceIte,if_false,if_true,mkVal,unLV,List.map,optTmps]
  refine bool_f fun h=>?_
  have:=h.1
  omega
theorem run_slice {e:Env} {s:St} {x:Opd} {lo hi:Option Opd} {cs:List LV} {len h k:Nat} {lov hiv:Option LV} (hx:x.ev e = .simm cs len) (hlo:lo.map (·.ev e)=lov) (hhi:hi.map (·.ev e)=hiv) (hb:bndOf len len hiv=some h) (hl:bndOf 0 h lov=some k) (hc:cs.length=len) :
  (LOp.slice 1 x lo hi).run e s=some (.simm ((cs.drop k).take (h - k)) (h - k),s):=by
 simp [LOp.run,hx,hlo,hhi,hb,hl,hc]
theorem bnd_int {d m:Nat} {k:IntKind} {i:Nat} (h:i≤m):bndOf d m (some (.int k (i:Int)))=some i:=by
 have:(i:Int)≤(m:Int):=by omega
 simp [bndOf,h]
theorem sub_ints {l:List Int} (hr:∀ x∈l,inI64 x) {k n:Nat} (hk:k+n≤l.length) (hm:l.length≤maxLen):IsInts (.simm (((ints l).drop k).take n) n) ((l.drop k).take n):=by
 have hl:((l.drop k).take n).length=n:=by simp;omega
 refine ⟨?_,by omega,fun x hx=>hr x (List.mem_of_mem_drop (List.mem_of_mem_take hx))⟩
 have:ints ((l.drop k).take n)=((ints l).drop k).take n:=by simp [ints,List.map_drop,List.map_take]
 rw [this,hl]
 exact .simm _ _
theorem sub_get {l:List Int} {k n i:Nat} (hi:i<n):((l.drop k).take n).getD i 0=l.getD (k+i) 0:=by
 simp [List.getD_eq_getElem?_getD,List.getElem?_take,hi]
def Per (l:List Int) (n:Nat):Prop:=1≤n∧n≤l.length∧l.length % n=0∧∀ i,i+n<l.length→l.getD (n+i) 0=l.getD i 0
def PerM (l:List Int) (n:Nat):Prop:=Per l n∧∀ m,m<n→¬ Per l m
theorem PerM.uniq {l:List Int} {n m:Nat} (h:PerM l n) (k:PerM l m):n=m:=by
 rcases Nat.lt_trichotomy n m with hh | hh | hh
 ·exact absurd h.1 (k.2 n hh)
 ·exact hh
 ·exact absurd k.1 (h.2 m hh)
set_option maxHeartbeats 4000000 in
theorem period_ok {v:LV} {l:List Int} (hv:IsInts v l) (hl:1≤l.length):PE 162 [v] (fun r=>∃ n:Nat,r = .int .i64 (n:Int)∧PerM l n):=by
 have hvs:=hv.sl.pos (by omega)
 refine q_fnEx (t:=2) hm Tryz.func162 (by decide +kernel) c162 (Nat.le_of_ble_eq_true rfl) (by simp [LV.closed.closedAll,hv.closed]) rfl ?_
 have h0:(envOf [v]).at 0=v:=by rw [envOf_at];rfl
 generalize envOf [v]=e at *
 have hm1:maxLen=9223372036854775807:=by decide
 have hlm:=hv.len
 unfold l162
 dsimp only [jA,jB,jE,qM,qS,qA,qB,qC,qm]
 repeat' (first | refine gA trivial ?_ | (refine gB trivial ?_;intro bb hbb;cases bb<;>(try simp only [hbs,if_false,reduceCtorEq] at hbb)) | fail)
 refine qc_loop (fun n e s=>s=St.empty∧∃ i:Nat,n=l.length - i∧1≤i∧i≤l.length∧(∀ m,m<i→¬ Per l m)∧e.at 0=v∧e.at 3 = .int .i64 (i:Int)) (l.length - 1) ⟨rfl,1,by simp,by simp,hl,(fun m hm hp=>absurd hp.1 (by omega)),by simp [h0],by simp⟩ ?_
 rintro n e s ⟨rfl,i,rfl,hi1,hi,hno,e0,e3⟩
 have hstep:¬ Per l i→∀ m,m<i+1→¬ Per l m:=fun hn m hm=>by
  rcases Nat.lt_succ_iff_lt_or_eq.1 hm with h | rfl
  ·exact hno m h
  ·exact hn
 repeat' (first | refine gA @hv.sl.len ?_ | (refine gB @hv.sl.len ?_;intro bb hbb;cases bb<;>(try simp only [hbs,if_false,reduceCtorEq] at hbb)) | fail)
 ·refine ⟨.inr trivial, .int .i64 (l.length:Int),St.empty,?_,rfl,l.length,rfl,⟨hl,Nat.le_refl _,Nat.mod_self _,fun j hj=>by omega⟩,fun m hm=>hno m (by omega)⟩
  simp only [lk,sv1,sv2,sv3,Nat.reduceEqDiff,Nat.reduceAdd,Nat.reduceLeDiff,reduceIte,if_false,if_true,mkVal,unLV,List.map,optTmps]
  exact frzD_closed rfl
 ·have hil:i<l.length:=by omega
  refine q_bin wN (a:=.int .i64 (l.length:Int)) (b:=.int .i64 (i:Int)) (v:=.int .i64 ((l.length % i:Nat):Int)) ef ef (by
   have:¬ ((i:Int)=0):=by omega
   simp [binLV,intBin,this]
   exact ⟨by omega,Int.tmod_eq_emod_of_nonneg (by omega)⟩) ?_
  repeat' (first | refine gA @hv.sl.len ?_ | (refine gB @hv.sl.len ?_;intro bb hbb;cases bb<;>(try simp only [hbs,if_false,reduceCtorEq] at hbb)) | fail)
  · -- no divisor
   refine ⟨_,?_,trivial,i+1,rfl,?_⟩
   ·omega
   simp only [lk,sv1,sv2,sv3,Nat.reduceEqDiff,Nat.reduceAdd,Nat.reduceLeDiff,reduceIte,if_false,if_true,mkVal,unLV,List.map,optTmps,true_and,wrap_succ (i:=i) (n:=l.length) (by omega) hv.len,e0,e3]
   exact ⟨by omega,hstep fun hp=>by have:=hp.2.2.1;omega,trivial⟩
  ·have hmod:l.length % i=0:=by omega
   have hv1:=sub_ints hv.rng (k:=i) (n:=l.length - i) (by omega) hlm
   have hv2:=sub_ints hv.rng (k:=0) (n:=l.length - i) (by omega) hlm
   refine q_gen (v:=.simm (((ints l).drop i).take (l.length - i)) (l.length - i)) (wG ef) (run_slice (by simp only [lk,sv1,sv2,sv3,Nat.reduceEqDiff,Nat.reduceAdd,Nat.reduceLeDiff,reduceIte,if_false,if_true,mkVal,unLV,List.map,optTmps,e0];exact hvs) rfl rfl rfl (by simp only [lk,sv1,sv2,sv3,Nat.reduceEqDiff,Nat.reduceAdd,Nat.reduceLeDiff,reduceIte,if_false,if_true,mkVal,unLV,List.map,optTmps];exact bnd_int (by omega)) (ints_length l)) rfl trivial ?_
   simp only [Env.put_some]
   repeat' (first | refine gA @hv.sl.len ?_ | (refine gB @hv.sl.len ?_;intro bb hbb;cases bb<;>(try simp only [hbs,if_false,reduceCtorEq] at hbb)) | fail)
   have h1:IntKind.i64.wrap ((l.length:Int) - (i:Int))=((l.length - i:Nat):Int):=by rw [wrap_i64 _ (by omega) (by omega)];omega
   refine q_gen (v:=.simm (((ints l).drop 0).take (l.length - i)) (l.length - i)) (wG ef) (run_slice (h:=l.length - i) (k:=0) (by simp only [lk,sv1,sv2,sv3,Nat.reduceEqDiff,Nat.reduceAdd,Nat.reduceLeDiff,reduceIte,if_false,if_true,mkVal,unLV,List.map,optTmps,e0];exact hvs) rfl rfl (by simp only [lk,sv1,sv2,sv3,Nat.reduceEqDiff,Nat.reduceAdd,Nat.reduceLeDiff,reduceIte,if_false,if_true,mkVal,unLV,List.map,optTmps,h1];exact bnd_int (by omega)) rfl (ints_length l)) rfl trivial ?_
   simp only [Env.put_some]
   refine q_pureB hG0 (equal_ok hv1 hv2) (by first | exact wN | (apply wG;(simp only [lk,Nat.reduceEqDiff,reduceIte,e0,e3];(try rfl);done))) (by simp only [List.map,lk,Nat.reduceEqDiff,reduceIte,e0,e3];try rfl) (fun bb hbb=>⟨by first | trivial | (simp only [Chks,wantedG,LOp.run,Env.put_some,Env.put_none,lk,sv1,sv2,sv3,Nat.reduceEqDiff,Nat.reduceAdd,Nat.reduceLeDiff,reduceIte,if_false,if_true,mkVal,unLV,List.map,optTmps,beq_self_eq_true,reduceCtorEq,false_or,true_and,and_true,Option.some.injEq, *];done),?_⟩)
   simp only [Env.put_some]
   cases bb<;>simp only [decide_eq_true_eq,decide_eq_false_iff_not] at hbb
   ·repeat' (first | refine gA trivial ?_ | (refine gB trivial ?_;intro bb hbb;cases bb<;>(try simp only [hbs,if_false,reduceCtorEq] at hbb)) | fail)
    refine ⟨_,?_,trivial,i+1,rfl,?_⟩
    ·omega
    simp only [lk,sv1,sv2,sv3,Nat.reduceEqDiff,Nat.reduceAdd,Nat.reduceLeDiff,reduceIte,if_false,if_true,mkVal,unLV,List.map,optTmps,true_and,wrap_succ (i:=i) (n:=l.length) (by omega) hv.len,e0,e3]
    refine ⟨by omega,hstep fun hp=>hbb ?_,trivial⟩
    refine ⟨by simp,fun j hj=>?_⟩
    have hj':j<l.length - i:=by simpa using hj
    rw [sub_get (by omega),sub_get (by omega),Nat.zero_add]
    exact hp.2.2.2 j (by omega)
   ·repeat' (first | refine gA trivial ?_ | (refine gB trivial ?_;intro bb hbb;cases bb<;>(try simp only [hbs,if_false,reduceCtorEq] at hbb)) | fail)
    refine ⟨.inr trivial, .int .i64 (i:Int),St.empty,?_,rfl,i,rfl,⟨hi1,hi,hmod,fun j hj=>?_⟩,hno⟩
    ·simp only [lk,sv1,sv2,sv3,Nat.reduceEqDiff,Nat.reduceAdd,Nat.reduceLeDiff,reduceIte,if_false,if_true,mkVal,unLV,List.map,optTmps]
     exact frzD_closed rfl
    ·have:=hbb.2 j (by simp;omega)
     rw [sub_get (by omega),sub_get (by omega),Nat.zero_add] at this
     exact this
end Go.Proofs.YtgobbogomchnhaaGreatDoor
end
section
set_option linter.unusedSimpArgs false
set_option linter.unusedVariables false
namespace Go.Proofs.YtgobbogomchnhaaGreatDoor
open Go Go.Pv
open Classical
theorem mk_ints {l:List Int} (hl:l.length≤64) (hr:∀ x∈l,inI64 x):IsInts (.simm (ints l) l.length) l:=by
 have:maxLen=9223372036854775807:=by decide
 exact ⟨.simm _ _,by omega,hr⟩
theorem fin_ints {e:Env} {t:Nat} {s:St} {j n:Nat} {l:List Int} (hv:e.at t = .sref j 0 n 1) (hn:n=l.length) (hs:s.get j=some (.cells .mut (ints l))) (hlm:IsInts (.simm (ints l) l.length) l) :
  ∃ r s',frz frzDepth (e.at t) s=some (r,s')∧r.closed=true∧IsInts r l:=by
 subst hn
 rw [hv]
 exact ⟨_,_,frz_sref hs (by simp) (ints_closed l),hlm.closed,hlm⟩
set_option maxHeartbeats 4000000 in
theorem cloneEx {v:LV} {l:List Int} (hv:IsInts v l) (hl:l.length≤64):PE 163 [v] (fun r=>IsInts r l):=by
 refine q_fnEx (t:=2) hm Tryz.func163 (by decide +kernel) c163 (Nat.le_of_ble_eq_true rfl) (by simp [LV.closed.closedAll,hv.closed]) rfl ?_
 have hsl:=hv.sl
 have hr:=hv.rng
 have hlm:=mk_ints hl hr
 clear hv
 have hv':v = .nils∧l=[]∨eqLV .slc v .nils=some false∧lenLV v=some l.length∧∀ s,rowOf s 1 l.length v=some (ints l):=by
  generalize hc:ints l=cs at hsl
  generalize hn:l.length=n at hsl
  cases hsl with
  | nil=>exact .inl ⟨rfl,by simpa [ints] using hc⟩
  | zs=>exact .inr ⟨rfl,rfl,fun _=>rfl⟩
  | simm=>exact .inr ⟨rfl,rfl,fun _=>rowOf_simm (by rw [← hc];simpa using hn)⟩
 have h0:(envOf [v]).at 0=v:=by rw [envOf_at];rfl
 generalize envOf [v]=e at *
 unfold l163
 dsimp only [jA,qm]
 rcases hv' with ⟨rfl,rfl⟩ | ⟨hne,hlen,hrow⟩
 ·repeat' (first | refine gA trivial ?_ | (refine gB trivial ?_;intro bb hbb;cases bb<;>(try simp only [hbs,if_false,reduceCtorEq] at hbb)) | fail)
  refine ⟨.inr trivial, .nils,St.empty,?_,rfl, .nil,by simp,hr⟩
  simp only [lk,sv1,sv2,sv3,Nat.reduceEqDiff,Nat.reduceAdd,Nat.reduceLeDiff,reduceIte,if_false,if_true,mkVal,unLV,List.map,optTmps]
  exact frzD_closed rfl
 ·repeat' (first | refine gA trivial ?_ | (refine gB trivial ?_;intro bb hbb;cases bb<;>(try simp only [hbs,if_false,reduceCtorEq] at hbb)) | fail)
  refine q_append wN (xv:=.sref 0 0 0 1) (yv:=v) ef ef hlen (hrow _) (frzTry_all (ints_closed l))
   (appendLV_mutN (cs:=[]) (by rw [St.get_new,n_empty,if_pos rfl]) rfl (by simp) (by decide) (by omega)) ?_
  repeat' (first | refine gA trivial ?_ | (refine gB trivial ?_;intro bb hbb;cases bb<;>(try simp only [hbs,if_false,reduceCtorEq] at hbb)) | fail)
  exact ⟨.inr trivial,fin_ints (by simp only [lk,sv1,sv2,sv3,Nat.reduceEqDiff,Nat.reduceAdd,Nat.reduceLeDiff,reduceIte,if_false,if_true,mkVal,unLV,List.map,optTmps];rfl) (Nat.zero_add _) (by simp only [St.get_new,St.n_put,if_true];rfl) hlm⟩
theorem splice_at:∀ (vs a b c:List LV),b.length=vs.length→splice (a++b++c) a.length vs=a++vs++c:=by
  intro vs
  induction vs with
  | nil => intro a b c h; have : b = [] := by simpa using h
           subst this;simp [splice]
  | cons v vs ih=>
    intro a b c h
    cases b with
    | nil=>simp at h
    | cons x b=>
      have h':b.length=vs.length:=by simpa using h
      have:=ih (a++[v]) b c h'
      simp only [splice]
      have e1:(a++(x::b)++c).set a.length v=a++[v]++b++c:=by simp [List.set_append]
      rw [e1]
      simpa using this
set_option maxHeartbeats 4000000 in
theorem turned_ok {v:LV} {l:List Int} (hv:IsInts v l) (hl:l.length≤64) (hl1:1≤l.length) {k:Nat} (hk:k≤l.length):PE 164 [v, .int .i64 (k:Int)] (fun r=>IsInts r (l.drop k++l.take k)):=by
 have hvs:=hv.sl.pos (by omega)
 have hlm:IsInts (.simm (ints (l.drop k++l.take k)) (l.drop k++l.take k).length) (l.drop k++l.take k):=mk_ints (by simp;omega) fun x hx=>by
  rcases List.mem_append.1 hx with h | h
  ·exact hv.rng x (List.mem_of_mem_drop h)
  ·exact hv.rng x (List.mem_of_mem_take h)
 refine q_fnEx (t:=4) hm Tryz.func164 (by decide +kernel) c164 (Nat.le_of_ble_eq_true rfl) (by simp [LV.closed.closedAll,LV.closed,hv.closed]) rfl ?_
 have h0:(envOf [v, .int .i64 (k:Int)]).at 0=v:=by rw [envOf_at];rfl
 have h1:(envOf [v, .int .i64 (k:Int)]).at 1 = .int .i64 (k:Int):=by rw [envOf_at];rfl
 generalize envOf [v, .int .i64 (k:Int)]=e at *
 unfold l164
 dsimp only [jA,jB,qM,qS,qm]
 repeat' (first | refine gA @hv.sl.len ?_ | (refine gB @hv.sl.len ?_;intro bb hbb;cases bb<;>(try simp only [hbs,if_false,reduceCtorEq] at hbb)) | fail)
 refine q_gen (v:=.sref 0 0 l.length 1) (s':=St.empty.new (.cells .mut (rep l.length [.int .i64 0]))) wN ?_ rfl trivial ?_
 ·have:(l.length:Int)*8≤big:=by unfold big;omega
  have h2:(l.length:Int)≤big:=by unfold big;omega
  simp only [LOp.run,lk,sv1,sv2,sv3,Nat.reduceEqDiff,Nat.reduceAdd,Nat.reduceLeDiff,reduceIte,if_false,if_true,mkVal,unLV,List.map,optTmps]
  rw [if_pos ⟨by omega,Int.le_refl _,this,h2,trivial⟩]
  simp [n_empty]
 simp only [Env.put_some]
 repeat' (first | refine gA @hv.sl.len ?_ | (refine gB @hv.sl.len ?_;intro bb hbb;cases bb<;>(try simp only [hbs,if_false,reduceCtorEq] at hbb)) | fail)
 refine q_gen (v:=.simm (((ints l).drop k).take (l.length - k)) (l.length - k)) wN (run_slice (by simp only [lk,sv1,sv2,sv3,Nat.reduceEqDiff,Nat.reduceAdd,Nat.reduceLeDiff,reduceIte,if_false,if_true,mkVal,unLV,List.map,optTmps,h0];exact hvs) rfl rfl rfl (by simp only [lk,sv1,sv2,sv3,Nat.reduceEqDiff,Nat.reduceAdd,Nat.reduceLeDiff,reduceIte,if_false,if_true,mkVal,unLV,List.map,optTmps,h1];exact bnd_int hk) (ints_length l)) rfl trivial ?_
 simp only [Env.put_some]
 have hrep:(rep l.length [LV.int .i64 0]).length=l.length:=by simp [rep]
 generalize rep l.length [LV.int .i64 0]=z at *
 refine q_gen (v:=.int .i64 ((l.length - k:Nat):Int)) (s':=St.put (St.new St.empty (.cells .mut z)) 0 (.cells .mut (splice z 0 (((ints l).drop k).take (l.length - k))))) wN ?_ rfl trivial ?_
 ·have hm1:min (l.length - k) l.length=l.length - k:=by omega
  have hr1:rowOf (St.new St.empty (.cells .mut z)) 1 (l.length - k) (.simm (((ints l).drop k).take (l.length - k)) (l.length - k))=some (((ints l).drop k).take (l.length - k)):=rowOf_simm (by simp)
  simp only [LOp.run,lk,sv1,sv2,sv3,Nat.reduceEqDiff,Nat.reduceAdd,Nat.reduceLeDiff,reduceIte,if_false,if_true,mkVal,unLV,List.map,optTmps,lenLV,Option.bind_eq_bind,Option.bind_some,hm1,hr1,St.get_new,n_empty,if_true,Nat.zero_add,Nat.mul_one]
  rw [if_pos ⟨trivial,by omega⟩]
 simp only [Env.put_some]
 repeat' (first | refine gA @hv.sl.len ?_ | (refine gB @hv.sl.len ?_;intro bb hbb;cases bb<;>(try simp only [hbs,if_false,reduceCtorEq] at hbb)) | fail)
 refine q_gen (v:=.sref 0 (l.length - k) k 1) (s':=St.put (St.new St.empty (.cells .mut z)) 0 (.cells .mut (splice z 0 (((ints l).drop k).take (l.length - k))))) wN ?_ rfl trivial ?_
 ·simp only [LOp.run,lk,sv1,sv2,sv3,Nat.reduceEqDiff,Nat.reduceAdd,Nat.reduceLeDiff,reduceIte,if_false,if_true,mkVal,unLV,List.map,optTmps,Option.map_some,Option.map_none,bndOf,Option.bind_eq_bind,Option.bind_some]
  rw [if_pos ⟨by omega,by omega⟩]
  simp only [Option.bind_some,if_true,Int.toNat_natCast]
  congr 3
  omega
 simp only [Env.put_some]
 repeat' (first | refine gA @hv.sl.len ?_ | (refine gB @hv.sl.len ?_;intro bb hbb;cases bb<;>(try simp only [hbs,if_false,reduceCtorEq] at hbb)) | fail)
 refine q_gen (v:=.simm (((ints l).drop 0).take k) k) wN (run_slice (h:=k) (k:=0) (by simp only [lk,sv1,sv2,sv3,Nat.reduceEqDiff,Nat.reduceAdd,Nat.reduceLeDiff,reduceIte,if_false,if_true,mkVal,unLV,List.map,optTmps,h0];exact hvs) rfl rfl (by simp only [lk,sv1,sv2,sv3,Nat.reduceEqDiff,Nat.reduceAdd,Nat.reduceLeDiff,reduceIte,if_false,if_true,mkVal,unLV,List.map,optTmps,h1];exact bnd_int hk) rfl (ints_length l)) rfl trivial ?_
 simp only [Env.put_some]
 have z1:splice z 0 (((ints l).drop k).take (l.length - k))=ints (l.drop k)++z.drop (l.length - k):=by
  have h3:((ints l).drop k).take (l.length - k)=ints (l.drop k):=by
   rw [List.take_of_length_le (by simp)];simp [ints,List.map_drop]
  have:=splice_at (ints (l.drop k)) [] (z.take (l.length - k)) (z.drop (l.length - k)) (by simp [hrep])
  rw [h3]
  simpa using this
 rw [z1]
 refine q_gen (v:=.int .i64 (k:Int)) (s':=St.put (St.put (St.new St.empty (.cells .mut z)) 0 (.cells .mut (ints (l.drop k)++z.drop (l.length - k)))) 0 (.cells .mut (splice (ints (l.drop k)++z.drop (l.length - k)) (l.length - k) (((ints l).drop 0).take k)))) wN ?_ rfl trivial ?_
 ·have hm1:min k k=k:=by omega
  have hr1:∀ s,rowOf s 1 k (.simm ((ints l).take k) k)=some ((ints l).take k):=fun s=>rowOf_simm (by simp;omega)
  simp only [List.drop_zero,LOp.run,lk,sv1,sv2,sv3,Nat.reduceEqDiff,Nat.reduceAdd,Nat.reduceLeDiff,reduceIte,if_false,if_true,mkVal,unLV,List.map,optTmps,lenLV,Option.bind_eq_bind,Option.bind_some,hm1,hr1,St.get_put,if_true,Nat.zero_add,Nat.mul_one]
  rw [if_pos ⟨trivial,by simp [hrep];omega⟩]
 simp only [Env.put_some]
 have z2:splice (ints (l.drop k)++z.drop (l.length - k)) (l.length - k) (((ints l).drop 0).take k)=ints (l.drop k++l.take k):=by
  have h3:((ints l).drop 0).take k=ints (l.take k):=by simp [ints,List.map_take]
  have:=splice_at (ints (l.take k)) (ints (l.drop k)) (z.drop (l.length - k)) [] (by simp [hrep];omega)
  rw [h3]
  simpa [ints] using this
 rw [z2]
 repeat' (first | refine gA trivial ?_ | (refine gB trivial ?_;intro bb hbb;cases bb<;>(try simp only [hbs,if_false,reduceCtorEq] at hbb)) | fail)
 exact ⟨.inr trivial,fin_ints (by simp only [lk,sv1,sv2,sv3,Nat.reduceEqDiff,Nat.reduceAdd,Nat.reduceLeDiff,reduceIte,if_false,if_true,mkVal,unLV,List.map,optTmps];rfl) (by simp;omega) (by rw [St.get_put,if_pos rfl]) hlm⟩
end Go.Proofs.YtgobbogomchnhaaGreatDoor
end
section
set_option linter.unusedSimpArgs false
set_option linter.unusedVariables false
namespace Go.Proofs.YtgobbogomchnhaaGreatDoor
open Go Go.Pv Go.Aut Go.Bfs
open Classical
def srun (B:Bu) (ls:List Nat) (bk:Nat) (from_:List Pl):Ac Pl:=run (tkOf B ls bk).succ (ls.length*B.next.length+1) 0 (adds [] from_ (-1))
theorem srun_ok {B:Bu} {ls:List Nat} {bk:Nat} (hok:Vb B) (hbk:bk<ls.length) (hlet:∀ i,i<ls.length→(ls.getD i 0:Int)<B.L) {from_:List Pl} (hin:∀ p∈from_,InT B ls p) :
  Bfs.Ok (tkOf B ls bk).succ from_ (InT B ls) (srun B ls bk from_)∧Cl (tkOf B ls bk).succ (srun B ls bk from_) (srun B ls bk from_).length∧∀ p∈from_,p∈(srun B ls bk from_).map (·.1) :=
 run_ok (N:=ls.length*B.next.length) (fun p hp=>inT_succ hok hbk hlet hp) (fun l h1 h2=>inT_len h1 h2) _ 0 _ (Ok.first hin) (fun i x hi=>absurd hi (Nat.not_lt_zero i)) (fun p hp=>adds_mem hp) (by omega)
def firsts (B:Bu):List Pl:=B.start.map fun q=>(0,q.toNat)
theorem start_nat {B:Bu} (hok:Vb B) {z:Int} (hz:z∈B.start):(z.toNat:Int)=z∧z.toNat<B.next.length:=by
 obtain ⟨i,hi⟩:=List.mem_iff_getElem?.1 hz
 obtain ⟨h1,h2⟩:=List.getElem?_eq_some_iff.1 hi
 have:=hok.2.2.2.1 i h1
 have hg:B.start.getD i 0=z:=by rw [List.getD_eq_getElem?_getD,hi];rfl
 rw [hg] at this
 omega
theorem firsts_in {B:Bu} {ls:List Nat} (hok:Vb B) (hpos:0<ls.length):∀ p∈firsts B,InT B ls p:=by
 intro p hp
 obtain ⟨z,hz,rfl⟩:=List.mem_map.1 hp
 exact ⟨hpos,(start_nat hok hz).2⟩
theorem moves_map (B:Bu) (ls:List Nat) (bk:Nat) (x:Pl):(tkOf B ls bk).moves x=(bms B ls x).map nat2:=by
 simp only [Tk.moves,tkOf,bmv,bms]
 rfl
theorem bmv_lt {B:Bu} (hok:Vb B) (q a:Nat) (hq:q<B.next.length):∀ m∈bmv B q a,m.1<B.next.length:=by
 intro m hm
 simp only [bmv] at hm
 obtain ⟨m',hm',rfl⟩:=List.mem_map.1 hm
 have hrow:=hok.2.2.2.2 q hq
 obtain ⟨k,hk⟩:=List.mem_iff_getElem?.1 hm'
 obtain ⟨hk1,hk2⟩:=List.getElem?_eq_some_iff.1 hk
 have ha:a<(B.next.getD q []).length:=by
  apply Classical.byContradiction
  intro hn
  have:(B.next.getD q []).getD a []=[]:=by rw [List.getD_eq_getElem?_getD,List.getElem?_eq_none (by omega)];rfl
  rw [this] at hk1
  exact absurd hk1 (Nat.not_lt_zero k)
 have:=hrow.2 a ha k hk1
 have hgd:((B.next.getD q []).getD a []).getD k (0,false)=m':=by
  rw [List.getD_eq_getElem?_getD,hk];rfl
 rw [hgd] at this
 show m'.1.toNat<_
 omega
def BAcc (B:Bu) (w:Nat→Nat):Prop:=Acc (fun q=>(q:Int)∈B.start) (bmv B) w
theorem turned_iff {B:Bu} {ls:List Nat} {bk:Nat} (hok:Vb B) (hpos:0<ls.length) (hbk:bk<ls.length) (hlet:∀ i,i<ls.length→(ls.getD i 0:Int)<B.L) {x y:Pl} {ok:Bool} (ht:Turned B ls bk ((srun B ls bk (firsts B)).map (·.1)) x y ok):ok=true↔BAcc B (tkOf B ls bk).word:=by
 obtain ⟨h1,h2,h3⟩:=srun_ok hok hbk hlet (firsts_in hok hpos)
 have hf:=found_iff h1 h2 h3
 have hacc:=acc_iff (k:=tkOf B ls bk) (start:=fun q=>(q:Int)∈B.start) (S:=B.next.length) hpos hbk (fun q hq=>by have:=(start_nat hok hq).2;simpa using this) (fun q a hq=>bmv_lt hok q a hq)
 refine Iff.trans ?_ hacc.symm
 constructor
 ·intro he
  rcases ht with ⟨_,i,k,m,hi,hk,hh,hy,_⟩ | ⟨h,_⟩
  ·obtain ⟨hm2,b,hb⟩:=hh
   obtain ⟨q,hq,a,ha⟩:=(hf x).1 (List.mem_of_getElem? hi)
   obtain ⟨z,hz,rfl⟩:=List.mem_map.1 hq
   exact ⟨z.toNat,a,x,nat2 m,b,by show ((z.toNat:Nat):Int)∈B.start;rw [(start_nat hok hz).1];exact hz,ha,by rw [moves_map];exact List.mem_map_of_mem (List.mem_of_getElem? hk),hm2,hb⟩
  ·rw [h] at he;cases he
 ·rintro ⟨q,a,x',m,b,hq,ha,hm,hm2,hb⟩
  rcases ht with ⟨h,_⟩ | ⟨_,_,_,hno⟩
  ·exact h
  ·exfalso
   have hmem:=(hf x').2 ⟨(0,q),List.mem_map.2 ⟨(q:Int),hq,by simp⟩,a,ha⟩
   obtain ⟨i,hi⟩:=List.mem_iff_getElem?.1 hmem
   rw [moves_map] at hm
   obtain ⟨m',hm',rfl⟩:=List.mem_map.1 hm
   obtain ⟨k,hk⟩:=List.mem_iff_getElem?.1 hm'
   exact hno i k x' m' hi hk ⟨hm2,b,hb⟩
end Go.Proofs.YtgobbogomchnhaaGreatDoor
end
