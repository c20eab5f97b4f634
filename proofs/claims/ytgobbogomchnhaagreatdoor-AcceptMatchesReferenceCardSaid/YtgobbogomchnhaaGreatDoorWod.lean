/- The word package: the normal lasso. -/
import Derived.Test.YtgobbogomchnhaaGreatDoorWd
set_option linter.unusedSimpArgs false
set_option linter.unusedVariables false
section
set_option linter.unusedSimpArgs false
set_option linter.unusedVariables false
namespace Go.Proofs.YtgobbogomchnhaaGreatDoor
open Go Go.Pv
open Classical
def lett (S L:List Int) (i:Nat):Int:=if i<S.length then S.getD i 0 else L.getD ((i - S.length) % L.length) 0
def rot (l:List Int) (k:Nat):List Int:=l.drop k++l.take k
theorem rot_len {l:List Int} {k:Nat} (h:k≤l.length):(rot l k).length=l.length:=by simp [rot];omega
theorem rot_mem {l:List Int} {k:Nat} {x:Int} (h:x∈rot l k):x∈l:=by
 rcases List.mem_append.1 h with h | h
 ·exact List.mem_of_mem_drop h
 ·exact List.mem_of_mem_take h
theorem rot_get {l:List Int} {k j:Nat} (hk:k<l.length) (hj:j<l.length):(rot l k).getD j 0=l.getD ((j+k) % l.length) 0:=by
 simp only [rot,List.getD_eq_getElem?_getD]
 by_cases h:j<l.length - k
 ·rw [List.getElem?_append_left (by simpa using h),List.getElem?_drop,Nat.mod_eq_of_lt (by omega),Nat.add_comm]
 ·have e:(j+k) % l.length=j - (l.length - k):=by
   rw [Nat.mod_eq_sub_mod (by omega),Nat.mod_eq_of_lt (by omega)];omega
  rw [List.getElem?_append_right (by simp;omega),e,List.length_drop,List.getElem?_take,if_pos (by omega)]
def nb (sl lp:List Int):Nat→Nat→Nat × Nat
 | 0,back=>(0,back)
 | k+1,back=>if sl.getD k 0=lp.getD (lp.length - 1 - back) 0 then nb sl lp k ((back+1) % lp.length) else (k+1,back)
def Nrm (sl ll sl' ll':List Int):Prop:=∃ n,PerM ll n∧sl'=sl.take (nb sl (ll.take n) sl.length 0).1∧ll'=rot (ll.take n) (((ll.take n).length - (nb sl (ll.take n) sl.length 0).2) % (ll.take n).length)
theorem Nrm.uniq {sl ll a b a' b':List Int} (h:Nrm sl ll a b) (k:Nrm sl ll a' b'):a=a'∧b=b':=by
 obtain ⟨n,h1,h2,h3⟩:=h
 obtain ⟨m,k1,k2,k3⟩:=k
 obtain rfl:=h1.uniq k1
 exact ⟨h2.trans k2.symm,h3.trans k3.symm⟩
def NInv (sl lp:List Int) (w:Nat→Int) (keep back:Nat):Prop:=
 keep≤sl.length∧back<lp.length∧(∀ i,i<keep→w i=sl.getD i 0)∧∀ i,keep≤i→w i=lp.getD ((i - keep+(lp.length - back)) % lp.length) 0
theorem per_mul {l:List Int} {n:Nat} (h:Per l n):∀ (c j:Nat),j+c*n<l.length→l.getD (j+c*n) 0=l.getD j 0:=by
 intro c
 induction c with
 | zero=>intro j _;simp
 | succ c ih=>
  intro j hj
  have e:j+(c+1)*n=n+(j+c*n):=by rw [Nat.add_mul];omega
  rw [e] at hj ⊢
  rw [h.2.2.2 (j+c*n) (by omega)]
  exact ih j (by omega)
theorem per_mod {l:List Int} {n:Nat} (h:Per l n) {j:Nat} (hj:j<l.length):l.getD j 0=l.getD (j % n) 0:=by
 have e:=Nat.mod_add_div j n
 have:=per_mul h (j / n) (j % n) (by rw [Nat.mul_comm,e];exact hj)
 rw [Nat.mul_comm,e] at this
 exact this
theorem ninv_init {sl ll:List Int} {n:Nat} (h:Per ll n):NInv sl (ll.take n) (lett sl ll) sl.length 0:=by
 have hl:(ll.take n).length=n:=by have:=h.2.1;simp;omega
 have hn:=h.1
 refine ⟨Nat.le_refl _,by omega,fun i hi=>by simp [lett,hi],fun i hi=>?_⟩
 rw [hl,Nat.sub_zero,Nat.add_mod_right]
 have h1:(i - sl.length) % ll.length<ll.length:=Nat.mod_lt _ (by have:=h.2.1;omega)
 simp only [lett]
 rw [if_neg (by omega),per_mod h h1,Nat.mod_mod_of_dvd _ (Nat.dvd_of_mod_eq_zero h.2.2.1)]
 have h2:(i - sl.length) % n<n:=Nat.mod_lt _ (by omega)
 simp [List.getD_eq_getElem?_getD,List.getElem?_take,h2]
theorem ninv_step {sl lp:List Int} {w:Nat→Int} {keep back:Nat} (h:NInv sl lp w keep back) (hk:0<keep) (he:sl.getD (keep - 1) 0=lp.getD (lp.length - 1 - back) 0):NInv sl lp w (keep - 1) ((back+1) % lp.length):=by
 obtain ⟨h1,h2,h3,h4⟩:=h
 refine ⟨by omega,Nat.mod_lt _ (by omega),fun i hi=>h3 i (by omega),fun i hi=>?_⟩
 by_cases hlast:i=keep - 1
 ·subst hlast
  rw [h3 _ (by omega),he,Nat.sub_self,Nat.zero_add]
  congr 1
  by_cases hb:back+1<lp.length
  ·rw [Nat.mod_eq_of_lt hb,Nat.mod_eq_of_lt (by omega)];omega
  ·have e:back+1=lp.length:=by omega
   rw [e,Nat.mod_self,Nat.sub_zero,Nat.mod_self];omega
 ·rw [h4 i (by omega)]
  congr 1
  by_cases hb:back+1<lp.length
  ·rw [Nat.mod_eq_of_lt hb]
   congr 1
   omega
  ·have e:back+1=lp.length:=by omega
   rw [e,Nat.mod_self,Nat.sub_zero]
   have e2:i - (keep - 1)+lp.length=i - keep+(lp.length - back)+lp.length:=by omega
   rw [e2,Nat.add_mod_right]
theorem ninv_lett {sl lp:List Int} {w:Nat→Int} {keep back:Nat} (h:NInv sl lp w keep back):∀ i,lett (sl.take keep) (rot lp ((lp.length - back) % lp.length)) i=w i:=by
 obtain ⟨h1,h2,h3,h4⟩:=h
 intro i
 have hk:(lp.length - back) % lp.length<lp.length:=Nat.mod_lt _ (by omega)
 have hl:(sl.take keep).length=keep:=by simp;omega
 simp only [lett,hl,rot_len (Nat.le_of_lt hk)]
 by_cases hi:i<keep
 ·rw [if_pos hi,h3 i hi]
  simp [List.getD_eq_getElem?_getD,List.getElem?_take,hi]
 ·rw [if_neg hi,rot_get hk (Nat.mod_lt _ (by omega)),h4 i (by omega)]
  congr 1
  rw [← Nat.add_mod]
theorem take_ints {v:LV} {l:List Int} (hv:IsInts v l) {e:Env} {s:St} {x hi:Opd} {h:Nat} (hx:x.ev e=v) (hhi:hi.ev e = .int .i64 (h:Int)) (hh:h≤l.length) :
  ∃ r,(LOp.slice 1 x none (some hi)).run e s=some (r,s)∧IsInts r (l.take h):=by
 have hr:∀ y∈l.take h,inI64 y:=fun y hy=>hv.rng y (List.mem_of_mem_take hy)
 have hln:=hv.len
 obtain ⟨hsl,_,_⟩:=hv
 generalize hc:ints l=cs at hsl
 generalize hn:l.length=n at hsl
 cases hsl with
 | nil=>
  have hl:l=[]:=by simpa using hn
  subst hl
  obtain rfl:h=0:=by simpa using hh
  exact ⟨.nils,by simp [LOp.run,hx,hhi,bndOf], .nil,by simp,by simp⟩
 | zs=>
  have hl:l=[]:=by simpa using hn
  subst hl
  obtain rfl:h=0:=by simpa using hh
  exact ⟨.zs,by simp [LOp.run,hx,hhi,bndOf], .zs,by simp,by simp⟩
 | simm=>
  have hcl:cs.length=n:=by rw [← hc];simpa using hn
  refine ⟨_,run_slice (h:=h) (k:=0) (lov:=none) hx rfl (by simp [hhi];rfl) (bnd_int (by omega)) rfl hcl,?_⟩
  rw [← hc]
  have:=sub_ints (l:=l) (k:=0) (n:=h) (fun y hy=>by
   have:y∈l:=hy
   exact ‹∀ x∈l,inI64 x› y hy) (by omega) hln
  simpa using this
set_option maxHeartbeats 4000000 in
theorem normal_tail {K:Env→St→Prop} {st lv:LV} {sl lp:List Int} {w:Nat→Int} {n keep back:Nat} {e:Env} (hS:IsInts st sl) (hlp:IsInts lv lp) (hn1:1≤n) (hlpn:lp.length=n) (hn64:n≤64) (f1:sl.length≤60) (hinv:NInv sl lp w keep back)
  (e43:e.at 43=st) (e44:e.at 44 = .int .i64 (keep:Int)) (e3:e.at 3=lv) (e4:e.at 4 = .int .i64 (n:Int)) (e6:e.at 6 = .int .i64 (back:Int)) (e2:e.at 2 = .pref 0 0)
  (hK:∀ e' a b,IsInts a (sl.take keep)→IsInts b (rot lp ((lp.length - back) % lp.length))→e'.at 2 = .pref 0 0→K e' ((St.empty.new (.cells .mut [.nils, .nils])).put 0 (.cells .mut [a,b]))) :
  W Tryz.prog GL K [⟨(some 45),(.slice 1 (.t 43) none (some (.t 44))),none,[],true⟩,⟨(some 47),(.mv (.t 3)),none,[],true⟩,⟨(some 48),(.mv (.t 4)),none,[],true⟩,⟨(some 49),(.mv (.t 6)),none,[],true⟩,⟨(some 50),(.bin .sub (.t 48) (.t 49)),none,[],true⟩,⟨(some 51),(.mv (.t 4)),none,[],true⟩,⟨(some 52),(.bin .rem (.t 50) (.t 51)),none,[],true⟩,⟨(some 46),(.call (.c (.fn (.func 163) [] [])) [(.t 45)]),none,[],true⟩,⟨(some 53),(.call (.c (.fn (.func 164) [] [])) [(.t 47),(.t 52)]),none,[],true⟩,⟨(some 54),(.build [.nils, .nils] [(0,(1,(.t 46))),(1,(1,(.t 53)))]),none,[],true⟩,⟨none,(.store 2 (.t 2) (.t 54)),none,[],true⟩] e (St.empty.new (.cells .mut [.nils, .nils])):=by
 have hkl:=hinv.1
 have hbl:=hinv.2.1
 rw [hlpn] at hbl
 obtain ⟨r,hr1,hr2⟩:=take_ints hS (e:=e) (s:=St.empty.new (.cells .mut [.nils, .nils])) (x:=.t 43) (hi:=.t 44) ef ef hkl
 refine q_gen wN hr1 rfl trivial ?_
 simp only [Env.put_some]
 have w1:IntKind.i64.wrap ((n:Int) - (back:Int))=((n - back:Nat):Int):=by rw [wrap_i64 _ (by omega) (by omega)];omega
 repeat' (first | refine gA trivial ?_ | (refine gB trivial ?_;intro bb hbb;cases bb<;>(try simp only [hbs,if_false,reduceCtorEq] at hbb)) | fail)
 refine q_bin wN (a:=.int .i64 ((n - back:Nat):Int)) (b:=.int .i64 (n:Int)) (v:=.int .i64 (((n - back) % n:Nat):Int)) ef ef (by
  have:¬ ((n:Int)=0):=by omega
  simp [binLV,intBin,this]
  rw [Int.tmod_eq_emod_of_nonneg (by omega)]
  exact ⟨by omega,rfl⟩) ?_
 have hk:=Nat.le_of_lt (Nat.mod_lt (n - back) (show n > 0 by omega))
 rw [← hlpn] at hk hn1 hn64
 refine q_pureEx hG0 (cloneEx hr2 (by simp;omega)) wN ef (fun a ha hac=>⟨trivial,?_⟩)
 simp only [Env.put_some]
 refine q_pureEx hG0 (turned_ok hlp hn64 hn1 (k:=(lp.length - back) % lp.length) (by rw [hlpn] at *;exact hk)) wN ef (fun b hb hbc=>⟨trivial,?_⟩)
 simp only [Env.put_some]
 have hca:=ha.sl.cell
 have hcb:=hb.sl.cell
 refine q_gen (v:=.agg [a,b]) wN (by simp only [LOp.run,fillParts,evParts,List.map,lk,sv1,sv2,sv3,Nat.reduceEqDiff,Nat.reduceAdd,Nat.reduceLeDiff,reduceIte,if_false,if_true,mkVal,unLV,List.map,optTmps,cells_cell hca,cells_cell hcb];rfl) rfl trivial ?_
 simp only [Env.put_some]
 refine q_storeG (i:=0) (o:=0) (n:=2) (cs:=[.nils, .nils]) (vs:=[a,b]) (cs':=[a,b]) (v:=.agg [a,b]) ef ef (by simp [cells_agg,hca,hcb]) (by simp [n_empty]) rfl (by simp) rfl ?_
 exact q_nil (hK _ _ _ ha hb ef)
set_option maxHeartbeats 8000000 in
theorem normal_ok {st lo:LV} {sl ll:List Int} (hS:IsInts st sl) (hL:IsInts lo ll) (hf:Fm sl ll) :
  PE 120 [.agg [st,lo]] (fun r=>∃ st' lo' sl' ll',r = .agg [st',lo']∧IsInts st' sl'∧IsInts lo' ll'∧sl'.length≤sl.length∧1≤ll'.length∧ll'.length≤ll.length∧(∀ x∈sl',x∈sl)∧(∀ x∈ll',x∈ll)∧(∀ i,lett sl' ll' i=lett sl ll i)∧Nrm sl ll sl' ll'):=by
 have hcl:(LV.agg [st,lo]).closed=true:=by simp [LV.closed,LV.closed.closedAll,hS.closed,hL.closed]
 have hc1:=hS.sl.cell
 have hc2:=hL.sl.cell
 obtain ⟨f1,f2,f3,_,_⟩:=hf
 refine q_fnExR Tryz.func120 (by decide +kernel) c120 (Nat.le_of_ble_eq_true rfl) (by simp [LV.closed.closedAll,hcl]) ?_
 have h0:(envOf [LV.agg [st,lo]]).at 0 = .agg [st,lo]:=by rw [envOf_at];rfl
 generalize envOf [LV.agg [st,lo]]=e at *
 unfold l120
 dsimp only [jA,jB,jE,jH,qM,qL,qF,qS,qI,qA,qC,qO,qG,qm,ql]
 repeat' (first | refine gA trivial ?_ | (refine gB trivial ?_;intro bb hbb;cases bb<;>(try simp only [hbs,if_false,reduceCtorEq] at hbb)) | fail)
 refine q_pureEx hG0 (period_ok hL f2) wN ef (fun r hr hcr=>?_)
 obtain ⟨n,rfl,hpm⟩:=hr
 have hper:=hpm.1
 have hn1:=hper.1
 have hn2:=hper.2.1
 refine ⟨by simp only [Chks,wantedG,LOp.run,Env.put_some,Env.put_none,lk,sv1,sv2,sv3,Nat.reduceEqDiff,Nat.reduceAdd,Nat.reduceLeDiff,reduceIte,if_false,if_true,mkVal,unLV,List.map,optTmps,beq_self_eq_true,reduceCtorEq,false_or,true_and,and_true,Option.some.injEq, *],?_⟩
 simp only [Env.put_some]
 have hlp:IsInts (.simm (((ints ll).drop 0).take n) n) (ll.take n):=by
  have:=sub_ints (l:=ll) (k:=0) (n:=n) hL.rng (by omega) hL.len
  simpa using this
 have hlpn:(ll.take n).length=n:=by simp;omega
 have hni:=ninv_init (sl:=sl) hper
 refine q_gen (v:=.simm (((ints ll).drop 0).take n) n) wN (run_slice (h:=n) (k:=0) (lov:=none) (hiv:=some (.int .i64 (n:Int))) (by simp only [lk,sv1,sv2,sv3,Nat.reduceEqDiff,Nat.reduceAdd,Nat.reduceLeDiff,reduceIte,if_false,if_true,mkVal,unLV,List.map,optTmps];exact hL.sl.pos (by omega)) rfl (by simp only [Option.map_some,lk,sv1,sv2,sv3,Nat.reduceEqDiff,Nat.reduceAdd,Nat.reduceLeDiff,reduceIte,if_false,if_true,mkVal,unLV,List.map,optTmps]) (bnd_int hn2) rfl (ints_length ll)) rfl trivial ?_
 simp only [Env.put_some]
 have hfin:∀ k b,nb sl (ll.take n) k b=nb sl (ll.take n) sl.length 0→nb sl (ll.take n) k b=(k,b)→Nrm sl ll (sl.take k) (rot (ll.take n) (((ll.take n).length - b) % (ll.take n).length)):=fun k b h1 h2=>⟨n,hpm,by rw [← h1,h2],by rw [← h1,h2]⟩
 generalize hwd:lett sl ll=w at hni
 generalize hlv:LV.simm (((ints ll).drop 0).take n) n=lv at *
 generalize hle:ll.take n=lp at *
 have hll:∀ x∈lp,x∈ll:=fun x hx=>by rw [← hle] at hx;exact List.mem_of_mem_take hx
 repeat' (first | refine gA (And.intro @hlp.sl.len @hS.sl.len) ?_ | (refine gB (And.intro @hlp.sl.len @hS.sl.len) ?_;intro bb hbb;cases bb<;>(try simp only [hbs,if_false,reduceCtorEq] at hbb)) | fail)
 have hn64:n≤64:=by omega
 have hlpr:=hlp.sl
 rw [hlpn] at hlpr
 refine qc_loop (fun m e s=>s=St.empty.new (.cells .mut [.nils, .nils])∧∃ keep back:Nat,keep=m∧e.at 1 = .pimm [st,lo] 0∧e.at 2 = .pref 0 0∧e.at 3=lv∧e.at 4 = .int .i64 (n:Int)∧e.at 5 = .int .i64 (keep:Int)∧e.at 6 = .int .i64 (back:Int)∧NInv sl lp w keep back∧nb sl lp keep back=nb sl lp sl.length 0) sl.length
  ⟨by simp [n_empty],sl.length,0,rfl,by simp,by simp,by simp,by simp [hlpn],by simp,by simp,hni,rfl⟩ ?_
 rintro m e s ⟨rfl,keep,back,rfl,e1,e2,e3,e4,e5,e6,hinv,hnb⟩
 have hkl:=hinv.1
 have hbl:=hinv.2.1
 rw [hlpn] at hbl
 by_cases hk0:0<keep
 ·have w1:IntKind.i64.wrap ((keep:Int) - 1)=((keep - 1:Nat):Int):=by rw [wrap_i64 _ (by omega) (by omega)];omega
  have w2:IntKind.i64.wrap ((n:Int) - 1)=((n - 1:Nat):Int):=by rw [wrap_i64 _ (by omega) (by omega)];omega
  have w3:IntKind.i64.wrap (((n - 1:Nat):Int) - (back:Int))=((n - 1 - back:Nat):Int):=by rw [wrap_i64 _ (by omega) (by omega)];omega
  have x1:((keep - 1:Nat):Int)<(sl.length:Int):=by omega
  have x2:((n - 1 - back:Nat):Int)<(n:Int):=by omega
  have x3:((n - 1 - back:Nat):Int)<(lp.length:Int):=by omega
  repeat' (first | refine gA (And.intro (@iaN _ _ _ hS.sl) (And.intro (@iaN _ _ _ hlpr) (And.intro @ints_get (And.intro @w1 (And.intro @w2 @w3))))) ?_ | (refine gB (And.intro (@iaN _ _ _ hS.sl) (And.intro (@iaN _ _ _ hlpr) (And.intro @ints_get (And.intro @w1 (And.intro @w2 @w3))))) ?_;intro bb hbb;cases bb<;>(try simp only [hbs,if_false,reduceCtorEq] at hbb)) | fail)
  ·exfalso;omega
  ·refine normal_tail hS hlp hn1 hlpn hn64 f1 hinv ef ef ef ef ef ef (fun e' a b ha hb he=>?_)
   simp only [Thn]
   repeat' (first | refine gA trivial ?_ | (refine gB trivial ?_;intro bb hbb;cases bb<;>(try simp only [hbs,if_false,reduceCtorEq] at hbb)) | fail)
   refine ⟨.inr trivial, .agg [a,b],by simp [resVal,resOne,he,mkVal], .agg [a,b],_,frzD_closed ?_,?_,a,b,_,_,rfl,ha,hb,?_,?_,?_,?_,?_,ninv_lett hinv,hfin _ _ hnb ?_⟩
   ·simp [LV.closed,LV.closed.closedAll,ha.closed,hb.closed]
   ·simp [LV.closed,LV.closed.closedAll,ha.closed,hb.closed]
   ·simp;omega
   ·rw [rot_len (Nat.le_of_lt (Nat.mod_lt _ (by omega)))];omega
   ·rw [rot_len (Nat.le_of_lt (Nat.mod_lt _ (by omega)))];omega
   ·exact fun x hx=>List.mem_of_mem_take hx
   ·exact fun x hx=>hll x (rot_mem hx)
   ·obtain ⟨k',rfl⟩:∃ k',keep=k'+1:=⟨keep - 1,by omega⟩
    rw [nb,hlpn]
    simp only [Nat.add_sub_cancel] at *
    exact if_neg (by assumption)
  ·refine q_bin wN (a:=.int .i64 ((back+1:Nat):Int)) (b:=.int .i64 (n:Int)) (v:=.int .i64 (((back+1) % n:Nat):Int)) (by simp only [lk,sv1,sv2,sv3,Nat.reduceEqDiff,Nat.reduceAdd,Nat.reduceLeDiff,reduceIte,if_false,if_true,mkVal,unLV,List.map,optTmps,wrap_succ (i:=back) (n:=n) (by omega) (Nat.le_trans hn64 (by decide))]) ef (by
    have:¬ ((n:Int)=0):=by omega
    simp [binLV,intBin,this]
    exact ⟨by omega,Int.tmod_eq_emod_of_nonneg (by omega)⟩) ?_
   repeat' (first | refine gA trivial ?_ | (refine gB trivial ?_;intro bb hbb;cases bb<;>(try simp only [hbs,if_false,reduceCtorEq] at hbb)) | fail)
   have:=ninv_step hinv hk0 (by rw [hlpn];exact hbb)
   rw [hlpn] at this
   refine ⟨keep - 1,by omega,trivial,keep - 1,(back+1) % n,rfl,?_⟩
   simp only [lk,sv1,sv2,sv3,Nat.reduceEqDiff,Nat.reduceAdd,Nat.reduceLeDiff,reduceIte,if_false,if_true,mkVal,unLV,List.map,optTmps,true_and,w1,e1,e2,e3,e4,e5,e6]
   refine ⟨this,?_⟩
   rw [← hnb]
   obtain ⟨k',rfl⟩:∃ k',keep=k'+1:=⟨keep - 1,by omega⟩
   conv=>rhs;rw [nb]
   rw [hlpn]
   simp only [Nat.add_sub_cancel] at *
   exact (if_pos (by assumption)).symm
 ·repeat' (first | refine gA trivial ?_ | (refine gB trivial ?_;intro bb hbb;cases bb<;>(try simp only [hbs,if_false,reduceCtorEq] at hbb)) | fail)
  ·refine normal_tail hS hlp hn1 hlpn hn64 f1 hinv ef ef ef ef ef ef (fun e' a b ha hb he=>?_)
   simp only [Thn]
   repeat' (first | refine gA trivial ?_ | (refine gB trivial ?_;intro bb hbb;cases bb<;>(try simp only [hbs,if_false,reduceCtorEq] at hbb)) | fail)
   refine ⟨.inr trivial, .agg [a,b],by simp [resVal,resOne,he,mkVal], .agg [a,b],_,frzD_closed ?_,?_,a,b,_,_,rfl,ha,hb,?_,?_,?_,?_,?_,ninv_lett hinv,hfin _ _ hnb ?_⟩
   ·simp [LV.closed,LV.closed.closedAll,ha.closed,hb.closed]
   ·simp [LV.closed,LV.closed.closedAll,ha.closed,hb.closed]
   ·simp;omega
   ·rw [rot_len (Nat.le_of_lt (Nat.mod_lt _ (by omega)))];omega
   ·rw [rot_len (Nat.le_of_lt (Nat.mod_lt _ (by omega)))];omega
   ·exact fun x hx=>List.mem_of_mem_take hx
   ·exact fun x hx=>hll x (rot_mem hx)
   ·have:keep=0:=by omega
    subst this
    rfl
  ·exfalso;omega
end Go.Proofs.YtgobbogomchnhaaGreatDoor
end
section
set_option linter.unusedSimpArgs false
set_option linter.unusedVariables false
namespace Go.Proofs.YtgobbogomchnhaaGreatDoor
open Go Go.Pv
open Classical
set_option maxHeartbeats 4000000 in
theorem wnormal_ok {st lo:LV} {sl ll:List Int} (hS:IsInts st sl) (hL:IsInts lo ll) (hf:Fm sl ll) :
  PE 84 [.agg [st,lo]] (fun r=>∃ st' lo' sl' ll',r = .agg [st',lo']∧IsInts st' sl'∧IsInts lo' ll'∧sl'.length≤sl.length∧1≤ll'.length∧ll'.length≤ll.length∧(∀ x∈sl',x∈sl)∧(∀ x∈ll',x∈ll)∧(∀ i,lett sl' ll' i=lett sl ll i)∧Nrm sl ll sl' ll'):=by
 have hcl:(LV.agg [st,lo]).closed=true:=by simp [LV.closed,LV.closed.closedAll,hS.closed,hL.closed]
 have hc1:=hS.sl.cell
 have hc2:=hL.sl.cell
 refine q_fnExR Tryz.func84 (by decide +kernel) c84 (Nat.le_of_ble_eq_true rfl) (by simp [LV.closed.closedAll,hcl]) ?_
 have h0:(envOf [LV.agg [st,lo]]).at 0 = .agg [st,lo]:=by rw [envOf_at];rfl
 generalize envOf [LV.agg [st,lo]]=e at *
 unfold l84
 dsimp only [jA,jG,qN,qO,qG]
 repeat' (first | refine gA trivial ?_ | (refine gB trivial ?_;intro bb hbb;cases bb<;>(try simp only [hbs,if_false,reduceCtorEq] at hbb)) | fail)
 refine q_pureB hG0 (formed_ok hS hL) (by first | exact wN | (apply wG;(simp only [lk,Nat.reduceEqDiff,reduceIte,h0];(try rfl);done))) (by simp only [List.map,lk,Nat.reduceEqDiff,reduceIte,h0];try rfl) (fun bb hbb=>⟨by first | trivial | (simp only [Chks,wantedG,LOp.run,Env.put_some,Env.put_none,lk,sv1,sv2,sv3,Nat.reduceEqDiff,Nat.reduceAdd,Nat.reduceLeDiff,reduceIte,if_false,if_true,mkVal,unLV,List.map,optTmps,beq_self_eq_true,reduceCtorEq,false_or,true_and,and_true,Option.some.injEq, *];done),?_⟩)
 simp only [Env.put_some]
 cases bb<;>simp only [decide_eq_true_eq,decide_eq_false_iff_not] at hbb
 ·exact absurd hf hbb
 repeat' (first | refine gA trivial ?_ | (refine gB trivial ?_;intro bb hbb;cases bb<;>(try simp only [hbs,if_false,reduceCtorEq] at hbb)) | fail)
 refine q_pureEx hG0 (normal_ok hS hL hf) wN ef (fun r hr hrc=>⟨trivial,?_⟩)
 obtain ⟨st',lo',sl',ll',rfl,hS',hL',hrest⟩:=hr
 have hca:=hS'.sl.cell
 have hcb:=hL'.sl.cell
 simp only [Env.put_some]
 refine q_storeG (i:=0) (o:=0) (n:=2) (cs:=[.nils, .nils]) (vs:=[st',lo']) (cs':=[st',lo']) (v:=.agg [st',lo']) ef ef (by simp [cells_agg,hca,hcb]) (by simp [n_empty]) rfl (by simp) rfl ?_
 repeat' (first | refine gA trivial ?_ | (refine gB trivial ?_;intro bb hbb;cases bb<;>(try simp only [hbs,if_false,reduceCtorEq] at hbb)) | fail)
 exact ⟨.inr trivial, .agg [st',lo'],by simp [resVal,resOne,mkVal], .agg [st',lo'],_,frzD_closed hrc,hrc,_,_,_,_,rfl,hS',hL',hrest⟩
def Has (s:St) (id:Nat) (cs:List LV):Prop:=∃ m,s.get id=some (.cells m cs)
def Fld (s:St) (v:LV) (l:List Int):Prop:=IsInts v l∨∃ a,v = .sref a 0 l.length 1∧Has s a (ints l)∧IsInts (.simm (ints l) l.length) l
theorem Fld.mono {s s':St} {v:LV} {l:List Int} (h:Fld s v l) (hs:∀ id cs,Has s id cs→Has s' id cs):Fld s' v l:=by
 rcases h with h | ⟨a,h1,h2,h3⟩
 ·exact .inl h
 ·exact .inr ⟨a,h1,hs _ _ h2,h3⟩
theorem Fld.cell {s:St} {v:LV} {l:List Int} (h:Fld s v l):isCell v=true:=by
 rcases h with h | ⟨a,rfl,h2,h3⟩
 ·exact h.sl.cell
 ·rfl
theorem frz_fld {s:St} {v:LV} {l:List Int} (n:Nat) (h:Fld s v l):∃ v' s',frz (n+2) v s=some (v',s')∧IsInts v' l∧s'.n=s.n∧∀ id cs,Has s id cs→Has s' id cs:=by
 rcases h with h | ⟨a,rfl,⟨m,hm⟩,h3⟩
 ·exact ⟨v,s,frz_closed h.closed,h,rfl,fun _ _ h=>h⟩
 ·refine ⟨_,s.put a (.cells (if m = .mut then .app else m) (ints l)),?_,h3,rfl,fun id cs hh=>?_⟩
  ·unfold frz
   simp only [LV.closed,Bool.false_eq_true,if_false,hm,Nat.zero_add,Nat.mul_one,ints_length,Nat.le_refl,if_true,frzAll_closed (ints_closed l),Option.bind_eq_bind,Option.bind_some,List.drop_zero]
   rw [List.take_of_length_le (by simp)]
  ·by_cases he:id=a
   ·subst he
    obtain ⟨m',hh⟩:=hh
    rw [hm] at hh
    cases hh
    exact ⟨_,by rw [St.get_put,if_pos rfl]⟩
   ·obtain ⟨m',hh⟩:=hh
    exact ⟨m',by rw [St.get_put,if_neg he];exact hh⟩
theorem frz_agg2 {s s1 s2:St} {x y x' y':LV} (n:Nat) (hx:frz n x s=some (x',s1)) (hy:frz n y s1=some (y',s2)):∃ z s3,frz (n+1) (.agg [x,y]) s=some (z,s3)∧(z = .agg [x,y]∧s3=s∧(LV.agg [x,y]).closed=true∨z = .agg [x',y']∧s3=s2):=by
 by_cases hc:(LV.agg [x,y]).closed=true
 ·exact ⟨_,_,frz_closed hc, .inl ⟨rfl,rfl,hc⟩⟩
 ·have hc':(LV.agg [x,y]).closed=false:=by simpa using hc
  exact ⟨_,_,frz_agg n hc' (by simp [frz.frzAll,hx,hy]), .inr ⟨rfl,rfl⟩⟩
theorem IsInts.of_closed {s:St} {v:LV} {l:List Int} (h:Fld s v l) (hc:v.closed=true):IsInts v l:=by
 rcases h with h | ⟨a,rfl,_⟩
 ·exact h
 ·simp [LV.closed] at hc
theorem row_ints {v:LV} {l:List Int} (hv:IsInts v l):lenLV v=some l.length∧∀ s,rowOf s 1 l.length v=some (ints l):=by
 have hsl:=hv.sl
 clear hv
 generalize hc:ints l=cs at hsl
 generalize hn:l.length=n at hsl
 cases hsl with
 | nil=>exact ⟨rfl,fun _=>rfl⟩
 | zs=>exact ⟨rfl,fun _=>rfl⟩
 | simm=>exact ⟨rfl,fun _=>rowOf_simm (by rw [← hc];simpa using hn)⟩
end Go.Proofs.YtgobbogomchnhaaGreatDoor
end
