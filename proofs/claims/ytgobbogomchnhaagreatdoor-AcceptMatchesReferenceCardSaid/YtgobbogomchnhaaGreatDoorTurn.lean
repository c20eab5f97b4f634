/- accept's turn: the first good move to a place from which it can be reached. -/
import Derived.Test.YtgobbogomchnhaaGreatDoorSmall
import Derived.Test.YtgobbogomchnhaaGreatDoorParts
set_option linter.unusedSimpArgs false
set_option linter.unusedVariables false
namespace Go.Proofs.YtgobbogomchnhaaGreatDoor
open Go Go.Pv Go.Aut Go.Bfs Go.Tarjan
open Classical
structure NR (n0:Nat) (s:St) (j7 n:Nat) (rows:Nat→List Nat) (rv:List LV):Prop where
 len:rv.length=n
 g:s.get j7=some (.cells .mut rv)
 lt:j7<s.n
 row:∀ i,i<n→SkC s (rv.getD i .top) 1 (nints (rows i)) (rows i).length
 low:∀ i,i<n→∀ id,uses (rv.getD i .top) id→n0≤id∧id≠j7
 dj:∀ i k,i<n→k<n→i≠k→∀ id,uses (rv.getD i .top) id→¬ uses (rv.getD k .top) id
theorem NR.keep {n0:Nat} {s s':St} {j7 n:Nat} {rows:Nat→List Nat} {rv:List LV} (h:NR n0 s j7 n rows rv) (hn:s.n≤s'.n) (hs:∀ id,id<s.n→s'.get id=s.get id):NR n0 s' j7 n rows rv:=
 ⟨h.len,by rw [hs _ h.lt];exact h.g,by have:=h.lt;omega,fun i hi=>(h.row i hi).mono hn fun id hu=>hs id ((h.row i hi).lt hu),h.low,h.dj⟩
theorem NR.congr {n0:Nat} {s:St} {j7 n:Nat} {rows rows':Nat→List Nat} {rv:List LV} (h:NR n0 s j7 n rows rv) (hr:∀ i,i<n→rows' i=rows i):NR n0 s j7 n rows' rv:=
 ⟨h.len,h.g,h.lt,fun i hi=>by rw [hr i hi];exact h.row i hi,h.low,h.dj⟩
theorem getD_set {α:Type} {l:List α} {i k:Nat} {x d:α} (h:i<l.length):(l.set i x).getD k d=if k=i then x else l.getD k d:=by
 by_cases e:k=i
 ·subst e;simp [List.getD_eq_getElem?_getD,h]
 ·have e':i≠k:=fun h=>e h.symm
  simp [List.getD_eq_getElem?_getD,e,e']
theorem NR.put {n0:Nat} {s s2 s3:St} {j7 n:Nat} {rows:Nat→List Nat} {rv:List LV} (h:NR n0 s j7 n rows rv) (hj0:j7<n0) (hsn:n0≤s.n) {i j:Nat} (hi:i<n) {r:List Nat} (h1:s.n≤j) (h2:SkC s2 (.sref j 0 r.length 1) 1 (nints r) r.length) (hn:s.n≤s2.n) (hs:∀ id,id<s.n→¬ uses (rv.getD i .top) id→s2.get id=s.get id)
  (hn3:s3.n=s2.n) (h3:s3.get j7=some (.cells .mut (rv.set i (.sref j 0 r.length 1)))) (ho:∀ id,id≠j7→s3.get id=s2.get id):NR n0 s3 j7 n (fun k=>if k=i then r else rows k) (rv.set i (.sref j 0 r.length 1)):=by
 have hl:=h.len
 have hlt:=h.lt
 have hg:∀ k,(rv.set i (.sref j 0 r.length 1)).getD k .top=if k=i then .sref j 0 r.length 1 else rv.getD k .top:=fun k=>getD_set (by rw [hl];exact hi)
 refine ⟨by simp [hl],h3,by omega,fun k hk=>?_,fun k hk id hu=>?_,fun k k' hk hk' hne id hu hu'=>?_⟩
 ·rw [hg]
  by_cases e:k=i
  ·rw [if_pos e,if_pos e]
   exact h2.mono (by omega) fun id hu=>ho id (by rw [uses_sref.1 hu];omega)
  ·rw [if_neg e,if_neg e]
   exact (h.row k hk).mono (by omega) fun id hu=>by
    rw [ho id (h.low k hk id hu).2]
    exact hs id ((h.row k hk).lt hu) fun hu'=>h.dj k i hk hi e id hu hu'
 ·rw [hg] at hu
  by_cases e:k=i
  ·rw [if_pos e] at hu
   rw [uses_sref.1 hu]
   exact ⟨by omega,by omega⟩
  ·rw [if_neg e] at hu
   exact h.low k hk id hu
 ·rw [hg] at hu hu'
  by_cases e:k=i
  ·rw [if_pos e] at hu
   rw [if_neg (by omega)] at hu'
   have:=(h.row k' hk').lt hu'
   rw [uses_sref.1 hu] at this
   omega
  ·rw [if_neg e] at hu
   by_cases e':k'=i
   ·rw [if_pos e'] at hu'
    have:=(h.row k hk).lt hu
    rw [uses_sref.1 hu'] at this
    omega
   ·rw [if_neg e'] at hu'
    exact h.dj k k' hk hk' hne id hu hu'
theorem mok_len {n:Nat} {ms:Moves} (h:MOK n ms):ms.length≤2*n:=by
 let f:Nat→Int:=fun k=>2*(ms.getD k (0,false)).1+(if (ms.getD k (0,false)).2=true then 1 else 0)
 have hf:∀ k,k<ms.length→(k:Int)≤f k:=by
  intro k
  induction k with
  | zero=>
   intro hk
   have:=(h 0 hk).1
   show (0:Int)≤2*_+_
   split<;>omega
  | succ k ih=>
   intro hk
   have h1:=ih (by omega)
   have h2:=(h (k+1) hk).2.2 (by omega)
   rw [Nat.add_sub_cancel] at h2
   have h3:f k<f (k+1):=by
    show 2*(ms.getD k (0,false)).1+_<2*(ms.getD (k+1) (0,false)).1+_
    rcases h2 with h2 | ⟨h2,h4,h5⟩
    ·split<;>split<;>omega
    ·rw [h4,h5,h2];simp only [Bool.false_eq_true,if_false,if_true];omega
   omega
 by_cases hz:ms.length=0
 ·omega
 ·have h1:=hf (ms.length - 1) (by omega)
  have h2:=(h (ms.length - 1) (by omega)).2.1
  have h3:f (ms.length - 1)≤2*(ms.getD (ms.length - 1) (0,false)).1+1:=by
   show 2*_+_≤_
   split<;>omega
  omega
theorem bms_len {B:Bu} {ls:List Nat} (hok:Vb B) (hlet:∀ i,i<ls.length→(ls.getD i 0:Int)<B.L) {p:Pl} (hp:InT B ls p):(bms B ls p).length≤6000:=by
 obtain ⟨h1,h2⟩:=hp
 have hrow:=hok.2.2.2.2 p.2 h2
 have hl:=hlet p.1 h1
 have ha:ls.getD p.1 0<(B.next.getD p.2 []).length:=by have:=hrow.1;omega
 have:=mok_len (hrow.2 _ ha)
 have h3:=hok.2.2.1
 show ((B.next.getD p.2 []).getD (ls.getD p.1 0) []).length≤6000
 omega
def nxr (B:Bu) (ls:List Nat) (bk:Nat) (ps:List Pl) (i:Nat):List Nat:=(bms B ls (ps.getD i (0,0))).map fun m=>(idx ((tkOf B ls bk).after (ps.getD i (0,0)) (nat2 m)) ps 0).getD 0
def Hit (k:Aut.Tk) (x:Pl) (m:Int × Bool):Prop:=m.2=true∧∃ a,Walk k.E a (k.after x (nat2 m)) x
def Turned (B:Bu) (ls:List Nat) (bk:Nat) (ps:List Pl) (x y:Pl) (ok:Bool):Prop:=
 (ok=true∧∃ (i k:Nat) (m:Int × Bool),ps[i]? = some x∧(bms B ls x)[k]? = some m∧Hit (tkOf B ls bk) x m∧y=(tkOf B ls bk).after x (nat2 m)∧∀ (i' k':Nat) (x':Pl) (m':Int × Bool),(i'<i∨i'=i∧k'<k)→ps[i']? = some x'→(bms B ls x')[k']? = some m'→¬ Hit (tkOf B ls bk) x' m') ∨
 (ok=false∧x=(0,0)∧y=(0,0)∧∀ (i' k':Nat) (x':Pl) (m':Int × Bool),ps[i']? = some x'→(bms B ls x')[k']? = some m'→¬ Hit (tkOf B ls bk) x' m')
set_option maxHeartbeats 16000000 in
theorem turn_ok {v:LV} {B:Bu} {ls:List Nat} {bk:Nat} {sv nv lv pv bv:LV} (h:IsTk v B ls bk sv nv lv) {from_:List Pl} {acc:Ac Pl} (hOk:Bfs.Ok (tkOf B ls bk).succ from_ (InT B ls) acc) (hCl:Cl (tkOf B ls bk).succ acc acc.length) {s:St} {M:Nat} (hF:FO s M pv bv acc) :
  CallOk Tryz.prog GL (.fn (.func 51) [] []) [v, .agg [.mref M,pv,bv]] s (fun r s'=>∃ x y ok,r = .tup [.agg (pcell x), .agg (pcell y), .bool ok]∧Turned B ls bk (acc.map (·.1)) x y ok∧s.n≤s'.n∧∀ id,id<s.n→s'.get id=s.get id):=by
 have hcl:=h.closed
 have hmv:=fun {p:Pl} (hp:InT B ls p)=>moves_ok h hp
 have haf:=fun {p:Pl} (hp:p.1<ls.length) (m:Int × Bool) (q:Nat) (hq:m.1=(q:Int))=>after_ok h hp m q hq
 obtain ⟨rfl,hst,hnx,hlt,hok,hpos,hbk,hbig,hlet⟩:=h
 obtain ⟨vs,hn⟩:=hnx
 have hc1:=hst.sl.cell
 have hc2:=hn.sl.cell
 have hc3:=hlt.sl.cell
 have hNb:ls.length*B.next.length≤600000:=by
  have:ls.length*B.next.length≤200*3000:=Nat.mul_le_mul hbig hok.2.2.1
  omega
 have hnl:acc.length≤600000:=by
  have:=inT_len hOk.nd fun x hx=>by obtain ⟨y,hy,rfl⟩:=List.mem_map.1 hx;exact hOk.rng y hy
  rw [List.length_map] at this
  omega
 have hpl:=hF.sp.len
 have hcp:=hF.sp.cell
 have hcb:=hF.sb.cell
 have hcm:isCell (.mref M)=true:=rfl
 have hM:=hF.m1
 refine call_fn (first:=[]) (caps:=[]) Tryz.func51 (by decide +kernel) c51 (Nat.le_of_ble_eq_true rfl) (CodeOk.mono (Q:=fun o e s'=>(o = .normal∨o = .jmp .ret)∧∃ x y ok,e.at 4 = .pref (s.n+1) 0∧e.at 5 = .pref (s.n+1+1) 0∧e.at 6 = .bool ok∧s'.get (s.n+1)=some (.cells .mut (pcell x))∧s'.get (s.n+1+1)=some (.cells .mut (pcell y))∧Turned B ls bk (acc.map (·.1)) x y ok∧s.n≤s'.n∧∀ id,id<s.n→s'.get id=s.get id) ?_ fun o e s' hh=>by
  obtain ⟨h1,x,y,ok,h2,h3,h4,h5,h6,h7⟩:=hh
  exact ⟨h1, .tup [.agg (pcell x), .agg (pcell y), .bool ok],by simp [l51,resVal,resOne,h2,h3,h4,h5,h6,mkVal,pcell],x,y,ok,rfl,h7⟩)
 have e0:(envOf ([]++[.agg [.int .i64 B.L,sv,nv,lv, .int .i64 (bk:Int)], .agg [.mref M,pv,bv]]++[])).at 0 = .agg [.int .i64 B.L,sv,nv,lv, .int .i64 (bk:Int)]:=by rw [envOf_at];rfl
 have e1:(envOf ([]++[.agg [.int .i64 B.L,sv,nv,lv, .int .i64 (bk:Int)], .agg [.mref M,pv,bv]]++[])).at 1 = .agg [.mref M,pv,bv]:=by rw [envOf_at];rfl
 generalize envOf ([]++[.agg [.int .i64 B.L,sv,nv,lv, .int .i64 (bk:Int)], .agg [.mref M,pv,bv]]++[])=e at *
 refine Cd.out ?_
 unfold l51
 dsimp only [jA,jB,jE,jG,jH,qM,qL,qN,qF,qS,qI,qA,qB,qC,qK,qO,qG,qm,ql]
 repeat' (first | refine gA trivial ?_ | (refine gB trivial ?_;intro bb hbb;cases bb<;>(try simp only [hbs,if_false,reduceCtorEq] at hbb)) | fail)
 have hgM:=hF.gM
 have hspx:=hF.sp
 generalize hps:acc.map (·.1)=ps at *
 have hpsl:ps.length=acc.length:=by rw [← hps];simp
 generalize hnn:acc.length=n at *
 have hpsin:∀ {i:Nat} {p:Pl},ps[i]? = some p→InT B ls p:=fun {i p} hp=>by
  rw [← hps,List.getElem?_map] at hp
  obtain ⟨x,hx,rfl⟩:=Option.map_eq_some_iff.1 hp
  exact hOk.rng x (List.mem_of_getElem? hx)
 have hclo:∀ {i:Nat} {p:Pl},ps[i]? = some p→∀ q∈(tkOf B ls bk).succ p,q∈ps:=fun {i p} hp q hq=>by
  have hil:=(List.getElem?_eq_some_iff.1 hp).1
  rw [← hps,List.getElem?_map] at hp
  obtain ⟨x,hx,rfl⟩:=Option.map_eq_some_iff.1 hp
  rw [← hps]
  exact hCl i x (by omega) hx q hq
 have hnd:ps.Nodup:=by rw [← hps];exact hOk.nd
 refine w_gen (fun e s1=>s1.n=s.n+1+1+1∧s1.get s.n=some (.cells .mut [.mref M,pv,bv])∧s1.get (s.n+1)=some (.cells .mut [.int .i64 0, .int .i64 0])∧s1.get (s.n+1+1)=some (.cells .mut [.int .i64 0, .int .i64 0])∧(∀ id,id<s.n→s1.get id=s.get id)∧e.at 2 = .pimm [.int .i64 B.L,sv,nv,lv, .int .i64 (bk:Int)] 0∧e.at 3 = .pref s.n 0∧e.at 4 = .pref (s.n+1) 0∧e.at 5 = .pref (s.n+1+1) 0∧e.at 6 = .bool false∧e.at 17 = .pref s.n 1) ?_ ?_
 ·refine ⟨rfl,?_,?_,?_,fun id hid=>?_,ef,ef,ef,ef,ef,ef⟩
  ·simp only [St.get_new,St.n_new];rw [if_neg (by omega),if_neg (by omega),if_pos trivial]
  ·simp only [St.get_new,St.n_new];rw [if_neg (by omega),if_pos trivial]
  ·simp only [St.get_new,St.n_new];rw [if_pos trivial]
  ·simp only [St.get_new,St.n_new];rw [if_neg (by omega),if_neg (by omega),if_neg (by omega)]
 clear e0 e1
 clear e
 rintro e s1 ⟨hn1,g3,g4,g5,hold1,e2,e3,e4,e5,e6,e17⟩
 repeat' (first | refine gA @hpl ?_ | (refine gB @hpl ?_;intro bb hbb;cases bb<;>(try simp only [hbs,if_false,reduceCtorEq] at hbb)) | fail)
 have hnI:(n:Int)≤600000:=by omega
 refine q_gen (v:=.sref s1.n 0 n 1) (s':=s1.new (.cells .mut (List.replicate n .nils))) wN (by
  have h1:(n:Int)*24≤big:=by unfold big;omega
  have h2:(n:Int)≤big:=by unfold big;omega
  simp only [LOp.run,lk,sv1,sv2,sv3,Nat.reduceEqDiff,Nat.reduceAdd,Nat.reduceLeDiff,reduceIte,if_false,if_true,mkVal,unLV,List.map,optTmps]
  rw [if_pos ⟨by omega,Int.le_refl _,h1,h2,trivial⟩,Int.toNat_natCast,rep_one]) rfl trivial ?_
 simp only [Env.put_some]
 refine w_gen (fun e s2=>NR (s1.n+1) s2 s1.n n (fun _=>[]) (List.replicate n .nils)∧s2.n=s1.n+1∧(∀ id,id<s1.n→s2.get id=s1.get id)∧e.at 2 = .pimm [.int .i64 B.L,sv,nv,lv, .int .i64 (bk:Int)] 0∧e.at 3 = .pref s.n 0∧e.at 4 = .pref (s.n+1) 0∧e.at 5 = .pref (s.n+1+1) 0∧e.at 6 = .bool false∧e.at 20 = .sref s1.n 0 n 1) ?_ ?_
 ·have hrp:∀ i,i<n→(List.replicate n LV.nils).getD i .top = .nils:=fun i hi=>by simp [List.getD_eq_getElem?_getD,hi]
  refine ⟨⟨by simp,by rw [St.get_new,if_pos rfl],by simp,fun i hi=>by rw [hrp i hi];exact SkC.nil _ _,fun i hi id hu=>by rw [hrp i hi] at hu;exact absurd hu (uses_nils id),fun i k hi hk hne id hu=>by rw [hrp i hi] at hu;exact absurd hu (uses_nils id)⟩,rfl,fun id hid=>by rw [St.get_new,if_neg (by omega)],ef,ef,ef,ef,ef,ef⟩
 clear e2 e3 e4 e5 e6 e17
 clear e
 rintro e s2 ⟨hNR,hn2,hold2,e2,e3,e4,e5,e6,e20⟩
 obtain ⟨j7,hj7⟩:∃ j7,j7=s1.n:=⟨_,rfl⟩
 rw [← hj7] at hNR hn2 hold2 e20
 have hj7s:s.n+1+1<j7:=by omega
 have g3':s2.get s.n=some (.cells .mut [.mref M,pv,bv]):=by rw [hold2 _ (by omega)];exact g3
 clear hj7
 repeat' (first | refine gA @hpl ?_ | (refine gB @hpl ?_;intro bb hbb;cases bb<;>(try simp only [hbs,if_false,reduceCtorEq] at hbb)) | fail)
 refine qc_loop (fun m e s'=>∃ (i:Nat) (rv:List LV),m=n - i∧i≤n∧NR (j7+1) s' j7 n (fun x=>if x<i then nxr B ls bk ps x else []) rv∧j7<s'.n∧(∀ id,id<j7→s'.get id=s1.get id)∧e.at 2 = .pimm [.int .i64 B.L,sv,nv,lv, .int .i64 (bk:Int)] 0∧e.at 3 = .pref s.n 0∧e.at 4 = .pref (s.n+1) 0∧e.at 5 = .pref (s.n+1+1) 0∧e.at 6 = .bool false∧e.at 7 = .sref j7 0 n 1∧e.at 22=pv∧e.at 23 = .int .i64 (n:Int)∧e.at 24 = .int .i64 (i:Int)) _
  ⟨0,_,rfl,by omega,hNR.congr (fun i _=>by simp),by omega,hold2,ef,ef,ef,ef,ef,ef,ef,ef,by simp only [lk,sv1,sv2,sv3,Nat.reduceEqDiff,Nat.reduceAdd,Nat.reduceLeDiff,reduceIte,if_false,if_true,mkVal,unLV,List.map,optTmps];rfl⟩ ?_
 clear hNR hn2 hold2 g3' e2 e3 e4 e5 e6 e20
 clear s2 e
 rintro m e s2 ⟨i,rv,rfl,hi,hNR,hjn,hold2,e2,e3,e4,e5,e6,e7,e22,e23,e24⟩
 have g3':s2.get s.n=some (.cells .mut [.mref M,pv,bv]):=by rw [hold2 _ (by omega)];exact g3
 have gM':s2.get M=some (.map (pent ps 0)):=by rw [hold2 _ (by omega),hold1 _ hM];exact hgM
 by_cases hil:i<n
 ·obtain ⟨p,hp⟩:∃ p,ps[i]? = some p:=⟨_,List.getElem?_eq_getElem (by omega)⟩
  have hpin:=hpsin hp
  obtain ⟨pid,hpv,hpid,hpg⟩:=hspx.pos (by omega)
  have hpg':s2.get pid=some (.cells .mut (pcells ps)):=by rw [hold2 _ (by omega),hold1 _ hpid];exact hpg
  have hiI:(i:Int)<(n:Int):=by omega
  have hia:iaLV 2 pv (.int .i64 (i:Int)) s2=some (.pref pid (i*2),s2):=by
   rw [hpv,iaS hiI,Nat.zero_add]
  have hld:=loadN_plsR hp hpg'
  have hw:IntKind.i64.wrap ((i:Int)+1)=((i+1:Nat):Int):=by rw [wrap_i64 _ (by omega) (by omega)];rfl
  clear hpv
  repeat' (first | refine gA (And.intro @hia @hld) ?_ | (refine gB (And.intro @hia @hld) ?_;intro bb hbb;cases bb<;>(try simp only [hbs,if_false,reduceCtorEq] at hbb)) | fail)
  ·exfalso;omega
  have hNR1:=hNR.keep (s':=(s2.new (.cells .mut [.int .i64 0, .int .i64 0])).put s2.n (.cells .mut [.int .i64 (p.1:Int), .int .i64 (p.2:Int)])) (by simp) fun id hid=>by rw [St.get_put,if_neg (by omega),St.get_new,if_neg (by omega)]
  have ha9:((s2.new (.cells .mut [.int .i64 0, .int .i64 0])).put s2.n (.cells .mut [.int .i64 (p.1:Int), .int .i64 (p.2:Int)])).get s2.n=some (.cells .mut [.int .i64 (p.1:Int), .int .i64 (p.2:Int)]):=by rw [St.get_put,if_pos rfl]
  have hold3:∀ id,id<j7→((s2.new (.cells .mut [.int .i64 0, .int .i64 0])).put s2.n (.cells .mut [.int .i64 (p.1:Int), .int .i64 (p.2:Int)])).get id=s1.get id:=fun id hid=>by rw [St.get_put,if_neg (by omega),St.get_new,if_neg (by omega)];exact hold2 id hid
  have hu9:∀ x,x<n→¬ uses (rv.getD x .top) s2.n:=fun x hx hu=>by have:=(hNR.row x hx).lt hu;omega
  have hn9:((s2.new (.cells .mut [.int .i64 0, .int .i64 0])).put s2.n (.cells .mut [.int .i64 (p.1:Int), .int .i64 (p.2:Int)])).n=s2.n+1:=rfl
  generalize (s2.new (.cells .mut [.int .i64 0, .int .i64 0])).put s2.n (.cells .mut [.int .i64 (p.1:Int), .int .i64 (p.2:Int)])=s3 at hNR1 ha9 hold3 hn9 ⊢
  obtain ⟨a9,hae⟩:∃ a9,s2.n=a9:=⟨_,rfl⟩
  rw [hae] at ha9 hu9 hn9 hjn
  refine w_gen (fun e s'=>s'=s3∧e.at 2 = .pimm [.int .i64 B.L,sv,nv,lv, .int .i64 (bk:Int)] 0∧e.at 3 = .pref s.n 0∧e.at 4 = .pref (s.n+1) 0∧e.at 5 = .pref (s.n+1+1) 0∧e.at 6 = .bool false∧e.at 7 = .sref j7 0 n 1∧e.at 22=pv∧e.at 23 = .int .i64 (n:Int)∧e.at 24 = .int .i64 (i:Int)∧e.at 8 = .int .i64 (i:Int)∧e.at 9 = .pref a9 0∧e.at 29 = .agg [.int .i64 B.L,sv,nv,lv, .int .i64 (bk:Int)]∧e.at 30 = .agg [.int .i64 (p.1:Int), .int .i64 (p.2:Int)]) ?_ ?_
  ·exact ⟨rfl,ef,ef,ef,ef,ef,ef,ef,ef,ef,ef,ef,ef,ef⟩
  clear e2 e3 e4 e5 e6 e7 e22 e23 e24 hia hld hpg' hNR g3' gM' hold2 hbb
  clear e
  rintro e s' ⟨rfl,e2,e3,e4,e5,e6,e7,e22,e23,e24,e8,e9,e29,e30⟩
  refine q_pureEx hG0 (hmv hpin) wN (by simp only [List.map,lk,sv1,sv2,sv3,Nat.reduceEqDiff,Nat.reduceAdd,Nat.reduceLeDiff,reduceIte,if_false,if_true,mkVal,unLV,List.map,optTmps,e29,e30];rfl) (fun mv hmvs hmc=>⟨trivial,?_⟩)
  simp only [Env.put_some]
  have hml:=hmvs.sl.len
  have hmlen:=hmvs.len
  have hmx:maxLen=9223372036854775807:=by decide
  have hmsl:=bms_len hok hlet hpin
  generalize hms:bms B ls p=ms at *
  have hgp:ps.getD i (0,0)=p:=by rw [List.getD_eq_getElem?_getD,hp];rfl
  have hnxr:nxr B ls bk ps i=ms.map fun m=>(idx ((tkOf B ls bk).after p (nat2 m)) ps 0).getD 0:=by simp only [nxr,hgp,hms]
  have hidx:∀ (j:Nat) (m:Int × Bool),ms[j]? = some m→∃ u,idx ((tkOf B ls bk).after p (nat2 m)) ps 0=some u∧u<n:=fun j m hm1=>by
   have hmem:(tkOf B ls bk).after p (nat2 m)∈ps:=hclo hp _ (by rw [succ_eq,hms];exact List.mem_map_of_mem (List.mem_of_getElem? hm1))
   cases hx:idx ((tkOf B ls bk).after p (nat2 m)) ps 0 with
   | none=>exact absurd hmem (idx_none.1 hx)
   | some u=>
    have:=(idx_some hx).2
    have:=(List.getElem?_eq_some_iff.1 this).1
    exact ⟨u,rfl,by omega⟩
  repeat' (first | refine gA @hml ?_ | (refine gB @hml ?_;intro bb hbb;cases bb<;>(try simp only [hbs,if_false,reduceCtorEq] at hbb)) | fail)
  refine qc_loop (fun m e s'=>∃ (j:Nat) (rv:List LV),m=ms.length - j∧j≤ms.length∧NR (j7+1) s' j7 n (fun x=>if x<i then nxr B ls bk ps x else if x=i then (nxr B ls bk ps i).take j else []) rv∧a9<s'.n∧(∀ id,id<j7→s'.get id=s1.get id)∧s'.get a9=some (.cells .mut [.int .i64 (p.1:Int), .int .i64 (p.2:Int)])∧(∀ x,x<n→¬ uses (rv.getD x .top) a9)∧e.at 2 = .pimm [.int .i64 B.L,sv,nv,lv, .int .i64 (bk:Int)] 0∧e.at 3 = .pref s.n 0∧e.at 4 = .pref (s.n+1) 0∧e.at 5 = .pref (s.n+1+1) 0∧e.at 6 = .bool false∧e.at 7 = .sref j7 0 n 1∧e.at 22=pv∧e.at 23 = .int .i64 (n:Int)∧e.at 24 = .int .i64 (i:Int)∧e.at 8 = .int .i64 (i:Int)∧e.at 9 = .pref a9 0∧e.at 31=mv∧e.at 32 = .int .i64 (ms.length:Int)∧e.at 33 = .int .i64 (j:Int)) _
   ⟨0,rv,rfl,by omega,hNR1.congr (fun x _=>by simp),by omega,hold3,ha9,hu9,ef,ef,ef,ef,ef,ef,ef,ef,ef,ef,ef,ef,ef,by simp only [lk,sv1,sv2,sv3,Nat.reduceEqDiff,Nat.reduceAdd,Nat.reduceLeDiff,reduceIte,if_false,if_true,mkVal,unLV,List.map,optTmps];rfl⟩ ?_
  clear hNR1 ha9 hold3 hu9 hn9 e2 e3 e4 e5 e6 e7 e22 e23 e24 e8 e9 e29 e30
  clear rv e s'
  rintro m e s3 ⟨j,rv,rfl,hj,hNR,ha9n,hold3,ha9,hu9,e2,e3,e4,e5,e6,e7,e22,e23,e24,e8,e9,e31,e32,e33⟩
  by_cases hjl:j<ms.length
  ·obtain ⟨mm,hmm⟩:∃ mm,ms[j]? = some mm:=⟨_,List.getElem?_eq_getElem hjl⟩
   have hgd:ms.getD j (0,false)=mm:=by rw [List.getD_eq_getElem?_getD,hmm];rfl
   have hjI:(j:Int)<(ms.length:Int):=by omega
   have hld:=fun s=>loadN_moves (s:=s) hjl
   rw [hgd] at hld
   have hw':IntKind.i64.wrap ((j:Int)+1)=((j+1:Nat):Int):=by rw [wrap_i64 _ (by omega) (by omega)];rfl
   have hne7:¬ j7=s3.n:=by have:=hNR.lt;omega
   have hne9:¬ a9=s3.n:=by omega
   have hnes:¬ s.n=s3.n:=by omega
   have hg7:=hNR.g
   have hgr:rv[i]? = some (rv.getD i .top):=by
    have:i<rv.length:=by rw [hNR.len];exact hil
    simp [List.getD_eq_getElem?_getD,this]
   have g3':s3.get s.n=some (.cells .mut [.mref M,pv,bv]):=by rw [hold3 _ (by omega)];exact g3
   repeat' (first | refine gA (And.intro (@iaN _ _ _ hmvs.sl) (And.intro @hld (And.intro @iaS @hgr))) ?_ | (refine gB (And.intro (@iaN _ _ _ hmvs.sl) (And.intro @hld (And.intro @iaS @hgr))) ?_;intro bb hbb;cases bb<;>(try simp only [hbs,if_false,reduceCtorEq] at hbb)) | fail)
   ·exfalso;omega
   obtain ⟨u,hu1,hu2⟩:=hidx j mm hmm
   have hs4:∀ id,id<s3.n→((s3.new (.cells .mut [.int .i64 0, .bool false])).put s3.n (.cells .mut [.int .i64 mm.1, .bool mm.2])).get id=s3.get id:=fun id hid=>by rw [St.get_put,if_neg (by omega),St.get_new,if_neg (by omega)]
   have hb4:((s3.new (.cells .mut [.int .i64 0, .bool false])).put s3.n (.cells .mut [.int .i64 mm.1, .bool mm.2])).get s3.n=some (.cells .mut [.int .i64 mm.1, .bool mm.2]):=by rw [St.get_put,if_pos rfl]
   have hn4:((s3.new (.cells .mut [.int .i64 0, .bool false])).put s3.n (.cells .mut [.int .i64 mm.1, .bool mm.2])).n=s3.n+1:=rfl
   have hlt3:=hNR.lt
   generalize (s3.new (.cells .mut [.int .i64 0, .bool false])).put s3.n (.cells .mut [.int .i64 mm.1, .bool mm.2])=s4 at hs4 hb4 hn4 ⊢
   have h47:s4.get j7=some (.cells .mut rv):=by rw [hs4 _ hlt3];exact hg7
   have h4s:s4.get s.n=some (.cells .mut [.mref M,pv,bv]):=by rw [hs4 _ (by omega)];exact g3'
   have h4M:s4.get M=some (.map (pent ps 0)):=by rw [hs4 _ (by omega),hold3 _ (by omega),hold1 _ hM];exact hgM
   have h49:s4.get a9=some (.cells .mut [.int .i64 (p.1:Int), .int .i64 (p.2:Int)]):=by rw [hs4 _ ha9n];exact ha9
   have hfind:mfind PK (.agg (pcell ((tkOf B ls bk).after p (mm.1.toNat,mm.2)))) (pent ps 0) 0=some (some (u, .int .i64 (u:Int))):=by
    rw [pfind]
    have:idx ((tkOf B ls bk).after p (mm.1.toNat,mm.2)) ps 0=some u:=hu1
    rw [this];rfl
   refine q_pure hG0 (haf hpin.1 mm mm.1.toNat (move_nat (ls:=ls) hok hlet hpin (by rw [hms];exact hmm)).1) wN (by simp only [List.map,lk,sv1,sv2,sv3,Nat.reduceEqDiff,Nat.reduceAdd,Nat.reduceLeDiff,reduceIte,if_false,if_true,mkVal,unLV,List.map,optTmps];rfl) ⟨.inr ⟨rfl,by simp only [LOp.run,lk,sv1,sv2,sv3,Nat.reduceEqDiff,Nat.reduceAdd,Nat.reduceLeDiff,reduceIte,if_false,if_true,mkVal,unLV,List.map,optTmps,Env.put_some,h47,hgr,Option.bind_eq_bind]⟩, .inr ⟨rfl,by simp only [LOp.run,lk,sv1,sv2,sv3,Nat.reduceEqDiff,Nat.reduceAdd,Nat.reduceLeDiff,reduceIte,if_false,if_true,mkVal,unLV,List.map,optTmps,Env.put_some,h4s,Option.bind_eq_bind]⟩,trivial⟩ ?_
   simp only [Env.put_some]
   refine q_gen (v:=.int .i64 (u:Int)) (s':=s4) wN (run_mlook1 (M:=M) (kv:=.agg (pcell ((tkOf B ls bk).after p (mm.1.toNat,mm.2)))) ef ef rfl h4M hfind) rfl trivial ?_
   simp only [Env.put_some]
   have hlen:(nxr B ls bk ps i).length=ms.length:=by rw [hnxr];simp
   have hgu:(nxr B ls bk ps i)[j]? = some u:=by rw [hnxr,List.getElem?_map,hmm,Option.map_some,hu1];rfl
   have htl:((nxr B ls bk ps i).take j).length=j:=by rw [List.length_take,hlen];omega
   have hNR4:=hNR.keep (s':=s4) (by omega) hs4
   have hrow4:=hNR4.row i hil
   simp only [Nat.lt_irrefl,if_false,if_true,htl] at hrow4
   have h5:∀ id,id<s4.n→(s4.new (.cells .mut [.int .i64 (u:Int)])).get id=s4.get id:=fun id hid=>by rw [St.get_new,if_neg (by omega)]
   have f47:(s4.new (.cells .mut [.int .i64 (u:Int)])).get j7=some (.cells .mut rv):=by rw [h5 _ (by omega)];exact h47
   have f4s:(s4.new (.cells .mut [.int .i64 (u:Int)])).get s.n=some (.cells .mut [.mref M,pv,bv]):=by rw [h5 _ (by omega)];exact h4s
   have f4M:(s4.new (.cells .mut [.int .i64 (u:Int)])).get M=some (.map (pent ps 0)):=by rw [h5 _ (by omega)];exact h4M
   have f49:(s4.new (.cells .mut [.int .i64 (u:Int)])).get a9=some (.cells .mut [.int .i64 (p.1:Int), .int .i64 (p.2:Int)]):=by rw [h5 _ (by omega)];exact h49
   have f4b:(s4.new (.cells .mut [.int .i64 (u:Int)])).get s3.n=some (.cells .mut [.int .i64 mm.1, .bool mm.2]):=by rw [h5 _ (by omega)];exact hb4
   have hw2:∀ a b:LV,(if (0:Nat)+2≤[a,b].length then some (LV.agg ((List.drop 0 [a,b]).take 2)) else none)=some (.agg [a,b]):=fun a b=>rfl
   refine q_appK (n:=j) (esz:=1) (xv:=.int .i64 (u:Int)) (yv:=rv.getD i .top) (vs:=[.int .i64 (u:Int)]) ef rfl rfl rfl rfl ef hrow4 ⟨.inr ⟨rfl,by simp only [LOp.run,lk,sv1,sv2,sv3,Nat.reduceEqDiff,Nat.reduceAdd,Nat.reduceLeDiff,reduceIte,if_false,if_true,mkVal,unLV,List.map,optTmps,f47,hgr,Option.bind_eq_bind]⟩, .inr ⟨rfl,by simp only [LOp.run,lk,sv1,sv2,sv3,Nat.reduceEqDiff,Nat.reduceAdd,Nat.reduceLeDiff,reduceIte,if_false,if_true,mkVal,unLV,List.map,optTmps,f4s,Option.bind_eq_bind]⟩, .inr ⟨rfl,by simp only [LOp.run,lk,sv1,sv2,sv3,Nat.reduceEqDiff,Nat.reduceAdd,Nat.reduceLeDiff,reduceIte,if_false,if_true,mkVal,unLV,List.map,optTmps,e2,Option.bind_eq_bind]⟩, .inr ⟨rfl,by simp only [LOp.run,lk,sv1,sv2,sv3,Nat.reduceEqDiff,Nat.reduceAdd,Nat.reduceLeDiff,reduceIte,if_false,if_true,mkVal,unLV,List.map,optTmps,e9,f49,Option.bind_eq_bind]⟩, .inr ⟨rfl,by simp only [LOp.run,lk,sv1,sv2,sv3,Nat.reduceEqDiff,Nat.reduceAdd,Nat.reduceLeDiff,reduceIte,if_false,if_true,mkVal,unLV,List.map,optTmps,f4b,Option.bind_eq_bind]⟩, .inr ⟨rfl,run_mlook1 (M:=M) (kv:=.agg (pcell ((tkOf B ls bk).after p (mm.1.toNat,mm.2)))) ef ef rfl f4M hfind⟩,trivial⟩ (by decide) (by omega) (fun s5 j5 a1 a2 a3 a4=>?_)
   have h57:s5.get j7=some (.cells .mut rv):=by rw [a4 j7 (by omega) fun hu=>(hNR4.low i hil _ hu).2 rfl];exact h47
   repeat' (first | refine gA @iaS ?_ | (refine gB @iaS ?_;intro bb hbb;cases bb<;>(try simp only [hbs,if_false,reduceCtorEq] at hbb)) | fail)
   refine q_storeG (i:=j7) (o:=i) (n:=1) (cs:=rv) (vs:=[.sref j5 0 (j+1) 1]) (cs':=rv.set i (.sref j5 0 (j+1) 1)) (v:=.sref j5 0 (j+1) 1) ef ef rfl h57 rfl (by rw [hNR.len];omega) rfl ?_
   repeat' (first | refine gA trivial ?_ | (refine gB trivial ?_;intro bb hbb;cases bb<;>(try simp only [hbs,if_false,reduceCtorEq] at hbb)) | fail)
   have hr1:(nxr B ls bk ps i).take (j+1)=(nxr B ls bk ps i).take j++[u]:=take_snoc hgu
   have hrl1:((nxr B ls bk ps i).take (j+1)).length=j+1:=by rw [List.length_take,hlen];omega
   have hj5:j5<s5.n:=a2.lt (uses_sref.2 rfl)
   have hput:=hNR4.put (s2:=s5) (s3:=s5.put j7 (.cells .mut (rv.set i (.sref j5 0 (j+1) 1)))) (i:=i) (j:=j5) (r:=(nxr B ls bk ps i).take (j+1)) (by omega) (by omega) hil a1 (by rw [hrl1,hr1,nints_append];exact a2) a3 a4 rfl (by rw [hrl1,St.get_put,if_pos rfl]) (fun id hid=>by rw [St.get_put,if_neg hid])
   rw [hrl1] at hput
   have hrvl:=hNR.len
   refine ⟨ms.length - (j+1),by omega,j+1,_,rfl,by omega,hput.congr (fun x hx=>?_),by rw [St.n_put];omega,fun id hid=>?_,?_,fun x hx hu=>?_,?_⟩
   ·by_cases h1:x=i
    ·subst h1;simp
    ·by_cases h2:x<i
     ·simp [h1,h2]
     ·simp [h1,h2]
   ·rw [St.get_put,if_neg (by omega),a4 id (by omega) fun hu=>by have:=(hNR4.low i hil _ hu).1;omega,hs4 _ (by omega)]
    exact hold3 id hid
   ·have ha97:¬ a9=j7:=fun e=>by
     rw [e] at ha9
     rw [hg7] at ha9
     cases ha9
     have hx0:=hNR.row i hil
     have hl2:([LV.int .i64 (p.1:Int), .int .i64 (p.2:Int)]:List LV).length=n:=hNR.len
     have hxx:i=0∨i=1:=by
      have:(2:Nat)=n:=hl2
      omega
     rcases hxx with rfl | rfl
     ·obtain ⟨_,⟨h,_⟩ | ⟨_,h,_⟩⟩:=hx0<;>cases h
     ·obtain ⟨_,⟨h,_⟩ | ⟨_,h,_⟩⟩:=hx0<;>cases h
    rw [St.get_put,if_neg ha97,a4 a9 (by omega) (hu9 i hil)]
    exact h49
   ·rw [getD_set (by omega)] at hu
    by_cases h1:x=i
    ·rw [if_pos h1] at hu
     have:=uses_sref.1 hu
     omega
    ·rw [if_neg h1] at hu
     exact hu9 x hx hu
   ·simp only [lk,sv1,sv2,sv3,Nat.reduceEqDiff,Nat.reduceAdd,Nat.reduceLeDiff,reduceIte,if_false,if_true,mkVal,unLV,List.map,optTmps,hw',e2,e3,e4,e5,e6,e7,e8,e9,e22,e23,e24,e31,e32,and_self]
  ·have hj':j=ms.length:=by omega
   subst hj'
   repeat' (first | refine gA trivial ?_ | (refine gB trivial ?_;intro bb hbb;cases bb<;>(try simp only [hbs,if_false,reduceCtorEq] at hbb)) | fail)
   ·refine ⟨n - (i+1),by omega,i+1,rv,rfl,by omega,hNR.congr (fun x hx=>?_),by have:=hNR.lt;omega,hold3,?_⟩
    ·by_cases h1:x<i
     ·rw [if_pos (by omega),if_pos h1]
     ·by_cases h2:x=i
      ·subst h2
       rw [if_pos (by omega),if_neg h1,if_pos rfl,List.take_of_length_le (by rw [hnxr];simp)]
      ·rw [if_neg (by omega),if_neg h1,if_neg h2]
    ·simp only [lk,sv1,sv2,sv3,Nat.reduceEqDiff,Nat.reduceAdd,Nat.reduceLeDiff,reduceIte,if_false,if_true,mkVal,unLV,List.map,optTmps,hw,e2,e3,e4,e5,e6,e7,e22,e23,and_self]
   ·exfalso;omega
 · -- all rows are there
  have hi':i=n:=by omega
  subst hi'
  obtain ⟨rows,hrows⟩:∃ rows,rows=(List.range i).map (nxr B ls bk ps):=⟨_,rfl⟩
  have hrl:rows.length=i:=by rw [hrows];simp
  have hrg:∀ x,x<i→rows.getD x []=nxr B ls bk ps x:=fun x hx=>by rw [hrows];simp [List.getD_eq_getElem?_getD,hx]
  have hnl6:∀ x,x<i→(nxr B ls bk ps x).length≤6000∧∀ y∈nxr B ls bk ps x,y<i:=fun x hx=>by
   obtain ⟨p,hp⟩:∃ p,ps[x]? = some p:=⟨_,List.getElem?_eq_getElem (by omega)⟩
   have hgp:ps.getD x (0,0)=p:=by rw [List.getD_eq_getElem?_getD,hp];rfl
   refine ⟨by simp only [nxr,List.length_map,hgp];exact bms_len hok hlet (hpsin hp),fun y hy=>?_⟩
   simp only [nxr,hgp] at hy
   obtain ⟨m,hm1,rfl⟩:=List.mem_map.1 hy
   have hmem:(tkOf B ls bk).after p (nat2 m)∈ps:=hclo hp _ (by rw [succ_eq];exact List.mem_map_of_mem hm1)
   cases hx:idx ((tkOf B ls bk).after p (nat2 m)) ps 0 with
   | none=>exact absurd hmem (idx_none.1 hx)
   | some u=>
    have:=(idx_some hx).2
    have:=(List.getElem?_eq_some_iff.1 this).1
    simp only [Option.getD_some]
    omega
  repeat' (first | refine gA trivial ?_ | (refine gB trivial ?_;intro bb hbb;cases bb<;>(try simp only [hbs,if_false,reduceCtorEq] at hbb)) | fail)
  rotate_left
  ·exfalso;omega
  obtain ⟨vs',s3,hfz,hIs,hg7,hn3,hs3⟩:=frz_tbl (rv:=rv) (rows:=rows) hNR.g (by rw [hNR.len,hrl]) (by omega) (fun x hx=>by
   rw [hrl] at hx
   rw [hrg x hx]
   refine ⟨?_,by have:=(hnl6 x hx).1;omega,fun y hy=>by have:=(hnl6 x hx).2 y hy;omega⟩
   have h0:=hNR.row x hx
   simp only [hx,if_true] at h0
   obtain ⟨_,⟨h1,h2⟩ | ⟨j,h1,_,_,h2⟩⟩:=h0
   ·exact .inl ⟨h1,List.length_eq_zero_iff.1 h2⟩
   ·exact .inr ⟨j, .mut,h1,h2⟩) (fun x y hx hy hne id hu=>hNR.dj x y (by omega) (by omega) hne id hu)
  rw [hrl] at hfz hIs hs3
  have hrz:∀ x,x<i→(rows.map zints).getD x []=zints (nxr B ls bk ps x):=fun x hx=>by
   rw [← hrg x hx]
   have:x<rows.length:=by omega
   simp [List.getD_eq_getElem?_getD,this]
  have hpt:=parts_ok hIs (by simp;omega) (fun x hx k hk=>by
   have hx':x<i:=by simpa [hrl] using hx
   rw [hrz x hx'] at hk ⊢
   have hk':k<(nxr B ls bk ps x).length:=by simpa using hk
   have:(zints (nxr B ls bk ps x)).getD k 0=((nxr B ls bk ps x).getD k 0:Int):=by simp [zints,List.getD_eq_getElem?_getD,hk']
   rw [this]
   have hlt:=(hnl6 x hx').2 _ (getD_mem (d:=0) hk')
   simp only [List.length_map,hrl]
   omega)
  refine q_call wN rfl (by simp only [List.map,lk,sv1,sv2,sv3,Nat.reduceEqDiff,Nat.reduceAdd,Nat.reduceLeDiff,reduceIte,if_false,if_true,mkVal,unLV,List.map,optTmps,e7]) (call_frz hfz (pure_callEx hG0 hpt fun r hr hrc=>⟨trivial,?_⟩))
  simp only [Env.put_some]
  obtain ⟨pt,hpi,hpe⟩:=hr
  simp only [List.length_map,hrl] at hpi hpe
  have hnx:∀ x,x<i→nxf (rows.map zints) x=nxr B ls bk ps x:=fun x hx=>by
   simp only [nxf,hrz x hx,zints,List.map_map]
   exact List.map_id'' (fun _=>rfl) _
  have hwalk:∀ (x:Nat) (q:Pl),ps[x]? = some q→(nxf (rows.map zints) x).map (fun j=>ps[j]?)=((tkOf B ls bk).succ q).map some:=fun x q hq=>by
   have hx:x<i:=by have:=(List.getElem?_eq_some_iff.1 hq).1;omega
   have hgq:ps.getD x (0,0)=q:=by rw [List.getD_eq_getElem?_getD,hq];rfl
   rw [hnx x hx,succ_eq]
   simp only [nxr,hgq,List.map_map]
   refine List.map_congr_left fun m hm1=>?_
   have hmem:(tkOf B ls bk).after q (nat2 m)∈ps:=hclo hq _ (by rw [succ_eq];exact List.mem_map_of_mem hm1)
   simp only [Function.comp]
   cases hxx:idx ((tkOf B ls bk).after q (nat2 m)) ps 0 with
   | none=>exact absurd hmem (idx_none.1 hxx)
   | some u=>
    have:=(idx_some hxx).2
    simpa using this
  have hhit:∀ (x k:Nat) (q:Pl) (m:Int × Bool),ps[x]? = some q→(bms B ls q)[k]? = some m→∃ u,(nxr B ls bk ps x)[k]? = some u∧u<i∧(pt u=pt x↔∃ a,Walk (tkOf B ls bk).E a ((tkOf B ls bk).after q (nat2 m)) q):=fun x k q m hq hk=>by
   have hx:x<i:=by have:=(List.getElem?_eq_some_iff.1 hq).1;omega
   have hgq:ps.getD x (0,0)=q:=by rw [List.getD_eq_getElem?_getD,hq];rfl
   have hmem:(tkOf B ls bk).after q (nat2 m)∈ps:=hclo hq _ (by rw [succ_eq];exact List.mem_map_of_mem (List.mem_of_getElem? hk))
   cases hxx:idx ((tkOf B ls bk).after q (nat2 m)) ps 0 with
   | none=>exact absurd hmem (idx_none.1 hxx)
   | some u=>
    have hu:=(idx_some hxx).2
    rw [Nat.sub_zero] at hu
    have hui:u<i:=by have:=(List.getElem?_eq_some_iff.1 hu).1;omega
    have hnu:(nxr B ls bk ps x)[k]? = some u:=by
     simp only [nxr,hgq,List.getElem?_map,hk,Option.map_some,hxx,Option.getD_some]
    refine ⟨u,hnu,hui,?_⟩
    rw [hpe u x hui hx,rch_iff hnd hwalk hu hq]
    exact ⟨fun h=>h.1,fun h=>⟨h, .one (by rw [hnx x hx];exact List.mem_of_getElem? hnu)⟩⟩
  have hold3:∀ id,id<j7→s3.get id=s1.get id:=fun id hid=>by
   rw [hs3 id (by omega) fun x hx hu=>by have:=(hNR.low x hx _ hu).1;omega]
   exact hold2 id hid
  have hj3:j7<s3.n:=by rw [hn3];exact hNR.lt
  have g3'':s3.get s.n=some (.cells .mut [.mref M,pv,bv]):=by rw [hold3 _ (by omega)];exact g3
  repeat' (first | refine gA @hpl ?_ | (refine gB @hpl ?_;intro bb hbb;cases bb<;>(try simp only [hbs,if_false,reduceCtorEq] at hbb)) | fail)
  refine qc_loop (fun m e s'=>∃ x:Nat,m=i - x∧x≤i∧(∀ (i' k':Nat) (x':Pl) (m':Int × Bool),i'<x→ps[i']? = some x'→(bms B ls x')[k']? = some m'→¬ Hit (tkOf B ls bk) x' m')∧j7<s'.n∧s'.get j7=some (.cells .app vs')∧(∀ id,id<j7→s'.get id=s1.get id)∧e.at 2 = .pimm [.int .i64 B.L,sv,nv,lv, .int .i64 (bk:Int)] 0∧e.at 3 = .pref s.n 0∧e.at 4 = .pref (s.n+1) 0∧e.at 5 = .pref (s.n+1+1) 0∧e.at 6 = .bool false∧e.at 7 = .sref j7 0 i 1∧e.at 12=r∧e.at 58=pv∧e.at 59 = .int .i64 (i:Int)∧e.at 60 = .int .i64 (x:Int)) _
   ⟨0,rfl,by omega,fun i' k' x' m' h=>absurd h (Nat.not_lt_zero _),hj3,hg7,hold3,ef,ef,ef,ef,ef,ef,ef,ef,ef,by simp only [lk,sv1,sv2,sv3,Nat.reduceEqDiff,Nat.reduceAdd,Nat.reduceLeDiff,reduceIte,if_false,if_true,mkVal,unLV,List.map,optTmps];rfl⟩ ?_
  clear hNR hold2 g3' gM' hg7 hn3 hs3 hold3 hj3 g3'' hfz e2 e3 e4 e5 e6 e7 e22 e23 e24
  clear hil hbb hjn
  clear s3 s2 e rv
  rintro m e s2 ⟨x,rfl,hx,hno,hjn,hg7,hold2,e2,e3,e4,e5,e6,e7,e12,e58,e59,e60⟩
  have hne12:¬ s.n+1+1=s.n+1:=by omega
  have g4':s2.get (s.n+1)=some (.cells .mut [.int .i64 0, .int .i64 0]):=by rw [hold2 _ (by omega)];exact g4
  have g5':s2.get (s.n+1+1)=some (.cells .mut [.int .i64 0, .int .i64 0]):=by rw [hold2 _ (by omega)];exact g5
  by_cases hxl:x<i
  ·obtain ⟨p,hp⟩:∃ p,ps[x]? = some p:=⟨_,List.getElem?_eq_getElem (by omega)⟩
   have hpin:=hpsin hp
   obtain ⟨pid,hpv,hpid,hpg⟩:=hspx.pos (by omega)
   have hpg':s2.get pid=some (.cells .mut (pcells ps)):=by rw [hold2 _ (by omega),hold1 _ hpid];exact hpg
   have hxI:(x:Int)<(i:Int):=by omega
   have hia:iaLV 2 pv (.int .i64 (x:Int)) s2=some (.pref pid (x*2),s2):=by
    rw [hpv,iaS hxI,Nat.zero_add]
   have hld:=loadN_plsR hp hpg'
   have hw:IntKind.i64.wrap ((x:Int)+1)=((x+1:Nat):Int):=by rw [wrap_i64 _ (by omega) (by omega)];rfl
   clear hpv
   repeat' (first | refine gA (And.intro @hia @hld) ?_ | (refine gB (And.intro @hia @hld) ?_;intro bb hbb;cases bb<;>(try simp only [hbs,if_false,reduceCtorEq] at hbb)) | fail)
   ·exfalso;omega
   have hs3:∀ id,id<s2.n→((s2.new (.cells .mut [.int .i64 0, .int .i64 0])).put s2.n (.cells .mut [.int .i64 (p.1:Int), .int .i64 (p.2:Int)])).get id=s2.get id:=fun id hid=>by rw [St.get_put,if_neg (by omega),St.get_new,if_neg (by omega)]
   have ha9:((s2.new (.cells .mut [.int .i64 0, .int .i64 0])).put s2.n (.cells .mut [.int .i64 (p.1:Int), .int .i64 (p.2:Int)])).get s2.n=some (.cells .mut [.int .i64 (p.1:Int), .int .i64 (p.2:Int)]):=by rw [St.get_put,if_pos rfl]
   have hn9:((s2.new (.cells .mut [.int .i64 0, .int .i64 0])).put s2.n (.cells .mut [.int .i64 (p.1:Int), .int .i64 (p.2:Int)])).n=s2.n+1:=rfl
   generalize (s2.new (.cells .mut [.int .i64 0, .int .i64 0])).put s2.n (.cells .mut [.int .i64 (p.1:Int), .int .i64 (p.2:Int)])=s3 at hs3 ha9 hn9 ⊢
   obtain ⟨a9,hae⟩:∃ a9,s2.n=a9:=⟨_,rfl⟩
   have hg73:s3.get j7=some (.cells .app vs'):=by rw [hs3 _ hjn];exact hg7
   have hold3:∀ id,id<j7→s3.get id=s1.get id:=fun id hid=>by rw [hs3 _ (by omega)];exact hold2 id hid
   rw [hae] at ha9 hn9 hjn
   refine q_pureEx hG0 (hmv hpin) wN (by simp only [List.map,lk,sv1,sv2,sv3,Nat.reduceEqDiff,Nat.reduceAdd,Nat.reduceLeDiff,reduceIte,if_false,if_true,mkVal,unLV,List.map,optTmps];rfl) (fun mv hmvs hmc=>⟨trivial,?_⟩)
   simp only [Env.put_some]
   have hml:=hmvs.sl.len
   have hmsl:=bms_len hok hlet hpin
   generalize hms:bms B ls p=ms at *
   repeat' (first | refine gA @hml ?_ | (refine gB @hml ?_;intro bb hbb;cases bb<;>(try simp only [hbs,if_false,reduceCtorEq] at hbb)) | fail)
   refine qc_loop (fun m e s'=>∃ k:Nat,m=ms.length - k∧k≤ms.length∧(∀ k' m',k'<k→ms[k']? = some m'→¬ Hit (tkOf B ls bk) p m')∧a9<s'.n∧s'.get j7=some (.cells .app vs')∧(∀ id,id<j7→s'.get id=s1.get id)∧s'.get a9=some (.cells .mut [.int .i64 (p.1:Int), .int .i64 (p.2:Int)])∧e.at 2 = .pimm [.int .i64 B.L,sv,nv,lv, .int .i64 (bk:Int)] 0∧e.at 3 = .pref s.n 0∧e.at 4 = .pref (s.n+1) 0∧e.at 5 = .pref (s.n+1+1) 0∧e.at 6 = .bool false∧e.at 7 = .sref j7 0 i 1∧e.at 12=r∧e.at 58=pv∧e.at 59 = .int .i64 (i:Int)∧e.at 60 = .int .i64 (x:Int)∧e.at 13 = .int .i64 (x:Int)∧e.at 14 = .pref a9 0∧e.at 67=mv∧e.at 68 = .int .i64 (ms.length:Int)∧e.at 69 = .int .i64 (k:Int)) _
    ⟨0,rfl,by omega,fun k' m' h=>absurd h (Nat.not_lt_zero _),by omega,hg73,hold3,ha9,ef,ef,ef,ef,ef,ef,ef,ef,ef,ef,ef,ef,ef,ef,by simp only [lk,sv1,sv2,sv3,Nat.reduceEqDiff,Nat.reduceAdd,Nat.reduceLeDiff,reduceIte,if_false,if_true,mkVal,unLV,List.map,optTmps];rfl⟩ ?_
   clear hs3 ha9 hn9 hg73 hold3 hae hg7 hold2 hia hld hpg' g4' g5' hbb e2 e3 e4 e5 e6 e7 e12 e58 e59 e60
   clear s3 e s2
   rintro m e s3 ⟨k,rfl,hk,hnk,ha9n,hg7,hold3,ha9,e2,e3,e4,e5,e6,e7,e12,e58,e59,e60,e13,e14,e67,e68,e69⟩
   have g4':s3.get (s.n+1)=some (.cells .mut [.int .i64 0, .int .i64 0]):=by rw [hold3 _ (by omega)];exact g4
   have g5':s3.get (s.n+1+1)=some (.cells .mut [.int .i64 0, .int .i64 0]):=by rw [hold3 _ (by omega)];exact g5
   by_cases hkl:k<ms.length
   ·obtain ⟨mm,hmm⟩:∃ mm,ms[k]? = some mm:=⟨_,List.getElem?_eq_getElem hkl⟩
    have hgd:ms.getD k (0,false)=mm:=by rw [List.getD_eq_getElem?_getD,hmm];rfl
    have hkI:(k:Int)<(ms.length:Int):=by omega
    have hld:=fun s=>loadN_moves (s:=s) hkl
    rw [hgd] at hld
    have hw':IntKind.i64.wrap ((k:Int)+1)=((k+1:Nat):Int):=by rw [wrap_i64 _ (by omega) (by omega)];rfl
    obtain ⟨u,hu1,hu2,hu3⟩:=hhit x k p mm hp (by rw [hms];exact hmm)
    have hne7:¬ j7=s3.n:=by omega
    have hne9:¬ a9=s3.n:=by omega
    have hn4:¬ s.n+1=s3.n:=by omega
    have hn5:¬ s.n+1+1=s3.n:=by omega
    have hrow:=hIs.row x (by rw [List.length_map,hrl];exact hxl)
    rw [hrz x hxl] at hrow
    have hgv:vs'[x]? = some (vs'.getD x .top):=hIs.getI (by rw [List.length_map,hrl];omega)
    have hkn:k<(nxr B ls bk ps x).length:=(List.getElem?_eq_some_iff.1 hu1).1
    have hiar:∀ s,iaLV 1 (vs'.getD x .top) (.int .i64 (k:Int)) s=some (.pimm (ints (zints (nxr B ls bk ps x))) k,s):=fun s=>by
     have:=iaN (esz:=1) (k:=.i64) (s:=s) hrow.sl (i:=k) (by simp;omega)
     simpa using this
    have hgu:(ints (zints (nxr B ls bk ps x)))[k]? = some (.int .i64 (u:Int)):=by
     rw [zints_get hkn,List.getD_eq_getElem?_getD,hu1];rfl
    have hia1:∀ s,iaLV 1 r (.int .i64 (u:Int)) s=some (.pimm (ints ((List.range i).map fun y=>(pt y:Int))) u,s):=fun s=>by
     have:=iaN (esz:=1) (k:=.i64) (s:=s) hpi.sl (i:=u) (by simp;omega)
     simpa using this
    have hia2:∀ s,iaLV 1 r (.int .i64 (x:Int)) s=some (.pimm (ints ((List.range i).map fun y=>(pt y:Int))) x,s):=fun s=>by
     have:=iaN (esz:=1) (k:=.i64) (s:=s) hpi.sl (i:=x) (by simp;omega)
     simpa using this
    have hgt1:(ints ((List.range i).map fun y=>(pt y:Int)))[u]? = some (.int .i64 (pt u:Int)):=by simp [ints,hu2]
    have hgt2:(ints ((List.range i).map fun y=>(pt y:Int)))[x]? = some (.int .i64 (pt x:Int)):=by simp [ints,hxl]
    obtain ⟨mq,mg⟩:=mm
    have hskip:¬ Hit (tkOf B ls bk) p (mq,mg)→∀ k' m',k'<k+1→ms[k']? = some m'→¬ Hit (tkOf B ls bk) p m':=fun hh k' m' h1 h2=>by
     by_cases h:k'<k
     ·exact hnk k' m' h h2
     ·obtain rfl:k'=k:=by omega
      rw [hmm] at h2;cases h2;exact hh
    cases mg with
    | false=>
     repeat' (first | refine gA (And.intro (@iaN _ _ _ hmvs.sl) @hld) ?_ | (refine gB (And.intro (@iaN _ _ _ hmvs.sl) @hld) ?_;intro bb hbb;cases bb<;>(try simp only [hbs,if_false,reduceCtorEq] at hbb)) | fail)
     ·exfalso;omega
     refine ⟨ms.length - (k+1),by omega,k+1,rfl,by omega,hskip (fun h=>by cases h.1),by simp only [St.n_put,St.n_new];omega,by rw [St.get_put,if_neg hne7,St.get_new,if_neg hne7];exact hg7,fun id hid=>by rw [St.get_put,if_neg (by omega),St.get_new,if_neg (by omega)];exact hold3 id hid,by rw [St.get_put,if_neg hne9,St.get_new,if_neg hne9];exact ha9,?_⟩
     simp only [lk,sv1,sv2,sv3,Nat.reduceEqDiff,Nat.reduceAdd,Nat.reduceLeDiff,reduceIte,if_false,if_true,mkVal,unLV,List.map,optTmps,hw',e2,e3,e4,e5,e6,e7,e12,e58,e59,e60,e13,e14,e67,e68,and_self]
    | true=>
     repeat' (first | refine gA (And.intro (@iaN _ _ _ hmvs.sl) (And.intro @hld (And.intro @iaS (And.intro @hgv (And.intro @hiar (And.intro @hgu (And.intro @hia1 (And.intro @hgt1 (And.intro @hia2 @hgt2))))))))) ?_ | (refine gB (And.intro (@iaN _ _ _ hmvs.sl) (And.intro @hld (And.intro @iaS (And.intro @hgv (And.intro @hiar (And.intro @hgu (And.intro @hia1 (And.intro @hgt1 (And.intro @hia2 @hgt2))))))))) ?_;intro bb hbb;cases bb<;>(try simp only [hbs,if_false,reduceCtorEq] at hbb)) | fail)
     ·exfalso;omega
     ·refine ⟨ms.length - (k+1),by omega,k+1,rfl,by omega,hskip (fun h=>hbb (by rw [hu3.2 h.2])),by simp only [St.n_put,St.n_new];omega,by rw [St.get_put,if_neg hne7,St.get_new,if_neg hne7];exact hg7,fun id hid=>by rw [St.get_put,if_neg (by omega),St.get_new,if_neg (by omega)];exact hold3 id hid,by rw [St.get_put,if_neg hne9,St.get_new,if_neg hne9];exact ha9,?_⟩
      simp only [lk,sv1,sv2,sv3,Nat.reduceEqDiff,Nat.reduceAdd,Nat.reduceLeDiff,reduceIte,if_false,if_true,mkVal,unLV,List.map,optTmps,hw',e2,e3,e4,e5,e6,e7,e12,e58,e59,e60,e13,e14,e67,e68,and_self]
     ·have hpe':pt u=pt x:=by omega
      have hs4:∀ id,id<s3.n→((s3.new (.cells .mut [.int .i64 0, .bool false])).put s3.n (.cells .mut [.int .i64 mq, .bool true])).get id=s3.get id:=fun id hid=>by rw [St.get_put,if_neg (by omega),St.get_new,if_neg (by omega)]
      have hn4':((s3.new (.cells .mut [.int .i64 0, .bool false])).put s3.n (.cells .mut [.int .i64 mq, .bool true])).n=s3.n+1:=rfl
      generalize (s3.new (.cells .mut [.int .i64 0, .bool false])).put s3.n (.cells .mut [.int .i64 mq, .bool true])=s4 at hs4 hn4' ⊢
      have f9:s4.get a9=some (.cells .mut [.int .i64 (p.1:Int), .int .i64 (p.2:Int)]):=by rw [hs4 _ ha9n];exact ha9
      have f4:s4.get (s.n+1)=some (.cells .mut [.int .i64 0, .int .i64 0]):=by rw [hs4 _ (by omega)];exact g4'
      have f5:s4.get (s.n+1+1)=some (.cells .mut [.int .i64 0, .int .i64 0]):=by rw [hs4 _ (by omega)];exact g5'
      refine q_pure hG0 (haf hpin.1 (mq,true) mq.toNat (move_nat (ls:=ls) hok hlet hpin (by rw [hms];exact hmm)).1) wN (by simp only [List.map,lk,sv1,sv2,sv3,Nat.reduceEqDiff,Nat.reduceAdd,Nat.reduceLeDiff,reduceIte,if_false,if_true,mkVal,unLV,List.map,optTmps];rfl) ⟨.inr ⟨rfl,by simp only [LOp.run,lk,sv1,sv2,sv3,Nat.reduceEqDiff,Nat.reduceAdd,Nat.reduceLeDiff,reduceIte,if_false,if_true,mkVal,unLV,List.map,optTmps,Env.put_some,e14,f9,Option.bind_eq_bind]⟩,trivial⟩ ?_
      simp only [Env.put_some]
      refine q_storeG (i:=s.n+1) (o:=0) (n:=2) (cs:=[.int .i64 0, .int .i64 0]) (vs:=pcell p) (cs':=pcell p) (v:=.agg (pcell p)) ef (by simp only [lk,sv1,sv2,sv3,Nat.reduceEqDiff,Nat.reduceAdd,Nat.reduceLeDiff,reduceIte,if_false,if_true,mkVal,unLV,List.map,optTmps];rfl) rfl f4 rfl (by simp) rfl ?_
      refine q_storeG (i:=s.n+1+1) (o:=0) (n:=2) (cs:=[.int .i64 0, .int .i64 0]) (vs:=pcell ((tkOf B ls bk).after p (mq.toNat,true))) (cs':=pcell ((tkOf B ls bk).after p (mq.toNat,true))) (v:=.agg (pcell ((tkOf B ls bk).after p (mq.toNat,true)))) ef ef rfl (by rw [St.get_put,if_neg (by omega)];exact f5) rfl (by simp) rfl ?_
      repeat' (first | refine gA trivial ?_ | (refine gB trivial ?_;intro bb hbb;cases bb<;>(try simp only [hbs,if_false,reduceCtorEq] at hbb)) | fail)
      refine ⟨.inr trivial,p,(tkOf B ls bk).after p (mq.toNat,true),true,ef,ef,ef,by rw [St.get_put,if_neg (by omega),St.get_put,if_pos rfl],by rw [St.get_put,if_pos rfl], .inl ⟨rfl,x,k,(mq,true),hp,by rw [hms];exact hmm,⟨rfl,hu3.1 hpe'⟩,rfl,fun i' k' x' m' h1 h2 h3=>?_⟩,by simp only [St.n_put];omega,fun id hid=>?_⟩
      ·rcases h1 with h1 | ⟨rfl,h1⟩
       ·exact hno i' k' x' m' h1 h2 h3
       ·rw [hp] at h2;cases h2
        rw [hms] at h3
        exact hnk k' m' h1 h3
      ·rw [St.get_put,if_neg (by omega),St.get_put,if_neg (by omega),hs4 _ (by omega),hold3 _ (by omega)]
       exact hold1 id hid
   ·have hk':k=ms.length:=by omega
    subst hk'
    repeat' (first | refine gA trivial ?_ | (refine gB trivial ?_;intro bb hbb;cases bb<;>(try simp only [hbs,if_false,reduceCtorEq] at hbb)) | fail)
    ·refine ⟨i - (x+1),by omega,x+1,rfl,by omega,fun i' k' x' m' h1 h2 h3=>?_,by omega,hg7,hold3,?_⟩
     ·by_cases h:i'<x
      ·exact hno i' k' x' m' h h2 h3
      ·obtain rfl:i'=x:=by omega
       rw [hp] at h2;cases h2
       rw [hms] at h3
       exact hnk k' m' (List.getElem?_eq_some_iff.1 h3).1 h3
     ·simp only [lk,sv1,sv2,sv3,Nat.reduceEqDiff,Nat.reduceAdd,Nat.reduceLeDiff,reduceIte,if_false,if_true,mkVal,unLV,List.map,optTmps,hw,e2,e3,e4,e5,e6,e7,e12,e58,e59,and_self]
    ·exfalso;omega
  ·have hx':x=i:=by omega
   subst hx'
   repeat' (first | refine gA trivial ?_ | (refine gB trivial ?_;intro bb hbb;cases bb<;>(try simp only [hbs,if_false,reduceCtorEq] at hbb)) | fail)
   ·refine q_run0 (v:=.agg [.int .i64 0, .int .i64 0]) (s':=s2) (by simp only [LOp.run,evParts,List.map,fillParts];rfl) ?_
    refine q_run0 (v:=.agg [.int .i64 0, .int .i64 0]) (s':=s2) (by simp only [LOp.run,evParts,List.map,fillParts];rfl) ?_
    repeat' (first | refine gA trivial ?_ | (refine gB trivial ?_;intro bb hbb;cases bb<;>(try simp only [hbs,if_false,reduceCtorEq] at hbb)) | fail)
    refine ⟨.inr trivial,(0,0),(0,0),false,ef,ef,ef,?_,?_, .inr ⟨rfl,rfl,rfl,fun i' k' x' m' h1 h2=>hno i' k' x' m' (by have:=(List.getElem?_eq_some_iff.1 h1).1;omega) h1 h2⟩,by simp only [St.n_put];omega,fun id hid=>?_⟩
    ·simp only [St.get_put];rw [if_neg (by omega),if_pos trivial];rfl
    ·simp only [St.get_put];rw [if_pos trivial];rfl
    ·simp only [St.get_put];rw [if_neg (by omega),if_neg (by omega),hold2 _ (by omega)];exact hold1 id hid
   ·exfalso;omega
end Go.Proofs.YtgobbogomchnhaaGreatDoor
