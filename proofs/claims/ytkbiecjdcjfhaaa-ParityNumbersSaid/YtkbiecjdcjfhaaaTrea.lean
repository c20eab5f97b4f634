/- tree.reached. -/
import Derived.Test.YtkbiecjdcjfhaaaTrch
set_option linter.unusedSimpArgs false
set_option linter.unusedVariables false
namespace Go.Proofs.Ytkbiecjdcjfhaaa
open Go Go.Pv Go.Tre
open Classical
def mrow (m:Int × Bool):List LV:=[.int .i64 m.1, .bool m.2]
theorem mrow_len (m:Int × Bool):(mrow m).length=2:=rfl
theorem mcells_wcl:∀ l:List (Int × Bool),mcells l=wcl mrow l
  | []=>rfl
  | m::l=>by
    have:wcl mrow (m::l)=mrow m++wcl mrow l:=by simp [wcl]
    rw [this,← mcells_wcl l];rfl
theorem rch_snoc (mv:Nat→Mv) (l:List Int) (x:Int) (p:Int × Bool→Bool):rch mv (l++[x]) p=rch mv l p++((mv x.toNat).filter p).map (·.1):=by simp [rch]
set_option maxHeartbeats 16000000 in
theorem reached_ok {bv:LV} {B:Bu} {sv nv setv fv:LV} (hB:IsB bv B sv nv) {set:List Int} (hset:IsInts setv set) {a:Nat} {p:Int × Bool→Bool} (hr:∀ x∈set,0≤x∧x<B.next.length) (hrow:∀ q,q<B.next.length→a<(B.next.getD q []).length) (hlim:∀ q,(mvs B q a).length≤1000000)
    (hp:∀ (m:Int × Bool) (s1:St),CallOk Try.prog GL fv [.agg [.int .i64 m.1, .bool m.2]] s1 (fun r s'=>s'=s1∧r = .bool (p m))) (s:St) :
    CallOk Try.prog GL (.fn (.func 73) [] []) [bv,setv, .int .i64 (a:Int),fv] s (fun r s'=>∃ M,r = .mref M∧s.n≤M∧M<s'.n∧MapS s' M (rch (fun q=>mvs B q a) set p)∧∀ id,id<s.n→s'.get id=s.get id):=by
  have hcl:=hB.closed
  obtain ⟨rfl,hs,hn⟩:=hB
  have hnc:=hn.closed
  have hsc:=hs.closed
  have hsetc:=hset.closed
  obtain ⟨vs,hn'⟩:=hn
  have hsc1:=hs.sl.cell
  have hnc1:=hn'.sl.cell
  have hsl:=hset.sl.len
  have hsm:=hset.len
  have hmx:maxLen=9223372036854775807:=by decide
  refine call_fn (first:=[]) (caps:=[]) Try.func73 (by decide +kernel) c73 (Nat.le_of_ble_eq_true rfl) (CodeOk.mono (Q:=fun o e s'=>(o = .normal∨o = .jmp .ret)∧∃ M,e.at 8 = .mref M∧s.n≤M∧M<s'.n∧MapS s' M (rch (fun q=>mvs B q a) set p)∧∀ id,id<s.n→s'.get id=s.get id) ?_ fun o e s' hh=>by
    obtain ⟨h1,M,h2,h3⟩:=hh
    exact ⟨h1,_,by simp [l73,resVal,resOne,h2],M,rfl,h3⟩)
  have e0:(envOf ([]++[LV.agg [.int .i64 B.L,sv,nv],setv, .int .i64 (a:Int),fv]++[])).at 0 = .agg [.int .i64 B.L,sv,nv]:=by rw [envOf_at];rfl
  have e1:(envOf ([]++[LV.agg [.int .i64 B.L,sv,nv],setv, .int .i64 (a:Int),fv]++[])).at 1=setv:=by rw [envOf_at];rfl
  have e2:(envOf ([]++[LV.agg [.int .i64 B.L,sv,nv],setv, .int .i64 (a:Int),fv]++[])).at 2 = .int .i64 (a:Int):=by rw [envOf_at];rfl
  have e3:(envOf ([]++[LV.agg [.int .i64 B.L,sv,nv],setv, .int .i64 (a:Int),fv]++[])).at 3=fv:=by rw [envOf_at];rfl
  generalize envOf ([]++[LV.agg [.int .i64 B.L,sv,nv],setv, .int .i64 (a:Int),fv]++[])=e at *
  refine Cd.out ?_
  unfold l73
  dsimp only [jA,jG,qN,qF,qS,qI,qA,qB,qC,qO,qm,ql]
  repeat' (first | refine gN @hsl ?_ | (refine gB @hsl ?_;intro bb hbb;cases bb<;>(try simp only [hbs,if_false,reduceCtorEq] at hbb)<;>(try first | (exfalso;omega) | exact hbb.elim)) | fail)
  refine q_mkmap wN rfl ?_
  repeat' (first | refine gN @hsl ?_ | (refine gB @hsl ?_;intro bb hbb;cases bb<;>(try simp only [hbs,if_false,reduceCtorEq] at hbb)<;>(try first | (exfalso;omega) | exact hbb.elim)) | fail)
  refine qc_loop (fun m e s1=>∃ k:Nat,m=set.length - k∧k≤set.length∧s.n<s1.n∧MapS s1 s.n (rch (fun q=>mvs B q a) (set.take k) p)∧(∀ id,id<s.n→s1.get id=s.get id)∧e.at 2 = .int .i64 (a:Int)∧e.at 3=fv∧e.at 4 = .pimm [.int .i64 B.L,sv,nv] 0∧e.at 9 = .mref s.n∧e.at 15=setv∧e.at 16 = .int .i64 (set.length:Int)∧e.at 17 = .int .i64 (k:Int)) _
    ⟨0,rfl,by omega,by simp,MapS.nil (by simp),fun id hid=>by rw [St.get_new,if_neg (by omega)],ef,ef,ef,ef,ef,ef,by simp only [lk,sv1,sv2,sv3,Nat.reduceEqDiff,Nat.reduceAdd,Nat.reduceLeDiff,reduceIte,if_false,if_true,mkVal,unLV,List.map,optTmps];rfl⟩ ?_
  clear e0 e1 e2 e3
  clear e
  rintro m e s1 ⟨k,rfl,hk,hn1,hM,ho,e2,e3,e4,e9,e15,e16,e17⟩
  by_cases hkl:k<set.length
  · have hkI:(k:Int)<(set.length:Int):=by omega
    have hwk:IntKind.i64.wrap ((k:Int)+1)=((k+1:Nat):Int):=by rw [wrap_i64 _ (by omega) (by omega)];rfl
    have hgx:=ints_get hkI
    have htk:=take_one set 0 hkl
    have hxr:=hr (set.getD k 0) (by rw [List.getD_eq_getElem?_getD,List.getElem?_eq_getElem hkl];simp)
    generalize set.getD k 0=x at *
    obtain ⟨q,rfl⟩:∃ q:Nat,x=(q:Int):=⟨x.toNat,by omega⟩
    have hq:q<B.next.length:=by omega
    have hqI:(q:Int)<(B.next.length:Int):=by omega
    have hgq:=hn'.get hq
    obtain ⟨vs2,hrw⟩:=hn'.row q hq
    have ha:=hrow q hq
    have haI:(a:Int)<((B.next.getD q []).length:Int):=by omega
    have hga:=hrw.get ha
    have hmoves:=hrw.row a ha
    have hl:=hlim q
    have hch:=fun s=>chosenM_ok hmoves hl (p:=p) (s:=s) hp
    unfold mvs at hl
    have htB:Bx (rch (fun q=>mvs B q a) (set.take (k+1)) p=rch (fun q=>mvs B q a) (set.take k) p++(((B.next.getD q []).getD a []).filter p).map (·.1)):=⟨by rw [htk,rch_snoc,Int.toNat_natCast];rfl⟩
    generalize (B.next.getD q []).getD a []=ms at *
    have hfl:=List.length_filter_le p ms
    generalize hL:ms.filter p=L at *
    generalize rch (fun q=>mvs B q a) (set.take k) p=K0 at *
    generalize vs.getD q .top=rv at *
    generalize vs2.getD a .top=mv at *
    have hMB:=Bx.mk (And.intro hM ho)
    clear htk hM ho
    repeat' (first | refine gN (And.intro (@iaN _ _ _ hset.sl) (And.intro @hgx (And.intro (@iaN _ _ _ hn'.sl) (And.intro @hgq (And.intro (@iaN _ _ _ hrw.sl) @hga))))) ?_ | (refine gB (And.intro (@iaN _ _ _ hset.sl) (And.intro @hgx (And.intro (@iaN _ _ _ hn'.sl) (And.intro @hgq (And.intro (@iaN _ _ _ hrw.sl) @hga))))) ?_;intro bb hbb;cases bb<;>(try simp only [hbs,if_false,reduceCtorEq] at hbb)<;>(try first | (exfalso;omega) | exact hbb.elim)) | fail)
    refine q_call wN (fv:=.fn (.func 83) [] []) (vs:=[mv,fv]) ef (by simp only [List.map,lk,sv1,sv2,sv3,Nat.reduceEqDiff,Nat.reduceAdd,Nat.reduceLeDiff,reduceIte,if_false,if_true,mkVal,unLV,List.map,optTmps,e3]) (CallOk.mono (hch _) fun r s2 hh=>⟨trivial,?_⟩)
    obtain ⟨hSg,hU,hn2,ho2⟩:=hh
    have hrl:=hSg.len
    simp only [Env.put_some]
    clear hch
    repeat' (first | refine gN @hrl ?_ | (refine gB @hrl ?_;intro bb hbb;cases bb<;>(try simp only [hbs,if_false,reduceCtorEq] at hbb)<;>(try first | (exfalso;omega) | exact hbb.elim)) | fail)
    refine qc_loop (fun m e s3=>∃ i:Nat,m=L.length - i∧i≤L.length∧s1.n≤s3.n∧Sg s3 r 2 (mcells L) L.length∧MapS s3 s.n (K0++(L.take i).map (·.1))∧(∀ id,id<s.n→s3.get id=s.get id)∧e.at 2 = .int .i64 (a:Int)∧e.at 3=fv∧e.at 4 = .pimm [.int .i64 B.L,sv,nv] 0∧e.at 9 = .mref s.n∧e.at 15=setv∧e.at 16 = .int .i64 (set.length:Int)∧e.at 17 = .int .i64 (k:Int)∧e.at 30=r∧e.at 31 = .int .i64 (L.length:Int)∧e.at 32 = .int .i64 (i:Int)) _
      ⟨0,rfl,by omega,by omega,hSg,by simpa using hMB.out.1.keep (ho2 _ (by omega)),fun id hid=>(ho2 id (by omega)).trans (hMB.out.2 id hid),ef,ef,ef,ef,ef,ef,ef,ef,ef,by simp only [lk,sv1,sv2,sv3,Nat.reduceEqDiff,Nat.reduceAdd,Nat.reduceLeDiff,reduceIte,if_false,if_true,mkVal,unLV,List.map,optTmps];rfl⟩ ?_
    clear e2 e3 e4 e9 e15 e16 e17 hSg ho2 hn2 hMB
    clear e s2
    rintro m e s3 ⟨i,rfl,hi,hn3,hSg,hM,ho,e2,e3,e4,e9,e15,e16,e17,e30,e31,e32⟩
    by_cases hil:i<L.length
    · have hiI:(i:Int)<(L.length:Int):=by omega
      have hwi:IntKind.i64.wrap ((i:Int)+1)=((i+1:Nat):Int):=by rw [wrap_i64 _ (by omega) (by omega)];rfl
      obtain ⟨j,rest,hrj,hj,hgj⟩:=hSg.pos (by omega)
      subst hrj
      have hjs:s1.n≤j:=hU j (uses_sref.2 rfl)
      have hmi:L[i]? = some (L.getD i (0,false)):=by rw [List.getD_eq_getElem?_getD,List.getElem?_eq_getElem hil];rfl
      have htL:Bx ((L.take (i+1)).map (·.1)=(L.take i).map (·.1)++[(L.getD i (0,false)).1]):=⟨by rw [take_one L (0,false) hil,List.map_append];rfl⟩
      have hld:=loadN_rw (row:=mrow) mrow_len hmi (rest:=rest) (s:=s3) (j:=j) (md:=.mut) (by rw [← mcells_wcl];exact hgj)
      unfold mrow at hld
      generalize L.getD i (0,false)=mm at *
      have hB:=Bx.mk (And.intro hSg (And.intro hM (And.intro ho hgj)))
      clear hSg hM ho hgj hmi
      repeat' (first | refine gN (And.intro @iaS @hld) ?_ | (refine gB (And.intro @iaS @hld) ?_;intro bb hbb;cases bb<;>(try simp only [hbs,if_false,reduceCtorEq] at hbb)<;>(try first | (exfalso;omega) | exact hbb.elim)) | fail)
      obtain ⟨hSg,hM,ho,hgj⟩:=hB.out
      have hM2:=hM.keep (s':=(s3.new (.cells .mut [.int .i64 0, .bool false])).put s3.n (.cells .mut [.int .i64 mm.1, .bool mm.2])) (by rw [St.get_put,if_neg (by omega),St.get_new,if_neg (by omega)])
      refine q_setUp hM2 ef ef ef (fun s4 hn4 hm4 ho4=>?_)
      have hn4':s4.n=s3.n+1:=hn4
      have hget:∀ id,id<s3.n→id≠s.n→s4.get id=s3.get id:=fun id h1 h2=>by rw [ho4 id h2,St.get_put,if_neg (by omega),St.get_new,if_neg (by omega)]
      have hSg4:=hSg.mono (s':=s4) (by omega) fun id hid=>by
        have:=uses_sref.1 hid
        exact hget id (by omega) (by omega)
      have hgB:=Bx.mk (And.intro hSg4 (And.intro hm4 fun id (hid:id<s.n)=>(hget id (by omega) (by omega)).trans (ho id hid)))
      clear hM2 hget hm4 ho4 hn4 hSg4 hSg hM ho hgj hB hld
      repeat' (first | refine gN @hwi ?_ | (refine gB @hwi ?_;intro bb hbb;cases bb<;>(try simp only [hbs,if_false,reduceCtorEq] at hbb)<;>(try first | (exfalso;omega) | exact hbb.elim)) | fail)
      refine ⟨L.length - (i+1),by omega,i+1,rfl,by omega,by omega,hgB.out.1,by rw [htL.out,← List.append_assoc];exact hgB.out.2.1,hgB.out.2.2,?_⟩
      simp only [lk,sv1,sv2,sv3,Nat.reduceEqDiff,Nat.reduceAdd,Nat.reduceLeDiff,reduceIte,if_false,if_true,mkVal,unLV,List.map,optTmps,hwi,e2,e3,e4,e9,e15,e16,e17,e30,e31,and_self]
    · have hi':i=L.length:=by omega
      subst hi'
      rw [List.take_length,← htB.out] at hM
      have hMB:=Bx.mk (And.intro hM ho)
      clear hM ho htB
      repeat' (first | refine gN @hwk ?_ | (refine gB @hwk ?_;intro bb hbb;cases bb<;>(try simp only [hbs,if_false,reduceCtorEq] at hbb)<;>(try first | (exfalso;omega) | exact hbb.elim)) | fail)
      refine ⟨set.length - (k+1),by omega,k+1,rfl,by omega,by omega,hMB.out.1,hMB.out.2,?_⟩
      simp only [lk,sv1,sv2,sv3,Nat.reduceEqDiff,Nat.reduceAdd,Nat.reduceLeDiff,reduceIte,if_false,if_true,mkVal,unLV,List.map,optTmps,hwk,e2,e3,e4,e9,e15,e16,and_self]
  · have hk':k=set.length:=by omega
    subst hk'
    rw [List.take_length] at hM
    have hMB:=Bx.mk (And.intro hM ho)
    clear hM ho
    repeat' (first | refine gN trivial ?_ | (refine gB trivial ?_;intro bb hbb;cases bb<;>(try simp only [hbs,if_false,reduceCtorEq] at hbb)<;>(try first | (exfalso;omega) | exact hbb.elim)) | fail)
    exact ⟨.inr trivial,s.n,ef,Nat.le_refl _,hn1,hMB.out⟩
end Go.Proofs.Ytkbiecjdcjfhaaa
