/- accept's small functions. -/
import Derived.Test.YtgobbogomchnhaaGreatDoorNumber
import Derived.Test.YtgobbogomchnhaaGreatDoorValid
set_option linter.unusedSimpArgs false
set_option linter.unusedVariables false
section
set_option linter.unusedSimpArgs false
set_option linter.unusedVariables false
namespace Go.Proofs.YtgobbogomchnhaaGreatDoor
open Go Go.Pv Go.Aut Go.Bfs
open Classical
def zints (l:List Nat):List Int:=l.map fun (i:Nat)=>(i:Int)
@[simp] theorem zints_length (l:List Nat):(zints l).length=l.length:=by simp [zints]
theorem zints_get {l:List Nat} {i:Nat} (h:i<l.length):(ints (zints l))[i]? = some (.int .i64 (l.getD i 0:Int)):=by
 simp [ints,zints,List.getD_eq_getElem?_getD,h]
structure IsTk (v:LV) (B:Bu) (ls:List Nat) (bk:Nat) (sv nv lv:LV):Prop where
 eq:v = .agg [.int .i64 B.L,sv,nv,lv, .int .i64 (bk:Int)]
 st:IsInts sv B.start
 nx:IsNext nv B.next
 lt:IsInts lv (zints ls)
 ok:Vb B
 pos:0<ls.length
 bk:bk<ls.length
 big:ls.length≤200
 let':∀ i,i<ls.length→(ls.getD i 0:Int)<B.L
theorem IsTk.closed {v:LV} {B:Bu} {ls:List Nat} {bk:Nat} {sv nv lv:LV} (h:IsTk v B ls bk sv nv lv):v.closed=true:=by
 rw [h.eq];simp [LV.closed,LV.closed.closedAll,h.st.closed,h.nx.closed,h.lt.closed]
def bmv (B:Bu):Mv:=fun q a=>((B.next.getD q []).getD a []).map fun m=>(m.1.toNat,m.2)
def tkOf (B:Bu) (ls:List Nat) (bk:Nat):Aut.Tk:=⟨ls.length,bk,fun i=>ls.getD i 0,bmv B⟩
def bms (B:Bu) (ls:List Nat) (p:Pl):Moves:=(B.next.getD p.2 []).getD (ls.getD p.1 0) []
def InT (B:Bu) (ls:List Nat) (p:Pl):Prop:=p.1<ls.length∧p.2<B.next.length
set_option maxHeartbeats 4000000 in
theorem moves_ok {v:LV} {B:Bu} {ls:List Nat} {bk:Nat} {sv nv lv:LV} (h:IsTk v B ls bk sv nv lv) {p:Pl} (hp:InT B ls p):PE 87 [v, .agg (pcell p)] (fun r=>IsMoves r (bms B ls p)):=by
 have hcl:=h.closed
 obtain ⟨rfl,hst,hnx,hlt,hok,hpos,hbk,hbig,hlet⟩:=h
 obtain ⟨vs,hn⟩:=hnx
 obtain ⟨hp1,hp2⟩:=hp
 obtain ⟨a,q⟩:=p
 simp only at hp1 hp2
 obtain ⟨ws,hr⟩:=hn.row q hp2
 have hrow:=hok.2.2.2.2 q hp2
 have hlq:ls.getD a 0<(B.next.getD q []).length:=by have:=hlet a hp1;have:=hrow.1;omega
 have hmw:=hr.row _ hlq
 have hc1:=hst.sl.cell
 have hc2:=hn.sl.cell
 have hc3:=hlt.sl.cell
 refine q_fnEx (t:=4) hm Tryz.func87 (by decide +kernel) c87 (Nat.le_of_ble_eq_true rfl) (by simp [LV.closed.closedAll,hcl,pcell];rfl) rfl ?_
 have e0:(envOf [LV.agg [.int .i64 B.L,sv,nv,lv, .int .i64 (bk:Int)], .agg (pcell (a,q))]).at 0 = .agg [.int .i64 B.L,sv,nv,lv, .int .i64 (bk:Int)]:=by rw [envOf_at];rfl
 have e1:(envOf [LV.agg [.int .i64 B.L,sv,nv,lv, .int .i64 (bk:Int)], .agg (pcell (a,q))]).at 1 = .agg [.int .i64 (a:Int), .int .i64 (q:Int)]:=by rw [envOf_at];rfl
 generalize envOf [LV.agg [.int .i64 B.L,sv,nv,lv, .int .i64 (bk:Int)], .agg (pcell (a,q))]=e at *
 unfold l87
 dsimp only [jA,jB,qM,qL,qF,qI,qO]
 have i1:∀ s:St,iaLV 1 nv (.int .i64 (q:Int)) s=some (.pimm vs q,s):=fun s=>by
  have:=iaN (esz:=1) (k:=.i64) (s:=s) hn.sl (i:=q) (by omega)
  simpa using this
 have g1:vs[q]? = some (vs.getD q .top):=hn.get hp2
 have i2:∀ s:St,iaLV 1 lv (.int .i64 (a:Int)) s=some (.pimm (ints (zints ls)) a,s):=fun s=>by
  have:=iaN (esz:=1) (k:=.i64) (s:=s) hlt.sl (i:=a) (by simp;omega)
  simpa using this
 have g2:=zints_get hp1
 have i3:∀ s:St,iaLV 1 (vs.getD q .top) (.int .i64 (ls.getD a 0:Int)) s=some (.pimm ws (ls.getD a 0),s):=fun s=>by
  have:=iaN (esz:=1) (k:=.i64) (s:=s) hr.sl (i:=ls.getD a 0) (by omega)
  simpa using this
 have g3:ws[ls.getD a 0]? = some (ws.getD (ls.getD a 0) .top):=hr.get hlq
 repeat' (first | refine gA (And.intro @i1 (And.intro @g1 (And.intro @i2 (And.intro @g2 (And.intro @i3 @g3))))) ?_ | (refine gB (And.intro @i1 (And.intro @g1 (And.intro @i2 (And.intro @g2 (And.intro @i3 @g3))))) ?_;intro bb hbb;cases bb<;>(try simp only [hbs,if_false,reduceCtorEq] at hbb)) | fail)
 refine ⟨.inr trivial,_,St.empty,?_,hmw.closed,hmw⟩
 simp only [lk,sv1,sv2,sv3,Nat.reduceEqDiff,Nat.reduceAdd,Nat.reduceLeDiff,reduceIte,if_false,if_true,mkVal,unLV,List.map,optTmps]
 exact frzD_closed hmw.closed
set_option maxHeartbeats 4000000 in
theorem after_ok {v:LV} {B:Bu} {ls:List Nat} {bk:Nat} {sv nv lv:LV} (h:IsTk v B ls bk sv nv lv) {p:Pl} (hp:p.1<ls.length) (m:Int × Bool) (q:Nat) (hq:m.1=(q:Int)):PO 88 [v, .agg (pcell p), .agg [.int .i64 m.1, .bool m.2]] (.agg (pcell ((tkOf B ls bk).after p (q,m.2)))):=by
 have hcl:=h.closed
 obtain ⟨rfl,hst,hnx,hlt,hok,hpos,hbk,hbig,hlet⟩:=h
 obtain ⟨vs,hn⟩:=hnx
 obtain ⟨a,p2⟩:=p
 obtain ⟨m1,m2⟩:=m
 simp only at hp hq
 subst hq
 have hc1:=hst.sl.cell
 have hc2:=hn.sl.cell
 have hc3:=hlt.sl.cell
 have hll:slLen lv=some ls.length:=by have:=hlt.sl.len;simpa using this
 refine q_fnR Tryz.func88 (by decide +kernel) c88 (Nat.le_of_ble_eq_true rfl) (by simp only [LV.closed.closedAll,hcl,Bool.true_and];rfl) rfl ?_
 have e0:(envOf [LV.agg [.int .i64 B.L,sv,nv,lv, .int .i64 (bk:Int)], .agg (pcell (a,p2)), .agg [.int .i64 (q:Int), .bool m2]]).at 0 = .agg [.int .i64 B.L,sv,nv,lv, .int .i64 (bk:Int)]:=by rw [envOf_at];rfl
 have e1:(envOf [LV.agg [.int .i64 B.L,sv,nv,lv, .int .i64 (bk:Int)], .agg (pcell (a,p2)), .agg [.int .i64 (q:Int), .bool m2]]).at 1 = .agg [.int .i64 (a:Int), .int .i64 (p2:Int)]:=by rw [envOf_at];rfl
 have e2:(envOf [LV.agg [.int .i64 B.L,sv,nv,lv, .int .i64 (bk:Int)], .agg (pcell (a,p2)), .agg [.int .i64 (q:Int), .bool m2]]).at 2 = .agg [.int .i64 (q:Int), .bool m2]:=by rw [envOf_at];rfl
 generalize envOf [LV.agg [.int .i64 B.L,sv,nv,lv, .int .i64 (bk:Int)], .agg (pcell (a,p2)), .agg [.int .i64 (q:Int), .bool m2]]=e at *
 unfold l88
 dsimp only [jA,jG,qF,qS,qA,qO,qm,ql]
 have hw:IntKind.i64.wrap ((a:Int)+1)=((a+1:Nat):Int):=by rw [wrap_i64 _ (by omega) (by omega)];rfl
 have hnx:(tkOf B ls bk).after (a,p2) (q,m2)=(if a+1=ls.length then bk else a+1,q):=rfl
 rw [hnx]
 repeat' (first | refine gA (And.intro @hll @hw) ?_ | (refine gB (And.intro @hll @hw) ?_;intro bb hbb;cases bb<;>(try simp only [hbs,if_false,reduceCtorEq] at hbb)) | apply qc_seq | fail)
 ·have hne:¬ a+1=ls.length:=by rw [hw] at hbb;omega
  simp only [if_neg hne]
  refine q_run0 (v:=.agg (pcell (a+1,q))) (s':=_) (by simp only [LOp.run,lk,sv1,sv2,sv3,Nat.reduceEqDiff,Nat.reduceAdd,Nat.reduceLeDiff,reduceIte,if_false,if_true,mkVal,unLV,List.map,optTmps,evParts,fillParts,hw];rfl) ?_
  repeat' (first | refine gA @hll ?_ | (refine gB @hll ?_;intro bb hbb;cases bb<;>(try simp only [hbs,if_false,reduceCtorEq] at hbb)) | apply qc_seq | fail)
  refine ⟨.inr trivial,?_⟩
  simp [l88,resVal,resOne,mkVal,pcell,splice]
 ·have hne:a+1=ls.length:=by rw [hw] at hbb;omega
  simp only [if_pos hne]
  refine q_run0 (v:=.agg (pcell (bk,q))) (s':=_) (by simp only [LOp.run,lk,sv1,sv2,sv3,Nat.reduceEqDiff,Nat.reduceAdd,Nat.reduceLeDiff,reduceIte,if_false,if_true,mkVal,unLV,List.map,optTmps,evParts,fillParts,hw];rfl) ?_
  repeat' (first | refine gA @hll ?_ | (refine gB @hll ?_;intro bb hbb;cases bb<;>(try simp only [hbs,if_false,reduceCtorEq] at hbb)) | apply qc_seq | fail)
  refine ⟨.inr trivial,?_⟩
  simp [l88,resVal,resOne,mkVal,pcell,splice]
end Go.Proofs.YtgobbogomchnhaaGreatDoor
end
section
set_option linter.unusedSimpArgs false
set_option linter.unusedVariables false
namespace Go.Proofs.YtgobbogomchnhaaGreatDoor
open Go Go.Pv Go.Aut Go.Bfs
open Classical
structure IsPls (v:LV) (ps:List Pl):Prop where
 sl:Sl v (pcells ps) ps.length
 len:ps.length≤1000000
structure FO (s:St) (M:Nat) (pv bv:LV) (acc:Ac Pl):Prop where
 m1:M<s.n
 gM:s.get M=some (.map (pent (acc.map (·.1)) 0))
 sp:SkC s pv 2 (pcells (acc.map (·.1))) acc.length
 sb:SkC s bv 1 (ints (acc.map (·.2))) acc.length
theorem inT_len {B:Bu} {ls:List Nat} {l:List Pl} (hd:l.Nodup) (h:∀ p∈l,InT B ls p):l.length≤ls.length*B.next.length:=by
 have hS:∀ p∈l,p.1*B.next.length+p.2<ls.length*B.next.length:=fun p hp=>by
  obtain ⟨h1,h2⟩:=h p hp
  have:(p.1+1)*B.next.length≤ls.length*B.next.length:=Nat.mul_le_mul_right _ h1
  rw [Nat.add_mul,Nat.one_mul] at this
  omega
 have hnd:(l.map fun p=>p.1*B.next.length+p.2).Nodup:=by
  rw [List.nodup_iff_pairwise_ne,List.pairwise_map]
  refine (List.nodup_iff_pairwise_ne.1 hd).imp_of_mem ?_
  intro a b ha hb hab he
  refine hab ?_
  obtain ⟨a1,a2⟩:=h a ha
  obtain ⟨b1,b2⟩:=h b hb
  have e1:(a.1*B.next.length+a.2) % B.next.length=a.2:=by rw [Nat.add_comm,Nat.add_mul_mod_self_right,Nat.mod_eq_of_lt a2]
  have e2:(b.1*B.next.length+b.2) % B.next.length=b.2:=by rw [Nat.add_comm,Nat.add_mul_mod_self_right,Nat.mod_eq_of_lt b2]
  have e3:a.2=b.2:=by rw [← e1,← e2,he]
  have e4:a.1*B.next.length=b.1*B.next.length:=by omega
  have e5:a.1=b.1:=Nat.eq_of_mul_eq_mul_right (by omega) e4
  exact Prod.ext e5 e3
 have:=pig _ _ hnd fun x hx=>by
  obtain ⟨p,hp,rfl⟩:=List.mem_map.1 hx
  exact hS p hp
 simpa using this
theorem take_snoc {α:Type} {l:List α} {i:Nat} {x:α} (h:l[i]? = some x):l.take (i+1)=l.take i++[x]:=by
 rw [List.take_add_one,h];rfl
theorem adds_ok {succ:Pl→List Pl} {from_:List Pl} {R:Pl→Prop} (hR:∀ p∈from_,R p) (i:Nat):Bfs.Ok succ from_ R (adds [] (from_.take i) (-1)) :=
 (Ok.nil succ from_ R).adds (fun p hp=>hR p (List.mem_of_mem_take hp)) fun p hp=>.inl ⟨rfl,List.mem_of_mem_take hp⟩
theorem loadN_pls {ps:List Pl} {k:Nat} {p:Pl} (h:ps[k]? = some p) {s:St} : loadLV (some 2) (.pimm (pcells ps) (k*2)) s=some (.agg [.int .i64 (p.1:Int), .int .i64 (p.2:Int)]):=by
 have h1:=pcells_pair h
 have h3:=(List.getElem?_eq_some_iff.1 h).1
 have h2:k*2+2≤(pcells ps).length:=by rw [pcells_length];omega
 simp only [loadLV,mkVal]
 rw [if_pos h2,h1];rfl
theorem loadN_plsR {ps:List Pl} {k j:Nat} {p:Pl} (h:ps[k]? = some p) {s:St} {m:Md} (hs:s.get j=some (.cells m (pcells ps))):loadLV (some 2) (.pref j (k*2)) s=some (.agg [.int .i64 (p.1:Int), .int .i64 (p.2:Int)]):=by
 have h1:=pcells_pair h
 have h3:=(List.getElem?_eq_some_iff.1 h).1
 have h2:k*2+2≤(pcells ps).length:=by rw [pcells_length];omega
 simp only [loadLV,mkVal,hs]
 rw [if_pos h2,h1];rfl
def nat2 (m:Int × Bool):Nat × Bool:=(m.1.toNat,m.2)
theorem succ_eq (B:Bu) (ls:List Nat) (bk:Nat) (p:Pl):(tkOf B ls bk).succ p=(bms B ls p).map fun m=>(tkOf B ls bk).after p (nat2 m):=by
 simp only [Tk.succ,Tk.moves,tkOf,bmv,bms,List.map_map]
 rfl
theorem inT_succ {B:Bu} {ls:List Nat} {bk:Nat} (hok:Vb B) (hbk:bk<ls.length) (hlet:∀ i,i<ls.length→(ls.getD i 0:Int)<B.L) {p:Pl} (hp:InT B ls p):∀ q∈(tkOf B ls bk).succ p,InT B ls q:=by
 intro q hq
 rw [succ_eq] at hq
 obtain ⟨m,hm,rfl⟩:=List.mem_map.1 hq
 obtain ⟨h1,h2⟩:=hp
 have hrow:=hok.2.2.2.2 p.2 h2
 have hl:=hlet p.1 h1
 have ha:ls.getD p.1 0<(B.next.getD p.2 []).length:=by have:=hrow.1;omega
 have hmo:=hrow.2 _ ha
 obtain ⟨k,hk⟩:=List.mem_iff_getElem?.1 hm
 obtain ⟨hk1,hk2⟩:=List.getElem?_eq_some_iff.1 hk
 have:=hmo k hk1
 have hgd:((B.next.getD p.2 []).getD (ls.getD p.1 0) []).getD k (0,false)=m:=by
  rw [List.getD_eq_getElem?_getD]
  have:((B.next.getD p.2 []).getD (ls.getD p.1 0) [])[k]? = some m:=hk
  rw [this];rfl
 rw [hgd] at this
 refine ⟨?_,?_⟩
 ·show (if p.1+1=ls.length then bk else p.1+1)<ls.length
  split<;>omega
 ·show m.1.toNat<B.next.length
  omega
theorem move_nat {B:Bu} {ls:List Nat} (hok:Vb B) (hlet:∀ i,i<ls.length→(ls.getD i 0:Int)<B.L) {p:Pl} (hp:InT B ls p) {k:Nat} {m:Int × Bool} (hk:(bms B ls p)[k]? = some m):m.1=(m.1.toNat:Int)∧m.1.toNat<B.next.length:=by
 obtain ⟨h1,h2⟩:=hp
 have hrow:=hok.2.2.2.2 p.2 h2
 have hl:=hlet p.1 h1
 have ha:ls.getD p.1 0<(B.next.getD p.2 []).length:=by have:=hrow.1;omega
 have hmo:=hrow.2 _ ha
 obtain ⟨hk1,hk2⟩:=List.getElem?_eq_some_iff.1 hk
 have:=hmo k hk1
 have hgd:((B.next.getD p.2 []).getD (ls.getD p.1 0) []).getD k (0,false)=m:=by
  rw [List.getD_eq_getElem?_getD]
  have:((B.next.getD p.2 []).getD (ls.getD p.1 0) [])[k]? = some m:=hk
  rw [this];rfl
 rw [hgd] at this
 omega
set_option maxHeartbeats 16000000 in
theorem search_ok {v:LV} {B:Bu} {ls:List Nat} {bk:Nat} {sv nv lv fv:LV} (h:IsTk v B ls bk sv nv lv) {from_:List Pl} (hf:IsPls fv from_) (hfc:fv.closed=true) (hin:∀ p∈from_,InT B ls p) {s:St} :
  CallOk Tryz.prog GL (.fn (.func 49) [] []) [v,fv] s (fun r s'=>∃ M pv bv,r = .agg [.mref M,pv,bv]∧s.n≤M∧FO s' M pv bv (run (tkOf B ls bk).succ (ls.length*B.next.length+1) 0 (adds [] from_ (-1)))∧(∀ id,uses pv id→s.n≤id)∧(∀ id,uses bv id→s.n≤id)∧∀ id,id<s.n→s'.get id=s.get id):=by
 have hcl:=h.closed
 have hmv:=fun {p:Pl} (hp:InT B ls p)=>moves_ok h hp
 have haf:=fun {p:Pl} (hp:p.1<ls.length) (m:Int × Bool) (q:Nat) (hq:m.1=(q:Int))=>after_ok h hp m q hq
 obtain ⟨rfl,hst,hnx,hlt,hok,hpos,hbk,hbig,hlet⟩:=h
 have hnc:=hnx.closed
 obtain ⟨vs,hn⟩:=hnx
 have hc1:=hst.sl.cell
 have hc2:=hn.sl.cell
 have hc3:=hlt.sl.cell
 have hNb:ls.length*B.next.length≤600000:=by
  have:ls.length*B.next.length≤200*3000:=Nat.mul_le_mul hbig hok.2.2.1
  omega
 generalize hN:ls.length*B.next.length=N at hNb
 refine call_fn (first:=[]) (caps:=[]) Tryz.func49 (by decide +kernel) c49 (Nat.le_of_ble_eq_true rfl) (CodeOk.mono (Q:=fun o e s'=>(o = .normal∨o = .jmp .ret)∧∃ M pv bv,e.at 4 = .pref s.n 0∧s'.get s.n=some (.cells .mut [.mref M,pv,bv])∧s.n≤M∧FO s' M pv bv (run (tkOf B ls bk).succ (N+1) 0 (adds [] from_ (-1)))∧(∀ id,uses pv id→s.n≤id)∧(∀ id,uses bv id→s.n≤id)∧∀ id,id<s.n→s'.get id=s.get id) ?_ fun o e s' hh=>by
  obtain ⟨h1,M,pv,bv,h2,h3,h4⟩:=hh
  exact ⟨h1, .agg [.mref M,pv,bv],by simp [l49,resVal,resOne,h2,h3,mkVal],M,pv,bv,rfl,h4⟩)
 have e0:(envOf ([]++[.agg [.int .i64 B.L,sv,nv,lv, .int .i64 (bk:Int)],fv]++[])).at 0 = .agg [.int .i64 B.L,sv,nv,lv, .int .i64 (bk:Int)]:=by rw [envOf_at];rfl
 have e1:(envOf ([]++[.agg [.int .i64 B.L,sv,nv,lv, .int .i64 (bk:Int)],fv]++[])).at 1=fv:=by rw [envOf_at];rfl
 generalize envOf ([]++[.agg [.int .i64 B.L,sv,nv,lv, .int .i64 (bk:Int)],fv]++[])=e at *
 refine Cd.out ?_
 unfold l49
 dsimp only [jA,jG,qN,qF,qS,qI,qA,qB,qC,qO,qm,ql]
 have hinB:=fun {p:Pl} (hp:InT B ls p)=>inT_succ (bk:=bk) hok hbk hlet hp
 have hlenN:∀ l:List Pl,l.Nodup→(∀ x∈l,InT B ls x)→l.length≤N:=fun l h1 h2=>by rw [← hN];exact inT_len h1 h2
 have hfl:=hf.sl.len
 have hflen:=hf.len
 repeat' (first | refine gA trivial ?_ | (refine gB trivial ?_;intro bb hbb;cases bb<;>(try simp only [hbs,if_false,reduceCtorEq] at hbb)) | fail)
 refine q_gen (v:=.mref (s.n+1)) (s':=(s.new (.cells .mut [.nilm, .nils, .nils])).new (.map [])) wN (by simp only [LOp.run,St.n_new]) rfl trivial ?_
 simp only [Env.put_some]
 refine q_run0 (v:=.agg [.mref (s.n+1), .nils, .nils]) (s':=(s.new (.cells .mut [.nilm, .nils, .nils])).new (.map [])) (by simp only [LOp.run,lk,sv1,sv2,sv3,Nat.reduceEqDiff,Nat.reduceAdd,Nat.reduceLeDiff,reduceIte,if_false,if_true,mkVal,unLV,List.map,optTmps,evParts,fillParts];rfl) ?_
 repeat' (first | refine gA @hfl ?_ | (refine gB @hfl ?_;intro bb hbb;cases bb<;>(try simp only [hbs,if_false,reduceCtorEq] at hbb)) | fail)
 refine qc_gen (fun e s1=>FS (s.n+1) (fun id=>id<s.n+1) (s.new (.cells .mut [.nilm, .nils, .nils])) s1 (s.n+1+1) (s.n+1) .nils .nils []∧e.at 2 = .pimm [.int .i64 B.L,sv,nv,lv, .int .i64 (bk:Int)] 0∧e.at 4 = .pref s.n 0∧e.at 5 = .pref (s.n+1+1) 0∧e.at 6 = .fn (.func 86) [] [.pref (s.n+1+1) 0]∧e.at 16=fv∧e.at 17 = .int .i64 (from_.length:Int)∧e.at 18 = .int .i64 0) ?_ ?_
 ·refine ⟨⟨by simp<;>omega,by omega,by simp<;>omega,by omega,by simp<;>omega,by omega,by simp,by simp [pent],SkC.nil _ _,SkC.nil _ _,fun id h=>absurd h (uses_nils id),fun id h=>absurd h (uses_nils id),fun id h=>absurd h (uses_nils id),fun id h=>⟨by simp<;>omega,by omega,by omega,uses_nils id,uses_nils id⟩,fun id h=>?_⟩,ef,ef,ef,ef,ef,ef,ef⟩
  simp only [St.get_put,St.get_new,St.n_new]
  rw [if_neg (by omega),if_neg (by omega),if_neg (by omega)]
 clear e0 e1
 clear e
 rintro e s1 ⟨hF,e2,e4,e5,e6,e16,e17,e18⟩
 refine qc_loop (fun m e s1=>∃ (i:Nat) (pv bv:LV),m=from_.length - i∧i≤from_.length∧FS (s.n+1) (fun id=>id<s.n+1) (s.new (.cells .mut [.nilm, .nils, .nils])) s1 (s.n+1+1) (s.n+1) pv bv (adds [] (from_.take i) (-1))∧e.at 2 = .pimm [.int .i64 B.L,sv,nv,lv, .int .i64 (bk:Int)] 0∧e.at 4 = .pref s.n 0∧e.at 5 = .pref (s.n+1+1) 0∧e.at 6 = .fn (.func 86) [] [.pref (s.n+1+1) 0]∧e.at 16=fv∧e.at 17 = .int .i64 (from_.length:Int)∧e.at 18 = .int .i64 (i:Int)) _
  ⟨0, .nils, .nils,rfl,by omega,by simpa [adds] using hF,e2,e4,e5,e6,e16,e17,e18⟩ ?_
 clear hF e2 e4 e5 e6 e16 e17 e18
 clear s1 e
 rintro m e s1 ⟨i,pv,bv,rfl,hi,hF,e2,e4,e5,e6,e16,e17,e18⟩
 by_cases hil:i<from_.length
 · -- a first place
  obtain ⟨p,hp⟩:∃ p,from_[i]? = some p:=⟨_,List.getElem?_eq_getElem hil⟩
  have hiI:(i:Int)<(from_.length:Int):=by omega
  have hld:=fun s=>loadN_pls (s:=s) hp
  have hw:IntKind.i64.wrap ((i:Int)+1)=((i+1:Nat):Int):=by rw [wrap_i64 _ (by omega) (by omega)];rfl
  have hacl:(adds [] (from_.take i) (-1)).length≤1000000:=by
   have h1:=(adds_ok (succ:=(tkOf B ls bk).succ) hin i)
   have:=hlenN _ h1.nd fun x hx=>by obtain ⟨y,hy,rfl⟩:=List.mem_map.1 hx;exact h1.rng y hy
   simp at this
   omega
  repeat' (first | refine gA (And.intro (@iaN _ _ _ hf.sl) @hld) ?_ | (refine gB (And.intro (@iaN _ _ _ hf.sl) @hld) ?_;intro bb hbb;cases bb<;>(try simp only [hbs,if_false,reduceCtorEq] at hbb)) | fail)
  ·exfalso;omega
  have hF':FS (s.n+1) (fun id=>id<s.n+1) (s.new (.cells .mut [.nilm, .nils, .nils])) ((s1.new (.cells .mut [.int .i64 0, .int .i64 0])).put s1.n (.cells .mut [.int .i64 (p.1:Int), .int .i64 (p.2:Int)])) (s.n+1+1) (s.n+1) pv bv (adds [] (from_.take i) (-1)) :=
   hF.keep (by simp) fun id hid=>by rw [St.get_put,if_neg (by omega),St.get_new,if_neg (by omega)]
  refine q_call wN (fv:=.fn (.func 86) [] [.pref (s.n+1+1) 0]) (vs:=[.agg (pcell p), .int .i64 (-1)]) ef (by simp only [List.map,lk,sv1,sv2,sv3,Nat.reduceEqDiff,Nat.reduceAdd,Nat.reduceLeDiff,reduceIte,if_false,if_true,mkVal,unLV,List.map,optTmps];rfl) (CallOk.mono (number_ok hF' hacl p (-1)) fun v s2 hh=>⟨trivial,?_⟩)
  simp only [Env.put_some]
  obtain ⟨pv',bv',hF2⟩:=hh
  repeat' (first | refine gA trivial ?_ | (refine gB trivial ?_;intro bb hbb;cases bb<;>(try simp only [hbs,if_false,reduceCtorEq] at hbb)) | fail)
  refine ⟨from_.length - (i+1),by omega,i+1,pv',bv',rfl,by omega,by rw [take_snoc hp,adds_snoc];exact hF2,?_⟩
  simp only [lk,sv1,sv2,sv3,Nat.reduceEqDiff,Nat.reduceAdd,Nat.reduceLeDiff,reduceIte,if_false,if_true,mkVal,unLV,List.map,optTmps,hw,e2,e4,e5,e6,e16,e17,and_self]
 · -- on with what is found
  have hi':i=from_.length:=by omega
  subst hi'
  rw [List.take_length] at hF
  repeat' (first | refine gA trivial ?_ | (refine gB trivial ?_;intro bb hbb;cases bb<;>(try simp only [hbs,if_false,reduceCtorEq] at hbb)) | fail)
  rotate_left
  ·exfalso;omega
  have hOk0:Bfs.Ok (tkOf B ls bk).succ from_ (InT B ls) (adds [] from_ (-1)):=Ok.first hin
  generalize hres:run (tkOf B ls bk).succ (N+1) 0 (adds [] from_ (-1))=res
  refine qc_loop (fun m e s1=>∃ (k:Nat) (acc:Ac Pl) (pv bv:LV),m=N+1 - k∧k≤acc.length∧Bfs.Ok (tkOf B ls bk).succ from_ (InT B ls) acc∧run (tkOf B ls bk).succ (N+1 - k) k acc=res∧FS (s.n+1) (fun id=>id<s.n+1) (s.new (.cells .mut [.nilm, .nils, .nils])) s1 (s.n+1+1) (s.n+1) pv bv acc∧e.at 2 = .pimm [.int .i64 B.L,sv,nv,lv, .int .i64 (bk:Int)] 0∧e.at 4 = .pref s.n 0∧e.at 5 = .pref (s.n+1+1) 0∧e.at 6 = .fn (.func 86) [] [.pref (s.n+1+1) 0]∧e.at 9 = .int .i64 (k:Int)) _
   ⟨0,_,pv,bv,rfl,by omega,hOk0,hres,hF,ef,ef,ef,ef,by simp only [lk,sv1,sv2,sv3,Nat.reduceEqDiff,Nat.reduceAdd,Nat.reduceLeDiff,reduceIte,if_false,if_true,mkVal,unLV,List.map,optTmps];rfl⟩ ?_
  clear hF hil hi hbb hOk0 e2 e4 e5 e6 e16 e17 e18
  clear pv bv s1 e
  rintro m e s1 ⟨k,acc,pv,bv,rfl,hk,hOk,hrun,hF,e2,e4,e5,e6,e9⟩
  have hpl:=hF.sp.len
  have hgj:=hF.gj
  have haccN:acc.length≤N:=by
   have:=hlenN _ hOk.nd fun x hx=>by obtain ⟨y,hy,rfl⟩:=List.mem_map.1 hx;exact hOk.rng y hy
   simpa using this
  by_cases hkl:k<acc.length
  · -- a place is looked at
   obtain ⟨x,hx⟩:∃ x,acc[k]? = some x:=⟨_,List.getElem?_eq_getElem hkl⟩
   have hp:(acc.map (·.1))[k]? = some x.1:=by rw [List.getElem?_map,hx];rfl
   have hxin:InT B ls x.1:=hOk.rng x (List.mem_of_getElem? hx)
   have hstep:=hOk.step (fun p hp=>hinB hp) hx
   have hrun':run (tkOf B ls bk).succ (N+1 - (k+1)) (k+1) (adds acc ((tkOf B ls bk).succ x.1) k)=res:=by
    rw [← hrun,show N+1 - k=(N+1 - (k+1))+1 by omega]
    simp only [run,hx]
   obtain ⟨pid,hpv,hpid,hpg⟩:=hF.sp.pos (by omega)
   have hkI:(k:Int)<(acc.length:Int):=by omega
   have hld:=loadN_plsR hp hpg
   have hw:IntKind.i64.wrap ((k:Int)+1)=((k+1:Nat):Int):=by rw [wrap_i64 _ (by omega) (by omega)];rfl
   rw [hpv] at hgj
   have hpl':slLen (.sref pid 0 acc.length 2)=some acc.length:=rfl
   repeat' (first | refine gA (And.intro @iaS @hld) ?_ | (refine gB (And.intro @iaS @hld) ?_;intro bb hbb;cases bb<;>(try simp only [hbs,if_false,reduceCtorEq] at hbb)) | fail)
   ·exfalso;omega
   have hF1:FS (s.n+1) (fun id=>id<s.n+1) (s.new (.cells .mut [.nilm, .nils, .nils])) ((s1.new (.cells .mut [.int .i64 0, .int .i64 0])).put s1.n (.cells .mut [.int .i64 (x.1.1:Int), .int .i64 (x.1.2:Int)])) (s.n+1+1) (s.n+1) pv bv acc:=
    hF.keep (by simp) fun id hid=>by rw [St.get_put,if_neg (by omega),St.get_new,if_neg (by omega)]
   refine q_pureEx hG0 (hmv hxin) wN (by simp only [List.map,lk,sv1,sv2,sv3,Nat.reduceEqDiff,Nat.reduceAdd,Nat.reduceLeDiff,reduceIte,if_false,if_true,mkVal,unLV,List.map,optTmps];rfl) (fun mv hmvs hmc=>⟨trivial,?_⟩)
   simp only [Env.put_some]
   have hml:=hmvs.sl.len
   have hmlen:=hmvs.len
   repeat' (first | refine gA @hml ?_ | (refine gB @hml ?_;intro bb hbb;cases bb<;>(try simp only [hbs,if_false,reduceCtorEq] at hbb)) | fail)
   have hj1:=hF.j1
   have hm1:=hF.m1
   have hj0:=hF.j0
   have hm0:=hF.m0
   generalize hms:bms B ls x.1=ms at *
   have hnx:(tkOf B ls bk).succ x.1=ms.map fun m=>(tkOf B ls bk).after x.1 (nat2 m):=by rw [succ_eq,hms]
   generalize hs2:(s1.new (.cells .mut [.int .i64 0, .int .i64 0])).put s1.n (.cells .mut [.int .i64 (x.1.1:Int), .int .i64 (x.1.2:Int)])=s2 at hF1 ⊢
   have hga:s2.get s1.n=some (.cells .mut [.int .i64 (x.1.1:Int), .int .i64 (x.1.2:Int)]):=by rw [← hs2,St.get_put,if_pos rfl]
   have hn2:s2.n=s1.n+1:=by rw [← hs2];rfl
   have hF2:FS (s.n+1) (fun id=>id<s.n+1∨id=s1.n) s2 s2 (s.n+1+1) (s.n+1) pv bv acc:=hF1.rebase (fun id hid=>by
    rcases hid with hid | hid
    ·exact hF1.kp id hid
    ·subst hid
     exact ⟨by omega,by omega,by omega,fun hu=>by have:=hF.sp.lt hu;omega,fun hu=>by have:=hF.sb.lt hu;omega⟩) (fun _ _=>rfl)
   clear hs2
   obtain ⟨a1,ha1⟩:∃ a1,s1.n=a1:=⟨_,rfl⟩
   rw [ha1] at hga hF2
   have hOkj:∀ j,Bfs.Ok (tkOf B ls bk).succ from_ (InT B ls) (adds acc ((ms.take j).map fun m=>(tkOf B ls bk).after x.1 (nat2 m)) k):=fun j=>hOk.adds (fun p hp=>by
     obtain ⟨m,hm1,rfl⟩:=List.mem_map.1 hp
     exact hinB hxin _ (by rw [hnx];exact List.mem_map_of_mem (List.mem_of_mem_take hm1))) fun p hp=>by
     obtain ⟨m,hm1,rfl⟩:=List.mem_map.1 hp
     exact .inr ⟨k,x,rfl,hx,by rw [hnx];exact List.mem_map_of_mem (List.mem_of_mem_take hm1)⟩
   refine qc_loop (fun m e s'=>∃ (j:Nat) (pv bv:LV),m=ms.length - j∧j≤ms.length∧FS (s.n+1) (fun id=>id<s.n+1∨id=a1) s2 s' (s.n+1+1) (s.n+1) pv bv (adds acc ((ms.take j).map fun m=>(tkOf B ls bk).after x.1 (nat2 m)) k)∧e.at 2 = .pimm [.int .i64 B.L,sv,nv,lv, .int .i64 (bk:Int)] 0∧e.at 4 = .pref s.n 0∧e.at 5 = .pref (s.n+1+1) 0∧e.at 6 = .fn (.func 86) [] [.pref (s.n+1+1) 0]∧e.at 9 = .int .i64 (k:Int)∧e.at 10 = .pref a1 0∧e.at 40=mv∧e.at 41 = .int .i64 (ms.length:Int)∧e.at 42 = .int .i64 (j:Int)) _
    ⟨0,pv,bv,rfl,by omega,by simpa [adds] using hF2,ef,ef,ef,ef,ef,ef,ef,ef,by simp only [lk,sv1,sv2,sv3,Nat.reduceEqDiff,Nat.reduceAdd,Nat.reduceLeDiff,reduceIte,if_false,if_true,mkVal,unLV,List.map,optTmps];rfl⟩ ?_
   have hold1:∀ id,id<s.n+1→s2.get id=(s.new (.cells .mut [.nilm, .nils, .nils])).get id:=fun id hid=>hF1.old id hid
   clear hF hF1 hF2 hpl hgj hld hpl' hpg hpid hpv hbb e2 e4 e5 e6 e9 hj1 hm1 ha1 hn2
   clear pid pv bv s1 e
   rintro m e s1 ⟨j,pv,bv,rfl,hj,hF,e2,e4,e5,e6,e9,e10,e40,e41,e42⟩
   by_cases hjl:j<ms.length
   ·obtain ⟨mm,hmm⟩:∃ mm,ms[j]? = some mm:=⟨_,List.getElem?_eq_getElem hjl⟩
    have hgd:ms.getD j (0,false)=mm:=by rw [List.getD_eq_getElem?_getD,hmm];rfl
    have hjI:(j:Int)<(ms.length:Int):=by omega
    have hld:=fun s=>loadN_moves (s:=s) hjl
    rw [hgd] at hld
    have hmx:maxLen=9223372036854775807:=by decide
    have hw':IntKind.i64.wrap ((j:Int)+1)=((j+1:Nat):Int):=by rw [wrap_i64 _ (by omega) (by omega)];rfl
    have hg1:s1.get a1=some (.cells .mut [.int .i64 (x.1.1:Int), .int .i64 (x.1.2:Int)]):=by rw [hF.old a1 (.inr rfl)];exact hga
    have ha1n:a1<s1.n:=(hF.kp a1 (.inr rfl)).1
    have ha1':¬ a1=s1.n:=by omega
    repeat' (first | refine gA (And.intro (@iaN _ _ _ hmvs.sl) @hld) ?_ | (refine gB (And.intro (@iaN _ _ _ hmvs.sl) @hld) ?_;intro bb hbb;cases bb<;>(try simp only [hbs,if_false,reduceCtorEq] at hbb)) | fail)
    ·exfalso;omega
    refine q_pure hG0 (haf hxin.1 mm mm.1.toNat (move_nat (ls:=ls) hok hlet hxin (by rw [hms];exact hmm)).1) wN (by simp only [List.map,lk,sv1,sv2,sv3,Nat.reduceEqDiff,Nat.reduceAdd,Nat.reduceLeDiff,reduceIte,if_false,if_true,mkVal,unLV,List.map,optTmps];rfl) trivial ?_
    simp only [Env.put_some]
    have hF1:FS (s.n+1) (fun id=>id<s.n+1∨id=a1) s2 ((s1.new (.cells .mut [.int .i64 0, .bool false])).put s1.n (.cells .mut [.int .i64 mm.1, .bool mm.2])) (s.n+1+1) (s.n+1) pv bv (adds acc ((ms.take j).map fun m=>(tkOf B ls bk).after x.1 (nat2 m)) k) :=
     hF.keep (by simp) fun id hid=>by rw [St.get_put,if_neg (by omega),St.get_new,if_neg (by omega)]
    have hlj:(adds acc ((ms.take j).map fun m=>(tkOf B ls bk).after x.1 (nat2 m)) k).length≤1000000:=by
     have h1:=hOkj j
     have:=hlenN _ h1.nd fun x hx=>by obtain ⟨y,hy,rfl⟩:=List.mem_map.1 hx;exact h1.rng y hy
     rw [List.length_map] at this
     omega
    repeat' (first | refine gA trivial ?_ | (refine gB trivial ?_;intro bb hbb;cases bb<;>(try simp only [hbs,if_false,reduceCtorEq] at hbb)) | fail)
    refine q_call wN (fv:=.fn (.func 86) [] [.pref (s.n+1+1) 0]) (vs:=[.agg (pcell ((tkOf B ls bk).after x.1 (mm.1.toNat,mm.2))), .int .i64 (k:Int)]) ef (by simp only [List.map,lk,sv1,sv2,sv3,Nat.reduceEqDiff,Nat.reduceAdd,Nat.reduceLeDiff,reduceIte,if_false,if_true,mkVal,unLV,List.map,optTmps]) (CallOk.mono (number_ok hF1 hlj _ k) fun v s3 hh=>⟨trivial,?_⟩)
    simp only [Env.put_some]
    obtain ⟨pv',bv',hF3⟩:=hh
    repeat' (first | refine gA trivial ?_ | (refine gB trivial ?_;intro bb hbb;cases bb<;>(try simp only [hbs,if_false,reduceCtorEq] at hbb)) | fail)
    refine ⟨ms.length - (j+1),by omega,j+1,pv',bv',rfl,by omega,?_,?_⟩
    ·rw [take_snoc hmm,List.map_append,List.map_cons,List.map_nil,adds_snoc]
     exact hF3
    ·simp only [lk,sv1,sv2,sv3,Nat.reduceEqDiff,Nat.reduceAdd,Nat.reduceLeDiff,reduceIte,if_false,if_true,mkVal,unLV,List.map,optTmps,hw',e2,e4,e5,e6,e9,e10,e40,e41,and_self]
   ·have hj':j=ms.length:=by omega
    subst hj'
    rw [List.take_length,← hnx] at hF
    repeat' (first | refine gA trivial ?_ | (refine gB trivial ?_;intro bb hbb;cases bb<;>(try simp only [hbs,if_false,reduceCtorEq] at hbb)) | fail)
    ·refine ⟨N+1 - (k+1),by omega,k+1,_,pv,bv,rfl,?_,hstep,hrun',hF.rebase (fun id hid=>hF.kp id (.inl hid)) (fun id hid=>by rw [hF.old id (.inl hid)];exact hold1 id hid),?_⟩
     ·have:=adds_len ((tkOf B ls bk).succ x.1) acc k
      omega
     ·simp only [lk,sv1,sv2,sv3,Nat.reduceEqDiff,Nat.reduceAdd,Nat.reduceLeDiff,reduceIte,if_false,if_true,mkVal,unLV,List.map,optTmps,hw,e2,e4,e5,e6,and_self]
    ·exfalso;omega
  ·have hacc:acc=res:=by
    rw [← hrun]
    have:acc[k]? = none:=List.getElem?_eq_none (by omega)
    cases h:N+1 - k with
    | zero=>rfl
    | succ f=>simp only [run,this]
   subst hacc
   have hg4:s1.get s.n=some (.cells .mut [.nilm, .nils, .nils]):=by
    rw [hF.old s.n (by show s.n<s.n+1;omega),St.get_new,if_pos rfl]
   have hcp:=hF.sp.cell
   have hcb:=hF.sb.cell
   have hcm:isCell (.mref (s.n+1))=true:=rfl
   repeat' (first | refine gA @hpl ?_ | (refine gB @hpl ?_;intro bb hbb;cases bb<;>(try simp only [hbs,if_false,reduceCtorEq] at hbb)) | fail)
   ·have hj1:=hF.j1
    have hj0:=hF.j0
    refine ⟨.inr trivial,s.n+1,pv,bv,ef,by rw [St.get_put,if_pos rfl],by omega,⟨by rw [St.n_put];exact hF.m1,by rw [St.get_put,if_neg (by omega)];exact hF.gM,?_,?_⟩,fun id hu=>by have:=(hF.dp id hu).1;omega,fun id hu=>by have:=(hF.db id hu).1;omega,fun id hid=>?_⟩
    ·exact hF.sp.mono (by rw [St.n_put];exact Nat.le_refl _) fun id hu=>by rw [St.get_put,if_neg (by have:=(hF.dp id hu).1;omega)]
    ·exact hF.sb.mono (by rw [St.n_put];exact Nat.le_refl _) fun id hu=>by rw [St.get_put,if_neg (by have:=(hF.db id hu).1;omega)]
    ·rw [St.get_put,if_neg (by omega),hF.old id (by show id<s.n+1;omega),St.get_new,if_neg (by omega)]
   ·exfalso;omega
end Go.Proofs.YtgobbogomchnhaaGreatDoor
end
section
set_option linter.unusedSimpArgs false
set_option linter.unusedVariables false
namespace Go.Proofs.YtgobbogomchnhaaGreatDoor
open Go Go.Pv Go.Aut Go.Bfs
open Classical
theorem skc_frz {s:St} {v:LV} {esz n:Nat} {cells:List LV} (h:SkC s v esz cells n) (hc:LV.closed.closedAll cells=true):∃ r s',frz frzDepth v s=some (r,s')∧Sl r cells n∧r.closed=true:=by
 obtain ⟨h0,⟨rfl,rfl⟩ | ⟨j,rfl,h1,h2,h3⟩⟩:=h
 ·have:cells=[]:=List.length_eq_zero_iff.1 (by rw [h0,Nat.zero_mul])
  subst this
  exact ⟨.nils,s,frzD_closed rfl, .nil,rfl⟩
 ·refine ⟨.simm cells n,s.put j (.cells .app cells),?_, .simm _ _,by simp [LV.closed,hc]⟩
  have hd:frzDepth=38+1+1:=rfl
  rw [hd]
  unfold frz
  simp only [LV.closed,Bool.false_eq_true,if_false,h3,Nat.zero_add,h0,Nat.le_refl,if_true,frzAll_closed hc,Option.bind_eq_bind,Option.bind_some,List.drop_zero]
  rw [List.take_of_length_le (by omega)]
set_option maxHeartbeats 8000000 in
theorem starts_ok {v:LV} {B:Bu} {ls:List Nat} {bk:Nat} {sv nv lv:LV} (h:IsTk v B ls bk sv nv lv):PE 50 [v] (fun r=>IsPls r (B.start.map fun q=>(0,q.toNat))):=by
 have hcl:=h.closed
 obtain ⟨rfl,hst,hnx,hlt,hok,hpos,hbk,hbig,hlet⟩:=h
 obtain ⟨vs,hn⟩:=hnx
 have hc1:=hst.sl.cell
 have hc2:=hn.sl.cell
 have hc3:=hlt.sl.cell
 have hsl:=hst.sl.len
 refine q_fnEx (t:=2) hm Tryz.func50 (by decide +kernel) c50 (Nat.le_of_ble_eq_true rfl) (by simp [LV.closed.closedAll,hcl]) rfl ?_
 have e0:(envOf [LV.agg [.int .i64 B.L,sv,nv,lv, .int .i64 (bk:Int)]]).at 0 = .agg [.int .i64 B.L,sv,nv,lv, .int .i64 (bk:Int)]:=by rw [envOf_at];rfl
 generalize envOf [LV.agg [.int .i64 B.L,sv,nv,lv, .int .i64 (bk:Int)]]=e at *
 unfold l50
 dsimp only [jA,qF,qS,qI,qA,qB,qC,qO,qm,ql]
 repeat' (first | refine gA @hsl ?_ | (refine gB @hsl ?_;intro bb hbb;cases bb<;>(try simp only [hbs,if_false,reduceCtorEq] at hbb)) | fail)
 have hsok:=hok.2.2.2.1
 have hsn:B.start.length≤3000:=by
  have h3:=hok.2.2.1
  have hge:∀ i,i<B.start.length→(i:Int)≤B.start.getD i 0:=by
   intro i
   induction i with
   | zero=>intro hi;exact (hsok 0 hi).1
   | succ i ih=>
    intro hi
    have h1:=ih (by omega)
    have h2:=(hsok (i+1) hi).2.2 (by omega)
    rw [Nat.add_sub_cancel] at h2
    omega
  by_cases hz:B.start.length=0
  ·omega
  ·have h1:=hge (B.start.length - 1) (by omega)
   have h2:=(hsok (B.start.length - 1) (by omega)).2.1
   omega
 refine qc_loop (fun m e s=>∃ (i:Nat) (av:LV),m=B.start.length - i∧i≤B.start.length∧SkC s av 2 (pcells ((B.start.take i).map fun q=>(0,q.toNat))) i∧e.at 8=sv∧e.at 9 = .int .i64 (B.start.length:Int)∧e.at 10 = .int .i64 (i:Int)∧e.at 3=av) _
  ⟨0, .nils,rfl,by omega,SkC.nil _ _,ef,ef,by simp only [lk,sv1,sv2,sv3,Nat.reduceEqDiff,Nat.reduceAdd,Nat.reduceLeDiff,reduceIte,if_false,if_true,mkVal,unLV,List.map,optTmps];rfl,ef⟩ ?_
 clear e0
 clear e
 rintro m e s ⟨i,av,rfl,hi,hS,e8,e9,e10,e3⟩
 by_cases hil:i<B.start.length
 ·have hiI:(i:Int)<(B.start.length:Int):=by omega
  have hw:IntKind.i64.wrap ((i:Int)+1)=((i+1:Nat):Int):=by rw [wrap_i64 _ (by omega) (by omega)];rfl
  have hq0:=(hsok i hil).1
  have hg:B.start[i]? = some (B.start.getD i 0):=by simp [List.getD_eq_getElem?_getD,hil]
  repeat' (first | refine gA (And.intro (@iaN _ _ _ hst.sl) @ints_get) ?_ | (refine gB (And.intro (@iaN _ _ _ hst.sl) @ints_get) ?_;intro bb hbb;cases bb<;>(try simp only [hbs,if_false,reduceCtorEq] at hbb)) | fail)
  ·exfalso;omega
  have hqn:B.start.getD i 0=((B.start.getD i 0).toNat:Int):=by omega
  refine q_run0 (v:=.agg (pcell (0,(B.start.getD i 0).toNat))) (s':=s) (by simp only [LOp.run,lk,sv1,sv2,sv3,Nat.reduceEqDiff,Nat.reduceAdd,Nat.reduceLeDiff,reduceIte,if_false,if_true,mkVal,unLV,List.map,optTmps,evParts,fillParts,pcell,← hqn];rfl) ?_
  refine q_appC (n:=i) (esz:=2) (xv:=.agg (pcell (0,(B.start.getD i 0).toNat))) (yv:=av) (vs:=pcell (0,(B.start.getD i 0).toNat)) ef rfl rfl rfl rfl ef hS (by decide) (by omega) (fun s2 j2 a1 a2 a3 a4=>?_)
  repeat' (first | refine gA trivial ?_ | (refine gB trivial ?_;intro bb hbb;cases bb<;>(try simp only [hbs,if_false,reduceCtorEq] at hbb)) | fail)
  refine ⟨B.start.length - (i+1),by omega,i+1, .sref j2 0 (i+1) 2,rfl,by omega,?_,ef,ef,ef,ef⟩
  rw [take_snoc hg,List.map_append,pcells_append]
  exact a2
 ·have hi':i=B.start.length:=by omega
  subst hi'
  rw [List.take_length] at hS
  repeat' (first | refine gA trivial ?_ | (refine gB trivial ?_;intro bb hbb;cases bb<;>(try simp only [hbs,if_false,reduceCtorEq] at hbb)) | fail)
  ·obtain ⟨r,s',h1,h2,h3⟩:=skc_frz hS (pcells_closed _)
   exact ⟨.inr trivial,r,s',by simp only [lk,sv1,sv2,sv3,Nat.reduceEqDiff,Nat.reduceAdd,Nat.reduceLeDiff,reduceIte,if_false,if_true,mkVal,unLV,List.map,optTmps,e3];exact h1,h3,by simpa using h2,by simp;omega⟩
  ·exfalso;omega
end Go.Proofs.YtgobbogomchnhaaGreatDoor
end
section
set_option linter.unusedSimpArgs false
set_option linter.unusedVariables false
namespace Go.Proofs.YtgobbogomchnhaaGreatDoor
open Go Go.Pv Go.Aut Go.Bfs
open Classical
theorem nints_zints (l:List Nat):nints l=ints (zints l):=by simp [nints,ints,zints]
theorem nints_closed (l:List Nat):LV.closed.closedAll (nints l)=true:=by rw [nints_zints];exact ints_closed _
def RowH (s:St) (v:LV) (l:List Nat):Prop:=(v = .nils∧l=[])∨∃ j m,v = .sref j 0 l.length 1∧s.get j=some (.cells m (nints l))
theorem zints_is {l:List Nat} (hl:l.length≤1000000) (hr:∀ x∈l,x≤1000000):∀ v,Sl v (nints l) l.length→IsInts v (zints l):=fun v h=>by
 have hmx:maxLen=9223372036854775807:=by decide
 refine ⟨by rw [← nints_zints];simpa using h,by simp;omega,fun x hx=>?_⟩
 obtain ⟨i,hi,rfl⟩:=List.mem_map.1 hx
 have:=hr i hi
 constructor<;>omega
theorem frz_rowH {s:St} {v:LV} {l:List Nat} (n:Nat) (h:RowH s v l) (hl:l.length≤1000000) (hr:∀ x∈l,x≤1000000):∃ v' s',frz (n+2) v s=some (v',s')∧IsInts v' (zints l)∧s'.n=s.n∧(∀ id,¬ uses v id→s'.get id=s.get id)∧∀ id,uses v id→∃ m,s'.get id=some (.cells m (nints l)):=by
 rcases h with ⟨rfl,rfl⟩ | ⟨j,m,rfl,hg⟩
 ·exact ⟨.nils,s,frz_closed rfl,zints_is hl hr _ .nil,rfl,fun _ _=>rfl,fun id hu=>absurd hu (uses_nils id)⟩
 ·refine ⟨.simm (nints l) l.length,s.put j (.cells (if m = .mut then .app else m) (nints l)),?_,zints_is hl hr _ (.simm _ _),rfl,fun id hu=>by rw [St.get_put,if_neg fun e=>hu (uses_sref.2 e)],fun id hu=>by
   obtain rfl:=uses_sref.1 hu
   exact ⟨_,by rw [St.get_put,if_pos rfl]⟩⟩
  unfold frz
  simp only [LV.closed,Bool.false_eq_true,if_false,hg,Nat.zero_add,Nat.mul_one,nints_length,Nat.le_refl,if_true,frzAll_closed (nints_closed l),Option.bind_eq_bind,Option.bind_some,List.drop_zero]
  rw [List.take_of_length_le (by simp)]
theorem frz_rowsH (n:Nat):∀ (rv:List LV) (rows:List (List Nat)) (s:St),rv.length=rows.length→(∀ i,i<rows.length→RowH s (rv.getD i .top) (rows.getD i [])∧(rows.getD i []).length≤1000000∧∀ x∈rows.getD i [],x≤1000000) →
  (∀ i k,i<rows.length→k<rows.length→i≠k→∀ id,uses (rv.getD i .top) id→¬ uses (rv.getD k .top) id) →
  ∃ vs s',frz.frzAll (frz (n+2)) rv s=some (vs,s')∧vs.length=rows.length∧(∀ i,i<rows.length→IsInts (vs.getD i .top) (zints (rows.getD i [])))∧s'.n=s.n∧∀ id,(∀ i,i<rows.length→¬ uses (rv.getD i .top) id)→s'.get id=s.get id:=by
 intro rv
 induction rv with
 | nil=>
  intro rows s hl _ _
  have:rows=[]:=List.length_eq_zero_iff.1 hl.symm
  subst this
  exact ⟨[],s,rfl,rfl,fun i hi=>absurd hi (Nat.not_lt_zero _),rfl,fun _ _=>rfl⟩
 | cons v rv ih=>
  intro rows s hl h hd
  match rows,hl with
  | r :: rows, hl =>
   obtain ⟨h0,h1,h2⟩:=h 0 (by simp)
   simp only [List.getD_cons_zero] at h0 h1 h2
   obtain ⟨v',s1,a1,a2,a3,a4,a5⟩:=frz_rowH n h0 h1 h2
   obtain ⟨vs,s2,b1,b2,b3,b4,b5⟩:=ih rows s1 (by simpa using hl) (fun i hi=>by
    obtain ⟨c0,c1,c2⟩:=h (i+1) (by simpa using hi)
    simp only [List.getD_cons_succ] at c0 c1 c2
    refine ⟨?_,c1,c2⟩
    rcases c0 with c0 | ⟨j,m,c0,c3⟩
    ·exact .inl c0
    ·exact .inr ⟨j,m,c0,by rw [a4 j fun hu=>hd 0 (i+1) (by simp) (by simpa using hi) (by omega) j (by simpa using hu) (by simp only [List.getD_cons_succ];exact ⟨0,_,1,c0⟩)];exact c3⟩) (fun i k hi hk hne id hu=>by
    have:=hd (i+1) (k+1) (by simpa using hi) (by simpa using hk) (by omega) id (by simpa using hu)
    simpa using this)
   refine ⟨v'::vs,s2,by simp [frz.frzAll,a1,b1],by simp [b2],fun i hi=>?_,by rw [b4,a3],fun id hid=>?_⟩
   ·cases i with
    | zero=>simpa using a2
    | succ i=>simpa using b3 i (by simpa using hi)
   ·rw [b5 id fun i hi=>by simpa using hid (i+1) (by simpa using hi),a4 id (by simpa using hid 0 (by simp))]
theorem frz_tbl {s:St} {j:Nat} {rv:List LV} {rows:List (List Nat)} (hg:s.get j=some (.cells .mut rv)) (hl:rv.length=rows.length) (hb:rows.length≤1000000) (h:∀ i,i<rows.length→RowH s (rv.getD i .top) (rows.getD i [])∧(rows.getD i []).length≤1000000∧∀ x∈rows.getD i [],x≤1000000)
  (hd:∀ i k,i<rows.length→k<rows.length→i≠k→∀ id,uses (rv.getD i .top) id→¬ uses (rv.getD k .top) id) :
  ∃ vs s',frz.frzAll (frz frzDepth) [.sref j 0 rows.length 1] s=some ([.simm vs rows.length],s')∧IsRows (.simm vs rows.length) (rows.map zints) vs∧s'.get j=some (.cells .app vs)∧s'.n=s.n∧∀ id,id≠j→(∀ i,i<rows.length→¬ uses (rv.getD i .top) id)→s'.get id=s.get id:=by
 obtain ⟨vs,s1,a1,a2,a3,a4,a5⟩:=frz_rowsH 37 rv rows s hl h hd
 have hmx:maxLen=9223372036854775807:=by decide
 refine ⟨vs,s1.put j (.cells .app vs),?_,⟨by simpa using Sl.simm vs rows.length,by simpa using a2,by simp;omega,fun i hi=>?_⟩,by rw [St.get_put,if_pos rfl],a4,fun id h1 h2=>by rw [St.get_put,if_neg h1];exact a5 id h2⟩
 ·have hfr:frz frzDepth (.sref j 0 rows.length 1) s=some (.simm vs rows.length,s1.put j (.cells .app vs)):=by
   have hd:frzDepth=39+1:=rfl
   rw [hd]
   unfold frz
   simp only [LV.closed,Bool.false_eq_true,if_false,hg,Nat.zero_add,Nat.mul_one,hl,Nat.le_refl,if_true,a1,Option.bind_eq_bind,Option.bind_some,List.drop_zero]
   rw [List.take_of_length_le (by omega)]
  simp [frz.frzAll,hfr]
 ·have hi':i<rows.length:=by simpa using hi
  have:=a3 i hi'
  have he:(rows.map zints).getD i []=zints (rows.getD i []):=by simp [List.getD_eq_getElem?_getD,hi']
  rw [he];exact this
end Go.Proofs.YtgobbogomchnhaaGreatDoor
end
