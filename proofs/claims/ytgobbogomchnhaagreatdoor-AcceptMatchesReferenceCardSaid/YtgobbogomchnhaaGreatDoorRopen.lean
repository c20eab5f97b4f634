/- The document's search, opened. -/
import Derived.Test.YtgobbogomchnhaaGreatDoorRsm
import Derived.Test.YtgobbogomchnhaaGreatDoorTurn
import Derived.Test.YtgobbogomchnhaaGreatDoorPvQ
import Derived.Test.YtgobbogomchnhaaGreatDoorWd
import Derived.Test.YtgobbogomchnhaaGreatDoorWod
import Derived.Test.YtgobbogomchnhaaGreatDoorRemn
set_option linter.unusedSimpArgs false
set_option linter.unusedVariables false
section
set_option linter.unusedSimpArgs false
set_option linter.unusedVariables false
namespace Go.Proofs.YtgobbogomchnhaaGreatDoor
open Go Go.Pv Go.Aut Go.Bfs
open Classical
structure SC (v:LV) (B:Bu) (sv nv stv lov:LV) (T:Nat) (acc:Ac Pl) (seev atv tv fv:LV) (rws:List LV):Prop where
 eq:v = .pimm [.int .i64 B.L,sv,nv,stv,lov,seev,atv,tv,fv] 0
 cl:v.closed=true
 see:Sl seev rws T
 rl:rws.length=T
 row:∀ i,i<T→Sl (rws.getD i .top) (rowc acc i B.next.length) B.next.length
 at_:Sl atv (nints (acc.map (·.1.1))) acc.length
 st_:Sl tv (nints (acc.map (·.1.2))) acc.length
 fm_:Sl fv (ints (acc.map (·.2))) acc.length
theorem rowc_cl (acc:Ac Pl) (i n:Nat):LV.closed.closedAll (rowc acc i n)=true:=by
 unfold rowc
 induction List.range n with
 | nil=>rfl
 | cons k l ih=>simp [LV.closed.closedAll,LV.closed,ih]
theorem SM.fv {s:St} {a:Nat} {B:Bu} {sv nv stv lov:LV} {T:Nat} {rvs:List LV} {seev atv tv fv:LV} {acc:Ac Pl} {tag:Nat→Nat} (h:SM s a (hdc B sv nv stv lov) T B.next.length rvs seev atv tv fv acc tag) (hc:LV.closed.closedAll (hdc B sv nv stv lov)=true) :
  ∃ r s' seev' atv' tv' fv' rws,frz frzDepth (.pref a 0) s=some (r,s')∧SC r B sv nv stv lov T acc seev' atv' tv' fv' rws:=by
 have hrows:∀ i,∃ r,i<T→FV (fun _=>True) 1 s (rvs.getD i .top) r∧Sl r (rowc acc i B.next.length) B.next.length:=fun i=>by
  by_cases hi:i<T
  ·obtain ⟨r,h1,h2⟩:=FV.row (T:=fun _=>True) (d:=0) (h.rows i hi) (rowc_cl _ _ _) (fun _ _=>trivial)
   exact ⟨r,fun _=>⟨h1,h2⟩⟩
  ·exact ⟨.nils,fun h=>absurd h hi⟩
 obtain ⟨R,hR⟩:=Classical.axiomOfChoice hrows
 have hl:=h.see.1
 rw [Nat.mul_one] at hl
 have hgR:∀ i,i<T→((List.range T).map R).getD i .top=R i:=fun i hi=>by simp [List.getD_eq_getElem?_getD,hi]
 have hcR:LV.closed.closedAll ((List.range T).map R)=true:=closedAll_of fun j hj=>by
  have hj':j<T:=by simpa using hj
  rw [hgR j hj']
  exact (hR j hj').1.closed
 obtain ⟨seev',hs1,hs2⟩:∃ r,FV (fun _=>True) 2 s seev r∧Sl r ((List.range T).map R) T:=by
  obtain ⟨_,⟨rfl,h0⟩ | ⟨j,rfl,hj,hn,hg⟩⟩:=h.see
  ·subst h0
   exact ⟨.nils,FV.shut rfl, .nil⟩
  ·refine ⟨.simm ((List.range T).map R) T, .inr (.inl ⟨j,0,T,1, .mut,rvs,(List.range T).map R,rfl,?_,trivial,hg,by omega,by simp [hl],hcR,fun i hi=>?_⟩), .simm _ _⟩
   ·rw [List.drop_zero,List.take_of_length_le (by simp)]
   ·rw [hgR i (by omega)]
    exact (hR i (by omega)).1
 obtain ⟨a',a1,a2⟩:=FV.row (T:=fun _=>True) (d:=1) h.at_ (nints_closed _) (fun _ _=>trivial)
 obtain ⟨t',b1,b2⟩:=FV.row (T:=fun _=>True) (d:=1) h.st_ (nints_closed _) (fun _ _=>trivial)
 obtain ⟨f',c1,c2⟩:=FV.row (T:=fun _=>True) (d:=1) h.fm_ (ints_closed _) (fun _ _=>trivial)
 have hcl:LV.closed.closedAll [.int .i64 B.L,sv,nv,stv,lov,seev',a',t',f']=true:=by
  simp only [hdc,LV.closed.closedAll,Bool.and_eq_true] at hc
  simp only [LV.closed.closedAll,hc,hs1.closed,a1.closed,b1.closed,c1.closed,Bool.and_self]
 have hp:FV (fun _=>True) 3 s (.pref a 0) (.pimm [.int .i64 B.L,sv,nv,stv,lov,seev',a',t',f'] 0):=by
  refine .inr (.inr (.inl ⟨a,0, .mut,_,_,rfl,rfl,trivial,h.ga,by simp [hdc],by simp [hdc],hcl,fun i hi=>?_⟩))
  simp only [hdc,LV.closed.closedAll,Bool.and_eq_true] at hc
  match i,hi with
  | 0,_=>exact FV.shut hc.1
  | 1,_=>exact FV.shut hc.2.1
  | 2,_=>exact FV.shut hc.2.2.1
  | 3,_=>exact FV.shut hc.2.2.2.1
  | 4,_=>exact FV.shut hc.2.2.2.2.1
  | 5,_=>exact hs1
  | 6,_=>exact a1
  | 7,_=>exact b1
  | 8,_=>exact c1
  | i+9,hi=>simp [hdc] at hi;omega
 obtain ⟨s',g1,g2⟩:=frzD_fv (by omega) hp
 exact ⟨_,s',seev',a',t',f',(List.range T).map R,g1,rfl,hcl,hs2,by simp,fun i hi=>by rw [hgR i hi];exact (hR i hi).2,a2,b2,c2⟩
theorem q_appS {P:Program} {G:Globs} {K:Env→St→Prop} {l:List LOper} {e:Env} {s:St} {fl fl':Bool} {a b bytes n:Nat} {x y:Opd} {z:List LV} {xv yv:LV} {cells:List LV} (hx:x.ev e=xv) (hxc:cells? xv=some [xv]) (hz:z.length=1) (hy:y.ev (Tr.set e a (.sref s.n 0 1 1))=yv) (hs:SkC s yv 1 cells n) (hb:bytes≤2 ^ 10) (hl:n≤2 ^ 20)
  (h:∀ (s':St) (j:Nat),s.n≤j→SkC s' (.sref j 0 (n+1) 1) 1 (cells++[xv]) (n+1)→s.n≤s'.n→(∀ id,id<s.n→¬ uses yv id→s'.get id=s.get id)→W P G K l (Tr.set (Tr.set e a (.sref s.n 0 1 1)) b (.sref j 0 (n+1) 1)) s') :
  W P G K (⟨some a, .bslice 1 1 z [(0,(1,x))],none,[],fl⟩::⟨some b, .appendK 1 bytes y (.t a),none,[],fl'⟩::l) e s:=by
 have hfill:fillParts (rep 1 z) (evParts e [(0,(1,x))])=some [xv]:=by
  have h1:splice z 0 [xv]=[xv]:=splice_all (vs:=[xv]) (z:=z) hz
  have hr1:rep 1 z=z:=by simp [rep]
  simp only [evParts,List.map,hr1,fillParts,hx,hxc]
  rw [if_pos ⟨rfl,by rw [hz];omega⟩,h1]
 refine q_gen (v:=.sref s.n 0 1 1) (s':=s.new (.cells .mut [xv])) rfl (by simp only [LOp.run,hfill,Option.bind_eq_bind,Option.bind_some]) (by cases fl<;>rfl) trivial ?_
 simp only [Env.put_some]
 have hr:rowOf (s.new (.cells .mut [xv])) 1 1 (.sref s.n 0 1 1)=some [xv]:=rowOf_one (by rw [St.get_new,if_pos rfl])
 have hbig:(n+1)*bytes≤big:=by
  have:(n+1)*bytes≤(2 ^ 20+1)*2 ^ 10:=Nat.mul_le_mul (by omega) hb
  unfold big;omega
 have hya:(Opd.t a).ev (Tr.set e a (.sref s.n 0 1 1)) = .sref s.n 0 1 1:=by simp
 obtain ⟨hcl0,hs⟩:=hs
 have hlen':(cells++[xv]).length=(n+1)*1:=by rw [List.length_append,hcl0];simp
 rcases hs with ⟨rfl,rfl⟩ | ⟨j,rfl,h1,h2,h3⟩
 ·have hc0:cells=[]:=List.length_eq_zero_iff.1 (by rw [hcl0,Nat.zero_mul])
  subst hc0
  have hap:appendLV 1 bytes .nils [xv] 1 (s.new (.cells .mut [xv]))=some (.sref (s.n+1) 0 1 1,(s.new (.cells .mut [xv])).new (.cells .mut [xv])):=by
   simp only [appendLV]
   rw [if_neg (by omega),if_pos ⟨by simpa using hbig,by simp⟩]
   rfl
  refine q_gen (v:=.sref (s.n+1) 0 1 1) (s':=(s.new (.cells .mut [xv])).new (.cells .mut [xv])) rfl (by simp only [LOp.run,hya,hy,lenLV,hr,Option.bind_eq_bind,Option.bind_some,hap]) (by cases fl'<;>rfl) trivial ?_
  refine h _ (s.n+1) (by omega) ⟨hlen', .inr ⟨s.n+1,rfl,by omega,by simp,by rw [St.get_new,St.n_new,if_pos rfl];rfl⟩⟩ (by simp;omega) fun id hid _=>?_
  rw [St.get_new,St.n_new,if_neg (by omega),St.get_new,if_neg (by omega)]
 ·have hg:(s.new (.cells .mut [xv])).get j=some (.cells .mut cells):=by rw [St.get_new,if_neg (by omega)];exact h3
  have hap:appendLV 1 bytes (.sref j 0 n 1) [xv] 1 (s.new (.cells .mut [xv]))=some (.sref (s.n+1) 0 (n+1) 1,((s.new (.cells .mut [xv])).put j (.cells .ro [])).new (.cells .mut (cells++[xv]))):=by
   have hcl:cells.length=n:=by simpa using hcl0
   simp only [appendLV,if_true,hg,Nat.zero_add,Nat.mul_one,hcl,Nat.le_refl,hbig,List.length_cons,List.length_nil,and_self,List.drop_zero]
   rw [List.take_of_length_le (by omega)]
   rfl
  refine q_gen (v:=.sref (s.n+1) 0 (n+1) 1) (s':=((s.new (.cells .mut [xv])).put j (.cells .ro [])).new (.cells .mut (cells++[xv]))) rfl (by simp only [LOp.run,hya,hy,lenLV,hr,Option.bind_eq_bind,Option.bind_some,hap]) (by cases fl'<;>rfl) trivial ?_
  refine h _ (s.n+1) (by omega) ⟨hlen', .inr ⟨s.n+1,rfl,by omega,by simp,by rw [St.get_new,St.n_put,St.n_new,if_pos rfl]⟩⟩ (by simp;omega) fun id hid hu=>?_
  have hne:id≠j:=fun e=>hu (uses_sref.2 e)
  rw [St.get_new,St.n_put,St.n_new,if_neg (by omega),St.get_put,if_neg hne,St.get_new,if_neg (by omega)]
theorem SM.grow {s s':St} {a:Nat} {hd:List LV} {i n:Nat} {rvs:List LV} {seev atv stv fmv:LV} {acc:Ac Pl} {tag:Nat→Nat} (h:SM s a hd i n rvs seev atv stv fmv acc tag) {rv:LV} {j:Nat} (hj:s.n≤j) (hrv:SkC s' rv 1 (rowc acc i n) n) (hru:∀ id,uses rv id→s.n≤id∧id≠j)
  (ga:s'.get a=some (.cells .mut (hd++[.sref j 0 (i+1) 1,atv,stv,fmv]))) (hsee:SkC s' (.sref j 0 (i+1) 1) 1 (rvs++[rv]) (i+1)) (hn:s.n≤s'.n) (hs:∀ id,id<s.n→id≠a→¬ uses seev id→s'.get id=s.get id) :
  SM s' a hd (i+1) n (rvs++[rv]) (.sref j 0 (i+1) 1) atv stv fmv acc (fun id=>if uses rv id then 5+i else if id=j then 1 else tag id):=by
 have hrl:rvs.length=i:=by have:=h.see.1;simpa using this
 have old:∀ id,id<s.n→(if uses rv id then 5+i else if id=j then 1 else tag id)=tag id:=fun id hid=>by
  rw [if_neg (fun hu=>by have:=(hru id hu).1;omega),if_neg (by omega)]
 have keep:∀ id,id<s.n→tag id≠0→tag id≠1→s'.get id=s.get id:=fun id hid t0 t1=>hs id hid (fun e=>t0 (by rw [e];exact h.t0)) fun hu=>t1 (h.t1 id hu)
 refine ⟨by have:=h.an;omega,ga,hsee,fun q hq=>?_,h.at_.mono hn fun id hu=>keep id (h.at_.lt hu) (by rw [h.t2 id hu];decide) (by rw [h.t2 id hu];decide),h.st_.mono hn fun id hu=>keep id (h.st_.lt hu) (by rw [h.t3 id hu];decide) (by rw [h.t3 id hu];decide),h.fm_.mono hn fun id hu=>keep id (h.fm_.lt hu) (by rw [h.t4 id hu];decide) (by rw [h.t4 id hu];decide),by rw [old a h.an];exact h.t0,fun id hu=>by
   have e:=uses_sref.1 hu
   rw [if_neg (fun hu2=>(hru id hu2).2 e),if_pos e],fun id hu=>by rw [old id (h.at_.lt hu)];exact h.t2 id hu,fun id hu=>by rw [old id (h.st_.lt hu)];exact h.t3 id hu,fun id hu=>by rw [old id (h.fm_.lt hu)];exact h.t4 id hu,fun q id hq hu=>?_⟩
 ·by_cases hqi:q=i
  ·subst hqi
   have:(rvs++[rv]).getD q .top=rv:=by simp [List.getD_eq_getElem?_getD,List.getElem?_append_right (show rvs.length≤q by omega),hrl]
   rw [this];exact hrv
  ·have:(rvs++[rv]).getD q .top=rvs.getD q .top:=by simp [List.getD_eq_getElem?_getD,List.getElem?_append_left (show q<rvs.length by omega)]
   rw [this]
   refine (h.rows q (by omega)).mono hn fun id hu=>keep id ((h.rows q (by omega)).lt hu) ?_ ?_
   ·rw [h.t5 q id (by omega) hu];omega
   ·rw [h.t5 q id (by omega) hu];omega
 ·by_cases hqi:q=i
  ·subst hqi
   have:(rvs++[rv]).getD q .top=rv:=by simp [List.getD_eq_getElem?_getD,List.getElem?_append_right (show rvs.length≤q by omega),hrl]
   rw [this] at hu
   rw [if_pos hu]
  ·have:(rvs++[rv]).getD q .top=rvs.getD q .top:=by simp [List.getD_eq_getElem?_getD,List.getElem?_append_left (show q<rvs.length by omega)]
   rw [this] at hu
   rw [old id ((h.rows q (by omega)).lt hu)]
   exact h.t5 q id (by omega) hu
end Go.Proofs.YtgobbogomchnhaaGreatDoor
end
section
set_option linter.unusedSimpArgs false
set_option linter.unusedVariables false
namespace Go.Proofs.YtgobbogomchnhaaGreatDoor
open Go Go.Pv Go.Aut Go.Bfs
open Classical
theorem rowc_nil (i n:Nat):rowc [] i (n+1)=rowc [] i n++[.int .i64 (-1)]:=by
 unfold rowc
 rw [List.range_succ,List.map_append]
 rfl
theorem rowc_zero (acc:Ac Pl) (i:Nat):rowc acc i 0=[]:=rfl
set_option maxHeartbeats 16000000 in
theorem sopen_ok {B:Bu} {sv nv stv lov:LV} {S L:List Int} {ls:List Nat} (hg:SG B sv nv stv lov S L ls) {av:LV} {st:List Int} (hA:IsInts av st) {at_:Nat} (hat:at_<ls.length) (hq:∀ q∈st,0≤q∧q<(B.next.length:Int)) :
  PE 55 [.agg [.int .i64 B.L,sv,nv], .agg [stv,lov], .int .i64 (at_:Int),av] (fun r=>∃ seev atv tv fv rws,SC r B sv nv stv lov ls.length (srun B ls S.length (st.map fun q=>(at_,q.toNat))) seev atv tv fv rws):=by
 have hgg:=hg
 obtain ⟨hst,hnx,hS,hL,hlen,hlet',hok,hbk,hbig,hlt⟩:=hg
 have hc1:=hst.sl.cell
 have hc2:=hnx.closed
 obtain ⟨vs,hn⟩:=hnx
 have hc3:=hn.sl.cell
 have hc4:=hS.sl.cell
 have hc5:=hL.sl.cell
 have hcl1:(LV.agg [.int .i64 B.L,sv,nv]).closed=true:=by simp [LV.closed,LV.closed.closedAll,hst.closed,hc2]
 have hcl2:(LV.agg [stv,lov]).closed=true:=by simp [LV.closed,LV.closed.closedAll,hS.closed,hL.closed]
 have hcl3:LV.closed.closedAll (hdc B sv nv stv lov)=true:=by simp [hdc,LV.closed,LV.closed.closedAll,hst.closed,hc2,hS.closed,hL.closed]
 have hSl:=hS.sl.len
 have hLl:=hL.sl.len
 have hNl:=hn.sl.len
 have hAl:=hA.sl.len
 have hAn:=hA.len
 have hmx:maxLen=9223372036854775807:=by decide
 have hnb:B.next.length≤3000:=hok.2.2.1
 have hw2:IntKind.i64.wrap ((S.length:Int)+(L.length:Int))=(ls.length:Int):=by rw [wrap_i64 _ (by omega) (by omega)];omega
 refine q_fnEx (t:=8) hm Tryz.func55 (by decide +kernel) c55 (Nat.le_of_ble_eq_true rfl) (by simp only [LV.closed.closedAll,hcl1,hcl2,hA.closed];rfl) rfl ?_
 have e0:(envOf [.agg [.int .i64 B.L,sv,nv], .agg [stv,lov], .int .i64 (at_:Int),av]).at 0 = .agg [.int .i64 B.L,sv,nv]:=by rw [envOf_at];rfl
 have e1:(envOf [.agg [.int .i64 B.L,sv,nv], .agg [stv,lov], .int .i64 (at_:Int),av]).at 1 = .agg [stv,lov]:=by rw [envOf_at];rfl
 have e2:(envOf [.agg [.int .i64 B.L,sv,nv], .agg [stv,lov], .int .i64 (at_:Int),av]).at 2 = .int .i64 (at_:Int):=by rw [envOf_at];rfl
 have e3:(envOf [.agg [.int .i64 B.L,sv,nv], .agg [stv,lov], .int .i64 (at_:Int),av]).at 3=av:=by rw [envOf_at];rfl
 generalize envOf [.agg [.int .i64 B.L,sv,nv], .agg [stv,lov], .int .i64 (at_:Int),av]=e at *
 unfold l55
 dsimp only [jA,jG,qN,qF,qS,qI,qA,qB,qC,qO,qG,qm,ql]
 repeat' (first | refine gA trivial ?_ | (refine gB trivial ?_;intro bb hbb;cases bb<;>(try simp only [hbs,if_false,reduceCtorEq] at hbb)) | apply qc_seq | fail)
 refine q_run0 (v:=.agg [.int .i64 B.L,sv,nv,stv,lov, .nils, .nils, .nils, .nils]) (s':=St.empty) (by simp [LOp.run,evParts,fillParts,lk,sv1,sv2,sv3,Nat.reduceEqDiff,Nat.reduceAdd,Nat.reduceLeDiff,reduceIte,if_false,if_true,mkVal,unLV,List.map,optTmps,hc1,hc3,hc4,hc5,splice]) ?_
 repeat' (first | refine gA trivial ?_ | (refine gB trivial ?_;intro bb hbb;cases bb<;>(try simp only [hbs,if_false,reduceCtorEq] at hbb)) | apply qc_seq | fail)
 refine qc_gen (fun e t=>(∃ tag,SM t 0 (hdc B sv nv stv lov) 0 B.next.length [] .nils .nils .nils .nils [] tag)∧e.at 2 = .int .i64 (at_:Int)∧e.at 3=av∧e.at 4 = .pimm [.int .i64 B.L,sv,nv] 0∧e.at 5 = .pimm [stv,lov] 0∧e.at 9 = .pref 0 0∧e.at 10 = .int .i64 0) ?_ ?_
 ·refine ⟨⟨fun _=>0,⟨by simp [n_empty],by simp [St.get_new,n_empty,hdc],SkC.nil _ _,fun i hi=>by omega,SkC.nil _ _,SkC.nil _ _,SkC.nil _ _,rfl,fun id h=>absurd h (uses_nils id),fun id h=>absurd h (uses_nils id),fun id h=>absurd h (uses_nils id),fun id h=>absurd h (uses_nils id),fun i id hi=>by omega⟩⟩,ef,ef,ef,ef,ef,ef⟩
 clear e0 e1 e2 e3
 clear e
 rintro e t ⟨⟨tag,hM⟩,e2,e3,e4,e5,e9,e10⟩
 refine qc_mono (fun o e t=>o = .jmp (.exit 0)∧(∃ rvs seev tag,SM t 0 (hdc B sv nv stv lov) ls.length B.next.length rvs seev .nils .nils .nils [] tag)∧e.at 2 = .int .i64 (at_:Int)∧e.at 3=av∧e.at 9 = .pref 0 0) ?_ ?_
 ·refine qc_loop (fun m e t=>∃ (i:Nat) (rvs:List LV) (seev:LV) (tag:Nat→Nat),m=ls.length - i∧i≤ls.length∧SM t 0 (hdc B sv nv stv lov) i B.next.length rvs seev .nils .nils .nils [] tag∧e.at 2 = .int .i64 (at_:Int)∧e.at 3=av∧e.at 4 = .pimm [.int .i64 B.L,sv,nv] 0∧e.at 5 = .pimm [stv,lov] 0∧e.at 9 = .pref 0 0∧e.at 10 = .int .i64 (i:Int)) _
   ⟨0,[], .nils,tag,rfl,by omega,hM,e2,e3,e4,e5,e9,e10⟩ ?_
  clear hM e2 e3 e4 e5 e9 e10 tag
  clear e t
  rintro m e t ⟨i,rvs,seev,tag,rfl,hi,hM,e2,e3,e4,e5,e9,e10⟩
  by_cases hil:i<ls.length
  ·have hiI:(i:Int)<(ls.length:Int):=by omega
   have hw:IntKind.i64.wrap ((i:Int)+1)=((i+1:Nat):Int):=by rw [wrap_i64 _ (by omega) (by omega)];rfl
   repeat' (first | refine gA (And.intro @hSl (And.intro @hLl @hw2)) ?_ | (refine gB (And.intro @hSl (And.intro @hLl @hw2)) ?_;intro bb hbb;cases bb<;>(try simp only [hbs,if_false,reduceCtorEq] at hbb)) | apply qc_seq | fail)
   ·exfalso;omega
   refine qc_mono (fun o e t'=>o = .jmp (.exit 2)∧(∃ rv,SkC t' rv 1 (rowc [] i B.next.length) B.next.length∧(∀ id,uses rv id→t.n≤id)∧e.at 11=rv)∧t.n≤t'.n∧(∀ id,id<t.n→t'.get id=t.get id)∧e.at 2 = .int .i64 (at_:Int)∧e.at 3=av∧e.at 4 = .pimm [.int .i64 B.L,sv,nv] 0∧e.at 5 = .pimm [stv,lov] 0∧e.at 9 = .pref 0 0∧e.at 10 = .int .i64 (i:Int)) ?_ ?_
   ·refine qc_loop (fun m e t'=>∃ (k:Nat) (rv:LV),m=B.next.length - k∧k≤B.next.length∧SkC t' rv 1 (rowc [] i k) k∧(∀ id,uses rv id→t.n≤id)∧t.n≤t'.n∧(∀ id,id<t.n→t'.get id=t.get id)∧e.at 2 = .int .i64 (at_:Int)∧e.at 3=av∧e.at 4 = .pimm [.int .i64 B.L,sv,nv] 0∧e.at 5 = .pimm [stv,lov] 0∧e.at 9 = .pref 0 0∧e.at 10 = .int .i64 (i:Int)∧e.at 11=rv∧e.at 12 = .int .i64 (k:Int)) _
     ⟨0, .nils,rfl,by omega,by rw [rowc_zero];exact SkC.nil _ _,fun id h=>absurd h (uses_nils id),Nat.le_refl _,fun _ _=>rfl,ef,ef,ef,ef,ef,ef,ef,by simp only [lk,sv1,sv2,sv3,Nat.reduceEqDiff,Nat.reduceAdd,Nat.reduceLeDiff,reduceIte,if_false,if_true,mkVal,unLV,List.map,optTmps];rfl⟩ ?_
    clear e2 e3 e4 e5 e9 e10
    clear e
    rintro m e t' ⟨k,rv,rfl,hk,hR,hu,hn',hfr,e2,e3,e4,e5,e9,e10,e11,e12⟩
    by_cases hkl:k<B.next.length
    ·have hkI:(k:Int)<(B.next.length:Int):=by omega
     have hwk:IntKind.i64.wrap ((k:Int)+1)=((k+1:Nat):Int):=by rw [wrap_i64 _ (by omega) (by omega)];rfl
     repeat' (first | refine gA @hNl ?_ | (refine gB @hNl ?_;intro bb hbb;cases bb<;>(try simp only [hbs,if_false,reduceCtorEq] at hbb)) | apply qc_seq | fail)
     ·exfalso;omega
     refine q_appC (bytes:=8) (esz:=1) (n:=k) (xv:=.int .i64 (-1)) (yv:=rv) (vs:=[.int .i64 (-1)]) (cells:=rowc [] i k) ef rfl rfl rfl rfl ef hR (by decide) (by omega) (fun s2 j1 p1 p2 p3 p4=>?_)
     repeat' (first | refine gA trivial ?_ | (refine gB trivial ?_;intro bb hbb;cases bb<;>(try simp only [hbs,if_false,reduceCtorEq] at hbb)) | apply qc_seq | fail)
     exact ⟨B.next.length - (k+1),by omega,k+1, .sref j1 0 (k+1) 1,rfl,by omega,by rw [rowc_nil];exact p2,fun id hu=>by rw [uses_sref.1 hu];omega,by omega,fun id hid=>(p4 id (by omega) fun hu2=>by have:=hu id hu2;omega).trans (hfr id hid),ef,ef,ef,ef,ef,ef,ef,ef⟩
    ·have hk':k=B.next.length:=by omega
     subst hk'
     repeat' (first | refine gA @hNl ?_ | (refine gB @hNl ?_;intro bb hbb;cases bb<;>(try simp only [hbs,if_false,reduceCtorEq] at hbb)) | apply qc_seq | fail)
     ·exact ⟨trivial,⟨rv,hR,hu,ef⟩,hn',hfr,ef,ef,ef,ef,ef,ef⟩
     ·exfalso;omega
   ·clear e2 e3 e4 e5 e9 e10
    clear e
    rintro o e t' ⟨rfl,⟨rv,hR,hu,e11⟩,hn',hfr,e2,e3,e4,e5,e9,e10⟩
    have hM':=hM.mono hn' fun id hu=>hfr id (hM.lt hu)
    have h0n:=hM.an
    have hg0:t'.get 0=some (.cells .mut [.int .i64 B.L,sv,nv,stv,lov,seev, .nils, .nils, .nils]):=hM'.ga
    have k5:loadLV none (.pref 0 5) t'=some seev:=by simp [loadLV,hg0,mkVal]
    have hrc:=hR.cell
    have hrcc:cells? rv=some [rv]:=cells_cell hrc
    repeat' (first | refine gA @k5 ?_ | (refine gB @k5 ?_;intro bb hbb;cases bb<;>(try simp only [hbs,if_false,reduceCtorEq] at hbb)) | apply qc_seq | fail)
    refine q_appS (bytes:=24) (n:=i) (xv:=rv) (yv:=seev) (cells:=rvs) ef hrcc rfl ef hM'.see (by decide) (by omega) (fun s2 j1 p1 p2 p3 p4=>?_)
    have h0s:¬ uses seev 0:=fun hu=>by have h1:=hM.t1 0 hu;have h2:=hM.t0;omega
    repeat' (first | refine gA trivial ?_ | (refine gB trivial ?_;intro bb hbb;cases bb<;>(try simp only [hbs,if_false,reduceCtorEq] at hbb)) | apply qc_seq | fail)
    refine q_storeG (i:=0) (o:=5) (n:=1) (cs:=[.int .i64 B.L,sv,nv,stv,lov,seev, .nils, .nils, .nils]) (vs:=[.sref j1 0 (i+1) 1]) (cs':=[.int .i64 B.L,sv,nv,stv,lov, .sref j1 0 (i+1) 1, .nils, .nils, .nils]) (v:=.sref j1 0 (i+1) 1) ef ef rfl (by rw [p4 0 (by omega) h0s];exact hg0) rfl (by simp) rfl ?_
    repeat' (first | refine gA trivial ?_ | (refine gB trivial ?_;intro bb hbb;cases bb<;>(try simp only [hbs,if_false,reduceCtorEq] at hbb)) | apply qc_seq | fail)
    refine ⟨ls.length - (i+1),by omega,i+1,rvs++[rv], .sref j1 0 (i+1) 1,_,rfl,by omega,hM.grow (j:=j1) (by omega) (hR.mono (by rw [St.n_put];omega) fun id hu'=>by
      have:=hu id hu'
      have h3:=hR.lt hu'
      rw [St.get_put,if_neg (by omega)]
      exact p4 id h3 fun hu2=>by have:=hM.see.lt hu2;omega) (fun id hu'=>⟨hu id hu',by have:=hR.lt hu';omega⟩) (by rw [St.get_put,if_pos rfl];rfl) (p2.mono (by rw [St.n_put];exact Nat.le_refl _) fun id hu'=>by rw [St.get_put,if_neg (by have:=uses_sref.1 hu';omega)]) (by rw [St.n_put];omega) (fun id hid h1 h2=>by
      rw [St.get_put,if_neg h1,p4 id (by omega) h2]
      exact hfr id hid),ef,ef,ef,ef,ef,ef⟩
  ·have hi':i=ls.length:=by omega
   subst hi'
   repeat' (first | refine gA (And.intro @hSl (And.intro @hLl @hw2)) ?_ | (refine gB (And.intro @hSl (And.intro @hLl @hw2)) ?_;intro bb hbb;cases bb<;>(try simp only [hbs,if_false,reduceCtorEq] at hbb)) | apply qc_seq | fail)
   ·exact ⟨trivial,⟨rvs,seev,tag,hM⟩,ef,ef,ef⟩
   ·exfalso;omega
 ·clear hM e2 e3 e4 e5 e9 e10 tag
  clear e t
  rintro o e t ⟨rfl,⟨rvs,seev,tag,hM⟩,e2,e3,e9⟩
  repeat' (first | refine gA @hAl ?_ | (refine gB @hAl ?_;intro bb hbb;cases bb<;>(try simp only [hbs,if_false,reduceCtorEq] at hbb)) | apply qc_seq | fail)
  have hin:∀ p∈st.map (fun q=>(at_,q.toNat)),InT B ls p:=fun p hp=>by
   obtain ⟨q,hq',rfl⟩:=List.mem_map.1 hp
   have:=hq q hq'
   exact ⟨hat,by show q.toNat<_;omega⟩
  have hNb:ls.length*B.next.length≤600000:=by
   have:ls.length*B.next.length≤200*3000:=Nat.mul_le_mul hbig hok.2.2.1
   omega
  have hOk0:Bfs.Ok (tkOf B ls S.length).succ (st.map fun q=>(at_,q.toNat)) (InT B ls) (adds [] (st.map fun q=>(at_,q.toNat)) (-1)):=Ok.first hin
  refine qc_mono (fun o e t=>o = .jmp (.exit 4)∧(∃ av tv fv tag,SM t 0 (hdc B sv nv stv lov) ls.length B.next.length rvs seev av tv fv (adds [] (st.map fun q=>(at_,q.toNat)) (-1)) tag)∧e.at 9 = .pref 0 0) ?_ ?_
  ·refine qc_loop (fun m e t=>∃ (j:Nat) (a1 t1 f1:LV) (tag:Nat→Nat),m=st.length - j∧j≤st.length∧SM t 0 (hdc B sv nv stv lov) ls.length B.next.length rvs seev a1 t1 f1 (adds [] ((st.take j).map fun q=>(at_,q.toNat)) (-1)) tag∧e.at 2 = .int .i64 (at_:Int)∧e.at 3=av∧e.at 9 = .pref 0 0∧e.at 13 = .int .i64 (j:Int)) _
    ⟨0, .nils, .nils, .nils,tag,rfl,by omega,by simpa [adds] using hM,ef,ef,ef,by simp only [lk,sv1,sv2,sv3,Nat.reduceEqDiff,Nat.reduceAdd,Nat.reduceLeDiff,reduceIte,if_false,if_true,mkVal,unLV,List.map,optTmps];rfl⟩ ?_
   clear hM e2 e3 e9 tag
   clear e t
   rintro m e t ⟨j,a1,t1,f1,tag,rfl,hj,hM,e2,e3,e9,e13⟩
   by_cases hjl:j<st.length
   ·have hjI:(j:Int)<(st.length:Int):=by omega
    have hwj:IntKind.i64.wrap ((j:Int)+1)=((j+1:Nat):Int):=by rw [wrap_i64 _ (by omega) (by omega)];rfl
    have hmem:st.getD j 0∈st:=by
     rw [List.getD_eq_getElem?_getD,List.getElem?_eq_getElem hjl]
     exact List.getElem_mem hjl
    have hqj:=hq _ hmem
    have hgj:st[j]? = some (st.getD j 0):=by simp [List.getD_eq_getElem?_getD,hjl]
    have hlj:(adds [] ((st.take j).map fun q=>(at_,q.toNat)) (-1)).length≤600000:=by
     have h1:=adds_ok (succ:=(tkOf B ls S.length).succ) hin j
     have:=inT_len h1.nd fun x hx=>by obtain ⟨y,hy,rfl⟩:=List.mem_map.1 hx;exact h1.rng y hy
     rw [List.length_map,← List.map_take] at this
     omega
    generalize hqd:st.getD j 0=qv at *
    obtain ⟨q,rfl⟩:∃ q:Nat,qv=(q:Int):=⟨qv.toNat,by omega⟩
    have lq:loadLV none (.pimm (ints st) j) t=some (.int .i64 (q:Int)):=by
     have:=ints_get (l:=st) (i:=j) hjI
     rw [hqd] at this
     exact load_imm this
    repeat' (first | refine gA (And.intro @hAl (And.intro (@iaN _ _ _ hA.sl) @lq)) ?_ | (refine gB (And.intro @hAl (And.intro (@iaN _ _ _ hA.sl) @lq)) ?_;intro bb hbb;cases bb<;>(try simp only [hbs,if_false,reduceCtorEq] at hbb)) | apply qc_seq | fail)
    ·exfalso;omega
    refine q_call wN rfl (by simp only [List.map,lk,sv1,sv2,sv3,Nat.reduceEqDiff,Nat.reduceAdd,Nat.reduceLeDiff,reduceIte,if_false,if_true,mkVal,unLV,List.map,optTmps]) (CallOk.mono (sadd_ok hM rfl (i:=at_) (k:=q) (b:=-1) hat (by omega) (by omega)) fun r t2 hh=>⟨trivial,?_⟩)
    obtain ⟨av',tv',fv',tg',hM',hn',hU',hfr'⟩:=hh
    simp only [Env.put_some]
    repeat' (first | refine gA trivial ?_ | (refine gB trivial ?_;intro bb hbb;cases bb<;>(try simp only [hbs,if_false,reduceCtorEq] at hbb)) | apply qc_seq | fail)
    refine ⟨st.length - (j+1),by omega,j+1,av',tv',fv',tg',rfl,by omega,?_,ef,ef,ef,ef⟩
    rw [take_snoc hgj,List.map_append,List.map_cons,List.map_nil,adds_snoc]
    exact hM'
   ·have hj':j=st.length:=by omega
    subst hj'
    rw [List.take_length] at hM
    repeat' (first | refine gA @hAl ?_ | (refine gB @hAl ?_;intro bb hbb;cases bb<;>(try simp only [hbs,if_false,reduceCtorEq] at hbb)) | apply qc_seq | fail)
    ·exact ⟨trivial,⟨a1,t1,f1,tag,hM⟩,ef⟩
    ·exfalso;omega
  ·clear hM e2 e3 e9 tag
   clear e t
   rintro o e t ⟨rfl,⟨a1,t1,f1,tag,hM⟩,e9⟩
   repeat' (first | refine gA trivial ?_ | (refine gB trivial ?_;intro bb hbb;cases bb<;>(try simp only [hbs,if_false,reduceCtorEq] at hbb)) | apply qc_seq | fail)
   refine q_call wN rfl (by simp only [List.map,lk,sv1,sv2,sv3,Nat.reduceEqDiff,Nat.reduceAdd,Nat.reduceLeDiff,reduceIte,if_false,if_true,mkVal,unLV,List.map,optTmps]) (CallOk.mono (srun_call hgg hM hOk0) fun r t2 hh=>⟨trivial,?_⟩)
   obtain ⟨av',tv',fv',tg',hM',hn',hU',hfr'⟩:=hh
   simp only [Env.put_some]
   repeat' (first | refine gA trivial ?_ | (refine gB trivial ?_;intro bb hbb;cases bb<;>(try simp only [hbs,if_false,reduceCtorEq] at hbb)) | apply qc_seq | fail)
   obtain ⟨r,s',seev',atv',tv2,fv2,rws,z1,z2⟩:=hM'.fv hcl3
   exact ⟨.inr trivial,r,s',by simp only [lk,sv1,sv2,sv3,Nat.reduceEqDiff,Nat.reduceAdd,Nat.reduceLeDiff,reduceIte,if_false,if_true,mkVal,unLV,List.map,optTmps];exact z1,z2.cl,seev',atv',tv2,fv2,rws,z2⟩
end Go.Proofs.YtgobbogomchnhaaGreatDoor
end
section
set_option linter.unusedSimpArgs false
set_option linter.unusedVariables false
namespace Go.Proofs.YtgobbogomchnhaaGreatDoor
open Go Go.Pv
open Classical
theorem q_app02 {P:Program} {G:Globs} {K:Env→St→Prop} {l:List LOper} {e:Env} {s:St} {fl:Bool} {chk:List (Nat × Option (Nat × Bool) × LOp)} {d esz bytes j n:Nat} {x y:Opd} {yv:LV} {cells:List LV} (hx:x.ev e = .sref j 0 0 esz) (hg:s.get j=some (.cells .mut [])) (hy:y.ev e=yv) (hS:Sl yv cells n) (hc:LV.closed.closedAll cells=true) (hl:cells.length=n*esz) (hb:n*bytes≤big)
  (hck:∀ s':St,s'.n=s.n+1→(∀ id,id<s.n→id≠j→s'.get id=s.get id)→Chks chk (Tr.set e d (.sref s.n 0 n esz)) s')
  (h:∀ s':St,s'.n=s.n+1→s'.get s.n=some (.cells .mut cells)→(∀ id,id<s.n→id≠j→s'.get id=s.get id)→W P G K l (Tr.set e d (.sref s.n 0 n esz)) s'):W P G K (⟨some d, .append esz bytes x y,none,chk,fl⟩::l) e s:=by
 have hlen:lenLV yv=some n:=by cases hS<;>rfl
 have hrow:rowOf s esz n yv=some cells:=by
  cases hS with
  | nil=>rfl
  | zs=>rfl
  | simm=>
   simp only [rowOf,Nat.le_refl,hl,and_self,if_true]
   rw [List.take_of_length_le (by omega)]
 have hap:appendLV esz bytes (.sref j 0 0 esz) cells n s=some (.sref s.n 0 n esz,(s.put j (.cells .ro [])).new (.cells .mut cells)):=by
  simp [appendLV,hg,hb,hl]
  rfl
 have b1:((s.put j (.cells .ro [])).new (.cells .mut cells)).n=s.n+1:=rfl
 have b2:((s.put j (.cells .ro [])).new (.cells .mut cells)).get s.n=some (.cells .mut cells):=by rw [St.get_new,St.n_put,if_pos rfl]
 have b3:∀ id,id<s.n→id≠j→((s.put j (.cells .ro [])).new (.cells .mut cells)).get id=s.get id:=fun id h1 h2=>by rw [St.get_new,St.n_put,if_neg (by omega),St.get_put,if_neg h2]
 exact q_gen (v:=.sref s.n 0 n esz) (s':=(s.put j (.cells .ro [])).new (.cells .mut cells)) rfl (by simp [LOp.run,hx,hy,hlen,hrow,frzTry_all hc,hap]) (by cases fl<;>rfl) (hck _ b1 b3) (h _ b1 b2 b3)
theorem q_bsl2 {P:Program} {G:Globs} {K:Env→St→Prop} {l:List LOper} {e:Env} {s:St} {fl:Bool} {chk:List (Nat × Option (Nat × Bool) × LOp)} {d esz:Nat} {x:Opd} {z:List LV} {xv:LV} {vs:List LV} (hx:x.ev e=xv) (hxc:cells? xv=some vs) (hz:z.length=esz) (hvs:vs.length=esz)
  (hck:∀ s',s'.n=s.n+1→s'.get s.n=some (.cells .mut vs)→(∀ id,id<s.n→s'.get id=s.get id)→Chks chk (Tr.set e d (.sref s.n 0 1 esz)) s')
  (h:∀ s',s'.n=s.n+1→s'.get s.n=some (.cells .mut vs)→(∀ id,id<s.n→s'.get id=s.get id)→W P G K l (Tr.set e d (.sref s.n 0 1 esz)) s'):W P G K (⟨some d, .bslice esz 1 z [(0,(esz,x))],none,chk,fl⟩::l) e s:=by
 have hfill:fillParts (rep 1 z) (evParts e [(0,(esz,x))])=some vs:=by
  have h1:splice z 0 vs=vs:=by
   have:=splice_all (vs:=vs) (z:=z) (by rw [hz,hvs])
   exact this
  have hr1:rep 1 z=z:=by simp [rep]
  simp only [evParts,List.map,hr1,fillParts,hx,hxc,hvs]
  rw [if_pos ⟨trivial,by rw [hz];omega⟩,h1]
 have a1:(s.new (.cells .mut vs)).n=s.n+1:=rfl
 have a2:(s.new (.cells .mut vs)).get s.n=some (.cells .mut vs):=by rw [St.get_new,if_pos rfl]
 have a3:∀ id,id<s.n→(s.new (.cells .mut vs)).get id=s.get id:=fun id hid=>by rw [St.get_new,if_neg (by omega)]
 refine q_gen (v:=.sref s.n 0 1 esz) (s':=s.new (.cells .mut vs)) rfl (by simp only [LOp.run,hfill,Option.bind_eq_bind,Option.bind_some]) (by cases fl<;>rfl) (hck _ a1 a2 a3) (h _ a1 a2 a3)
end Go.Proofs.YtgobbogomchnhaaGreatDoor
end
section
set_option linter.unusedSimpArgs false
set_option linter.unusedVariables false
namespace Go.Proofs.YtgobbogomchnhaaGreatDoor
open Go Go.Pv
open Classical
theorem q_appSl {P:Program} {G:Globs} {K:Env→St→Prop} {l:List LOper} {e:Env} {s:St} {fl:Bool} {chk:List (Nat × Option (Nat × Bool) × LOp)} {d a j n:Nat} {x y:Opd} {yv:LV} {A cells:List LV} (hx:x.ev e = .sref j 0 a 1) (hg:s.get j=some (.cells .mut A)) (ha:A.length=a) (hy:y.ev e=yv) (hS:Sl yv cells n) (hc:LV.closed.closedAll cells=true) (hl:cells.length=n) (hb:a+n≤2 ^ 20)
  (hck:∀ s':St,s'.n=s.n+1→(∀ id,id<s.n→id≠j→s'.get id=s.get id)→Chks chk (Tr.set e d (.sref s.n 0 (a+n) 1)) s')
  (h:∀ s':St,s'.n=s.n+1→s'.get s.n=some (.cells .mut (A++cells))→(∀ id,id<s.n→id≠j→s'.get id=s.get id)→W P G K l (Tr.set e d (.sref s.n 0 (a+n) 1)) s'):W P G K (⟨some d, .append 1 8 x y,none,chk,fl⟩::l) e s:=by
 have hlen:lenLV yv=some n:=by cases hS<;>rfl
 have hrow:rowOf s 1 n yv=some cells:=by
  cases hS with
  | nil=>rfl
  | zs=>rfl
  | simm=>exact rowOf_simm hl
 have b1:((s.put j (.cells .ro [])).new (.cells .mut (A++cells))).n=s.n+1:=rfl
 have b2:((s.put j (.cells .ro [])).new (.cells .mut (A++cells))).get s.n=some (.cells .mut (A++cells)):=by rw [St.get_new,St.n_put,if_pos rfl]
 have b3:∀ id,id<s.n→id≠j→((s.put j (.cells .ro [])).new (.cells .mut (A++cells))).get id=s.get id:=fun id h1 h2=>by rw [St.get_new,St.n_put,if_neg (by omega),St.get_put,if_neg h2]
 have hap:=appendLV_mutN (b:=8) hg ha hl (by decide) hb
 exact q_gen (v:=.sref s.n 0 (a+n) 1) (s':=(s.put j (.cells .ro [])).new (.cells .mut (A++cells))) rfl (by simp [LOp.run,hx,hy,hlen,hrow,frzTry_all hc,hap]) (by cases fl<;>rfl) (hck _ b1 b3) (h _ b1 b2 b3)
end Go.Proofs.YtgobbogomchnhaaGreatDoor
end
section
set_option linter.unusedSimpArgs false
set_option linter.unusedVariables false
namespace Go.Proofs.YtgobbogomchnhaaGreatDoor
open Go Go.Pv
open Classical
set_option maxHeartbeats 4000000 in
theorem rrep_ok {v:LV} {l:List Int} (hv:IsInts v l) {n:Nat} (h1:1≤n) (h2:n≤l.length) (hl:l.length≤1000000):PO 123 [v, .int .i64 (n:Int)] (.bool (decide (Per l n))):=by
 have hvl:=hv.sl.len
 have hrem:=rem_nat l.length (m:=n) (by omega)
 refine q_fn (t:=4) hm Tryz.func123 (by decide +kernel) c123 (Nat.le_of_ble_eq_true rfl) (by simp [LV.closed.closedAll,hv.closed];rfl) rfl rfl ?_
 have e0:(envOf [v, .int .i64 (n:Int)]).at 0=v:=by rw [envOf_at];rfl
 have e1:(envOf [v, .int .i64 (n:Int)]).at 1 = .int .i64 (n:Int):=by rw [envOf_at];rfl
 generalize envOf [v, .int .i64 (n:Int)]=e at *
 unfold l123
 dsimp only [jA,jB,qM,qL,qS,qI,qA,qB,qK,qm]
 repeat' (first | refine gA (And.intro @hvl @hrem) ?_ | (refine gB (And.intro @hvl @hrem) ?_;intro bb hbb;cases bb<;>(try simp only [hbs,if_false,reduceCtorEq] at hbb)) | apply qc_seq | fail)
 rotate_left
 ·refine ⟨.inr trivial,?_⟩
  simp only [lk,sv1,sv2,sv3,Nat.reduceEqDiff,Nat.reduceAdd,Nat.reduceLeDiff,reduceIte,if_false,if_true,mkVal,unLV,List.map,optTmps]
  exact bool_f fun h=>hbb (by have:=h.2.2.1;omega)
 have hmod:l.length % n=0:=by omega
 refine qc_loop (fun m e s=>∃ i:Nat,m=l.length - i∧n≤i∧i≤l.length∧(∀ k,n≤k→k<i→l.getD k 0=l.getD (k - n) 0)∧e.at 0=v∧e.at 1 = .int .i64 (n:Int)∧e.at 5 = .int .i64 (i:Int)) _
  ⟨n,rfl,Nat.le_refl _,h2,fun k hk1 hk2=>by omega,ef,ef,ef⟩ ?_
 clear e0 e1 hbb
 clear e
 rintro m e s ⟨i,rfl,hni,hi,heq,e0,e1,e5⟩
 by_cases hil:i<l.length
 ·have hiI:(i:Int)<(l.length:Int):=by omega
  have hw:=wrap_succ hiI hv.len
  have hws:IntKind.i64.wrap ((i:Int) - (n:Int))=((i - n:Nat):Int):=by rw [wrap_i64 _ (by omega) (by omega)];omega
  have hjI:((i - n:Nat):Int)<(l.length:Int):=by omega
  repeat' (first | refine gA (And.intro @hvl (And.intro (@iaN _ _ _ hv.sl) (And.intro @ints_get @hws))) ?_ | (refine gB (And.intro @hvl (And.intro (@iaN _ _ _ hv.sl) (And.intro @ints_get @hws))) ?_;intro bb hbb;cases bb<;>(try simp only [hbs,if_false,reduceCtorEq] at hbb)) | apply qc_seq | fail)
  all_goals first
   | (exfalso;omega)
   | skip
  ·refine ⟨l.length - (i+1),by omega,i+1,rfl,by omega,by omega,fun k hk1 hk2=>?_,?_⟩
   ·by_cases h:k<i
    ·exact heq k hk1 h
    ·obtain rfl:k=i:=by omega
     exact hbb
   ·simp only [lk,sv1,sv2,sv3,Nat.reduceEqDiff,Nat.reduceAdd,Nat.reduceLeDiff,reduceIte,if_false,if_true,mkVal,unLV,List.map,optTmps,hw,e0,e1,and_self]
  ·refine ⟨.inr trivial,?_⟩
   simp only [lk,sv1,sv2,sv3,Nat.reduceEqDiff,Nat.reduceAdd,Nat.reduceLeDiff,reduceIte,if_false,if_true,mkVal,unLV,List.map,optTmps]
   exact bool_f fun h=>hbb (by
    have:=h.2.2.2 (i - n) (by omega)
    rwa [show n+(i - n)=i by omega] at this)
 ·obtain rfl:i=l.length:=by omega
  repeat' (first | refine gA @hvl ?_ | (refine gB @hvl ?_;intro bb hbb;cases bb<;>(try simp only [hbs,if_false,reduceCtorEq] at hbb)) | apply qc_seq | fail)
  all_goals first
   | (exfalso;omega)
   | skip
  refine ⟨.inr trivial,?_⟩
  simp only [lk,sv1,sv2,sv3,Nat.reduceEqDiff,Nat.reduceAdd,Nat.reduceLeDiff,reduceIte,if_false,if_true,mkVal,unLV,List.map,optTmps]
  exact bool_t ⟨h1,h2,hmod,fun i hi=>by
   have:=heq (n+i) (by omega) (by omega)
   rwa [Nat.add_sub_cancel_left] at this⟩
end Go.Proofs.YtgobbogomchnhaaGreatDoor
end
section
set_option linter.unusedSimpArgs false
set_option linter.unusedVariables false
namespace Go.Proofs.YtgobbogomchnhaaGreatDoor
open Go Go.Pv
open Classical
def sh1 (l:List Int):List Int:=l.getD (l.length - 1) 0::l.take (l.length - 1)
theorem sh1_len {l:List Int} (h:0<l.length):(sh1 l).length=l.length:=by simp [sh1];omega
theorem rot_last {l:List Int} {b:Nat} (hb:b<l.length):(rot l ((l.length - b) % l.length)).getD (l.length - 1) 0=l.getD (l.length - 1 - b) 0:=by
 have hn:0<l.length:=by omega
 rw [rot_get (Nat.mod_lt _ hn) (by omega)]
 congr 1
 by_cases h0:b=0
 ·subst h0
  rw [Nat.sub_zero,Nat.mod_self,Nat.add_zero,Nat.mod_eq_of_lt (by omega),Nat.sub_zero]
 ·rw [Nat.mod_eq_of_lt (by omega:l.length - b<l.length)]
  have e:l.length - 1+(l.length - b)=(l.length - 1 - b)+l.length:=by omega
  rw [e,Nat.add_mod_right,Nat.mod_eq_of_lt (by omega)]
theorem sh1_rot {l:List Int} {b:Nat} (hb:b<l.length):sh1 (rot l ((l.length - b) % l.length))=rot l ((l.length - (b+1) % l.length) % l.length):=by
 have hn:0<l.length:=by omega
 have hl1:(rot l ((l.length - b) % l.length)).length=l.length:=rot_len (Nat.le_of_lt (Nat.mod_lt _ hn))
 have hl2:(rot l ((l.length - (b+1) % l.length) % l.length)).length=l.length:=rot_len (Nat.le_of_lt (Nat.mod_lt _ hn))
 have hget:∀ j,j<l.length→(sh1 (rot l ((l.length - b) % l.length))).getD j 0=(rot l ((l.length - (b+1) % l.length) % l.length)).getD j 0:=by
  intro j hj
  rw [rot_get (Nat.mod_lt _ hn) hj]
  cases j with
  | zero=>
   show (rot l ((l.length - b) % l.length)).getD ((rot l ((l.length - b) % l.length)).length - 1) 0=_
   rw [hl1,rot_last hb]
   congr 1
   by_cases h1:b+1=l.length
   ·rw [h1,Nat.mod_self,Nat.sub_zero,Nat.mod_self,Nat.zero_add,Nat.zero_mod];omega
   ·rw [Nat.mod_eq_of_lt (by omega:b+1<l.length),Nat.zero_add,Nat.mod_mod,Nat.mod_eq_of_lt (by omega)];omega
  | succ j=>
   have e:(sh1 (rot l ((l.length - b) % l.length))).getD (j+1) 0=(rot l ((l.length - b) % l.length)).getD j 0:=by
    unfold sh1
    rw [List.getD_cons_succ,hl1,List.getD_eq_getElem?_getD,List.getD_eq_getElem?_getD,List.getElem?_take,if_pos (by omega)]
   rw [e,rot_get (Nat.mod_lt _ hn) (by omega)]
   congr 1
   by_cases h0:b=0
   ·subst h0
    rw [Nat.sub_zero,Nat.mod_self,Nat.add_zero,Nat.zero_add]
    by_cases h1:l.length=1
    ·omega
    ·rw [Nat.mod_eq_of_lt (by omega:1<l.length),Nat.mod_eq_of_lt (by omega:l.length - 1<l.length)]
     have e:j+1+(l.length - 1)=j+l.length:=by omega
     rw [e,Nat.add_mod_right]
   ·rw [Nat.mod_eq_of_lt (by omega:l.length - b<l.length)]
    by_cases h1:b+1=l.length
    ·rw [h1,Nat.mod_self,Nat.sub_zero,Nat.mod_self,Nat.add_zero]
     congr 1
     omega
    ·rw [Nat.mod_eq_of_lt (by omega:b+1<l.length),Nat.mod_eq_of_lt (by omega:l.length - (b+1)<l.length)]
     congr 1
     omega
 apply List.ext_getElem
 ·rw [sh1_len (by rw [hl1];exact hn),hl1,hl2]
 ·intro j h1 h2
  have:=hget j (by rw [hl2] at h2;exact h2)
  rwa [List.getD_eq_getElem?_getD,List.getD_eq_getElem?_getD,List.getElem?_eq_getElem h1,List.getElem?_eq_getElem h2] at this
end Go.Proofs.YtgobbogomchnhaaGreatDoor
end
section
set_option linter.unusedSimpArgs false
set_option linter.unusedVariables false
namespace Go.Proofs.YtgobbogomchnhaaGreatDoor
open Go Go.Pv
open Classical
theorem per_self {l:List Int} (h:1≤l.length):Per l l.length:=⟨h,Nat.le_refl _,Nat.mod_self _,fun i hi=>by omega⟩
theorem frz_pre {s:St} {j k:Nat} {cs:List LV} (n:Nat) (h:s.get j=some (.cells .mut cs)) (hk:k≤cs.length) (hc:LV.closed.closedAll cs=true):frz (n+2) (.sref j 0 k 1) s=some (.simm (cs.take k) k,s.put j (.cells .app cs)):=by
 unfold frz
 simp only [LV.closed,Bool.false_eq_true,if_false,h,Nat.zero_add,Nat.mul_one,hk,if_true,frzAll_closed hc,Option.bind_eq_bind,Option.bind_some,List.drop_zero]
theorem ints_take (l:List Int) (k:Nat):(ints l).take k=ints (l.take k):=by simp [ints,List.map_take]
theorem q_appP {P:Program} {G:Globs} {K:Env→St→Prop} {l:List LOper} {e:Env} {s:St} {fl:Bool} {d i j a k:Nat} {x y:Opd} {A B:List LV} (hx:x.ev e = .sref j 0 a 1) (hy:y.ev e = .sref i 0 k 1) (hj:s.get j=some (.cells .mut A)) (hi:s.get i=some (.cells .mut B)) (ha:A.length=a) (hk:k≤B.length) (hc:LV.closed.closedAll (B.take k)=true) (hl:a+k≤2 ^ 20)
  (h:∀ s':St,s'.n=s.n+1→s'.get s.n=some (.cells .mut (A++B.take k))→(∀ id,id<s.n→id≠j→s'.get id=s.get id)→W P G K l (Tr.set e d (.sref s.n 0 (a+k) 1)) s'):W P G K (⟨some d, .append 1 8 x y,none,[],fl⟩::l) e s:=by
 have hrow:rowOf s 1 k (.sref i 0 k 1)=some (B.take k):=by
  simp only [rowOf,hi,Nat.zero_add,Nat.mul_one,hk,Nat.le_refl,and_self,if_true,List.drop_zero]
 refine q_append rfl hx hy rfl hrow (frzTry_all hc) (appendLV_mutN hj ha (by simp;omega) (by decide) hl) ?_
 refine h _ (by simp) (by rw [St.get_new,St.n_put,if_pos rfl]) fun id hid hne=>?_
 rw [St.get_new,St.n_put,if_neg (by omega),St.get_put,if_neg hne]
set_option maxHeartbeats 8000000 in
theorem rshort_ok {st lo:LV} {S L:List Int} (hS:IsInts st S) (hL:IsInts lo L) (hf:Fm S L):PE 92 [.agg [st,lo]] (fun r=>∃ st' lo' sl' ll',r = .agg [st',lo']∧IsInts st' sl'∧IsInts lo' ll'∧Nrm S L sl' ll'):=by
 have hcl:(LV.agg [st,lo]).closed=true:=by simp [LV.closed,LV.closed.closedAll,hS.closed,hL.closed]
 have hc1:=hS.sl.cell
 have hc2:=hL.sl.cell
 obtain ⟨f1,f2,f3,-,-⟩:=hf
 have hrep:=fun {n:Nat} (h1:1≤n) (h2:n≤L.length)=>rrep_ok hL h1 h2 (by omega)
 refine q_fnExR Tryz.func92 (by decide +kernel) c92 (Nat.le_of_ble_eq_true rfl) (by simp [LV.closed.closedAll,hcl]) ?_
 have h0:(envOf [LV.agg [st,lo]]).at 0 = .agg [st,lo]:=by rw [envOf_at];rfl
 generalize envOf [LV.agg [st,lo]]=e at *
 unfold l92
 dsimp only [jA,jB,jE,jG,qM,qL,qF,qS,qI,qA,qC,qO,qm,ql]
 repeat' (first | refine gA trivial ?_ | (refine gB trivial ?_;intro bb hbb;cases bb<;>(try simp only [hbs,if_false,reduceCtorEq] at hbb)) | apply qc_seq | fail)
 refine qc_loop (fun m e s=>∃ n:Nat,m=L.length - n∧1≤n∧n≤L.length∧(∀ k,k<n→¬ Per L k)∧s=St.empty.new (.cells .mut [.nils, .nils])∧e.at 1 = .pimm [st,lo] 0∧e.at 2 = .pref 0 0∧e.at 3 = .int .i64 (n:Int)) _
  ⟨1,rfl,Nat.le_refl _,f2,fun k hk h=>by have:=h.1;omega,rfl,ef,ef,by simp only [lk,sv1,sv2,sv3,Nat.reduceEqDiff,Nat.reduceAdd,Nat.reduceLeDiff,reduceIte,if_false,if_true,mkVal,unLV,List.map,optTmps];rfl⟩ ?_
 clear h0
 clear e
 rintro m e s ⟨n,rfl,hn1,hn2,hno,rfl,e1,e2,e3⟩
 have hr:=hrep hn1 hn2
 repeat' (first | refine gA trivial ?_ | (refine gB trivial ?_;intro bb hbb;cases bb<;>(try simp only [hbs,if_false,reduceCtorEq] at hbb)) | apply qc_seq | fail)
 refine q_pureB hG0 (hr) (by first | exact wN | (apply wG;(simp only [lk,Nat.reduceEqDiff,reduceIte,e1,e2,e3];(try rfl);done))) (by simp only [List.map,lk,Nat.reduceEqDiff,reduceIte,e1,e2,e3];try rfl) (fun bb hbb=>⟨by first | trivial | (simp only [Chks,wantedG,LOp.run,Env.put_some,Env.put_none,lk,sv1,sv2,sv3,Nat.reduceEqDiff,Nat.reduceAdd,Nat.reduceLeDiff,reduceIte,if_false,if_true,mkVal,unLV,List.map,optTmps,beq_self_eq_true,reduceCtorEq,false_or,true_and,and_true,Option.some.injEq, *];done),?_⟩)
 simp only [Env.put_some]
 cases bb<;>simp only [decide_eq_true_eq,decide_eq_false_iff_not] at hbb
 ·have hne:n≠L.length:=fun h=>hbb (by rw [h];exact per_self f2)
  have hw:IntKind.i64.wrap ((n:Int)+1)=((n+1:Nat):Int):=by rw [wrap_i64 _ (by omega) (by omega)];rfl
  repeat' (first | refine gA trivial ?_ | (refine gB trivial ?_;intro bb hbb;cases bb<;>(try simp only [hbs,if_false,reduceCtorEq] at hbb)) | apply qc_seq | fail)
  refine ⟨L.length - (n+1),by omega,n+1,rfl,by omega,by omega,fun k hk=>?_,trivial,ef,ef,ef⟩
  by_cases h:k<n
  ·exact hno k h
  ·obtain rfl:k=n:=by omega
   exact hbb
 have hpm:PerM L n:=⟨hbb,hno⟩
 clear hr hrep hno
 have f4:(L.take n).length=n:=by simp;omega
 have hnb:n≤40:=by omega
 repeat' (first | refine gA trivial ?_ | (refine gB trivial ?_;intro bb hbb;cases bb<;>(try simp only [hbs,if_false,reduceCtorEq] at hbb)) | apply qc_seq | fail)
 refine w_gen (fun e s=>s=(St.empty.new (.cells .mut [.nils, .nils])).new (.cells .mut [])∧e.at 1 = .pimm [st,lo] 0∧e.at 2 = .pref 0 0∧e.at 3 = .int .i64 (n:Int)∧e.at 13 = .sref 1 0 0 1∧e.at 15=lo∧e.at 16 = .int .i64 (n:Int)) ⟨rfl,ef,ef,ef,ef,ef,ef⟩ ?_
 clear e1 e2 e3
 clear e
 rintro e s ⟨rfl,e1,e2,e3,e13,e15,e16⟩
 obtain ⟨r,hr1,hr2⟩:=take_ints hL (e:=e) (s:=(St.empty.new (.cells .mut [.nils, .nils])).new (.cells .mut [])) (x:=.t 15) (hi:=.t 16) ef ef hn2
 refine q_run0 hr1 ?_
 have hr3:=hr2.sl
 rw [f4] at hr3
 refine q_app02 (j:=1) (cells:=ints (L.take n)) (n:=n) (yv:=r) ef (by rw [St.get_new];rfl) ef hr3 (ints_closed _) (by simp [ints];omega) (by unfold big;omega) (fun _ _ _=>trivial) (fun s3 a1 a2 a3=>?_)
 have b1:s3.n=3:=a1
 have b2:s3.get 2=some (.cells .mut (ints (L.take n))):=a2
 have b0:s3.get 0=some (.cells .mut [.nils, .nils]):=by rw [a3 0 (by simp [n_empty]) (by omega),St.get_new,St.get_new];rfl
 clear a1 a2 a3 hr1 hr2 hr3
 repeat' (first | refine gA @b1 ?_ | (refine gB @b1 ?_;intro bb hbb;cases bb<;>(try simp only [hbs,if_false,reduceCtorEq] at hbb)) | apply qc_seq | fail)
 refine q_app02 (j:=3) (cells:=ints S) (n:=S.length) (yv:=st) ef (by rw [St.get_new,b1];rfl) ef hS.sl (ints_closed _) (by simp [ints]) (by unfold big;omega) (fun _ _ _=>trivial) (fun s4 a1 a2 a3=>?_)
 rw [St.n_new,b1] at a1 a2 a3
 have c1:s4.n=5:=a1
 have c2:s4.get 4=some (.cells .mut (ints S)):=a2
 have c3:s4.get 2=some (.cells .mut (ints (L.take n))):=by rw [a3 2 (by omega) (by omega),St.get_new,b1];exact b2
 have c0:s4.get 0=some (.cells .mut [.nils, .nils]):=by rw [a3 0 (by omega) (by omega),St.get_new,b1];exact b0
 clear a1 a2 a3
 repeat' (first | refine gA trivial ?_ | (refine gB trivial ?_;intro bb hbb;cases bb<;>(try simp only [hbs,if_false,reduceCtorEq] at hbb)) | apply qc_seq | fail)
 have hrl:∀ b,(rot (L.take n) ((n - b) % n)).length=n:=fun b=>by
  have:=rot_len (l:=L.take n) (k:=(n - b) % n) (by rw [f4];exact Nat.le_of_lt (Nat.mod_lt _ (by omega)))
  rw [this,f4]
 generalize hres:nb S (L.take n) S.length 0=res
 refine qc_mono (fun o e s=>o = .jmp (.exit 2)∧∃ m b i,m≤S.length∧b<n∧(m,b)=res∧e.at 2 = .pref 0 0∧e.at 3 = .int .i64 (n:Int)∧e.at 5 = .sref 4 0 m 1∧e.at 4 = .sref i 0 n 1∧i≠0∧i≠4∧s.get 0=some (.cells .mut [.nils, .nils])∧s.get 4=some (.cells .mut (ints S))∧s.get i=some (.cells .mut (ints (rot (L.take n) ((n - b) % n))))) ?_ ?_
 rotate_left
 ·clear e1 e2 e3 e13 e15 e16 b0 b1 b2 c0 c1 c2 c3
  clear e s3 s4 r
  rintro o e s ⟨rfl,m,b,i,hm1,hb,rfl,e2,e3,e5,e4,i2,i3,g0,g4,gi⟩
  have hlb:=hrl b
  repeat' (first | refine gA @g0 ?_ | (refine gB @g0 ?_;intro bb hbb;cases bb<;>(try simp only [hbs,if_false,reduceCtorEq] at hbb)) | apply qc_seq | fail)
  refine q_run0 (v:=.agg [.sref 4 0 m 1, .sref i 0 n 1]) (s':=s) (by simp only [LOp.run,lk,sv1,sv2,sv3,Nat.reduceEqDiff,Nat.reduceAdd,Nat.reduceLeDiff,reduceIte,if_false,if_true,mkVal,unLV,List.map,optTmps,evParts,fillParts];rfl) ?_
  repeat' (first | refine gA @g0 ?_ | (refine gB @g0 ?_;intro bb hbb;cases bb<;>(try simp only [hbs,if_false,reduceCtorEq] at hbb)) | apply qc_seq | fail)
  have h1:frz (37+2) (.sref 4 0 m 1) (s.put 0 (.cells .mut [.sref 4 0 m 1, .sref i 0 n 1]))=_:=frz_pre 37 (by rw [St.get_put,if_neg (by omega)];exact g4) (by simp [ints];omega) (ints_closed _)
  have h2:frz (37+2) (.sref i 0 n 1) ((s.put 0 (.cells .mut [.sref 4 0 m 1, .sref i 0 n 1])).put 4 (.cells .app (ints S)))=_:=frz_pre 37 (by rw [St.get_put,if_neg i3,St.get_put,if_neg i2];exact gi) (by simp [ints];omega) (ints_closed _)
  obtain ⟨z,s5,g1,g2⟩:=frz_agg2 39 h1 h2
  rw [ints_take,ints_take] at g2
  have hci:(LV.agg [.sref 4 0 m 1, .sref i 0 n 1]).closed=false:=rfl
  refine ⟨.inr trivial, .agg [.sref 4 0 m 1, .sref i 0 n 1],by simp [resVal,resOne,mkVal,lk,St.get_put,e2],z,s5,?_⟩
  rcases g2 with ⟨_,_,hcc⟩ | ⟨rfl,-⟩
  ·rw [hci] at hcc;cases hcc
  ·have hlr:(rot (L.take n) ((n - b) % n)).take n=rot (L.take n) ((n - b) % n):=List.take_of_length_le (by omega)
   rw [hlr] at g1 ⊢
   have hmx:maxLen=9223372036854775807:=by decide
   refine ⟨g1,by simp [LV.closed,LV.closed.closedAll,ints_closed],_,_,S.take m,rot (L.take n) ((n - b) % n),rfl,⟨?_,?_,?_⟩,⟨?_,?_,?_⟩,n,hpm,?_,?_⟩
   ·have:(S.take m).length=m:=by simp;omega
    rw [this];exact .simm _ _
   ·simp;omega
   ·exact fun x hx=>hS.rng x (List.mem_of_mem_take hx)
   ·rw [hlb];exact .simm _ _
   ·omega
   ·exact fun x hx=>hL.rng x (List.mem_of_mem_take (rot_mem hx))
   ·rw [hres]
   ·rw [hres,f4]
 refine qc_loop (fun m e s=>∃ b i,m≤S.length∧b<n∧nb S (L.take n) m b=res∧e.at 2 = .pref 0 0∧e.at 3 = .int .i64 (n:Int)∧e.at 5 = .sref 4 0 m 1∧e.at 4 = .sref i 0 n 1∧i<s.n∧i≠0∧i≠4∧4<s.n∧s.get 0=some (.cells .mut [.nils, .nils])∧s.get 4=some (.cells .mut (ints S))∧s.get i=some (.cells .mut (ints (rot (L.take n) ((n - b) % n))))) S.length
  ⟨0,2,Nat.le_refl _,by omega,hres,ef,ef,?_,ef,by omega,by omega,by omega,by omega,c0,c2,by rw [c3,Nat.sub_zero,Nat.mod_self];simp [rot]⟩ ?_
 ·simp only [lk,sv1,sv2,sv3,Nat.reduceEqDiff,Nat.reduceAdd,Nat.reduceLeDiff,reduceIte,if_false,if_true,mkVal,unLV,List.map,optTmps,St.n_new,b1,n_empty]
 clear e1 e2 e3 e13 e15 e16 b0 b1 b2 c0 c1 c2 c3
 clear e s3 s4 r
 rintro m e s ⟨b,i,hm1,hb,hnb,e2,e3,e5,e4,i1,i2,i3,i4,g0,g4,gi⟩
 have hlb:=hrl b
 by_cases hm0:m=0
 ·subst hm0
  repeat' (first | refine gA @g0 ?_ | (refine gB @g0 ?_;intro bb hbb;cases bb<;>(try simp only [hbs,if_false,reduceCtorEq] at hbb)) | apply qc_seq | fail)
  all_goals first
   | (exfalso;omega)
   | skip
  exact ⟨trivial,0,b,i,by omega,hb,hnb,ef,ef,ef,ef,i2,i3,g0,g4,gi⟩
 ·have hwm:IntKind.i64.wrap ((m:Int) - 1)=((m - 1:Nat):Int):=by rw [wrap_i64 _ (by omega) (by omega)];omega
  have hwn:IntKind.i64.wrap ((n:Int) - 1)=((n - 1:Nat):Int):=by rw [wrap_i64 _ (by omega) (by omega)];omega
  have k1:iaLV 1 (.sref 4 0 m 1) (.int .i64 ((m - 1:Nat):Int)) s=some (.pref 4 (m - 1),s):=by
   have:=iaS (esz:=1) (j:=4) (off:=0) (len:=m) (i:=m - 1) (k:=.i64) (s:=s) (by omega)
   simpa using this
  have k2:iaLV 1 (.sref i 0 n 1) (.int .i64 ((n - 1:Nat):Int)) s=some (.pref i (n - 1),s):=by
   have:=iaS (esz:=1) (j:=i) (off:=0) (len:=n) (i:=n - 1) (k:=.i64) (s:=s) (by omega)
   simpa using this
  have k3:loadLV none (.pref 4 (m - 1)) s=some (.int .i64 (S.getD (m - 1) 0)):=by
   simp only [loadLV,g4,mkVal]
   exact ints_get (by omega)
  have k4:loadLV none (.pref i (n - 1)) s=some (.int .i64 ((rot (L.take n) ((n - b) % n)).getD (n - 1) 0)):=by
   simp only [loadLV,gi,mkVal]
   exact ints_get (by omega)
  have hnx:nb S (L.take n) m b=if S.getD (m - 1) 0=(L.take n).getD ((L.take n).length - 1 - b) 0 then nb S (L.take n) (m - 1) ((b+1) % (L.take n).length) else (m,b):=by
   obtain ⟨k,rfl⟩:∃ k,m=k+1:=⟨m - 1,by omega⟩
   rfl
  have hrl2:=rot_last (l:=L.take n) (b:=b) (by omega)
  rw [f4] at hrl2 hnx
  rw [hnb,← hrl2] at hnx
  repeat' (first | refine gA (And.intro @hwm (And.intro @hwn (And.intro @k1 (And.intro @k2 (And.intro @k3 @k4))))) ?_ | (refine gB (And.intro @hwm (And.intro @hwn (And.intro @k1 (And.intro @k2 (And.intro @k3 @k4))))) ?_;intro bb hbb;cases bb<;>(try simp only [hbs,if_false,reduceCtorEq] at hbb)) | apply qc_seq | fail)
  ·exfalso;omega
  ·rw [if_neg hbb] at hnx
   exact ⟨trivial,m,b,i,hm1,hb,hnx.symm,ef,ef,ef,ef,i2,i3,g0,g4,gi⟩
  rw [if_pos hbb] at hnx
  rw [hwm]
  refine q_sliceS (j:=4) (n:=m) (m:=m - 1) wN ef ef (by omega) ?_
  repeat' (first | refine gA (And.intro @hwn (And.intro @k2 @k4)) ?_ | (refine gB (And.intro @hwn (And.intro @k2 @k4)) ?_;intro bb hbb;cases bb<;>(try simp only [hbs,if_false,reduceCtorEq] at hbb)) | apply qc_seq | fail)
  refine q_bsl2 (xv:=.int .i64 ((rot (L.take n) ((n - b) % n)).getD (n - 1) 0)) (vs:=[.int .i64 ((rot (L.take n) ((n - b) % n)).getD (n - 1) 0)]) ef rfl rfl rfl (fun s6 m1 m2 m3=>?_) (fun s6 m1 m2 m3=>?_)
  ·simp only [Chks,wantedG,LOp.run,lk,sv1,sv2,sv3,Nat.reduceEqDiff,Nat.reduceAdd,Nat.reduceLeDiff,reduceIte,if_false,if_true,mkVal,unLV,List.map,optTmps,Env.put_some]
   rw [m3 i i1,gi]
   simp only [mkVal]
   rw [ints_get (by omega)]
   simp
  repeat' (first | refine gA @hwn ?_ | (refine gB @hwn ?_;intro bb hbb;cases bb<;>(try simp only [hbs,if_false,reduceCtorEq] at hbb)) | apply qc_seq | fail)
  rw [hwn]
  refine q_sliceS (j:=i) (n:=n) (m:=n - 1) wN ef ef (by omega) ?_
  refine q_appP (j:=s.n) (a:=1) (i:=i) (k:=n - 1) (A:=[.int .i64 ((rot (L.take n) ((n - b) % n)).getD (n - 1) 0)]) (B:=ints (rot (L.take n) ((n - b) % n))) ef ef m2 (by rw [m3 i i1];exact gi) rfl (by simp [ints];omega) (by rw [ints_take];exact ints_closed _) (by omega) (fun s7 p1 p2 p3=>?_)
  repeat' (first | refine gA trivial ?_ | (refine gB trivial ?_;intro bb hbb;cases bb<;>(try simp only [hbs,if_false,reduceCtorEq] at hbb)) | apply qc_seq | fail)
  have hsh:=sh1_rot (l:=L.take n) (b:=b) (by omega)
  rw [f4] at hsh
  have hlt:(b+1) % n<n:=Nat.mod_lt _ (by omega)
  rw [show 1+(n - 1)=n by omega]
  refine ⟨m - 1,by omega,(b+1) % n,s6.n,by omega,hlt,hnx.symm,ef,ef,ef,ef,by omega,by omega,by omega,by omega,by rw [p3 0 (by omega) (by omega),m3 0 (by omega)];exact g0,by rw [p3 4 (by omega) (by omega),m3 4 i4];exact g4,?_⟩
  rw [p2,← hsh,ints_take,sh1,hlb]
  rfl
end Go.Proofs.YtgobbogomchnhaaGreatDoor
end
