/- The law's all: an automaton in which every state is a start. -/
import Derived.Test.YthcllhhldknkmaaGreatDoorBinsert
import Derived.Test.YthcllhhldknkmaaGreatDoorTnum
set_option linter.unusedSimpArgs false
set_option linter.unusedVariables false
section
set_option linter.unusedSimpArgs false
set_option linter.unusedVariables false
namespace Go.Proofs.YthcllhhldknkmaaGreatDoor
open Go Go.Pv
open Classical
theorem frz_st {S:St} {w nv:LV} {l:List Int} {L:Int} (h:SkC S w 1 (ints l) l.length) (hn:nv.closed=true):∃ r S',frz frzDepth (.agg [.int .i64 L,w,nv]) S=some (.agg [.int .i64 L,r,nv],S')∧Sl r (ints l) l.length:=by
  obtain ⟨r,S',h1,h2,-,-⟩:=fz_skc 37 h (ints_cl' l) S (fun _ _=>rfl)
  by_cases hc:w.closed=true
  · have h3:frz 39 w S=some (w,S):=frz_closed hc
    rw [h3] at h1
    cases h1
    exact ⟨w,S,frzD_closed (by simp [LV.closed,LV.closed.closedAll,hc,hn]),h2⟩
  · refine ⟨r,S',?_,h2⟩
    have hc':w.closed=false:=by simpa using hc
    have h4:frz 39 nv S'=some (nv,S'):=frz_closed hn
    have h5:frz 39 (.int .i64 L) S=some (.int .i64 L,S):=frz_closed rfl
    show frz (39+1) _ S=_
    unfold frz
    simp [LV.closed,LV.closed.closedAll,frz.frzAll,hc',h1,h4,h5]
set_option maxHeartbeats 4000000 in
theorem all_ok {v:LV} {B:Bu} {sv nv:LV} (hB:IsB v B sv nv) (hv:Vb B):PE 15 [v] (fun r=>∃ sv',IsB r (alB B) sv' nv):=by
  have hcl:=hB.closed
  obtain ⟨rfl,hs,hn⟩:=hB
  obtain ⟨vs,hn'⟩:=hn
  have hc1:=hs.sl.cell
  have hc2:=hn'.sl.cell
  have hnl:=hn'.sl.len
  have hn3:=hv.2.2.1
  have hcn:nv.closed=true:=by
    have:sv.closed=true∧nv.closed=true:=by simpa [LV.closed,LV.closed.closedAll] using hcl
    exact this.2
  refine q_fnExR Tryz.func15 (by decide +kernel) c15 (Nat.le_of_ble_eq_true rfl) (by simp [LV.closed.closedAll,hcl]) ?_
  have e0:(envOf [LV.agg [.int .i64 B.L,sv,nv]]).at 0 = .agg [.int .i64 B.L,sv,nv]:=by rw [envOf_at];rfl
  generalize envOf [LV.agg [.int .i64 B.L,sv,nv]]=e at *
  unfold l15
  dsimp only [jA,jG,qN,qF,qS,qA,qB,qC,qm,ql]
  repeat' (first | refine gA trivial ?_ | (refine gB trivial ?_;intro bb hbb;cases bb<;>(try simp only [hbs,if_false,reduceCtorEq] at hbb)) | apply qc_seq | fail)
  refine qc_loop (fun m e s=>∃ (i:Nat) (w:LV),m=B.next.length - i∧i≤B.next.length∧SkC s w 1 (ints ((List.range i).map fun k:Nat=>(k:Int))) i∧(∀ id,uses w id→2≤id)∧2≤s.n∧s.get 0=some (.cells .mut [.int .i64 B.L,w,nv])∧s.get 1=some (.cells .mut [.int .i64 0, .nils, .nils])∧e.at 1 = .pref 0 0∧e.at 2 = .pref 1 0∧e.at 3 = .int .i64 (i:Int)) _
    ⟨0, .nils,rfl,by omega,SkC.nil _ _,fun id h=>absurd h (uses_nils id),by simp [n_empty],by simp [St.get_put],by simp [St.get_put,St.get_new,n_empty],ef,ef,by simp only [lk,sv1,sv2,sv3,Nat.reduceEqDiff,Nat.reduceAdd,Nat.reduceLeDiff,reduceIte,if_false,if_true,mkVal,unLV,List.map,optTmps];rfl⟩ ?_
  clear e0
  clear e
  rintro m e s ⟨i,w,rfl,hi,hS,hw,hn2,g0,g1,e1,e2,e3⟩
  have hcw:=hS.cell
  by_cases hil:i<B.next.length
  · have hiI:(i:Int)<(B.next.length:Int):=by omega
    have hwi:IntKind.i64.wrap ((i:Int)+1)=((i+1:Nat):Int):=by rw [wrap_i64 _ (by omega) (by omega)];rfl
    repeat' (first | refine gA (And.intro @g0 @hnl) ?_ | (refine gB (And.intro @g0 @hnl) ?_;intro bb hbb;cases bb<;>(try simp only [hbs,if_false,reduceCtorEq] at hbb)) | apply qc_seq | fail)
    · exfalso;omega
    refine q_appC (n:=i) (esz:=1) (xv:=.int .i64 (i:Int)) (yv:=w) (vs:=[.int .i64 (i:Int)]) ef rfl rfl rfl rfl ef hS (by decide) (by omega) (fun s3 j3 a1 a2 a3 a4=>?_)
    have g0':s3.get 0=some (.cells .mut [.int .i64 B.L,w,nv]):=by rw [a4 0 (by omega) fun hu=>by have:=hw 0 hu;omega];exact g0
    have g1':s3.get 1=some (.cells .mut [.int .i64 0, .nils, .nils]):=by rw [a4 1 (by omega) fun hu=>by have:=hw 1 hu;omega];exact g1
    repeat' (first | refine gA (And.intro @g0' @hnl) ?_ | (refine gB (And.intro @g0' @hnl) ?_;intro bb hbb;cases bb<;>(try simp only [hbs,if_false,reduceCtorEq] at hbb)) | apply qc_seq | fail)
    refine ⟨B.next.length - (i+1),by omega,i+1, .sref j3 0 (i+1) 1,rfl,by omega,?_,fun id hu=>?_,by rw [St.n_put];omega,by simp [St.get_put],by simp [St.get_put,g1'],?_⟩
    · have hcells:ints ((List.range (i+1)).map fun k:Nat=>(k:Int))=ints ((List.range i).map fun k:Nat=>(k:Int))++[.int .i64 (i:Int)]:=by simp [List.range_succ,ints]
      rw [hcells]
      exact a2.mono (Nat.le_refl _) fun id hu=>by rw [St.get_put,if_neg (by have:=uses_sref.1 hu;omega)]
    · have:=uses_sref.1 hu;omega
    · simp only [lk,sv1,sv2,sv3,Nat.reduceEqDiff,Nat.reduceAdd,Nat.reduceLeDiff,reduceIte,if_false,if_true,mkVal,unLV,List.map,optTmps,hwi,e1,e2,and_self]
  · obtain rfl:i=B.next.length:=by omega
    repeat' (first | refine gA (And.intro @g0 (And.intro @g1 @hnl)) ?_ | (refine gB (And.intro @g0 (And.intro @g1 @hnl)) ?_;intro bb hbb;cases bb<;>(try simp only [hbs,if_false,reduceCtorEq] at hbb)) | apply qc_seq | fail)
    rotate_left
    · exfalso;omega
    have hS':SkC (s.put 1 (.cells .mut [.int .i64 B.L,w,nv])) w 1 (ints ((List.range B.next.length).map fun k:Nat=>(k:Int))) ((List.range B.next.length).map fun k:Nat=>(k:Int)).length:=by
      have:=hS.mono (s':=s.put 1 (.cells .mut [.int .i64 B.L,w,nv])) (Nat.le_refl _) fun id hu=>by rw [St.get_put,if_neg (by have:=hw id hu;omega)]
      simpa using this
    obtain ⟨r,S',hf,hr⟩:=frz_st (L:=B.L) hS' hcn
    have hmx:maxLen=9223372036854775807:=by decide
    have hI:IsInts r (alB B).start:=⟨hr,by simp only [alB,List.length_map,List.length_range];omega,fun x hx=>by
      obtain ⟨k,hk,rfl⟩:=List.mem_map.1 hx
      have:=List.mem_range.1 hk
      constructor<;>omega⟩
    exact ⟨.inr trivial, .agg [.int .i64 B.L,w,nv],by simp [resVal,resOne,mkVal,lk,St.get_put,e2],_,S',hf,by simp [LV.closed,LV.closed.closedAll,hI.closed,hcn],r,rfl,hI,vs,hn'⟩
end Go.Proofs.YthcllhhldknkmaaGreatDoor
end
section
set_option linter.unusedSimpArgs false
set_option linter.unusedVariables false
namespace Go.Proofs.YthcllhhldknkmaaGreatDoor
open Go Go.Pv
open Classical
theorem q_app0 {P:Program} {G:Globs} {K:Env→St→Prop} {l:List LOper} {e:Env} {s:St} {fl:Bool} {chk:List (Nat × Option (Nat × Bool) × LOp)} {d esz bytes j n:Nat} {x y:Opd} {yv:LV} {cells:List LV} (hx:x.ev e = .sref j 0 0 esz) (hg:s.get j=some (.cells .mut [])) (hy:y.ev e=yv) (hS:Sl yv cells n) (hc:LV.closed.closedAll cells=true) (hl:cells.length=n*esz) (hb:n*bytes≤big)
    (hck:∀ s':St,s'.n=s.n+1→(∀ id,id<s.n→id≠j→s'.get id=s.get id)→Chks chk (Tr.set e d (.sref s.n 0 n esz)) s')
    (h:∀ s':St,s'.n=s.n+1→s'.get s.n=some (.cells .mut cells)→(∀ id,id<s.n→id≠j→s'.get id=s.get id)→W P G K l (Tr.set e d (.sref s.n 0 n esz)) s'):W P G K (⟨some d, .append esz bytes x y,none,chk,fl⟩::l) e s:=by
  have hlen:lenLV yv=some n:=by cases hS<;>rfl
  have hrow:rowOf s esz n yv=some cells:=by
    cases hS with
    | nil=>rfl
    | zs=>rfl
    | simm=>
      simp only [rowOf,Nat.le_refl,hl,and_self,if_true]
      rw [List.take_of_length_le (by omega)]
  have hap:appendLV esz bytes (.sref j 0 0 esz) cells n s=some (.sref s.n 0 n esz,(s.put j (.cells .ro [])).new (.cells .mut cells)):=by
    simp [appendLV,hg,hb,hl]
    rfl
  have b1:((s.put j (.cells .ro [])).new (.cells .mut cells)).n=s.n+1:=rfl
  have b2:((s.put j (.cells .ro [])).new (.cells .mut cells)).get s.n=some (.cells .mut cells):=by rw [St.get_new,St.n_put,if_pos rfl]
  have b3:∀ id,id<s.n→id≠j→((s.put j (.cells .ro [])).new (.cells .mut cells)).get id=s.get id:=fun id h1 h2=>by rw [St.get_new,St.n_put,if_neg (by omega),St.get_put,if_neg h2]
  exact q_gen (v:=.sref s.n 0 n esz) (s':=(s.put j (.cells .ro [])).new (.cells .mut cells)) rfl (by simp [LOp.run,hx,hy,hlen,hrow,frzTry_all hc,hap]) (by cases fl<;>rfl) (hck _ b1 b3) (h _ b1 b2 b3)
theorem hcl_ls {α:Type} {R:LV→α→Prop} {d:α} {v:LV} {l:List α} {vs:List LV} (h:IsLs R d v l vs) (hc:∀ v x,R v x→v.closed=true):LV.closed.closedAll vs=true:=closedAll_of fun j hj=>hc _ _ (h.row j (by rw [← h.vlen];exact hj))
theorem FZ.wid {T T':Nat→Prop} {R:LV→Prop} {n:Nat} {v:LV} {s:St} (h:FZ T R n v s) (ht:∀ id,T id→T' id):FZ T' R n v s:=
  fun s1 h1=>by
    obtain ⟨v',s2,a,b,c,d⟩:=h s1 fun id hid=>h1 id (ht id hid)
    exact ⟨v',s2,a,b,c,fun id hid=>d id fun h=>hid (ht id h)⟩
theorem frz_nx {S:St} {sv w:LV} {nx:List (List Moves)} {L:Int} {T:Nat→Prop} (hw:w.closed=false) (hs:sv.closed=true) (h:FZ T (fun v'=>IsNext v' nx) 39 w S):∃ r S',frz frzDepth (.agg [.int .i64 L,sv,w]) S=some (.agg [.int .i64 L,sv,r],S')∧IsNext r nx:=by
  obtain ⟨r,S',h1,h2,-,-⟩:=h S fun _ _=>rfl
  refine ⟨r,S',?_,h2⟩
  have h4:frz 39 sv S=some (sv,S):=frz_closed hs
  have h5:frz 39 (.int .i64 L) S=some (.int .i64 L,S):=frz_closed rfl
  show frz (39+1) _ S=_
  unfold frz
  simp [LV.closed,LV.closed.closedAll,frz.frzAll,hw,h1,h4,h5]
set_option maxHeartbeats 8000000 in
theorem with_ok {v:LV} {B:Bu} {sv nv:LV} (hB:IsB v B sv nv) (hv:Vb B) {p a t:Nat} (hp:p<B.next.length) (ha:(a:Int)<B.L) (ht:t<B.next.length) (g:Bool):PE 13 [v, .int .i64 (p:Int), .int .i64 (a:Int), .int .i64 (t:Int), .bool g] (fun r=>∃ nv',IsB r (morB B p a ((t:Int),g)) sv nv'):=by
  have hcl:=hB.closed
  obtain ⟨rfl,hs,hn⟩:=hB
  obtain ⟨vs,hn'⟩:=hn
  have hc1:=hs.sl.cell
  have hc2:=hn'.sl.cell
  have hnl:=hn'.sl.len
  have hn3:=hv.2.2.1
  refine q_fnExR Tryz.func13 (by decide +kernel) c13 (Nat.le_of_ble_eq_true rfl) (by simp only [LV.closed.closedAll,hcl];rfl) ?_
  have e0:(envOf [LV.agg [.int .i64 B.L,sv,nv], .int .i64 (p:Int), .int .i64 (a:Int), .int .i64 (t:Int), .bool g]).at 0 = .agg [.int .i64 B.L,sv,nv]:=by rw [envOf_at];rfl
  have e1:(envOf [LV.agg [.int .i64 B.L,sv,nv], .int .i64 (p:Int), .int .i64 (a:Int), .int .i64 (t:Int), .bool g]).at 1 = .int .i64 (p:Int):=by rw [envOf_at];rfl
  have e2:(envOf [LV.agg [.int .i64 B.L,sv,nv], .int .i64 (p:Int), .int .i64 (a:Int), .int .i64 (t:Int), .bool g]).at 2 = .int .i64 (a:Int):=by rw [envOf_at];rfl
  have e3:(envOf [LV.agg [.int .i64 B.L,sv,nv], .int .i64 (p:Int), .int .i64 (a:Int), .int .i64 (t:Int), .bool g]).at 3 = .int .i64 (t:Int):=by rw [envOf_at];rfl
  have e4:(envOf [LV.agg [.int .i64 B.L,sv,nv], .int .i64 (p:Int), .int .i64 (a:Int), .int .i64 (t:Int), .bool g]).at 4 = .bool g:=by rw [envOf_at];rfl
  generalize envOf [LV.agg [.int .i64 B.L,sv,nv], .int .i64 (p:Int), .int .i64 (a:Int), .int .i64 (t:Int), .bool g]=e at *
  unfold l13
  dsimp only [jA,jB,jG,jH,qM,qL,qN,qF,qI,qm,ql]
  repeat' (first | refine gA trivial ?_ | (refine gB trivial ?_;intro bb hbb;cases bb<;>(try simp only [hbs,if_false,reduceCtorEq] at hbb)) | apply qc_seq | fail)
  have hcv:LV.closed.closedAll vs=true:=hcl_ls hn' fun _ _ h=>h.closed
  have hvl:=hn'.vlen
  generalize hsx:((St.empty.new _).new _).new _=s0
  have n0:s0.n=3:=by rw [← hsx];rfl
  have g0:s0.get 0=some (.cells .mut [.int .i64 B.L,sv,nv]):=by rw [← hsx];simp [St.get_new,n_empty]
  have g1:s0.get 1=some (.cells .mut [.int .i64 0, .nils, .nils]):=by rw [← hsx];simp [St.get_new,n_empty]
  have g2:s0.get 2=some (.cells .mut []):=by rw [← hsx];simp [St.get_new,n_empty]
  clear hsx
  refine q_app0 (j:=2) (yv:=nv) (n:=B.next.length) (cells:=vs) ef g2 ef hn'.sl hcv (by omega) (by unfold big;omega) (fun _ _ _=>trivial) (fun s1 m1 m2 m3=>?_)
  rw [n0] at m1 m2 m3
  simp only [n0]
  replace g0:=(m3 0 (by omega) (by omega)).trans g0
  replace g1:=(m3 1 (by omega) (by omega)).trans g1
  clear m3 n0 g2
  clear s0
  have hpI:(p:Int)<(B.next.length:Int):=by omega
  have hia:=fun s=>iaN hn'.sl (esz:=1) (k:=.i64) (s:=s) hpI
  simp only [Nat.mul_one] at hia
  have gp:vs[p]? = some (vs.getD p .top):=hn'.get hp
  obtain ⟨ws,hr⟩:=hn'.row p hp
  have hrow:=hv.2.2.2.2 p hp
  generalize hrv:vs.getD p .top=rv at *
  repeat' (first | refine gA (And.intro @g0 (And.intro @hia @gp)) ?_ | (refine gB (And.intro @g0 (And.intro @hia @gp)) ?_;intro bb hbb;cases bb<;>(try simp only [hbs,if_false,reduceCtorEq] at hbb)) | apply qc_seq | fail)
  have hcw:LV.closed.closedAll ws=true:=hcl_ls hr fun _ _ h=>h.closed
  have hwl:=hr.vlen
  have haM:a<(B.next.getD p []).length:=by have:=hrow.1;omega
  have hMb:(B.next.getD p []).length≤64:=by have:=hrow.1;have:=hv.2.1;omega
  have hrl:=hr.sl.cell
  generalize hsx:s1.new (Blk.cells .mut [])=s2
  have n2:s2.n=5:=by rw [← hsx];simp [m1]
  have k0:s2.get 0=some (.cells .mut [.int .i64 B.L,sv,nv]):=by rw [← hsx];simp [St.get_new,m1,g0]
  have k1:s2.get 1=some (.cells .mut [.int .i64 0, .nils, .nils]):=by rw [← hsx];simp [St.get_new,m1,g1]
  have k3:s2.get 3=some (.cells .mut vs):=by rw [← hsx];simp [St.get_new,m1,m2]
  have k4:s2.get 4=some (.cells .mut []):=by rw [← hsx];simp [St.get_new,m1]
  clear hsx g0 g1 m2 m1
  clear s1
  obtain ⟨M,hM⟩:∃ M,(B.next.getD p []).length=M:=⟨_,rfl⟩
  refine q_app0 (j:=4) (yv:=rv) (n:=M) (cells:=ws) ef k4 ef (by rw [← hM];exact hr.sl) hcw (by omega) (by unfold big;omega) (fun _ _ _=>trivial) (fun s3 m1 m2 m3=>?_)
  rw [n2] at m1 m2 m3
  simp only [n2]
  replace k0:=(m3 0 (by omega) (by omega)).trans k0
  replace k1:=(m3 1 (by omega) (by omega)).trans k1
  replace k3:=(m3 3 (by omega) (by omega)).trans k3
  clear m3 k4 n2
  clear s2
  repeat' (first | refine gA (And.intro @iaS (And.intro @k0 @k3)) ?_ | (refine gB (And.intro @iaS (And.intro @k0 @k3)) ?_;intro bb hbb;cases bb<;>(try simp only [hbs,if_false,reduceCtorEq] at hbb)) | apply qc_seq | fail)
  refine q_storeG (i:=3) (o:=p) (n:=1) (cs:=vs) (vs:=[.sref 5 0 M 1]) (cs':=vs.set p (.sref 5 0 M 1)) (v:=.sref 5 0 M 1) (by simp only [lk,sv1,sv2,sv3,Nat.reduceEqDiff,Nat.reduceAdd,Nat.reduceLeDiff,reduceIte,if_false,if_true,mkVal,unLV,List.map,optTmps,Nat.zero_add,Nat.mul_one]) ef rfl k3 rfl (by omega) rfl ?_
  have hwM:ws.length=M:=by omega
  have haI:(a:Int)<(M:Int):=by omega
  have hib:=fun s=>iaN hr.sl (esz:=1) (k:=.i64) (s:=s) (show (a:Int)<((B.next.getD p []).length:Int) by omega)
  simp only [Nat.mul_one] at hib
  have ga:ws[a]? = some (ws.getD a .top):=hr.get haM
  have hmo:=hr.row a haM
  have hmr:=hrow.2 a haM
  have hms:=mok_len hmr
  generalize hmv:ws.getD a .top=mv at *
  generalize hsx:s3.put 3 _=s4
  have n4:s4.n=6:=by rw [← hsx];simp [m1]
  have j0:s4.get 0=some (.cells .mut [.int .i64 B.L,sv,nv]):=by rw [← hsx];simp [St.get_put,k0]
  have j1:s4.get 1=some (.cells .mut [.int .i64 0, .nils, .nils]):=by rw [← hsx];simp [St.get_put,k1]
  have j3:s4.get 3=some (.cells .mut (vs.set p (.sref 5 0 M 1))):=by rw [← hsx];simp [St.get_put]
  have j5:s4.get 5=some (.cells .mut ws):=by rw [← hsx];simp [St.get_put,m2]
  have jp:(vs.set p (.sref 5 0 M 1))[p]? = some (.sref 5 0 M 1):=by rw [List.getElem?_set,if_pos rfl,if_pos (by omega)]
  clear hsx k0 k1 k3 m2 m1
  clear s3
  repeat' (first | refine gA (And.intro @iaS (And.intro @j0 (And.intro @j3 @jp))) ?_ | (refine gB (And.intro @iaS (And.intro @j0 (And.intro @j3 @jp))) ?_;intro bb hbb;cases bb<;>(try simp only [hbs,if_false,reduceCtorEq] at hbb)) | apply qc_seq | fail)
  refine q_gen (v:=.sref 6 0 0 2) (s':=s4.new (.cells .mut [])) wN (by simp [LOp.run,fillParts,evParts,rep,n4]) rfl ?_ ?_
  · simp only [Chks,wantedG,LOp.run,lk,sv1,sv2,sv3,Nat.reduceEqDiff,Nat.reduceAdd,Nat.reduceLeDiff,reduceIte,if_false,if_true,mkVal,unLV,List.map,optTmps,Env.put_some]
    simp [loadLV,mkVal,St.get_new,n4,j3,jp]
  simp only [Env.put_some]
  generalize hsx:s4.new (Blk.cells .mut [])=s5
  have n5:s5.n=7:=by rw [← hsx];simp [n4]
  have k0:s5.get 0=some (.cells .mut [.int .i64 B.L,sv,nv]):=by rw [← hsx];simp [St.get_new,n4,j0]
  have k1:s5.get 1=some (.cells .mut [.int .i64 0, .nils, .nils]):=by rw [← hsx];simp [St.get_new,n4,j1]
  have k3:s5.get 3=some (.cells .mut (vs.set p (.sref 5 0 M 1))):=by rw [← hsx];simp [St.get_new,n4,j3]
  have k5:s5.get 5=some (.cells .mut ws):=by rw [← hsx];simp [St.get_new,n4,j5]
  have k6:s5.get 6=some (.cells .mut []):=by rw [← hsx];simp [St.get_new,n4]
  clear hsx j0 j1 j3 j5 n4
  clear s4
  repeat' (first | refine gA (And.intro @iaS (And.intro @k0 (And.intro @k3 (And.intro @jp (And.intro @hia (And.intro @gp (And.intro @hib @ga))))))) ?_ | (refine gB (And.intro @iaS (And.intro @k0 (And.intro @k3 (And.intro @jp (And.intro @hia (And.intro @gp (And.intro @hib @ga))))))) ?_;intro bb hbb;cases bb<;>(try simp only [hbs,if_false,reduceCtorEq] at hbb)) | apply qc_seq | fail)
  refine q_gen (v:=.agg [.int .i64 (t:Int), .bool g]) (s':=s5) wN (by simp only [LOp.run,lk,sv1,sv2,sv3,Nat.reduceEqDiff,Nat.reduceAdd,Nat.reduceLeDiff,reduceIte,if_false,if_true,mkVal,unLV,List.map,optTmps,evParts,fillParts];rfl) rfl trivial ?_
  simp only [Env.put_some]
  refine q_app0 (j:=6) (yv:=mv) (n:=((B.next.getD p []).getD a []).length) (cells:=mcells ((B.next.getD p []).getD a [])) ef k6 ef hmo.sl (mcells_closed _) (by rw [mcells_length]) (by unfold big;omega) (fun s' c1 c2=>?_) (fun s6 m1 m2 m3=>?_)
  · have c3:=(c2 3 (by omega) (by omega)).trans k3
    simp only [Chks,wantedG,LOp.run,lk,sv1,sv2,sv3,Nat.reduceEqDiff,Nat.reduceAdd,Nat.reduceLeDiff,reduceIte,if_false,if_true,mkVal,unLV,List.map,optTmps,Env.put_some]
    simp [loadLV,mkVal,c3,jp]
  rw [n5] at m1 m2 m3
  simp only [n5]
  replace k0:=(m3 0 (by omega) (by omega)).trans k0
  replace k1:=(m3 1 (by omega) (by omega)).trans k1
  replace k3:=(m3 3 (by omega) (by omega)).trans k3
  replace k5:=(m3 5 (by omega) (by omega)).trans k5
  clear m3 k6 n5
  clear s5
  have hR:morR B p a ((t:Int),g)=(B.next.getD p []).set a (insM ((B.next.getD p []).getD a []) ((t:Int),g)):=rfl
  have hrM:=fun i=>hr.row i
  generalize hmsx:(B.next.getD p []).getD a []=ms at *
  have hf7:frz frzDepth (.sref 7 0 ms.length 2) s6=some (.simm (mcells ms) ms.length,s6.put 7 (.cells .app (mcells ms))):=by
    show frz (38+2) _ _=_
    unfold frz
    simp only [LV.closed,Bool.false_eq_true,if_false,m2,Nat.zero_add,mcells_length,Nat.le_refl,if_true,frzAll_closed (mcells_closed ms),Option.bind_eq_bind,Option.bind_some,List.drop_zero]
    rw [List.take_of_length_le (by rw [mcells_length];omega)]
  have hag:frz frzDepth (.agg [.int .i64 (t:Int), .bool g]) (s6.put 7 (.cells .app (mcells ms)))=some (.agg [.int .i64 (t:Int), .bool g],s6.put 7 (.cells .app (mcells ms))):=frzD_closed rfl
  have hmo':IsMoves (.simm (mcells ms) ms.length) ms:=⟨.simm _ _,hmo.len,hmo.rng⟩
  refine q_call wN (fv:=.fn (.func 43) [] []) (vs:=[.sref 7 0 ms.length 2, .agg [.int .i64 (t:Int), .bool g]]) ef (by simp only [List.map,lk,sv1,sv2,sv3,Nat.reduceEqDiff,Nat.reduceAdd,Nat.reduceLeDiff,reduceIte,if_false,if_true,mkVal,unLV,List.map,optTmps]) (call_frz (args':=[.simm (mcells ms) ms.length, .agg [.int .i64 (t:Int), .bool g]]) (s':=s6.put 7 (.cells .app (mcells ms))) (by simp [frz.frzAll,hf7,hag]) (pure_callEx hG0 (insert_ok hmo' ((t:Int),g) (by constructor<;>simp only<;>omega) (by omega)) fun r hmr2 hrc=>⟨?_,?_⟩))
  · simp only [Chks,wantedG,LOp.run,lk,sv1,sv2,sv3,Nat.reduceEqDiff,Nat.reduceAdd,Nat.reduceLeDiff,reduceIte,if_false,if_true,mkVal,unLV,List.map,optTmps,Env.put_some]
    simp [loadLV,mkVal,St.get_put,k3,jp]
  simp only [Env.put_some]
  generalize hsx:s6.put 7 _=s7
  have l0:s7.get 0=some (.cells .mut [.int .i64 B.L,sv,nv]):=by rw [← hsx];simp [St.get_put,k0]
  have l1:s7.get 1=some (.cells .mut [.int .i64 0, .nils, .nils]):=by rw [← hsx];simp [St.get_put,k1]
  have l3:s7.get 3=some (.cells .mut (vs.set p (.sref 5 0 M 1))):=by rw [← hsx];simp [St.get_put,k3]
  have l5:s7.get 5=some (.cells .mut ws):=by rw [← hsx];simp [St.get_put,k5]
  have h7n:5<s7.n:=by rw [← hsx,St.n_put,m1];omega
  clear hsx k0 k1 k3 k5 m1 m2 hf7 hag
  clear s6
  have hrcell:=hmr2.sl.cell
  repeat' (first | refine gA @iaS ?_ | (refine gB @iaS ?_;intro bb hbb;cases bb<;>(try simp only [hbs,if_false,reduceCtorEq] at hbb)) | apply qc_seq | fail)
  refine q_storeG (i:=5) (o:=a) (n:=1) (cs:=ws) (vs:=[r]) (cs':=ws.set a r) (v:=r) (by simp only [lk,sv1,sv2,sv3,Nat.reduceEqDiff,Nat.reduceAdd,Nat.reduceLeDiff,reduceIte,if_false,if_true,mkVal,unLV,List.map,optTmps,Nat.zero_add,Nat.mul_one]) ef (cells_cell hrcell) l5 rfl (by omega) rfl ?_
  repeat' (first | refine gA (And.intro @iaS @l0) ?_ | (refine gB (And.intro @iaS @l0) ?_;intro bb hbb;cases bb<;>(try simp only [hbs,if_false,reduceCtorEq] at hbb)) | apply qc_seq | fail)
  generalize hsx:St.put _ 1 _=S
  have L1:S.get 1=some (.cells .mut [.int .i64 B.L,sv, .sref 3 0 B.next.length 1]):=by rw [← hsx];simp [St.get_put]
  have L3:S.get 3=some (.cells .mut (vs.set p (.sref 5 0 M 1))):=by rw [← hsx];simp [St.get_put,l3]
  have L5:S.get 5=some (.cells .mut (ws.set a r)):=by rw [← hsx];simp [St.get_put]
  have hSn:5<S.n:=by rw [← hsx,St.n_put,St.n_put,St.n_put];exact h7n
  have hlen:(morB B p a ((t:Int),g)).next.length=B.next.length:=List.length_set
  have hmx:maxLen=9223372036854775807:=by decide
  have hF:=fz_next (nx:=(morB B p a ((t:Int),g)).next) (T:=fun i id=>i=p∧id=5) 38 L3 (by rw [List.length_set,hlen,hvl]) (by omega) (fun i hi=>?_) (fun i k id _ _ hne h1 h2=>hne (h1.1.trans h2.1.symm)) (fun i _ h=>by have:=h.2;omega)
  rotate_left
  · rw [hlen] at hi
    show FZ (fun id=>i=p∧id=5) (fun v'=>IsRowM v' ((B.next.set p (morR B p a ((t:Int),g))).getD i [])) 38 ((vs.set p (.sref 5 0 M 1)).getD i .top) S
    rw [getD_set',getD_set']
    by_cases hip:p=i
    · rw [if_pos ⟨hip,hp⟩,if_pos ⟨hip,by omega⟩,hR]
      have hS5:SkC S (.sref 5 0 M 1) 1 (ws.set a r) M:=⟨by rw [List.length_set];omega, .inr ⟨5,rfl,by omega,hSn,L5⟩⟩
      refine ((fz_skc 36 hS5 (closedAll_of fun k hk=>?_)).wid fun id hu=>⟨hip.symm,uses_sref.1 hu⟩).mono fun v' hv'=>⟨ws.set a r,by rw [List.length_set,hM];exact hv',by rw [List.length_set,List.length_set];exact hwl,by rw [List.length_set];omega,fun k hk=>?_⟩
      · rw [getD_set']
        split
        · exact hrc
        · rw [List.length_set] at hk
          exact (hrM k (by omega)).closed
      · rw [List.length_set] at hk
        rw [getD_set',getD_set']
        by_cases hak:a=k
        · rw [if_pos ⟨hak,by omega⟩,if_pos ⟨hak,by omega⟩]
          exact hmr2
        · rw [if_neg fun h=>hak h.1,if_neg fun h=>hak h.1]
          exact hrM k hk
    · rw [if_neg fun h=>hip h.1,if_neg fun h=>hip h.1]
      exact ((FZ.closed 37 (hn'.row i hi).closed S).wid fun _ h=>h.elim).mono fun v' hv'=>by rw [hv'];exact hn'.row i hi
  rw [hlen] at hF
  obtain ⟨r',S',f1,f2⟩:=frz_nx (L:=B.L) (sv:=sv) rfl hs.closed hF
  exact ⟨.inr trivial, .agg [.int .i64 B.L,sv, .sref 3 0 B.next.length 1],by simp [resVal,resOne,mkVal,lk,L1],_,S',f1,by simp [LV.closed,LV.closed.closedAll,hs.closed,f2.closed],r',rfl,hs,f2⟩
end Go.Proofs.YthcllhhldknkmaaGreatDoor
end
