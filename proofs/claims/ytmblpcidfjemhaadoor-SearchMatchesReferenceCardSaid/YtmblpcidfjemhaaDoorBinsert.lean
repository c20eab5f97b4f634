/- The document's Insert: a move at its place. -/
import Derived.Test.YtmblpcidfjemhaaDoorBsame
import Derived.Test.YtmblpcidfjemhaaDoorRval
import Derived.Test.YtmblpcidfjemhaaDoorTnum
import Derived.Test.YtmblpcidfjemhaaDoorPplain
set_option linter.unusedSimpArgs false
set_option linter.unusedVariables false
section
set_option linter.unusedSimpArgs false
set_option linter.unusedVariables false
namespace Go.Proofs.YtmblpcidfjemhaaDoor
open Go Go.Pv
open Classical
def SkE (s:St) (v:LV) (esz:Nat) (cells:List LV) (n:Nat):Prop:=cells.length=n*esz∧((v = .nils∧n=0)∨∃ j,v = .sref j 0 n esz∧j<s.n∧s.get j=some (.cells .mut cells))
theorem SkC.e {s:St} {v:LV} {esz n:Nat} {cells:List LV} (h:SkC s v esz cells n):SkE s v esz cells n:=by
  obtain ⟨h0,h | ⟨j,h1,h2,h3,h4⟩⟩:=h
  · exact ⟨h0, .inl h⟩
  · exact ⟨h0, .inr ⟨j,h1,h3,h4⟩⟩
theorem q_appE {P:Program} {G:Globs} {K:Env→St→Prop} {l:List LOper} {e:Env} {s:St} {fl fl':Bool} {a b bytes esz n:Nat} {x y:Opd} {z:List LV} {xv yv:LV} {vs cells:List LV} (hx:x.ev e=xv) (hxc:cells? xv=some vs) (hz:z.length=esz) (hvs:vs.length=esz) (hcl:LV.closed.closedAll vs=true) (hy:y.ev (Tr.set e a (.sref s.n 0 1 esz))=yv) (hs:SkE s yv esz cells n) (hb:bytes≤2 ^ 10) (hl:n≤2 ^ 20)
    (h:∀ s' j,s.n≤j→SkC s' (.sref j 0 (n+1) esz) esz (cells++vs) (n+1)→s.n≤s'.n→(∀ id,id<s.n→¬ uses yv id→s'.get id=s.get id)→W P G K l (Tr.set (Tr.set e a (.sref s.n 0 1 esz)) b (.sref j 0 (n+1) esz)) s') :
    W P G K (⟨some a, .bslice esz 1 z [(0,(esz,x))],none,[],fl⟩::⟨some b, .append esz bytes y (.t a),none,[],fl'⟩::l) e s:=by
  obtain ⟨hcl0,⟨rfl,rfl⟩ | ⟨j,rfl,h2,h3⟩⟩:=hs
  · exact q_appC hx hxc hz hvs hcl hy (n:=0) (cells:=cells) ⟨hcl0, .inl ⟨rfl,rfl⟩⟩ hb hl h
  · have hfill:fillParts (rep 1 z) (evParts e [(0,(esz,x))])=some vs:=by
      have h1:splice z 0 vs=vs:=by
        have:=splice_all (vs:=vs) (z:=z) (by rw [hz,hvs])
        exact this
      have hr1:rep 1 z=z:=by simp [rep]
      simp only [evParts,List.map,hr1,fillParts,hx,hxc,hvs]
      rw [if_pos ⟨trivial,by rw [hz];omega⟩,h1]
    refine q_gen (v:=.sref s.n 0 1 esz) (s':=s.new (.cells .mut vs)) rfl (by simp only [LOp.run,hfill,Option.bind_eq_bind,Option.bind_some]) (by cases fl<;>rfl) trivial ?_
    simp only [Env.put_some]
    have hr:rowOf (s.new (.cells .mut vs)) esz 1 (.sref s.n 0 1 esz)=some vs:=by
      simp only [rowOf,St.get_new,if_true,Nat.le_refl,Nat.one_mul,Nat.zero_add,hvs,and_self,List.drop_zero]
      rw [List.take_of_length_le (by omega)]
    have hft:frzTry vs (s.new (.cells .mut vs))=(vs,s.new (.cells .mut vs)):=frzTry_all hcl
    have hbig:(n+1)*bytes≤big:=by
      have:(n+1)*bytes≤(2 ^ 20+1)*2 ^ 10:=Nat.mul_le_mul (by omega) hb
      unfold big;omega
    have hlen':(cells++vs).length=(n+1)*esz:=by rw [List.length_append,hcl0,hvs,Nat.add_mul,Nat.one_mul]
    have hg:(s.new (.cells .mut vs)).get j=some (.cells .mut cells):=by rw [St.get_new,if_neg (by omega)];exact h3
    have hap:appendLV esz bytes (.sref j 0 n esz) vs 1 (s.new (.cells .mut vs))=some (.sref (s.n+1) 0 (n+1) esz,((s.new (.cells .mut vs)).put j (.cells .ro [])).new (.cells .mut (cells++vs))):=by
      simp only [appendLV,if_true,hg,Nat.zero_add,hcl0,Nat.le_refl,hbig,hvs,Nat.one_mul,and_self,List.drop_zero]
      rw [List.take_of_length_le (by omega)]
      rfl
    refine q_append rfl hy (by simp) rfl hr hft hap ?_
    refine h _ (s.n+1) (by omega) ⟨hlen', .inr ⟨s.n+1,rfl,by omega,by simp,by rw [St.get_new,St.n_put,St.n_new,if_pos rfl]⟩⟩ (by simp;omega) fun id hid hu=>?_
    have hne:id≠j:=fun e=>hu (uses_sref.2 e)
    rw [St.get_new,St.n_put,St.n_new,if_neg (by omega),St.get_put,if_neg hne,St.get_new,if_neg (by omega)]
noncomputable def insG (m:Int × Bool):Moves→Bool→Moves
  | [],done=>if done=true then [] else [m]
  | x::l,done=>if done=false∧mlt m x then m::x::insG m l true else x::insG m l done
noncomputable def insM (ms:Moves) (m:Int × Bool):Moves:=if m∈ms then ms else insG m ms false
theorem insG_mem (m:Int × Bool):∀ (l:Moves) (d:Bool) (x:Int × Bool),x∈insG m l d→x∈l∨x=m:=by
  intro l
  induction l with
  | nil=>intro d x h;cases d<;>simp [insG] at h;exact .inr h
  | cons a l ih=>
    intro d x h
    unfold insG at h
    split at h
    · rcases List.mem_cons.1 h with h | h
      · exact .inr h
      · rcases List.mem_cons.1 h with h | h
        · exact .inl (by simp [h])
        · exact (ih _ x h).imp (List.mem_cons_of_mem _) id
    · rcases List.mem_cons.1 h with h | h
      · exact .inl (by simp [h])
      · exact (ih _ x h).imp (List.mem_cons_of_mem _) id
theorem SkE.frz {s:St} {v:LV} {esz n:Nat} {cells:List LV} (h:SkE s v esz cells n) (hc:LV.closed.closedAll cells=true):∃ r s',Go.Pv.frz frzDepth v s=some (r,s')∧Sl r cells n:=by
  obtain ⟨h0,⟨rfl,rfl⟩ | ⟨j,rfl,h2,h3⟩⟩:=h
  · have:cells=[]:=List.length_eq_zero_iff.1 (by rw [h0,Nat.zero_mul])
    subst this
    exact ⟨.nils,s,rfl, .nil⟩
  · refine ⟨.simm cells n,s.put j (.cells .app cells),?_, .simm _ _⟩
    show Go.Pv.frz (38+2) _ s=_
    unfold Go.Pv.frz
    simp only [LV.closed,Bool.false_eq_true,if_false,h3,Nat.zero_add,h0,Nat.le_refl,if_true,frzAll_closed hc,Option.bind_eq_bind,Option.bind_some,List.drop_zero]
    rw [List.take_of_length_le (by omega)]
set_option maxHeartbeats 8000000 in
theorem insert_ok {lv:LV} {ms:Moves} (hm':IsMoves lv ms) (m:Int × Bool) (hr:inI64 m.1) (hl:ms.length≤100000) :
    PE 48 [lv, .agg [.int .i64 m.1, .bool m.2]] (fun r=>IsMoves r (insM ms m)):=by
  obtain ⟨mt,mg⟩:=m
  have hml:=hm'.sl.len
  have hmx:maxLen=9223372036854775807:=by decide
  have hbe:=fun x=>before_ok (mt,mg) x
  refine q_fnEx (t:=4) hm Tryd.func48 (by decide +kernel) c48 (Nat.le_of_ble_eq_true rfl) (by simp [LV.closed.closedAll,LV.closed,hm'.closed]) rfl ?_
  have e0:(envOf [lv,LV.agg [.int .i64 mt, .bool mg]]).at 0=lv:=by rw [envOf_at];rfl
  have e1:(envOf [lv,LV.agg [.int .i64 mt, .bool mg]]).at 1 = .agg [.int .i64 mt, .bool mg]:=by rw [envOf_at];rfl
  generalize envOf [lv,LV.agg [.int .i64 mt, .bool mg]]=e at *
  have hvc:(LV.agg [.int .i64 mt, .bool mg]).closed=true:=rfl
  unfold l48
  dsimp only [jA,jB,jE,qM,qN,qS,qI,qA,qB,qC,qK,qO,qm]
  repeat' (first | refine gA trivial ?_ | (refine gB trivial ?_;intro bb hbb;cases bb<;>(try simp only [hbs,if_false,reduceCtorEq] at hbb)) | apply qc_seq | fail)
  refine qc_loop (fun q e s=>∃ (i:Nat) (ov:LV) (out:Moves) (done:Bool),q=ms.length - i∧i≤ms.length∧(∀ k,k<i→ms.getD k (0,false)≠(mt,mg))∧SkE s ov 2 (mcells out) out.length∧out.length≤i+(if done=true then 1 else 0)∧out++insG (mt,mg) (ms.drop i) done=insG (mt,mg) ms false∧e.at 0=lv∧e.at 3 = .pimm [.int .i64 mt, .bool mg] 0∧e.at 5=ov∧e.at 6 = .bool done∧e.at 7 = .int .i64 (i:Int)) _
    ⟨0,_,[],false,rfl,by omega,fun k hk=>absurd hk (Nat.not_lt_zero _),⟨rfl, .inr ⟨0,rfl,by simp [n_empty],by simp [St.get_new,n_empty,mcells]⟩⟩,by simp,by simp,ef,ef,by simp only [lk,sv1,sv2,sv3,Nat.reduceEqDiff,Nat.reduceAdd,Nat.reduceLeDiff,reduceIte,if_false,if_true,mkVal,unLV,List.map,optTmps,n_empty,List.length_nil],ef,by simp only [lk,sv1,sv2,sv3,Nat.reduceEqDiff,Nat.reduceAdd,Nat.reduceLeDiff,reduceIte,if_false,if_true,mkVal,unLV,List.map,optTmps];rfl⟩ ?_
  clear e0 e1
  clear e
  rintro q e s ⟨i,ov,out,done,rfl,hi,hno,hS,hol,hout,e0,e3,e5,e6,e7⟩
  have hol2:out.length≤i+1:=by split at hol<;>omega
  by_cases hil:i<ms.length
  · have hiI:(i:Int)<(ms.length:Int):=by omega
    have hwi:=wrap_succ hiI hm'.len
    have hld:=fun s=>loadN_moves (s:=s) hil
    have hq:=beq_is (ms.getD i (0,false)) (mt,mg)
    have hb1:=hbe (ms.getD i (0,false))
    have hdr:ms.drop i=ms.getD i (0,false)::ms.drop (i+1):=by
      rw [List.drop_eq_getElem_cons hil,List.getD_eq_getElem?_getD,List.getElem?_eq_getElem hil];rfl
    rw [hdr] at hout
    have hgm:ms.getD i (0,false)∈ms:=getD_mem hil
    generalize hx:ms.getD i (0,false)=x at *
    obtain ⟨xt,xg⟩:=x
    simp only at hld hq hb1
    have one:∀ (ov:LV) (out:Moves) (d':Bool) (e:Env) (s:St),SkE s ov 2 (mcells out) out.length→out.length≤i+(if d'=true then 1 else 0)→out++(xt,xg)::insG (mt,mg) (ms.drop (i+1)) d'=insG (mt,mg) ms false→(xt,xg)≠(mt,mg) →
        ∀ (e':Env) (s':St) (j:Nat),SkC s' (.sref j 0 (out.length+1) 2) 2 (mcells out++[.int .i64 xt, .bool xg]) (out.length+1)→(e'.at 0=lv∧e'.at 3 = .pimm [.int .i64 mt, .bool mg] 0∧e'.at 5 = .sref j 0 (out.length+1) 2∧e'.at 6 = .bool d'∧e'.at 7 = .int .i64 ((i+1:Nat):Int)) →
        ∃ q,q<ms.length - i∧∃ (i:Nat) (ov:LV) (out:Moves) (done:Bool),q=ms.length - i∧i≤ms.length∧(∀ k,k<i→ms.getD k (0,false)≠(mt,mg))∧SkE s' ov 2 (mcells out) out.length∧out.length≤i+(if done=true then 1 else 0)∧out++insG (mt,mg) (ms.drop i) done=insG (mt,mg) ms false∧e'.at 0=lv∧e'.at 3 = .pimm [.int .i64 mt, .bool mg] 0∧e'.at 5=ov∧e'.at 6 = .bool done∧e'.at 7 = .int .i64 (i:Int):=fun ov out d' e s hS hol hout hne e' s' j hS' he=>
      ⟨ms.length - (i+1),by omega,i+1, .sref j 0 (out.length+1) 2,out++[(xt,xg)],d',rfl,by omega,fun k hk=>by
        by_cases h:k<i
        · exact hno k h
        · obtain rfl:k=i:=by omega
          rw [hx];exact hne,by rw [mcells_append,List.length_append];exact SkC.e hS',by rw [List.length_append];simp only [List.length_singleton];omega,by rw [List.append_assoc];exact hout,he⟩
    have ret:(xt,xg)=(mt,mg)→IsMoves lv (insM ms (mt,mg)):=fun heq=>by
      unfold insM
      rw [if_pos (by rw [← heq];exact hgm)]
      exact hm'
    cases done with
    | true=>
      repeat' (first | refine gA (And.intro @hml (And.intro (@iaN _ _ _ hm'.sl) (And.intro @hld @hq))) ?_ | (refine gB (And.intro @hml (And.intro (@iaN _ _ _ hm'.sl) (And.intro @hld @hq))) ?_;intro bb hbb;cases bb<;>(try simp only [hbs,if_false,reduceCtorEq] at hbb)) | apply qc_seq | fail)
      · exfalso;omega
      · refine q_appE (n:=out.length) (esz:=2) (xv:=.agg [.int .i64 xt, .bool xg]) (yv:=ov) (vs:=[.int .i64 xt, .bool xg]) (cells:=mcells out) ef rfl rfl rfl rfl ef hS (by decide) (by omega) (fun s3 j3 a1 a2 a3 a4=>?_)
        repeat' (first | refine gA trivial ?_ | (refine gB trivial ?_;intro bb hbb;cases bb<;>(try simp only [hbs,if_false,reduceCtorEq] at hbb)) | apply qc_seq | fail)
        exact one ov out true e s hS hol (by simpa [insG] using hout) (by simpa using hbb) _ _ j3 a2 (by simp only [lk,sv1,sv2,sv3,Nat.reduceEqDiff,Nat.reduceAdd,Nat.reduceLeDiff,reduceIte,if_false,if_true,mkVal,unLV,List.map,optTmps,e0,e3,e6,hwi,and_self])
      · exact ⟨.inr trivial,lv,s,by simp only [lk,sv1,sv2,sv3,Nat.reduceEqDiff,Nat.reduceAdd,Nat.reduceLeDiff,reduceIte,if_false,if_true,mkVal,unLV,List.map,optTmps];exact frzD_closed hm'.closed,hm'.closed,ret (by simpa using hbb)⟩
    | false =>
      repeat' (first | refine gA (And.intro @hml (And.intro (@iaN _ _ _ hm'.sl) (And.intro @hld @hq))) ?_ | (refine gB (And.intro @hml (And.intro (@iaN _ _ _ hm'.sl) (And.intro @hld @hq))) ?_;intro bb hbb;cases bb<;>(try simp only [hbs,if_false,reduceCtorEq] at hbb)) | apply qc_seq | fail)
      · exfalso;omega
      · have hne:(xt,xg)≠(mt,mg):=by simpa using hbb
        refine q_pureB hG0 (hb1) (by first | exact wN | (apply wG;(simp only [lk,Nat.reduceEqDiff,reduceIte,e0,e3,e5,e6,e7];(try rfl);done))) (by simp only [List.map,lk,Nat.reduceEqDiff,reduceIte,e0,e3,e5,e6,e7];try rfl) (fun bb hbb=>⟨by first | trivial | (simp only [Chks,wantedG,LOp.run,Env.put_some,Env.put_none,lk,sv1,sv2,sv3,Nat.reduceEqDiff,Nat.reduceAdd,Nat.reduceLeDiff,reduceIte,if_false,if_true,mkVal,unLV,List.map,optTmps,beq_self_eq_true,reduceCtorEq,false_or,true_and,and_true,Option.some.injEq, *];done),?_⟩)
        simp only [Env.put_some]
        cases bb<;>simp only [decide_eq_true_eq,decide_eq_false_iff_not] at hbb
        · repeat' (first | refine gA (And.intro @hml (And.intro (@iaN _ _ _ hm'.sl) @hld)) ?_ | (refine gB (And.intro @hml (And.intro (@iaN _ _ _ hm'.sl) @hld)) ?_;intro bb hbb;cases bb<;>(try simp only [hbs,if_false,reduceCtorEq] at hbb)) | apply qc_seq | fail)
          refine q_appE (n:=out.length) (esz:=2) (xv:=.agg [.int .i64 xt, .bool xg]) (yv:=ov) (vs:=[.int .i64 xt, .bool xg]) (cells:=mcells out) ef rfl rfl rfl rfl ef hS (by decide) (by omega) (fun s3 j3 a1 a2 a3 a4=>?_)
          repeat' (first | refine gA trivial ?_ | (refine gB trivial ?_;intro bb hbb;cases bb<;>(try simp only [hbs,if_false,reduceCtorEq] at hbb)) | apply qc_seq | fail)
          exact one ov out false e s hS hol (by simpa [insG,hbb] using hout) hne _ _ j3 a2 (by simp only [lk,sv1,sv2,sv3,Nat.reduceEqDiff,Nat.reduceAdd,Nat.reduceLeDiff,reduceIte,if_false,if_true,mkVal,unLV,List.map,optTmps,e0,e3,e6,hwi,and_self])
        · repeat' (first | refine gA (And.intro @hml (And.intro (@iaN _ _ _ hm'.sl) @hld)) ?_ | (refine gB (And.intro @hml (And.intro (@iaN _ _ _ hm'.sl) @hld)) ?_;intro bb hbb;cases bb<;>(try simp only [hbs,if_false,reduceCtorEq] at hbb)) | apply qc_seq | fail)
          refine q_appE (n:=out.length) (esz:=2) (xv:=.agg [.int .i64 mt, .bool mg]) (yv:=ov) (vs:=[.int .i64 mt, .bool mg]) (cells:=mcells out) ef rfl rfl rfl rfl ef hS (by decide) (by omega) (fun s3 j3 a1 a2 a3 a4=>?_)
          have hS3:SkE s3 (.sref j3 0 (out.length+1) 2) 2 (mcells (out++[(mt,mg)])) (out++[(mt,mg)]).length:=by
            rw [mcells_append,List.length_append];exact SkC.e a2
          have hout3:(out++[(mt,mg)])++(xt,xg)::insG (mt,mg) (ms.drop (i+1)) true=insG (mt,mg) ms false:=by
            simpa [insG,hbb] using hout
          have hol3:(out++[(mt,mg)]).length≤i+(if true=true then 1 else 0):=by
            rw [List.length_append];simp at hol ⊢;omega
          have hol32:(out++[(mt,mg)]).length≤i+1:=by simpa using hol3
          repeat' (first | refine gA (And.intro @hml (And.intro (@iaN _ _ _ hm'.sl) @hld)) ?_ | (refine gB (And.intro @hml (And.intro (@iaN _ _ _ hm'.sl) @hld)) ?_;intro bb hbb;cases bb<;>(try simp only [hbs,if_false,reduceCtorEq] at hbb)) | apply qc_seq | fail)
          refine q_appE (n:=(out++[(mt,mg)]).length) (esz:=2) (xv:=.agg [.int .i64 xt, .bool xg]) (yv:=.sref j3 0 (out.length+1) 2) (vs:=[.int .i64 xt, .bool xg]) (cells:=mcells (out++[(mt,mg)])) ef rfl rfl rfl rfl ef hS3 (by decide) (by omega) (fun s4 j4 b1 b2 b3 b4=>?_)
          repeat' (first | refine gA trivial ?_ | (refine gB trivial ?_;intro bb hbb;cases bb<;>(try simp only [hbs,if_false,reduceCtorEq] at hbb)) | apply qc_seq | fail)
          exact one _ (out++[(mt,mg)]) true e s3 hS3 hol3 hout3 hne _ _ j4 b2 (by simp only [lk,sv1,sv2,sv3,Nat.reduceEqDiff,Nat.reduceAdd,Nat.reduceLeDiff,reduceIte,if_false,if_true,mkVal,unLV,List.map,optTmps,e0,e3,hwi,and_self])
      · exact ⟨.inr trivial,lv,s,by simp only [lk,sv1,sv2,sv3,Nat.reduceEqDiff,Nat.reduceAdd,Nat.reduceLeDiff,reduceIte,if_false,if_true,mkVal,unLV,List.map,optTmps];exact frzD_closed hm'.closed,hm'.closed,ret (by simpa using hbb)⟩
  · have hie:i=ms.length:=by omega
    rw [hie,List.drop_length] at hout
    have hnm:(mt,mg) ∉ ms:=fun hm=>by
      obtain ⟨k,hk⟩:=List.mem_iff_getElem?.1 hm
      have hkl:=(List.getElem?_eq_some_iff.1 hk).1
      exact hno k (by omega) (by rw [List.getD_eq_getElem?_getD,hk];rfl)
    have hres:insM ms (mt,mg)=insG (mt,mg) ms false:=by unfold insM;rw [if_neg hnm]
    rw [hres]
    have hfin:∀ (v:LV) (o:Moves) (S:St),SkE S v 2 (mcells o) o.length→o.length≤200000→o=insG (mt,mg) ms false→∃ r s',frz frzDepth v S=some (r,s')∧r.closed=true∧IsMoves r (insG (mt,mg) ms false):=fun v o S h1 h2 h3=>by
      obtain ⟨r,s',h4,h5⟩:=h1.frz (mcells_closed o)
      rw [← h3]
      refine ⟨r,s',h4,h5.closed (mcells_closed o),h5,by omega,fun x hx=>?_⟩
      rw [h3] at hx
      rcases insG_mem _ _ _ x hx with h | h
      · exact hm'.rng x h
      · rw [h];exact hr
    cases done with
    | true=>
      have hout':out=insG (mt,mg) ms false:=by simpa [insG] using hout
      obtain ⟨r,s',h1,h2,h3⟩:=hfin ov out s hS (by omega) hout'
      repeat' (first | refine gA @hml ?_ | (refine gB @hml ?_;intro bb hbb;cases bb<;>(try simp only [hbs,if_false,reduceCtorEq] at hbb)) | apply qc_seq | fail)
      · exact ⟨.inr trivial,r,s',by simp only [lk,sv1,sv2,sv3,Nat.reduceEqDiff,Nat.reduceAdd,Nat.reduceLeDiff,reduceIte,if_false,if_true,mkVal,unLV,List.map,optTmps,e5];exact h1,h2,h3⟩
      · exfalso;omega
    | false=>
      have hout':out++[(mt,mg)]=insG (mt,mg) ms false:=by simpa [insG] using hout
      repeat' (first | refine gA @hml ?_ | (refine gB @hml ?_;intro bb hbb;cases bb<;>(try simp only [hbs,if_false,reduceCtorEq] at hbb)) | apply qc_seq | fail)
      · refine q_appE (n:=out.length) (esz:=2) (xv:=.agg [.int .i64 mt, .bool mg]) (yv:=ov) (vs:=[.int .i64 mt, .bool mg]) (cells:=mcells out) ef rfl rfl rfl rfl ef hS (by decide) (by omega) (fun s3 j3 a1 a2 a3 a4=>?_)
        obtain ⟨r,s',h1,h2,h3⟩:=hfin (.sref j3 0 (out.length+1) 2) (out++[(mt,mg)]) s3 (by rw [mcells_append,List.length_append];exact SkC.e a2) (by rw [List.length_append];simp only [List.length_singleton];omega) hout'
        repeat' (first | refine gA trivial ?_ | (refine gB trivial ?_;intro bb hbb;cases bb<;>(try simp only [hbs,if_false,reduceCtorEq] at hbb)) | apply qc_seq | fail)
        exact ⟨.inr trivial,r,s',by simp only [lk,sv1,sv2,sv3,Nat.reduceEqDiff,Nat.reduceAdd,Nat.reduceLeDiff,reduceIte,if_false,if_true,mkVal,unLV,List.map,optTmps];exact h1,h2,h3⟩
      · exfalso;omega
end Go.Proofs.YtmblpcidfjemhaaDoor
end
section
set_option linter.unusedSimpArgs false
set_option linter.unusedVariables false
namespace Go.Proofs.YtmblpcidfjemhaaDoor
open Go Go.Pv
open Classical
theorem fz_ske {s:St} {v:LV} {esz n:Nat} {cells:List LV} (k:Nat) (h:SkE s v esz cells n) (hc:LV.closed.closedAll cells=true):FZ (uses v) (fun v'=>Sl v' cells n) (k+2) v s:=by
  intro s1 h1
  obtain ⟨h0,⟨rfl,rfl⟩ | ⟨j,rfl,h2,h3⟩⟩:=h
  · have:cells=[]:=List.length_eq_zero_iff.1 (by rw [h0,Nat.zero_mul])
    subst this
    exact ⟨.nils,s1,rfl, .nil,rfl,fun _ _=>rfl⟩
  · have hg1:s1.get j=some (.cells .mut cells):=by rw [h1 j (uses_sref.2 rfl)];exact h3
    refine ⟨.simm cells n,s1.put j (.cells .app cells),?_, .simm _ _,rfl,fun id hid=>by rw [St.get_put,if_neg fun e=>hid (uses_sref.2 e)]⟩
    unfold frz
    simp only [LV.closed,Bool.false_eq_true,if_false,hg1,Nat.zero_add,h0,Nat.le_refl,if_true,frzAll_closed hc,Option.bind_eq_bind,Option.bind_some,List.drop_zero]
    rw [List.take_of_length_le (by omega)]
theorem q_appFE {P:Program} {G:Globs} {K:Env→St→Prop} {l:List LOper} {e:Env} {s:St} {fl fl':Bool} {a b bytes n:Nat} {x y:Opd} {z xv yv:LV} {cells:List LV} {T:Nat→Prop} {R:LV→Prop} (hx:x.ev e=xv) (hxc:cells? xv=some [xv]) (hy:y.ev (Tr.set e a (.sref s.n 0 1 1))=yv) (hs:SkE s yv 1 cells n) (hF:FZ T R frzDepth xv s) (hT:∀ id,T id→id<s.n∧¬ uses yv id) (hb:bytes≤2 ^ 10) (hl:n≤2 ^ 20)
    (h:∀ s' j v',s.n≤j→R v'→SkC s' (.sref j 0 (n+1) 1) 1 (cells++[v']) (n+1)→s.n≤s'.n→(∀ id,id<s.n→¬ uses yv id→¬ T id→s'.get id=s.get id)→W P G K l (Tr.set (Tr.set e a (.sref s.n 0 1 1)) b (.sref j 0 (n+1) 1)) s') :
    W P G K (⟨some a, .bslice 1 1 [z] [(0,(1,x))],none,[],fl⟩::⟨some b, .append 1 bytes y (.t a),none,[],fl'⟩::l) e s:=by
  have hfill:fillParts (rep 1 [z]) (evParts e [(0,(1,x))])=some [xv]:=by
    have hr1:rep 1 [z]=[z]:=by simp [rep]
    simp only [evParts,List.map,hr1,fillParts,hx,hxc]
    rfl
  refine q_gen (v:=.sref s.n 0 1 1) (s':=s.new (.cells .mut [xv])) rfl (by simp only [LOp.run,hfill,Option.bind_eq_bind,Option.bind_some]) (by cases fl<;>rfl) trivial ?_
  simp only [Env.put_some]
  have hr:rowOf (s.new (.cells .mut [xv])) 1 1 (.sref s.n 0 1 1)=some [xv]:=by
    simp [rowOf,St.get_new]
  obtain ⟨v',s2,f1,f2,f3,f4⟩:=hF (s.new (.cells .mut [xv])) fun id hid=>by rw [St.get_new,if_neg (by have:=(hT id hid).1;omega)]
  have hft:frzTry [xv] (s.new (.cells .mut [xv]))=([v'],s2):=by
    simp [frzTry,frz.frzAll,f1]
  have hk2:∀ id,id<s.n→¬ T id→s2.get id=s.get id:=fun id h1 h2=>by rw [f4 id h2,St.get_new,if_neg (by omega)]
  have hn2:s2.n=s.n+1:=by rw [f3,St.n_new]
  have hbig:(n+1)*bytes≤big:=by
    have:(n+1)*bytes≤(2 ^ 20+1)*2 ^ 10:=Nat.mul_le_mul (by omega) hb
    unfold big;omega
  obtain ⟨hcl0,hs⟩:=hs
  have hlen':(cells++[v']).length=(n+1)*1:=by rw [List.length_append,hcl0];simp
  rcases hs with ⟨rfl,rfl⟩ | ⟨j,rfl,h2,h3⟩
  · have hc0:cells=[]:=List.length_eq_zero_iff.1 (by rw [hcl0])
    subst hc0
    have hap:appendLV 1 bytes .nils [v'] 1 s2=some (.sref (s.n+1) 0 1 1,s2.new (.cells .mut [v'])):=by
      simp only [appendLV]
      rw [if_neg (by omega),if_pos ⟨by simpa using hbig,by simp⟩,hn2]
    refine q_append rfl hy (by simp) rfl hr hft hap ?_
    refine h _ (s.n+1) v' (by omega) f2 ⟨hlen', .inr ⟨s.n+1,rfl,by omega,by rw [St.n_new];omega,by rw [St.get_new,if_pos (by omega)];rfl⟩⟩ (by rw [St.n_new];omega) fun id hid _ ht=>?_
    rw [St.get_new,if_neg (by omega)]
    exact hk2 id hid ht
  · have hg:s2.get j=some (.cells .mut cells):=by rw [hk2 j h2 fun ht=>(hT j ht).2 (uses_sref.2 rfl)];exact h3
    have hap:appendLV 1 bytes (.sref j 0 n 1) [v'] 1 s2=some (.sref (s.n+1) 0 (n+1) 1,(s2.put j (.cells .ro [])).new (.cells .mut (cells++[v']))):=by
      simp only [appendLV,if_true,hg,Nat.zero_add,hcl0,Nat.le_refl,hbig,List.length_singleton,Nat.one_mul,Nat.mul_one,and_self,List.drop_zero]
      rw [List.take_of_length_le (by omega),← hn2]
      rfl
    refine q_append rfl hy (by simp) rfl hr hft hap ?_
    refine h _ (s.n+1) v' (by omega) f2 ⟨hlen', .inr ⟨s.n+1,rfl,by omega,by rw [St.n_new,St.n_put];omega,by rw [St.get_new,St.n_put,if_pos (by omega)]⟩⟩ (by rw [St.n_new,St.n_put];omega) fun id hid hu ht=>?_
    have hne:id≠j:=fun e=>hu (uses_sref.2 e)
    rw [St.get_new,St.n_put,if_neg (by omega),St.get_put,if_neg hne]
    exact hk2 id hid ht
theorem SkE.mono {s s':St} {v:LV} {esz n:Nat} {cells:List LV} (h:SkE s v esz cells n) (hn:s.n≤s'.n) (hs:∀ id,uses v id→s'.get id=s.get id):SkE s' v esz cells n:=by
  obtain ⟨h0,h1 | ⟨j,rfl,h2,h3⟩⟩:=h
  · exact ⟨h0, .inl h1⟩
  · exact ⟨h0, .inr ⟨j,rfl,by omega,(hs j (uses_sref.2 rfl)).trans h3⟩⟩
theorem SkE.len {s:St} {v:LV} {esz n:Nat} {cells:List LV} (h:SkE s v esz cells n):slLen v=some n:=by
  obtain ⟨_,⟨rfl,rfl⟩ | ⟨j,rfl,_⟩⟩:=h<;>rfl
theorem SkE.cell {s:St} {v:LV} {esz n:Nat} {cells:List LV} (h:SkE s v esz cells n):isCell v=true:=by
  obtain ⟨_,⟨rfl,rfl⟩ | ⟨j,rfl,_⟩⟩:=h<;>rfl
theorem SkE.lt {s:St} {v:LV} {esz n:Nat} {cells:List LV} (h:SkE s v esz cells n) {id:Nat} (hu:uses v id):id<s.n:=by
  obtain ⟨_,⟨rfl,rfl⟩ | ⟨j,rfl,h2,_⟩⟩:=h
  · exact absurd hu (uses_nils id)
  · rw [uses_sref.1 hu];exact h2
theorem SkE.pos {s:St} {v:LV} {esz n:Nat} {cells:List LV} (h:SkE s v esz cells n) (hn:0<n):∃ j,v = .sref j 0 n esz∧j<s.n∧s.get j=some (.cells .mut cells):=by
  obtain ⟨_,⟨rfl,rfl⟩ | ⟨j,h1,h2,h3⟩⟩:=h
  · exact absurd hn (Nat.lt_irrefl 0)
  · exact ⟨j,h1,h2,h3⟩
end Go.Proofs.YtmblpcidfjemhaaDoor
end
section
set_option linter.unusedSimpArgs false
set_option linter.unusedVariables false
namespace Go.Proofs.YtmblpcidfjemhaaDoor
open Go Go.Pv
open Classical
theorem getD_lt2 {α:Type} {l:List α} {k:Nat} {d:α} (h:k<l.length):l.getD k d=l[k]:=by simp [List.getD_eq_getElem?_getD,h]
theorem insG_true (m:Int × Bool):∀ l:Moves,insG m l true=l:=by
  intro l
  induction l with
  | nil=>rfl
  | cons x l ih=>simp [insG,ih]
theorem insG_iff (m:Int × Bool):∀ (l:Moves) (x:Int × Bool),x∈insG m l false↔x∈l∨x=m:=by
  intro l
  induction l with
  | nil=>intro x;simp [insG]
  | cons a l ih=>
    intro x
    unfold insG
    split
    · rw [insG_true]
      simp only [List.mem_cons]
      constructor
      · rintro (h | h | h)
        · exact .inr h
        · exact .inl (.inl h)
        · exact .inl (.inr h)
      · rintro ((h | h) | h)
        · exact .inr (.inl h)
        · exact .inr (.inr h)
        · exact .inl h
    · rw [List.mem_cons,ih,List.mem_cons]
      constructor
      · rintro (h | h | h)<;>simp [h]
      · rintro ((h | h) | h)<;>simp [h]
theorem insG_pw (m:Int × Bool):∀ (l:Moves),l.Pairwise mlt→m ∉ l→(insG m l false).Pairwise mlt:=by
  intro l
  induction l with
  | nil=>intro _ _;simp [insG]
  | cons a l ih=>
    intro h hm
    obtain ⟨h1,h2⟩:=List.pairwise_cons.1 h
    unfold insG
    split
    · rename_i hc
      rw [insG_true]
      refine List.pairwise_cons.2 ⟨fun y hy=>?_,h⟩
      rcases List.mem_cons.1 hy with rfl | hy
      · exact hc.2
      · exact mlt_trans hc.2 (h1 y hy)
    · rename_i hc
      have hna:¬ mlt m a:=fun h=>hc ⟨rfl,h⟩
      refine List.pairwise_cons.2 ⟨fun y hy=>?_,ih h2 fun h=>hm (List.mem_cons_of_mem _ h)⟩
      rcases (insG_iff m l y).1 hy with hy | rfl
      · exact h1 y hy
      · exact mlt_tri' (fun e=>hm (by simp [e])) hna
theorem insM_iff (ms:Moves) (m x:Int × Bool):x∈insM ms m↔x∈ms∨x=m:=by
  unfold insM
  split
  · rename_i h
    constructor
    · exact .inl
    · rintro (h1 | rfl)
      · exact h1
      · exact h
  · exact insG_iff m ms x
theorem insM_pw {ms:Moves} (h:ms.Pairwise mlt) (m:Int × Bool):(insM ms m).Pairwise mlt:=by
  unfold insM
  split
  · exact h
  · rename_i hm;exact insG_pw m ms h hm
noncomputable def insL (ms l:Moves):Moves:=l.foldl insM ms
theorem insL_snoc (ms l:Moves) (m:Int × Bool):insL ms (l++[m])=insM (insL ms l) m:=by simp [insL]
theorem insL_iff:∀ (l ms:Moves) (x:Int × Bool),x∈insL ms l↔x∈ms∨x∈l:=by
  intro l
  induction l with
  | nil=>intro ms x;simp [insL]
  | cons a l ih=>
    intro ms x
    show x∈insL (insM ms a) l↔_
    rw [ih,insM_iff,List.mem_cons,or_assoc]
theorem insL_pw:∀ (l:Moves) {ms:Moves},ms.Pairwise mlt→(insL ms l).Pairwise mlt:=by
  intro l
  induction l with
  | nil=>intro ms h;exact h
  | cons a l ih=>intro ms h;exact ih (insM_pw h a)
theorem sst_pw {ms:Moves} : SSt ms↔ms.Pairwise mlt:=by
  rw [List.pairwise_iff_getElem]
  constructor
  · intro h i j hi hj hij
    have:=h i j hij hj
    rwa [getD_lt2 hi,getD_lt2 hj] at this
  · intro h i j hij hj
    rw [getD_lt2 (show i<ms.length by omega),getD_lt2 hj]
    exact h i j _ _ hij
end Go.Proofs.YtmblpcidfjemhaaDoor
end
