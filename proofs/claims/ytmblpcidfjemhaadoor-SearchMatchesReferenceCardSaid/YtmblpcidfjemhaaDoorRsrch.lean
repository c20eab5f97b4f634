/- The document's Search: the numbered states with their letters. -/
import Derived.Test.YtmblpcidfjemhaaDoorTlaw
import Derived.Test.YtmblpcidfjemhaaDoorRout
set_option linter.unusedSimpArgs false
set_option linter.unusedVariables false
section
set_option linter.unusedSimpArgs false
set_option linter.unusedVariables false
namespace Go.Proofs.YtmblpcidfjemhaaDoor
open Go Go.Pv Go.Aut
open Classical
structure WS (s:St) (lv:LV) (acc:List Fnd.En) (es:List WE):Prop where
  sk:SkE s lv 2 (wcells es) es.length
  ok:WOK es
  wr:Fnd.WR acc (wsOf es)
theorem WS.len {s:St} {lv:LV} {acc:List Fnd.En} {es:List WE} (h:WS s lv acc es):es.length=acc.length:=by
  have:=h.wr.len
  simpa [wsOf] using this
theorem WS.mem {s:St} {lv:LV} {acc:List Fnd.En} {es:List WE} (h:WS s lv acc es):es.map (·.1)=acc.map (·.1):=by
  have:=h.wr.has
  rw [← this,wsOf,List.map_map]
  rfl
theorem WS.at {s:St} {lv:LV} {acc:List Fnd.En} {es:List WE} (h:WS s lv acc es) {k:Nat} {x:Fnd.En} (hx:acc[k]? = some x):∃ wv wl,es[k]? = some (x.1,wv,wl)∧IsInts wv (zints wl)∧Fnd.Wy acc k wl:=by
  obtain ⟨l,h1,h2⟩:=h.wr.el k x hx
  rw [wsOf,List.getElem?_map] at h1
  cases he:es[k]? with
  | none=>rw [he] at h1;cases h1
  | some w=>
    rw [he] at h1
    obtain ⟨a,b,c⟩:=w
    have h3:a=x.1∧c=l:=by simpa using h1
    obtain ⟨rfl,rfl⟩:=h3
    exact ⟨b,c,rfl,h.ok _ (List.mem_of_getElem? he),h2⟩
theorem WS.first {s s3:St} {lv:LV} {acc:List Fnd.En} {es:List WE} {p j:Nat} (h:WS s lv acc es) (hS:SkC s3 (.sref j 0 (es.length+1) 2) 2 (wcells es++[.int .i64 (p:Int), .nils]) (es.length+1)):WS s3 (.sref j 0 (es.length+1) 2) (acc++[(p,-1,0)]) (es++[(p, .nils,[])]):=by
  refine ⟨?_,h.ok.app (zints_is (by simp) (by simp) _ .nil),?_⟩
  · rw [wcells_append,List.length_append]
    exact SkC.e (by simpa [wcells] using hS)
  · have:=h.wr.first p
    simpa [wsOf] using this
theorem WS.step {s s3:St} {lv v' wv:LV} {acc:List Fnd.En} {es:List WE} {p q a j k:Nat} {wl:List Nat} (h:WS s lv acc es) (hk:es[k]? = some (q,wv,wl)) (hv:IsInts v' (zints (wl++[a]))) (hS:SkC s3 (.sref j 0 (es.length+1) 2) 2 (wcells es++[.int .i64 (p:Int),v']) (es.length+1)):WS s3 (.sref j 0 (es.length+1) 2) (acc++[(p,(q:Int),a)]) (es++[(p,v',wl++[a])]):=by
  refine ⟨?_,h.ok.app hv,?_⟩
  · rw [wcells_append,List.length_append]
    exact SkC.e (by simpa [wcells] using hS)
  · have:=h.wr.step (p:=p) (q:=q) (a:=a) (i:=k) (l:=wl) (by rw [wsOf,List.getElem?_map,hk];rfl)
    simpa [wsOf] using this
theorem add_new {acc:List Fnd.En} {x:Fnd.En} (h:x.1 ∉ acc.map (·.1)):Fnd.add acc x=acc++[x]:=by unfold Fnd.add;rw [if_neg h]
theorem add_old {acc:List Fnd.En} {x:Fnd.En} (h:x.1∈acc.map (·.1)):Fnd.add acc x=acc:=by unfold Fnd.add;rw [if_pos h]
theorem q_bs0g {P:Program} {G:Globs} {K:Env→St→Prop} {l:List LOper} {e:Env} {s:St} {fl:Bool} {chk:List (Nat × Option (Nat × Bool) × LOp)} {d esz:Nat} {z:List LV}
    (hck:∀ s1:St,s1.n=s.n+1→(∀ id,id<s.n→s1.get id=s.get id)→Chks chk (Tr.set e d (.sref s.n 0 0 esz)) s1)
    (h:∀ s1:St,s1.n=s.n+1→s1.get s.n=some (.cells .mut [])→(∀ id,id<s.n→s1.get id=s.get id)→W P G K l (Tr.set e d (.sref s.n 0 0 esz)) s1) :
    W P G K (⟨some d, .bslice esz 0 z [],none,chk,fl⟩::l) e s:=
  have b3:∀ id,id<s.n→(s.new (.cells .mut [])).get id=s.get id:=fun id h1=>by rw [St.get_new,if_neg (by omega)]
  q_bs0k rfl (hck _ rfl b3) (h _ rfl (by rw [St.get_new,if_pos rfl]) b3)
theorem q_bs1g {P:Program} {G:Globs} {K:Env→St→Prop} {l:List LOper} {e:Env} {s:St} {fl:Bool} {chk:List (Nat × Option (Nat × Bool) × LOp)} {d:Nat} {z v:LV} {x:Opd} (hx:x.ev e=v) (hxc:cells? v=some [v])
    (hck:∀ s1:St,s1.n=s.n+1→(∀ id,id<s.n→s1.get id=s.get id)→Chks chk (Tr.set e d (.sref s.n 0 1 1)) s1)
    (h:∀ s1:St,s1.n=s.n+1→s1.get s.n=some (.cells .mut [v])→(∀ id,id<s.n→s1.get id=s.get id)→W P G K l (Tr.set e d (.sref s.n 0 1 1)) s1) :
    W P G K (⟨some d, .bslice 1 1 [z] [(0,(1,x))],none,chk,fl⟩::l) e s:=by
  have b3:∀ id,id<s.n→(s.new (.cells .mut [v])).get id=s.get id:=fun id h1=>by rw [St.get_new,if_neg (by omega)]
  have hfill:fillParts (rep 1 [z]) (evParts e [(0,(1,x))])=some [v]:=by
    have hr1:rep 1 [z]=[z]:=by simp [rep]
    simp only [evParts,List.map,hr1,fillParts,hx,hxc]
    rfl
  exact q_gen (v:=.sref s.n 0 1 1) (s':=s.new (.cells .mut [v])) rfl (by simp only [LOp.run,hfill,Option.bind_eq_bind,Option.bind_some]) (by cases fl<;>rfl) (hck _ rfl b3) (h _ rfl (by rw [St.get_new,if_pos rfl]) b3)
set_option maxHeartbeats 32000000 in
theorem rsearch_ok {v:LV} {B:Bu} {sv nv fv:LV} (hB:IsB v B sv nv) (hok:Vb B) {from_:List Nat} (hf:IsInts fv (zints from_)) (hfr:∀ p∈from_,p<B.next.length) :
    PE 41 [v,fv] (fun r=>∃ es,Sl r (wcells es) es.length∧WOK es∧Fnd.WR (sall B from_) (wsOf es)):=by
  have hcB:=hB.closed
  obtain ⟨rfl,hst',vs,hn⟩:=hB
  have hc1:=hst'.sl.cell
  have hc2:=hn.sl.cell
  have hfl:=hf.sl.len
  have hn3:=hok.2.2.1
  have hflen:=hf.len
  have hfcl:=hf.closed
  have hmx:maxLen=9223372036854775807:=by decide
  have hzl:(zints from_).length=from_.length:=by simp [zints]
  rw [hzl] at hfl hflen
  refine q_fnEx (t:=4) hm Tryd.func41 (by decide +kernel) c41 (Nat.le_of_ble_eq_true rfl) (by simp [LV.closed.closedAll,hcB,hfcl]) rfl ?_
  have e0:(envOf [LV.agg [.int .i64 B.L,sv,nv],fv]).at 0 = .agg [.int .i64 B.L,sv,nv]:=by rw [envOf_at];rfl
  have e1:(envOf [LV.agg [.int .i64 B.L,sv,nv],fv]).at 1=fv:=by rw [envOf_at];rfl
  generalize envOf [LV.agg [.int .i64 B.L,sv,nv],fv]=e at *
  unfold l41
  dsimp only [jA,jB,qM,qL,qF,qS,qI,qA,qB,qC,qO,qm,ql]
  have hOk0:=fun i=>Fnd.Ok.adds (Fnd.Ok.nil (Fnd.sucs (bmv B) B.L.toNat) from_ B.next.length) (l:=Fnd.firsts (from_.take i)) (fun p hp=>by obtain ⟨q,hq,rfl⟩:=List.mem_map.1 hp;exact hfr q (List.mem_of_mem_take hq)) fun p hp=>by
    obtain ⟨q,hq,rfl⟩:=List.mem_map.1 hp
    exact .inl ⟨rfl,List.mem_of_mem_take hq⟩
  repeat' (first | refine gA @hfl ?_ | (refine gB @hfl ?_;intro bb hbb;cases bb<;>(try simp only [hbs,if_false,reduceCtorEq] at hbb)) | apply qc_seq | fail)
  refine qc_loop (fun m e s1=>∃ (i:Nat) (lv:LV) (es:List WE),m=from_.length - i∧i≤from_.length∧WS s1 lv (Fnd.adds [] (Fnd.firsts (from_.take i))) es∧e.at 1=fv∧e.at 2 = .pimm [.int .i64 B.L,sv,nv] 0∧e.at 5=lv∧e.at 6 = .int .i64 (i:Int)) _
    ⟨0, .nils,[],rfl,by omega,⟨⟨rfl, .inl ⟨rfl,rfl⟩⟩,fun x hx=>(by cases hx),by simpa [Fnd.adds,Fnd.firsts,wsOf] using Fnd.WR.nil⟩,ef,ef,ef,by simp only [lk,sv1,sv2,sv3,Nat.reduceEqDiff,Nat.reduceAdd,Nat.reduceLeDiff,reduceIte,if_false,if_true,mkVal,unLV,List.map,optTmps];rfl⟩ ?_
  clear e0 e1
  clear e
  rintro m e s1 ⟨i,lv,es,rfl,hi,hW,e1,e2,e5,e6⟩
  have hb0:=hOk0 i
  have hb1:=hb0.len
  have hel:=hW.len
  by_cases hil:i<from_.length
  · -- a first state
    obtain ⟨p,hp⟩:∃ p,from_[i]? = some p:=⟨_,List.getElem?_eq_getElem hil⟩
    have hiI:(i:Int)<(from_.length:Int):=by omega
    have hw:IntKind.i64.wrap ((i:Int)+1)=((i+1:Nat):Int):=by rw [wrap_i64 _ (by omega) (by omega)];rfl
    have hgp:(ints (zints from_))[i]? = some (.int .i64 (p:Int)):=by simp [ints,zints,hp]
    have hia:∀ s,iaLV 1 fv (.int .i64 (i:Int)) s=some (.pimm (ints (zints from_)) i,s):=fun s=>by
      have:=iaN (esz:=1) (k:=.i64) (s:=s) (i:=i) hf.sl (by rw [hzl];exact hiI)
      simpa using this
    have e9:Fnd.adds [] (Fnd.firsts (from_.take (i+1)))=Fnd.add (Fnd.adds [] (Fnd.firsts (from_.take i))) (p,-1,0):=by
      have h1:from_.take (i+1)=from_.take i++[p]:=take_snoc hp
      rw [h1]
      simp [Fnd.firsts,Fnd.adds_snoc]
    have hneg:=hasW_neg (l:=es) (q:=p)
    rw [hW.mem] at hneg
    generalize hacc:Fnd.adds [] (Fnd.firsts (from_.take i))=acc at *
    repeat' (first | refine gA (And.intro @hia (And.intro @hgp @hfl)) ?_ | (refine gB (And.intro @hia (And.intro @hgp @hfl)) ?_;intro bb hbb;cases bb<;>(try simp only [hbs,if_false,reduceCtorEq] at hbb)) | apply qc_seq | fail)
    · exfalso;omega
    refine q_call wN (fv:=.fn (.func 42) [] []) (vs:=[lv, .int .i64 (p:Int)]) rfl (by simp only [List.map,lk,sv1,sv2,sv3,Nat.reduceEqDiff,Nat.reduceAdd,Nat.reduceLeDiff,reduceIte,if_false,if_true,mkVal,unLV,List.map,optTmps]) (CallOk.mono (has_call hW.sk (by omega) p) fun r s2 hh=>⟨trivial,?_⟩)
    obtain ⟨rfl,rfl⟩:=hh
    simp only [Env.put_some]
    by_cases hm':p∈acc.map (·.1)
    · have hn':¬ hasW es p<0:=fun h=>hneg.1 h hm'
      clear hneg
      generalize hasW es p=hz at *
      repeat' (first | refine gA (And.intro @hia @hgp) ?_ | (refine gB (And.intro @hia @hgp) ?_;intro bb hbb;cases bb<;>(try simp only [hbs,if_false,reduceCtorEq] at hbb)) | apply qc_seq | fail)
      · exact ⟨from_.length - (i+1),by omega,i+1,lv,es,rfl,by omega,by rw [e9,add_old hm'];exact hW,ef,ef,ef,ef⟩
      · exfalso;omega
    · have hn':hasW es p<0:=hneg.2 hm'
      clear hneg
      generalize hasW es p=hz at *
      repeat' (first | refine gA (And.intro @hia @hgp) ?_ | (refine gB (And.intro @hia @hgp) ?_;intro bb hbb;cases bb<;>(try simp only [hbs,if_false,reduceCtorEq] at hbb)) | apply qc_seq | fail)
      · exfalso;omega
      refine q_gen (v:=.agg [.int .i64 (p:Int), .nils]) (s':=s2) wN (by simp only [LOp.run,lk,sv1,sv2,sv3,Nat.reduceEqDiff,Nat.reduceAdd,Nat.reduceLeDiff,reduceIte,if_false,if_true,mkVal,unLV,List.map,optTmps,evParts,fillParts];rfl) rfl trivial ?_
      simp only [Env.put_some]
      refine q_appE (n:=es.length) (esz:=2) (xv:=.agg [.int .i64 (p:Int), .nils]) (yv:=lv) (vs:=[.int .i64 (p:Int), .nils]) (cells:=wcells es) ef rfl rfl rfl rfl ef hW.sk (by decide) (by omega) (fun s3 j3 a1 a2 a3 a4=>?_)
      repeat' (first | refine gA trivial ?_ | (refine gB trivial ?_;intro bb hbb;cases bb<;>(try simp only [hbs,if_false,reduceCtorEq] at hbb)) | apply qc_seq | fail)
      exact ⟨from_.length - (i+1),by omega,i+1, .sref j3 0 (es.length+1) 2,_,rfl,by omega,by rw [e9,add_new hm'];exact hW.first a2,ef,ef,ef,ef⟩
  · -- on with what is found
    have hi':i=from_.length:=by omega
    subst hi'
    rw [List.take_length] at hW hb0
    repeat' (first | refine gA @hfl ?_ | (refine gB @hfl ?_;intro bb hbb;cases bb<;>(try simp only [hbs,if_false,reduceCtorEq] at hbb)) | apply qc_seq | fail)
    rotate_left
    · exfalso;omega
    generalize hR:sall B from_=R at *
    have hrun0:Fnd.run (Fnd.sucs (bmv B) B.L.toNat) B.next.length 0 (Fnd.adds [] (Fnd.firsts from_))=R:=hR
    refine qc_loop (fun m e s1=>∃ (k:Nat) (acc:List Fnd.En) (lv:LV) (es:List WE),m=B.next.length+1 - k∧k≤acc.length∧Fnd.Ok (Fnd.sucs (bmv B) B.L.toNat) from_ B.next.length acc∧Fnd.run (Fnd.sucs (bmv B) B.L.toNat) (B.next.length - k) k acc=R∧WS s1 lv acc es∧e.at 2 = .pimm [.int .i64 B.L,sv,nv] 0∧e.at 5=lv∧e.at 7 = .int .i64 (k:Int)) _
      ⟨0,_,lv,es,rfl,by omega,hb0,hrun0,hW,ef,ef,by simp only [lk,sv1,sv2,sv3,Nat.reduceEqDiff,Nat.reduceAdd,Nat.reduceLeDiff,reduceIte,if_false,if_true,mkVal,unLV,List.map,optTmps];rfl⟩ ?_
    clear hW hil hi hbb hb0 hb1 hOk0 hrun0 e1 e2 e5 e6 hel
    clear lv es s1 e
    rintro m e s1 ⟨k,acc,lv,es,rfl,hk,hOk,hrun,hW,e2,e5,e7⟩
    have hal:=hOk.len
    have hel:=hW.len
    have hlen:=hW.sk.len
    have hw:IntKind.i64.wrap ((k:Int)+1)=((k+1:Nat):Int):=by rw [wrap_i64 _ (by omega) (by omega)];rfl
    by_cases hkl:k<acc.length
    · obtain ⟨x,hx⟩:∃ x,acc[k]? = some x:=⟨_,List.getElem?_eq_getElem hkl⟩
      have hq:x.1<B.next.length:=hOk.rng x (List.mem_of_getElem? hx)
      have hkI:(k:Int)<(es.length:Int):=by omega
      have hqI:(x.1:Int)<(B.next.length:Int):=by omega
      have g1:vs[x.1]? = some (vs.getD x.1 .top):=hn.get hq
      obtain ⟨ws,hr⟩:=hn.row x.1 hq
      have hLr:=row_lenB hok hq
      have hstep:=fun {l:List Fnd.En} (hl:∀ p∈l,p∈Fnd.sucs (bmv B) B.L.toNat x.1)=>hOk.part (bfrom hok) hx hl
      have hrun':Fnd.run (Fnd.sucs (bmv B) B.L.toNat) (B.next.length - (k+1)) (k+1) (Fnd.adds acc (Fnd.sucs (bmv B) B.L.toNat x.1))=R:=by
        rw [← hrun,show B.next.length - k=(B.next.length - (k+1))+1 by omega]
        simp only [Fnd.run,hx]
      have hall:psuc (B.next.getD x.1 []) x.1 (B.next.getD x.1 []).length 0=Fnd.sucs (bmv B) B.L.toNat x.1:=by rw [hLr];exact psuc_all
      have hmv0:∀ a,a<(B.next.getD x.1 []).length→MOK B.next.length ((B.next.getD x.1 []).getD a []):=(hok.2.2.2.2 x.1 hq).2
      have hLI:B.L=((B.next.getD x.1 []).length:Int):=((hok.2.2.2.2 x.1 hq).1).symm
      have hL64:=hok.2.1
      generalize hrow:B.next.getD x.1 []=row at *
      generalize hrv:vs.getD x.1 .top=rv at *
      have hkk:=hkl
      repeat' (first | refine gA @hlen ?_ | (refine gB @hlen ?_;intro bb hbb;cases bb<;>(try simp only [hbs,if_false,reduceCtorEq] at hbb)) | apply qc_seq | fail)
      · exfalso;omega
      have hLB:Bx (B.L=(row.length:Int)):=⟨hLI⟩
      have hr64:row.length≤64:=by omega
      refine qc_loop (fun m e s1=>∃ (a:Nat) (lv:LV) (es:List WE),m=row.length - a∧a≤row.length∧WS s1 lv (Fnd.adds acc (psuc row x.1 a 0)) es∧e.at 2 = .pimm [.int .i64 B.L,sv,nv] 0∧e.at 5=lv∧e.at 7 = .int .i64 (k:Int)∧e.at 8 = .int .i64 (a:Int)) _
        ⟨0,lv,es,rfl,by omega,hW,ef,ef,ef,by simp only [lk,sv1,sv2,sv3,Nat.reduceEqDiff,Nat.reduceAdd,Nat.reduceLeDiff,reduceIte,if_false,if_true,mkVal,unLV,List.map,optTmps];rfl⟩ ?_
      clear hW hbb e2 e5 e7 hlen hel hkI hLI
      clear lv es s1 e
      rintro m e s2 ⟨a,lv,es,rfl,ha,hW,e2,e5,e7,e8⟩
      have hwa:IntKind.i64.wrap ((a:Int)+1)=((a+1:Nat):Int):=by rw [wrap_i64 _ (by omega) (by omega)];rfl
      by_cases hal2:a<row.length
      · have haI:(a:Int)<(row.length:Int):=by omega
        have haL:(a:Int)<B.L:=by rw [hLB.out];exact haI
        have g2:ws[a]? = some (ws.getD a .top):=hr.get hal2
        have hm':=hr.row a hal2
        have hmo:=hmv0 a hal2
        have hpn:=fun c (hc:c<(row.getD a []).length)=>psuc_next (r:=row) (q:=x.1) (a:=a) hc
        have hpr:=psuc_row row x.1 a
        have hsub:∀ c,∀ p∈psuc row x.1 a c,p∈Fnd.sucs (bmv B) B.L.toNat x.1:=fun c p hp=>by
          rw [← hall]
          unfold psuc at hp ⊢
          rw [List.take_zero,List.map_nil,List.append_nil]
          rcases List.mem_append.1 hp with hp | hp
          · obtain ⟨b,hb,hp⟩:=List.mem_flatMap.1 hp
            have:=List.mem_range.1 hb
            exact List.mem_flatMap.2 ⟨b,List.mem_range.2 (by omega),hp⟩
          · obtain ⟨m,hm1,rfl⟩:=List.mem_map.1 hp
            exact List.mem_flatMap.2 ⟨a,List.mem_range.2 hal2,List.mem_map_of_mem (List.mem_of_mem_take hm1)⟩
        generalize hms:row.getD a []=ms at *
        generalize hmv:ws.getD a .top=mv at *
        have hml:=hm'.sl.len
        have hmlen:=hm'.len
        have hx0:(Fnd.adds acc (psuc row x.1 a 0))[k]? = some x:=by rw [Fnd.adds_get hkk];exact hx
        obtain ⟨wv,wl,hwk,hwi,hwy⟩:=hW.at hx0
        have hlv:=hW.sk.len
        have hkE:k<es.length:=(List.getElem?_eq_some_iff.1 hwk).1
        have hkEI:(k:Int)<(es.length:Int):=by omega
        obtain ⟨jj,hlvj,hj,hg⟩:=hW.sk.pos (by omega)
        have hld0:=load_ref hg (wcells_0 hwk)
        have hLs:Bx (lv=LV.sref jj 0 es.length 2):=⟨hlvj⟩
        rw [hlvj] at e5
        clear hlvj
        repeat' (first | refine gA (And.intro @iaS (And.intro @hld0 (And.intro (@iaN _ _ _ hn.sl) (And.intro @g1 (And.intro (@iaN _ _ _ hr.sl) @g2))))) ?_ | (refine gB (And.intro @iaS (And.intro @hld0 (And.intro (@iaN _ _ _ hn.sl) (And.intro @g1 (And.intro (@iaN _ _ _ hr.sl) @g2))))) ?_;intro bb hbb;cases bb<;>(try simp only [hbs,if_false,reduceCtorEq] at hbb)) | apply qc_seq | fail)
        · exfalso;omega
        refine qc_loop (fun m e s1=>∃ (c:Nat) (lv:LV) (es:List WE),m=ms.length - c∧c≤ms.length∧WS s1 lv (Fnd.adds acc (psuc row x.1 a c)) es∧e.at 2 = .pimm [.int .i64 B.L,sv,nv] 0∧e.at 5=lv∧e.at 7 = .int .i64 (k:Int)∧e.at 8 = .int .i64 (a:Int)∧e.at 9=mv∧e.at 10 = .int .i64 (c:Int)) _
          ⟨0,lv,es,rfl,by omega,hW,ef,by rw [hLs.out];simp only [lk,sv1,sv2,sv3,Nat.reduceEqDiff,Nat.reduceAdd,Nat.reduceLeDiff,reduceIte,if_false,if_true,mkVal,unLV,List.map,optTmps,e5],ef,ef,ef,by simp only [lk,sv1,sv2,sv3,Nat.reduceEqDiff,Nat.reduceAdd,Nat.reduceLeDiff,reduceIte,if_false,if_true,mkVal,unLV,List.map,optTmps];rfl⟩ ?_
        clear hW hbb e2 e5 e7 e8 hLs hld0 hg hj hwk hwi hwy hlv hkE hkEI hx0
        clear jj wv wl lv es s2 e
        rintro m e s2 ⟨c,lv,es,rfl,hc,hW,e2,e5,e7,e8,e9,e10⟩
        have hOk':=hstep (hsub c)
        have hOl:=hOk'.len
        have hel:=hW.len
        by_cases hcl:c<ms.length
        · have hcI:(c:Int)<(ms.length:Int):=by omega
          have hwc:IntKind.i64.wrap ((c:Int)+1)=((c+1:Nat):Int):=by rw [wrap_i64 _ (by omega) (by omega)];rfl
          have lm:=mcells_get0 hcl
          have hmr:=hmo c hcl
          have hpc:=hpn c hcl
          generalize hmd:ms.getD c (0,false)=md at *
          obtain ⟨mt,hmt⟩:∃ mt:Nat,md.1=(mt:Int):=⟨md.1.toNat,by omega⟩
          have hmt2:md.1.toNat=mt:=by omega
          rw [hmt2] at hpc
          rw [hmt] at lm
          have hmtn:mt<B.next.length:=by omega
          have hneg:=hasW_neg (l:=es) (q:=mt)
          rw [hW.mem] at hneg
          clear hmr hmd hmt hmt2
          have hacc':Fnd.adds acc (psuc row x.1 a (c+1))=Fnd.add (Fnd.adds acc (psuc row x.1 a c)) (mt,(x.1:Int),a):=by rw [hpc,Fnd.adds_snoc]
          have hx0:(Fnd.adds acc (psuc row x.1 a c))[k]? = some x:=by rw [Fnd.adds_get hkk];exact hx
          clear hpc hpn
          generalize hacc:Fnd.adds acc (psuc row x.1 a c)=ac2 at *
          obtain ⟨wv,wl,hwk,hwi,hwy⟩:=hW.at hx0
          have hwl:=hwy.len
          have hel3:es.length≤3000:=by omega
          clear hel
          have hkE:k<es.length:=(List.getElem?_eq_some_iff.1 hwk).1
          have hkEI:(k:Int)<(es.length:Int):=by omega
          obtain ⟨jj,hlvj,hj,hg⟩:=hW.sk.pos (by omega)
          subst hlvj
          repeat' (first | refine gA (And.intro @hml (And.intro (@iaN _ _ _ hm'.sl) @lm)) ?_ | (refine gB (And.intro @hml (And.intro (@iaN _ _ _ hm'.sl) @lm)) ?_;intro bb hbb;cases bb<;>(try simp only [hbs,if_false,reduceCtorEq] at hbb)) | apply qc_seq | fail)
          · exfalso;omega
          refine q_call wN (fv:=.fn (.func 42) [] []) (vs:=[.sref jj 0 es.length 2, .int .i64 (mt:Int)]) rfl (by simp only [List.map,lk,sv1,sv2,sv3,Nat.reduceEqDiff,Nat.reduceAdd,Nat.reduceLeDiff,reduceIte,if_false,if_true,mkVal,unLV,List.map,optTmps]) (CallOk.mono (has_call hW.sk (by omega) mt) fun r s3 hh=>⟨trivial,?_⟩)
          obtain ⟨rfl,rfl⟩:=hh
          simp only [Env.put_some]
          by_cases hm2:mt∈ac2.map (·.1)
          · have hn':¬ hasW es mt<0:=fun h=>hneg.1 h hm2
            clear hneg
            generalize hasW es mt=hz at *
            repeat' (first | refine gA (And.intro @hml (And.intro (@iaN _ _ _ hm'.sl) @lm)) ?_ | (refine gB (And.intro @hml (And.intro (@iaN _ _ _ hm'.sl) @lm)) ?_;intro bb hbb;cases bb<;>(try simp only [hbs,if_false,reduceCtorEq] at hbb)) | apply qc_seq | fail)
            · exact ⟨ms.length - (c+1),by omega,c+1,_,es,rfl,by omega,by rw [hacc',add_old hm2];exact hW,by simp only [lk,sv1,sv2,sv3,Nat.reduceEqDiff,Nat.reduceAdd,Nat.reduceLeDiff,reduceIte,if_false,if_true,mkVal,unLV,List.map,optTmps,hwc,e2,e5,e7,e8,e9,and_self]⟩
            · exfalso;omega
          · have hn':hasW es mt<0:=hneg.2 hm2
            clear hneg
            generalize hasW es mt=hz at *
            repeat' (first | refine gA (And.intro @hml (And.intro (@iaN _ _ _ hm'.sl) @lm)) ?_ | (refine gB (And.intro @hml (And.intro (@iaN _ _ _ hm'.sl) @lm)) ?_;intro bb hbb;cases bb<;>(try simp only [hbs,if_false,reduceCtorEq] at hbb)) | apply qc_seq | fail)
            · exfalso;omega
            refine q_bs0g (fun s1 h1 h2=>⟨chk_ld (p:=.pimm (mcells ms) (c*2)) (v:=.int .i64 (mt:Int)) ef (load_imm lm) ef,trivial⟩) (fun sA nA rA kA=>?_)
            have hgA:sA.get jj=some (.cells .mut (wcells es)):=by rw [kA jj hj];exact hg
            have hldA:=load_ref hgA (wcells_1 hwk)
            repeat' (first | refine gA (And.intro @iaS @hldA) ?_ | (refine gB (And.intro @iaS @hldA) ?_;intro bb hbb;cases bb<;>(try simp only [hbs,if_false,reduceCtorEq] at hbb)) | apply qc_seq | fail)
            refine q_bs1g (v:=.int .i64 (a:Int)) ef rfl (fun s1 h1 h2=>⟨chk_ld (p:=.pimm (mcells ms) (c*2)) (v:=.int .i64 (mt:Int)) ef (load_imm lm) ef,chk_ld (p:=.pref jj (k*2+1)) (v:=wv) ef (load_ref (by rw [h2 jj (by omega)];exact hgA) (wcells_1 hwk)) ef,trivial⟩) (fun sB nB rB kB=>?_)
            refine q_appSb (j:=s3.n) (A:=[]) (a:=0) (n:=wl.length) (yv:=wv) (cells:=ints (zints wl)) ef (by rw [kB _ (by omega)];exact rA) rfl ef (by simpa using hwi.sl) (ints_cl' _) (by simp [ints]) (by decide) (by omega) (fun s1 h1 h2=>⟨chk_ld (p:=.pimm (mcells ms) (c*2)) (v:=.int .i64 (mt:Int)) ef (load_imm lm) ef,trivial⟩) (fun sC nC rC kC=>?_)
            rw [List.nil_append] at rC
            rw [Nat.zero_add]
            refine q_appB (i:=sA.n) (j:=sB.n) (a:=wl.length) (v:=.int .i64 (a:Int)) (A:=ints (zints wl)) ef rC (by simp [ints]) ef (by rw [kC _ (by omega) (by omega)];exact rB) rfl (by decide) (by omega) (fun s1 h1 h2=>⟨chk_ld (p:=.pimm (mcells ms) (c*2)) (v:=.int .i64 (mt:Int)) ef (load_imm lm) ef,trivial⟩) (fun sD nD rD kD=>?_)
            refine q_gen (v:=.agg [.int .i64 (mt:Int), .sref sC.n 0 (wl.length+1) 1]) (s':=sD) wN (by simp only [LOp.run,lk,sv1,sv2,sv3,Nat.reduceEqDiff,Nat.reduceAdd,Nat.reduceLeDiff,reduceIte,if_false,if_true,mkVal,unLV,List.map,optTmps,evParts,fillParts];rfl) rfl trivial ?_
            simp only [Env.put_some]
            have hgD:sD.get jj=some (.cells .mut (wcells es)):=by rw [kD _ (by omega) (by omega),kC _ (by omega) (by omega),kB _ (by omega)];exact hgA
            have hskD:SkE sD (.sref jj 0 es.length 2) 2 (wcells es) es.length:=⟨wcells_length es, .inr ⟨jj,rfl,by omega,hgD⟩⟩
            have hil':ints (zints (wl++[a]))=ints (zints wl)++[.int .i64 (a:Int)]:=by simp [ints,zints]
            have hskL:SkE sD (.sref sC.n 0 (wl.length+1) 1) 1 (ints (zints (wl++[a]))) (wl.length+1):=⟨by simp [ints], .inr ⟨sC.n,rfl,by omega,by rw [hil'];exact rD⟩⟩
            have hFZ:FZ (uses (.sref sC.n 0 (wl.length+1) 1)) (fun v'=>IsInts v' (zints (wl++[a]))) frzDepth (.sref sC.n 0 (wl.length+1) 1) sD:=(fz_ske 38 hskL (ints_cl' _)).mono fun v' hv=>⟨by simpa using hv,by simp;omega,fun z hz=>by
              have hz':z∈zints wl∨z=(a:Int):=by simpa [zints] using hz
              rcases hz' with h | rfl
              · exact hwi.rng z h
              · unfold inI64;omega⟩
            refine q_appW (q:=(mt:Int)) (lv:=.sref sC.n 0 (wl.length+1) 1) (yv:=.sref jj 0 es.length 2) (cells:=wcells es) (n:=es.length) (T:=uses (.sref sC.n 0 (wl.length+1) 1)) (R:=fun v'=>IsInts v' (zints (wl++[a]))) ef rfl rfl ef hskD hFZ (fun id hid=>by
              have:=uses_sref.1 hid
              exact ⟨by omega,fun hu=>by have:=uses_sref.1 hu;omega⟩) ⟨chk_ld (p:=.pimm (mcells ms) (c*2)) (v:=.int .i64 (mt:Int)) ef (load_imm lm) ef,chk_ld (p:=.pref jj (k*2+1)) (v:=wv) ef (load_ref (by rw [St.get_new,if_neg (by omega)];exact hgD) (wcells_1 hwk)) ef,trivial⟩ (by decide) (by omega) (fun sE jj3 v' b1 b2 b3 b4 b5=>?_)
            repeat' (first | refine gA trivial ?_ | (refine gB trivial ?_;intro bb hbb;cases bb<;>(try simp only [hbs,if_false,reduceCtorEq] at hbb)) | apply qc_seq | fail)
            exact ⟨ms.length - (c+1),by omega,c+1, .sref jj3 0 (es.length+1) 2,_,rfl,by omega,by rw [hacc',add_new hm2];exact hW.step hwk b2 b3,by simp only [lk,sv1,sv2,sv3,Nat.reduceEqDiff,Nat.reduceAdd,Nat.reduceLeDiff,reduceIte,if_false,if_true,mkVal,unLV,List.map,optTmps,hwc,e2,e7,e8,e9,and_self]⟩
        · have hce:c=ms.length:=by omega
          repeat' (first | refine gA @hml ?_ | (refine gB @hml ?_;intro bb hbb;cases bb<;>(try simp only [hbs,if_false,reduceCtorEq] at hbb)) | apply qc_seq | fail)
          · refine ⟨row.length - (a+1),by omega,a+1,lv,es,rfl,by omega,by rw [hpr,← hce];exact hW,?_⟩
            simp only [lk,sv1,sv2,sv3,Nat.reduceEqDiff,Nat.reduceAdd,Nat.reduceLeDiff,reduceIte,if_false,if_true,mkVal,unLV,List.map,optTmps,hwa,e2,e5,e7,and_self]
          · exfalso;omega
      · have hae:a=row.length:=by omega
        rw [hae,hall] at hW
        have haL:¬ (a:Int)<B.L:=by rw [hLB.out];omega
        repeat' (first | refine gA trivial ?_ | (refine gB trivial ?_;intro bb hbb;cases bb<;>(try simp only [hbs,if_false,reduceCtorEq] at hbb)) | apply qc_seq | fail)
        · refine ⟨B.next.length+1 - (k+1),by omega,k+1,_,lv,es,rfl,?_,hOk.step (bfrom hok) hx,hrun',hW,?_⟩
          · have:=Fnd.adds_len (Fnd.sucs (bmv B) B.L.toNat x.1) acc
            omega
          · simp only [lk,sv1,sv2,sv3,Nat.reduceEqDiff,Nat.reduceAdd,Nat.reduceLeDiff,reduceIte,if_false,if_true,mkVal,unLV,List.map,optTmps,hw,e2,e5,and_self]
        · exfalso;omega
    · -- all is numbered
      have hke:k=acc.length:=by omega
      have hkE:¬ (k:Int)<(es.length:Int):=by omega
      have hRe:acc=R:=by
        rw [← hrun]
        cases hB0:B.next.length - k with
        | zero=>rfl
        | succ f=>simp [Fnd.run,List.getElem?_eq_none (by omega:acc.length≤k)]
      repeat' (first | refine gA @hlen ?_ | (refine gB @hlen ?_;intro bb hbb;cases bb<;>(try simp only [hbs,if_false,reduceCtorEq] at hbb)) | apply qc_seq | fail)
      · obtain ⟨v',s',f1,f2,f3,f4⟩:=fz_ske 38 hW.sk (wcells_cl hW.ok) s1 fun _ _=>rfl
        exact ⟨.inr trivial,v',s',by simp only [lk,sv1,sv2,sv3,Nat.reduceEqDiff,Nat.reduceAdd,Nat.reduceLeDiff,reduceIte,if_false,if_true,mkVal,unLV,List.map,optTmps,e5];exact f1,sl_cl f2 (wcells_cl hW.ok),es,f2,hW.ok,by rw [← hRe];exact hW.wr⟩
      · exfalso;omega
end Go.Proofs.YtmblpcidfjemhaaDoor
end
section
set_option linter.unusedSimpArgs false
set_option linter.unusedVariables false
namespace Go.Proofs.YtmblpcidfjemhaaDoor
open Go Go.Pv Go.Aut
open Classical
theorem wr_at {acc:List Fnd.En} {es:List WE} (hok:WOK es) (hwr:Fnd.WR acc (wsOf es)) {k:Nat} {x:Fnd.En} (hx:acc[k]? = some x):∃ wv wl,es[k]? = some (x.1,wv,wl)∧IsInts wv (zints wl)∧Fnd.Wy acc k wl:=by
  obtain ⟨l,h1,h2⟩:=hwr.el k x hx
  rw [wsOf,List.getElem?_map] at h1
  cases he:es[k]? with
  | none=>rw [he] at h1;cases h1
  | some w=>
    rw [he] at h1
    obtain ⟨a,b,c⟩:=w
    have h3:a=x.1∧c=l:=by simpa using h1
    obtain ⟨rfl,rfl⟩:=h3
    exact ⟨b,c,rfl,hok _ (List.mem_of_getElem? he),h2⟩
theorem wr_len {acc:List Fnd.En} {es:List WE} (hwr:Fnd.WR acc (wsOf es)):es.length=acc.length:=by
  have:=hwr.len
  simpa [wsOf] using this
theorem wr_mem {acc:List Fnd.En} {es:List WE} (hwr:Fnd.WR acc (wsOf es)):es.map (·.1)=acc.map (·.1):=by
  have:=hwr.has
  rw [← this,wsOf,List.map_map]
  rfl
theorem hasW_at {l:List WE} {q:Nat} (h:q∈l.map (·.1)):∃ (t:Nat) (x:WE),hasW l q=(t:Int)∧l[t]? = some x∧x.1=q:=by
  cases hp:plW l q 0 with
  | none=>exact absurd h (plW_mem.1 hp)
  | some i=>
    obtain ⟨k,x,h1,h2,h3⟩:=plW_some hp
    refine ⟨k,x,?_,h2,h3⟩
    unfold hasW
    rw [hp,h1]
    simp
theorem q_search1 {K:Env→St→Prop} {l:List LOper} {e:Env} {s:St} {fl:Bool} {d:Nat} {xs:List Opd} {j p:Nat} {v:LV} {B:Bu} {sv nv:LV} (hB:IsB v B sv nv) (hok:Vb B) (hp:p<B.next.length) (hg:s.get j=some (.cells .mut [.int .i64 (p:Int)])) (has:xs.map (·.ev e)=[v, .sref j 0 1 1])
    (h:∀ r es s',Sl r (wcells es) es.length→WOK es→Fnd.WR (sall B [p]) (wsOf es)→s'.n=s.n→(∀ id,id≠j→s'.get id=s.get id)→W Tryd.prog GL K l (Tr.set e d r) s') :
    W Tryd.prog GL K (⟨some d, .call (.c (.fn (.func 41) [] [])) xs,none,[],fl⟩::l) e s:=by
  have hn3:=hok.2.2.1
  have hI:IsInts (.simm [.int .i64 (p:Int)] 1) (zints [p]):=zints_is (by simp) (by simp;omega) _ (.simm _ _)
  have f1:frz frzDepth (.sref j 0 1 1) s=some (.simm [.int .i64 (p:Int)] 1,s.put j (.cells .app [.int .i64 (p:Int)])):=frz_sref hg rfl rfl
  refine q_call wN (fv:=.fn (.func 41) [] []) rfl has (call_frz (args':=[v, .simm [.int .i64 (p:Int)] 1]) (s':=s.put j (.cells .app [.int .i64 (p:Int)])) (by
    have h2:frz frzDepth v s=some (v,s):=frzD_closed hB.closed
    simp [frz.frzAll,f1,h2]) (pure_callEx hG0 (rsearch_ok hB hok hI (fun q hq=>by rw [List.mem_singleton.1 hq];exact hp)) fun r hr hrc=>⟨trivial,?_⟩))
  obtain ⟨es,h1,h2,h3⟩:=hr
  simp only [Env.put_some]
  exact h r es _ h1 h2 h3 rfl fun id hid=>by rw [St.get_put,if_neg hid]
theorem frz_fnd {s:St} {a lv:LV} {b:Bool} {T:Nat→Prop} {R:LV→Prop} (ha:a.closed=true) (f:FZ T R 38 lv s) (hRc:∀ v,R v→v.closed=true) :
    ∃ v' s',frz frzDepth (.tup [.agg [a,lv], .bool b]) s=some (.tup [.agg [a,v'], .bool b],s')∧R v':=by
  obtain ⟨v1,s1,a1,a2,a3,a4⟩:=f s fun _ _=>rfl
  have hz0:(LV.tup [.agg [a,lv], .bool b]).closed=(LV.agg [a,lv]).closed:=by simp [LV.closed,LV.closed.closedAll]
  by_cases hc:(LV.agg [a,lv]).closed=true
  · have hc':a.closed=true∧lv.closed=true:=by simpa [LV.closed,LV.closed.closedAll] using hc
    rw [frz_closed hc'.2] at a1
    cases a1
    exact ⟨_,s,frz_closed (by rw [hz0];exact hc),a2⟩
  · have hc0:(LV.agg [a,lv]).closed=false:=by simpa using hc
    refine ⟨v1,s1,?_,a2⟩
    have hb:frz 38 a s=some (a,s):=frz_closed ha
    have hz:frz 39 (.bool b) s1=some (.bool b,s1):=frz_closed rfl
    have hag:frz 39 (.agg [a,lv]) s=some (.agg [a,v1],s1):=by
      show frz (38+1) _ s=_
      unfold frz
      rw [hc0]
      simp only [Bool.false_eq_true,if_false,frz.frzAll,hb,a1,Option.bind_eq_bind,Option.bind_some]
    show frz (39+1) _ s=_
    unfold frz
    rw [hz0,hc0]
    simp only [Bool.false_eq_true,if_false,frz.frzAll,hag,hz,Option.bind_eq_bind,Option.bind_some]
def FndA (B:Bu) (fr:List Nat) (r:LV):Prop:=∃ st lo S L ok,r = .tup [.agg [st,lo], .bool ok]∧IsInts st (zints S)∧IsInts lo (zints L)∧FindF B fr S L ok
set_option maxHeartbeats 32000000 in
theorem rfound_ok {v:LV} {B:Bu} {sv nv fv:LV} (hB:IsB v B sv nv) (hok:Vb B) {fr:List Nat} (hf:IsInts fv (zints fr)) (hfr:∀ p∈fr,p<B.next.length) :
    PE 24 [v,fv] (FndA B fr):=by
  have hcB:=hB.closed
  have hB0:=hB
  have hse:=rsearch_ok hB hok hf hfr
  obtain ⟨hRok,hRcl,hRfr⟩:=sall_ok hok hfr
  obtain ⟨rfl,hst',vs,hn⟩:=hB
  have hc1:=hst'.sl.cell
  have hc2:=hn.sl.cell
  have hn3:=hok.2.2.1
  have hfcl:=hf.closed
  have hfce:=hf.sl.cell
  have hRl:=hRok.len
  have hmx:maxLen=9223372036854775807:=by decide
  refine q_fnExR Tryd.func24 (by decide +kernel) c24 (Nat.le_of_ble_eq_true rfl) (by simp [LV.closed.closedAll,hcB,hfcl]) ?_
  have e0:(envOf [LV.agg [.int .i64 B.L,sv,nv],fv]).at 0 = .agg [.int .i64 B.L,sv,nv]:=by rw [envOf_at];rfl
  have e1:(envOf [LV.agg [.int .i64 B.L,sv,nv],fv]).at 1=fv:=by rw [envOf_at];rfl
  generalize envOf [LV.agg [.int .i64 B.L,sv,nv],fv]=e at *
  unfold l24
  dsimp only [jA,jB,jG,jH,qM,qL,qN,qF,qS,qI,qA,qB,qC,qK,qO,qm,ql]
  repeat' (first | refine gA trivial ?_ | (refine gB trivial ?_;intro bb hbb;cases bb<;>(try simp only [hbs,if_false,reduceCtorEq] at hbb)) | apply qc_seq | fail)
  refine q_pureEx hG0 hse wN (by simp only [List.map,lk,sv1,sv2,sv3,Nat.reduceEqDiff,Nat.reduceAdd,Nat.reduceLeDiff,reduceIte,if_false,if_true,mkVal,unLV,List.map,optTmps]) (fun r hr hrc=>⟨trivial,?_⟩)
  obtain ⟨es,hSl,hW,hWR⟩:=hr
  simp only [Env.put_some]
  have hel:=wr_len hWR
  have hll:=hSl.len
  generalize hR:sall B fr=R at *
  have hel':Bx (es.length=R.length):=⟨hel⟩
  rw [hel] at hll
  repeat' (first | refine gA trivial ?_ | (refine gB trivial ?_;intro bb hbb;cases bb<;>(try simp only [hbs,if_false,reduceCtorEq] at hbb)) | apply qc_seq | fail)
  refine qc_loop (fun m e s=>∃ (k:Nat),m=R.length - k∧k≤R.length∧NoHitF B fr k 0 0∧s.get 0=some (.cells .mut [.nils, .nils])∧0<s.n∧e.at 2 = .pimm [.int .i64 B.L,sv,nv] 0∧e.at 4 = .pref 0 0∧e.at 6=r∧e.at 7 = .int .i64 (k:Int)) _
    ⟨0,rfl,by omega,fun k' a' c' x m h=>by omega,by simp [St.get_new,n_empty],by simp [n_empty],ef,ef,ef,by simp only [lk,sv1,sv2,sv3,Nat.reduceEqDiff,Nat.reduceAdd,Nat.reduceLeDiff,reduceIte,if_false,if_true,mkVal,unLV,List.map,optTmps];rfl⟩ ?_
  clear e0 e1 hse hel
  clear e
  rintro m e s ⟨k,rfl,hk,hno,g0,hn0,e2,e4,e6,e7⟩
  have hw:IntKind.i64.wrap ((k:Int)+1)=((k+1:Nat):Int):=by rw [wrap_i64 _ (by omega) (by omega)];rfl
  by_cases hkl:k<R.length
  · obtain ⟨x,hx⟩:∃ x,R[k]? = some x:=⟨_,List.getElem?_eq_getElem hkl⟩
    have hx':(sall B fr)[k]? = some x:=by rw [hR];exact hx
    have hq:x.1<B.next.length:=hRok.rng x (List.mem_of_getElem? hx)
    have hkI:(k:Int)<(R.length:Int):=by omega
    have hqI:(x.1:Int)<(B.next.length:Int):=by omega
    have g1:vs[x.1]? = some (vs.getD x.1 .top):=hn.get hq
    obtain ⟨ws,hr⟩:=hn.row x.1 hq
    have hmv0:∀ a,a<(B.next.getD x.1 []).length→MOK B.next.length ((B.next.getD x.1 []).getD a []):=(hok.2.2.2.2 x.1 hq).2
    have hLI:B.L=((B.next.getD x.1 []).length:Int):=((hok.2.2.2.2 x.1 hq).1).symm
    have hL64:=hok.2.1
    obtain ⟨wv,wl,hwk,hwi,hwy⟩:=wr_at hW hWR hx
    have w0:=wcells_0 hwk
    have w1:=wcells_1 hwk
    have hia:∀ s,iaLV 2 r (.int .i64 (k:Int)) s=some (.pimm (wcells es) (k*2),s):=fun s=>by
      have:=iaN (esz:=2) (k:=.i64) (s:=s) (i:=k) hSl (by rw [hel'.out];exact hkI)
      exact this
    generalize hrow:B.next.getD x.1 []=row at *
    generalize hrv:vs.getD x.1 .top=rv at *
    have hLB:Bx (B.L=(row.length:Int)):=⟨hLI⟩
    have hr64:row.length≤64:=by omega
    clear hLI
    repeat' (first | refine gA @hll ?_ | (refine gB @hll ?_;intro bb hbb;cases bb<;>(try simp only [hbs,if_false,reduceCtorEq] at hbb)) | apply qc_seq | fail)
    · exfalso;omega
    refine qc_loop (fun m e s=>∃ (a:Nat),m=row.length - a∧a≤row.length∧NoHitF B fr k a 0∧s.get 0=some (.cells .mut [.nils, .nils])∧0<s.n∧e.at 2 = .pimm [.int .i64 B.L,sv,nv] 0∧e.at 4 = .pref 0 0∧e.at 6=r∧e.at 7 = .int .i64 (k:Int)∧e.at 8 = .int .i64 (a:Int)) _
      ⟨0,rfl,by omega,hno,g0,hn0,ef,ef,ef,ef,by simp only [lk,sv1,sv2,sv3,Nat.reduceEqDiff,Nat.reduceAdd,Nat.reduceLeDiff,reduceIte,if_false,if_true,mkVal,unLV,List.map,optTmps];rfl⟩ ?_
    clear hno g0 hn0 hbb e2 e4 e6 e7
    clear s e
    rintro m e s ⟨a,rfl,ha,hno,g0,hn0,e2,e4,e6,e7,e8⟩
    have hwa:IntKind.i64.wrap ((a:Int)+1)=((a+1:Nat):Int):=by rw [wrap_i64 _ (by omega) (by omega)];rfl
    by_cases hal2:a<row.length
    · have haI:(a:Int)<(row.length:Int):=by omega
      have haL:(a:Int)<B.L:=by rw [hLB.out];exact haI
      have g2:ws[a]? = some (ws.getD a .top):=hr.get hal2
      have hm':=hr.row a hal2
      have hmo:=hmv0 a hal2
      have hrA:rowAt B x.1 a=row.getD a []:=by unfold rowAt;rw [hrow]
      generalize hms:row.getD a []=ms at *
      generalize hmv:ws.getD a .top=mv at *
      have hml:=hm'.sl.len
      have hmlen:=hm'.len
      repeat' (first | refine gA (And.intro @hia (And.intro @w0 (And.intro (@iaN _ _ _ hn.sl) (And.intro @g1 (And.intro (@iaN _ _ _ hr.sl) @g2))))) ?_ | (refine gB (And.intro @hia (And.intro @w0 (And.intro (@iaN _ _ _ hn.sl) (And.intro @g1 (And.intro (@iaN _ _ _ hr.sl) @g2))))) ?_;intro bb hbb;cases bb<;>(try simp only [hbs,if_false,reduceCtorEq] at hbb)) | apply qc_seq | fail)
      · exfalso;omega
      refine qc_loop (fun m e s=>∃ (c:Nat),m=ms.length - c∧c≤ms.length∧NoHitF B fr k a c∧s.get 0=some (.cells .mut [.nils, .nils])∧0<s.n∧e.at 2 = .pimm [.int .i64 B.L,sv,nv] 0∧e.at 4 = .pref 0 0∧e.at 6=r∧e.at 7 = .int .i64 (k:Int)∧e.at 8 = .int .i64 (a:Int)∧e.at 9=mv∧e.at 10 = .int .i64 (c:Int)) _
        ⟨0,rfl,by omega,hno,g0,hn0,ef,ef,ef,ef,ef,ef,by simp only [lk,sv1,sv2,sv3,Nat.reduceEqDiff,Nat.reduceAdd,Nat.reduceLeDiff,reduceIte,if_false,if_true,mkVal,unLV,List.map,optTmps];rfl⟩ ?_
      clear hno g0 hn0 hbb e2 e4 e6 e7 e8
      clear s e
      rintro m e s ⟨c,rfl,hc,hno,g0,hn0,e2,e4,e6,e7,e8,e9,e10⟩
      by_cases hcl:c<ms.length
      · have hcI:(c:Int)<(ms.length:Int):=by omega
        have hwc:IntKind.i64.wrap ((c:Int)+1)=((c+1:Nat):Int):=by rw [wrap_i64 _ (by omega) (by omega)];rfl
        have lm:=mcells_get0 hcl
        have lb:=mcells_get1 hcl
        have hmr:=hmo c hcl
        have hmc:(rowAt B x.1 a)[c]? = some (ms.getD c (0,false)):=by
          rw [hrA,List.getD_eq_getElem?_getD,List.getElem?_eq_getElem hcl];rfl
        generalize hmd:ms.getD c (0,false)=md at *
        obtain ⟨mt,hmt⟩:∃ mt:Nat,md.1=(mt:Int):=⟨md.1.toNat,by omega⟩
        have hmt2:md.1.toNat=mt:=by omega
        have hmtn:mt<B.next.length:=by omega
        obtain ⟨md1,mg⟩:=md
        obtain rfl:md1=(mt:Int):=hmt
        dsimp only at lm lb
        clear hmr
        cases mg with
        | false=>
          have hno':=hno.next_move hx' hmc (fun h=>by have:=h.1;cases this)
          clear hno
          repeat' (first | refine gA (And.intro @hml (And.intro (@iaN _ _ _ hm'.sl) (And.intro @lm @lb))) ?_ | (refine gB (And.intro @hml (And.intro (@iaN _ _ _ hm'.sl) (And.intro @lm @lb))) ?_;intro bb hbb;cases bb<;>(try simp only [hbs,if_false,reduceCtorEq] at hbb)) | apply qc_seq | fail)
          all_goals first | (exfalso;omega) | skip
          all_goals exact ⟨ms.length - (c+1),by omega,c+1,rfl,by omega,hno',g0,hn0,by simp only [lk,sv1,sv2,sv3,Nat.reduceEqDiff,Nat.reduceAdd,Nat.reduceLeDiff,reduceIte,if_false,if_true,mkVal,unLV,List.map,optTmps,hwc,e2,e4,e6,e7,e8,e9,and_self]⟩
        | true=>
          have hhit:=hit_has hok hq hmc rfl
          rw [hmt2] at hhit
          obtain ⟨hTok,_,_⟩:=sall_ok hok (from_:=[mt]) (fun p hp=>by rw [List.mem_singleton.1 hp];exact hmtn)
          repeat' (first | refine gA (And.intro @hml (And.intro (@iaN _ _ _ hm'.sl) (And.intro @lm @lb))) ?_ | (refine gB (And.intro @hml (And.intro (@iaN _ _ _ hm'.sl) (And.intro @lm @lb))) ?_;intro bb hbb;cases bb<;>(try simp only [hbs,if_false,reduceCtorEq] at hbb)) | apply qc_seq | fail)
          · exfalso;omega
          refine q_bs1g (v:=.int .i64 (mt:Int)) ef rfl (fun s1 h1 h2=>⟨chk_ld (p:=.pimm [.int .i64 B.L,sv,nv] 0) (v:=.agg [.int .i64 B.L,sv,nv]) ef rfl ef,chk_ld (p:=.pimm (mcells ms) (c*2)) (v:=.int .i64 (mt:Int)) ef (load_imm lm) ef,trivial⟩) (fun sA nA rA kA=>?_)
          refine q_search1 hB0 hok hmtn (j:=s.n) rA (by simp only [List.map,lk,sv1,sv2,sv3,Nat.reduceEqDiff,Nat.reduceAdd,Nat.reduceLeDiff,reduceIte,if_false,if_true,mkVal,unLV,List.map,optTmps]) (fun bv esb sB hSb hWb hWRb nB kB=>?_)
          have hbl:=wr_len hWRb
          have hTl:=hTok.len
          have hbm:=wr_mem hWRb
          have gB0:sB.get 0=some (.cells .mut [.nils, .nils]):=by rw [kB 0 (by omega),kA 0 hn0];exact g0
          repeat' (first | refine gA (And.intro @hia @w0) ?_ | (refine gB (And.intro @hia @w0) ?_;intro bb hbb;cases bb<;>(try simp only [hbs,if_false,reduceCtorEq] at hbb)) | apply qc_seq | fail)
          refine q_pureEx hG0 (has_ok hSb hWb (by omega) x.1) wN (by simp only [List.map,lk,sv1,sv2,sv3,Nat.reduceEqDiff,Nat.reduceAdd,Nat.reduceLeDiff,reduceIte,if_false,if_true,mkVal,unLV,List.map,optTmps]) (fun r1 hr1 hrc1=>⟨trivial,?_⟩)
          subst hr1
          simp only [Env.put_some]
          clear hbl
          by_cases hin:x.1∈(sall B [mt]).map (·.1)
          · have hs:=hhit.2 hin
            obtain ⟨t,⟨ya,yv,yl⟩,ht1,ht2,ht3⟩:=hasW_at (l:=esb) (q:=x.1) (by rw [hbm];exact hin)
            dsimp only at ht3
            subst ht3
            have hyi:IsInts yv (zints yl):=hWb _ (List.mem_of_getElem? ht2)
            have y1:=wcells_1 ht2
            dsimp only at y1
            have htl:t<esb.length:=(List.getElem?_eq_some_iff.1 ht2).1
            have hT3:t<(sall B [mt]).length:=by rw [← wr_len hWRb];exact htl
            obtain ⟨z,hz⟩:∃ z,(sall B [mt])[t]? = some z:=⟨_,List.getElem?_eq_getElem hT3⟩
            obtain ⟨wv2,wl2,z1,z2,z3⟩:=wr_at hWb hWRb hz
            rw [ht2] at z1
            have z4:x.1=z.1∧yv=wv2∧yl=wl2:=by simpa using z1
            obtain ⟨z5,rfl,rfl⟩:=z4
            have hyl:=z3.len
            have hyl3:yl.length≤3000:=by omega
            have hia2:∀ s,iaLV 2 bv (.int .i64 (t:Int)) s=some (.pimm (wcells esb) (t*2),s):=fun s=>iaN (esz:=2) (k:=.i64) (s:=s) (i:=t) hSb (by omega)
            rw [ht1]
            have ht0:(0:Int)≤(t:Int):=by omega
            clear hbm ht1
            repeat' (first | refine gA (And.intro @hia @w1) ?_ | (refine gB (And.intro @hia @w1) ?_;intro bb hbb;cases bb<;>(try simp only [hbs,if_false,reduceCtorEq] at hbb)) | apply qc_seq | fail)
            · exfalso;omega
            refine q_bs1g (v:=.int .i64 (a:Int)) ef rfl (fun s1 h1 h2=>⟨chk_ld (p:=.pimm (wcells es) (k*2+1)) (v:=wv) ef (load_imm w1) ef,trivial⟩) (fun sC nC rC kC=>?_)
            repeat' (first | refine gA (And.intro @hia2 @y1) ?_ | (refine gB (And.intro @hia2 @y1) ?_;intro bb hbb;cases bb<;>(try simp only [hbs,if_false,reduceCtorEq] at hbb)) | apply qc_seq | fail)
            refine q_appSb (j:=sB.n) (A:=[.int .i64 (a:Int)]) (a:=1) (n:=yl.length) (yv:=yv) (cells:=ints (zints yl)) ef rC rfl ef (by simpa using hyi.sl) (ints_cl' _) (by simp [ints]) (by decide) (by omega) (fun s1 h1 h2=>⟨chk_ld (p:=.pimm (wcells es) (k*2+1)) (v:=wv) ef (load_imm w1) ef,trivial⟩) (fun sD nD rD kD=>?_)
            have hwce:=hwi.sl.cell
            have hwcc:=cells_cell hwce
            refine q_gen (v:=.agg [wv, .sref sC.n 0 (1+yl.length) 1]) (s':=sD) wN (by simp only [LOp.run,lk,sv1,sv2,sv3,Nat.reduceEqDiff,Nat.reduceAdd,Nat.reduceLeDiff,reduceIte,if_false,if_true,mkVal,unLV,List.map,optTmps,evParts,fillParts,hwcc];rfl) rfl trivial ?_
            simp only [Env.put_some]
            have gD0:sD.get 0=some (.cells .mut [.nils, .nils]):=by rw [kD 0 (by omega) (by omega),kC 0 (by omega)];exact gB0
            have hC0:0<sC.n:=by omega
            have hCD:sC.n<sD.n:=by omega
            clear gB0 g0 hel' hT3 nA nB nC nD kA kB kC kD
            repeat' (first | refine gA trivial ?_ | (refine gB trivial ?_;intro bb hbb;cases bb<;>(try simp only [hbs,if_false,reduceCtorEq] at hbb)) | apply qc_seq | fail)
            have hil':ints (zints (a::yl))=[.int .i64 (a:Int)]++ints (zints yl):=by simp [ints,zints]
            have hskL:SkE (sD.put 0 (.cells .mut [wv, .sref sC.n 0 (1+yl.length) 1])) (.sref sC.n 0 (1+yl.length) 1) 1 (ints (zints (a::yl))) (1+yl.length):=⟨by simp [ints];omega, .inr ⟨sC.n,rfl,by rw [St.n_put];omega,by rw [St.get_put,if_neg (by omega),hil'];exact rD⟩⟩
            have hFZ:FZ (uses (.sref sC.n 0 (1+yl.length) 1)) (fun v'=>IsInts v' (zints (a::yl))) 38 (.sref sC.n 0 (1+yl.length) 1) (sD.put 0 (.cells .mut [wv, .sref sC.n 0 (1+yl.length) 1])):=(fz_ske 36 hskL (ints_cl' _)).mono fun v' hv=>⟨by simpa [Nat.add_comm] using hv,by simp;omega,fun z hz=>by
              have hz':z=(a:Int)∨z∈zints yl:=by simpa [zints] using hz
              rcases hz' with rfl | h
              · unfold inI64;omega
              · exact hyi.rng z h⟩
            obtain ⟨v',s',f1,f2⟩:=frz_fnd (b:=true) hwi.closed hFZ fun v hv=>hv.closed
            refine ⟨.inr trivial, .tup [.agg [wv, .sref sC.n 0 (1+yl.length) 1], .bool true],by simp [resVal,resOne,mkVal,lk,St.get_put,e4],_,_,f1,by simp [LV.closed,LV.closed.closedAll,hwi.closed,f2.closed],wv,v',wl,a::yl,true,rfl,hwi,f2, .inl ⟨rfl,k,a,c,x,_,yl,hx',hmc,hs,hno,by rw [hR];exact hwy,⟨t,z,by rw [hmt2];exact hz,z5.symm,by rw [hmt2];exact z3⟩,rfl⟩⟩
          · have hs:¬ SHit B x.1 ((mt:Int),true):=fun h=>hin (hhit.1 h)
            have hno':=hno.next_move hx' hmc hs
            have hneg:hasW esb x.1<0:=hasW_neg.2 (by rw [hbm];exact hin)
            generalize hasW esb x.1=hz at *
            clear hno
            repeat' (first | refine gA trivial ?_ | (refine gB trivial ?_;intro bb hbb;cases bb<;>(try simp only [hbs,if_false,reduceCtorEq] at hbb)) | apply qc_seq | fail)
            · exact ⟨ms.length - (c+1),by omega,c+1,rfl,by omega,hno',gB0,by omega,by simp only [lk,sv1,sv2,sv3,Nat.reduceEqDiff,Nat.reduceAdd,Nat.reduceLeDiff,reduceIte,if_false,if_true,mkVal,unLV,List.map,optTmps,hwc,e2,e4,e6,e7,e8,e9,and_self]⟩
            · exfalso;omega
      · have hce:c=ms.length:=by omega
        have hno':=hno.next_letter hx' (by rw [hrA];exact hce)
        repeat' (first | refine gA @hml ?_ | (refine gB @hml ?_;intro bb hbb;cases bb<;>(try simp only [hbs,if_false,reduceCtorEq] at hbb)) | apply qc_seq | fail)
        · exact ⟨row.length - (a+1),by omega,a+1,rfl,by omega,hno',g0,hn0,by simp only [lk,sv1,sv2,sv3,Nat.reduceEqDiff,Nat.reduceAdd,Nat.reduceLeDiff,reduceIte,if_false,if_true,mkVal,unLV,List.map,optTmps,hwa,e2,e4,e6,e7,and_self]⟩
        · exfalso;omega
    · have hae:a=row.length:=by omega
      have haL:¬ (a:Int)<B.L:=by rw [hLB.out];omega
      have hno':=hno.next_state hx' (by rw [hrow];exact hae)
      repeat' (first | refine gA trivial ?_ | (refine gB trivial ?_;intro bb hbb;cases bb<;>(try simp only [hbs,if_false,reduceCtorEq] at hbb)) | apply qc_seq | fail)
      · exact ⟨R.length - (k+1),by omega,k+1,rfl,by omega,hno',g0,hn0,by simp only [lk,sv1,sv2,sv3,Nat.reduceEqDiff,Nat.reduceAdd,Nat.reduceLeDiff,reduceIte,if_false,if_true,mkVal,unLV,List.map,optTmps,hw,e2,e4,e6,and_self]⟩
      · exfalso;omega
  · have hke:k=R.length:=by omega
    have hkE:¬ (k:Int)<(R.length:Int):=by omega
    repeat' (first | refine gA @hll ?_ | (refine gB @hll ?_;intro bb hbb;cases bb<;>(try simp only [hbs,if_false,reduceCtorEq] at hbb)) | apply qc_seq | fail)
    · refine q_gen (v:=.agg [.nils, .nils]) (s':=s) wN (by simp only [LOp.run,lk,sv1,sv2,sv3,Nat.reduceEqDiff,Nat.reduceAdd,Nat.reduceLeDiff,reduceIte,if_false,if_true,mkVal,unLV,List.map,optTmps,evParts,fillParts];(try rfl)) rfl trivial ?_
      simp only [Env.put_some]
      clear hel'
      repeat' (first | refine gA trivial ?_ | (refine gB trivial ?_;intro bb hbb;cases bb<;>(try simp only [hbs,if_false,reduceCtorEq] at hbb)) | apply qc_seq | fail)
      exact ⟨.inr trivial, .tup [.agg [.nils, .nils], .bool false],by simp [resVal,resOne,mkVal,lk,St.get_put,e4],_,_,frzD_closed rfl,rfl, .nils, .nils,[],[],false,rfl,zints_is (by simp) (by simp) _ .nil,zints_is (by simp) (by simp) _ .nil, .inr ⟨rfl,rfl,rfl,by subst hke;rw [hR];exact hno⟩⟩
    · exfalso;omega
end Go.Proofs.YtmblpcidfjemhaaDoor
end
