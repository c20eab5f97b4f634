/- search.Live: the states from which a word is accepted. -/
import Derived.Test.YtmblpcidfjemhaaDoorTmark
set_option linter.unusedSimpArgs false
set_option linter.unusedVariables false
namespace Go.Proofs.YtmblpcidfjemhaaDoor
open Go Go.Pv Go.Aut Go.Tarjan
open Classical
def LE (n:Nat) (bv:List LV) (p:Nat→Nat) (e:Env):Prop:=e.at 1 = .pimm bv 0∧e.at 3 = .simm (fcells n p) n∧e.at 4 = .pref 1 0∧e.at 5 = .sref 2 0 n 1∧e.at 6 = .pref 3 0∧e.at 7 = .fn (.func 28) [] [.pref 1 0, .pref 3 0]
set_option maxHeartbeats 16000000 in
theorem live_ok {v0:LV} {B:Bu} {sv nv:LV} (hB:IsB v0 B sv nv) (hok:Vb B) (hsm:B.next.length≤40) :
    PE 12 [v0] (fun r=>∃ f:Nat→Bool,r = .simm (bcells B.next.length f) B.next.length∧∀ u,u<B.next.length→(f u=true↔Lvs B u)):=by
  have hvc:=hB.closed
  have hbv:=bvalid_ok hB
  rw [decide_eq_true hok] at hbv
  have hpo:=sparts_ok hB hok
  have hmk:=fun {n:Nat} {s:St} {f:Nat→Bool} {list:List Nat} {lv:LV} (h:MK n s f list lv) {q:Nat} (hq:q<n) (hb:list.length≤1000000)=>mark_ok h hq hb
  obtain ⟨rfl,hst',vs,hn⟩:=hB
  have hc1:=hst'.sl.cell
  have hc2:=hn.sl.cell
  have hnl:=hn.sl.len
  have hL1:=hok.1
  have hL2:=hok.2.1
  obtain ⟨n,hnn⟩:∃ n,B.next.length=n:=⟨_,rfl⟩
  rw [hnn] at hnl hpo hsm ⊢
  refine q_fnEx (t:=2) hm Tryd.func12 (by decide +kernel) c12 (Nat.le_of_ble_eq_true rfl) (by simp [LV.closed.closedAll,hvc]) rfl ?_
  have e0:(envOf [LV.agg [.int .i64 B.L,sv,nv]]).at 0 = .agg [.int .i64 B.L,sv,nv]:=by rw [envOf_at];rfl
  generalize envOf [LV.agg [.int .i64 B.L,sv,nv]]=e at *
  unfold l12
  dsimp only [jA,jB,jE,jG,jH,qM,qL,qN,qF,qS,qI,qA,qB,qC,qO,qG,qm,ql]
  have hb:n≤1048576:=by omega
  have hbig:(n:Int)*24≤big∧(n:Int)≤big:=by unfold big;omega
  repeat' (first | refine gA trivial ?_ | (refine gB trivial ?_;intro bb hbb;cases bb<;>(try simp only [hbs,if_false,reduceCtorEq] at hbb)) | apply qc_seq | fail)
  refine q_pure hG0 (hbv) (by first | exact wN | (apply wG;(simp only [lk,Nat.reduceEqDiff,reduceIte,e0];(try rfl);done))) (by simp only [List.map,lk,Nat.reduceEqDiff,reduceIte,e0];try rfl) (by first | trivial | (simp only [Chks,wantedG,LOp.run,Env.put_some,Env.put_none,lk,sv1,sv2,sv3,Nat.reduceEqDiff,Nat.reduceAdd,Nat.reduceLeDiff,reduceIte,if_false,if_true,mkVal,unLV,List.map,optTmps,beq_self_eq_true,reduceCtorEq,false_or,true_and,and_true,Option.some.injEq, *];done)) ?_
  simp only [Env.put_some]
  repeat' (first | refine gA trivial ?_ | (refine gB trivial ?_;intro bb hbb;cases bb<;>(try simp only [hbs,if_false,reduceCtorEq] at hbb)) | apply qc_seq | fail)
  refine q_pureEx hG0 hpo wN (by simp only [List.map,lk,sv1,sv2,sv3,Nat.reduceEqDiff,Nat.reduceAdd,Nat.reduceLeDiff,reduceIte,if_false,if_true,mkVal,unLV,List.map,optTmps]) (fun r hr hrc=>⟨trivial,?_⟩)
  obtain ⟨p,rfl,hp⟩:=hr
  simp only [Env.put_some]
  repeat' (first | refine gA @hnl ?_ | (refine gB @hnl ?_;intro bb hbb;cases bb<;>(try simp only [hbs,if_false,reduceCtorEq] at hbb)) | apply qc_seq | fail)
  refine u_mkB (n:=n) wN rfl ef ef (by omega) ?_
  repeat' (first | refine gA @hnl ?_ | (refine gB @hnl ?_;intro bb hbb;cases bb<;>(try simp only [hbs,if_false,reduceCtorEq] at hbb)) | apply qc_seq | fail)
  refine q_gen (v:=.sref 2 0 n 1) (s':=(((St.empty.new (.cells .mut (bcells n fun _=>false))).new (.cells .mut [.nils])).put 1 (.cells .mut [.sref 0 0 n 1])).new (.cells .mut (List.replicate n .nils))) wN (by
    simp only [LOp.run,lk,sv1,sv2,sv3,Nat.reduceEqDiff,Nat.reduceAdd,Nat.reduceLeDiff,reduceIte,if_false,if_true,mkVal,unLV,List.map,optTmps]
    rw [if_pos ⟨by omega,Int.le_refl _,hbig.1,hbig.2,trivial⟩,rep_one]
    rfl) rfl trivial ?_
  simp only [Env.put_some]
  repeat' (first | refine gA @hnl ?_ | (refine gB @hnl ?_;intro bb hbb;cases bb<;>(try simp only [hbs,if_false,reduceCtorEq] at hbb)) | apply qc_seq | fail)
  refine qc_gen (fun e s1=>HS n s1 (fun _=>false) [] .nils (fun _=>[]) (List.replicate n .nils)∧e.at 1 = .pimm [.int .i64 B.L,sv,nv] 0∧e.at 3 = .simm (fcells n p) n∧e.at 4 = .pref 1 0∧e.at 5 = .sref 2 0 n 1∧e.at 6 = .pref 3 0∧e.at 7 = .fn (.func 28) [] [.pref 1 0, .pref 3 0]∧e.at 32=nv∧e.at 33 = .int .i64 (n:Int)∧e.at 34 = .int .i64 0) ?_ ?_
  · have hrg:∀ i,i<n→(List.replicate n LV.nils).getD i .top = .nils:=fun i hi=>by simp [List.getD_eq_getElem?_getD,hi]
    refine ⟨⟨⟨?_,?_,?_,?_,SkC.nil _ _,fun id h=>absurd h (uses_nils id)⟩,⟨by simp,?_,?_,fun i hi=>by rw [hrg i hi];exact SkC.nil _ _,fun i hi id h=>absurd h (by rw [hrg i hi];exact uses_nils id),fun i k hi _ _ id h=>absurd h (by rw [hrg i hi];exact uses_nils id)⟩,fun i hi id h=>absurd h (by rw [hrg i hi];exact uses_nils id)⟩,?_⟩
    all_goals first
      | exact ⟨ef,ef,ef,ef,ef,by simp only [List.map,lk,sv1,sv2,sv3,Nat.reduceEqDiff,Nat.reduceAdd,Nat.reduceLeDiff,reduceIte,if_false,if_true,mkVal,unLV,List.map,optTmps],ef,ef,ef⟩
      | rfl
      | (simp [n_empty,St.get_put,St.get_new];done)
      | skip
  clear e0
  clear e
  rintro e s1 ⟨hH,e1,e3,e4,e5,e6,e7,e32,e33,e34⟩
  refine qc_loop (fun m e s1=>∃ (q:Nat) (f:Nat→Bool) (list:List Nat) (lv:LV) (bf:Nat→List Nat) (rv:List LV),m=n - q∧q≤n∧LG B q 0 0 f list bf∧HS n s1 f list lv bf rv∧LE n [.int .i64 B.L,sv,nv] p e∧e.at 32=nv∧e.at 33 = .int .i64 (n:Int)∧e.at 34 = .int .i64 (q:Int)) _
    ⟨0,_,[], .nils,_,_,rfl,by omega,LG.init B,hH,⟨e1,e3,e4,e5,e6,e7⟩,e32,e33,e34⟩ ?_
  clear hH e1 e3 e4 e5 e6 e7 e32 e33 e34
  clear e s1
  rintro m e s1 ⟨q,f,list,lv,bf,rv,rfl,hqn,hG,hH,⟨e1,e3,e4,e5,e6,e7⟩,e32,e33,e34⟩
  by_cases hq:q<n
  · -- a state
    have hqI:(q:Int)<(n:Int):=by omega
    have hwq:IntKind.i64.wrap ((q:Int)+1)=((q+1:Nat):Int):=by rw [wrap_i64 _ (by omega) (by omega)];rfl
    have g1:vs[q]? = some (vs.getD q .top):=hn.get (by omega)
    obtain ⟨ws,hr⟩:=hn.row q (by omega)
    have hmv0:=(hok.2.2.2.2 q (by omega)).2
    have hLI:B.L=((B.next.getD q []).length:Int):=((hok.2.2.2.2 q (by omega)).1).symm
    have hrl:=hr.sl.len
    have hrowd:∀ a,rowAt B q a=(B.next.getD q []).getD a []:=fun a=>rfl
    generalize hrow:B.next.getD q []=row at *
    generalize hrv:vs.getD q .top=rwv at *
    rw [hnn] at hmv0
    have hiav:∀ s,iaLV 1 nv (.int .i64 (q:Int)) s=some (.pimm vs q,s):=fun s=>by
      have:=iaN (esz:=1) (k:=.i64) (s:=s) (i:=q) hn.sl (by omega)
      simpa using this
    repeat' (first | refine gA (And.intro @hiav (And.intro @g1 @hrl)) ?_ | (refine gB (And.intro @hiav (And.intro @g1 @hrl)) ?_;intro bb hbb;cases bb<;>(try simp only [hbs,if_false,reduceCtorEq] at hbb)) | apply qc_seq | fail)
    · exfalso;omega
    refine qc_loop (fun m e s1=>∃ (a:Nat) (f:Nat→Bool) (list:List Nat) (lv:LV) (bf:Nat→List Nat) (rv:List LV),m=row.length - a∧a≤row.length∧LG B q a 0 f list bf∧HS n s1 f list lv bf rv∧LE n [.int .i64 B.L,sv,nv] p e∧e.at 32=nv∧e.at 33 = .int .i64 (n:Int)∧e.at 34 = .int .i64 (q:Int)∧e.at 8 = .int .i64 (q:Int)∧e.at 39=rwv∧e.at 40 = .int .i64 (row.length:Int)∧e.at 41 = .int .i64 (a:Int)) _
      ⟨0,f,list,lv,bf,rv,rfl,by omega,hG,hH,by simp only [LE,lk,sv1,sv2,sv3,Nat.reduceEqDiff,Nat.reduceAdd,Nat.reduceLeDiff,reduceIte,if_false,if_true,mkVal,unLV,List.map,optTmps,e1,e3,e4,e5,e6,e7,and_self],ef,ef,ef,ef,ef,ef,by simp only [lk,sv1,sv2,sv3,Nat.reduceEqDiff,Nat.reduceAdd,Nat.reduceLeDiff,reduceIte,if_false,if_true,mkVal,unLV,List.map,optTmps];rfl⟩ ?_
    clear hG hH e1 e3 e4 e5 e6 e7 e32 e33 e34 hbb
    clear e s1 f list lv bf rv
    rintro m e s1 ⟨a,f,list,lv,bf,rv,rfl,han,hG,hH,⟨e1,e3,e4,e5,e6,e7⟩,e32,e33,e34,e8,e39,e40,e41⟩
    by_cases hal:a<row.length
    · -- a letter
      have haI:(a:Int)<(row.length:Int):=by omega
      have hwa:IntKind.i64.wrap ((a:Int)+1)=((a+1:Nat):Int):=by rw [wrap_i64 _ (by omega) (by omega)];rfl
      have g2:ws[a]? = some (ws.getD a .top):=hr.get hal
      have hm':=hr.row a hal
      have hmo:=hmv0 a hal
      have hmsl:=mok_len' hmo
      have hrwa:=hrowd a
      generalize hms:row.getD a []=ms at *
      generalize hmv:ws.getD a .top=mv at *
      have hml:=hm'.sl.len
      have hiaa:∀ s,iaLV 1 rwv (.int .i64 (a:Int)) s=some (.pimm ws a,s):=fun s=>by
        have:=iaN (esz:=1) (k:=.i64) (s:=s) (i:=a) hr.sl (by omega)
        simpa using this
      repeat' (first | refine gA (And.intro @hiaa (And.intro @g2 @hml)) ?_ | (refine gB (And.intro @hiaa (And.intro @g2 @hml)) ?_;intro bb hbb;cases bb<;>(try simp only [hbs,if_false,reduceCtorEq] at hbb)) | apply qc_seq | fail)
      · exfalso;omega
      refine qc_loop (fun m e s1=>∃ (k:Nat) (f:Nat→Bool) (list:List Nat) (lv:LV) (bf:Nat→List Nat) (rv:List LV),m=ms.length - k∧k≤ms.length∧LG B q a k f list bf∧HS n s1 f list lv bf rv∧LE n [.int .i64 B.L,sv,nv] p e∧e.at 32=nv∧e.at 33 = .int .i64 (n:Int)∧e.at 34 = .int .i64 (q:Int)∧e.at 8 = .int .i64 (q:Int)∧e.at 39=rwv∧e.at 40 = .int .i64 (row.length:Int)∧e.at 41 = .int .i64 (a:Int)∧e.at 45=mv∧e.at 46 = .int .i64 (ms.length:Int)∧e.at 47 = .int .i64 (k:Int)) _
        ⟨0,f,list,lv,bf,rv,rfl,by omega,hG,hH,by simp only [LE,lk,sv1,sv2,sv3,Nat.reduceEqDiff,Nat.reduceAdd,Nat.reduceLeDiff,reduceIte,if_false,if_true,mkVal,unLV,List.map,optTmps,e1,e3,e4,e5,e6,e7,and_self],ef,ef,ef,ef,ef,ef,ef,ef,ef,by simp only [lk,sv1,sv2,sv3,Nat.reduceEqDiff,Nat.reduceAdd,Nat.reduceLeDiff,reduceIte,if_false,if_true,mkVal,unLV,List.map,optTmps];rfl⟩ ?_
      clear hG hH e1 e3 e4 e5 e6 e7 e8 e32 e33 e34 e39 e40 e41 hbb
      clear e s1 f list lv bf rv
      rintro m e s1 ⟨k,f,list,lv,bf,rv,rfl,hkn,hG,hH,⟨e1,e3,e4,e5,e6,e7⟩,e32,e33,e34,e8,e39,e40,e41,e45,e46,e47⟩
      by_cases hkl:k<ms.length
      · -- a move
        have hkI:(k:Int)<(ms.length:Int):=by omega
        have hwk:IntKind.i64.wrap ((k:Int)+1)=((k+1:Nat):Int):=by rw [wrap_i64 _ (by omega) (by omega)];rfl
        have hld:=fun s=>loadN_moves (s:=s) hkl
        have hmr:=hmo k hkl
        obtain ⟨md,hmd⟩:∃ md,ms[k]? = some md:=⟨_,List.getElem?_eq_getElem hkl⟩
        have hgd:ms.getD k (0,false)=md:=by rw [List.getD_eq_getElem?_getD,hmd];rfl
        rw [hgd] at hld hmr
        have hra:(rowAt B q a)[k]? = some md:=by rw [hrwa];exact hmd
        obtain ⟨mt,mg⟩:=md
        obtain ⟨t,rfl⟩:∃ t:Nat,mt=(t:Int):=⟨mt.toNat,by omega⟩
        have htn:t<n:=by have:=hmr.2.1;simp only at this;omega
        have htI:(t:Int)<(n:Int):=by omega
        clear hmr hgd
        repeat' (first | refine gA (And.intro (@iaN _ _ _ hm'.sl) @hld) ?_ | (refine gB (And.intro (@iaN _ _ _ hm'.sl) @hld) ?_;intro bb hbb;cases bb<;>(try simp only [hbs,if_false,reduceCtorEq] at hbb)) | apply qc_seq | fail)
        · exfalso;omega
        generalize hs2:(s1.new (.cells .mut [.int .i64 0, .bool false])).put s1.n (.cells .mut [.int .i64 (t:Int), .bool mg])=s2
        have n2:s2.n=s1.n+1:=by rw [← hs2];rfl
        have o2:∀ id,id<s1.n→s2.get id=s1.get id:=fun id h=>by rw [← hs2,St.get_put,if_neg (by omega),St.get_new,if_neg (by omega)]
        obtain ⟨b,hbn⟩:∃ b,s1.n=b:=⟨_,rfl⟩
        rw [hbn] at n2 ⊢
        have gb:s2.get b=some (.cells .mut [.int .i64 (t:Int), .bool mg]):=by rw [← hs2,← hbn,St.get_put,if_pos rfl]
        have hH2:=hH.keep (s':=s2) (by omega) o2
        have hub:∀ i,i<n→¬ uses (rv.getD i .top) b:=fun i hi hu=>by have:=(hH.nr.row i hi).lt hu;omega
        have hul:¬ uses lv b:=fun hu=>by have:=hH.mkd.sl.lt hu;omega
        have hb4:4≤b:=by have:=hH.mkd.n4;omega
        clear hs2 o2 hH
        have g22:=hH2.nr.g
        have hrvl:=hH2.nr.len
        have gt:rv[t]? = some (rv.getD t .top):=by simp [List.getD_eq_getElem?_getD,hrvl,htn]
        repeat' (first | refine gA (And.intro @iaS @gt) ?_ | (refine gB (And.intro @iaS @gt) ?_;intro bb hbb;cases bb<;>(try simp only [hbs,if_false,reduceCtorEq] at hbb)) | apply qc_seq | fail)
        have hbl:=hG.bl t
        have f5:∀ id,id<s2.n→(s2.new (.cells .mut [.int .i64 (q:Int)])).get id=s2.get id:=fun id hid=>by rw [St.get_new,if_neg (by omega)]
        have fb:(s2.new (.cells .mut [.int .i64 (q:Int)])).get b=some (.cells .mut [.int .i64 (t:Int), .bool mg]):=by rw [f5 _ (by omega)];exact gb
        have f2:(s2.new (.cells .mut [.int .i64 (q:Int)])).get 2=some (.cells .mut rv):=by rw [f5 _ (by omega)];exact g22
        refine q_appK2 (n:=(bf t).length) (xv:=.int .i64 (q:Int)) (yv:=rv.getD t .top) (cells:=nints (bf t)) ef rfl rfl ef (hH2.nr.row t htn) ⟨.inr ⟨rfl,by simp only [LOp.run,lk,sv1,sv2,sv3,Nat.reduceEqDiff,Nat.reduceAdd,Nat.reduceLeDiff,reduceIte,if_false,if_true,mkVal,unLV,List.map,optTmps,fb,Option.bind_eq_bind]⟩, .inr ⟨rfl,by simp only [LOp.run,lk,sv1,sv2,sv3,Nat.reduceEqDiff,Nat.reduceAdd,Nat.reduceLeDiff,reduceIte,if_false,if_true,mkVal,unLV,List.map,optTmps,fb,Option.bind_eq_bind]⟩, .inr ⟨rfl,by simp only [LOp.run,lk,sv1,sv2,sv3,Nat.reduceEqDiff,Nat.reduceAdd,Nat.reduceLeDiff,reduceIte,if_false,if_true,mkVal,unLV,List.map,optTmps,f2,gt,Option.bind_eq_bind]⟩,trivial⟩ (by decide) (by omega) (fun s5 j5 a1 a2 a3 a4=>?_)
        have hb5:s5.get b=some (.cells .mut [.int .i64 (t:Int), .bool mg]):=by rw [a4 b (by omega) (hub t htn)];exact gb
        have h25:s5.get 2=some (.cells .mut rv):=by rw [a4 2 (by omega) fun hu=>by have:=(hH2.nr.low t htn _ hu).1;omega];exact g22
        refine ⟨⟨.inr ⟨rfl,by simp only [LOp.run,lk,sv1,sv2,sv3,Nat.reduceEqDiff,Nat.reduceAdd,Nat.reduceLeDiff,reduceIte,if_false,if_true,mkVal,unLV,List.map,optTmps,hb5,Option.bind_eq_bind]⟩,trivial⟩,?_⟩
        clear fb f2 f5
        repeat' (first | refine gA @iaS ?_ | (refine gB @iaS ?_;intro bb hbb;cases bb<;>(try simp only [hbs,if_false,reduceCtorEq] at hbb)) | apply qc_seq | fail)
        refine q_storeG (i:=2) (o:=t) (n:=1) (cs:=rv) (vs:=[.sref j5 0 ((bf t).length+1) 1]) (cs':=rv.set t (.sref j5 0 ((bf t).length+1) 1)) (v:=.sref j5 0 ((bf t).length+1) 1) ef ef rfl h25 rfl (by omega) rfl ?_
        have hrl:(bf t++[q]).length=(bf t).length+1:=by simp
        have hH6:=hH2.row (s2:=s5) (i:=t) (j:=j5) (r:=bf t++[q]) htn a1 (by rw [hrl,nints_append];exact a2) a3 a4
        rw [hrl] at hH6
        have gb6:(s5.put 2 (.cells .mut (rv.set t (.sref j5 0 ((bf t).length+1) 1)))).get b=some (.cells .mut [.int .i64 (t:Int), .bool mg]):=by rw [St.get_put,if_neg (by omega)];exact hb5
        have hnb6:b<(s5.put 2 (.cells .mut (rv.set t (.sref j5 0 ((bf t).length+1) 1)))).n:=by rw [St.n_put];omega
        generalize s5.put 2 (.cells .mut (rv.set t (.sref j5 0 ((bf t).length+1) 1)))=s6 at *
        generalize rv.set t (.sref j5 0 ((bf t).length+1) 1)=rv6 at *
        clear a1 a2 a3 a4 hb5 h25 gb g22 gt hub hul hH2 hrvl n2
        have gpt:(fcells n p)[t]? = some (.int .i64 (p t:Int)):=fcells_get htn
        have gpq:(fcells n p)[q]? = some (.int .i64 (p q:Int)):=fcells_get hq
        have hiat:∀ s,iaLV 1 (.simm (fcells n p) n) (.int .i64 (t:Int)) s=some (.pimm (fcells n p) t,s):=fun s=>by
          have:=iaN (esz:=1) (k:=.i64) (s:=s) (i:=t) (Sl.simm (fcells n p) n) htI
          simpa using this
        have hiaq:∀ s,iaLV 1 (.simm (fcells n p) n) (.int .i64 (q:Int)) s=some (.pimm (fcells n p) q,s):=fun s=>by
          have:=iaN (esz:=1) (k:=.i64) (s:=s) (i:=q) (Sl.simm (fcells n p) n) hqI
          simpa using this
        have hpeq:(p t=p q↔Rch (nxB B) t q∧Rch (nxB B) q t):=hp t q htn hq
        have hedge:t∈nxB B q:=(mem_nxB hok).2 ⟨a,mg,by simp only [bmv];exact List.mem_map.2 ⟨((t:Int),mg),List.mem_of_getElem? hra,by simp⟩⟩
        have hqB:q<B.next.length:=by omega
        have fin:∀ (f':Nat→Bool) (list':List Nat) (lv':LV) (s7:St) (e':Env),LG B q a (k+1) f' list' (fun x=>if x=t then bf t++[q] else bf x)→HS n s7 f' list' lv' (fun x=>if x=t then bf t++[q] else bf x) rv6→(LE n [.int .i64 B.L,sv,nv] p e'∧e'.at 32=nv∧e'.at 33 = .int .i64 (n:Int)∧e'.at 34 = .int .i64 (q:Int)∧e'.at 8 = .int .i64 (q:Int)∧e'.at 39=rwv∧e'.at 40 = .int .i64 (row.length:Int)∧e'.at 41 = .int .i64 (a:Int)∧e'.at 45=mv∧e'.at 46 = .int .i64 (ms.length:Int)∧e'.at 47 = .int .i64 ((k+1:Nat):Int))→∃ m,m<ms.length - k∧∃ (k:Nat) (f:Nat→Bool) (list:List Nat) (lv:LV) (bf:Nat→List Nat) (rv:List LV),m=ms.length - k∧k≤ms.length∧LG B q a k f list bf∧HS n s7 f list lv bf rv∧LE n [.int .i64 B.L,sv,nv] p e'∧e'.at 32=nv∧e'.at 33 = .int .i64 (n:Int)∧e'.at 34 = .int .i64 (q:Int)∧e'.at 8 = .int .i64 (q:Int)∧e'.at 39=rwv∧e'.at 40 = .int .i64 (row.length:Int)∧e'.at 41 = .int .i64 (a:Int)∧e'.at 45=mv∧e'.at 46 = .int .i64 (ms.length:Int)∧e'.at 47 = .int .i64 (k:Int):=fun f' list' lv' s7 e' c1 c2 c3=>⟨ms.length - (k+1),by omega,k+1,f',list',lv',_,rv6,rfl,by omega,c1,c2,c3⟩
        cases mg with
        | false=>
          repeat' (first | refine gA (And.intro @iaS (And.intro @gpt @gpq)) ?_ | (refine gB (And.intro @iaS (And.intro @gpt @gpq)) ?_;intro bb hbb;cases bb<;>(try simp only [hbs,if_false,reduceCtorEq] at hbb)) | apply qc_seq | fail)
          refine fin f list lv _ _ (hG.add hok hqB hra fun h=>by cases h) hH6 ⟨by simp only [LE,lk,sv1,sv2,sv3,Nat.reduceEqDiff,Nat.reduceAdd,Nat.reduceLeDiff,reduceIte,if_false,if_true,mkVal,unLV,List.map,optTmps,e1,e3,e4,e5,e6,e7,and_self],?_⟩
          simp only [lk,sv1,sv2,sv3,Nat.reduceEqDiff,Nat.reduceAdd,Nat.reduceLeDiff,reduceIte,if_false,if_true,mkVal,unLV,List.map,optTmps,hwk,e8,e32,e33,e34,e39,e40,e41,e45,e46,and_self]
        | true=>
          repeat' (first | refine gA (And.intro @hiat (And.intro @hiaq (And.intro @gpt @gpq))) ?_ | (refine gB (And.intro @hiat (And.intro @hiaq (And.intro @gpt @gpq))) ?_;intro bb hbb;cases bb<;>(try simp only [hbs,if_false,reduceCtorEq] at hbb)) | apply qc_seq | fail)
          · refine fin f list lv _ _ (hG.add hok hqB hra fun _ h=>absurd (hpeq.2 ⟨h, .one hedge⟩) (by omega)) hH6 ⟨by simp only [LE,lk,sv1,sv2,sv3,Nat.reduceEqDiff,Nat.reduceAdd,Nat.reduceLeDiff,reduceIte,if_false,if_true,mkVal,unLV,List.map,optTmps,e1,e3,e4,e5,e6,e7,and_self],?_⟩
            simp only [lk,sv1,sv2,sv3,Nat.reduceEqDiff,Nat.reduceAdd,Nat.reduceLeDiff,reduceIte,if_false,if_true,mkVal,unLV,List.map,optTmps,hwk,e8,e32,e33,e34,e39,e40,e41,e45,e46,and_self]
          · have hpp:p t=p q:=by omega
            have hrt:=(hpeq.1 hpp).1
            have hll:=hG.len
            refine q_call wN (fv:=.fn (.func 28) [] [.pref 1 0, .pref 3 0]) (vs:=[.int .i64 (q:Int)]) ef (by simp only [List.map,lk,sv1,sv2,sv3,Nat.reduceEqDiff,Nat.reduceAdd,Nat.reduceLeDiff,reduceIte,if_false,if_true,mkVal,unLV,List.map,optTmps]) (CallOk.mono (hmk hH6.mkd hq (by omega)) fun r s7 hh=>⟨trivial,?_⟩)
            obtain ⟨lv7,hM7,hn7,hk7,h27,hu7⟩:=hh
            have hH7:=hH6.mark hM7 hn7 hk7 h27 hu7
            have hG7:=(hG.mark hqB ⟨q, .refl q,a,t,by simp only [bmv];exact List.mem_map.2 ⟨((t:Int),true),List.mem_of_getElem? hra,by simp⟩,hrt⟩).add hok hqB hra fun _ _=>(mem_mkl hG.fl q q).2 (.inr rfl)
            simp only [Env.put_some]
            clear hM7 hk7 h27 hu7 hH6 hrt
            repeat' (first | refine gA trivial ?_ | (refine gB trivial ?_;intro bb hbb;cases bb<;>(try simp only [hbs,if_false,reduceCtorEq] at hbb)) | apply qc_seq | fail)
            refine fin _ _ lv7 _ _ hG7 hH7 ⟨by simp only [LE,lk,sv1,sv2,sv3,Nat.reduceEqDiff,Nat.reduceAdd,Nat.reduceLeDiff,reduceIte,if_false,if_true,mkVal,unLV,List.map,optTmps,e1,e3,e4,e5,e6,e7,and_self],?_⟩
            simp only [lk,sv1,sv2,sv3,Nat.reduceEqDiff,Nat.reduceAdd,Nat.reduceLeDiff,reduceIte,if_false,if_true,mkVal,unLV,List.map,optTmps,hwk,e8,e32,e33,e34,e39,e40,e41,e45,e46,and_self]
      · -- the letter is done
        have hke:k=ms.length:=by omega
        have hG2:=hG.letter (by rw [hrwa];exact hke) (by omega)
        clear hG
        repeat' (first | refine gA trivial ?_ | (refine gB trivial ?_;intro bb hbb;cases bb<;>(try simp only [hbs,if_false,reduceCtorEq] at hbb)) | apply qc_seq | fail)
        · refine ⟨row.length - (a+1),by omega,a+1,f,list,lv,bf,rv,rfl,by omega,hG2,hH,by simp only [LE,lk,sv1,sv2,sv3,Nat.reduceEqDiff,Nat.reduceAdd,Nat.reduceLeDiff,reduceIte,if_false,if_true,mkVal,unLV,List.map,optTmps,e1,e3,e4,e5,e6,e7,and_self],?_⟩
          simp only [lk,sv1,sv2,sv3,Nat.reduceEqDiff,Nat.reduceAdd,Nat.reduceLeDiff,reduceIte,if_false,if_true,mkVal,unLV,List.map,optTmps,hwa,e8,e32,e33,e34,e39,e40,and_self]
        · exfalso;omega
    · -- the state is done
      have hae:a=row.length:=by omega
      have hG2:=hG.state (by rw [hrow];exact hae) (by omega)
      clear hG
      repeat' (first | refine gA trivial ?_ | (refine gB trivial ?_;intro bb hbb;cases bb<;>(try simp only [hbs,if_false,reduceCtorEq] at hbb)) | apply qc_seq | fail)
      · refine ⟨n - (q+1),by omega,q+1,f,list,lv,bf,rv,rfl,by omega,hG2,hH,by simp only [LE,lk,sv1,sv2,sv3,Nat.reduceEqDiff,Nat.reduceAdd,Nat.reduceLeDiff,reduceIte,if_false,if_true,mkVal,unLV,List.map,optTmps,e1,e3,e4,e5,e6,e7,and_self],?_⟩
        simp only [lk,sv1,sv2,sv3,Nat.reduceEqDiff,Nat.reduceAdd,Nat.reduceLeDiff,reduceIte,if_false,if_true,mkVal,unLV,List.map,optTmps,hwq,e32,e33,and_self]
      · exfalso;omega
  · -- backwards
    obtain rfl:q=n:=by omega
    repeat' (first | refine gA trivial ?_ | (refine gB trivial ?_;intro bb hbb;cases bb<;>(try simp only [hbs,if_false,reduceCtorEq] at hbb)) | apply qc_seq | fail)
    rotate_left
    · exfalso;omega
    refine qc_loop (fun m e s1=>∃ (i:Nat) (f:Nat→Bool) (list:List Nat) (lv:LV),m=q - i∧i≤list.length∧LG B q 0 0 f list bf∧(∀ (i' t:Nat),i'<i→list[i']? = some t→∀ x∈bf t,x∈list)∧HS q s1 f list lv bf rv∧LE q [.int .i64 B.L,sv,nv] p e∧e.at 14 = .int .i64 (i:Int)) _
      ⟨0,f,list,lv,rfl,by omega,hG,fun i' t h=>absurd h (Nat.not_lt_zero _),hH,by simp only [LE,lk,sv1,sv2,sv3,Nat.reduceEqDiff,Nat.reduceAdd,Nat.reduceLeDiff,reduceIte,if_false,if_true,mkVal,unLV,List.map,optTmps,e1,e3,e4,e5,e6,e7,and_self],by simp only [lk,sv1,sv2,sv3,Nat.reduceEqDiff,Nat.reduceAdd,Nat.reduceLeDiff,reduceIte,if_false,if_true,mkVal,unLV,List.map,optTmps];rfl⟩ ?_
    clear hG hH e1 e3 e4 e5 e6 e7 e32 e33 e34 hbb
    clear e s1 f list lv
    rintro m e s1 ⟨i,f,list,lv,rfl,hil,hG,hw,hH,⟨e1,e3,e4,e5,e6,e7⟩,e14⟩
    have hll:=hG.len
    rw [hnn] at hll
    have g3:=hH.mkd.g3
    have hlvl:=hH.mkd.sl.len
    by_cases hi:i<list.length
    · have hiI:(i:Int)<(list.length:Int):=by omega
      have hwi:IntKind.i64.wrap ((i:Int)+1)=((i+1:Nat):Int):=by rw [wrap_i64 _ (by omega) (by omega)];rfl
      obtain ⟨t,ht⟩:∃ t,list[i]? = some t:=⟨_,List.getElem?_eq_getElem hi⟩
      have htm:=List.mem_of_getElem? ht
      have htn:t<q:=by rw [← hnn];exact hG.rng t htm
      have htI:(t:Int)<(q:Int):=by omega
      obtain ⟨jl,hjl,hjl2,hjlg⟩:=hH.mkd.sl.pos (by omega)
      have hia:∀ s',iaLV 1 lv (.int .i64 (i:Int)) s'=some (.pref jl i,s'):=fun s'=>by rw [hjl,iaS hiI];simp
      have gl:(nints list)[i]? = some (.int .i64 (t:Int)):=by simp [nints,ht]
      have g2:=hH.nr.g
      have hrvl:=hH.nr.len
      have gt:rv[t]? = some (rv.getD t .top):=by simp [List.getD_eq_getElem?_getD,hrvl,htn]
      have hrl:=(hH.nr.row t htn).len
      clear hjl
      repeat' (first | refine gA (And.intro @hia (And.intro @gl (And.intro @iaS (And.intro @gt @hrl)))) ?_ | (refine gB (And.intro @hia (And.intro @gl (And.intro @iaS (And.intro @gt @hrl)))) ?_;intro bb hbb;cases bb<;>(try simp only [hbs,if_false,reduceCtorEq] at hbb)) | apply qc_seq | fail)
      · exfalso;omega
      refine qc_loop (fun m e s1=>∃ (c:Nat) (f:Nat→Bool) (list:List Nat) (lv:LV),m=(bf t).length - c∧c≤(bf t).length∧LG B q 0 0 f list bf∧list[i]? = some t∧(∀ (i' t:Nat),i'<i→list[i']? = some t→∀ x∈bf t,x∈list)∧(∀ x∈(bf t).take c,x∈list)∧HS q s1 f list lv bf rv∧LE q [.int .i64 B.L,sv,nv] p e∧e.at 14 = .int .i64 (i:Int)∧e.at 95=rv.getD t .top∧e.at 96 = .int .i64 ((bf t).length:Int)∧e.at 97 = .int .i64 (c:Int)) _
        ⟨0,f,list,lv,rfl,by omega,hG,ht,hw,by simp,hH,by simp only [LE,lk,sv1,sv2,sv3,Nat.reduceEqDiff,Nat.reduceAdd,Nat.reduceLeDiff,reduceIte,if_false,if_true,mkVal,unLV,List.map,optTmps,e1,e3,e4,e5,e6,e7,and_self],ef,ef,ef,by simp only [lk,sv1,sv2,sv3,Nat.reduceEqDiff,Nat.reduceAdd,Nat.reduceLeDiff,reduceIte,if_false,if_true,mkVal,unLV,List.map,optTmps];rfl⟩ ?_
      clear hG hw hH hia gl g2 g3 hlvl hll hjl2 hjlg ht htm gt hrl hi hiI hil e1 e3 e4 e5 e6 e7 e14 hbb
      clear e s1 f list lv
      rintro m e s1 ⟨c,f,list,lv,rfl,hc,hG,ht,hw,hx,hH,⟨e1,e3,e4,e5,e6,e7⟩,e14,e95,e96,e97⟩
      have hll:=hG.len
      rw [hnn] at hll
      have hil:=(List.getElem?_eq_some_iff.1 ht).1
      have hbl:=hG.bl t
      by_cases hcl:c<(bf t).length
      · have hcI:(c:Int)<((bf t).length:Int):=by omega
        have hwc:IntKind.i64.wrap ((c:Int)+1)=((c+1:Nat):Int):=by rw [wrap_i64 _ (by omega) (by omega)];rfl
        obtain ⟨x,hxc⟩:∃ x,(bf t)[c]? = some x:=⟨_,List.getElem?_eq_getElem hcl⟩
        obtain ⟨jr,hjr,hjr2,hjrg⟩:=(hH.nr.row t htn).pos (by omega)
        have hia:∀ s',iaLV 1 (rv.getD t .top) (.int .i64 (c:Int)) s'=some (.pref jr c,s'):=fun s'=>by rw [hjr,iaS hcI];simp
        have gl:(nints (bf t))[c]? = some (.int .i64 (x:Int)):=by simp [nints,hxc]
        have hsrc:=hG.src t x (List.mem_of_getElem? hxc)
        rw [hnn] at hsrc
        clear hjr
        repeat' (first | refine gA (And.intro @hia @gl) ?_ | (refine gB (And.intro @hia @gl) ?_;intro bb hbb;cases bb<;>(try simp only [hbs,if_false,reduceCtorEq] at hbb)) | apply qc_seq | fail)
        · exfalso;omega
        refine q_call wN (fv:=.fn (.func 28) [] [.pref 1 0, .pref 3 0]) (vs:=[.int .i64 (x:Int)]) ef (by simp only [List.map,lk,sv1,sv2,sv3,Nat.reduceEqDiff,Nat.reduceAdd,Nat.reduceLeDiff,reduceIte,if_false,if_true,mkVal,unLV,List.map,optTmps]) (CallOk.mono (hmk hH.mkd hsrc.1 (by omega)) fun r s7 hh=>⟨trivial,?_⟩)
        obtain ⟨lv7,hM7,hn7,hk7,h27,hu7⟩:=hh
        have hH7:=hH.mark hM7 hn7 hk7 h27 hu7
        have hlt:Lvs B x:=by
          obtain ⟨u,h1,h2⟩:=hG.snd t (List.mem_of_getElem? ht)
          exact ⟨u, .head hsrc.2 h1,h2⟩
        have hG7:=hG.mark (by rw [hnn];exact hsrc.1) hlt
        have hmm:=mem_mkl hG.fl x
        obtain ⟨tl,htl⟩:=mkl_pre f list x
        have ht7:(mkl f list x)[i]? = some t:=by rw [htl,List.getElem?_append_left hil];exact ht
        have hw7:∀ (i' t:Nat),i'<i→(mkl f list x)[i']? = some t→∀ y∈bf t,y∈mkl f list x:=fun i' t' h1 h2 y hy=>by
          rw [htl,List.getElem?_append_left (by omega)] at h2
          exact (hmm y).2 (.inl (hw i' t' h1 h2 y hy))
        have hx7:∀ y∈(bf t).take (c+1),y∈mkl f list x:=fun y hy=>by
          rw [List.take_add_one,hxc] at hy
          rcases List.mem_append.1 hy with h1 | h1
          · exact (hmm y).2 (.inl (hx y h1))
          · exact (hmm y).2 (.inr (by simpa using h1))
        simp only [Env.put_some]
        clear hM7 hk7 h27 hu7 hH htl hmm
        repeat' (first | refine gA trivial ?_ | (refine gB trivial ?_;intro bb hbb;cases bb<;>(try simp only [hbs,if_false,reduceCtorEq] at hbb)) | apply qc_seq | fail)
        refine ⟨(bf t).length - (c+1),by omega,c+1,mkf f x,mkl f list x,lv7,rfl,by omega,hG7,ht7,hw7,hx7,hH7,by simp only [LE,lk,sv1,sv2,sv3,Nat.reduceEqDiff,Nat.reduceAdd,Nat.reduceLeDiff,reduceIte,if_false,if_true,mkVal,unLV,List.map,optTmps,e1,e3,e4,e5,e6,e7,and_self],?_⟩
        simp only [lk,sv1,sv2,sv3,Nat.reduceEqDiff,Nat.reduceAdd,Nat.reduceLeDiff,reduceIte,if_false,if_true,mkVal,unLV,List.map,optTmps,hwc,e14,e95,e96,and_self]
      · have hce:c=(bf t).length:=by omega
        have hw2:∀ (i' t:Nat),i'<i+1→list[i']? = some t→∀ x∈bf t,x∈list:=fun i' t' h1 h2 y hy=>by
          by_cases he:i'=i
          · subst he
            rw [ht] at h2
            cases h2
            exact hx y (by rw [hce,List.take_length];exact hy)
          · exact hw i' t' (by omega) h2 y hy
        repeat' (first | refine gA trivial ?_ | (refine gB trivial ?_;intro bb hbb;cases bb<;>(try simp only [hbs,if_false,reduceCtorEq] at hbb)) | apply qc_seq | fail)
        · refine ⟨q - (i+1),by omega,i+1,f,list,lv,rfl,by omega,hG,hw2,hH,by simp only [LE,lk,sv1,sv2,sv3,Nat.reduceEqDiff,Nat.reduceAdd,Nat.reduceLeDiff,reduceIte,if_false,if_true,mkVal,unLV,List.map,optTmps,e1,e3,e4,e5,e6,e7,and_self],?_⟩
          simp only [lk,sv1,sv2,sv3,Nat.reduceEqDiff,Nat.reduceAdd,Nat.reduceLeDiff,reduceIte,if_false,if_true,mkVal,unLV,List.map,optTmps,hwi,and_self]
        · exfalso;omega
    · -- all is marked
      have hie:i=list.length:=by omega
      have g1:=hH.mkd.g1
      have g0:=hH.mkd.g0
      have hfin:=(hnn ▸ hG:LG B B.next.length 0 0 f list bf).fin hok fun i' t h=>hw i' t (by have:=(List.getElem?_eq_some_iff.1 h).1;omega) h
      repeat' (first | refine gA @hlvl ?_ | (refine gB @hlvl ?_;intro bb hbb;cases bb<;>(try simp only [hbs,if_false,reduceCtorEq] at hbb)) | apply qc_seq | fail)
      · refine ⟨.inr trivial, .simm (bcells q f) q,s1.put 0 (.cells .app (bcells q f)),?_,by simp [LV.closed,bcells_closed],f,rfl,fun u _=>hfin u⟩
        simp only [lk,sv1,sv2,sv3,Nat.reduceEqDiff,Nat.reduceAdd,Nat.reduceLeDiff,reduceIte,if_false,if_true,mkVal,unLV,List.map,optTmps]
        exact frz_sref g0 (by simp) (bcells_closed _ _)
      · exfalso;omega
end Go.Proofs.YtmblpcidfjemhaaDoor
