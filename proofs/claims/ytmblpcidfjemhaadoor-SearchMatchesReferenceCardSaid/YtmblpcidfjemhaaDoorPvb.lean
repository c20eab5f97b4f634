/- The automaton of both is in order: plain. -/
import Derived.Test.YtmblpcidfjemhaaDoorRboth
import Derived.Test.YtmblpcidfjemhaaDoorTlaw
set_option linter.unusedSimpArgs false
set_option linter.unusedVariables false
section
set_option linter.unusedSimpArgs false
set_option linter.unusedVariables false
namespace Go.Proofs.YtmblpcidfjemhaaDoor
open Go Go.Pv Go.Aut Go.Tarjan
open Classical
theorem pc_nat {m x y t:Nat} (hy:y<m) (ht:t<2):pcode m x y t / 2 / m=x∧pcode m x y t / 2 % m=y∧pcode m x y t % 2=t:=by
  obtain ⟨h1,h2,h3⟩:=pcode_parts (x:=x) hy ht
  unfold px at h1
  unfold py at h2
  unfold pt at h3
  omega
theorem start_lt {B:Bu} (ok:Vb B):B.start.Pairwise (fun a b=>a<b∧0≤a∧0≤b):=by
  rw [List.pairwise_iff_getElem]
  intro i j hi hj hij
  have h1:=sok_lt ok.2.2.2.1 i j hij hj
  have p1:=(ok.2.2.2.1 i hi).1
  have p2:=(ok.2.2.2.1 j hj).1
  have ei:B.start.getD i 0=B.start[i]:=by simp [List.getD_eq_getElem?_getD,hi]
  have ej:B.start.getD j 0=B.start[j]:=by simp [List.getD_eq_getElem?_getD,hj]
  rw [ei] at p1 h1
  rw [ej] at p2 h1
  exact ⟨h1,p1,p2⟩
theorem stP_nd {A B:Bu} (okA:Vb A) (okB:Vb B):(stP A B).Nodup:=by
  rw [List.nodup_iff_pairwise_ne,stP,List.pairwise_flatMap]
  have hrB:∀ y∈B.start,y.toNat<B.next.length:=fun y hy=>(start_nat okB hy).2
  constructor
  · intro x hx
    rw [List.pairwise_map]
    refine (start_lt okB).imp_of_mem fun {a b} ha hb h he=>?_
    have e1:=pc_nat (m:=B.next.length) (x:=x.toNat) (t:=0) (hrB a ha) (by decide)
    have e2:=pc_nat (m:=B.next.length) (x:=x.toNat) (t:=0) (hrB b hb) (by decide)
    rw [he] at e1
    have:=e1.2.1.symm.trans e2.2.1
    omega
  · refine (start_lt okA).imp fun {a b} h p hp q hq he=>?_
    obtain ⟨y,hy,rfl⟩:=List.mem_map.1 hp
    obtain ⟨z,hz,rfl⟩:=List.mem_map.1 hq
    have e1:=pc_nat (m:=B.next.length) (x:=a.toNat) (t:=0) (hrB y hy) (by decide)
    have e2:=pc_nat (m:=B.next.length) (x:=b.toNat) (t:=0) (hrB z hz) (by decide)
    rw [he] at e1
    have:=e1.1.symm.trans e2.1
    omega
theorem gr_num {g:Grf} (hnd:g.st.Nodup) {k p:Nat} (hk:g.st[k]? = some p):numN g.R p=k:=by
  have hpre:=s0_pre g g.st.length
  rw [List.take_length] at hpre
  have h1:∀ (l ps:List Nat),(ps++l).Nodup→addsN ps l=ps++l:=by
    intro l
    induction l with
    | nil=>intro ps _;simp [addsN]
    | cons p l ih=>
      intro ps h
      have hp:p ∉ ps:=fun hp=>by
        rw [List.nodup_append] at h
        exact h.2.2 p hp p (by simp) rfl
      have h1:addN ps p=ps++[p]:=by unfold addN;rw [if_neg hp]
      show addsN (addN ps p) l=_
      rw [h1,ih _ (by simpa using h)]
      simp
  rw [h1 g.st [] (by simpa using hnd),List.nil_append] at hpre
  have hm:=List.mem_of_getElem? hk
  rw [numN_pre hpre hm]
  have h2:=numN_get hm
  obtain ⟨a1,a2⟩:=List.getElem?_eq_some_iff.1 hk
  obtain ⟨b1,b2⟩:=List.getElem?_eq_some_iff.1 h2
  exact nd_inj hnd b1 a1 (b2.trans a2.symm)
theorem vb_auto {g:Grf} {C:Bu} {most:Int} (hok:GrfOk g most) (hnd:g.st.Nodup) (hT:AutoR g C):Vb C:=by
  obtain ⟨_,hlt,hcl⟩:=gr_ok hok
  have hlen:=gr_len hok (Pre.refl g.R)
  have hN:=hok.N3
  have hm3:=hok.m3
  refine ⟨by rw [hT.L];exact hok.L1,by rw [hT.L];exact hok.L2,by rw [hT.len];omega,fun k hk=>?_,fun i hi=>?_⟩
  · rw [hT.st,List.length_map] at hk
    have e:∀ k,k<g.st.length→C.start.getD k 0=(k:Int)∧k<g.R.length:=fun k hk=>by
      have hg:g.st[k]? = some g.st[k]:=List.getElem?_eq_getElem hk
      have hn:=gr_num hnd hg
      have h1:=numN_lt (st_in _ (List.getElem_mem hk))
      rw [hn] at h1
      refine ⟨?_,h1⟩
      rw [hT.st]
      simp [List.getD_eq_getElem?_getD,hk,hn]
    rw [(e k hk).1,hT.len]
    have:=(e k hk).2
    refine ⟨by omega,by omega,fun h0=>?_⟩
    rw [(e (k - 1) (by omega)).1]
    omega
  · rw [hT.len] at hi ⊢
    obtain ⟨p,hp⟩:∃ p,g.R[i]? = some p:=⟨_,List.getElem?_eq_getElem hi⟩
    have hpm:=List.mem_of_getElem? hp
    have hgd:g.R.getD i 0=p:=by rw [List.getD_eq_getElem?_getD,hp];rfl
    obtain ⟨h1,h2⟩:=hT.row i hi
    rw [hT.L]
    refine ⟨h1,fun a ha=>?_⟩
    have haL:(a:Int)<g.L:=by omega
    obtain ⟨h3,h4⟩:=h2 a haL
    rw [hgd] at h3
    intro k hk
    have hgk:((C.next.getD i []).getD a []).getD k (0,false)=((C.next.getD i []).getD a [])[k]:=getD_lt' hk
    obtain ⟨x,hx,hxe⟩:=List.mem_map.1 ((h3 _).1 (List.getElem_mem hk))
    have hxR:x.1∈g.R:=hcl p hpm _ (List.mem_flatMap.2 ⟨a,List.mem_range.2 (by omega),List.mem_map.2 ⟨x,hx,rfl⟩⟩)
    have hnl:=numN_lt hxR
    refine ⟨?_,?_,fun h0=>h4 (k - 1) k (by omega) hk⟩
    · rw [hgk,← hxe];show (0:Int)≤((numN _ _:Nat):Int);omega
    · rw [hgk,← hxe];show ((numN _ _:Nat):Int)<_;omega
end Go.Proofs.YtmblpcidfjemhaaDoor
end
section
set_option linter.unusedSimpArgs false
set_option linter.unusedVariables false
namespace Go.Proofs.YtmblpcidfjemhaaDoor
open Go Go.Pv Go.Aut Go.Tarjan
open Classical
def DifC (A B:Bu) (most:Int) (S L:List Nat) (ok:Bool) (c:Int):Prop:=
  (¬ (Vb A∧Vb B∧A.L=B.L∧1≤most∧most≤3000)∧S=[]∧L=[]∧ok=false∧c=1) ∨
  ((Vb A∧Vb B∧A.L=B.L∧1≤most∧most≤3000)∧most<((grB A B).R.length:Int)∧S=[]∧L=[]∧ok=false∧c=2) ∨
  ((Vb A∧Vb B∧A.L=B.L∧1≤most∧most≤3000)∧((grB A B).R.length:Int)≤most∧c=0∧∃ C,AutoR (grB A B) C∧Vb C∧FindF C (stN C) S L ok)
theorem DifC.uniq {A B:Bu} {most:Int} {S L S' L':List Nat} {ok ok':Bool} {c c':Int} (h:DifC A B most S L ok c) (k:DifC A B most S' L' ok' c'):ok=ok'∧S=S'∧L=L'∧c=c':=by
  rcases h with ⟨h1,rfl,rfl,rfl,rfl⟩ | ⟨h1,h2,rfl,rfl,rfl,rfl⟩ | ⟨h1,h2,rfl,C,h3,h4,h5⟩<;>rcases k with ⟨k1,rfl,rfl,rfl,rfl⟩ | ⟨k1,k2,rfl,rfl,rfl,rfl⟩ | ⟨k1,k2,rfl,C',k3,k4,k5⟩
  · exact ⟨rfl,rfl,rfl,rfl⟩
  · exact absurd k1 h1
  · exact absurd k1 h1
  · exact absurd h1 k1
  · exact ⟨rfl,rfl,rfl,rfl⟩
  · omega
  · exact absurd h1 k1
  · omega
  · obtain rfl:=auto_unique2 h3 k3
    obtain ⟨a,b,c⟩:=h5.uniq h4 (stN_lt h4) k5
    exact ⟨a,b,c,rfl⟩
def DifA (A B:Bu) (most:Int) (r:LV):Prop:=∃ st lo S L ok c,r = .tup [.agg [st,lo], .bool ok, .int .i64 c]∧IsInts st (zints S)∧IsInts lo (zints L)∧DifC A B most S L ok c
set_option maxHeartbeats 16000000 in
theorem pdifa_ok {vA vB:LV} {A B:Bu} {sa na sb nb:LV} (hA:IsB vA A sa na) (hB:IsB vB B sb nb) (hsz:A.next.length*B.next.length*2≤3000) {most:Int} :
    PE 8 [vA,vB, .int .i64 most] (DifA A B most):=by
  have hcA:=hA.closed
  have hcB:=hB.closed
  have hbo:=pboth_all hA hB hsz (most:=most)
  have hfin:=fun {v:LV} {C:Bu} {sv nv:LV} (h:IsB v C sv nv)=>sfind_ok h
  have hvb:=fun {C:Bu} (okA:Vb A) (okB:Vb B) (hL:A.L=B.L) (hT:AutoR (grB A B) C)=>vb_auto (most:=3000) (grB_ok (most:=3000) okA okB hL (by omega) (by omega)) (stP_nd okA okB) hT
  obtain ⟨rfl,htA,vsA,hnA⟩:=hA
  obtain ⟨rfl,htB,vsB,hnB⟩:=hB
  have hc1:=htA.sl.cell
  have hc2:=hnA.sl.cell
  have hc3:=htB.sl.cell
  have hc4:=hnB.sl.cell
  have hnil:IsInts .nils (zints []):=zints_is (by simp) (by simp) _ .nil
  refine q_fnExR Tryd.func8 (by decide +kernel) c8 (Nat.le_of_ble_eq_true rfl) (by
    have a1:sa.closed=true∧na.closed=true:=by simpa [LV.closed,LV.closed.closedAll] using hcA
    have a2:sb.closed=true∧nb.closed=true:=by simpa [LV.closed,LV.closed.closedAll] using hcB
    simp [LV.closed.closedAll,LV.closed,a1,a2]) ?_
  have e0:(envOf [LV.agg [.int .i64 A.L,sa,na],LV.agg [.int .i64 B.L,sb,nb], .int .i64 most]).at 0 = .agg [.int .i64 A.L,sa,na]:=by rw [envOf_at];rfl
  have e1:(envOf [LV.agg [.int .i64 A.L,sa,na],LV.agg [.int .i64 B.L,sb,nb], .int .i64 most]).at 1 = .agg [.int .i64 B.L,sb,nb]:=by rw [envOf_at];rfl
  have e2:(envOf [LV.agg [.int .i64 A.L,sa,na],LV.agg [.int .i64 B.L,sb,nb], .int .i64 most]).at 2 = .int .i64 most:=by rw [envOf_at];rfl
  generalize envOf [LV.agg [.int .i64 A.L,sa,na],LV.agg [.int .i64 B.L,sb,nb], .int .i64 most]=e at *
  unfold l8
  dsimp only [jA,jG,qN,qC,qK,qO,qG,qm]
  repeat' (first | refine gA trivial ?_ | (refine gB trivial ?_;intro bb hbb;cases bb<;>(try simp only [hbs,if_false,reduceCtorEq] at hbb)) | apply qc_seq | fail)
  refine q_pureEx hG0 hbo wN (by simp only [List.map,lk,sv1,sv2,sv3,Nat.reduceEqDiff,Nat.reduceAdd,Nat.reduceLeDiff,reduceIte,if_false,if_true,mkVal,unLV,List.map,optTmps]) (fun r hr hrc=>⟨trivial,?_⟩)
  rcases hr with ⟨h1,rfl⟩ | ⟨h1,h2,rfl⟩ | ⟨h1,h2,v,C,sv,nv,rfl,hC,hT⟩
  · simp only [Env.put_some]
    have h1':Bx (¬ (Vb A∧Vb B∧A.L=B.L∧1≤most∧most≤3000)):=⟨h1⟩
    clear hbo hfin hvb hrc h1
    repeat' (first | refine gA trivial ?_ | (refine gB trivial ?_;intro bb hbb;cases bb<;>(try simp only [hbs,if_false,reduceCtorEq] at hbb)) | apply qc_seq | fail)
    · exfalso;exact absurd hbb (by decide)
    refine q_run0 (v:=.agg [.nils, .nils]) (by simp only [LOp.run,lk,sv1,sv2,sv3,Nat.reduceEqDiff,Nat.reduceAdd,Nat.reduceLeDiff,reduceIte,if_false,if_true,mkVal,unLV,List.map,optTmps,evParts,fillParts];(try rfl)) ?_
    repeat' (first | refine gA trivial ?_ | (refine gB trivial ?_;intro bb hbb;cases bb<;>(try simp only [hbs,if_false,reduceCtorEq] at hbb)) | apply qc_seq | fail)
    exact ⟨.inr trivial, .tup [.agg [.nils, .nils], .bool false, .int .i64 1],by simp [resVal,resOne,mkVal,lk,St.get_put,n_empty],_,_,frzD_closed rfl,rfl, .nils, .nils,[],[],false,1,rfl,hnil,hnil, .inl ⟨h1'.out,rfl,rfl,rfl,rfl⟩⟩
  · simp only [Env.put_some]
    have h1':Bx (Vb A∧Vb B∧A.L=B.L∧1≤most∧most≤3000):=⟨h1⟩
    have h2':Bx (most<((grB A B).R.length:Int)):=⟨h2⟩
    clear hbo hfin hvb hrc h1 h2
    repeat' (first | refine gA trivial ?_ | (refine gB trivial ?_;intro bb hbb;cases bb<;>(try simp only [hbs,if_false,reduceCtorEq] at hbb)) | apply qc_seq | fail)
    · exfalso;exact absurd hbb (by decide)
    refine q_run0 (v:=.agg [.nils, .nils]) (by simp only [LOp.run,lk,sv1,sv2,sv3,Nat.reduceEqDiff,Nat.reduceAdd,Nat.reduceLeDiff,reduceIte,if_false,if_true,mkVal,unLV,List.map,optTmps,evParts,fillParts];(try rfl)) ?_
    repeat' (first | refine gA trivial ?_ | (refine gB trivial ?_;intro bb hbb;cases bb<;>(try simp only [hbs,if_false,reduceCtorEq] at hbb)) | apply qc_seq | fail)
    exact ⟨.inr trivial, .tup [.agg [.nils, .nils], .bool false, .int .i64 2],by simp [resVal,resOne,mkVal,lk,St.get_put,n_empty],_,_,frzD_closed rfl,rfl, .nils, .nils,[],[],false,2,rfl,hnil,hnil, .inr (.inl ⟨h1'.out,h2'.out,rfl,rfl,rfl,rfl⟩)⟩
  have hf:=hfin hC
  have hok:=hvb h1.1 h1.2.1 h1.2.2.1 hT
  obtain ⟨rfl,htC,vsC,hnC⟩:=hC
  have hc5:=htC.sl.cell
  have hc6:=hnC.sl.cell
  have h1':Bx (Vb A∧Vb B∧A.L=B.L∧1≤most∧most≤3000):=⟨h1⟩
  simp only [Env.put_some]
  clear hbo hfin hvb hrc h1
  repeat' (first | refine gA trivial ?_ | (refine gB trivial ?_;intro bb hbb;cases bb<;>(try simp only [hbs,if_false,reduceCtorEq] at hbb)) | apply qc_seq | fail)
  rotate_left
  · exfalso;first | exact hbb rfl | omega
  refine q_pureEx hG0 hf wN (by simp only [List.map,lk,sv1,sv2,sv3,Nat.reduceEqDiff,Nat.reduceAdd,Nat.reduceLeDiff,reduceIte,if_false,if_true,mkVal,unLV,List.map,optTmps]) (fun r hr hrc=>⟨trivial,?_⟩)
  obtain ⟨st,lo,S,L,ok,rfl,hS,hLo,hR⟩:=hr
  have hR':FindR C S L ok:=by
    rcases hR with ⟨h,_⟩ | ⟨_,h⟩
    · exact absurd hok h
    · exact h
  have hcs:=hS.sl.cell
  have hcl:=hLo.sl.cell
  have hst:=hS.closed
  have hlo:=hLo.closed
  simp only [Env.put_some]
  clear hf hR hrc
  repeat' (first | refine gA trivial ?_ | (refine gB trivial ?_;intro bb hbb;cases bb<;>(try simp only [hbs,if_false,reduceCtorEq] at hbb)) | apply qc_seq | fail)
  refine ⟨.inr trivial, .tup [.agg [st,lo], .bool ok, .int .i64 0],by simp [resVal,resOne,mkVal,lk,St.get_put,n_empty], .tup [.agg [st,lo], .bool ok, .int .i64 0],_,frz_closed (by simp [LV.closed,LV.closed.closedAll,hst,hlo]),by simp [LV.closed,LV.closed.closedAll,hst,hlo],st,lo,S,L,ok,0,rfl,hS,hLo, .inr (.inr ⟨h1'.out,h2,rfl,C,hT,hok,findF_of hR'⟩)⟩
end Go.Proofs.YtmblpcidfjemhaaDoor
end
