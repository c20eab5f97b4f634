/- tree.collapse. -/
import Derived.Test.YtkbiecjdcjfhaaaTdiv
set_option linter.unusedSimpArgs false
set_option linter.unusedVariables false
namespace Go.Proofs.Ytkbiecjdcjfhaaa
open Go Go.Pv Go.Tre
open Classical
theorem under_le (l:List Gn) (j:Int) (h:∀ n∈l,n.kept.length≤3000):under l j≤l.length*3000:=by
  induction l with
  | nil=>simp [under]
  | cons n l ih=>
    have h1:=ih fun m hm=>h m (by simp [hm])
    have h2:=h n (by simp)
    have e:under (n::l) j=under [n] j+under l j:=by rw [← under_append];rfl
    rw [e,under_one,List.length_cons,Nat.add_mul]
    split<;>omega
theorem foldC_par (L l:List Gn):(foldS (colN L) l).map (·.par)=l.map (·.par):=by
  have h:∀ (l d:List Gn),(l.foldl (fun d n=>d++[colN L d n]) d).map (·.par)=d.map (·.par)++l.map (·.par):=by
    intro l
    induction l with
    | nil=>intro d;simp
    | cons x l ih=>intro d;rw [List.foldl_cons,ih];simp [colN]
  simpa [foldS] using h l []
theorem GS.flag {s s':St} {lo J n i:Nat} {R:List GR} {g':Gn} {r:GR} {rest:List LV} (h:GS s lo (.sref J 0 n 7) R) (hR:R.length=n) (hi:R[i]? = some r) (hk:g'.kept=r.1.kept) (hs:g'.set=r.1.set) (hg:s'.get J=some (.cells .mut (wcl grow (R.set i (g',r.2))++rest))) (hn:s'.n=s.n) (ho:∀ id,id≠J→s'.get id=s.get id):GS s' lo (.sref J 0 n 7) (R.set i (g',r.2)):=by
  have hil:=(List.getElem?_eq_some_iff.1 hi).1
  have hgd:R.getD i default=r:=by rw [List.getD_eq_getElem?_getD,hi];rfl
  obtain ⟨j,r0,h1,h2,h3⟩:=h.sg.pos (by omega)
  have hJ:J=j:=uses_sref.1 (h1 ▸ (uses_sref.2 rfl:uses (.sref J 0 n 7) J))
  subst hJ
  refine h.set hil (by rw [hs];exact h.sets _ (List.mem_of_getElem? hi)) ⟨by rw [wcl_length grow_len,List.length_set], .inr ⟨J,rest,by rw [hR],by omega,hg⟩⟩ (by omega) (fun r hr=>ho _ (mapS_cells (h.ms hr) h3)) (.inl ⟨by rw [hgd],by rw [hgd];exact hk⟩)
set_option maxHeartbeats 16000000 in
theorem collapse_ok {v:LV} {R0:List GR} {lo:Nat} {s0:St} (hG0:GS s0 lo v R0) (hp:ParsOk (R0.map (·.1))) (hlen:R0.length≤6000) (hlo:lo≤s0.n) (hnd:∀ n∈R0.map (·.1),n.kept.Nodup∧n.kept.length≤3000) :
    CallOk Try.prog GL (.fn (.func 64) [] []) [v] s0 (fun r s'=>∃ R,GS s' lo v R∧R.map (·.1)=collapse (R0.map (·.1))∧s0.n≤s'.n∧∀ id,id<lo→s'.get id=s0.get id):=by
  have hvl:=hG0.sg.len
  refine call_fn (first:=[]) (caps:=[]) Try.func64 (by decide +kernel) c64 (Nat.le_of_ble_eq_true rfl) (CodeOk.mono (Q:=fun o e s'=>(o = .normal∨o = .jmp .ret)∧∃ R,GS s' lo v R∧R.map (·.1)=collapse (R0.map (·.1))∧s0.n≤s'.n∧∀ id,id<lo→s'.get id=s0.get id) ?_ fun o e s' hh=>by
    obtain ⟨h1,h2⟩:=hh
    exact ⟨h1, .tup [],by simp [l64,resVal],h2⟩)
  have e0:(envOf ([]++[v]++[])).at 0=v:=by rw [envOf_at];rfl
  generalize envOf ([]++[v]++[])=e at *
  refine Cd.out ?_
  unfold l64
  dsimp only [jA,jB,jC,jD,jE,jG,jH,qM,qL,qN,qF,qS,qI,qA,qB,qC,qP,qm,ql]
  repeat' (first | refine gN @hvl ?_ | (refine gB @hvl ?_;intro bb hbb;cases bb<;>(try simp only [hbs,if_false,reduceCtorEq] at hbb)<;>(try first | (exfalso;omega) | exact hbb.elim)) | fail)
  refine u_mkV (n:=R0.length) (k:=s0.n) (z:=.int .i64 0) wN rfl ef ef (by omega) (by decide) ?_
  repeat' (first | refine gN @hvl ?_ | (refine gB @hvl ?_;intro bb hbb;cases bb<;>(try simp only [hbs,if_false,reduceCtorEq] at hbb)<;>(try first | (exfalso;omega) | exact hbb.elim)) | fail)
  have hl:(R0.map (·.1)).length=R0.length:=List.length_map ..
  generalize hlE:R0.map (·.1)=l at *
  refine qc_loop (fun m e s=>∃ k:Nat,m=R0.length - k∧k≤R0.length∧s0.n<s.n∧GS s lo v R0∧s.get s0.n=some (.cells .mut (vcells R0.length fun j=>.int .i64 (under (l.take k) (j:Int):Int)))∧(∀ id,id<lo→s.get id=s0.get id)∧e.at 0=v∧e.at 2 = .sref s0.n 0 R0.length 1∧e.at 10=v∧e.at 11 = .int .i64 (R0.length:Int)∧e.at 12 = .int .i64 (k:Int)) _
    ⟨0,rfl,by omega,by simp,hG0.mono (by simp) fun id hid=>by rw [St.get_new,if_neg (by omega)],by simp [under],fun id hid=>by rw [St.get_new,if_neg (by omega)],ef,ef,ef,ef,by simp only [lk,sv1,sv2,sv3,Nat.reduceEqDiff,Nat.reduceAdd,Nat.reduceLeDiff,reduceIte,if_false,if_true,mkVal,unLV,List.map,optTmps];rfl⟩ ?_
  clear e0
  clear e
  rintro m e s ⟨k,rfl,hk,hn1,hG,hT,ho,e0,e2,e10,e11,e12⟩
  by_cases hkl:k<R0.length
  · have hkI:(k:Int)<(R0.length:Int):=by omega
    have hwk:IntKind.i64.wrap ((k:Int)+1)=((k+1:Nat):Int):=by rw [wrap_i64 _ (by omega) (by omega)];rfl
    obtain ⟨J,rest,hvJ,hJ,hgJ⟩:=hG.sg.pos (by omega)
    subst hvJ
    have hri:R0[k]? = some (R0.getD k default):=by rw [List.getD_eq_getElem?_getD,List.getElem?_eq_getElem hkl];rfl
    have hgl:l.getD k default=(R0.getD k default).1:=by
      rw [← hlE,List.getD_eq_getElem?_getD,List.getElem?_map,hri];rfl
    have htk:=take_one l default (k:=k) (by omega)
    have hgp:=hp k (by omega)
    have hgn:=hnd _ (getD_mem (l:=l) (i:=k) (by omega))
    rw [hgl] at htk hgp hgn
    have hrm:R0.getD k default∈R0:=getD_mem hkl
    have hsv:=hG.sets _ hrm
    have hms:=hG.ms hrm
    generalize R0.getD k default=r at *
    obtain ⟨g,sv,M⟩:=r
    simp only at hgl hgp hgn hsv hms htk
    have hsvc:=hsv.sl.cell
    have hld:loadLV (some 7) (.pref J (k*7)) s=some (.agg [.int .i64 g.name, .int .i64 g.par,sv, .mref M, .bool g.old, .bool g.good, .bool g.gone]):=loadN_rw grow_len hri hgJ
    have hun:=fun j:Int=>under_le (l.take k) j fun n hn=>(hnd n (List.mem_of_mem_take hn)).2
    have hunl:(l.take k).length≤6000:=by rw [List.length_take];omega
    have hun1:∀ j:Int,under (l.take (k+1)) j=under (l.take k) j+if g.par=j then g.kept.length else 0:=fun j=>by rw [htk,under_append,under_one]
    have hG1:=hG.mono (s':=(s.new (.cells .mut [.int .i64 0, .int .i64 0, .nils, .nilm, .bool false, .bool false, .bool false])).put s.n (.cells .mut [.int .i64 g.name, .int .i64 g.par,sv, .mref M, .bool g.old, .bool g.good, .bool g.gone])) (by simp) fun id hid=>by rw [St.get_put,if_neg (by omega),St.get_new,if_neg (by omega)]
    have hT1:((s.new (.cells .mut [.int .i64 0, .int .i64 0, .nils, .nilm, .bool false, .bool false, .bool false])).put s.n (.cells .mut [.int .i64 g.name, .int .i64 g.par,sv, .mref M, .bool g.old, .bool g.good, .bool g.gone])).get s0.n=some (.cells .mut (vcells R0.length fun j=>.int .i64 (under (l.take k) (j:Int):Int))):=by rw [St.get_put,if_neg (by omega),St.get_new,if_neg (by omega)];exact hT
    have hb1:((s.new (.cells .mut [.int .i64 0, .int .i64 0, .nils, .nilm, .bool false, .bool false, .bool false])).put s.n (.cells .mut [.int .i64 g.name, .int .i64 g.par,sv, .mref M, .bool g.old, .bool g.good, .bool g.gone])).get s.n=some (.cells .mut [.int .i64 g.name, .int .i64 g.par,sv, .mref M, .bool g.old, .bool g.good, .bool g.gone]):=by rw [St.get_put,if_pos rfl]
    have ho1:∀ id,id<lo→((s.new (.cells .mut [.int .i64 0, .int .i64 0, .nils, .nilm, .bool false, .bool false, .bool false])).put s.n (.cells .mut [.int .i64 g.name, .int .i64 g.par,sv, .mref M, .bool g.old, .bool g.good, .bool g.gone])).get id=s0.get id:=fun id hid=>by rw [St.get_put,if_neg (by omega),St.get_new,if_neg (by omega)];exact ho id hid
    have hn2:((s.new (.cells .mut [.int .i64 0, .int .i64 0, .nils, .nilm, .bool false, .bool false, .bool false])).put s.n (.cells .mut [.int .i64 g.name, .int .i64 g.par,sv, .mref M, .bool g.old, .bool g.good, .bool g.gone])).n=s.n+1:=rfl
    have hGB:=Bx.mk (And.intro hG1 ho1)
    have hB2:=Bx.mk (And.intro hun hun1)
    clear hG hT ho hun hun1 htk hgl hms hgJ hG1 ho1
    by_cases hp0:0≤g.par
    · skip
      repeat' (first | refine gN (And.intro @iaS @hld) ?_ | (refine gB (And.intro @iaS @hld) ?_;intro bb hbb;cases bb<;>(try simp only [hbs,if_false,reduceCtorEq] at hbb)<;>(try first | (exfalso;omega) | exact hbb.elim)) | fail)
      generalize (s.new (.cells .mut [.int .i64 0, .int .i64 0, .nils, .nilm, .bool false, .bool false, .bool false])).put s.n (.cells .mut [.int .i64 g.name, .int .i64 g.par,sv, .mref M, .bool g.old, .bool g.good, .bool g.gone])=s1 at *
      obtain ⟨q,hq⟩:∃ q:Nat,g.par=(q:Int):=⟨g.par.toNat,by omega⟩
      have hqR:q<R0.length:=by omega
      have hqI:(q:Int)<(R0.length:Int):=by omega
      have hvq:(vcells R0.length fun j=>.int .i64 (under (l.take k) (j:Int):Int))[q]? = some (.int .i64 (under (l.take k) (q:Int):Int)):=vcells_get hqR
      rw [hq] at hb1
      rw [hq]
      repeat' (first | refine gN (And.intro @iaS (And.intro @hb1 (And.intro @hT1 @hvq))) ?_ | (refine gB (And.intro @iaS (And.intro @hb1 (And.intro @hT1 @hvq))) ?_;intro bb hbb;cases bb<;>(try simp only [hbs,if_false,reduceCtorEq] at hbb)<;>(try first | (exfalso;omega) | exact hbb.elim)) | fail)
      have hms1:=hGB.out.1.ms hrm
      refine q_setLen hms1 hgn.1 wN ef ?_
      simp only
      have hu1:=hB2.out.1 (q:Int)
      have hgn2:=hgn.2
      have hwu:IntKind.i64.wrap ((under (l.take k) (q:Int):Int)+(g.kept.length:Int))=((under (l.take k) (q:Int)+g.kept.length:Nat):Int):=by rw [wrap_i64 _ (by omega) (by omega)];rfl
      repeat' (first | refine gN (And.intro @iaS (And.intro @hb1 (And.intro @hT1 (And.intro @hvq @hwu)))) ?_ | (refine gB (And.intro @iaS (And.intro @hb1 (And.intro @hT1 (And.intro @hvq @hwu)))) ?_;intro bb hbb;cases bb<;>(try simp only [hbs,if_false,reduceCtorEq] at hbb)<;>(try first | (exfalso;omega) | exact hbb.elim)) | fail)
      refine q_storeV (q:=q) (f:=fun j=>.int .i64 (under (l.take k) (j:Int):Int)) (f':=fun j=>.int .i64 (under (l.take (k+1)) (j:Int):Int)) ef ef rfl hT1 hqR (fun j=>?_) (fun s3 hn3 hg3 ho3=>?_)
      · rw [hB2.out.2]
        by_cases e:j=q
        · subst e;simp only [hq,if_true];rw [hwu]
        · have:¬ g.par=(j:Int):=by omega
          simp only [if_neg this,if_neg e,Nat.add_zero]
      have hTJ:s0.n≠J:=fun e=>by
        have:=hGB.out.1.sg
        obtain ⟨j,r,h1,h2,h3⟩:=this.pos (by omega)
        have hJ:J=j:=uses_sref.1 (h1 ▸ (uses_sref.2 rfl:uses (.sref J 0 R0.length 7) J))
        subst hJ
        have h4:=hG0.sg.lt (uses_sref.2 rfl:uses (.sref J 0 R0.length 7) J)
        omega
      have hG3:=hGB.out.1.frame (s':=s3) (by omega) (fun id hu=>ho3 id fun e=>hTJ (e ▸ (uses_sref.1 hu))) fun r hr=>ho3 _ (mapS_cells (hGB.out.1.ms hr) hT1)
      have ho4:∀ id,id<lo→s3.get id=s0.get id:=fun id hid=>(ho3 id (by omega)).trans (hGB.out.2 id hid)
      have hfB:=Bx.mk (And.intro hG3 (And.intro hg3 ho4))
      clear hG3 hg3 ho3 ho4 hT1 hb1 hms1 hGB
      repeat' (first | refine gN @hwk ?_ | (refine gB @hwk ?_;intro bb hbb;cases bb<;>(try simp only [hbs,if_false,reduceCtorEq] at hbb)<;>(try first | (exfalso;omega) | exact hbb.elim)) | fail)
      refine ⟨R0.length - (k+1),by omega,k+1,rfl,by omega,by omega,hfB.out.1,hfB.out.2.1,hfB.out.2.2,?_⟩
      simp only [lk,sv1,sv2,sv3,Nat.reduceEqDiff,Nat.reduceAdd,Nat.reduceLeDiff,reduceIte,if_false,if_true,mkVal,unLV,List.map,optTmps,hwk,e0,e2,e10,e11,and_self]
    · repeat' (first | refine gN (And.intro @iaS (And.intro @hld @hwk)) ?_ | (refine gB (And.intro @iaS (And.intro @hld @hwk)) ?_;intro bb hbb;cases bb<;>(try simp only [hbs,if_false,reduceCtorEq] at hbb)<;>(try first | (exfalso;omega) | exact hbb.elim)) | fail)
      · generalize (s.new (.cells .mut [.int .i64 0, .int .i64 0, .nils, .nilm, .bool false, .bool false, .bool false])).put s.n (.cells .mut [.int .i64 g.name, .int .i64 g.par,sv, .mref M, .bool g.old, .bool g.good, .bool g.gone])=s1 at *
        refine ⟨R0.length - (k+1),by omega,k+1,rfl,by omega,by omega,hGB.out.1,?_,hGB.out.2,?_⟩
        · rw [hT1]
          congr 3
          funext j
          have:¬ g.par=(j:Int):=by omega
          rw [hB2.out.2,if_neg this,Nat.add_zero]
        · simp only [lk,sv1,sv2,sv3,Nat.reduceEqDiff,Nat.reduceAdd,Nat.reduceLeDiff,reduceIte,if_false,if_true,mkVal,unLV,List.map,optTmps,hwk,e0,e2,e10,e11,and_self]
      all_goals (exfalso;omega)
  · have hk':k=R0.length:=by omega
    subst hk'
    rw [← hl,List.take_length] at hT
    have hGB:=Bx.mk (And.intro hG (And.intro hT ho))
    clear hG hT ho
    repeat' (first | refine gN @hvl ?_ | (refine gB @hvl ?_;intro bb hbb;cases bb<;>(try simp only [hbs,if_false,reduceCtorEq] at hbb)<;>(try first | (exfalso;omega) | exact hbb.elim)) | fail)
    refine qc_loop (fun m e s=>∃ (i:Nat) (R:List GR),m=R0.length - i∧i≤R0.length∧s0.n<s.n∧GS s lo v R∧R.map (·.1)=foldS (colN l) (l.take i)++l.drop i∧s.get s0.n=some (.cells .mut (vcells R0.length fun j=>.int .i64 (under l (j:Int):Int)))∧(∀ id,id<lo→s.get id=s0.get id)∧e.at 0=v∧e.at 2 = .sref s0.n 0 R0.length 1∧e.at 32=v∧e.at 33 = .int .i64 (R0.length:Int)∧e.at 34 = .int .i64 (i:Int)) _
      ⟨0,R0,rfl,by omega,hn1,hGB.out.1,by rw [hlE];simp [foldS],by rw [hGB.out.2.1,hl],hGB.out.2.2,ef,ef,ef,ef,by simp only [lk,sv1,sv2,sv3,Nat.reduceEqDiff,Nat.reduceAdd,Nat.reduceLeDiff,reduceIte,if_false,if_true,mkVal,unLV,List.map,optTmps];rfl⟩ ?_
    clear e0 e2 e10 e11 e12 hGB hn1 hkl hbb
    clear e s
    rintro m e s ⟨i,R,rfl,hi,hn1,hG,hEq,hT,ho,e0,e2,e32,e33,e34⟩
    by_cases hil:i<R0.length
    · have hiI:(i:Int)<(R0.length:Int):=by omega
      have hwi:IntKind.i64.wrap ((i:Int)+1)=((i+1:Nat):Int):=by rw [wrap_i64 _ (by omega) (by omega)];rfl
      have hDl:(foldS (colN l) (l.take i)).length=i:=by rw [foldS_length,List.length_take];omega
      have hRl:R.length=R0.length:=by
        have:=congrArg List.length hEq
        rw [List.length_map,List.length_append,hDl,List.length_drop] at this
        omega
      have hiR:i<R.length:=by omega
      have hil':i<l.length:=by omega
      obtain ⟨J,rest,hvJ,hJ,hgJ⟩:=hG.sg.pos (by omega)
      rw [hRl] at hvJ
      subst hvJ
      have hri:R[i]? = some (R.getD i default):=by rw [List.getD_eq_getElem?_getD,List.getElem?_eq_getElem hiR];rfl
      have hli:l[i]? = some (l.getD i default):=by rw [List.getD_eq_getElem?_getD,List.getElem?_eq_getElem hil'];rfl
      have hr1:(R.getD i default).1=l.getD i default:=by
        have h1:=congrArg (fun L=>L[i]?) hEq
        simp only [List.getElem?_map] at h1
        rw [hri,List.getElem?_append_right (by omega),hDl,Nat.sub_self,List.getElem?_drop,Nat.add_zero,hli] at h1
        exact Option.some.inj h1
      have hgn:=hnd _ (getD_mem hil')
      have hgp:=hp i hil'
      have hrm:R.getD i default∈R:=getD_mem hiR
      have hD1:∀ q,q<i→(R.getD q default).1=(foldS (colN l) (l.take i)).getD q default:=fun q hq=>by
        have h1:=congrArg (fun L=>L[q]?) hEq
        simp only [List.getElem?_map] at h1
        rw [List.getElem?_eq_getElem (by omega),List.getElem?_append_left (by omega)] at h1
        rw [List.getD_eq_getElem?_getD,List.getD_eq_getElem?_getD,← h1,List.getElem?_eq_getElem (by omega)]
        rfl
      rw [← hr1] at hgn hgp hli
      have hvi:(vcells R0.length fun j=>.int .i64 (under l (j:Int):Int))[i]? = some (.int .i64 (under l (i:Int):Int)):=vcells_get hil
      have hTJ:s0.n≠J:=fun e=>by
        have h4:=hG0.sg.lt (uses_sref.2 rfl:uses (.sref J 0 R0.length 7) J)
        omega
      have hl1:=load_rw grow_len hri (k:=1) (v:=.int .i64 (R.getD i default).1.par) rfl hgJ
      clear hr1
      generalize R.getD i default=r at *
      obtain ⟨g,tl⟩:=r
      simp only at hgn hgp hli hl1
      generalize hDE:foldS (colN l) (l.take i)=D at *
      have hGB:=Bx.mk (And.intro hG (And.intro hT ho))
      clear hG hT ho
      repeat' (first | refine gN (And.intro @iaS @hl1) ?_ | (refine gB (And.intro @iaS @hl1) ?_;intro bb hbb;cases bb<;>(try simp only [hbs,if_false,reduceCtorEq] at hbb)<;>(try first | (exfalso;omega) | exact hbb.elim)) | fail)
      refine qc_mid (fun e' s'=>(s'.n=s.n∧s'.get J=some (.cells .mut (wcl grow (R.set i ({ g with gone:=colG D g },tl))++rest))∧∀ id,id≠J→s'.get id=s.get id)∧e'.at 0 = .sref J 0 R0.length 7∧e'.at 2 = .sref s0.n 0 R0.length 1∧e'.at 32 = .sref J 0 R0.length 7∧e'.at 33 = .int .i64 (R0.length:Int)∧e'.at 34 = .int .i64 (i:Int)∧e'.at 5 = .int .i64 (i:Int)∧e'.at 6 = .pref J (i*7)) ?_ ?_
      · by_cases hp0:0≤g.par
        · obtain ⟨q,hq⟩:∃ q:Nat,g.par=(q:Int):=⟨g.par.toNat,by omega⟩
          have hqI:(q:Int)<(R0.length:Int):=by omega
          have hrq:R[q]? = some (R.getD q default):=by rw [List.getD_eq_getElem?_getD,List.getElem?_eq_getElem (by omega)];rfl
          have hcol:colG D g=(g.gone || ((R.getD q default).1.good || (R.getD q default).1.gone)):=by
            unfold colG
            rw [hD1 q (by omega),hq,Int.toNat_natCast]
            simp
          have hlq5:=load_rw grow_len hrq (k:=5) (v:=.bool (R.getD q default).1.good) rfl hgJ
          have hlq6:=load_rw grow_len hrq (k:=6) (v:=.bool (R.getD q default).1.gone) rfl hgJ
          rw [hq] at hl1
          clear hD1
          generalize (R.getD q default).1.good=bg at *
          generalize (R.getD q default).1.gone=bn at *
          cases bg with
          | true=>
            repeat' (first | refine gN (And.intro @iaS (And.intro @hl1 (And.intro @hlq5 @hlq6))) ?_ | (refine gB (And.intro @iaS (And.intro @hl1 (And.intro @hlq5 @hlq6))) ?_;intro bb hbb;cases bb<;>(try simp only [hbs,if_false,reduceCtorEq] at hbb)<;>(try first | (exfalso;omega) | exact hbb.elim)) | fail)
            refine q_storeRw grow_len (i:=i) (k:=6) (c:=(g,tl)) (c':=({ g with gone:=colG D g },tl)) (rest:=rest) (v:=.bool true) ef rfl ef rfl hgJ hri (by decide) (by rw [hcol];simp [grow]) (fun s4 hn4 hg4 ho4=>?_)
            have hfB:=Bx.mk (And.intro hn4 (And.intro hg4 ho4))
            clear hn4 hg4 ho4 hgJ
            repeat' (first | refine gN trivial ?_ | (refine gB trivial ?_;intro bb hbb;cases bb<;>(try simp only [hbs,if_false,reduceCtorEq] at hbb)<;>(try first | (exfalso;omega) | exact hbb.elim)) | fail)
            exact ⟨hfB.out,ef,ef,ef,ef,ef,ef,ef⟩
          | false=>
            cases bn with
            | true=>
              repeat' (first | refine gN (And.intro @iaS (And.intro @hl1 (And.intro @hlq5 @hlq6))) ?_ | (refine gB (And.intro @iaS (And.intro @hl1 (And.intro @hlq5 @hlq6))) ?_;intro bb hbb;cases bb<;>(try simp only [hbs,if_false,reduceCtorEq] at hbb)<;>(try first | (exfalso;omega) | exact hbb.elim)) | fail)
              refine q_storeRw grow_len (i:=i) (k:=6) (c:=(g,tl)) (c':=({ g with gone:=colG D g },tl)) (rest:=rest) (v:=.bool true) ef rfl ef rfl hgJ hri (by decide) (by rw [hcol];simp [grow]) (fun s4 hn4 hg4 ho4=>?_)
              have hfB:=Bx.mk (And.intro hn4 (And.intro hg4 ho4))
              clear hn4 hg4 ho4 hgJ
              repeat' (first | refine gN trivial ?_ | (refine gB trivial ?_;intro bb hbb;cases bb<;>(try simp only [hbs,if_false,reduceCtorEq] at hbb)<;>(try first | (exfalso;omega) | exact hbb.elim)) | fail)
              exact ⟨hfB.out,ef,ef,ef,ef,ef,ef,ef⟩
            | false=>
              have hsame:R.set i ({ g with gone:=colG D g },tl)=R:=by
                rw [hcol,Bool.or_false,Bool.or_false]
                exact set_self hri
              have hfB:Bx (s.get J=some (.cells .mut (wcl grow (R.set i ({ g with gone:=colG D g },tl))++rest))):=⟨by rw [hsame];exact hgJ⟩
              clear hgJ
              repeat' (first | refine gN (And.intro @iaS (And.intro @hl1 (And.intro @hlq5 @hlq6))) ?_ | (refine gB (And.intro @iaS (And.intro @hl1 (And.intro @hlq5 @hlq6))) ?_;intro bb hbb;cases bb<;>(try simp only [hbs,if_false,reduceCtorEq] at hbb)<;>(try first | (exfalso;omega) | exact hbb.elim)) | fail)
              exact ⟨⟨trivial,hfB.out,fun _ _=>trivial⟩,ef,ef,ef,ef,ef,ef,ef⟩
        · have hsame:R.set i ({ g with gone:=colG D g },tl)=R:=by
            have:colG D g=g.gone:=by
              unfold colG
              rw [decide_eq_false hp0]
              simp
            rw [this]
            exact set_self hri
          have hfB:Bx (s.get J=some (.cells .mut (wcl grow (R.set i ({ g with gone:=colG D g },tl))++rest))):=⟨by rw [hsame];exact hgJ⟩
          clear hgJ hD1
          repeat' (first | refine gN (And.intro @iaS @hl1) ?_ | (refine gB (And.intro @iaS @hl1) ?_;intro bb hbb;cases bb<;>(try simp only [hbs,if_false,reduceCtorEq] at hbb)<;>(try first | (exfalso;omega) | exact hbb.elim)) | fail)
          exact ⟨⟨trivial,hfB.out,fun _ _=>trivial⟩,ef,ef,ef,ef,ef,ef,ef⟩
      · clear e0 e2 e32 e33 e34 hl1
        clear e
        rintro e s1 ⟨⟨hn4,hgJ4,ho4⟩,e0,e2,e32,e33,e34,e5,e6⟩
        have hG4:=hGB.out.1.flag hRl hri (g':={ g with gone:=colG D g }) rfl rfl hgJ4 hn4 ho4
        have hT4:=(ho4 _ hTJ).trans hGB.out.2.1
        have hri4:(R.set i ({ g with gone:=colG D g },tl))[i]? = some ({ g with gone:=colG D g },tl):=by rw [List.getElem?_set_self hiR]
        have hl3:=load_rw grow_len hri4 (k:=3) (v:=.mref tl.2) rfl hgJ4
        have hl6:=load_rw grow_len hri4 (k:=6) (v:=.bool (colG D g)) rfl hgJ4
        have hms:=hG4.ms (r:=({ g with gone:=colG D g },tl)) (List.mem_of_getElem? hri4)
        have hfin:∀ s',s'.n=s1.n→s'.get J=some (.cells .mut (wcl grow ((R.set i ({ g with gone:=colG D g },tl)).set i (colN l D g,tl))++rest))→(∀ id,id≠J→s'.get id=s1.get id)→GS s' lo (.sref J 0 R0.length 7) (R.set i (colN l D g,tl))∧(R.set i (colN l D g,tl)).map (·.1)=foldS (colN l) (l.take (i+1))++l.drop (i+1)∧s'.get s0.n=some (.cells .mut (vcells R0.length fun j=>.int .i64 (under l (j:Int):Int)))∧∀ id,id<lo→s'.get id=s0.get id:=fun s' h1 h2 h3=>by
          have hG5:=hG4.flag (by rw [List.length_set];exact hRl) hri4 (g':=colN l D g) rfl rfl h2 h1 h3
          rw [List.set_set] at hG5
          refine ⟨hG5,?_,(h3 _ hTJ).trans hT4,fun id hid=>?_⟩
          · subst hDE
            rw [List.map_set,hEq,drop_set _ _ i _ g hDl hli,List.take_add_one,hli,Option.toList_some,foldS_snoc]
          · have hJl:=hG5.low.1 J (uses_sref.2 rfl)
            rw [h3 id (by omega),ho4 id (by omega)]
            exact hGB.out.2.2 id hid
        have hcN:colN l D g = { g with gone:=colG D g,good:=!colG D g && decide (under l (i:Int)=g.kept.length) } := by unfold colN;rw [hDl]
        have hfB:=Bx.mk (And.intro hfin hcN)
        clear hfin hcN hGB hG4 ho4 hgJ
        cases hgb:colG D g with
        | true=>
          rw [hgb] at hl6
          have hcB:=Bx.mk hgb
          clear hgb
          repeat' (first | refine gN @hl6 ?_ | (refine gB @hl6 ?_;intro bb hbb;cases bb<;>(try simp only [hbs,if_false,reduceCtorEq] at hbb)<;>(try first | (exfalso;omega) | exact hbb.elim)) | fail)
          refine q_storeRw grow_len (i:=i) (k:=5) (c:=({ g with gone:=colG D g },tl)) (c':=(colN l D g,tl)) (rest:=rest) (v:=.bool false) ef rfl ef rfl hgJ4 hri4 (by decide) (by rw [hfB.out.2,hcB.out];simp [grow]) (fun s5 hn5 hg5 ho5=>?_)
          have hzB:=Bx.mk (hfB.out.1 s5 hn5 hg5 ho5)
          clear hg5 ho5 hfB hgJ4 hl3 hl6 hT4 hms
          repeat' (first | refine gN @hwi ?_ | (refine gB @hwi ?_;intro bb hbb;cases bb<;>(try simp only [hbs,if_false,reduceCtorEq] at hbb)<;>(try first | (exfalso;omega) | exact hbb.elim)) | fail)
          refine ⟨R0.length - (i+1),by omega,i+1,_,rfl,by omega,by omega,hzB.out.1,hzB.out.2.1,hzB.out.2.2.1,hzB.out.2.2.2,?_⟩
          simp only [lk,sv1,sv2,sv3,Nat.reduceEqDiff,Nat.reduceAdd,Nat.reduceLeDiff,reduceIte,if_false,if_true,mkVal,unLV,List.map,optTmps,hwi,e0,e2,e32,e33,and_self]
        | false=>
          rw [hgb] at hl6
          have hcB:=Bx.mk hgb
          clear hgb
          repeat' (first | refine gN (And.intro @iaS (And.intro @hl3 (And.intro @hl6 (And.intro @hT4 @hvi)))) ?_ | (refine gB (And.intro @iaS (And.intro @hl3 (And.intro @hl6 (And.intro @hT4 @hvi)))) ?_;intro bb hbb;cases bb<;>(try simp only [hbs,if_false,reduceCtorEq] at hbb)<;>(try first | (exfalso;omega) | exact hbb.elim)) | fail)
          refine q_setLen hms hgn.1 (wG ef) ef ?_
          simp only
          repeat' (first | refine gN trivial ?_ | (refine gB trivial ?_;intro bb hbb;cases bb<;>(try simp only [hbs,if_false,reduceCtorEq] at hbb)<;>(try first | (exfalso;omega) | exact hbb.elim)) | fail)
          · refine q_storeRw grow_len (i:=i) (k:=5) (c:=({ g with gone:=colG D g },tl)) (c':=(colN l D g,tl)) (rest:=rest) (v:=.bool false) ef rfl ef rfl hgJ4 hri4 (by decide) (by rw [hfB.out.2,hcB.out,decide_eq_false (by omega)];simp [grow]) (fun s5 hn5 hg5 ho5=>?_)
            have hzB:=Bx.mk (hfB.out.1 s5 hn5 hg5 ho5)
            clear hg5 ho5 hfB hgJ4 hl3 hl6 hT4 hms
            repeat' (first | refine gN @hwi ?_ | (refine gB @hwi ?_;intro bb hbb;cases bb<;>(try simp only [hbs,if_false,reduceCtorEq] at hbb)<;>(try first | (exfalso;omega) | exact hbb.elim)) | fail)
            refine ⟨R0.length - (i+1),by omega,i+1,_,rfl,by omega,by omega,hzB.out.1,hzB.out.2.1,hzB.out.2.2.1,hzB.out.2.2.2,?_⟩
            simp only [lk,sv1,sv2,sv3,Nat.reduceEqDiff,Nat.reduceAdd,Nat.reduceLeDiff,reduceIte,if_false,if_true,mkVal,unLV,List.map,optTmps,hwi,e0,e2,e32,e33,and_self]
          · refine q_storeRw grow_len (i:=i) (k:=5) (c:=({ g with gone:=colG D g },tl)) (c':=(colN l D g,tl)) (rest:=rest) (v:=.bool true) ef rfl ef rfl hgJ4 hri4 (by decide) (by rw [hfB.out.2,hcB.out,decide_eq_true (by omega)];simp [grow]) (fun s5 hn5 hg5 ho5=>?_)
            have hzB:=Bx.mk (hfB.out.1 s5 hn5 hg5 ho5)
            clear hg5 ho5 hfB hgJ4 hl3 hl6 hT4 hms
            repeat' (first | refine gN @hwi ?_ | (refine gB @hwi ?_;intro bb hbb;cases bb<;>(try simp only [hbs,if_false,reduceCtorEq] at hbb)<;>(try first | (exfalso;omega) | exact hbb.elim)) | fail)
            refine ⟨R0.length - (i+1),by omega,i+1,_,rfl,by omega,by omega,hzB.out.1,hzB.out.2.1,hzB.out.2.2.1,hzB.out.2.2.2,?_⟩
            simp only [lk,sv1,sv2,sv3,Nat.reduceEqDiff,Nat.reduceAdd,Nat.reduceLeDiff,reduceIte,if_false,if_true,mkVal,unLV,List.map,optTmps,hwi,e0,e2,e32,e33,and_self]
    · have hi':i=R0.length:=by omega
      subst hi'
      rw [← hl,List.take_length,List.drop_length,List.append_nil] at hEq
      have hGB:=Bx.mk (And.intro hG ho)
      clear hG ho hT
      repeat' (first | refine gN trivial ?_ | (refine gB trivial ?_;intro bb hbb;cases bb<;>(try simp only [hbs,if_false,reduceCtorEq] at hbb)<;>(try first | (exfalso;omega) | exact hbb.elim)) | fail)
      exact ⟨.inl trivial,R,hGB.out.1,hEq,by omega,hGB.out.2⟩
end Go.Proofs.Ytkbiecjdcjfhaaa
