/- The law's own 'from': an automaton with one other start. -/
import Derived.Test.YtpjdddpjcfdlfaaGreatDoorLita
import Derived.Test.YtpjdddpjcfdlfaaGreatDoorSufl
set_option linter.unusedSimpArgs false
set_option linter.unusedVariables false
namespace Go.Proofs.YtpjdddpjcfdlfaaGreatDoor
open Go Go.Pv
open Classical
theorem one_ints {p:Int} (h:inI64 p):IsInts (.simm [.int .i64 p] 1) [p]:=⟨.simm _ _,by simp [maxLen],fun x hx=>by rw [List.mem_singleton.1 hx];exact h⟩
theorem frz_one {S:St} {p L:Int} {nv:LV} (hg:S.get 2=some (.cells .mut [.int .i64 p])) (hn:nv.closed=true):∃ S',frz frzDepth (.agg [.int .i64 L, .sref 2 0 1 1,nv]) S=some (.agg [.int .i64 L, .simm [.int .i64 p] 1,nv],S'):=by
  have h1:frz 39 (.int .i64 L) S=some (.int .i64 L,S):=frz_closed rfl
  obtain ⟨S',h2⟩:∃ S',frz 39 (.sref 2 0 1 1) S=some (.simm [.int .i64 p] 1,S'):=by
    refine ⟨S.put 2 (.cells .app [.int .i64 p]),?_⟩
    have h3:frz 38 (.int .i64 p) S=some (.int .i64 p,S):=frz_closed rfl
    show frz (38+1) _ S=_
    unfold frz
    simp [LV.closed,hg,frz.frzAll,h3]
  have h4:frz 39 nv S'=some (nv,S'):=frz_closed hn
  refine ⟨S',?_⟩
  show frz (39+1) _ S=_
  unfold frz
  simp [LV.closed,LV.closed.closedAll,frz.frzAll,h1,h2,h4]
set_option maxHeartbeats 4000000 in
theorem from_ok {v:LV} {B:Bu} {sv nv:LV} (hB:IsB v B sv nv) {p:Int} (hp:inI64 p):PE 10 [v, .int .i64 p] (fun r=>∃ sv',IsB r (frm B p) sv' nv):=by
  have hcl:=hB.closed
  obtain ⟨rfl,hs,hn⟩:=hB
  obtain ⟨vs,hn'⟩:=hn
  have hc1:=hs.sl.cell
  have hc2:=hn'.sl.cell
  have hcn:nv.closed=true:=by
    have:sv.closed=true∧nv.closed=true:=by simpa [LV.closed,LV.closed.closedAll] using hcl
    exact this.2
  refine q_fnExR Tryz.func10 (by decide +kernel) c10 (Nat.le_of_ble_eq_true rfl) (by simp [LV.closed.closedAll,hcl];rfl) ?_
  have e0:(envOf [LV.agg [.int .i64 B.L,sv,nv], .int .i64 p]).at 0 = .agg [.int .i64 B.L,sv,nv]:=by rw [envOf_at];rfl
  have e1:(envOf [LV.agg [.int .i64 B.L,sv,nv], .int .i64 p]).at 1 = .int .i64 p:=by rw [envOf_at];rfl
  generalize envOf [LV.agg [.int .i64 B.L,sv,nv], .int .i64 p]=e at *
  unfold l10
  dsimp only [jA,jG,qN,qF,qm]
  repeat' (first | refine gA trivial ?_ | (refine gB trivial ?_;intro bb hbb;cases bb<;>(try simp only [hbs,if_false,reduceCtorEq] at hbb)) | apply qc_seq | fail)
  refine q_bslice1 wN (v:=.int .i64 p) ef rfl ?_
  repeat' (first | refine gA trivial ?_ | (refine gB trivial ?_;intro bb hbb;cases bb<;>(try simp only [hbs,if_false,reduceCtorEq] at hbb)) | apply qc_seq | fail)
  refine ⟨.inr trivial, .agg [.int .i64 B.L, .sref 2 0 1 1,nv],by simp [resVal,resOne,mkVal,lk,St.get_put,n_empty],?_⟩
  generalize hS:St.put _ 1 _=S'
  have hg:S'.get 2=some (.cells .mut [.int .i64 p]):=by rw [← hS];simp [St.get_put,St.get_new,n_empty]
  obtain ⟨S2,hf⟩:=frz_one (L:=B.L) hg hcn
  exact ⟨_,S2,hf,by simp [LV.closed,LV.closed.closedAll,hcn], .simm [.int .i64 p] 1,rfl,one_ints hp,vs,hn'⟩
end Go.Proofs.YtpjdddpjcfdlfaaGreatDoor
