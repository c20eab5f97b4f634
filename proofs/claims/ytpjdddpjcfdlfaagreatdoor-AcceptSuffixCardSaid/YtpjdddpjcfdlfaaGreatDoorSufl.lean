/- Acceptance from one start, and from a state after the first letter: plain. -/
import Derived.Test.YtpjdddpjcfdlfaaGreatDoorNewtrack
import Derived.Test.YtpjdddpjcfdlfaaGreatDoorSuf
import Derived.Test.YtpjdddpjcfdlfaaGreatDoorSufp
set_option linter.unusedSimpArgs false
set_option linter.unusedVariables false
namespace Go.Proofs.YtpjdddpjcfdlfaaGreatDoor
open Go Go.Pv Go.Aut
open Classical
theorem getD_in {α:Type} {l:List α} {k:Nat} {d:α} (h:k<l.length):l.getD k d∈l:=by
  rw [List.getD_eq_getElem?_getD,List.getElem?_eq_getElem h]
  exact List.getElem_mem h
def frm (B:Bu) (p:Int):Bu:=⟨B.L,[p],B.next⟩
theorem vb_frm {B:Bu} (h:Vb B) {p:Int} (h0:0≤p) (h1:p<B.next.length):Vb (frm B p):=by
  refine ⟨h.1,h.2.1,h.2.2.1,?_,h.2.2.2.2⟩
  intro k hk
  have hk0:k=0:=by
    have:k<[p].length:=hk
    simpa using this
  subst hk0
  refine ⟨h0,h1,fun hh=>absurd hh (Nat.lt_irrefl 0)⟩
theorem bacc_frm {B:Bu} {p:Int} (h0:0≤p) (w:Nat→Nat):BAcc (frm B p) w↔Acc (fun q=>q=p.toNat) (bmv B) w:=by
  have:(fun q:Nat=>(q:Int)∈(frm B p).start)=fun q=>q=p.toNat:=funext fun q=>propext (by
    show (q:Int)∈[p]↔_
    rw [List.mem_singleton]
    omega)
  unfold BAcc
  rw [this]
  rfl
theorem start_getD {B:Bu} {i:Nat} (hi:i<B.start.length):B.start.getD i 0∈B.start:=by
  rw [List.getD_eq_getElem?_getD,List.getElem?_eq_getElem hi]
  exact List.getElem_mem hi
theorem start_idx {B:Bu} {z:Int} (hz:z∈B.start):∃ i,i<B.start.length∧B.start.getD i 0=z:=by
  obtain ⟨i,hi⟩:=List.mem_iff_getElem?.1 hz
  exact ⟨i,(List.getElem?_eq_some_iff.1 hi).1,by rw [List.getD_eq_getElem?_getD,hi];rfl⟩
def mvs (B:Bu) (p a:Int):Moves:=(B.next.getD p.toNat []).getD a.toNat []
theorem aw_one {B:Bu} {S L:List Int} (hv:Vb B):AW B S L↔∃ i,i<B.start.length∧AW (frm B (B.start.getD i 0)) S L:=by
  constructor
  · rintro ⟨_,h2,h3⟩
    obtain ⟨q,hq,hA⟩:=acc_one.1 h3
    obtain ⟨i,hi,he⟩:=start_idx hq
    refine ⟨i,hi,vb_frm hv ?_ ?_,h2,(bacc_frm ?_ _).2 ?_⟩
    · rw [he];omega
    · have:=(start_nat hv hq).2;rw [he];simpa using this
    · rw [he];omega
    · rw [he];simpa using hA
  · rintro ⟨i,hi,_,h2,h3⟩
    have hm:=start_getD hi
    have h4:=(hv.2.2.2.1 i hi).1
    refine ⟨hv,h2,acc_one.2 ⟨(B.start.getD i 0).toNat,?_,(bacc_frm h4 _).1 h3⟩⟩
    rw [(start_nat hv hm).1];exact hm
theorem aw_moved {B:Bu} {S L S' L':List Int} (hv:Vb B) (hw:Fm S L∧AllB S B.L∧AllB L B.L) (hw':Fm S' L'∧AllB S' B.L∧AllB L' B.L) (hl:∀ i,lett S' L' i=lett S L (i+1)) :
    AW B S L↔∃ i,i<B.start.length∧∃ k,k<(mvs B (B.start.getD i 0) (lett S L 0)).length∧AW (frm B ((mvs B (B.start.getD i 0) (lett S L 0)).getD k (0,false)).1) S' L':=by
  have hfun:(fun i=>(lett S' L' i).toNat)=fun i=>(lett S L (i+1)).toNat:=funext fun i=>by rw [hl i]
  constructor
  · rintro ⟨_,_,h3⟩
    obtain ⟨q,hq,m,hm,hA⟩:=acc_moved.1 h3
    have hqn:=(start_nat hv hq).2
    rw [Int.toNat_natCast] at hqn
    obtain ⟨i,hi,he⟩:=start_idx hq
    have hmn:=bmv_lt hv q _ hqn m hm
    simp only [bmv] at hm
    obtain ⟨m',hm',rfl⟩:=List.mem_map.1 hm
    obtain ⟨k,hk⟩:=List.mem_iff_getElem?.1 hm'
    obtain ⟨hk1,hk2⟩:=List.getElem?_eq_some_iff.1 hk
    have hgd:((B.next.getD q []).getD (lett S L 0).toNat []).getD k (0,false)=m':=by rw [List.getD_eq_getElem?_getD,hk];rfl
    have hrow:mvs B (B.start.getD i 0) (lett S L 0)=(B.next.getD q []).getD (lett S L 0).toNat []:=by rw [mvs,he,Int.toNat_natCast]
    have hr:=hv.2.2.2.2 q hqn
    have ha:(lett S L 0).toNat<(B.next.getD q []).length:=by
      apply Classical.byContradiction
      intro hn
      have:(B.next.getD q []).getD (lett S L 0).toNat []=[]:=by rw [List.getD_eq_getElem?_getD,List.getElem?_eq_none (by omega)];rfl
      rw [this] at hk1
      exact absurd hk1 (Nat.not_lt_zero k)
    have hr2:=hr.2 _ ha k hk1
    rw [hgd] at hr2
    refine ⟨i,hi,k,by rw [hrow];exact hk1,?_⟩
    rw [hrow,hgd]
    refine ⟨vb_frm hv hr2.1 hr2.2.1,hw',(bacc_frm hr2.1 _).2 ?_⟩
    rw [hfun]
    exact hA
  · rintro ⟨i,hi,k,hk,h1,h2,h3⟩
    have hm:=start_getD hi
    have h4:=(hv.2.2.2.1 i hi).1
    have h5:=h1.2.2.2.1 0 (by show 0<[_].length;simp)
    have h6:0≤((mvs B (B.start.getD i 0) (lett S L 0)).getD k (0,false)).1:=h5.1
    refine ⟨hv,hw,acc_moved.2 ⟨(B.start.getD i 0).toNat,?_,(((mvs B (B.start.getD i 0) (lett S L 0)).getD k (0,false)).1.toNat,((mvs B (B.start.getD i 0) (lett S L 0)).getD k (0,false)).2),?_,?_⟩⟩
    · rw [(start_nat hv hm).1];exact hm
    · simp only [bmv]
      refine List.mem_map.2 ⟨(mvs B (B.start.getD i 0) (lett S L 0)).getD k (0,false),?_,rfl⟩
      have h9:(mvs B (B.start.getD i 0) (lett S L 0)).getD k (0,false)∈mvs B (B.start.getD i 0) (lett S L 0):=by
        exact getD_in hk
      exact h9
    · have:=(bacc_frm h6 _).1 h3
      rw [hfun] at this
      exact this
end Go.Proofs.YtpjdddpjcfdlfaaGreatDoor
