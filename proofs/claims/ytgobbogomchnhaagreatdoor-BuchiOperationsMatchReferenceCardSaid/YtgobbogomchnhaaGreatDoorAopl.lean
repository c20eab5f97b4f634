/- What both, either and trim accept: plain. -/
import Derived.Test.YtgobbogomchnhaaGreatDoorPboth
import Derived.Test.YtgobbogomchnhaaGreatDoorBeither
import Derived.Test.YtgobbogomchnhaaGreatDoorWd
set_option linter.unusedSimpArgs false
set_option linter.unusedVariables false
namespace Go.Proofs.YtgobbogomchnhaaGreatDoor
open Go Go.Pv Go.Aut
open Classical
def stN (B:Bu):List Nat:=B.start.map Int.toNat
theorem vb_ei {A B:Bu} (okA:Vb A) (okB:Vb B) (hL:A.L=B.L) (hs:A.next.length+B.next.length≤3000):Vb (eiB A B):=by
 have hlen:(eiB A B).next.length=A.next.length+B.next.length:=by simp [eiB]
 refine ⟨okA.1,okA.2.1,by rw [hlen];exact hs,fun k hk=>?_,fun i hi=>?_⟩
 ·rw [hlen]
  have e1:∀ k,k<A.start.length→(eiB A B).start.getD k 0=A.start.getD k 0:=fun k hk=>by
   unfold eiB
   simp only
   rw [List.getD_eq_getElem?_getD,List.getElem?_append_left hk,← List.getD_eq_getElem?_getD]
  have e2:∀ k,k<B.start.length→(eiB A B).start.getD (A.start.length+k) 0=B.start.getD k 0+(A.next.length:Int):=fun k hk=>by
   unfold eiB
   simp only
   rw [List.getD_eq_getElem?_getD,List.getElem?_append_right (by omega),Nat.add_sub_cancel_left]
   simp [shS,List.getD_eq_getElem?_getD,hk]
  have hk':k<A.start.length+B.start.length:=by simpa [eiB] using hk
  by_cases h:k<A.start.length
  ·have h1:=okA.2.2.2.1 k h
   rw [e1 k h]
   refine ⟨h1.1,by omega,fun h0=>?_⟩
   rw [e1 (k - 1) (by omega)]
   exact h1.2.2 h0
  ·obtain ⟨j,rfl⟩:∃ j,k=A.start.length+j:=⟨k - A.start.length,by omega⟩
   have hj:j<B.start.length:=by omega
   have h1:=okB.2.2.2.1 j hj
   rw [e2 j hj]
   refine ⟨by omega,by omega,fun h0=>?_⟩
   by_cases hj0:j=0
   ·subst hj0
    have h2:=okA.2.2.2.1 (A.start.length - 1) (by omega)
    rw [show A.start.length+0 - 1=A.start.length - 1 by omega,e1 _ (by omega)]
    omega
   ·rw [show A.start.length+j - 1=A.start.length+(j - 1) by omega,e2 _ (by omega)]
    have:=h1.2.2 (by omega)
    omega
 ·have hi':i<A.next.length+B.next.length:=by rw [hlen] at hi;exact hi
  rw [hlen]
  have hLe:(eiB A B).L=A.L:=rfl
  rw [hLe]
  by_cases h:i<A.next.length
  ·have e:(eiB A B).next.getD i []=A.next.getD i []:=by
    unfold eiB
    simp only
    rw [List.getD_eq_getElem?_getD,List.getElem?_append_left h,← List.getD_eq_getElem?_getD]
   rw [e]
   obtain ⟨h1,h2⟩:=okA.2.2.2.2 i h
   refine ⟨h1,fun a ha k hk=>?_⟩
   have:=h2 a ha k hk
   exact ⟨this.1,by omega,this.2.2⟩
  ·have hb:i - A.next.length<B.next.length:=by omega
   have e:(eiB A B).next.getD i []=(B.next.getD (i - A.next.length) []).map (shM A.next.length):=by
    unfold eiB
    simp only
    rw [List.getD_eq_getElem?_getD,List.getElem?_append_right (by omega)]
    simp [shN,List.getD_eq_getElem?_getD,hb]
   rw [e]
   obtain ⟨h1,h2⟩:=okB.2.2.2.2 _ hb
   refine ⟨by rw [List.length_map,hL];exact h1,fun a ha k hk=>?_⟩
   have ha':a<(B.next.getD (i - A.next.length) []).length:=by simpa using ha
   have e3:((B.next.getD (i - A.next.length) []).map (shM A.next.length)).getD a []=shM A.next.length ((B.next.getD (i - A.next.length) []).getD a []):=by
    rw [List.getD_eq_getElem?_getD,List.getElem?_map,List.getElem?_eq_getElem ha',List.getD_eq_getElem?_getD (l:=B.next.getD _ []),List.getElem?_eq_getElem ha'];rfl
   rw [e3] at hk ⊢
   rw [shM_length] at hk
   have hm:=h2 a ha'
   generalize (B.next.getD (i - A.next.length) []).getD a []=ms at *
   have e4:∀ k,k<ms.length→(shM A.next.length ms).getD k (0,false)=((ms.getD k (0,false)).1+(A.next.length:Int),(ms.getD k (0,false)).2):=fun k hk=>by
    simp [shM,List.getD_eq_getElem?_getD,hk]
   have h3:=hm k hk
   rw [e4 k hk]
   refine ⟨by simp only;omega,by simp only;omega,fun h0=>?_⟩
   rw [e4 (k - 1) (by omega)]
   rcases h3.2.2 h0 with h4 | ⟨h4,h5,h6⟩
   ·exact .inl (by simp only;omega)
   ·exact .inr ⟨by simp only;omega,h5,h6⟩
end Go.Proofs.YtgobbogomchnhaaGreatDoor
