/- Acceptance from one start, and acceptance after one letter: plain. -/
import Derived.Test.YtpjdddpjcfdlfaaGreatDoorTarjan
set_option linter.unusedSimpArgs false
set_option linter.unusedVariables false
namespace Go.Aut
theorem acc_one {start:Nat→Prop} {mv:Mv} {w:Nat→Nat} : Acc start mv w↔∃ q,start q∧Acc (fun p=>p=q) mv w:=
  ⟨fun ⟨q,g,h1,h2,h3⟩=>⟨q 0,h1,q,g,rfl,h2,h3⟩,fun ⟨_,h,q,g,h1,h2,h3⟩=>⟨q,g,by rw [h1];exact h,h2,h3⟩⟩
theorem acc_step {p:Nat} {mv:Mv} {w:Nat→Nat} : Acc (fun q=>q=p) mv w↔∃ m∈mv p (w 0),Acc (fun q=>q=m.1) mv (fun i=>w (i+1)):=by
  constructor
  · rintro ⟨q,g,h1,h2,h3⟩
    refine ⟨(q 1,g 0),?_,fun i=>q (i+1),fun i=>g (i+1),rfl,fun i=>h2 (i+1),fun T=>?_⟩
    · have:=h2 0
      rwa [h1] at this
    · obtain ⟨i,hi,hg⟩:=h3 (T+1)
      exact ⟨i - 1,by omega,by show g (i - 1+1)=true;rw [Nat.sub_add_cancel (by omega)];exact hg⟩
  · rintro ⟨m,hm,q,g,h1,h2,h3⟩
    refine ⟨fun i=>match i with | 0=>p | i+1=>q i,fun i=>match i with | 0=>m.2 | i+1=>g i,rfl,fun i=>?_,fun T=>?_⟩
    · cases i with
      | zero=>simp only [h1];exact hm
      | succ i=>exact h2 i
    · obtain ⟨i,hi,hg⟩:=h3 T
      exact ⟨i+1,by omega,hg⟩
theorem acc_moved {start:Nat→Prop} {mv:Mv} {w:Nat→Nat} : Acc start mv w↔∃ p,start p∧∃ m∈mv p (w 0),Acc (fun q=>q=m.1) mv (fun i=>w (i+1)):=by
  rw [acc_one]
  exact ⟨fun ⟨p,h,k⟩=>⟨p,h,acc_step.1 k⟩,fun ⟨p,h,k⟩=>⟨p,h,acc_step.2 k⟩⟩
end Go.Aut
