/- Several cells at once put behind a list of single cells. -/
import Derived.Test.YtkbiecjdcjfhaaaPvRw
set_option linter.unusedSimpArgs false
set_option linter.unusedVariables false
namespace Go.Pv
open Go
def Sx (s:St) (v:LV) (cells:List LV) (n:Nat):Prop:=cells.length=n∧((v = .nils∧n=0)∨∃ j,v = .sref j 0 n 1∧j<s.n∧s.get j=some (.cells .mut cells))
theorem Sx.nil (s:St):Sx s .nils [] 0:=⟨rfl, .inl ⟨rfl,rfl⟩⟩
theorem Sx.len {s:St} {v:LV} {n:Nat} {cells:List LV} (h:Sx s v cells n):slLen v=some n:=by
  obtain ⟨_,⟨rfl,rfl⟩ | ⟨j,rfl,_⟩⟩:=h<;>rfl
theorem Sx.cell {s:St} {v:LV} {n:Nat} {cells:List LV} (h:Sx s v cells n):isCell v=true:=by
  obtain ⟨_,⟨rfl,rfl⟩ | ⟨j,rfl,_⟩⟩:=h<;>rfl
theorem Sx.lt {s:St} {v:LV} {n:Nat} {cells:List LV} (h:Sx s v cells n) {id:Nat} (hu:uses v id):id<s.n:=by
  obtain ⟨_,⟨rfl,rfl⟩ | ⟨j,rfl,h2,_⟩⟩:=h
  · exact absurd hu (uses_nils id)
  · rw [uses_sref.1 hu];exact h2
theorem Sx.mono {s s':St} {v:LV} {n:Nat} {cells:List LV} (h:Sx s v cells n) (hn:s.n≤s'.n) (hs:∀ id,uses v id→s'.get id=s.get id):Sx s' v cells n:=by
  obtain ⟨h0,h | ⟨j,h1,h2,h3⟩⟩:=h
  · exact ⟨h0, .inl h⟩
  · exact ⟨h0, .inr ⟨j,h1,by omega,by rw [hs j (h1 ▸ uses_sref.2 rfl)];exact h3⟩⟩
theorem Sx.row {s:St} {v:LV} {n:Nat} {cells:List LV} (h:Sx s v cells n):rowOf s 1 n v=some cells:=by
  obtain ⟨h0,⟨rfl,rfl⟩ | ⟨j,rfl,h2,h3⟩⟩:=h
  · rw [List.length_eq_zero_iff.1 h0];rfl
  · simp only [rowOf,h3,Nat.le_refl,Nat.zero_add,Nat.mul_one,h0,and_self,if_true,List.drop_zero]
    rw [List.take_of_length_le (by omega)]
theorem Sx.app {s:St} {v:LV} {n bytes k:Nat} {cells vs:List LV} (h:Sx s v cells n) (hk:vs.length=k) (hb:(n+k)*bytes≤big):∃ r s',appendLV 1 bytes v vs k s=some (r,s')∧Sx s' r (cells++vs) (n+k)∧s.n≤s'.n∧(∀ id,id<s.n→¬ uses v id→s'.get id=s.get id)∧∀ id,uses r id→s.n≤id:=by
  obtain ⟨h0,⟨rfl,rfl⟩ | ⟨j,rfl,h2,h3⟩⟩:=h
  · have hc0:cells=[]:=List.length_eq_zero_iff.1 h0
    subst hc0
    by_cases e:k=0
    · subst e
      have hv0:vs=[]:=List.length_eq_zero_iff.1 hk
      subst hv0
      exact ⟨.nils,s,by simp [appendLV],⟨rfl, .inl ⟨rfl,rfl⟩⟩,Nat.le_refl _,fun _ _ _=>rfl,fun id hu=>absurd hu (uses_nils id)⟩
    · refine ⟨.sref s.n 0 k 1,s.new (.cells .mut vs),?_,⟨by simpa using hk, .inr ⟨s.n,by rw [Nat.zero_add],by simp,by rw [St.get_new,if_pos rfl];rfl⟩⟩,by simp,fun id hid _=>by rw [St.get_new,if_neg (by omega)],fun id hu=>by have:=uses_sref.1 hu;omega⟩
      simp only [appendLV]
      rw [if_neg e,if_pos ⟨by rw [Nat.zero_add] at hb;exact hb,by omega⟩]
  · refine ⟨.sref s.n 0 (n+k) 1,(s.put j (.cells .ro [])).new (.cells .mut (cells++vs)),?_,⟨by rw [List.length_append];omega, .inr ⟨s.n,rfl,by simp,by rw [St.get_new,St.n_put,if_pos rfl]⟩⟩,by simp,fun id hid hu=>?_,fun id hu=>by have:=uses_sref.1 hu;omega⟩
    · simp only [appendLV,if_true,h3,Nat.zero_add,Nat.mul_one,h0,Nat.le_refl,hb,hk,and_self,List.drop_zero]
      rw [List.take_of_length_le (by omega)]
      rfl
    · have hne:id≠j:=fun e=>hu (uses_sref.2 e)
      rw [St.get_new,St.n_put,if_neg (by omega),St.get_put,if_neg hne]
section
variable {P:Program} {G:Globs} {K:Env→St→Prop} {l:List LOper} {e:Env} {s:St} {fl fl':Bool}
theorem q_appM {a b bytes n k:Nat} {y:Opd} {z:List LV} {ps:List (Nat × Nat × Opd)} {yv:LV} {vs cells:List LV} (hf:fillParts (rep k z) (evParts e ps)=some vs) (hvs:vs.length=k) (hcl:LV.closed.closedAll vs=true) (hy:y.ev (Tr.set e a (.sref s.n 0 k 1))=yv) (hs:Sx s yv cells n) (hb:(n+k)*bytes≤big)
    (h:∀ s' r,Sx s' r (cells++vs) (n+k)→s.n≤s'.n→(∀ id,id<s.n→¬ uses yv id→s'.get id=s.get id)→(∀ id,uses r id→s.n≤id)→W P G K l (Tr.set (Tr.set e a (.sref s.n 0 k 1)) b r) s') :
    W P G K (⟨some a, .bslice 1 k z ps,none,[],fl⟩::⟨some b, .append 1 bytes y (.t a),none,[],fl'⟩::l) e s:=by
  refine q_gen (v:=.sref s.n 0 k 1) (s':=s.new (.cells .mut vs)) rfl (by simp only [LOp.run,hf,Option.bind_eq_bind,Option.bind_some]) (by cases fl<;>rfl) trivial ?_
  simp only [Env.put_some]
  have hr:rowOf (s.new (.cells .mut vs)) 1 k (.sref s.n 0 k 1)=some vs:=by
    simp only [rowOf,St.get_new,if_true,Nat.le_refl,Nat.mul_one,Nat.zero_add,hvs,and_self,List.drop_zero]
    rw [List.take_of_length_le (by omega)]
  have hs1:=hs.mono (s':=s.new (.cells .mut vs)) (by simp) fun id hu=>by rw [St.get_new,if_neg (by have:=hs.lt hu;omega)]
  obtain ⟨r,s',hap,hS,hn,hg,hu⟩:=hs1.app (vs:=vs) hvs hb
  refine q_append rfl hy (by simp) rfl hr (frzTry_all hcl) hap ?_
  refine h s' r hS (by simp at hn;omega) (fun id hid hnu=>?_) fun id hid=>by have:=hu id hid;simp at this;omega
  rw [hg id (by simp;omega) hnu,St.get_new,if_neg (by omega)]
theorem q_appV {b bytes n k:Nat} {x y:Opd} {xv yv:LV} {vs cells:List LV} {g:Option (Nat × Bool)} (hg0:wantedG g e=some true) (hx:x.ev e=xv) (hxs:Sl xv vs k) (hvs:vs.length=k) (hcl:LV.closed.closedAll vs=true) (hy:y.ev e=yv) (hs:Sx s yv cells n) (hb:(n+k)*bytes≤big)
    (h:∀ s' r,Sx s' r (cells++vs) (n+k)→s.n≤s'.n→(∀ id,id<s.n→¬ uses yv id→s'.get id=s.get id)→(∀ id,uses r id→s.n≤id)→W P G K l (Tr.set e b r) s') :
    W P G K (⟨some b, .append 1 bytes y x,g,[],fl⟩::l) e s:=by
  have hlen:lenLV xv=some k:=by cases hxs<;>first | rfl | simp [lenLV]
  have hr:rowOf s 1 k xv=some vs:=by
    cases hxs with
    | nil=>rfl
    | zs=>rfl
    | simm=>simp only [rowOf,Nat.le_refl,Nat.mul_one,hvs,and_self,if_true];rw [List.take_of_length_le (by omega)]
  obtain ⟨r,s',hap,hS,hn,hg,hu⟩:=hs.app (vs:=vs) hvs hb
  exact q_append hg0 hy hx hlen hr (frzTry_all hcl) hap (h s' r hS hn hg hu)
end
end Go.Pv
