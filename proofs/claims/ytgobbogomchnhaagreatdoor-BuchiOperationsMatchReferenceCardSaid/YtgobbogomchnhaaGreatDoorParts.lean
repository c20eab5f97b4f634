/- accept.parts: places that can reach each other, and no others, have the same number. -/
import Derived.Test.YtgobbogomchnhaaGreatDoorBase
import Derived.Test.YtgobbogomchnhaaGreatDoorTarjan
set_option linter.unusedSimpArgs false
set_option linter.unusedVariables false
namespace Go.Proofs.YtgobbogomchnhaaGreatDoor
open Go Go.Pv Go.Tarjan
open Classical
structure PS (n:Nat) (T:S) (s:St) (v7 v8:LV) (pl:List Nat):Prop where
 n4:4≤s.n
 g0:s.get 0=some (.cells .mut (fcells n T.part))
 g1:s.get 1=some (.cells .mut (fcells n T.idx))
 g2:s.get 2=some (.cells .mut (fcells n T.low))
 g3:s.get 3=some (.cells .mut (fcells n T.done))
 sk7:Sk s v7 T.stack
 sk8:Sk s v8 pl
 d7:∀ id,uses v7 id→4≤id
 d8:∀ id,uses v8 id→4≤id
 dj:∀ id,uses v7 id→¬ uses v8 id
theorem PS.row {n:Nat} {T T':S} {s s':St} {v7 v8:LV} {pl:List Nat} (h:PS n T s v7 v8 pl) (hn:s'.n=s.n) (h0:s'.get 0=some (.cells .mut (fcells n T'.part))) (h1:s'.get 1=some (.cells .mut (fcells n T'.idx))) (h2:s'.get 2=some (.cells .mut (fcells n T'.low))) (h3:s'.get 3=some (.cells .mut (fcells n T'.done)))
  (ho:∀ id,4≤id→s'.get id=s.get id) (hs:T'.stack=T.stack):PS n T' s' v7 v8 pl:=
 ⟨by rw [hn];exact h.n4,h0,h1,h2,h3,by rw [hs];exact h.sk7.mono (by omega) fun id hu=>ho id (h.d7 id hu),h.sk8.mono (by omega) fun id hu=>ho id (h.d8 id hu),h.d7,h.d8,h.dj⟩
structure En (n:Nat) (T:S) (ent:List Nat):Prop where
 nd:ent.Nodup
 len:ent.length=T.cnt
 mem:∀ v,v∈ent↔T.idx v≠0
 lt:∀ v∈ent,v<n
theorem En.le {n:Nat} {T:S} {ent:List Nat} (h:En n T ent):ent.length≤n:=Go.Aut.pig n ent h.nd h.lt
theorem En.less {n:Nat} {T:S} {ent:List Nat} (h:En n T ent) {v:Nat} (hv:v<n) (h0:T.idx v=0):ent.length+1≤n:=by
 have:=Go.Aut.pig n (v::ent) (List.nodup_cons.2 ⟨fun hm=>(h.mem v).1 hm h0,h.nd⟩) fun x hx=>by
  rcases List.mem_cons.1 hx with rfl | hx
  ·exact hv
  ·exact h.lt x hx
 simpa using this
theorem En.enter {n:Nat} {T:S} {ent:List Nat} (h:En n T ent) {v:Nat} (hv:v<n) (h0:T.idx v=0):En n (T.enter v) (v::ent):=by
 refine ⟨List.nodup_cons.2 ⟨fun hm=>(h.mem v).1 hm h0,h.nd⟩,by simp [S.enter,h.len],fun u=>?_,fun x hx=>?_⟩
 ·by_cases e:u=v
  ·subst e;simp [S.enter]
  ·simp only [S.enter,List.mem_cons,e,false_or,upd_other _ _ e,h.mem]
 ·rcases List.mem_cons.1 hx with rfl | hx
  ·exact hv
  ·exact h.lt x hx
theorem En.same {n:Nat} {T T':S} {ent:List Nat} (h:En n T ent) (h1:T'.cnt=T.cnt) (h2:T'.idx=T.idx):En n T' ent:=⟨h.nd,by rw [h1];exact h.len,by rw [h2];exact h.mem,h.lt⟩
theorem PS.congr {n:Nat} {T T':S} {s:St} {v7 v8:LV} {pl:List Nat} (h:PS n T s v7 v8 pl) (ha:T'.part=T.part) (hb:T'.idx=T.idx) (hc:T'.low=T.low) (hd:T'.done=T.done) (he:T'.stack=T.stack):PS n T' s v7 v8 pl:=
 h.row rfl (by rw [ha];exact h.g0) (by rw [hb];exact h.g1) (by rw [hc];exact h.g2) (by rw [hd];exact h.g3) (fun _ _=>rfl) he
end Go.Proofs.YtgobbogomchnhaaGreatDoor
