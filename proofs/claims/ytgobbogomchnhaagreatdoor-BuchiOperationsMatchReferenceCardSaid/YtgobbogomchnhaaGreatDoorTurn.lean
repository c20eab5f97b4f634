/- accept's turn: the first good move to a place from which it can be reached. -/
import Derived.Test.YtgobbogomchnhaaGreatDoorSmall
import Derived.Test.YtgobbogomchnhaaGreatDoorParts
set_option linter.unusedSimpArgs false
set_option linter.unusedVariables false
namespace Go.Proofs.YtgobbogomchnhaaGreatDoor
open Go Go.Pv Go.Aut Go.Bfs Go.Tarjan
open Classical
structure NR (n0:Nat) (s:St) (j7 n:Nat) (rows:Nat→List Nat) (rv:List LV):Prop where
 len:rv.length=n
 g:s.get j7=some (.cells .mut rv)
 lt:j7<s.n
 row:∀ i,i<n→SkC s (rv.getD i .top) 1 (nints (rows i)) (rows i).length
 low:∀ i,i<n→∀ id,uses (rv.getD i .top) id→n0≤id∧id≠j7
 dj:∀ i k,i<n→k<n→i≠k→∀ id,uses (rv.getD i .top) id→¬ uses (rv.getD k .top) id
theorem NR.keep {n0:Nat} {s s':St} {j7 n:Nat} {rows:Nat→List Nat} {rv:List LV} (h:NR n0 s j7 n rows rv) (hn:s.n≤s'.n) (hs:∀ id,id<s.n→s'.get id=s.get id):NR n0 s' j7 n rows rv:=
 ⟨h.len,by rw [hs _ h.lt];exact h.g,by have:=h.lt;omega,fun i hi=>(h.row i hi).mono hn fun id hu=>hs id ((h.row i hi).lt hu),h.low,h.dj⟩
theorem NR.congr {n0:Nat} {s:St} {j7 n:Nat} {rows rows':Nat→List Nat} {rv:List LV} (h:NR n0 s j7 n rows rv) (hr:∀ i,i<n→rows' i=rows i):NR n0 s j7 n rows' rv:=
 ⟨h.len,h.g,h.lt,fun i hi=>by rw [hr i hi];exact h.row i hi,h.low,h.dj⟩
theorem getD_set {α:Type} {l:List α} {i k:Nat} {x d:α} (h:i<l.length):(l.set i x).getD k d=if k=i then x else l.getD k d:=by
 by_cases e:k=i
 ·subst e;simp [List.getD_eq_getElem?_getD,h]
 ·have e':i≠k:=fun h=>e h.symm
  simp [List.getD_eq_getElem?_getD,e,e']
theorem NR.put {n0:Nat} {s s2 s3:St} {j7 n:Nat} {rows:Nat→List Nat} {rv:List LV} (h:NR n0 s j7 n rows rv) (hj0:j7<n0) (hsn:n0≤s.n) {i j:Nat} (hi:i<n) {r:List Nat} (h1:s.n≤j) (h2:SkC s2 (.sref j 0 r.length 1) 1 (nints r) r.length) (hn:s.n≤s2.n) (hs:∀ id,id<s.n→¬ uses (rv.getD i .top) id→s2.get id=s.get id)
  (hn3:s3.n=s2.n) (h3:s3.get j7=some (.cells .mut (rv.set i (.sref j 0 r.length 1)))) (ho:∀ id,id≠j7→s3.get id=s2.get id):NR n0 s3 j7 n (fun k=>if k=i then r else rows k) (rv.set i (.sref j 0 r.length 1)):=by
 have hl:=h.len
 have hlt:=h.lt
 have hg:∀ k,(rv.set i (.sref j 0 r.length 1)).getD k .top=if k=i then .sref j 0 r.length 1 else rv.getD k .top:=fun k=>getD_set (by rw [hl];exact hi)
 refine ⟨by simp [hl],h3,by omega,fun k hk=>?_,fun k hk id hu=>?_,fun k k' hk hk' hne id hu hu'=>?_⟩
 ·rw [hg]
  by_cases e:k=i
  ·rw [if_pos e,if_pos e]
   exact h2.mono (by omega) fun id hu=>ho id (by rw [uses_sref.1 hu];omega)
  ·rw [if_neg e,if_neg e]
   exact (h.row k hk).mono (by omega) fun id hu=>by
    rw [ho id (h.low k hk id hu).2]
    exact hs id ((h.row k hk).lt hu) fun hu'=>h.dj k i hk hi e id hu hu'
 ·rw [hg] at hu
  by_cases e:k=i
  ·rw [if_pos e] at hu
   rw [uses_sref.1 hu]
   exact ⟨by omega,by omega⟩
  ·rw [if_neg e] at hu
   exact h.low k hk id hu
 ·rw [hg] at hu hu'
  by_cases e:k=i
  ·rw [if_pos e] at hu
   rw [if_neg (by omega)] at hu'
   have:=(h.row k' hk').lt hu'
   rw [uses_sref.1 hu] at this
   omega
  ·rw [if_neg e] at hu
   by_cases e':k'=i
   ·rw [if_pos e'] at hu'
    have:=(h.row k hk).lt hu
    rw [uses_sref.1 hu'] at this
    omega
   ·rw [if_neg e'] at hu'
    exact h.dj k k' hk hk' hne id hu hu'
end Go.Proofs.YtgobbogomchnhaaGreatDoor
