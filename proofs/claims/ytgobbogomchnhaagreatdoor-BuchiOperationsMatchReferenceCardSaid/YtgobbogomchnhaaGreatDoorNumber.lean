/- accept's search: a place is numbered. -/
import Derived.Test.YtgobbogomchnhaaGreatDoorBase
import Derived.Test.YtgobbogomchnhaaGreatDoorPvQ
import Derived.Test.YtgobbogomchnhaaGreatDoorTarjan
set_option linter.unusedSimpArgs false
set_option linter.unusedVariables false
namespace Go.Proofs.YtgobbogomchnhaaGreatDoor
open Go Go.Pv Go.Aut Go.Bfs
open Classical
def pcell (p:Pl):List LV:=[.int .i64 (p.1:Int), .int .i64 (p.2:Int)]
def pcells:List Pl→List LV
 | []=>[]
 | p::r=>.int .i64 (p.1:Int)::.int .i64 (p.2:Int)::pcells r
def pent:List Pl→Nat→List (LV × LV)
 | [],_=>[]
 | p::r,i=>(.agg (pcell p), .int .i64 (i:Int))::pent r (i+1)
structure FS (n0:Nat) (Kp:Nat→Prop) (s0:St) (s:St) (jf M:Nat) (pv bv:LV) (acc:Ac Pl):Prop where
 le:n0≤s.n
 j0:n0≤jf
 j1:jf<s.n
 m0:n0≤M
 m1:M<s.n
 ne:M≠jf
 gj:s.get jf=some (.cells .mut [.mref M,pv,bv])
 gM:s.get M=some (.map (pent (acc.map (·.1)) 0))
 sp:SkC s pv 2 (pcells (acc.map (·.1))) acc.length
 sb:SkC s bv 1 (ints (acc.map (·.2))) acc.length
 dp:∀ id,uses pv id→n0≤id∧id≠jf∧id≠M
 db:∀ id,uses bv id→n0≤id∧id≠jf∧id≠M
 dd:∀ id,uses pv id→¬ uses bv id
 kp:∀ id,Kp id→id<s.n∧id≠jf∧id≠M∧¬ uses pv id∧¬ uses bv id
 old:∀ id,Kp id→s.get id=s0.get id
theorem FS.keep {n0:Nat} {Kp:Nat→Prop} {s0 s s':St} {jf M:Nat} {pv bv:LV} {acc:Ac Pl} (h:FS n0 Kp s0 s jf M pv bv acc) (hn:s.n≤s'.n) (hs:∀ id,id<s.n→s'.get id=s.get id):FS n0 Kp s0 s' jf M pv bv acc:=by
 have h1:=h.j1
 have h2:=h.m1
 have h3:=h.le
 exact ⟨by omega,h.j0,by omega,h.m0,by omega,h.ne,by rw [hs _ h1];exact h.gj,by rw [hs _ h2];exact h.gM,h.sp.mono hn fun id hu=>hs id (h.sp.lt hu),h.sb.mono hn fun id hu=>hs id (h.sb.lt hu),h.dp,h.db,h.dd,
  fun id hk=>by have:=h.kp id hk;exact ⟨by omega,this.2⟩,fun id hk=>by rw [hs id (h.kp id hk).1];exact h.old id hk⟩
theorem FS.rebase {n0:Nat} {Kp Kp':Nat→Prop} {s0 s0' s:St} {jf M:Nat} {pv bv:LV} {acc:Ac Pl} (h:FS n0 Kp s0 s jf M pv bv acc) (hk:∀ id,Kp' id→id<s.n∧id≠jf∧id≠M∧¬ uses pv id∧¬ uses bv id) (ho:∀ id,Kp' id→s.get id=s0'.get id):FS n0 Kp' s0' s jf M pv bv acc:=
 ⟨h.le,h.j0,h.j1,h.m0,h.m1,h.ne,h.gj,h.gM,h.sp,h.sb,h.dp,h.db,h.dd,hk,ho⟩
end Go.Proofs.YtgobbogomchnhaaGreatDoor
