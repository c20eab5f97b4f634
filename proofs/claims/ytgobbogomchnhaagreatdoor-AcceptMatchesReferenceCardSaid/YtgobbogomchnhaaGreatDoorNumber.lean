/- accept's search: a place is numbered. -/
import Derived.Test.YtgobbogomchnhaaGreatDoorBase
import Derived.Test.YtgobbogomchnhaaGreatDoorPvQ
import Derived.Test.YtgobbogomchnhaaGreatDoorTarjan
set_option linter.unusedSimpArgs false
set_option linter.unusedVariables false
namespace Go.Proofs.YtgobbogomchnhaaGreatDoor
open Go Go.Pv Go.Aut Go.Bfs
open Classical
def pcell (p:Pl):List LV:=[.int .i64 (p.1:Int), .int .i64 (p.2:Int)]
theorem pcell_take (p:Pl):(pcell p).take 2=pcell p:=rfl
def pcells:List Pl→List LV
 | []=>[]
 | p::r=>.int .i64 (p.1:Int)::.int .i64 (p.2:Int)::pcells r
theorem pcells_length:∀ l:List Pl,(pcells l).length=l.length*2
 | []=>rfl
 | m::r=>by simp only [pcells,List.length_cons,pcells_length r];omega
theorem pcells_append:∀ (a b:List Pl),pcells (a++b)=pcells a++pcells b
 | [],b=>rfl
 | m::r,b=>by simp only [List.cons_append,pcells,pcells_append r b]
theorem pcells_closed:∀ l:List Pl,LV.closed.closedAll (pcells l)=true
 | []=>rfl
 | m::r=>by simp [pcells,LV.closed.closedAll,LV.closed,pcells_closed r]
theorem pcells_pair:∀ {l:List Pl} {i:Nat} {p:Pl},l[i]? = some p→((pcells l).drop (i*2)).take 2=pcell p
 | m::r,0,p,h=>by cases h;rfl
 | m::r,i+1,p,h=>by
  rw [show (i+1)*2=i*2+1+1 by omega]
  simpa [pcells] using pcells_pair (l:=r) (by simpa using h)
def pent:List Pl→Nat→List (LV × LV)
 | [],_=>[]
 | p::r,i=>(.agg (pcell p), .int .i64 (i:Int))::pent r (i+1)
theorem pent_append:∀ (a b:List Pl) (i:Nat),pent (a++b) i=pent a i++pent b (i+a.length)
 | [],b,i=>rfl
 | p::r,b,i=>by simp only [List.cons_append,pent,pent_append r b,List.length_cons];congr 3;omega
abbrev PK:KTy:=.st [(0,(1, .int)),(1,(1, .int))]
theorem pk_eq (p q:Pl):keyEqT PK (.agg (pcell p)) (.agg (pcell q))=some (decide (p=q)):=by
 obtain ⟨a,b⟩:=p
 obtain ⟨c,d⟩:=q
 have hb:∀ x y:Nat,((x:Int) == (y:Int))=decide (x=y):=fun x y=>by
  by_cases h:x=y
  ·simp [h]
  ·have:¬ ((x:Int)=y):=by omega
   simp [h,this]
 by_cases h1:a=c
 ·by_cases h2:b=d
  ·simp [keyEqT,eqLV.eqFields,pcell,scEq,sameInts,hb,h1,h2]
  ·simp [keyEqT,eqLV.eqFields,pcell,scEq,sameInts,hb,h1,h2]
 ·simp [keyEqT,eqLV.eqFields,pcell,scEq,sameInts,hb,h1]
theorem pfind (p:Pl):∀ (l:List Pl) (i:Nat),mfind PK (.agg (pcell p)) (pent l i) i=some ((idx p l i).map fun j=>(j, .int .i64 (j:Int)))
 | [],_=>rfl
 | q::r,i=>by
  simp only [pent,mfind,pk_eq,idx]
  by_cases h:p=q
  ·simp [h]
  ·simp [h,pfind p r (i+1)]
structure FS (n0:Nat) (Kp:Nat→Prop) (s0:St) (s:St) (jf M:Nat) (pv bv:LV) (acc:Ac Pl):Prop where
 le:n0≤s.n
 j0:n0≤jf
 j1:jf<s.n
 m0:n0≤M
 m1:M<s.n
 ne:M≠jf
 gj:s.get jf=some (.cells .mut [.mref M,pv,bv])
 gM:s.get M=some (.map (pent (acc.map (·.1)) 0))
 sp:SkC s pv 2 (pcells (acc.map (·.1))) acc.length
 sb:SkC s bv 1 (ints (acc.map (·.2))) acc.length
 dp:∀ id,uses pv id→n0≤id∧id≠jf∧id≠M
 db:∀ id,uses bv id→n0≤id∧id≠jf∧id≠M
 dd:∀ id,uses pv id→¬ uses bv id
 kp:∀ id,Kp id→id<s.n∧id≠jf∧id≠M∧¬ uses pv id∧¬ uses bv id
 old:∀ id,Kp id→s.get id=s0.get id
theorem FS.keep {n0:Nat} {Kp:Nat→Prop} {s0 s s':St} {jf M:Nat} {pv bv:LV} {acc:Ac Pl} (h:FS n0 Kp s0 s jf M pv bv acc) (hn:s.n≤s'.n) (hs:∀ id,id<s.n→s'.get id=s.get id):FS n0 Kp s0 s' jf M pv bv acc:=by
 have h1:=h.j1
 have h2:=h.m1
 have h3:=h.le
 exact ⟨by omega,h.j0,by omega,h.m0,by omega,h.ne,by rw [hs _ h1];exact h.gj,by rw [hs _ h2];exact h.gM,h.sp.mono hn fun id hu=>hs id (h.sp.lt hu),h.sb.mono hn fun id hu=>hs id (h.sb.lt hu),h.dp,h.db,h.dd,
  fun id hk=>by have:=h.kp id hk;exact ⟨by omega,this.2⟩,fun id hk=>by rw [hs id (h.kp id hk).1];exact h.old id hk⟩
theorem FS.rebase {n0:Nat} {Kp Kp':Nat→Prop} {s0 s0' s:St} {jf M:Nat} {pv bv:LV} {acc:Ac Pl} (h:FS n0 Kp s0 s jf M pv bv acc) (hk:∀ id,Kp' id→id<s.n∧id≠jf∧id≠M∧¬ uses pv id∧¬ uses bv id) (ho:∀ id,Kp' id→s.get id=s0'.get id):FS n0 Kp' s0' s jf M pv bv acc:=
 ⟨h.le,h.j0,h.j1,h.m0,h.m1,h.ne,h.gj,h.gM,h.sp,h.sb,h.dp,h.db,h.dd,hk,ho⟩
set_option maxHeartbeats 8000000 in
theorem number_ok {n0:Nat} {Kp:Nat→Prop} {s0 s:St} {jf M:Nat} {pv bv:LV} {acc:Ac Pl} (hF:FS n0 Kp s0 s jf M pv bv acc) (hl:acc.length≤1000000) (p:Pl) (b:Int):CallOk Tryz.prog GL (.fn (.func 86) [] [.pref jf 0]) [.agg (pcell p), .int .i64 b] s
  (fun _ s'=>∃ pv' bv',FS n0 Kp s0 s' jf M pv' bv' (Bfs.add acc p b)):=by
 refine call_fn (first:=[]) (caps:=[.pref jf 0]) Tryz.func86 (by decide +kernel) c86 (Nat.le_of_ble_eq_true rfl) (CodeOk.mono (Q:=fun o e s'=>(o = .normal∨o = .jmp .ret)∧∃ pv' bv',FS n0 Kp s0 s' jf M pv' bv' (Bfs.add acc p b)) ?_ fun o e s' hh=>by
  exact ⟨hh.1, .tup [],by simp [l86,resVal],hh.2⟩)
 have e0:(envOf ([]++[.agg (pcell p), .int .i64 b]++[.pref jf 0])).at 0 = .agg (pcell p):=by rw [envOf_at];rfl
 have e1:(envOf ([]++[.agg (pcell p), .int .i64 b]++[.pref jf 0])).at 1 = .int .i64 b:=by rw [envOf_at];rfl
 have e2:(envOf ([]++[.agg (pcell p), .int .i64 b]++[.pref jf 0])).at 2 = .pref jf 0:=by rw [envOf_at];rfl
 generalize envOf ([]++[.agg (pcell p), .int .i64 b]++[.pref jf 0])=e at *
 refine Cd.out ?_
 unfold l86
 dsimp only [jA,jG,qN,qF,qS,qO,qm,ql]
 have gj:=hF.gj
 have hf:=pfind p (acc.map (·.1)) 0
 have hcp:(LV.agg (pcell p)).closed=true:=rfl
 have hpc:cells? (.agg (pcell p))=some (pcell p):=rfl
 have hky:keyOk PK (.agg (pcell p))=true:=rfl
 have hpn:=hF.sp.len
 have hcc1:=hF.sp.cell
 have hcc2:=hF.sb.cell
 cases hi:idx p (acc.map (·.1)) 0 with
 | some i=>
  rw [hi] at hf
  repeat' (first | refine gA @pcell_take ?_ | (refine gB @pcell_take ?_;intro bb hbb;cases bb<;>(try simp only [hbs,if_false,reduceCtorEq] at hbb)) | fail)
  refine q_mlookS wN (M:=M) (i:=i) (v:=.int .i64 (i:Int)) (kv:=.agg (pcell p)) ef ef rfl hF.gM hf ?_
  repeat' (first | refine gA @pcell_take ?_ | (refine gB @pcell_take ?_;intro bb hbb;cases bb<;>(try simp only [hbs,if_false,reduceCtorEq] at hbb)) | fail)
  refine ⟨.inl trivial,pv,bv,?_⟩
  have hmem:p∈acc.map (·.1):=List.mem_of_getElem? (idx_some hi).2
  rw [Bfs.add,if_pos hmem]
  exact hF
 | none=>
  have hmem:p ∉ acc.map (·.1):=idx_none.1 hi
  rw [hi] at hf
  simp only [Option.map_none] at hf
  have hacc:Bfs.add acc p b=acc++[(p,b)]:=by rw [Bfs.add,if_neg hmem]
  rw [hacc]
  repeat' (first | refine gA (And.intro @pcell_take @hpn) ?_ | (refine gB (And.intro @pcell_take @hpn) ?_;intro bb hbb;cases bb<;>(try simp only [hbs,if_false,reduceCtorEq] at hbb)) | fail)
  refine q_mlookN wN (M:=M) (kv:=.agg (pcell p)) ef ef rfl hF.gM hf ?_
  repeat' (first | refine gA (And.intro @pcell_take @hpn) ?_ | (refine gB (And.intro @pcell_take @hpn) ?_;intro bb hbb;cases bb<;>(try simp only [hbs,if_false,reduceCtorEq] at hbb)) | fail)
  refine q_mupdN (M:=M) (kv:=.agg (pcell p)) (vv:=.int .i64 (acc.length:Int)) ef ef ef rfl hF.gM hf ?_
  have hjm:=hF.ne
  have hg1:(s.put M (.map (pent (acc.map (·.1)) 0++[(.agg (pcell p), .int .i64 (acc.length:Int))]))).get jf=some (.cells .mut [.mref M,pv,bv]):=by rw [St.get_put,if_neg (Ne.symm hjm)];exact gj
  have hM1:(s.put M (.map (pent (acc.map (·.1)) 0++[(.agg (pcell p), .int .i64 (acc.length:Int))]))).get M=some (.map (pent (acc.map (·.1)++[p]) 0)):=by
   rw [St.get_put,if_pos rfl,pent_append];simp [pent]
  have hn1:(s.put M (.map (pent (acc.map (·.1)) 0++[(.agg (pcell p), .int .i64 (acc.length:Int))]))).n=s.n:=rfl
  have ho1:∀ id,id≠M→(s.put M (.map (pent (acc.map (·.1)) 0++[(.agg (pcell p), .int .i64 (acc.length:Int))]))).get id=s.get id:=fun id h=>by rw [St.get_put,if_neg h]
  generalize s.put M (.map (pent (acc.map (·.1)) 0++[(.agg (pcell p), .int .i64 (acc.length:Int))]))=s1 at hg1 hM1 hn1 ho1
  have hsp:SkC s1 pv 2 (pcells (acc.map (·.1))) acc.length:=hF.sp.mono (by omega) fun id hu=>ho1 id (hF.dp id hu).2.2
  have hsb:SkC s1 bv 1 (ints (acc.map (·.2))) acc.length:=hF.sb.mono (by omega) fun id hu=>ho1 id (hF.db id hu).2.2
  clear gj
  repeat' (first | refine gA @pcell_take ?_ | (refine gB @pcell_take ?_;intro bb hbb;cases bb<;>(try simp only [hbs,if_false,reduceCtorEq] at hbb)) | fail)
  refine q_appC (n:=acc.length) (esz:=2) (xv:=.agg (pcell p)) (yv:=pv) (vs:=pcell p) ef rfl rfl rfl rfl ef hsp (by decide) (by omega) (fun s2 j2 a1 a2 a3 a4=>?_)
  have hj1:=hF.j1
  have hm1:=hF.m1
  have hg2:s2.get jf=some (.cells .mut [.mref M,pv,bv]):=by rw [a4 jf (by omega) fun hu=>(hF.dp _ hu).2.1 rfl];exact hg1
  repeat' (first | refine gA @pcell_take ?_ | (refine gB @pcell_take ?_;intro bb hbb;cases bb<;>(try simp only [hbs,if_false,reduceCtorEq] at hbb)) | fail)
  have hbn:∀ id,uses bv id→id<s1.n:=fun id hu=>hsb.lt hu
  have hj2:j2<s2.n:=a2.lt (uses_sref.2 rfl)
  have hM2:s2.get M=some (.map (pent (acc.map (·.1)++[p]) 0)):=by rw [a4 M (by omega) fun hu=>(hF.dp _ hu).2.2 rfl];exact hM1
  have hold2:∀ id,Kp id→s2.get id=s0.get id:=fun id hid=>by
   obtain ⟨k1,k2,k3,k4,k5⟩:=hF.kp id hid
   rw [a4 id (by omega) k4,ho1 id k3]
   exact hF.old id hid
  have hsb2:SkC s2 bv 1 (ints (acc.map (·.2))) acc.length:=hsb.mono a3 fun id hu=>a4 id (hbn id hu) fun hu'=>hF.dd id hu' hu
  have hg3:(s2.put jf (.cells .mut [.mref M, .sref j2 0 (acc.length+1) 2,bv])).get jf=some (.cells .mut [.mref M, .sref j2 0 (acc.length+1) 2,bv]):=by rw [St.get_put,if_pos rfl]
  have hn3:(s2.put jf (.cells .mut [.mref M, .sref j2 0 (acc.length+1) 2,bv])).n=s2.n:=rfl
  have ho3:∀ id,id≠jf→(s2.put jf (.cells .mut [.mref M, .sref j2 0 (acc.length+1) 2,bv])).get id=s2.get id:=fun id h=>by rw [St.get_put,if_neg h]
  generalize s2.put jf (.cells .mut [.mref M, .sref j2 0 (acc.length+1) 2,bv])=s3 at hg3 hn3 ho3
  have hsb3:SkC s3 bv 1 (ints (acc.map (·.2))) acc.length:=hsb2.mono (by omega) fun id hu=>ho3 id (hF.db id hu).2.1
  refine q_appC (n:=acc.length) (esz:=1) (xv:=.int .i64 b) (yv:=bv) (vs:=[.int .i64 b]) ef rfl rfl rfl rfl ef hsb3 (by decide) (by omega) (fun s4 j4 b1 b2 b3 b4=>?_)
  have hg4:s4.get jf=some (.cells .mut [.mref M, .sref j2 0 (acc.length+1) 2,bv]):=by rw [b4 jf (by omega) fun hu=>(hF.db _ hu).2.1 rfl];exact hg3
  repeat' (first | refine gA @pcell_take ?_ | (refine gB @pcell_take ?_;intro bb hbb;cases bb<;>(try simp only [hbs,if_false,reduceCtorEq] at hbb)) | fail)
  have hj4:j4<s4.n:=b2.lt (uses_sref.2 rfl)
  refine ⟨.inl trivial, .sref j2 0 (acc.length+1) 2, .sref j4 0 (acc.length+1) 1,?_⟩
  have hpt:∀ id,id<s2.n→id≠jf→¬ uses bv id→(s4.put jf (.cells .mut [.mref M, .sref j2 0 (acc.length+1) 2, .sref j4 0 (acc.length+1) 1])).get id=s2.get id:=fun id h1 h2 h3=>by
   rw [St.get_put,if_neg h2,b4 id (by omega) h3,ho3 id h2]
  have hle:=hF.le
  have hm0:=hF.m0
  have hj0:=hF.j0
  refine ⟨by rw [St.n_put];omega,hj0,by rw [St.n_put];omega,hm0,by rw [St.n_put];omega,hjm,by rw [St.get_put,if_pos rfl],?_,?_,?_,fun id hu=>?_,fun id hu=>?_,fun id hu hu'=>?_,fun id hid=>?_,fun id hid=>?_⟩
  ·rw [hpt M (by omega) hjm fun hu=>(hF.db _ hu).2.2 rfl,hM2];simp
  ·have h5:SkC (s4.put jf (.cells .mut [.mref M, .sref j2 0 (acc.length+1) 2, .sref j4 0 (acc.length+1) 1])) (.sref j2 0 (acc.length+1) 2) 2 (pcells (acc.map (·.1))++pcell p) (acc.length+1):=a2.mono (by rw [St.n_put];omega) fun id hu=>by
    obtain rfl:=uses_sref.1 hu
    exact hpt id hj2 (by omega) fun hu'=>by have:=hbn _ hu';omega
   have h6:pcells ((acc++[(p,b)]).map (·.1))=pcells (acc.map (·.1))++pcell p:=by simp [pcells_append,pcells,pcell]
   rw [h6]
   simpa using h5
  ·have h5:SkC (s4.put jf (.cells .mut [.mref M, .sref j2 0 (acc.length+1) 2, .sref j4 0 (acc.length+1) 1])) (.sref j4 0 (acc.length+1) 1) 1 (ints (acc.map (·.2))++[.int .i64 b]) (acc.length+1):=b2.mono (by rw [St.n_put];omega) fun id hu=>by
    obtain rfl:=uses_sref.1 hu
    rw [St.get_put,if_neg (by omega)]
   have h6:ints ((acc++[(p,b)]).map (·.2))=ints (acc.map (·.2))++[.int .i64 b]:=by simp [ints]
   rw [h6]
   simpa using h5
  ·obtain rfl:=uses_sref.1 hu
   exact ⟨by omega,by omega,by omega⟩
  ·obtain rfl:=uses_sref.1 hu
   exact ⟨by omega,by omega,by omega⟩
  ·obtain rfl:=uses_sref.1 hu
   have:=uses_sref.1 hu'
   omega
  ·obtain ⟨k1,k2,k3,k4,k5⟩:=hF.kp id hid
   exact ⟨by rw [St.n_put];omega,k2,k3,fun hu=>by have:=uses_sref.1 hu;omega,fun hu=>by have:=uses_sref.1 hu;omega⟩
  ·obtain ⟨k1,k2,k3,k4,k5⟩:=hF.kp id hid
   rw [hpt id (by omega) k2 k5]
   exact hold2 id hid
end Go.Proofs.YtgobbogomchnhaaGreatDoor
