/- parity's search in memory; what is asked of its maps. -/
import Derived.Test.YtkbiecjdcjfhaaaPtxt
import Derived.Test.YtkbiecjdcjfhaaaTstp
import Derived.Test.YtkbiecjdcjfhaaaRecstp
set_option linter.unusedSimpArgs false
set_option linter.unusedVariables false
namespace Go.Proofs.Ytkbiecjdcjfhaaa
open Go Go.Pv Go.Tre
open Classical
theorem text_sx {s:St} {v:LV} {l:List Int} (h:Sx s v (ints l) l.length) (hr:∀ x∈l,inI64 x) (hl:l.length≤100000):CallOk Try.prog GL (.fn (.func 50) [] []) [v] s (fun r s'=>r = .str ⟨(txt l).toArray⟩∧s'.n=s.n∧∀ id,¬ uses v id→s'.get id=s.get id):=by
  have hmx:maxLen=9223372036854775807:=by decide
  obtain ⟨h0,⟨rfl,h1⟩ | ⟨j,rfl,h2,h3⟩⟩:=h
  · have hl0:l=[]:=List.length_eq_zero_iff.1 h1
    subst hl0
    exact pure_call hG0 (text_ok ⟨.nil,by simp,fun x hx=>by cases hx⟩ (by simp)) ⟨rfl,rfl,fun _ _=>rfl⟩
  · have h4:frz frzDepth (.sref j 0 l.length 1) s=some (.simm (ints l) l.length,s.put j (.cells .app (ints l))):=frz_srefN (len:=l.length) 38 h3 (by simp) (ints_closed _)
    refine call_frz (args':=[.simm (ints l) l.length]) (s':=s.put j (.cells .app (ints l))) (by simp only [frz.frzAll,h4,Option.bind_eq_bind,Option.bind_some]) (pure_call hG0 (text_ok ⟨.simm _ _,by omega,hr⟩ hl) ⟨rfl,rfl,fun id hid=>by rw [St.get_put,if_neg fun e=>hid (uses_sref.2 e)]⟩)
section
variable {α:Type}
def kd (key:α→List UInt8):Nat→List α→List (List UInt8 × LV)
  | _,[]=>[]
  | i,x::l=>(key x, .int .i64 (i:Int))::kd key (i+1) l
noncomputable def idxK (key:α→List UInt8) (l:List α) (k:List UInt8):Nat:=l.findIdx fun x=>decide (key x=k)
theorem idxK_le (key:α→List UInt8) (l:List α) (k:List UInt8):idxK key l k≤l.length:=List.findIdx_le_length
theorem kd_append (key:α→List UInt8):∀ (l m:List α) (i:Nat),kd key i (l++m)=kd key i l++kd key (i+l.length) m
  | [],m,i=>by simp [kd]
  | x::l,m,i=>by simp [kd,kd_append key l m (i+1),Nat.add_assoc,Nat.add_comm 1]
theorem kd_look (key:α→List UInt8) (k:List UInt8):∀ (l:List α) (i:Nat),lookG (kd key i l) k=if idxK key l k<l.length then some (.int .i64 ((i+idxK key l k:Nat):Int)) else none
  | [],i=>by simp [kd,lookG]
  | x :: l, i => by
    have ih:=kd_look key k l (i+1)
    by_cases h:key x=k
    · have e:idxK key (x::l) k=0:=by unfold idxK;rw [List.findIdx_cons];simp [h]
      rw [e]
      simp only [kd,lookG]
      rw [if_pos h.symm,if_pos (by simp)];rfl
    · have e:idxK key (x::l) k=idxK key l k+1:=by unfold idxK;rw [List.findIdx_cons];simp [h]
      rw [e]
      simp only [kd,lookG]
      rw [if_neg (fun h2=>h h2.symm),ih,List.length_cons]
      by_cases h3:idxK key l k<l.length
      · rw [if_pos h3,if_pos (by omega)];congr 3;omega
      · rw [if_neg h3,if_neg (by omega)]
theorem kd_up (key:α→List UInt8) (l:List α) (x:α) (h:¬ idxK key l (key x)<l.length):upG (kd key 0 l) (key x) (.int .i64 (l.length:Int))=kd key 0 (l++[x]):=by
  rw [up_new (by rw [kd_look,if_neg h]),kd_append]
  simp [kd]
noncomputable def addK (key:α→List UInt8) (l:List α) (x:α):List α:=if idxK key l (key x)<l.length then l else l++[x]
theorem idxK_add (key:α→List UInt8) (l:List α) (x:α):idxK key l (key x)<(addK key l x).length:=by
  unfold addK
  have:=idxK_le key l (key x)
  split
  · assumption
  · rw [List.length_append,List.length_singleton];omega
theorem addK_pre (key:α→List UInt8) (l:List α) (x:α):∃ m,addK key l x=l++m∧m.length≤1:=by
  unfold addK
  split
  · exact ⟨[],by simp,by simp⟩
  · exact ⟨[x],rfl,by simp⟩
theorem idxK_pre (key:α→List UInt8) (l m:List α) (k:List UInt8) (h:idxK key l k<l.length):idxK key (l++m) k=idxK key l k:=by
  unfold idxK at *
  rw [List.findIdx_append,if_pos h]
end
def numsT (t:List Nd):List Int:=t.flatMap fun n=>n.name::(n.par+1)::(n.set.length:Int)::n.set
def keyT (t:List Nd):List UInt8:=txt (numsT t)
structure TrB (t:List Nd):Prop where
  len:t.length≤30
  set:∀ n∈t,n.set.length≤3000
  par:∀ n∈t,-1≤n.par∧n.par≤6000
theorem numsT_len {t:List Nd} (h:∀ n∈t,n.set.length≤3000):(numsT t).length≤t.length*3003:=by
  induction t with
  | nil=>simp [numsT]
  | cons n t ih=>
    have h1:=ih fun m hm=>h m (by simp [hm])
    have h2:=h n (by simp)
    have e:numsT (n::t)=(n.name::(n.par+1)::(n.set.length:Int)::n.set)++numsT t:=by simp [numsT]
    rw [e,List.length_append,List.length_cons]
    simp only [List.length_cons]
    omega
def lo15 (x:Int):Int:=IntKind.i64.wrap ((BitVec.ofInt 64 x &&& BitVec.ofInt 64 32767).toNat)
def numsX (x:Nat × List Int):List Int:=(x.1:Int).fdiv 32768::lo15 x.1::x.2
def keyX (x:Nat × List Int):List UInt8:=txt (numsX x)
def srow (r:Nat × LV × LV):List LV:=[.int .i64 (r.1:Int),r.2.1,r.2.2]
theorem srow_len (r:Nat × LV × LV):(srow r).length=3:=rfl
def Memo (s:St) (B:Bu) (ts:List (List Nd)) (t:List Nd) (v:LV):Prop:=v = .nils∨∃ j rows,v = .sref j 0 rows.length 3∧s.get j=some (.cells .mut (wcl srow rows))∧(rows.length:Int)=B.L ∧
  ∀ a,a<rows.length→(rows.getD a default).1=idxK keyT ts (keyT (stT B t a))∧(rows.getD a default).1<ts.length∧IsInts (rows.getD a default).2.1 (stG B t a)∧IsInts (rows.getD a default).2.2 (stB B t a)
theorem Memo.keep {s s':St} {B:Bu} {ts:List (List Nd)} {t:List Nd} {v:LV} (h:Memo s B ts t v) (hs:∀ id,uses v id→s'.get id=s.get id):Memo s' B ts t v:=by
  rcases h with h | ⟨j,rows,rfl,h1,h2⟩
  · exact .inl h
  · exact .inr ⟨j,rows,rfl,(hs j (uses_sref.2 rfl)).trans h1,h2⟩
theorem Memo.more {s:St} {B:Bu} {ts m:List (List Nd)} {t:List Nd} {v:LV} (h:Memo s B ts t v):Memo s B (ts++m) t v:=by
  rcases h with h | ⟨j,rows,rfl,h1,h2,h3⟩
  · exact .inl h
  · refine .inr ⟨j,rows,rfl,h1,h2,fun a ha=>?_⟩
    obtain ⟨k1,k2,k3⟩:=h3 a ha
    exact ⟨by rw [idxK_pre _ _ _ _ (k1 ▸ k2)];exact k1,by rw [List.length_append];omega,k3⟩
def xrow (r:Nat × LV):List LV:=[.int .i64 (r.1:Int),r.2]
theorem xrow_len (r:Nat × LV):(xrow r).length=2:=rfl
structure SX (s:St) (Z:Nat) (B:Bu) (sv nv:LV) (most:Int) (ts:List (List Nd)) (xs:List (Nat × List Int)) (O F:Nat→Prop) (tv pv xv:LV) (TN SN:Nat) (tcs pcs:List LV) (xr:List (Nat × LV)):Prop where
  blk:s.get Z=some (.cells .mut [.int .i64 B.L,sv,nv, .int .i64 most,tv,pv, .mref TN,xv, .mref SN])
  t:SkC s tv 1 tcs ts.length
  p:SkC s pv 1 pcs ts.length
  x:SkC s xv 2 (wcl xrow xr) xs.length
  tn:s.get TN=some (.map (mG embS (kd keyT 0 ts)))
  sn:s.get SN=some (.map (mG embS (kd keyX 0 xs)))
  tt:∀ i,i<ts.length→∃ rs,IsTr (tcs.getD i .top) (ts.getD i []) rs
  pm:∀ i,i<ts.length→Memo s B ts (ts.getD i []) (pcs.getD i .top)
  xl:xr.length=xs.length
  xx:∀ i,i<xs.length→(xr.getD i default).1=(xs.getD i default).1∧IsInts (xr.getD i default).2 (xs.getD i default).2
  oZ:O Z∧O TN∧O SN
  ou:∀ id,(uses tv id∨uses pv id∨uses xv id)→O id∧id≠Z
  om:∀ i,i<ts.length→∀ id,uses (pcs.getD i .top) id→F id
  fo:∀ id,F id→O id∧id≠Z∧id≠TN∧id≠SN∧¬ uses tv id∧¬ uses pv id∧¬ uses xv id
  ol:∀ id,O id→id<s.n
  d1:∀ id,uses tv id→¬ uses pv id
  d2:∀ id,uses tv id→¬ uses xv id
  d3:∀ id,uses pv id→¬ uses xv id
  ne:TN≠SN
section
variable {s s':St} {Z:Nat} {B:Bu} {sv nv:LV} {most:Int} {ts:List (List Nd)} {xs:List (Nat × List Int)} {O F:Nat→Prop} {tv pv xv:LV} {TN SN:Nat} {tcs pcs:List LV} {xr:List (Nat × LV)}
theorem SX.keep (h:SX s Z B sv nv most ts xs O F tv pv xv TN SN tcs pcs xr) (hn:s.n≤s'.n) (hs:∀ id,O id→s'.get id=s.get id):SX s' Z B sv nv most ts xs O F tv pv xv TN SN tcs pcs xr:=
  ⟨(hs Z h.oZ.1).trans h.blk,h.t.mono hn fun id hu=>hs id (h.ou id (.inl hu)).1,h.p.mono hn fun id hu=>hs id (h.ou id (.inr (.inl hu))).1,h.x.mono hn fun id hu=>hs id (h.ou id (.inr (.inr hu))).1,(hs TN h.oZ.2.1).trans h.tn,(hs SN h.oZ.2.2).trans h.sn,h.tt,fun i hi=>(h.pm i hi).keep fun id hu=>hs id (h.fo id (h.om i hi id hu)).1,h.xl,h.xx,h.oZ,h.ou,h.om,h.fo,fun id ho=>by have:=h.ol id ho;omega,h.d1,h.d2,h.d3,h.ne⟩
theorem SX.wide {O':Nat→Prop} (h:SX s Z B sv nv most ts xs O F tv pv xv TN SN tcs pcs xr) (ho:∀ id,O id→O' id) (hl:∀ id,O' id→id<s.n):SX s Z B sv nv most ts xs O' F tv pv xv TN SN tcs pcs xr:=
  ⟨h.blk,h.t,h.p,h.x,h.tn,h.sn,h.tt,h.pm,h.xl,h.xx,⟨ho _ h.oZ.1,ho _ h.oZ.2.1,ho _ h.oZ.2.2⟩,fun id hu=>⟨ho _ (h.ou id hu).1,(h.ou id hu).2⟩,h.om,fun id hf=>⟨ho _ (h.fo id hf).1,(h.fo id hf).2⟩,hl,h.d1,h.d2,h.d3,h.ne⟩
theorem map_ne {a b:Nat} {es:List (LV × LV)} {m:Md} {cs:List LV} (ha:s.get a=some (.map es)) (hb:s.get b=some (.cells m cs)):a≠b:=by
  rintro rfl
  rw [ha] at hb
  cases hb
theorem SkC.notmap {v:LV} {esz n:Nat} {cells:List LV} {M:Nat} {es:List (LV × LV)} (h:SkC s v esz cells n) (hm:s.get M=some (.map es)):¬ uses v M:=fun hu=>by
  obtain ⟨_,⟨rfl,_⟩ | ⟨j,rfl,_,_,h3⟩⟩:=h
  · exact uses_nils M hu
  · have:=uses_sref.1 hu
    subst this
    rw [h3] at hm
    cases hm
theorem SX.addT (h:SX s Z B sv nv most ts xs O F tv pv xv TN SN tcs pcs xr) {t:List Nd} {tv0:LV} (htr:∃ rs,IsTr tv0 t rs) {tv' pv':LV} (hn:s.n≤s'.n) (hblk:s'.get Z=some (.cells .mut [.int .i64 B.L,sv,nv, .int .i64 most,tv',pv', .mref TN,xv, .mref SN]))
    (htn:s'.get TN=some (.map (mG embS (kd keyT 0 (ts++[t]))))) (htv:SkC s' tv' 1 (tcs++[tv0]) (ts.length+1)) (hft:∀ id,uses tv' id→s.n≤id) (hpv:SkC s' pv' 1 (pcs++[.nils]) (ts.length+1)) (hfp:∀ id,uses pv' id→s.n≤id) (hd:∀ id,uses tv' id→¬ uses pv' id)
    (ho:∀ id,id<s.n→id≠Z→id≠TN→¬ uses tv id→¬ uses pv id→s'.get id=s.get id):SX s' Z B sv nv most (ts++[t]) xs (fun id=>O id∨s.n≤id∧id<s'.n) F tv' pv' xv TN SN (tcs++[tv0]) (pcs++[.nils]) xr:=by
  have hl:(ts++[t]).length=ts.length+1:=by simp
  have htl:tcs.length=ts.length:=by have:=h.t.1;omega
  have hpl:pcs.length=ts.length:=by have:=h.p.1;omega
  have hZ:=h.ol Z h.oZ.1
  have hgD:∀ {α:Type} (l:List α) (x d:α) (i:Nat),i<l.length→(l++[x]).getD i d=l.getD i d:=fun l x d i hi=>by simp [List.getD_eq_getElem?_getD,List.getElem?_append_left hi]
  have hgL:∀ {α:Type} (l:List α) (x d:α),(l++[x]).getD l.length d=x:=fun l x d=>by simp [List.getD_eq_getElem?_getD]
  have hxu:∀ id,uses xv id→s'.get id=s.get id:=fun id hu=>ho id (h.x.lt hu) (h.ou id (.inr (.inr hu))).2 (fun e=>SkC.notmap h.x (e ▸ h.tn) hu) (fun e=>h.d2 id e hu) fun e=>h.d3 id e hu
  refine ⟨hblk,by rw [hl];exact htv,by rw [hl];exact hpv,h.x.mono hn hxu,htn,?_,fun i hi=>?_,fun i hi=>?_,h.xl,h.xx,⟨.inl h.oZ.1, .inl h.oZ.2.1, .inl h.oZ.2.2⟩,fun id hu=>?_,fun i hi id hu=>?_,fun id hf=>?_,fun id hid=>?_,hd,fun id h1 h2=>by have:=hft id h1;have:=h.x.lt h2;omega,fun id h1 h2=>by have:=hfp id h1;have:=h.x.lt h2;omega,h.ne⟩
  · rw [ho SN (h.ol SN h.oZ.2.2) (map_ne h.sn h.blk) h.ne.symm (SkC.notmap h.t h.sn) (SkC.notmap h.p h.sn)]
    exact h.sn
  · rw [hl] at hi
    by_cases e:i<ts.length
    · rw [hgD ts t [] i e,hgD tcs tv0 .top i (by omega)];exact h.tt i e
    · have e2:i=ts.length:=by omega
      subst e2
      rw [hgL,← htl,hgL]
      exact htr
  · rw [hl] at hi
    by_cases e:i<ts.length
    · rw [hgD ts t [] i e,hgD pcs .nils .top i (by omega)]
      refine ((h.pm i e).keep fun id hu=>?_).more
      have hm:=h.fo id (h.om i e id hu)
      exact ho id (h.ol id hm.1) hm.2.1 hm.2.2.1 hm.2.2.2.2.1 hm.2.2.2.2.2.1
    · have e2:i=ts.length:=by omega
      subst e2
      rw [← hpl,hgL]
      exact .inl rfl
  · rcases hu with hu | hu | hu
    · have:=hft id hu;exact ⟨.inr ⟨this,htv.lt hu⟩,by omega⟩
    · have:=hfp id hu;exact ⟨.inr ⟨this,hpv.lt hu⟩,by omega⟩
    · have:=h.ou id (.inr (.inr hu));exact ⟨.inl this.1,this.2⟩
  · rw [hl] at hi
    by_cases e:i<ts.length
    · rw [hgD pcs .nils .top i (by omega)] at hu
      exact h.om i e id hu
    · have e2:i=ts.length:=by omega
      subst e2
      rw [← hpl,hgL] at hu
      exact absurd hu (uses_nils id)
  · have hm:=h.fo id hf
    have hlt:=h.ol id hm.1
    exact ⟨.inl hm.1,hm.2.1,hm.2.2.1,hm.2.2.2.1,fun h2=>by have:=hft id h2;omega,fun h2=>by have:=hfp id h2;omega,hm.2.2.2.2.2.2⟩
  · rcases hid with hid | hid
    · have:=h.ol id hid;omega
    · exact hid.2
theorem SX.addX (h:SX s Z B sv nv most ts xs O F tv pv xv TN SN tcs pcs xr) {x:Nat × List Int} {rv:LV} (hrv:IsInts rv x.2) {xv':LV} (hn:s.n≤s'.n) (hblk:s'.get Z=some (.cells .mut [.int .i64 B.L,sv,nv, .int .i64 most,tv,pv, .mref TN,xv', .mref SN]))
    (hsn:s'.get SN=some (.map (mG embS (kd keyX 0 (xs++[x]))))) (hxv:SkC s' xv' 2 (wcl xrow xr++xrow (x.1,rv)) (xs.length+1)) (hfx:∀ id,uses xv' id→s.n≤id)
    (ho:∀ id,id<s.n→id≠Z→id≠SN→¬ uses xv id→s'.get id=s.get id):SX s' Z B sv nv most ts (xs++[x]) (fun id=>O id∨s.n≤id∧id<s'.n) F tv pv xv' TN SN tcs pcs (xr++[(x.1,rv)]):=by
  have hl:(xs++[x]).length=xs.length+1:=by simp
  have hZ:=h.ol Z h.oZ.1
  have hxl:=h.xl
  refine ⟨hblk,h.t.mono hn fun id hu=>ho id (h.t.lt hu) (h.ou id (.inl hu)).2 (fun e=>SkC.notmap h.t (e ▸ h.sn) hu) (h.d2 id hu),h.p.mono hn fun id hu=>ho id (h.p.lt hu) (h.ou id (.inr (.inl hu))).2 (fun e=>SkC.notmap h.p (e ▸ h.sn) hu) (h.d3 id hu),by rw [hl,wcl_append,wcl_one];exact hxv,?_,hsn,h.tt,fun i hi=>(h.pm i hi).keep fun id hu=>?_,by simp [hxl],fun i hi=>?_,⟨.inl h.oZ.1, .inl h.oZ.2.1, .inl h.oZ.2.2⟩,fun id hu=>?_,h.om,fun id hf=>?_,fun id hid=>?_,h.d1,fun id h1 h2=>by have:=hfx id h2;have:=h.t.lt h1;omega,fun id h1 h2=>by have:=hfx id h2;have:=h.p.lt h1;omega,h.ne⟩
  · rw [ho TN (h.ol TN h.oZ.2.1) (map_ne h.tn h.blk) h.ne (SkC.notmap h.x h.tn)]
    exact h.tn
  · have hm:=h.fo id (h.om i hi id hu)
    exact ho id (h.ol id hm.1) hm.2.1 hm.2.2.2.1 hm.2.2.2.2.2.2
  · rw [hl] at hi
    by_cases e:i<xs.length
    · have e1:(xr++[(x.1,rv)]).getD i default=xr.getD i default:=by simp [List.getD_eq_getElem?_getD,List.getElem?_append_left (show i<xr.length by omega)]
      have e2:(xs++[x]).getD i default=xs.getD i default:=by simp [List.getD_eq_getElem?_getD,List.getElem?_append_left e]
      rw [e1,e2];exact h.xx i e
    · have e0:i=xs.length:=by omega
      subst e0
      have e1:(xr++[(x.1,rv)]).getD xs.length default=(x.1,rv):=by rw [← hxl];simp [List.getD_eq_getElem?_getD]
      have e2:(xs++[x]).getD xs.length default=x:=by simp [List.getD_eq_getElem?_getD]
      rw [e1,e2];exact ⟨rfl,hrv⟩
  · rcases hu with hu | hu | hu
    · have:=h.ou id (.inl hu);exact ⟨.inl this.1,this.2⟩
    · have:=h.ou id (.inr (.inl hu));exact ⟨.inl this.1,this.2⟩
    · have:=hfx id hu;exact ⟨.inr ⟨this,hxv.lt hu⟩,by omega⟩
  · have hm:=h.fo id hf
    have hlt:=h.ol id hm.1
    exact ⟨.inl hm.1,hm.2.1,hm.2.2.1,hm.2.2.2.1,hm.2.2.2.2.1,hm.2.2.2.2.2.1,fun h2=>by have:=hfx id h2;omega⟩
  · rcases hid with hid | hid
    · have:=h.ol id hid;omega
    · exact hid.2
end
def SR (s:St) (Z:Nat) (B:Bu) (sv nv:LV) (most:Int) (ts:List (List Nd)) (xs:List (Nat × List Int)) (O F:Nat→Prop):Prop:=∃ tv pv xv TN SN tcs pcs xr,SX s Z B sv nv most ts xs O F tv pv xv TN SN tcs pcs xr
end Go.Proofs.Ytkbiecjdcjfhaaa
