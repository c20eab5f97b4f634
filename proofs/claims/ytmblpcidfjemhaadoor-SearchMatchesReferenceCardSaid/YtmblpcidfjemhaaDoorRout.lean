/- An automaton while a reference makes it: its rows taken by value. -/
import Derived.Test.YtmblpcidfjemhaaDoorBinsert
import Derived.Test.YtmblpcidfjemhaaDoorTsort
import Derived.Test.YtmblpcidfjemhaaDoorBsame
import Derived.Test.YtmblpcidfjemhaaDoorPboth
set_option linter.unusedSimpArgs false
set_option linter.unusedVariables false
section
set_option linter.unusedSimpArgs false
set_option linter.unusedVariables false
namespace Go.Proofs.YtmblpcidfjemhaaDoor
open Go Go.Pv
open Classical
def OU (ob:Nat) (stv nxv:LV) (id:Nat):Prop:=id=0∨id=ob∨uses stv id∨uses nxv id
structure OB (s:St) (ob:Nat) (L:Int) (stv nxv:LV) (st:List Int) (nx:List (List Moves)):Prop where
  o0:0<ob
  on:ob<s.n
  g0:s.get 0=some (.cells .mut [.int .i64 0, .nils, .nils])
  g1:s.get ob=some (.cells .mut [.int .i64 L,stv,nxv])
  ss:SkE s stv 1 (ints st) st.length
  rows:∃ rvs,rvs.length=nx.length∧SkE s nxv 1 rvs nx.length∧∀ i,i<nx.length→IsRowM (rvs.getD i .top) (nx.getD i [])
  lo:∀ id,uses stv id∨uses nxv id→ob<id
  dj:∀ id,uses stv id→¬ uses nxv id
theorem OB.keep {s s':St} {ob:Nat} {L:Int} {stv nxv:LV} {st:List Int} {nx:List (List Moves)} (h:OB s ob L stv nxv st nx) (hn:s.n≤s'.n) (hs:∀ id,OU ob stv nxv id→s'.get id=s.get id):OB s' ob L stv nxv st nx:=by
  have on:=h.on
  obtain ⟨rvs,h1,h2,h3⟩:=h.rows
  exact ⟨h.o0,by omega,by rw [hs 0 (.inl rfl)];exact h.g0,by rw [hs ob (.inr (.inl rfl))];exact h.g1,h.ss.mono hn fun id hu=>hs id (.inr (.inr (.inl hu))),⟨rvs,h1,h2.mono hn fun id hu=>hs id (.inr (.inr (.inr hu))),h3⟩,h.lo,h.dj⟩
theorem OB.lt {s:St} {ob:Nat} {L:Int} {stv nxv:LV} {st:List Int} {nx:List (List Moves)} (h:OB s ob L stv nxv st nx) {id:Nat} (hu:OU ob stv nxv id):id<s.n:=by
  have on:=h.on
  have o0:=h.o0
  obtain ⟨rvs,h1,h2,h3⟩:=h.rows
  rcases hu with rfl | rfl | hu | hu
  · omega
  · exact on
  · exact h.ss.lt hu
  · exact h2.lt hu
theorem OB.start {s s3:St} {ob:Nat} {L:Int} {stv nxv:LV} {st:List Int} {nx:List (List Moves)} {z:Int} {j:Nat} (h:OB s ob L stv nxv st nx) (hj:s.n≤j) (hS:SkC s3 (.sref j 0 (st.length+1) 1) 1 (ints st++[.int .i64 z]) (st.length+1)) (hn:s.n≤s3.n) (hk:∀ id,id<s.n→¬ uses stv id→s3.get id=s.get id) :
    OB (s3.put ob (.cells .mut [.int .i64 L, .sref j 0 (st.length+1) 1,nxv])) ob L (.sref j 0 (st.length+1) 1) nxv (st++[z]) nx:=by
  have on:=h.on
  have o0:=h.o0
  obtain ⟨rvs,h1,h2,h3⟩:=h.rows
  refine ⟨o0,by rw [St.n_put];omega,by rw [St.get_put,if_neg (by omega),hk 0 (by omega) fun hu=>by have:=h.lo 0 (.inl hu);omega];exact h.g0,by rw [St.get_put,if_pos rfl],?_,⟨rvs,h1,h2.mono (by rw [St.n_put];exact hn) fun id hu=>?_,h3⟩,fun id hu=>?_,fun id hu hu'=>?_⟩
  · have e1:ints (st++[z])=ints st++[.int .i64 z]:=by simp [ints]
    rw [e1,List.length_append]
    exact (SkC.e hS).mono (by rw [St.n_put];exact Nat.le_refl _) fun id hu=>by rw [St.get_put,if_neg (by have:=uses_sref.1 hu;omega)]
  · rw [St.get_put,if_neg (by have:=h.lo id (.inr hu);omega)]
    exact hk id (h2.lt hu) fun hu'=>h.dj id hu' hu
  · rcases hu with hu | hu
    · have:=uses_sref.1 hu;omega
    · exact h.lo id (.inr hu)
  · have:=uses_sref.1 hu
    have:=h2.lt hu'
    omega
theorem OB.row {s s3:St} {ob:Nat} {L:Int} {stv nxv v':LV} {st:List Int} {nx:List (List Moves)} {row:List Moves} {j:Nat} {rvs:List LV} {T:Nat→Prop} (h:OB s ob L stv nxv st nx) (hT:∀ id,T id→¬ OU ob stv nxv id) (h1:rvs.length=nx.length) (h3:∀ i,i<nx.length→IsRowM (rvs.getD i .top) (nx.getD i [])) (hv:IsRowM v' row) (hj:s.n≤j) (hS:SkC s3 (.sref j 0 (nx.length+1) 1) 1 (rvs++[v']) (nx.length+1)) (hn:s.n≤s3.n) (hk:∀ id,id<s.n→¬ uses nxv id→¬ T id→s3.get id=s.get id) :
    OB (s3.put ob (.cells .mut [.int .i64 L,stv, .sref j 0 (nx.length+1) 1])) ob L stv (.sref j 0 (nx.length+1) 1) st (nx++[row]):=by
  have on:=h.on
  have o0:=h.o0
  refine ⟨o0,by rw [St.n_put];omega,by rw [St.get_put,if_neg (by omega),hk 0 (by omega) (fun hu=>by have:=h.lo 0 (.inr hu);omega) fun ht=>hT 0 ht (.inl rfl)];exact h.g0,by rw [St.get_put,if_pos rfl],?_,⟨rvs++[v'],by simp [h1],?_,fun i hi=>?_⟩,fun id hu=>?_,fun id hu hu'=>?_⟩
  · exact h.ss.mono (by rw [St.n_put];exact hn) fun id hu=>by
      rw [St.get_put,if_neg (by have:=h.lo id (.inl hu);omega)]
      exact hk id (h.ss.lt hu) (h.dj id hu) fun ht=>hT id ht (.inr (.inr (.inl hu)))
  · rw [List.length_append]
    exact (SkC.e hS).mono (by rw [St.n_put];exact Nat.le_refl _) fun id hu=>by rw [St.get_put,if_neg (by have:=uses_sref.1 hu;omega)]
  · by_cases he:i=nx.length
    · subst he
      rw [List.getD_eq_getElem?_getD,List.getElem?_append_right (by omega),h1,Nat.sub_self,List.getD_eq_getElem?_getD,List.getElem?_append_right (by omega),Nat.sub_self]
      exact hv
    · have hi':i<nx.length:=by simp at hi;omega
      rw [List.getD_eq_getElem?_getD,List.getElem?_append_left (by omega),← List.getD_eq_getElem?_getD,List.getD_eq_getElem?_getD (l:=nx++[row]),List.getElem?_append_left (by omega),← List.getD_eq_getElem?_getD]
      exact h3 i hi'
  · rcases hu with hu | hu
    · exact h.lo id (.inl hu)
    · have:=uses_sref.1 hu;omega
  · have:=uses_sref.1 hu'
    have:=h.ss.lt hu
    omega
theorem OB.fz {s:St} {ob:Nat} {stv nxv:LV} {C:Bu} (h:OB s ob C.L stv nxv C.start C.next) (h1:C.start.length≤1048576) (h2:C.next.length≤1048576) (hr:∀ x∈C.start,inI64 x) {S:St} (hS:∀ id,uses stv id∨uses nxv id→S.get id=s.get id) :
    ∃ r s' sv nv,frz frzDepth (.agg [.int .i64 C.L,stv,nxv]) S=some (r,s')∧IsB r C sv nv:=by
  obtain ⟨rvs,k1,k2,k3⟩:=h.rows
  have hmx:maxLen=9223372036854775807:=by decide
  have f1:FZ (uses stv) (fun v'=>IsInts v' C.start) 39 stv s:=(fz_ske 37 h.ss (ints_cl' _)).mono fun v hv=>⟨hv,by omega,hr⟩
  have f2:FZ (uses nxv) (fun v'=>IsNext v' C.next) 39 nxv s:=(fz_ske 37 k2 (closedAll_of fun i hi=>(k3 i (by omega)).closed)).mono fun v hv=>⟨rvs,hv,k1,by omega,k3⟩
  exact frz_aut (f1.stable (s':=S) fun id hid=>hS id (.inl hid)) (f2.stable (s':=S) fun id hid=>hS id (.inr hid)) h.dj
structure RW (s:St) (v:LV) (row:List Moves) (cells:List LV):Prop where
  len:cells.length=row.length
  sk:SkE s v 1 cells row.length
  el:∀ i,i<row.length→IsMoves (cells.getD i .top) (row.getD i [])
theorem RW.keep {s s':St} {v:LV} {row:List Moves} {cells:List LV} (h:RW s v row cells) (hn:s.n≤s'.n) (hs:∀ id,uses v id→s'.get id=s.get id):RW s' v row cells:=⟨h.len,h.sk.mono hn hs,h.el⟩
theorem RW.fz {s:St} {v:LV} {row:List Moves} {cells:List LV} (h:RW s v row cells) (hl:row.length≤1048576):FZ (uses v) (fun v'=>IsRowM v' row) frzDepth v s:=
  (fz_ske 38 h.sk (closedAll_of fun i hi=>(h.el i (by have:=h.len;omega)).closed)).mono fun v' hv=>⟨cells,hv,h.len,by
    have hmx:maxLen=9223372036854775807:=by decide
    omega,h.el⟩
theorem RW.app {s s3:St} {v v':LV} {row:List Moves} {cells:List LV} {ms:Moves} {j:Nat} (h:RW s v row cells) (hv:IsMoves v' ms) (hS:SkC s3 (.sref j 0 (row.length+1) 1) 1 (cells++[v']) (row.length+1)):RW s3 (.sref j 0 (row.length+1) 1) (row++[ms]) (cells++[v']):=by
  have h1:=h.len
  refine ⟨by simp [h1],by rw [List.length_append];exact SkC.e hS,fun i hi=>?_⟩
  by_cases he:i=row.length
  · subst he
    rw [List.getD_eq_getElem?_getD,List.getElem?_append_right (by omega),h1,Nat.sub_self,List.getD_eq_getElem?_getD,List.getElem?_append_right (by omega),Nat.sub_self]
    exact hv
  · have hi':i<row.length:=by simp at hi;omega
    rw [List.getD_eq_getElem?_getD,List.getElem?_append_left (by omega),← List.getD_eq_getElem?_getD,List.getD_eq_getElem?_getD (l:=row++[ms]),List.getElem?_append_left (by omega),← List.getD_eq_getElem?_getD]
    exact h.el i hi'
theorem q_appEk {P:Program} {G:Globs} {K:Env→St→Prop} {l:List LOper} {e:Env} {s:St} {fl fl':Bool} {chk:List (Nat × Option (Nat × Bool) × LOp)} {a b bytes esz n:Nat} {x y:Opd} {z:List LV} {xv yv:LV} {vs cells:List LV} (hx:x.ev e=xv) (hxc:cells? xv=some vs) (hz:z.length=esz) (hvs:vs.length=esz) (hcl:LV.closed.closedAll vs=true) (hy:y.ev (Tr.set e a (.sref s.n 0 1 esz))=yv) (hs:SkE s yv esz cells n) (hck:Chks chk (Tr.set e a (.sref s.n 0 1 esz)) (s.new (.cells .mut vs))) (hb:bytes≤2 ^ 10) (hl:n≤2 ^ 20)
    (h:∀ s' j,s.n≤j→SkC s' (.sref j 0 (n+1) esz) esz (cells++vs) (n+1)→s.n≤s'.n→(∀ id,id<s.n→¬ uses yv id→s'.get id=s.get id)→W P G K l (Tr.set (Tr.set e a (.sref s.n 0 1 esz)) b (.sref j 0 (n+1) esz)) s') :
    W P G K (⟨some a, .bslice esz 1 z [(0,(esz,x))],none,chk,fl⟩::⟨some b, .append esz bytes y (.t a),none,[],fl'⟩::l) e s:=by
  obtain ⟨hcl0,⟨rfl,rfl⟩ | ⟨j,rfl,h2,h3⟩⟩:=hs
  · exact q_appK hx hxc hz hvs hcl hy (n:=0) (cells:=cells) ⟨hcl0, .inl ⟨rfl,rfl⟩⟩ hck hb hl h
  · have hfill:fillParts (rep 1 z) (evParts e [(0,(esz,x))])=some vs:=by
      have h1:splice z 0 vs=vs:=by
        have:=splice_all (vs:=vs) (z:=z) (by rw [hz,hvs])
        exact this
      have hr1:rep 1 z=z:=by simp [rep]
      simp only [evParts,List.map,hr1,fillParts,hx,hxc,hvs]
      rw [if_pos ⟨trivial,by rw [hz];omega⟩,h1]
    refine q_gen (v:=.sref s.n 0 1 esz) (s':=s.new (.cells .mut vs)) rfl (by simp only [LOp.run,hfill,Option.bind_eq_bind,Option.bind_some]) (by cases fl<;>rfl) hck ?_
    simp only [Env.put_some]
    have hr:rowOf (s.new (.cells .mut vs)) esz 1 (.sref s.n 0 1 esz)=some vs:=by
      simp only [rowOf,St.get_new,if_true,Nat.le_refl,Nat.one_mul,Nat.zero_add,hvs,and_self,List.drop_zero]
      rw [List.take_of_length_le (by omega)]
    have hft:frzTry vs (s.new (.cells .mut vs))=(vs,s.new (.cells .mut vs)):=frzTry_all hcl
    have hbig:(n+1)*bytes≤big:=by
      have:(n+1)*bytes≤(2 ^ 20+1)*2 ^ 10:=Nat.mul_le_mul (by omega) hb
      unfold big;omega
    have hlen':(cells++vs).length=(n+1)*esz:=by rw [List.length_append,hcl0,hvs,Nat.add_mul,Nat.one_mul]
    have hg:(s.new (.cells .mut vs)).get j=some (.cells .mut cells):=by rw [St.get_new,if_neg (by omega)];exact h3
    have hap:appendLV esz bytes (.sref j 0 n esz) vs 1 (s.new (.cells .mut vs))=some (.sref (s.n+1) 0 (n+1) esz,((s.new (.cells .mut vs)).put j (.cells .ro [])).new (.cells .mut (cells++vs))):=by
      simp only [appendLV,if_true,hg,Nat.zero_add,hcl0,Nat.le_refl,hbig,hvs,Nat.one_mul,and_self,List.drop_zero]
      rw [List.take_of_length_le (by omega)]
      rfl
    refine q_append rfl hy (by simp) rfl hr hft hap ?_
    refine h _ (s.n+1) (by omega) ⟨hlen', .inr ⟨s.n+1,rfl,by omega,by simp,by rw [St.get_new,St.n_put,St.n_new,if_pos rfl]⟩⟩ (by simp;omega) fun id hid hu=>?_
    have hne:id≠j:=fun e=>hu (uses_sref.2 e)
    rw [St.get_new,St.n_put,St.n_new,if_neg (by omega),St.get_put,if_neg hne,St.get_new,if_neg (by omega)]
theorem q_appSb {P:Program} {G:Globs} {K:Env→St→Prop} {l:List LOper} {e:Env} {s:St} {fl:Bool} {chk:List (Nat × Option (Nat × Bool) × LOp)} {d a j n bytes:Nat} {x y:Opd} {yv:LV} {A cells:List LV} (hx:x.ev e = .sref j 0 a 1) (hg:s.get j=some (.cells .mut A)) (ha:A.length=a) (hy:y.ev e=yv) (hS:Sl yv cells n) (hc:LV.closed.closedAll cells=true) (hl:cells.length=n) (hbt:bytes≤2 ^ 10) (hb:a+n≤2 ^ 20)
    (hck:∀ s':St,s'.n=s.n+1→(∀ id,id<s.n→id≠j→s'.get id=s.get id)→Chks chk (Tr.set e d (.sref s.n 0 (a+n) 1)) s')
    (h:∀ s':St,s'.n=s.n+1→s'.get s.n=some (.cells .mut (A++cells))→(∀ id,id<s.n→id≠j→s'.get id=s.get id)→W P G K l (Tr.set e d (.sref s.n 0 (a+n) 1)) s'):W P G K (⟨some d, .append 1 bytes x y,none,chk,fl⟩::l) e s:=by
  have hlen:lenLV yv=some n:=by cases hS<;>rfl
  have hrow:rowOf s 1 n yv=some cells:=by
    cases hS with
    | nil=>rfl
    | zs=>rfl
    | simm=>exact rowOf_simm hl
  have b1:((s.put j (.cells .ro [])).new (.cells .mut (A++cells))).n=s.n+1:=rfl
  have b2:((s.put j (.cells .ro [])).new (.cells .mut (A++cells))).get s.n=some (.cells .mut (A++cells)):=by rw [St.get_new,St.n_put,if_pos rfl]
  have b3:∀ id,id<s.n→id≠j→((s.put j (.cells .ro [])).new (.cells .mut (A++cells))).get id=s.get id:=fun id h1 h2=>by rw [St.get_new,St.n_put,if_neg (by omega),St.get_put,if_neg h2]
  have hbig:(a+n)*bytes≤big:=by
    have:(a+n)*bytes≤2 ^ 20*2 ^ 10:=Nat.mul_le_mul hb hbt
    unfold big;omega
  have hap:appendLV 1 bytes (.sref j 0 a 1) cells n s=some (.sref s.n 0 (a+n) 1,(s.put j (.cells .ro [])).new (.cells .mut (A++cells))):=by
    simp only [appendLV,if_true,hg,Nat.zero_add,ha,Nat.mul_one,Nat.le_refl,hbig,hl,and_self,List.drop_zero]
    rw [← ha,List.take_length]
    rfl
  exact q_gen (v:=.sref s.n 0 (a+n) 1) (s':=(s.put j (.cells .ro [])).new (.cells .mut (A++cells))) rfl (by simp [LOp.run,hx,hy,hlen,hrow,frzTry_all hc,hap]) (by cases fl<;>rfl) (hck _ b1 b3) (h _ b1 b2 b3)
theorem chk_ld {d:Nat} {n:Option Nat} {x:Opd} {p v:LV} {e:Env} {s:St} (hx:x.ev e=p) (hl:loadLV n p s=some v) (hd:e.at d=v):wantedG none e=some false∨(wantedG none e=some true∧(LOp.load n x).run e s=some (e.at d,s)) :=
  .inr ⟨rfl,by
    rw [hd]
    cases p<;>simp only [loadLV,reduceCtorEq] at hl
    · simp [LOp.run,hx,hl]
    · simp only [LOp.run,hx]
      split at hl
      · rename_i h;simp [h,hl]
      · cases hl⟩
theorem q_bs0k {P:Program} {G:Globs} {K:Env→St→Prop} {l:List LOper} {e:Env} {s:St} {fl:Bool} {chk:List (Nat × Option (Nat × Bool) × LOp)} {d esz m:Nat} {z:List LV} (hn:s.n=m) (hck:Chks chk (Tr.set e d (.sref m 0 0 esz)) (s.new (.cells .mut []))) (h:W P G K l (Tr.set e d (.sref m 0 0 esz)) (s.new (.cells .mut []))) :
    W P G K (⟨some d, .bslice esz 0 z [],none,chk,fl⟩::l) e s:=by
  subst hn
  exact q_gen (v:=.sref s.n 0 0 esz) (s':=s.new (.cells .mut [])) rfl (by simp [LOp.run,fillParts,evParts,rep]) (by cases fl<;>rfl) hck h
theorem q_alk {P:Program} {G:Globs} {K:Env→St→Prop} {l:List LOper} {e:Env} {s:St} {fl:Bool} {chk:List (Nat × Option (Nat × Bool) × LOp)} {d m:Nat} {z:List LV} (hn:s.n=m) (hck:Chks chk (Tr.set e d (.pref m 0)) (s.new (.cells .mut z))) (h:W P G K l (Tr.set e d (.pref m 0)) (s.new (.cells .mut z))) :
    W P G K (⟨some d, .alloc z,none,chk,fl⟩::l) e s:=by
  subst hn
  exact q_gen (v:=.pref s.n 0) (s':=s.new (.cells .mut z)) rfl (by simp [LOp.run]) (by cases fl<;>rfl) hck h
end Go.Proofs.YtmblpcidfjemhaaDoor
end
section
set_option linter.unusedSimpArgs false
set_option linter.unusedVariables false
namespace Go.Proofs.YtmblpcidfjemhaaDoor
open Go Go.Pv
open Classical
theorem mlt_irr2 (x:Int × Bool):¬ mlt x x:=by
  rintro (h | ⟨_,h1,h2⟩)
  · omega
  · rw [h1] at h2;cases h2
theorem pw_unique2:∀ {a b:Moves},a.Pairwise mlt→b.Pairwise mlt→(∀ x,x∈a↔x∈b)→a=b:=by
  intro a b ha hb h
  have nd:∀ {l:Moves},l.Pairwise mlt→l.Nodup:=fun hl=>hl.imp fun h e=>by
    subst e
    exact mlt_irr2 _ h
  have hp:a.Perm b:=(List.perm_ext_iff_of_nodup (nd ha) (nd hb)).2 h
  exact List.Perm.eq_of_pairwise (le:=mlt) (fun x y _ _ h1 h2=>absurd (mlt_trans h1 h2) (mlt_irr2 x)) ha hb hp
theorem auto_unique2 {g:Grf} {C D:Bu} (hC:AutoR g C) (hD:AutoR g D):C=D:=by
  refine Bu.ext (by rw [hC.L,hD.L]) (by rw [hC.st,hD.st]) (ext_getD (d:=[]) (by rw [hC.len,hD.len]) fun n hn=>?_)
  rw [hC.len] at hn
  obtain ⟨c1,c2⟩:=hC.row n hn
  obtain ⟨d1,d2⟩:=hD.row n hn
  refine ext_getD (d:=[]) (by omega) fun a ha=>?_
  have haL:(a:Int)<g.L:=by omega
  obtain ⟨c3,c4⟩:=c2 a haL
  obtain ⟨d3,d4⟩:=d2 a haL
  exact pw_unique2 (sst_pw.1 c4) (sst_pw.1 d4) fun x=>by rw [c3,d3]
theorem nd_inj2 {α:Type} {l:List α} (h:l.Nodup) {i j:Nat} (hi:i<l.length) (hj:j<l.length) (e:l[i]=l[j]):i=j:=by
  rw [List.nodup_iff_pairwise_ne,List.pairwise_iff_getElem] at h
  rcases Nat.lt_trichotomy i j with h1 | h1 | h1
  · exact absurd e (h i j hi hj h1)
  · exact h1
  · exact absurd e.symm (h j i hj hi h1)
theorem map_getD2 {α β:Type} {l:List α} {f:α→β} {n:Nat} {d:α} {e:β} (h:n<l.length):(l.map f).getD n e=f (l.getD n d):=by
  rw [List.getD_eq_getElem?_getD,List.getD_eq_getElem?_getD,List.getElem?_map,List.getElem?_eq_getElem h];rfl
noncomputable def bothC (A B:Bu):Bu:=⟨A.L,(grB A B).st.map fun p=>(numN (grB A B).R p:Int),(grB A B).R.map fun p=>(List.range A.L.toNat).map fun a=>insL [] ((grB A B).ren ((grB A B).mv p a))⟩
theorem bothC_ok {A B:Bu} (hL:1≤A.L):AutoR (grB A B) (bothC A B):=by
  refine ⟨rfl,rfl,by simp [bothC],fun n hn=>?_⟩
  have e1:(bothC A B).next.getD n []=(List.range A.L.toNat).map fun a=>insL [] ((grB A B).ren ((grB A B).mv ((grB A B).R.getD n 0) a)):=map_getD2 hn
  rw [e1]
  have hgL:(grB A B).L=A.L:=rfl
  rw [hgL]
  refine ⟨by rw [List.length_map,List.length_range];omega,fun a ha=>?_⟩
  have e2:((List.range A.L.toNat).map fun a=>insL [] ((grB A B).ren ((grB A B).mv ((grB A B).R.getD n 0) a))).getD a []=insL [] ((grB A B).ren ((grB A B).mv ((grB A B).R.getD n 0) a)):=by
    rw [map_getD2 (d:=0) (by rw [List.length_range];omega)]
    congr 3
    rw [List.getD_eq_getElem?_getD,List.getElem?_range (by omega)];rfl
  rw [e2]
  exact ⟨fun x=>by rw [insL_iff];simp,sst_pw.2 (insL_pw _ List.Pairwise.nil)⟩
end Go.Proofs.YtmblpcidfjemhaaDoor
end
