/- tree.Step: what its parts are asked for; rows that are put behind a list. -/
import Derived.Test.YtkbiecjdcjfhaaaTkey
import Derived.Test.YtkbiecjdcjfhaaaTvl
set_option linter.unusedSimpArgs false
set_option linter.unusedVariables false
namespace Go.Proofs.Ytkbiecjdcjfhaaa
open Go Go.Pv Go.Tre
open Classical
theorem foldS_mem {α β:Type} {f:List β→α→β} {l:List α} {x:β} (h:x∈foldS f l):∃ d,∃ m∈l,x=f d m:=by
  have key:∀ (l:List α) (d:List β),x∈l.foldl (fun d n=>d++[f d n]) d→x∈d∨∃ d',∃ m∈l,x=f d' m:=by
    intro l
    induction l with
    | nil=>intro d h;exact .inl h
    | cons y l ih=>
      intro d h
      rcases ih _ h with h | ⟨d',m,hm,e⟩
      · rcases List.mem_append.1 h with h | h
        · exact .inl h
        · exact .inr ⟨d,y,by simp,by simpa using h⟩
      · exact .inr ⟨d',m,by simp [hm],e⟩
  rcases key l [] h with h | h
  · cases h
  · exact h
theorem parsOk_map {l l':List Gn} (h:l'.map (·.par)=l.map (·.par)) (hp:ParsOk l):ParsOk l':=by
  intro i hi
  have hl:l'.length=l.length:=by
    have:=congrArg List.length h
    simpa using this
  have h1:=congrArg (fun L=>L[i]?) h
  simp only [List.getElem?_map] at h1
  rw [List.getElem?_eq_getElem hi,List.getElem?_eq_getElem (by omega)] at h1
  simp only [Option.map_some,Option.some.injEq] at h1
  have:=hp i (by omega)
  rw [List.getD_eq_getElem?_getD,List.getElem?_eq_getElem (by omega)] at this
  rw [List.getD_eq_getElem?_getD,List.getElem?_eq_getElem hi]
  simp only [Option.getD_some] at *
  rw [h1];exact this
structure Gp (c:Nat) (n:Gn):Prop where
  inc:n.kept.Pairwise (· < ·)
  len:n.kept.length≤3000
  rng:∀ x∈n.kept,0≤x∧x<3000
  name:0≤n.name∧n.name≤c
  par : -1≤n.par
theorem grown_p {N:Nat} {mv:Nat→Mv} {t:List Nd} (ht:Tr N t) (hN:N≤3000):ParsOk (grown N mv t)∧∀ n∈grown N mv t,Gp (2*N) n:=by
  have hpar:∀ i,i<t.length→-1≤(t.getD i default).par∧(t.getD i default).par<(i:Int):=fun i hi=>by
    have h:=ht.1 i hi
    have hl:(t.take i).length=i:=by rw [List.length_take];omega
    rcases Nat.eq_zero_or_pos i with e | e
    · have:=h.root (by omega);omega
    · have:=h.par (by omega);omega
  refine ⟨fun i hi=>?_,fun n hn=>?_⟩
  · unfold grown at hi ⊢
    rw [List.length_append,List.length_map,List.length_mapIdx] at hi
    rw [List.getD_eq_getElem?_getD]
    by_cases h:i<t.length
    · rw [List.getElem?_append_left (by rw [List.length_map];exact h),List.getElem?_map,List.getElem?_eq_getElem h]
      have:=(hpar i h).2
      rw [List.getD_eq_getElem?_getD,List.getElem?_eq_getElem h] at this
      exact this
    · rw [List.getElem?_append_right (by rw [List.length_map];omega),List.length_map,List.getElem?_mapIdx,List.getElem?_eq_getElem (by omega)]
      show ((i - t.length:Nat):Int)<(i:Int)
      omega
  · unfold grown at hn
    rcases List.mem_append.1 hn with hn | hn
    · obtain ⟨m,hm,rfl⟩:=List.mem_map.1 hn
      obtain ⟨i,hi,rfl⟩:=List.getElem_of_mem hm
      have h:=ht.1 i hi
      have hp:=hpar i hi
      rw [List.getD_eq_getElem?_getD,List.getElem?_eq_getElem hi] at h hp
      have h1:=h.name
      refine ⟨canon_inc _ _,?_,fun x hx=>?_,?_,hp.1⟩
      · have:=canon_length N (rch mv t[i].set fun _=>true);show (canon N _).length≤3000;omega
      · have:=(mem_canon.1 hx).2;omega
      · show 0≤t[i].name∧t[i].name≤((2*N:Nat):Int)
        simp only [Option.getD_some] at h1
        omega
    · obtain ⟨k,hk,rfl⟩:=List.mem_mapIdx.1 hn
      refine ⟨canon_inc _ _,?_,fun x hx=>?_,⟨Int.le_refl 0,?_⟩,?_⟩
      · have:=canon_length N (rch mv t[k].set fun m=>m.2);show (canon N _).length≤3000;omega
      · have:=(mem_canon.1 hx).2;omega
      · show (0:Int)≤((2*N:Nat):Int);omega
      · show (-1:Int)≤(k:Int);omega
theorem divide_p {c:Nat} {l:List Gn} (h:ParsOk l∧∀ n∈l,Gp c n):ParsOk (divide l)∧∀ n∈divide l,Gp c n:=by
  refine ⟨parsOk_map (foldS_par l) h.1,fun n hn=>?_⟩
  obtain ⟨d,m,hm,rfl⟩:=foldS_mem hn
  have hg:=h.2 m hm
  have hk:(divK d m).Pairwise (· < ·)∧(divK d m).length≤3000∧∀ x∈divK d m,0≤x∧x<3000:=by
    unfold divK
    split
    · exact ⟨hg.inc.filter _,Nat.le_trans (List.length_filter_le _ _) hg.len,fun x hx=>hg.rng x (List.mem_filter.1 hx).1⟩
    · exact ⟨hg.inc,hg.len,hg.rng⟩
  exact ⟨hk.1,hk.2.1,hk.2.2,hg.name,hg.par⟩
theorem collapse_p {c:Nat} {l:List Gn} (h:ParsOk l∧∀ n∈l,Gp c n):ParsOk (collapse l)∧∀ n∈collapse l,Gp c n:=by
  refine ⟨parsOk_map (foldC_par l l) h.1,fun n hn=>?_⟩
  obtain ⟨d,m,hm,rfl⟩:=foldS_mem hn
  have hg:=h.2 m hm
  exact ⟨hg.inc,hg.len,hg.rng,hg.name,hg.par⟩
theorem namS_par (used:List Int) (f:Nat):∀ (l:List Gn) (n:Int),(namS used f n l).map (·.par)=l.map (·.par)
  | [],n=>rfl
  | x::l,n=>by
    unfold namS
    split
    · rw [List.map_cons,List.map_cons,namS_par used f l]
    · rw [List.map_cons,List.map_cons,namS_par used f l]
theorem namS_p {used:List Int} {f:Nat} : ∀ {l:List Gn} {n:Int} {c:Nat},0≤n→n≤c→f≤c→(∀ x∈l,Gp c x)→∀ x∈namS used f n l,Gp (c+l.length) x
  | [],n,c,h0,h1,h2,hl,x,hx=>by cases hx
  | y :: l, n, c, h0, h1, h2, hl, x, hx => by
    have hw:∀ {a b:Nat} {z:Gn},a≤b→Gp a z→Gp b z:=fun hab h=>⟨h.inc,h.len,h.rng,by have:=h.name;omega,h.par⟩
    unfold namS at hx
    split at hx
    · rcases List.mem_cons.1 hx with rfl | hx
      · exact hw (by omega) (hl _ (by simp))
      · exact hw (by simp) (namS_p h0 h1 h2 (fun z hz=>hl z (by simp [hz])) x hx)
    · have hnx:=nxt_le (used:=used) (f - n.toNat) (n:=n)
      rcases List.mem_cons.1 hx with rfl | hx
      · have hy:=hl y (by simp)
        exact ⟨hy.inc,hy.len,hy.rng,⟨by show 0≤nxt used (f - n.toNat) n;omega,by show nxt used (f - n.toNat) n≤((c+(y::l).length:Nat):Int);rw [List.length_cons];omega⟩,hy.par⟩
      · have:=namS_p (c:=c+1) (by omega) (by omega) (by omega) (fun z hz=>hw (by omega) (hl z (by simp [hz]))) x hx
        exact hw (by rw [List.length_cons];omega) this
theorem named_p {f:Nat} {l:List Gn} (h:ParsOk l∧∀ n∈l,Gp f n):ParsOk (named f l)∧∀ n∈named f l,Gp (f+l.length) n:=
  ⟨parsOk_map (namS_par _ _ _ _) h.1,namS_p (Int.le_refl 0) (by omega) (Nat.le_refl _) h.2⟩
theorem used_p {f:Nat} {l:List Gn} (h:∀ n∈l,Gp f n):∀ x∈usedOf l,x≤(f:Int):=fun x hx=>by
  unfold usedOf at hx
  obtain ⟨n,hn,rfl⟩:=List.mem_map.1 hx
  exact (h n (List.mem_filter.1 hn).1).name.2
theorem namS_length (used:List Int) (f:Nat):∀ (l:List Gn) (n:Int),(namS used f n l).length=l.length
  | [],n=>rfl
  | x::l,n=>by
    unfold namS
    split<;>simp [namS_length used f l]
theorem frz_row {s:St} {a b:Int} {sv:LV} {K:List Int} (h:SkC s sv 1 (ints K) K.length):∃ svf s',frzTry [.int .i64 a, .int .i64 b,sv] s=([.int .i64 a, .int .i64 b,svf],s')∧Sl svf (ints K) K.length∧s'.n=s.n∧∀ id,¬ uses sv id→s'.get id=s.get id:=by
  obtain ⟨hc,⟨rfl,h0⟩ | ⟨j,rfl,h1,h2,h3⟩⟩:=h
  · have hl0:K=[]:=List.length_eq_zero_iff.1 h0
    subst hl0
    exact ⟨.nils,s,frzTry_all rfl, .nil,rfl,fun _ _=>rfl⟩
  · refine ⟨.simm (ints K) K.length,s.put j (.cells .app (ints K)),?_, .simm _ _,rfl,fun id hid=>by rw [St.get_put,if_neg fun e=>hid (uses_sref.2 e)]⟩
    have h4:frz frzDepth (.sref j 0 K.length 1) s=some (.simm (ints K) K.length,s.put j (.cells .app (ints K))):=frz_srefN (len:=K.length) 38 h3 (by simp) (ints_closed _)
    have h5:∀ (x:Int) (s:St),frz frzDepth (.int .i64 x) s=some (.int .i64 x,s):=fun x s=>frzD_closed rfl
    simp only [frzTry,frz.frzAll,h5,h4,Option.bind_eq_bind,Option.bind_some]
section
variable {P:Program} {G:Globs} {K:Env→St→Prop} {l:List LOper} {e:Env} {s s1:St} {fl fl':Bool}
theorem q_appF {T:Nat→Prop} {a b bytes esz n:Nat} {x y:Opd} {z:List LV} {xv yv:LV} {vs vs' cells:List LV} (hx:x.ev e=xv) (hxc:cells? xv=some vs) (hz:z.length=esz) (hvs:vs.length=esz) (hft:frzTry vs (s.new (.cells .mut vs))=(vs',s1)) (hvs':vs'.length=esz) (hn1:s1.n=s.n+1) (hg1:∀ id,id<s.n→¬ T id→s1.get id=s.get id) (hy:y.ev (Tr.set e a (.sref s.n 0 1 esz))=yv) (hs:SkC s yv esz cells n) (hT:∀ id,uses yv id→¬ T id) (hb:bytes≤2 ^ 10) (hl:n≤2 ^ 20)
    (h:∀ s' j,s.n≤j→SkC s' (.sref j 0 (n+1) esz) esz (cells++vs') (n+1)→s.n≤s'.n→(∀ id,id<s.n→¬ uses yv id→¬ T id→s'.get id=s.get id)→W P G K l (Tr.set (Tr.set e a (.sref s.n 0 1 esz)) b (.sref j 0 (n+1) esz)) s') :
    W P G K (⟨some a, .bslice esz 1 z [(0,(esz,x))],none,[],fl⟩::⟨some b, .append esz bytes y (.t a),none,[],fl'⟩::l) e s:=by
  have hfill:fillParts (rep 1 z) (evParts e [(0,(esz,x))])=some vs:=by
    have h1:splice z 0 vs=vs:=splice_all (vs:=vs) (z:=z) (by rw [hz,hvs])
    have hr1:rep 1 z=z:=by simp [rep]
    simp only [evParts,List.map,hr1,fillParts,hx,hxc,hvs]
    rw [if_pos ⟨trivial,by rw [hz];omega⟩,h1]
  refine q_gen (v:=.sref s.n 0 1 esz) (s':=s.new (.cells .mut vs)) rfl (by simp only [LOp.run,hfill,Option.bind_eq_bind,Option.bind_some]) (by cases fl<;>rfl) trivial ?_
  simp only [Env.put_some]
  have hr:rowOf (s.new (.cells .mut vs)) esz 1 (.sref s.n 0 1 esz)=some vs:=by
    simp only [rowOf,St.get_new,if_true,Nat.le_refl,Nat.one_mul,Nat.zero_add,hvs,and_self,List.drop_zero]
    rw [List.take_of_length_le (by omega)]
  have hbig:(n+1)*bytes≤big:=by
    have:(n+1)*bytes≤(2 ^ 20+1)*2 ^ 10:=Nat.mul_le_mul (by omega) hb
    unfold big;omega
  obtain ⟨hcl0,hs⟩:=hs
  have hlen':(cells++vs').length=(n+1)*esz:=by rw [List.length_append,hcl0,hvs',Nat.add_mul,Nat.one_mul]
  rcases hs with ⟨rfl,rfl⟩ | ⟨j,rfl,h1,h2,h3⟩
  · have hc0:cells=[]:=List.length_eq_zero_iff.1 (by rw [hcl0,Nat.zero_mul])
    subst hc0
    have hap:appendLV esz bytes .nils vs' 1 s1=some (.sref s1.n 0 1 esz,s1.new (.cells .mut vs')):=by
      simp only [appendLV]
      rw [if_neg (by omega),if_pos ⟨by simpa using hbig,by rw [hvs'];omega⟩]
    refine q_append rfl hy (by simp) rfl hr hft hap ?_
    refine h _ s1.n (by omega) ⟨hlen', .inr ⟨s1.n,rfl,by omega,by simp,by rw [St.get_new,if_pos rfl];rfl⟩⟩ (by simp;omega) fun id hid _ ht=>?_
    rw [St.get_new,if_neg (by omega)]
    exact hg1 id hid ht
  · have hg:s1.get j=some (.cells .mut cells):=by rw [hg1 j h2 (hT j (uses_sref.2 rfl))];exact h3
    have hap:appendLV esz bytes (.sref j 0 n esz) vs' 1 s1=some (.sref s1.n 0 (n+1) esz,(s1.put j (.cells .ro [])).new (.cells .mut (cells++vs'))):=by
      simp only [appendLV,if_true,hg,Nat.zero_add,hcl0,Nat.le_refl,hbig,hvs',Nat.one_mul,and_self,List.drop_zero]
      rw [List.take_of_length_le (by omega)]
      rfl
    refine q_append rfl hy (by simp) rfl hr hft hap ?_
    refine h _ s1.n (by omega) ⟨hlen', .inr ⟨s1.n,rfl,by omega,by simp,by rw [St.get_new,St.n_put,if_pos rfl]⟩⟩ (by simp;omega) fun id hid hu ht=>?_
    have hne:id≠j:=fun e=>hu (uses_sref.2 e)
    rw [St.get_new,St.n_put,if_neg (by omega),St.get_put,if_neg hne]
    exact hg1 id hid ht
end
end Go.Proofs.Ytkbiecjdcjfhaaa
