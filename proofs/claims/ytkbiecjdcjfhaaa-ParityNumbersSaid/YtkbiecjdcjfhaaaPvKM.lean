/- Maps with keys of one kind, told by association lists; lists that grow, of any cells; a walk over a map. -/
import Derived.Test.YtkbiecjdcjfhaaaPvQ
set_option linter.unusedSimpArgs false
set_option linter.unusedVariables false
namespace Go.Pv
open Go
section
variable {κ:Type} [DecidableEq κ]
structure KeyT (kd:KTy) (emb:κ→LV):Prop where
  ok:∀ k,keyOk kd (emb k)=true
  eq:∀ a b,keyEqT kd (emb a) (emb b)=some (decide (a=b))
def mG (emb:κ→LV) (L:List (κ × LV)):List (LV × LV):=L.map fun p=>(emb p.1,p.2)
def lookG:List (κ × LV)→κ→Option LV
  | [],_=>none
  | (a,b)::r,k=>if k=a then some b else lookG r k
def upG:List (κ × LV)→κ→LV→List (κ × LV)
  | [],k,v=>[(k,v)]
  | (a,b)::r,k,v=>if k=a then (k,v)::r else (a,b)::upG r k v
omit [DecidableEq κ] in
@[simp] theorem mG_length (emb:κ→LV) (L:List (κ × LV)):(mG emb L).length=L.length:=by simp [mG]
omit [DecidableEq κ] in
theorem mG_getD (emb:κ→LV) {L:List (κ × LV)} {i:Nat} {p:κ × LV} (h:L[i]? = some p):(mG emb L).getD i default=(emb p.1,p.2):=by
  simp [mG,List.getD_eq_getElem?_getD,h]
theorem look_up (L:List (κ × LV)) (k:κ) (v:LV) (j:κ):lookG (upG L k v) j=if j=k then some v else lookG L j:=by
  induction L with
  | nil=>simp [upG,lookG]
  | cons p r ih=>
    obtain ⟨a,b⟩:=p
    simp only [upG]
    by_cases h:k=a
    · subst h
      simp only [if_true,lookG]
      by_cases hj:j=k<;>simp [hj]
    · simp only [h,if_false,lookG,ih]
      by_cases hj:j=a
      · subst hj
        have:¬ j=k:=fun e=>h e.symm
        simp [this]
      · simp [hj]
theorem keys_up (L:List (κ × LV)) (k:κ) (v:LV):∀ j,j∈(upG L k v).map (·.1)↔j=k∨j∈L.map (·.1):=by
  induction L with
  | nil=>intro j;simp [upG]
  | cons p r ih=>
    obtain ⟨a,b⟩:=p
    intro j
    simp only [upG]
    by_cases h:k=a
    · subst h;simp
    · simp only [h,if_false,List.map_cons,List.mem_cons,ih]
      constructor
      · rintro (h | h | h)
        · exact .inr (.inl h)
        · exact .inl h
        · exact .inr (.inr h)
      · rintro (h | h | h)
        · exact .inr (.inl h)
        · exact .inl h
        · exact .inr (.inr h)
theorem nodup_up (L:List (κ × LV)) (k:κ) (v:LV) (h:(L.map (·.1)).Nodup):((upG L k v).map (·.1)).Nodup:=by
  induction L with
  | nil=>simp [upG]
  | cons p r ih=>
    obtain ⟨a,b⟩:=p
    simp only [List.map_cons,List.nodup_cons] at h
    simp only [upG]
    by_cases hk:k=a
    · subst hk;simpa using h
    · simp only [hk,if_false,List.map_cons,List.nodup_cons]
      exact ⟨fun hm=>by
        rcases (keys_up r k v a).1 hm with e | e
        · exact hk e.symm
        · exact h.1 e,ih h.2⟩
theorem up_new {L:List (κ × LV)} {k:κ} {v:LV} (h:lookG L k=none):upG L k v=L++[(k,v)]:=by
  induction L with
  | nil=>rfl
  | cons p r ih=>
    obtain ⟨a,c⟩:=p
    simp only [lookG] at h
    by_cases hk:k=a
    · rw [if_pos hk] at h;cases h
    · rw [if_neg hk] at h
      simp only [upG,hk,if_false,ih h,List.cons_append]
theorem look_mem {L:List (κ × LV)} {k:κ} : (lookG L k).isSome=true↔k∈L.map (·.1):=by
  induction L with
  | nil=>simp [lookG]
  | cons p r ih=>
    obtain ⟨a,c⟩:=p
    simp only [lookG,List.map_cons,List.mem_cons]
    by_cases hk:k=a
    · simp [hk]
    · simp [hk,ih]
theorem look_in {L:List (κ × LV)} {k:κ} {v:LV} (h:lookG L k=some v):(k,v)∈L:=by
  induction L with
  | nil=>cases h
  | cons p r ih=>
    obtain ⟨a,c⟩:=p
    simp only [lookG] at h
    by_cases hk:k=a
    · subst hk
      rw [if_pos rfl] at h
      cases h
      exact List.mem_cons_self
    · rw [if_neg hk] at h
      exact List.mem_cons_of_mem _ (ih h)
theorem up_mem {L:List (κ × LV)} {k:κ} {v:LV} {p:κ × LV} (h:p∈upG L k v):p=(k,v)∨p∈L:=by
  induction L with
  | nil=>exact .inl (by simpa [upG] using h)
  | cons q r ih=>
    obtain ⟨a,c⟩:=q
    simp only [upG] at h
    by_cases hk:k=a
    · rw [if_pos hk] at h
      rcases List.mem_cons.1 h with h | h
      · exact .inl h
      · exact .inr (List.mem_cons_of_mem _ h)
    · rw [if_neg hk] at h
      rcases List.mem_cons.1 h with h | h
      · exact .inr (h ▸ List.mem_cons_self)
      · rcases ih h with h | h
        · exact .inl h
        · exact .inr (List.mem_cons_of_mem _ h)
variable {kd:KTy} {emb:κ→LV}
theorem mfind_G (hk:KeyT kd emb) (k:κ):∀ (L:List (κ × LV)) (i:Nat),∃ r,mfind kd (emb k) (mG emb L) i=some r∧r.map (·.2)=lookG L k∧(∀ j v,r=some (j,v)→i≤j∧(mG emb L).set (j - i) (emb k,v)=mG emb (upG L k v)∧∀ w,(mG emb L).set (j - i) (emb k,w)=mG emb (upG L k w))∧(r=none→lookG L k=none)
  | [],i=>⟨none,rfl,rfl,(fun j v h=>by cases h),fun _=>rfl⟩
  | (a, b) :: L, i => by
    by_cases h:k=a
    · subst h
      refine ⟨some (i,b),by simp [mG,mfind,hk.eq],by simp [lookG],fun j v hj=>?_,fun h=>by cases h⟩
      have hj':(i,b)=(j,v):=Option.some.inj hj
      cases hj'
      exact ⟨Nat.le_refl _,by simp [mG,upG],fun w=>by simp [mG,upG]⟩
    · obtain ⟨r,h1,h2,h3,h4⟩:=mfind_G hk k L (i+1)
      refine ⟨r,?_,by simp [lookG,h,h2],fun j v hj=>?_,fun hr=>by simp only [lookG,h,if_false];exact h4 hr⟩
      · have:mfind kd (emb k) (mG emb ((a,b)::L)) i=mfind kd (emb k) (mG emb L) (i+1):=by simp [mG,mfind,hk.eq,h]
        rw [this,h1]
      · obtain ⟨g1,g2,g3⟩:=h3 j v hj
        have e:j - i=(j - (i+1))+1:=by omega
        exact ⟨by omega,by rw [e];simp only [mG,List.map_cons,List.set_cons_succ,upG,h,if_false];rw [← mG,← mG,g2],fun w=>by rw [e];simp only [mG,List.map_cons,List.set_cons_succ,upG,h,if_false];rw [← mG,← mG,g3]⟩
variable {P:Program} {G:Globs} {K:Env→St→Prop} {l:List LOper} {e:Env} {s:St} {fl:Bool}
theorem q_lookG (hk:KeyT kd emb) {d M:Nat} {k:κ} {zero:LV} {m kx:Opd} {L:List (κ × LV)} {g:Option (Nat × Bool)} (hg:wantedG g e=some true) (hm:m.ev e = .mref M) (hkx:kx.ev e=emb k) (hs:s.get M=some (.map (mG emb L)))
    (h:W P G K l (Tr.set e d (.tup [(lookG L k).getD zero, .bool (lookG L k).isSome])) s):W P G K (⟨some d, .mlook kd zero true m kx,g,[],fl⟩::l) e s:=by
  obtain ⟨r,h1,h2,_⟩:=mfind_G hk k L 0
  refine q_mlook2 hg hm hkx (hk.ok k) hs h1 ?_
  rw [← h2] at h
  cases r<;>exact h
theorem run_lookG (hk:KeyT kd emb) {M:Nat} {k:κ} {zero:LV} {m kx:Opd} {L:List (κ × LV)} (hm:m.ev e = .mref M) (hkx:kx.ev e=emb k) (hs:s.get M=some (.map (mG emb L))):(LOp.mlook kd zero false m kx).run e s=some ((lookG L k).getD zero,s):=by
  obtain ⟨r,h1,h2,_⟩:=mfind_G hk k L 0
  rw [run_mlook1 hm hkx (hk.ok k) hs h1,← h2]
  cases r<;>rfl
theorem q_lookG1 (hk:KeyT kd emb) {d M:Nat} {k:κ} {zero:LV} {m kx:Opd} {L:List (κ × LV)} {g:Option (Nat × Bool)} (hg:wantedG g e=some true) (hm:m.ev e = .mref M) (hkx:kx.ev e=emb k) (hs:s.get M=some (.map (mG emb L)))
    (h:W P G K l (Tr.set e d ((lookG L k).getD zero)) s):W P G K (⟨some d, .mlook kd zero false m kx,g,[],fl⟩::l) e s:=
  q_op hg (by cases fl<;>rfl) (run_lookG hk hm hkx hs) h
theorem q_updG (hk:KeyT kd emb) {M:Nat} {k:κ} {vv:LV} {m kx v:Opd} {L:List (κ × LV)} (hm:m.ev e = .mref M) (hkx:kx.ev e=emb k) (hv:v.ev e=vv) (hs:s.get M=some (.map (mG emb L)))
    (h:W P G K l e (s.put M (.map (mG emb (upG L k vv))))):W P G K (⟨none, .mupd kd m kx v,none,[],fl⟩::l) e s:=by
  obtain ⟨r,h1,h2,h3,h4⟩:=mfind_G hk k L 0
  cases r with
  | none=>
    rw [up_new (h4 rfl)] at h
    refine q_mupdN hm hkx hv (hk.ok k) hs h1 ?_
    simpa [mG] using h
  | some p=>
    obtain ⟨j,w⟩:=p
    obtain ⟨-,-,g3⟩:=h3 j w rfl
    refine q_gen (v:=zeroVal) (s':=s.put M (.map (mG emb (upG L k vv)))) rfl ?_ (by cases fl<;>rfl) trivial h
    simp only [LOp.run,hkx,hv,hk.ok k,if_true,hm,hs,h1,Option.bind_eq_bind,Option.bind_some]
    rw [← g3 vv,Nat.sub_zero]
theorem q_mkmap {d n:Nat} {g:Option (Nat × Bool)} (hg:wantedG g e=some true) (hn:s.n=n) (h:W P G K l (Tr.set e d (.mref n)) (s.new (.map []))):W P G K (⟨some d, .mkmap none,g,[],fl⟩::l) e s:=by
  subst hn
  exact q_op hg (by cases fl<;>rfl) rfl h
end
def embI (k:Int):LV:=.int .i64 k
theorem keyI:KeyT (.int .i64) embI:=⟨fun k=>rfl,fun a b=>by simp only [embI,keyEqT,keyEq,if_true];rfl⟩
def embS (k:List UInt8):LV:=.str ⟨k.toArray⟩
theorem keyS:KeyT .str embS:=⟨fun k=>rfl,fun a b=>by simp [embS,keyEqT,keyEq]⟩
def Sg (s:St) (v:LV) (esz:Nat) (cells:List LV) (n:Nat):Prop:=cells.length=n*esz∧((v = .nils∧n=0)∨∃ j rest,v = .sref j 0 n esz∧j<s.n∧s.get j=some (.cells .mut (cells++rest)))
theorem Sg.nil (s:St) (esz:Nat):Sg s .nils esz [] 0:=⟨by simp, .inl ⟨rfl,rfl⟩⟩
theorem Sg.mono {s s':St} {v:LV} {esz n:Nat} {cells:List LV} (h:Sg s v esz cells n) (hn:s.n≤s'.n) (hs:∀ id,uses v id→s'.get id=s.get id):Sg s' v esz cells n:=by
  obtain ⟨h0,h | ⟨j,r,h1,h2,h3⟩⟩:=h
  · exact ⟨h0, .inl h⟩
  · exact ⟨h0, .inr ⟨j,r,h1,by omega,by rw [hs j ⟨0,n,esz,h1⟩];exact h3⟩⟩
theorem Sg.len {s:St} {v:LV} {esz n:Nat} {cells:List LV} (h:Sg s v esz cells n):slLen v=some n:=by
  obtain ⟨_,⟨rfl,rfl⟩ | ⟨j,r,rfl,_⟩⟩:=h<;>rfl
theorem Sg.cell {s:St} {v:LV} {esz n:Nat} {cells:List LV} (h:Sg s v esz cells n):isCell v=true:=by
  obtain ⟨_,⟨rfl,rfl⟩ | ⟨j,r,rfl,_⟩⟩:=h<;>rfl
theorem Sg.lt {s:St} {v:LV} {esz n:Nat} {cells:List LV} (h:Sg s v esz cells n) {id:Nat} (hu:uses v id):id<s.n:=by
  obtain ⟨_,⟨rfl,rfl⟩ | ⟨j,r,rfl,h2,_⟩⟩:=h
  · exact absurd hu (uses_nils id)
  · rw [uses_sref.1 hu];exact h2
theorem Sg.pos {s:St} {v:LV} {esz n:Nat} {cells:List LV} (h:Sg s v esz cells n) (hn:0<n):∃ j rest,v = .sref j 0 n esz∧j<s.n∧s.get j=some (.cells .mut (cells++rest)):=by
  obtain ⟨_,⟨_,h⟩ | ⟨j,r,h1,h2,h3⟩⟩:=h
  · omega
  · exact ⟨j,r,h1,h2,h3⟩
def Stays (vs:List LV):Prop:=∀ s,frzTry vs s=(vs,s)
theorem Stays.closed {vs:List LV} (h:LV.closed.closedAll vs=true):Stays vs:=fun s=>frzTry_all h
theorem frzAll_mref {n:Nat} {M:Nat} : ∀ {vs:List LV} {s:St}, .mref M∈vs→frz.frzAll (frz n) vs s=none
  | [],s,h=>by cases h
  | v :: r, s, h => by
    rcases List.mem_cons.1 h with h | h
    · subst h
      have:frz n (.mref M) s=none:=by cases n<;>simp [frz,LV.closed]
      simp [frz.frzAll,this]
    · simp only [frz.frzAll,Option.bind_eq_bind]
      cases h1:frz n v s with
      | none=>rfl
      | some p=>simp [frzAll_mref h]
theorem Stays.mref {vs:List LV} {M:Nat} (h:.mref M∈vs):Stays vs:=fun s=>by simp [frzTry,frzAll_mref h]
section
variable {P:Program} {G:Globs} {K:Env→St→Prop} {l:List LOper} {e:Env} {s:St} {fl fl':Bool}
theorem q_appG {a b bytes esz n:Nat} {x y:Opd} {z:List LV} {xv yv:LV} {vs cells:List LV} (hx:x.ev e=xv) (hxc:cells? xv=some vs) (hz:z.length=esz) (hvs:vs.length=esz) (hcl:Stays vs) (hy:y.ev (Tr.set e a (.sref s.n 0 1 esz))=yv) (hs:Sg s yv esz cells n) (hb:bytes≤2 ^ 10) (hl:n≤2 ^ 20)
    (h:∀ s' j,s.n≤j→j<s'.n→s'.get j=some (.cells .mut (cells++vs))→Sg s' (.sref j 0 (n+1) esz) esz (cells++vs) (n+1)→s.n≤s'.n→(∀ id,id<s.n→¬ uses yv id→s'.get id=s.get id)→W P G K l (Tr.set (Tr.set e a (.sref s.n 0 1 esz)) b (.sref j 0 (n+1) esz)) s') :
    W P G K (⟨some a, .bslice esz 1 z [(0,(esz,x))],none,[],fl⟩::⟨some b, .append esz bytes y (.t a),none,[],fl'⟩::l) e s:=by
  have hfill:fillParts (rep 1 z) (evParts e [(0,(esz,x))])=some vs:=by
    have h1:splice z 0 vs=vs:=splice_all (vs:=vs) (z:=z) (by rw [hz,hvs])
    have hr1:rep 1 z=z:=by simp [rep]
    simp only [evParts,List.map,hr1,fillParts,hx,hxc,hvs]
    rw [if_pos ⟨trivial,by rw [hz];omega⟩,h1]
  refine q_gen (v:=.sref s.n 0 1 esz) (s':=s.new (.cells .mut vs)) rfl (by simp only [LOp.run,hfill,Option.bind_eq_bind,Option.bind_some]) (by cases fl<;>rfl) trivial ?_
  simp only [Env.put_some]
  have hr:rowOf (s.new (.cells .mut vs)) esz 1 (.sref s.n 0 1 esz)=some vs:=by
    simp only [rowOf,St.get_new,if_true,Nat.le_refl,Nat.one_mul,Nat.zero_add,hvs,and_self,List.drop_zero]
    rw [List.take_of_length_le (by omega)]
  have hft:=hcl (s.new (.cells .mut vs))
  have hbig:(n+1)*bytes≤big:=by
    have:(n+1)*bytes≤(2 ^ 20+1)*2 ^ 10:=Nat.mul_le_mul (by omega) hb
    unfold big;omega
  obtain ⟨hcl0,hs⟩:=hs
  have hlen':(cells++vs).length=(n+1)*esz:=by rw [List.length_append,hcl0,hvs,Nat.add_mul,Nat.one_mul]
  rcases hs with ⟨rfl,rfl⟩ | ⟨j,r,rfl,h2,h3⟩
  · have hc0:cells=[]:=List.length_eq_zero_iff.1 (by rw [hcl0,Nat.zero_mul])
    subst hc0
    have hap:appendLV esz bytes .nils vs 1 (s.new (.cells .mut vs))=some (.sref (s.n+1) 0 1 esz,(s.new (.cells .mut vs)).new (.cells .mut vs)):=by
      simp only [appendLV]
      rw [if_neg (by omega),if_pos ⟨by simpa using hbig,by rw [hvs];omega⟩]
      rfl
    refine q_append rfl hy (by simp) rfl hr hft hap ?_
    have hg:((s.new (.cells .mut vs)).new (.cells .mut vs)).get (s.n+1)=some (.cells .mut ([]++vs)):=by rw [St.get_new,St.n_new,if_pos rfl];rfl
    refine h _ (s.n+1) (by omega) (by simp) hg ⟨hlen', .inr ⟨s.n+1,[],rfl,by simp,by rw [List.append_nil];exact hg⟩⟩ (by simp;omega) fun id hid _=>?_
    rw [St.get_new,St.n_new,if_neg (by omega),St.get_new,if_neg (by omega)]
  · have hg:(s.new (.cells .mut vs)).get j=some (.cells .mut (cells++r)):=by rw [St.get_new,if_neg (by omega)];exact h3
    have hle:n*esz≤(cells++r).length:=by rw [List.length_append,hcl0];omega
    have hap:appendLV esz bytes (.sref j 0 n esz) vs 1 (s.new (.cells .mut vs))=some (.sref (s.n+1) 0 (n+1) esz,((s.new (.cells .mut vs)).put j (.cells .ro [])).new (.cells .mut (cells++vs))):=by
      simp only [appendLV,if_true,hg,Nat.zero_add,hle,Nat.le_refl,hbig,hvs,Nat.one_mul,and_self,List.drop_zero]
      rw [List.take_append_of_le_length (by omega),List.take_of_length_le (by omega)]
      rfl
    refine q_append rfl hy (by simp) rfl hr hft hap ?_
    have hg2:(((s.new (.cells .mut vs)).put j (.cells .ro [])).new (.cells .mut (cells++vs))).get (s.n+1)=some (.cells .mut (cells++vs)):=by rw [St.get_new,St.n_put,St.n_new,if_pos rfl]
    refine h _ (s.n+1) (by omega) (by simp) hg2 ⟨hlen', .inr ⟨s.n+1,[],rfl,by simp,by rw [List.append_nil];exact hg2⟩⟩ (by simp;omega) fun id hid hu=>?_
    have hne:id≠j:=fun e=>hu (uses_sref.2 e)
    rw [St.get_new,St.n_put,St.n_new,if_neg (by omega),St.get_put,if_neg hne,St.get_new,if_neg (by omega)]
theorem q_mrange {d n M:Nat} {m:Opd} {es:List (LV × LV)} (hn:s.n=n) (hm:m.ev e = .mref M) (hs:s.get M=some (.map es)) (h:W P G K l (Tr.set e d (.pref n 0)) (s.new (.iter (some M) es.length [] es.length))):W P G K (⟨some d, .mrange m,none,[],fl⟩::l) e s:=by
  subst hn
  exact q_op wN (by cases fl<;>rfl) (by simp [LOp.run,hm,hs]) h
theorem q_mnext {d it M n0 last:Nat} {x:Opd} {seen:List Nat} {es:List (LV × LV)} (hx:x.ev e = .pref it 0) (hs:s.get it=some (.iter (some M) n0 seen last)) (hm:s.get M=some (.map es)) (h0:seen=[]∨0<last)
    (hstep:∀ i,i<es.length→i ∉ seen→W P G K l (Tr.set e d (.tup [.bool true,(es.getD i default).1,(es.getD i default).2])) (s.put it (.iter (some M) n0 (seen++[i]) es.length)))
    (hend:(∀ i,i<n0→i<es.length→i∈seen)→W P G K l (Tr.set e d (.tup [.bool false])) s):W P G K (⟨some d, .mnext x,none,[],fl⟩::l) e s:=by
  refine ⟨?_⟩
  unfold wpOps
  simp only [wantedG,stepW,hx,NextOk,hs,hm]
  exact ⟨h0,fun i hi hn=>Later.mk ⟨trivial,(hstep i hi hn).out⟩,fun ha=>Later.mk ⟨trivial,(hend ha).out⟩⟩
theorem q_mentry {d it M n0 i last:Nat} {x:Opd} {seen:List Nat} {es:List (LV × LV)} (hx:x.ev e = .pref it 0) (hs:s.get it=some (.iter (some M) n0 (seen++[i]) last)) (hm:s.get M=some (.map es)) (hl:es.length=last) (hi:i<es.length)
    (h:W P G K l (Tr.set e d (.tup [(es.getD i default).1,(es.getD i default).2])) s):W P G K (⟨some d, .mentry x,none,[],fl⟩::l) e s:=
  q_op wN (by cases fl<;>rfl) (by simp [LOp.run,hx,hs,hm,hl,hl ▸ hi]) h
theorem q_lenM {d M:Nat} {x:Opd} {es:List (LV × LV)} {g:Option (Nat × Bool)} (hg:wantedG g e=some true) (hx:x.ev e = .mref M) (hs:s.get M=some (.map es)) (h:W P G K l (Tr.set e d (.int .i64 (es.length:Int))) s):W P G K (⟨some d, .lenMap x,g,[],fl⟩::l) e s:=
  q_op hg (by cases fl<;>rfl) (by simp [LOp.run,hx,hs]) h
end
theorem seen_le {n:Nat} {seen:List Nat} (hn:seen.Nodup) (hl:∀ i∈seen,i<n):seen.length≤n:=by
  induction n generalizing seen with
  | zero=>
    cases seen with
    | nil=>simp
    | cons a l=>exact absurd (hl a (by simp)) (Nat.not_lt_zero _)
  | succ n ih=>
    by_cases h:n∈seen
    · have h1:=List.length_erase_of_mem h
      have h2:=ih (hn.erase n) fun x hx=>by
        have a:=hl x (List.mem_of_mem_erase hx)
        have b:x≠n:=by rintro rfl;exact (List.Nodup.not_mem_erase hn) hx
        omega
      have h3:=List.length_pos_of_mem h
      omega
    · have h2:=ih hn fun x hx=>by
        have a:=hl x hx
        have b:x≠n:=by rintro rfl;exact h hx
        omega
      omega
end Go.Pv
