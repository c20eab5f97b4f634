/- tree.Step. -/
import Derived.Test.YtkbiecjdcjfhaaaTstq
set_option linter.unusedSimpArgs false
set_option linter.unusedVariables false
namespace Go.Proofs.Ytkbiecjdcjfhaaa
open Go Go.Pv Go.Tre
open Classical
def leaveK (l:List Gn) (i:Nat):List Nd:=((l.take i).filter fun n=>!n.gone).map fun n=>⟨n.name,place l n.par,n.kept⟩
theorem leaveK_gone {l:List Gn} {i:Nat} {g:Gn} (h:l.take (i+1)=l.take i++[g]) (hg:g.gone=true):leaveK l (i+1)=leaveK l i∧goods (l.take (i+1))=goods (l.take i):=by
  unfold leaveK goods
  rw [h]
  simp [List.filter_append,hg]
theorem leaveK_stay {l:List Gn} {i:Nat} {g:Gn} (h:l.take (i+1)=l.take i++[g]) (hg:g.gone=false):leaveK l (i+1)=leaveK l i++[(⟨g.name,place l g.par,g.kept⟩:Nd)]∧bads (l.take (i+1))=bads (l.take i):=by
  unfold leaveK bads
  rw [h]
  simp [List.filter_append,hg]
theorem leaveK_all (l:List Gn):leaveK l l.length=leave l:=by unfold leaveK leave;rw [List.take_length]
theorem leaveK_le (l:List Gn) (i:Nat):(leaveK l i).length≤i:=by
  unfold leaveK
  have:=List.length_filter_le (fun n:Gn=>!n.gone) (l.take i)
  rw [List.length_take] at this
  rw [List.length_map]
  omega
theorem place_rng (l:List Gn) (p:Int) (h0 : -1≤p) : -1≤place l p∧place l p≤l.length:=by
  unfold place
  split
  · split
    · omega
    · have:=List.length_filter_le (fun n:Gn=>!n.gone) (l.take p.toNat)
      rw [List.length_take] at this
      omega
  · omega
def plf (l:List Gn) (i:Nat):Nat→LV:=fun j=>.int .i64 (if j<i then place l j else 0)
theorem wcl_closed {α:Type} {row:α→List LV} : ∀ {l:List α},(∀ x∈l,LV.closed.closedAll (row x)=true)→LV.closed.closedAll (wcl row l)=true
  | [],_=>rfl
  | x :: l, h => by
    have e:wcl row (x::l)=row x++wcl row l:=by simp [wcl]
    have h1:=h x (by simp)
    have h2:=wcl_closed (l:=l) fun y hy=>h y (by simp [hy])
    have key:∀ {a b:List LV},LV.closed.closedAll a=true→LV.closed.closedAll b=true→LV.closed.closedAll (a++b)=true:=by
      intro a
      induction a with
      | nil=>intro b _ h;exact h
      | cons v a ih=>
        intro b h1 h2
        simp only [LV.closed.closedAll,Bool.and_eq_true,List.cons_append] at *
        exact ⟨h1.1,ih h1.2 h2⟩
    rw [e]
    exact key h1 h2
theorem FV.tup2 {T:Nat→Prop} {d:Nat} {s:St} {a b ra rb:LV} (ha:FV T d s a ra) (hb:FV T d s b rb):FV T (d+1) s (.tup [a,b]) (.tup [ra,rb]):=by
  by_cases hc:(LV.tup [a,b]).closed=true
  · have h1:a.closed=true∧b.closed=true:=by simpa [LV.closed,LV.closed.closedAll] using hc
    rw [ha.of_closed h1.1,hb.of_closed h1.2]
    exact FV.shut hc
  · refine .inr (.inr (.inr (.inr ⟨[a,b],[ra,rb],rfl,by simpa using hc,rfl,rfl,by simp [LV.closed.closedAll,ha.closed,hb.closed],fun i hi=>?_⟩)))
    match i,hi with
    | 0,_=>exact ha
    | 1,_=>exact hb
theorem FV.agg2 {T:Nat→Prop} {d:Nat} {s:St} {a b ra rb:LV} (ha:FV T d s a ra) (hb:FV T d s b rb):FV T (d+1) s (.agg [a,b]) (.agg [ra,rb]):=by
  by_cases hc:(LV.agg [a,b]).closed=true
  · have h1:a.closed=true∧b.closed=true:=by simpa [LV.closed,LV.closed.closedAll] using hc
    rw [ha.of_closed h1.1,hb.of_closed h1.2]
    exact FV.shut hc
  · refine .inr (.inr (.inr (.inl ⟨[a,b],[ra,rb],rfl,by simpa using hc,rfl,rfl,by simp [LV.closed.closedAll,ha.closed,hb.closed],fun i hi=>?_⟩)))
    match i,hi with
    | 0,_=>exact ha
    | 1,_=>exact hb
structure SV (s:St) (lo:Nat) (v:LV) (R:List GR) (l:List Gn) (X Pb c i:Nat) (v9 gv bv:LV) (rs:List (Int × Int × LV)):Prop where
  gs:GS s lo v R
  b7:s.get 0=some (.cells .mut [.nils, .nils])
  b10:s.get X=some (.cells .mut [gv,bv])
  pl:s.get Pb=some (.cells .mut (vcells l.length (plf l i)))
  g:SkC s gv 1 (ints (goods (l.take i))) (goods (l.take i)).length
  b:SkC s bv 1 (ints (bads (l.take i))) (bads (l.take i)).length
  t:SkC s v9 3 (wcl trow rs) rs.length
  rl:rs.length=(leaveK l i).length
  rn:∀ k,k<rs.length→IsNd (rs.getD k default) ((leaveK l i).getD k default)
  sep:∀ id,(uses v id∨∃ r∈R,id=r.2.2)→id<c∧id≠X∧id≠Pb
  low:0<X∧X<Pb∧Pb<c∧c≤s.n
  up:(∀ id,uses gv id→c≤id)∧(∀ id,uses bv id→c≤id)∧∀ id,uses v9 id→c≤id
  ap:(∀ id,uses gv id→¬ uses bv id)∧(∀ id,uses gv id→¬ uses v9 id)∧∀ id,uses bv id→¬ uses v9 id
theorem SV.gs' {s s':St} {lo:Nat} {v:LV} {R:List GR} {l:List Gn} {X Pb c i:Nat} {v9 gv bv:LV} {rs:List (Int × Int × LV)} (h:SV s lo v R l X Pb c i v9 gv bv rs) (hn:s.n≤s'.n) (ho:∀ id,id<c→id≠X→id≠Pb→s'.get id=s.get id):GS s' lo v R∧s'.get 0=some (.cells .mut [.nils, .nils]) :=
  have hl:=h.low
  ⟨h.gs.frame hn (fun id hu=>by
    have:=h.sep id (.inl hu)
    exact ho id this.1 this.2.1 this.2.2) fun r hr=>by
    have:=h.sep r.2.2 (.inr ⟨r,hr,rfl⟩)
    exact ho _ this.1 this.2.1 this.2.2,(ho 0 (by omega) (by omega) (by omega)).trans h.b7⟩
theorem SV.grow {s s':St} {lo:Nat} {v:LV} {R:List GR} {l:List Gn} {X Pb c i:Nat} {v9 gv bv:LV} {rs:List (Int × Int × LV)} (h:SV s lo v R l X Pb c i v9 gv bv rs) (hn:s.n≤s'.n) (ho:∀ id,id<s.n→s'.get id=s.get id):SV s' lo v R l X Pb c i v9 gv bv rs:=
  have hl:=h.low
  have hg:=h.gs' hn fun id hid _ _=>ho id (by omega)
  ⟨hg.1,hg.2,(ho X (by omega)).trans h.b10,(ho Pb (by omega)).trans h.pl,h.g.mono hn fun id hu=>ho id (h.g.lt hu),h.b.mono hn fun id hu=>ho id (h.b.lt hu),h.t.mono hn fun id hu=>ho id (h.t.lt hu),h.rl,h.rn,h.sep,by omega,h.up,h.ap⟩
theorem plf_gone {l:List Gn} {i:Nat} {g:Gn} (hg:l.getD i default=g) (h:g.gone=true) (j:Nat):plf l (i+1) j=plf l i j:=by
  unfold plf
  by_cases e:j=i
  · subst e
    have:place l (j:Int)=0:=by
      unfold place
      rw [if_pos (by omega),Int.toNat_natCast,hg,if_pos h]
    simp [this]
  · by_cases e2:j<i
    · simp [e2,show j<i+1 by omega]
    · simp [e2,show ¬ j<i+1 by omega]
theorem plf_stay {l:List Gn} {i:Nat} {g:Gn} (hg:l.getD i default=g) (h:g.gone=false) (j:Nat):plf l (i+1) j=if j=i then .int .i64 ((leaveK l i).length:Int) else plf l i j:=by
  unfold plf
  by_cases e:j=i
  · subst e
    have:place l (j:Int)=((leaveK l j).length:Int):=by
      unfold place leaveK
      rw [if_pos (by omega),Int.toNat_natCast,hg,h,List.length_map]
      simp
    simp [this]
  · by_cases e2:j<i
    · simp [e,e2,show j<i+1 by omega]
    · simp [e,e2,show ¬ j<i+1 by omega]
theorem bads_snoc {l:List Gn} {i:Nat} {g:Gn} (h:l.take (i+1)=l.take i++[g]):bads (l.take (i+1))=bads (l.take i)++if g.gone && g.old then [g.name] else []:=by
  unfold bads
  rw [h,List.filter_append,List.map_append]
  congr 1
  by_cases e:(g.gone && g.old)=true<;>simp [e]
theorem goods_snoc {l:List Gn} {i:Nat} {g:Gn} (h:l.take (i+1)=l.take i++[g]):goods (l.take (i+1))=goods (l.take i)++if !g.gone && g.good then [g.name] else []:=by
  unfold goods
  rw [h,List.filter_append,List.map_append]
  congr 1
  by_cases e:(!g.gone && g.good)=true<;>simp [e]
section
variable {s s':St} {lo:Nat} {v:LV} {R:List GR} {l:List Gn} {X Pb c i:Nat} {v9 gv bv:LV} {rs:List (Int × Int × LV)} {g:Gn}
theorem SV.bad (h:SV s lo v R l X Pb c i v9 gv bv rs) (htk:l.take (i+1)=l.take i++[g]) (hgd:l.getD i default=g) (hg:g.gone=true) (ho':g.old=true) {bv':LV} (hn:s.n≤s'.n) (hX:s'.get X=some (.cells .mut [gv,bv'])) (hb':SkC s' bv' 1 (ints (bads (l.take i))++[.int .i64 g.name]) ((bads (l.take i)).length+1)) (hf:∀ id,uses bv' id→s.n≤id) (ho:∀ id,id<s.n→id≠X→¬ uses bv id→s'.get id=s.get id):SV s' lo v R l X Pb c (i+1) v9 gv bv' rs:=by
  have hl:=h.low
  have hu:=h.up
  have ha:=h.ap
  have hG:=h.gs' hn fun id h1 h2 _=>ho id (by omega) h2 fun hb=>by have:=hu.2.1 id hb;omega
  obtain ⟨k1,k2⟩:=leaveK_gone htk hg
  refine ⟨hG.1,hG.2,hX,?_,?_,?_,h.t.mono hn fun id hid=>ho id (h.t.lt hid) (by have:=hu.2.2 id hid;omega) fun hb=>ha.2.2 id hb hid,by rw [k1];exact h.rl,by rw [k1];exact h.rn,h.sep,by omega,⟨hu.1,fun id hid=>by have:=hf id hid;omega,hu.2.2⟩,⟨fun id h1 h2=>by have:=hf id h2;have:=h.g.lt h1;omega,ha.2.1,fun id h1 h2=>by have:=hf id h1;have:=h.t.lt h2;omega⟩⟩
  · rw [vcells_congr (g:=plf l i) fun j _=>plf_gone hgd hg j]
    exact (ho Pb (by omega) (by omega) fun hb=>by have:=hu.2.1 Pb hb;omega).trans h.pl
  · rw [k2];exact h.g.mono hn fun id hid=>ho id (h.g.lt hid) (by have:=hu.1 id hid;omega) (ha.1 id hid)
  · rw [bads_snoc htk,hg,ho']
    have e:ints (bads (l.take i)++[g.name])=ints (bads (l.take i))++[.int .i64 g.name]:=by simp [ints]
    simp only [Bool.and_self,if_true,List.length_append,List.length_singleton]
    rw [e];exact hb'
theorem SV.skip (h:SV s lo v R l X Pb c i v9 gv bv rs) (htk:l.take (i+1)=l.take i++[g]) (hgd:l.getD i default=g) (hg:g.gone=true) (ho':g.old=false):SV s lo v R l X Pb c (i+1) v9 gv bv rs:=by
  obtain ⟨k1,k2⟩:=leaveK_gone htk hg
  have k3:bads (l.take (i+1))=bads (l.take i):=by rw [bads_snoc htk,hg,ho'];simp
  exact ⟨h.gs,h.b7,h.b10,by rw [vcells_congr (g:=plf l i) fun j _=>plf_gone hgd hg j];exact h.pl,by rw [k2];exact h.g,by rw [k3];exact h.b,h.t,by rw [k1];exact h.rl,by rw [k1];exact h.rn,h.sep,h.low,h.up,h.ap⟩
structure SW (s:St) (lo:Nat) (v:LV) (R:List GR) (l:List Gn) (X Pb c i:Nat) (v9 gv bv:LV) (rs:List (Int × Int × LV)) (ip:Nat):Prop where
  gs:GS s lo v R
  b7:s.get 0=some (.cells .mut [.nils, .nils])
  b10:s.get X=some (.cells .mut [gv,bv])
  pl:s.get Pb=some (.cells .mut (vcells l.length (plf l ip)))
  g:SkC s gv 1 (ints (goods (l.take (i+1)))) (goods (l.take (i+1))).length
  b:SkC s bv 1 (ints (bads (l.take (i+1)))) (bads (l.take (i+1))).length
  t:SkC s v9 3 (wcl trow rs) rs.length
  rl:rs.length=(leaveK l i).length
  rn:∀ k,k<rs.length→IsNd (rs.getD k default) ((leaveK l i).getD k default)
  sep:∀ id,(uses v id∨∃ r∈R,id=r.2.2)→id<c∧id≠X∧id≠Pb
  low:0<X∧X<Pb∧Pb<c∧c≤s.n
  up:(∀ id,uses gv id→c≤id)∧(∀ id,uses bv id→c≤id)∧∀ id,uses v9 id→c≤id
  ap:(∀ id,uses gv id→¬ uses bv id)∧(∀ id,uses gv id→¬ uses v9 id)∧∀ id,uses bv id→¬ uses v9 id
theorem SW.grow {ip:Nat} (h:SW s lo v R l X Pb c i v9 gv bv rs ip) (hn:s.n≤s'.n) (ho:∀ id,id<s.n→s'.get id=s.get id):SW s' lo v R l X Pb c i v9 gv bv rs ip:=
  have hl:=h.low
  ⟨h.gs.mono hn ho,(ho 0 (by omega)).trans h.b7,(ho X (by omega)).trans h.b10,(ho Pb (by omega)).trans h.pl,h.g.mono hn fun id hu=>ho id (h.g.lt hu),h.b.mono hn fun id hu=>ho id (h.b.lt hu),h.t.mono hn fun id hu=>ho id (h.t.lt hu),h.rl,h.rn,h.sep,by omega,h.up,h.ap⟩
theorem SV.same (h:SV s lo v R l X Pb c i v9 gv bv rs) (htk:l.take (i+1)=l.take i++[g]) (hg:g.gone=false) (hb:g.good=false):SW s lo v R l X Pb c i v9 gv bv rs i:=by
  have k3:bads (l.take (i+1))=bads (l.take i):=by rw [bads_snoc htk,hg];simp
  have k2:goods (l.take (i+1))=goods (l.take i):=by rw [goods_snoc htk,hg,hb];simp
  exact ⟨h.gs,h.b7,h.b10,h.pl,by rw [k2];exact h.g,by rw [k3];exact h.b,h.t,h.rl,h.rn,h.sep,h.low,h.up,h.ap⟩
theorem SV.good (h:SV s lo v R l X Pb c i v9 gv bv rs) (htk:l.take (i+1)=l.take i++[g]) (hg:g.gone=false) (hb:g.good=true) {gv':LV} (hn:s.n≤s'.n) (hX:s'.get X=some (.cells .mut [gv',bv])) (hg':SkC s' gv' 1 (ints (goods (l.take i))++[.int .i64 g.name]) ((goods (l.take i)).length+1)) (hf:∀ id,uses gv' id→s.n≤id) (ho:∀ id,id<s.n→id≠X→¬ uses gv id→s'.get id=s.get id):SW s' lo v R l X Pb c i v9 gv' bv rs i:=by
  have hl:=h.low
  have hu:=h.up
  have ha:=h.ap
  have hG:=h.gs' hn fun id h1 h2 _=>ho id (by omega) h2 fun hb=>by have:=hu.1 id hb;omega
  have k3:bads (l.take (i+1))=bads (l.take i):=by rw [bads_snoc htk,hg];simp
  refine ⟨hG.1,hG.2,hX,(ho Pb (by omega) (by omega) fun hb=>by have:=hu.1 Pb hb;omega).trans h.pl,?_,by rw [k3];exact h.b.mono hn fun id hid=>ho id (h.b.lt hid) (by have:=hu.2.1 id hid;omega) fun hb=>ha.1 id hb hid,h.t.mono hn fun id hid=>ho id (h.t.lt hid) (by have:=hu.2.2 id hid;omega) fun hb=>ha.2.1 id hb hid,h.rl,h.rn,h.sep,by omega,⟨fun id hid=>by have:=hf id hid;omega,hu.2⟩,⟨fun id h1 h2=>by have:=hf id h1;have:=h.b.lt h2;omega,fun id h1 h2=>by have:=hf id h1;have:=h.t.lt h2;omega,ha.2.2⟩⟩
  rw [goods_snoc htk,hg,hb]
  have e:ints (goods (l.take i)++[g.name])=ints (goods (l.take i))++[.int .i64 g.name]:=by simp [ints]
  simp only [Bool.not_false,Bool.and_self,if_true,List.length_append,List.length_singleton]
  rw [e];exact hg'
theorem SW.told (h:SW s lo v R l X Pb c i v9 gv bv rs i) (hn:s'.n=s.n) (hP:s'.get Pb=some (.cells .mut (vcells l.length (plf l (i+1))))) (ho:∀ id,id≠Pb→s'.get id=s.get id):SW s' lo v R l X Pb c i v9 gv bv rs (i+1):=by
  have hl:=h.low
  have hu:=h.up
  exact ⟨h.gs.frame (by omega) (fun id hid=>ho id (h.sep id (.inl hid)).2.2) fun r hr=>ho _ (h.sep _ (.inr ⟨r,hr,rfl⟩)).2.2,(ho 0 (by omega)).trans h.b7,(ho X (by omega)).trans h.b10,hP,h.g.mono (by omega) fun id hid=>ho id (by have:=hu.1 id hid;omega),h.b.mono (by omega) fun id hid=>ho id (by have:=hu.2.1 id hid;omega),h.t.mono (by omega) fun id hid=>ho id (by have:=hu.2.2 id hid;omega),h.rl,h.rn,h.sep,by omega,h.up,h.ap⟩
theorem SW.blk {ip nb:Nat} (h:SW s lo v R l X Pb c i v9 gv bv rs ip) (hn:s'.n=s.n) (hc:c≤nb) (h1:¬ uses gv nb) (h2:¬ uses bv nb) (h3:¬ uses v9 nb) (ho:∀ id,id≠nb→s'.get id=s.get id):SW s' lo v R l X Pb c i v9 gv bv rs ip:=by
  have hl:=h.low
  exact ⟨h.gs.frame (by omega) (fun id hid=>ho id (by have:=h.sep id (.inl hid);omega)) fun r hr=>ho _ (by have:=h.sep _ (.inr ⟨r,hr,rfl⟩);omega),(ho 0 (by omega)).trans h.b7,(ho X (by omega)).trans h.b10,(ho Pb (by omega)).trans h.pl,h.g.mono (by omega) fun id hid=>ho id fun e=>h1 (e ▸ hid),h.b.mono (by omega) fun id hid=>ho id fun e=>h2 (e ▸ hid),h.t.mono (by omega) fun id hid=>ho id fun e=>h3 (e ▸ hid),h.rl,h.rn,h.sep,by omega,h.up,h.ap⟩
theorem SW.done (h:SW s lo v R l X Pb c i v9 gv bv rs (i+1)) (htk:l.take (i+1)=l.take i++[g]) (hg:g.gone=false) {v9' svf:LV} (hn:s.n≤s'.n) {r:Int × Int × LV} (ht:SkC s' v9' 3 (wcl trow rs++trow r) (rs.length+1)) (hnd:IsNd r ⟨g.name,place l g.par,g.kept⟩) (hf:∀ id,uses v9' id→s.n≤id) {T:Nat→Prop} (hT:∀ id,T id→c≤id∧¬ uses gv id∧¬ uses bv id) (ho:∀ id,id<s.n→¬ uses v9 id→¬ T id→s'.get id=s.get id):SV s' lo v R l X Pb c (i+1) v9' gv bv (rs++[r]):=by
  have hl:=h.low
  have hu:=h.up
  have ha:=h.ap
  obtain ⟨k1,k2⟩:=leaveK_stay htk hg
  have hlt:∀ id,id<c→s'.get id=s.get id:=fun id hid=>ho id (by omega) (fun hb=>by have:=hu.2.2 id hb;omega) fun hb=>by have:=(hT id hb).1;omega
  refine ⟨h.gs.frame hn (fun id hid=>hlt id (h.sep id (.inl hid)).1) fun r hr=>hlt _ (h.sep _ (.inr ⟨r,hr,rfl⟩)).1,(hlt 0 (by omega)).trans h.b7,(hlt X (by omega)).trans h.b10,(hlt Pb (by omega)).trans h.pl,h.g.mono hn fun id hid=>ho id (h.g.lt hid) (ha.2.1 id hid) fun hb=>(hT id hb).2.1 hid,h.b.mono hn fun id hid=>ho id (h.b.lt hid) (ha.2.2 id hid) fun hb=>(hT id hb).2.2 hid,by rw [wcl_append,wcl_one,List.length_append,List.length_singleton];exact ht,by rw [k1,List.length_append,List.length_append,h.rl];rfl,fun k hk=>?_,h.sep,by omega,⟨hu.1,hu.2.1,fun id hid=>by have:=hf id hid;omega⟩,⟨ha.1,fun id h1 h2=>by have:=hf id h2;have:=h.g.lt h1;omega,fun id h1 h2=>by have:=hf id h2;have:=h.b.lt h1;omega⟩⟩
  rw [List.length_append,List.length_singleton] at hk
  rw [k1]
  by_cases e:k<rs.length
  · have e1:(rs++[r]).getD k default=rs.getD k default:=by simp [List.getD_eq_getElem?_getD,List.getElem?_append_left e]
    have e2:(leaveK l i++[(⟨g.name,place l g.par,g.kept⟩:Nd)]).getD k default=(leaveK l i).getD k default:=by
      rw [List.getD_eq_getElem?_getD,List.getD_eq_getElem?_getD,List.getElem?_append_left (by rw [← h.rl];exact e)]
    rw [e1,e2];exact h.rn k e
  · have e0:k=rs.length:=by omega
    subst e0
    have e1:(rs++[r]).getD rs.length default=r:=by simp [List.getD_eq_getElem?_getD]
    have e2:(leaveK l i++[(⟨g.name,place l g.par,g.kept⟩:Nd)]).getD rs.length default=(⟨g.name,place l g.par,g.kept⟩:Nd):=by
      rw [h.rl];simp [List.getD_eq_getElem?_getD]
    rw [e1,e2];exact hnd
end
noncomputable def okT (B:Bu) (t:List Nd):Prop:=t.length≤B.next.length∧Tr B.next.length t
noncomputable def stT (B:Bu) (t:List Nd) (a:Nat):List Nd:=if okT B t then Go.Tre.step B.next.length (fun q=>mvs B q a) t else []
noncomputable def stG (B:Bu) (t:List Nd) (a:Nat):List Int:=if okT B t then evG B.next.length (fun q=>mvs B q a) t else []
noncomputable def stB (B:Bu) (t:List Nd) (a:Nat):List Int:=if okT B t then evB B.next.length (fun q=>mvs B q a) t else []
set_option maxHeartbeats 16000000 in
theorem tstep_ok {bv0 tv:LV} {B:Bu} {sv nv:LV} (hB:IsB bv0 B sv nv) (hv:Vb B) (hN:B.next.length≤1500) {t:List Nd} {rs0:List (Int × Int × LV)} (ht:IsTr tv t rs0) {a:Nat} (ha:(a:Int)<B.L) (hlim:∀ q,(mvs B q a).length≤1000000) :
    PE 51 [bv0,tv, .int .i64 (a:Int)] (fun r=>∃ tv' gv bv rs,r = .tup [tv', .agg [gv,bv]]∧IsTr tv' (stT B t a) rs∧IsInts gv (stG B t a)∧IsInts bv (stB B t a)):=by
  have hcl:=hB.closed
  have htc:=ht.closed
  have hval:=tvalidB_ok hB ht
  have hgrow:=fun h1 h2 h3 s=>grown_ok hB ht (a:=a) h1 h2 hlim h3 s
  obtain ⟨rfl,hs,hn⟩:=hB
  have hsc:=hs.closed
  have hnc:=hn.closed
  obtain ⟨vs,hn'⟩:=hn
  have hsc1:=hs.sl.cell
  have hnc1:=hn'.sl.cell
  have hL64:=hv.2.1
  refine q_fnExR Try.func51 (by decide +kernel) c51 (Nat.le_of_ble_eq_true rfl) (by simp [LV.closed.closedAll,LV.closed,hcl,htc,hsc,hnc]) ?_
  have e0:(envOf [LV.agg [.int .i64 B.L,sv,nv],tv, .int .i64 (a:Int)]).at 0 = .agg [.int .i64 B.L,sv,nv]:=by rw [envOf_at];rfl
  have e1:(envOf [LV.agg [.int .i64 B.L,sv,nv],tv, .int .i64 (a:Int)]).at 1=tv:=by rw [envOf_at];rfl
  have e2:(envOf [LV.agg [.int .i64 B.L,sv,nv],tv, .int .i64 (a:Int)]).at 2 = .int .i64 (a:Int):=by rw [envOf_at];rfl
  generalize envOf [LV.agg [.int .i64 B.L,sv,nv],tv, .int .i64 (a:Int)]=e at *
  unfold l51
  dsimp only [jA,jB,jC,jG,jH,qM,qL,qN,qF,qS,qI,qA,qB,qC,qO,qP,qG,qm,ql]
  by_cases hok:okT B t
  · have hdec : decide (Vb B ∧ t.length ≤ B.next.length ∧ Tr B.next.length t) = true := decide_eq_true ⟨hv, hok⟩
    rw [hdec] at hval
    clear hdec
    have hvB:=Bx.mk hv
    clear hv
    repeat' (first | refine gA trivial ?_ | (refine gB trivial ?_;intro bb hbb;cases bb<;>(try simp only [hbs,if_false,reduceCtorEq] at hbb)<;>(try first | (exfalso;omega) | exact hbb.elim)) | apply qc_seq | fail)
    refine q_pure hG0 (hval) (by first | exact wN | (apply wG;(simp only [lk,Nat.reduceEqDiff,reduceIte,e0,e1,e2];(try rfl);done))) (by simp only [List.map,lk,Nat.reduceEqDiff,reduceIte,e0,e1,e2];try rfl) (by first | trivial | (simp only [Chks,wantedG,LOp.run,Env.put_some,Env.put_none,lk,sv1,sv2,sv3,Nat.reduceEqDiff,Nat.reduceAdd,Nat.reduceLeDiff,reduceIte,if_false,if_true,mkVal,unLV,List.map,optTmps,beq_self_eq_true,reduceCtorEq,false_or,true_and,and_true,Option.some.injEq, *];done)) ?_
    simp only [Env.put_some]
    clear hval
    repeat' (first | refine gA trivial ?_ | (refine gB trivial ?_;intro bb hbb;cases bb<;>(try simp only [hbs,if_false,reduceCtorEq] at hbb)<;>(try first | (exfalso;omega) | exact hbb.elim)) | apply qc_seq | fail)
    have hv:=hvB.out
    have hTr:=hok.2
    have hE:Bx (stT B t a=Go.Tre.step B.next.length (fun q=>mvs B q a) t∧stG B t a=evG B.next.length (fun q=>mvs B q a) t∧stB B t a=evB B.next.length (fun q=>mvs B q a) t):=⟨by simp [stT,stG,stB,hok]⟩
    have hsets:SetsIn B.next.length t:=fun n hn x hx=>by
      obtain ⟨i,hi,rfl⟩:=List.getElem_of_mem hn
      have h:=hTr.1 i hi
      rw [List.getD_eq_getElem?_getD,List.getElem?_eq_getElem hi] at h
      exact h.rng x hx
    have hrow:∀ q,q<B.next.length→a<(B.next.getD q []).length:=fun q hq=>by
      have:=(hv.2.2.2.2 q hq).1
      omega
    have htgt:∀ q,q<B.next.length→∀ m∈mvs B q a,0≤m.1∧m.1<B.next.length:=fun q hq m hm=>by
      have h:=(hv.2.2.2.2 q hq).2 a (hrow q hq)
      obtain ⟨k,hk,rfl⟩:=List.getElem_of_mem hm
      have h1:=h k hk
      rw [show (B.next.getD q []).getD a []=mvs B q a from rfl,List.getD_eq_getElem?_getD,List.getElem?_eq_getElem hk] at h1
      exact ⟨h1.1,h1.2.1⟩
    have hg:=hgrow hsets hrow htgt
    have hb0:(St.empty.new (.cells .mut [.nils, .nils])).get 0=some (.cells .mut [.nils, .nils]):=by simp [n_empty]
    have hn0:(St.empty.new (.cells .mut [.nils, .nils])).n=1:=by simp [n_empty]
    generalize St.empty.new (.cells .mut [.nils, .nils])=s0 at *
    have hP1:=grown_p (mv:=fun q=>mvs B q a) hTr (by omega)
    have hlG:(grown B.next.length (fun q=>mvs B q a) t).length=2*t.length:=by simp [grown];omega
    have htl:=hok.1
    refine q_call wN (fv:=.fn (.func 62) [] []) (vs:=[.agg [.int .i64 B.L,sv,nv],tv, .int .i64 (a:Int)]) ef (by simp only [List.map,lk,sv1,sv2,sv3,Nat.reduceEqDiff,Nat.reduceAdd,Nat.reduceLeDiff,reduceIte,if_false,if_true,mkVal,unLV,List.map,optTmps]) (CallOk.mono (hg _) fun v s1 hh=>⟨trivial,?_⟩)
    obtain ⟨R1,hG1,hR1,hn1,ho1⟩:=hh
    simp only [Env.put_some]
    clear hg hgrow
    have hl1:R1.length=2*t.length:=by rw [← hlG,← hR1,List.length_map]
    have hlist:listOf B.next.length (fun q=>mvs B q a) t=named (2*B.next.length) (collapse (divide (R1.map (·.1)))):=by rw [hR1];rfl
    rw [← hR1] at hP1
    have hP2:=divide_p hP1
    have hP3:=collapse_p hP2
    have hP4:=named_p hP3
    have hc1:=divide_ok hG1 hP1.1 (by omega) (by omega) fun n hn=>(hP1.2 n hn).inc.imp fun h=>by omega
    repeat' (first | refine gA trivial ?_ | (refine gB trivial ?_;intro bb hbb;cases bb<;>(try simp only [hbs,if_false,reduceCtorEq] at hbb)<;>(try first | (exfalso;omega) | exact hbb.elim)) | apply qc_seq | fail)
    refine q_call wN (fv:=.fn (.func 63) [] []) (vs:=[v]) ef (by simp only [List.map,lk,sv1,sv2,sv3,Nat.reduceEqDiff,Nat.reduceAdd,Nat.reduceLeDiff,reduceIte,if_false,if_true,mkVal,unLV,List.map,optTmps]) (CallOk.mono hc1 fun x s2 hh=>⟨trivial,?_⟩)
    obtain ⟨R2,hG2,hR2,hn2,ho2⟩:=hh
    simp only [Env.put_some]
    have hl2:R2.length=R1.length:=by
      have:=congrArg List.length hR2
      rw [List.length_map] at this
      rw [this];unfold divide;rw [foldS_length,List.length_map]
    rw [← hR2] at hP2 hP3 hP4 hlist
    have hc2:=collapse_ok hG2 hP2.1 (by omega) (by omega) fun n hn=>⟨(hP2.2 n hn).inc.imp fun h=>by omega,(hP2.2 n hn).len⟩
    clear hc1
    repeat' (first | refine gA trivial ?_ | (refine gB trivial ?_;intro bb hbb;cases bb<;>(try simp only [hbs,if_false,reduceCtorEq] at hbb)<;>(try first | (exfalso;omega) | exact hbb.elim)) | apply qc_seq | fail)
    refine q_call wN (fv:=.fn (.func 64) [] []) (vs:=[v]) ef (by simp only [List.map,lk,sv1,sv2,sv3,Nat.reduceEqDiff,Nat.reduceAdd,Nat.reduceLeDiff,reduceIte,if_false,if_true,mkVal,unLV,List.map,optTmps]) (CallOk.mono hc2 fun x s3 hh=>⟨trivial,?_⟩)
    obtain ⟨R3,hG3,hR3,hn3,ho3⟩:=hh
    simp only [Env.put_some]
    have hl3:R3.length=R2.length:=by
      have:=congrArg List.length hR3
      rw [List.length_map] at this
      rw [this];unfold collapse;rw [foldS_length,List.length_map]
    rw [← hR3] at hP3 hP4 hlist
    have hc3:=name_ok (f:=2*B.next.length) hG3 (by omega) (by omega) (by omega) (used_p hP3.2)
    clear hc2
    repeat' (first | refine gA trivial ?_ | (refine gB trivial ?_;intro bb hbb;cases bb<;>(try simp only [hbs,if_false,reduceCtorEq] at hbb)<;>(try first | (exfalso;omega) | exact hbb.elim)) | apply qc_seq | fail)
    refine q_call wN (fv:=.fn (.func 65) [] []) (vs:=[v]) ef (by simp only [List.map,lk,sv1,sv2,sv3,Nat.reduceEqDiff,Nat.reduceAdd,Nat.reduceLeDiff,reduceIte,if_false,if_true,mkVal,unLV,List.map,optTmps]) (CallOk.mono hc3 fun x s4 hh=>⟨trivial,?_⟩)
    obtain ⟨R,hG,hR,hn4,ho4⟩:=hh
    simp only [Env.put_some]
    have hl4:R.length=R3.length:=by
      have:=congrArg List.length hR
      rw [List.length_map] at this
      rw [this];unfold named;rw [namS_length,List.length_map]
    rw [← hR] at hP4 hlist
    have hb4:s4.get 0=some (.cells .mut [.nils, .nils]):=by
      rw [ho4 0 (by omega),ho3 0 (by omega),ho2 0 (by omega),ho1 0 (by omega)];exact hb0
    have hcn:Bx (2*B.next.length+(R3.map (·.1)).length≤6000):=⟨by rw [List.length_map];omega⟩
    have hRl:R.length≤3000:=by omega
    have hlo:s0.n≤s4.n:=by omega
    rw [hn0] at hG hlo
    generalize 2*B.next.length+(R3.map (·.1)).length=cc at *
    have hvl:=hG.sg.len
    have hll:(R.map (·.1)).length=R.length:=List.length_map ..
    have hkB:=Bx.mk hlist
    have hs0:∀ id,uses v id→1≤id:=hG.low.1
    have hs1:∀ r∈R,1≤r.2.2:=hG.low.2
    clear hc3 hG1 hR1 hn1 ho1 hG2 hR2 hn2 ho2 hG3 hR3 hn3 ho3 hP1 hP2 hP3 ho4 hb0 hn0 hlG hl1 hl2 hl3 hn4 hl4 hlist hR
    clear s1 s2 s3 R1 R2 R3 s0
    repeat' (first | refine gA @hvl ?_ | (refine gB @hvl ?_;intro bb hbb;cases bb<;>(try simp only [hbs,if_false,reduceCtorEq] at hbb)<;>(try first | (exfalso;omega) | exact hbb.elim)) | apply qc_seq | fail)
    refine u_mkV (n:=R.length) (k:=s4.n+1) (z:=.int .i64 0) wN rfl ef ef (by omega) (by decide) ?_
    repeat' (first | refine gA @hvl ?_ | (refine gB @hvl ?_;intro bb hbb;cases bb<;>(try simp only [hbs,if_false,reduceCtorEq] at hbb)<;>(try first | (exfalso;omega) | exact hbb.elim)) | apply qc_seq | fail)
    generalize hlE:R.map (·.1)=l at *
    have hgd:∀ i,i<R.length→R[i]? = some (R.getD i default)∧(R.getD i default).1=l.getD i default:=fun i hi=>by
      have h1:R[i]? = some (R.getD i default):=by rw [List.getD_eq_getElem?_getD,List.getElem?_eq_getElem hi];rfl
      refine ⟨h1,?_⟩
      rw [← hlE,List.getD_eq_getElem?_getD (l:=R.map (·.1)),List.getElem?_map,h1];rfl
    refine qc_loop (fun m e s=>∃ (i:Nat) (v9 gv bv:LV) (rs:List (Int × Int × LV)),m=R.length - i∧i≤R.length∧SV s 1 v R l s4.n (s4.n+1) (s4.n+2) i v9 gv bv rs∧e.at 7 = .pref 0 0∧e.at 9=v9∧e.at 10 = .pref s4.n 0∧e.at 11 = .sref (s4.n+1) 0 R.length 1∧e.at 42=v∧e.at 43 = .int .i64 (R.length:Int)∧e.at 44 = .int .i64 (i:Int)) _
      ⟨0, .nils, .nils, .nils,[],rfl,by omega,?_,ef,ef,ef,ef,ef,ef,by simp only [lk,sv1,sv2,sv3,Nat.reduceEqDiff,Nat.reduceAdd,Nat.reduceLeDiff,reduceIte,if_false,if_true,mkVal,unLV,List.map,optTmps];rfl⟩ ?_
    · have hgg:∀ id,id<s4.n→((s4.new (.cells .mut [.nils, .nils])).new (.cells .mut (vcells R.length fun _=>.int .i64 0))).get id=s4.get id:=fun id hid=>by rw [St.get_new,if_neg (by simp;omega),St.get_new,if_neg (by omega)]
      exact {
        gs:=hG.mono (by simp;omega) hgg
        b7:=(hgg 0 (by omega)).trans hb4
        b10:=by rw [St.get_new,if_neg (by simp),St.get_new,if_pos rfl]
        pl:=by
          rw [St.get_new,if_pos (by simp),hll]
          congr 2
        g:=SkC.nil _ _
        b:=SkC.nil _ _
        t:=SkC.nil _ _
        rl:=rfl
        rn:=fun k hk=>absurd hk (by simp)
        sep := fun id hid => by
          have:id<s4.n:=by
            rcases hid with hu | ⟨r,hr,rfl⟩
            · exact hG.sg.lt hu
            · exact hG.at_lt r hr
          omega
        low:=by simp;omega
        up:=⟨fun id hu=>absurd hu (uses_nils id),fun id hu=>absurd hu (uses_nils id),fun id hu=>absurd hu (uses_nils id)⟩
        ap:=⟨fun id hu=>absurd hu (uses_nils id),fun id hu=>absurd hu (uses_nils id),fun id hu=>absurd hu (uses_nils id)⟩ }
    clear e0 e1 e2 hb4 hG
    clear e
    rintro m e s ⟨i,v9,gv,bv,rs,rfl,hi,hS,e7,e9,e10,e11,e42,e43,e44⟩
    by_cases hil:i<R.length
    · have hiI:(i:Int)<(R.length:Int):=by omega
      have hwi:IntKind.i64.wrap ((i:Int)+1)=((i+1:Nat):Int):=by rw [wrap_i64 _ (by omega) (by omega)];rfl
      obtain ⟨J,rest,hvJ,hJ,hgJ⟩:=hS.gs.sg.pos (by omega)
      subst hvJ
      obtain ⟨hri,hrl⟩:=hgd i hil
      have htk:=take_one l default (k:=i) (by omega)
      have hgp:=hP4.1 i (by omega)
      have hgP:=hP4.2 _ (getD_mem (l:=l) (i:=i) (by omega))
      have hrm:R.getD i default∈R:=getD_mem hil
      have hgl:=hrl
      rw [← hrl] at htk hgp hgP
      clear hrl
      generalize R.getD i default=r at *
      have hsv:=hS.gs.sets _ hrm
      have hsvc:=hsv.sl.cell
      obtain ⟨g,xv,M⟩:=r
      simp only at htk hgp hgP hsvc hgl
      have hglB:=Bx.mk hgl.symm
      clear hgl
      have hld:loadLV (some 7) (.pref J (i*7)) s=some (.agg [.int .i64 g.name, .int .i64 g.par,xv, .mref M, .bool g.old, .bool g.good, .bool g.gone]):=loadN_rw grow_len hri hgJ
      have hMb:M<s4.n+2:=(hS.sep M (.inr ⟨_,hrm,rfl⟩)).1
      have hms:=hS.gs.ms hrm
      have hS1:=hS.grow (s':=(s.new (.cells .mut [.int .i64 0, .int .i64 0, .nils, .nilm, .bool false, .bool false, .bool false])).put s.n (.cells .mut [.int .i64 g.name, .int .i64 g.par,xv, .mref M, .bool g.old, .bool g.good, .bool g.gone])) (by simp) fun id hid=>by rw [St.get_put,if_neg (by omega),St.get_new,if_neg (by omega)]
      have hb1:((s.new (.cells .mut [.int .i64 0, .int .i64 0, .nils, .nilm, .bool false, .bool false, .bool false])).put s.n (.cells .mut [.int .i64 g.name, .int .i64 g.par,xv, .mref M, .bool g.old, .bool g.good, .bool g.gone])).get s.n=some (.cells .mut [.int .i64 g.name, .int .i64 g.par,xv, .mref M, .bool g.old, .bool g.good, .bool g.gone]):=by rw [St.get_put,if_pos rfl]
      have hn1:((s.new (.cells .mut [.int .i64 0, .int .i64 0, .nils, .nilm, .bool false, .bool false, .bool false])).put s.n (.cells .mut [.int .i64 g.name, .int .i64 g.par,xv, .mref M, .bool g.old, .bool g.good, .bool g.gone])).n=s.n+1:=rfl
      have hcs:=hS.low.2.2.2
      have hgnb:∀ id,uses gv id→id<s.n:=fun id hu=>hS.g.lt hu
      have htnb:∀ id,uses v9 id→id<s.n:=fun id hu=>hS.t.lt hu
      have hbnb:∀ id,uses bv id→id<s.n:=fun id hu=>hS.b.lt hu
      have hSB:=Bx.mk hS1
      have htB:=Bx.mk htk
      clear hS hS1 hgJ hms htk
      repeat' (first | refine gN (And.intro @iaS @hld) ?_ | (refine gB (And.intro @iaS @hld) ?_;intro bb hbb;cases bb<;>(try simp only [hbs,if_false,reduceCtorEq] at hbb)<;>(try first | (exfalso;omega) | exact hbb.elim)) | fail)
      generalize (s.new (.cells .mut [.int .i64 0, .int .i64 0, .nils, .nilm, .bool false, .bool false, .bool false])).put s.n (.cells .mut [.int .i64 g.name, .int .i64 g.par,xv, .mref M, .bool g.old, .bool g.good, .bool g.gone])=s1 at *
      generalize s.n=nb at *
      clear hld
      have hX:=hSB.out.b10
      cases hgo:g.gone with
      | true=>
        cases hold:g.old with
        | true=>
          rw [hgo,hold] at hb1
          repeat' (first | refine gA (And.intro @hb1 @hX) ?_ | (refine gB (And.intro @hb1 @hX) ?_;intro bb hbb;cases bb<;>(try simp only [hbs,if_false,reduceCtorEq] at hbb)<;>(try first | (exfalso;omega) | exact hbb.elim)) | apply qc_seq | fail)
          refine q_appC (n:=(bads (l.take i)).length) (esz:=1) (xv:=.int .i64 g.name) (yv:=bv) (vs:=[.int .i64 g.name]) (cells:=ints (bads (l.take i))) ef rfl rfl rfl rfl ef hSB.out.b (by decide) (by
            have:=List.length_filter_le (fun n:Gn=>n.gone && n.old) (l.take i)
            rw [List.length_take] at this
            unfold bads
            rw [List.length_map]
            omega) (fun s2 j a1 a4 a5 a6=>?_)
          have hl:=hSB.out.low
          have hX2:s2.get s4.n=some (.cells .mut [gv,bv]):=by rw [a6 _ (by omega) fun hu=>by have:=hSB.out.up.2.1 _ hu;omega];exact hX
          have hfB:=Bx.mk (And.intro a4 a6)
          clear a4 a6 hX
          repeat' (first | refine gA (And.intro @hX2 @hwi) ?_ | (refine gB (And.intro @hX2 @hwi) ?_;intro bb hbb;cases bb<;>(try simp only [hbs,if_false,reduceCtorEq] at hbb)<;>(try first | (exfalso;omega) | exact hbb.elim)) | apply qc_seq | fail)
          refine ⟨R.length - (i+1),by omega,i+1,v9,gv,_,rs,rfl,by omega,hSB.out.bad htB.out hglB.out hgo hold (by simp;omega) (by rw [St.get_put,if_pos rfl]) (hfB.out.1.mono (by simp) fun id hid=>by have:=uses_sref.1 hid;rw [St.get_put,if_neg (by omega)]) (fun id hid=>by have:=uses_sref.1 hid;omega) (fun id h1 h2 h3=>by rw [St.get_put,if_neg h2];exact hfB.out.2 id h1 h3),?_⟩
          simp only [lk,sv1,sv2,sv3,Nat.reduceEqDiff,Nat.reduceAdd,Nat.reduceLeDiff,reduceIte,if_false,if_true,mkVal,unLV,List.map,optTmps,hwi,e7,e9,e10,e11,e42,e43,e44,and_self]
        | false=>
          rw [hgo,hold] at hb1
          repeat' (first | refine gA (And.intro @hb1 @hwi) ?_ | (refine gB (And.intro @hb1 @hwi) ?_;intro bb hbb;cases bb<;>(try simp only [hbs,if_false,reduceCtorEq] at hbb)<;>(try first | (exfalso;omega) | exact hbb.elim)) | apply qc_seq | fail)
          refine ⟨R.length - (i+1),by omega,i+1,v9,gv,bv,rs,rfl,by omega,hSB.out.skip htB.out hglB.out hgo hold,?_⟩
          simp only [lk,sv1,sv2,sv3,Nat.reduceEqDiff,Nat.reduceAdd,Nat.reduceLeDiff,reduceIte,if_false,if_true,mkVal,unLV,List.map,optTmps,hwi,e7,e9,e10,e11,e42,e43,e44,and_self]
      | false =>
        refine qc_mid (fun e' s'=>s'=s1∧e'.at 7 = .pref 0 0∧e'.at 9=v9∧e'.at 10 = .pref s4.n 0∧e'.at 11 = .sref (s4.n+1) 0 R.length 1∧e'.at 42 = .sref J 0 R.length 7∧e'.at 43 = .int .i64 (R.length:Int)∧e'.at 44 = .int .i64 (i:Int)∧e'.at 12 = .int .i64 (i:Int)∧e'.at 13 = .pref nb 0) ?_ ?_
        · rw [hgo] at hb1
          repeat' (first | refine gA @hb1 ?_ | (refine gB @hb1 ?_;intro bb hbb;cases bb<;>(try simp only [hbs,if_false,reduceCtorEq] at hbb)<;>(try first | (exfalso;omega) | exact hbb.elim)) | apply qc_seq | fail)
          exact ⟨trivial,ef,ef,ef,ef,ef,ef,ef,ef,ef⟩
        clear e7 e9 e10 e11 e42 e43 e44
        clear e
        rintro e s2 ⟨rfl,e7,e9,e10,e11,e42,e43,e44,e12,e13⟩
        refine qc_mid (fun e' s'=>(∃ gv',SW s' 1 (.sref J 0 R.length 7) R l s4.n (s4.n+1) (s4.n+2) i v9 gv' bv rs i∧s'.get nb=some (.cells .mut [.int .i64 g.name, .int .i64 g.par,xv, .mref M, .bool g.old, .bool g.good, .bool g.gone])∧nb<s'.n∧¬ uses gv' nb)∧e'.at 7 = .pref 0 0∧e'.at 9=v9∧e'.at 10 = .pref s4.n 0∧e'.at 11 = .sref (s4.n+1) 0 R.length 1∧e'.at 42 = .sref J 0 R.length 7∧e'.at 43 = .int .i64 (R.length:Int)∧e'.at 44 = .int .i64 (i:Int)∧e'.at 12 = .int .i64 (i:Int)∧e'.at 13 = .pref nb 0) ?_ ?_
        · cases hgood:g.good with
          | true=>
            have hb1':=hb1
            rw [hgood] at hb1'
            repeat' (first | refine gA (And.intro @hb1' @hX) ?_ | (refine gB (And.intro @hb1' @hX) ?_;intro bb hbb;cases bb<;>(try simp only [hbs,if_false,reduceCtorEq] at hbb)<;>(try first | (exfalso;omega) | exact hbb.elim)) | apply qc_seq | fail)
            refine q_appC (n:=(goods (l.take i)).length) (esz:=1) (xv:=.int .i64 g.name) (yv:=gv) (vs:=[.int .i64 g.name]) (cells:=ints (goods (l.take i))) ef rfl rfl rfl rfl ef hSB.out.g (by decide) (by
              have:=List.length_filter_le (fun n:Gn=>!n.gone && n.good) (l.take i)
              rw [List.length_take] at this
              unfold goods
              rw [List.length_map]
              omega) (fun s3 j a1 a4 a5 a6=>?_)
            have hl:=hSB.out.low
            have hX2:s3.get s4.n=some (.cells .mut [gv,bv]):=by rw [a6 _ (by omega) fun hu=>by have:=hSB.out.up.1 _ hu;omega];exact hX
            have hnb3:s3.get nb=some (.cells .mut [.int .i64 g.name, .int .i64 g.par,xv, .mref M, .bool g.old, .bool g.good, .bool g.gone]):=by rw [a6 _ (by omega) fun hu=>by have:=hgnb _ hu;omega];exact hb1
            have hfB:=Bx.mk (And.intro a4 (And.intro a6 hnb3))
            clear a4 a6 hX hb1 hb1' hnb3
            repeat' (first | refine gA @hX2 ?_ | (refine gB @hX2 ?_;intro bb hbb;cases bb<;>(try simp only [hbs,if_false,reduceCtorEq] at hbb)<;>(try first | (exfalso;omega) | exact hbb.elim)) | apply qc_seq | fail)
            refine ⟨⟨.sref j 0 ((goods (l.take i)).length+1) 1,hSB.out.good htB.out hgo hgood (by simp;omega) (by rw [St.get_put,if_pos rfl]) (hfB.out.1.mono (by simp) fun id hid=>by have:=uses_sref.1 hid;rw [St.get_put,if_neg (by omega)]) (fun id hid=>by have:=uses_sref.1 hid;omega) (fun id h1 h2 h3=>by rw [St.get_put,if_neg h2];exact hfB.out.2.1 id h1 h3),by rw [St.get_put,if_neg (by omega)];have h:=hfB.out.2.2;rw [hgood] at h;exact h,by simp;omega,fun hu=>by have:=uses_sref.1 hu;omega⟩,ef,ef,ef,ef,ef,ef,ef,ef,ef⟩
          | false=>
            have hb1':=hb1
            rw [hgood] at hb1'
            have hfB:=Bx.mk (hSB.out.same htB.out hgo hgood)
            have hb1B:=Bx.mk hb1
            clear hb1
            repeat' (first | refine gA @hb1' ?_ | (refine gB @hb1' ?_;intro bb hbb;cases bb<;>(try simp only [hbs,if_false,reduceCtorEq] at hbb)<;>(try first | (exfalso;omega) | exact hbb.elim)) | apply qc_seq | fail)
            rw [hgood] at hb1B
            exact ⟨⟨gv,hfB.out,hb1B.out,by omega,fun hu=>by have:=hgnb _ hu;omega⟩,ef,ef,ef,ef,ef,ef,ef,ef,ef⟩
        clear e7 e9 e10 e11 e42 e43 e44 e12 e13 hSB hX hb1
        clear e
        rintro e s3 ⟨⟨gv',hW,hb3,hnb,hgn⟩,e7,e9,e10,e11,e42,e43,e44,e12,e13⟩
        have hvl9:=hW.t.len
        have hiL:(i:Int)<(R.length:Int):=hiI
        repeat' (first | refine gN (And.intro @hvl9 @iaS) ?_ | (refine gB (And.intro @hvl9 @iaS) ?_;intro bb hbb;cases bb<;>(try simp only [hbs,if_false,reduceCtorEq] at hbb)<;>(try first | (exfalso;omega) | exact hbb.elim)) | fail)
        refine q_storeV (n:=l.length) (q:=i) (f:=plf l i) (f':=plf l (i+1)) (v:=.int .i64 (rs.length:Int)) ef ef rfl hW.pl (by omega) (fun j=>by rw [plf_stay hglB.out hgo,hW.rl]) (fun s5 hn5 hg5 ho5=>?_)
        have hW5:=hW.told hn5 hg5 ho5
        have hlw:=hW.low
        have hb5:=(ho5 nb (by omega)).trans hb3
        clear hW hb3 hg5 ho5
        have hWB:=Bx.mk hW5
        have hpl:=hW5.pl
        rw [hll] at hpl
        clear hW5
        repeat' (first | refine gN trivial ?_ | (refine gB trivial ?_;intro bb hbb;cases bb<;>(try simp only [hbs,if_false,reduceCtorEq] at hbb)<;>(try first | (exfalso;omega) | exact hbb.elim)) | fail)
        refine qc_mid (fun e' s'=>(SW s' 1 (.sref J 0 R.length 7) R l s4.n (s4.n+1) (s4.n+2) i v9 gv' bv rs (i+1)∧s'.get nb=some (.cells .mut [.int .i64 g.name, .int .i64 (place l g.par),xv, .mref M, .bool g.old, .bool g.good, .bool g.gone])∧nb<s'.n)∧e'.at 7 = .pref 0 0∧e'.at 9=v9∧e'.at 10 = .pref s4.n 0∧e'.at 11 = .sref (s4.n+1) 0 R.length 1∧e'.at 42 = .sref J 0 R.length 7∧e'.at 43 = .int .i64 (R.length:Int)∧e'.at 44 = .int .i64 (i:Int)∧e'.at 12 = .int .i64 (i:Int)∧e'.at 13 = .pref nb 0) ?_ ?_
        · by_cases hp0:0≤g.par
          · obtain ⟨q,hq⟩:∃ q:Nat,g.par=(q:Int):=⟨g.par.toNat,by omega⟩
            have hqI:(q:Int)<(R.length:Int):=by omega
            have hpq:(vcells R.length (plf l (i+1)))[q]? = some (.int .i64 (place l (q:Int))):=by rw [vcells_get (by omega)];simp [plf,show q<i+1 by omega]
            rw [hq] at hb5 ⊢
            repeat' (first | refine gA (And.intro @hb5 (And.intro @iaS (And.intro @hpl @hpq))) ?_ | (refine gB (And.intro @hb5 (And.intro @iaS (And.intro @hpl @hpq))) ?_;intro bb hbb;cases bb<;>(try simp only [hbs,if_false,reduceCtorEq] at hbb)<;>(try first | (exfalso;omega) | exact hbb.elim)) | apply qc_seq | fail)
            refine ⟨⟨hWB.out.blk (by simp) (by omega) hgn (fun hu=>by have:=hbnb _ hu;omega) (fun hu=>by have:=htnb _ hu;omega) fun id hid=>by rw [St.get_put,if_neg hid],by rw [St.get_put,if_pos rfl,hgo],by simp;omega⟩,ef,ef,ef,ef,ef,ef,ef,ef,ef⟩
          · have hpl0:place l g.par=g.par:=by unfold place;rw [if_neg hp0]
            have hb5B:=Bx.mk hb5
            rw [hpl0]
            repeat' (first | refine gA @hb5 ?_ | (refine gB @hb5 ?_;intro bb hbb;cases bb<;>(try simp only [hbs,if_false,reduceCtorEq] at hbb)<;>(try first | (exfalso;omega) | exact hbb.elim)) | apply qc_seq | fail)
            exact ⟨⟨hWB.out,hb5B.out,by omega⟩,ef,ef,ef,ef,ef,ef,ef,ef,ef⟩
        · clear e7 e9 e10 e11 e42 e43 e44 e12 e13 hWB hpl hb5 hlw
          clear e
          rintro e s6 ⟨⟨hW,hb6,hnb6⟩,e7,e9,e10,e11,e42,e43,e44,e12,e13⟩
          have hg6:∀ id,uses gv' id→id<s6.n:=fun id hu=>hW.g.lt hu
          have hWB:=Bx.mk hW
          clear hW
          repeat' (first | refine gN @hb6 ?_ | (refine gB @hb6 ?_;intro bb hbb;cases bb<;>(try simp only [hbs,if_false,reduceCtorEq] at hbb)<;>(try first | (exfalso;omega) | exact hbb.elim)) | fail)
          refine q_call wN (fv:=.fn (.func 67) [] []) (vs:=[.mref M]) ef (by simp only [List.map,lk,sv1,sv2,sv3,Nat.reduceEqDiff,Nat.reduceAdd,Nat.reduceLeDiff,reduceIte,if_false,if_true,mkVal,unLV,List.map,optTmps]) (CallOk.mono (keys_ok (M:=M) _) fun x s7 hh=>⟨trivial,?_⟩)
          obtain ⟨rfl,hs7⟩:=hh
          simp only [Env.put_some]
          have hn7:s7.n=s6.n+1:=by rw [hs7];rfl
          have ho7:∀ id,id<s6.n→s7.get id=s6.get id:=fun id hid=>by rw [hs7,St.get_new,if_neg (by omega)]
          have hk7:s7.get s6.n=some (.cells .mut [.mref M]):=by rw [hs7,St.get_new,if_pos rfl]
          have hW7:=hWB.out.grow (s':=s7) (by omega) ho7
          have hlw:=hWB.out.low
          have hsort:=sorted_ok (M:=M) (b:=s6.n) s7 hgP.inc (by have:=hgP.len;omega) hk7 (hW7.gs.ms hrm) (by omega)
          have hW7B:=Bx.mk (And.intro hW7 (And.intro (ho7 nb hnb6) hb6))
          clear hW7 hs7 ho7 hb6 hWB hk7
          repeat' (first | refine gN trivial ?_ | (refine gB trivial ?_;intro bb hbb;cases bb<;>(try simp only [hbs,if_false,reduceCtorEq] at hbb)<;>(try first | (exfalso;omega) | exact hbb.elim)) | fail)
          refine q_call wN (fv:=.fn (.func 66) [] []) (vs:=[.fn (.func 79) [] [.pref s6.n 0]]) ef (by simp only [List.map,lk,sv1,sv2,sv3,Nat.reduceEqDiff,Nat.reduceAdd,Nat.reduceLeDiff,reduceIte,if_false,if_true,mkVal,unLV,List.map,optTmps]) (CallOk.mono hsort fun x s8 hh=>⟨trivial,?_⟩)
          obtain ⟨hn8,ho8,hx8,hu8⟩:=hh
          simp only [Env.put_some]
          have hxc:=hx8.cell
          have hb8:=((ho8 nb (by omega)).trans hW7B.out.2.1).trans hW7B.out.2.2
          have hW8:=hW7B.out.1.grow hn8 ho8
          have hxB:=Bx.mk (And.intro hx8 (And.intro hu8 hW8))
          clear hsort hx8 hu8 ho8 hW8 hW7B
          repeat' (first | refine gN (And.intro @hb8 @hxc) ?_ | (refine gB (And.intro @hb8 @hxc) ?_;intro bb hbb;cases bb<;>(try simp only [hbs,if_false,reduceCtorEq] at hbb)<;>(try first | (exfalso;omega) | exact hbb.elim)) | fail)
          have hW9:=hxB.out.2.2.blk (nb:=nb) (s':=s8.put nb (.cells .mut [.int .i64 g.name, .int .i64 (place l g.par),x, .mref M, .bool g.old, .bool g.good, .bool false])) (by simp) (by omega) hgn (fun hu=>by have:=hbnb _ hu;omega) (fun hu=>by have:=htnb _ hu;omega) fun id hid=>by rw [St.get_put,if_neg hid]
          have hx9:=hxB.out.1.mono (s':=s8.put nb (.cells .mut [.int .i64 g.name, .int .i64 (place l g.par),x, .mref M, .bool g.old, .bool g.good, .bool false])) (by simp) fun id hid=>by
            have:=hxB.out.2.1 id hid
            rw [St.get_put,if_neg (by omega)]
          have hn9:(s8.put nb (.cells .mut [.int .i64 g.name, .int .i64 (place l g.par),x, .mref M, .bool g.old, .bool g.good, .bool false])).n=s8.n:=rfl
          generalize s8.put nb (.cells .mut [.int .i64 g.name, .int .i64 (place l g.par),x, .mref M, .bool g.old, .bool g.good, .bool false])=s9 at *
          have hux:=hxB.out.2.1
          obtain ⟨svf,sf,hft,hslf,hnf,hof⟩:=frz_row (a:=g.name) (b:=place l g.par) (hx9.mono (s':=s9.new (.cells .mut [.int .i64 g.name, .int .i64 (place l g.par),x])) (by simp) fun id hid=>by
            have:=hx9.lt hid
            rw [St.get_new,if_neg (by omega)])
          have hrl9:=hW9.rl
          have hll9:=leaveK_le l i
          refine q_appF (T:=fun id=>uses x id) (n:=rs.length) (esz:=3) (xv:=.agg [.int .i64 g.name, .int .i64 (place l g.par),x]) (yv:=v9) (vs:=[.int .i64 g.name, .int .i64 (place l g.par),x]) (vs':=[.int .i64 g.name, .int .i64 (place l g.par),svf]) (cells:=wcl trow rs) ef (cells_nd _ _ hxc) rfl rfl hft rfl (by rw [hnf];simp) (fun id h1 h2=>by rw [hof id h2,St.get_new,if_neg (by omega)]) ef hW9.t (fun id hu hT=>by have:=htnb id hu;have:=hux id hT;omega) (by decide) (by omega) (fun s10 j b1 b2 b3 b4=>?_)
          have hpr:=place_rng l g.par hgP.par
          have hnm:=hgP.name
          have hcn':=hcn.out
          have hmx:maxLen=9223372036854775807:=by decide
          have hnd:IsNd (g.name,place l g.par,svf) ⟨g.name,place l g.par,g.kept⟩:=⟨rfl,rfl,⟨hslf,by have:=hgP.len;show g.kept.length≤maxLen;omega,fun y hy=>by have:=hgP.rng y hy;unfold inI64;omega⟩,by show inI64 g.name;unfold inI64;omega,by show inI64 (place l g.par);unfold inI64;omega⟩
          have hS':=hW9.done htB.out hgo b3 (r:=(g.name,place l g.par,svf)) (v9':=.sref j 0 (rs.length+1) 3) (svf:=svf) b2 hnd (fun id hu=>by have:=uses_sref.1 hu;omega) (T:=fun id=>uses x id) (fun id hT=>by
            have h1:=hux id hT
            exact ⟨by omega,fun hu=>by have:=hg6 id hu;omega,fun hu=>by have:=hbnb id hu;omega⟩) b4
          have hSB:=Bx.mk hS'
          clear hS' b2 b4 hW9 hx9 hxB hb8 hft hslf hof
          repeat' (first | refine gN @hwi ?_ | (refine gB @hwi ?_;intro bb hbb;cases bb<;>(try simp only [hbs,if_false,reduceCtorEq] at hbb)<;>(try first | (exfalso;omega) | exact hbb.elim)) | fail)
          refine ⟨R.length - (i+1),by omega,i+1,_,gv',bv,_,rfl,by omega,hSB.out,?_⟩
          simp only [lk,sv1,sv2,sv3,Nat.reduceEqDiff,Nat.reduceAdd,Nat.reduceLeDiff,reduceIte,if_false,if_true,mkVal,unLV,List.map,optTmps,hwi,e7,e10,e11,e42,e43,and_self]
    · have hi':i=R.length:=by omega
      subst hi'
      have hlw:=hS.low
      have hX:=hS.b10
      have h0:=hS.b7
      have hg:=hS.g
      have hb:=hS.b
      have ht9:=hS.t
      have hup:=hS.up
      have hap:=hS.ap
      have hrl:=hS.rl
      have hrn:=hS.rn
      rw [← hll,List.take_length] at hg hb
      rw [← hll,leaveK_all] at hrl hrn
      have hgc:=hg.cell
      have hbc:=hb.cell
      have hgl:(goods l).length≤l.length:=by
        unfold goods;rw [List.length_map];exact List.length_filter_le _ _
      have hbl:(bads l).length≤l.length:=by
        unfold bads;rw [List.length_map];exact List.length_filter_le _ _
      have hsg:=sortS hg (by omega)
      clear hS
      have hB1:=Bx.mk (And.intro hb (And.intro ht9 (And.intro hup (And.intro hap h0))))
      clear hb ht9 hup hap h0 hg
      repeat' (first | refine gN @hX ?_ | (refine gB @hX ?_;intro bb hbb;cases bb<;>(try simp only [hbs,if_false,reduceCtorEq] at hbb)<;>(try first | (exfalso;omega) | exact hbb.elim)) | fail)
      refine q_call wN (fv:=.fn (.func 68) [] []) (vs:=[gv]) ef (by simp only [List.map,lk,sv1,sv2,sv3,Nat.reduceEqDiff,Nat.reduceAdd,Nat.reduceLeDiff,reduceIte,if_false,if_true,mkVal,unLV,List.map,optTmps]) (CallOk.mono hsg fun x s5 hh=>⟨trivial,?_⟩)
      obtain ⟨hg5,hn5,ho5⟩:=hh
      simp only [Env.put_some]
      obtain ⟨hb,ht9,hup,hap,h0⟩:=hB1.out
      have hX5:s5.get s4.n=some (.cells .mut [gv,bv]):=(ho5 _ fun hu=>by have:=hup.1 _ hu;omega).trans hX
      have h05:s5.get 0=some (.cells .mut [.nils, .nils]):=(ho5 _ fun hu=>by have:=hup.1 _ hu;omega).trans h0
      have hb5:=hb.mono (s':=s5) (by omega) fun id hu=>ho5 id fun hg=>hap.1 id hg hu
      have ht5:=ht9.mono (s':=s5) (by omega) fun id hu=>ho5 id fun hg=>hap.2.1 id hg hu
      have hsb:=sortS hb5 (by omega)
      have hB2:=Bx.mk (And.intro hg5 (And.intro ht5 (And.intro hup (And.intro hap h05))))
      clear hb ht9 hup hap h0 hg5 hb5 ht5 h05 hB1 hX ho5 hsg
      repeat' (first | refine gN @hX5 ?_ | (refine gB @hX5 ?_;intro bb hbb;cases bb<;>(try simp only [hbs,if_false,reduceCtorEq] at hbb)<;>(try first | (exfalso;omega) | exact hbb.elim)) | fail)
      refine q_call wN (fv:=.fn (.func 68) [] []) (vs:=[bv]) ef (by simp only [List.map,lk,sv1,sv2,sv3,Nat.reduceEqDiff,Nat.reduceAdd,Nat.reduceLeDiff,reduceIte,if_false,if_true,mkVal,unLV,List.map,optTmps]) (CallOk.mono hsb fun x s6 hh=>⟨trivial,?_⟩)
      obtain ⟨hb6,hn6,ho6⟩:=hh
      simp only [Env.put_some]
      obtain ⟨hg5,ht5,hup,hap,h05⟩:=hB2.out
      have hX6:s6.get s4.n=some (.cells .mut [gv,bv]):=(ho6 _ fun hu=>by have:=hup.2.1 _ hu;omega).trans hX5
      have h06:s6.get 0=some (.cells .mut [.nils, .nils]):=(ho6 _ fun hu=>by have:=hup.2.1 _ hu;omega).trans h05
      have hg6:=hg5.mono (s':=s6) (by omega) fun id hu=>ho6 id fun hb=>hap.1 id hu hb
      have ht6:=ht5.mono (s':=s6) (by omega) fun id hu=>ho6 id fun hb=>hap.2.2 id hb hu
      have hB3:=Bx.mk (And.intro hg6 (And.intro ht6 (And.intro hb6 hup)))
      clear hup hap hg5 ht5 hg6 ht6 hb6 h05 hB2 hX5 ho6 hsb
      repeat' (first | refine gN (And.intro @hX6 @h06) ?_ | (refine gB (And.intro @hX6 @h06) ?_;intro bb hbb;cases bb<;>(try simp only [hbs,if_false,reduceCtorEq] at hbb)<;>(try first | (exfalso;omega) | exact hbb.elim)) | fail)
      obtain ⟨hg6,ht6,hb6,hup⟩:=hB3.out
      have hf7:∀ id,s4.n+2≤id→(s6.put 0 (.cells .mut [gv,bv])).get id=s6.get id:=fun id hid=>by rw [St.get_put,if_neg (by omega)]
      have h07:(s6.put 0 (.cells .mut [gv,bv])).get 0=some (.cells .mut [gv,bv]):=by rw [St.get_put,if_pos rfl]
      have hg7:=hg6.mono (s':=s6.put 0 (.cells .mut [gv,bv])) (by simp) fun id hu=>hf7 id (hup.1 id hu)
      have hb7:=hb6.mono (s':=s6.put 0 (.cells .mut [gv,bv])) (by simp) fun id hu=>hf7 id (hup.2.1 id hu)
      have ht7:=ht6.mono (s':=s6.put 0 (.cells .mut [gv,bv])) (by simp) fun id hu=>hf7 id (hup.2.2 id hu)
      generalize s6.put 0 (.cells .mut [gv,bv])=s7 at *
      have htcl:LV.closed.closedAll (wcl trow rs)=true:=wcl_closed fun r hr=>by
        obtain ⟨k,hk,rfl⟩:=List.getElem_of_mem hr
        have h:=(hrn k hk).set.closed
        rw [List.getD_eq_getElem?_getD,List.getElem?_eq_getElem hk] at h
        simp only [Option.getD_some] at h
        simp [trow,LV.closed.closedAll,LV.closed,h]
      obtain ⟨rg,fg,lg⟩:=FV.row (T:=fun _=>True) (d:=0) hg7 (ints_closed _) (fun _ _=>trivial)
      obtain ⟨rb,fb,lb⟩:=FV.row (T:=fun _=>True) (d:=0) hb7 (ints_closed _) (fun _ _=>trivial)
      obtain ⟨r9,f9,l9⟩:=FV.row (T:=fun _=>True) (d:=1) ht7 htcl (fun _ _=>trivial)
      have hF:=FV.tup2 f9 (FV.agg2 fg fb)
      obtain ⟨s',hz,-⟩:=frzD_fv (by omega) hF
      have hmx:maxLen=9223372036854775807:=by decide
      have hcn':=hcn.out
      have hnmG:∀ (f:Gn→Bool) (x:Int),x∈srt ((l.filter f).map (·.name))→inI64 x:=fun f x hx=>by
        have h1:=(List.mergeSort_perm _ _).mem_iff.1 hx
        obtain ⟨n,hn,rfl⟩:=List.mem_map.1 h1
        have:=(hP4.2 n (List.mem_filter.1 hn).1).name
        unfold inI64
        omega
      have hsl:∀ x:List Int,(srt x).length=x.length:=fun x=>List.length_mergeSort x
      refine ⟨.inr trivial, .tup [v9, .agg [gv,bv]],?_,_,s',hz,hF.closed,r9,rg,rb,rs,rfl,?_,?_,?_⟩
      · simp [resVal,resOne,lk,sv1,sv2,sv3,Nat.reduceEqDiff,Nat.reduceAdd,Nat.reduceLeDiff,reduceIte,if_false,if_true,mkVal,unLV,List.map,optTmps,e7,h07,mkVal]
      · have h1:=hE.out.1
        rw [h1]
        show IsTr r9 (leave (listOf _ _ _)) rs
        rw [hkB.out]
        refine ⟨by rw [← hrl];exact l9,hrl,?_,fun k hk=>hrn k (by omega)⟩
        unfold leave
        rw [List.length_map]
        have:=List.length_filter_le (fun n:Gn=>!n.gone) l
        omega
      · rw [hE.out.2.1]
        show IsInts rg (srt (goods (listOf _ _ _)))
        rw [hkB.out]
        exact ⟨by rw [hsl];exact lg,by rw [hsl];omega,hnmG _⟩
      · rw [hE.out.2.2]
        show IsInts rb (srt (bads (listOf _ _ _)))
        rw [hkB.out]
        exact ⟨by rw [hsl];exact lb,by rw [hsl];omega,hnmG _⟩
  · have hdec:decide (Vb B∧t.length≤B.next.length∧Tr B.next.length t)=false:=decide_eq_false fun h=>hok h.2
    rw [hdec] at hval
    clear hdec
    have hE:Bx (stT B t a=[]∧stG B t a=[]∧stB B t a=[]):=⟨by simp [stT,stG,stB,hok]⟩
    clear hv hok
    repeat' (first | refine gA trivial ?_ | (refine gB trivial ?_;intro bb hbb;cases bb<;>(try simp only [hbs,if_false,reduceCtorEq] at hbb)<;>(try first | (exfalso;omega) | exact hbb.elim)) | apply qc_seq | fail)
    refine q_pure hG0 (hval) (by first | exact wN | (apply wG;(simp only [lk,Nat.reduceEqDiff,reduceIte,e0,e1,e2];(try rfl);done))) (by simp only [List.map,lk,Nat.reduceEqDiff,reduceIte,e0,e1,e2];try rfl) (by first | trivial | (simp only [Chks,wantedG,LOp.run,Env.put_some,Env.put_none,lk,sv1,sv2,sv3,Nat.reduceEqDiff,Nat.reduceAdd,Nat.reduceLeDiff,reduceIte,if_false,if_true,mkVal,unLV,List.map,optTmps,beq_self_eq_true,reduceCtorEq,false_or,true_and,and_true,Option.some.injEq, *];done)) ?_
    simp only [Env.put_some]
    clear hval
    repeat' (first | refine gA trivial ?_ | (refine gB trivial ?_;intro bb hbb;cases bb<;>(try simp only [hbs,if_false,reduceCtorEq] at hbb)<;>(try first | (exfalso;omega) | exact hbb.elim)) | apply qc_seq | fail)
    refine u_build (vs:=[.nils, .nils]) wN rfl ?_
    have hg0:(St.empty.new (.cells .mut [.nils, .nils])).get 0=some (.cells .mut [.nils, .nils]):=by simp [n_empty]
    generalize St.empty.new (.cells .mut [.nils, .nils])=s1 at *
    repeat' (first | refine gA trivial ?_ | (refine gB trivial ?_;intro bb hbb;cases bb<;>(try simp only [hbs,if_false,reduceCtorEq] at hbb)<;>(try first | (exfalso;omega) | exact hbb.elim)) | apply qc_seq | fail)
    refine ⟨.inr trivial, .tup [.nils, .agg [.nils, .nils]],?_, .tup [.nils, .agg [.nils, .nils]],_,frzD_closed rfl,rfl, .nils, .nils, .nils,[],rfl,?_,?_,?_⟩
    · simp [resVal,resOne,l51,St.get_put,mkVal]
    · rw [hE.out.1];exact ⟨.nil,rfl,by simp,fun i hi=>absurd hi (by simp)⟩
    · rw [hE.out.2.1];exact ⟨.nil,by simp,fun x hx=>by cases hx⟩
    · rw [hE.out.2.2];exact ⟨.nil,by simp,fun x hx=>by cases hx⟩
end Go.Proofs.Ytkbiecjdcjfhaaa
