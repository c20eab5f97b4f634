/- buchi.automaton's number at pairs: states are numbered in the order in which they are met. -/
import Derived.Test.YtmblpcidfjemhaaDoorPplain
import Derived.Test.YtmblpcidfjemhaaDoorLitr
import Derived.Test.YtmblpcidfjemhaaDoorTnum
import Derived.Test.YtmblpcidfjemhaaDoorPvQ
set_option linter.unusedSimpArgs false
set_option linter.unusedVariables false
section
set_option linter.unusedSimpArgs false
set_option linter.unusedVariables false
namespace Go.Proofs.YtmblpcidfjemhaaDoor
open Go Go.Pv Go.Bfs
open Classical
def px (m p:Nat):Int:=((p / 2 / m:Nat):Int)
def py (m p:Nat):Int:=((p / 2 % m:Nat):Int)
def pt (p:Nat):Int:=((p % 2:Nat):Int)
theorem p_inj {m p q:Nat} (h1:px m p=px m q) (h2:py m p=py m q) (h3:pt p=pt q):p=q:=by
  unfold px py pt at *
  have a:p / 2 / m=q / 2 / m:=by omega
  have b:p / 2 % m=q / 2 % m:=by omega
  have c1:=Nat.div_add_mod (p / 2) m
  have c2:=Nat.div_add_mod (q / 2) m
  rw [a,b] at c1
  omega
abbrev pc3 (m p:Nat):List LV:=[.int .i64 (px m p), .int .i64 (py m p), .int .i64 (pt p)]
def tcells3 (m:Nat):List Nat→List LV
  | []=>[]
  | p::r=>pc3 m p++tcells3 m r
theorem tcells3_append (m:Nat):∀ a b:List Nat,tcells3 m (a++b)=tcells3 m a++tcells3 m b
  | [],b=>rfl
  | p::a,b=>by simp only [List.cons_append,tcells3,tcells3_append m a b,List.append_assoc]
theorem tcells3_length (m:Nat):∀ a:List Nat,(tcells3 m a).length=a.length*3
  | []=>rfl
  | p::a=>by simp only [tcells3,List.length_append,tcells3_length m a,List.length_cons,List.length_nil];omega
theorem tcells3_take {m:Nat} : ∀ {l:List Nat} {k p:Nat},l[k]? = some p→((tcells3 m l).drop (k*3)).take 3=pc3 m p
  | [],k,p,h=>by simp at h
  | q::l,0,p,h=>by
    have:q=p:=by simpa using h
    subst this
    simp [tcells3]
  | q::l,k+1,p,h=>by
    have h':l[k]? = some p:=by simpa using h
    have:=tcells3_take (m:=m) h'
    rw [← this]
    have e:(k+1)*3=3+k*3:=by omega
    rw [e,← List.drop_drop]
    simp [tcells3]
def tent3 (m:Nat):List Nat→Nat→List (LV × LV)
  | [],_=>[]
  | p::r,i=>(.agg (pc3 m p), .int .i64 (i:Int))::tent3 m r (i+1)
theorem tent3_append (m:Nat):∀ (a b:List Nat) (i:Nat),tent3 m (a++b) i=tent3 m a i++tent3 m b (i+a.length)
  | [],b,i=>rfl
  | p::r,b,i=>by simp only [List.cons_append,tent3,tent3_append m r b,List.length_cons];congr 3;omega
abbrev TK3:KTy:=.st [(0,(1, .int)),(1,(1, .int)),(2,(1, .int))]
theorem tkey3 (m p q:Nat):keyEqT TK3 (.agg (pc3 m p)) (.agg (pc3 m q))=some (decide (p=q)):=by
  by_cases h:p=q
  · subst h
    simp [keyEqT,eqLV.eqFields,scEq,sameInts]
  · rw [decide_eq_false h]
    by_cases h1:px m p=px m q
    · by_cases h2:py m p=py m q
      · by_cases h3:pt p=pt q
        · exact absurd (p_inj h1 h2 h3) h
        · have e:(pt p == pt q)=false:=by simpa using h3
          simp [keyEqT,eqLV.eqFields,scEq,h1,h2,e]
      · have e:(py m p == py m q)=false:=by simpa using h2
        simp [keyEqT,eqLV.eqFields,scEq,h1,e]
    · have e:(px m p == px m q)=false:=by simpa using h1
      simp [keyEqT,eqLV.eqFields,scEq,e]
theorem tfind3 (m p:Nat):∀ (l:List Nat) (i:Nat),mfind TK3 (.agg (pc3 m p)) (tent3 m l i) i=some ((idx p l i).map fun j=>(j, .int .i64 (j:Int)))
  | [],_=>rfl
  | q::r,i=>by
    simp only [tent3,mfind,tkey3,idx]
    by_cases h:p=q
    · simp [h]
    · simp [h,tfind3 m p r (i+1)]
structure NP (m:Nat) (n0:Nat) (Kp:Nat→Prop) (s0 s:St) (ja jb M:Nat) (pv:LV) (ps:List Nat):Prop where
  le:n0≤s.n
  a0:n0≤ja
  a1:ja<s.n
  b0:n0≤jb
  b1:jb<s.n
  m0:n0≤M
  m1:M<s.n
  ab:ja≠jb
  ma:M≠ja
  mb:M≠jb
  ga:s.get ja=some (.cells .mut [.mref M])
  gb:s.get jb=some (.cells .mut [pv])
  gM:s.get M=some (.map (tent3 m ps 0))
  sp:SkC s pv 3 (tcells3 m ps) ps.length
  dp:∀ id,uses pv id→n0≤id∧id≠ja∧id≠jb∧id≠M
  kp:∀ id,Kp id→id<s.n∧id≠ja∧id≠jb∧id≠M∧¬ uses pv id
  old:∀ id,Kp id→s.get id=s0.get id
theorem NP.keep {m:Nat} {n0:Nat} {Kp:Nat→Prop} {s0 s s':St} {ja jb M:Nat} {pv:LV} {ps:List Nat} (h:NP m n0 Kp s0 s ja jb M pv ps) (hn:s.n≤s'.n) (hs:∀ id,id<s.n→s'.get id=s.get id):NP m n0 Kp s0 s' ja jb M pv ps:=by
  have h1:=h.a1
  have h2:=h.b1
  have h3:=h.m1
  have h4:=h.le
  exact ⟨by omega,h.a0,by omega,h.b0,by omega,h.m0,by omega,h.ab,h.ma,h.mb,by rw [hs _ h1];exact h.ga,by rw [hs _ h2];exact h.gb,by rw [hs _ h3];exact h.gM,h.sp.mono hn fun id hu=>hs id (h.sp.lt hu),h.dp,
    fun id hk=>by have:=h.kp id hk;exact ⟨by omega,this.2⟩,fun id hk=>by rw [hs id (h.kp id hk).1];exact h.old id hk⟩
theorem NP.rebase {m:Nat} {n0:Nat} {Kp Kp':Nat→Prop} {s0 s0' s:St} {ja jb M:Nat} {pv:LV} {ps:List Nat} (h:NP m n0 Kp s0 s ja jb M pv ps) (hk:∀ id,Kp' id→id<s.n∧id≠ja∧id≠jb∧id≠M∧¬ uses pv id) (ho:∀ id,Kp' id→s.get id=s0'.get id):NP m n0 Kp' s0' s ja jb M pv ps:=
  ⟨h.le,h.a0,h.a1,h.b0,h.b1,h.m0,h.m1,h.ab,h.ma,h.mb,h.ga,h.gb,h.gM,h.sp,h.dp,hk,ho⟩
set_option maxHeartbeats 8000000 in
theorem pnum_ok {m:Nat} {n0:Nat} {Kp:Nat→Prop} {s0 s:St} {ja jb M:Nat} {pv:LV} {ps:List Nat} (hF:NP m n0 Kp s0 s ja jb M pv ps) (hl:ps.length≤1000000) (p:Nat):CallOk Tryd.prog GL (.fn (.func 61) [] [.pref ja 0, .pref jb 0]) [.agg [.int .i64 (px m p), .int .i64 (py m p), .int .i64 (pt p)]] s
    (fun r s'=>∃ pv',r = .int .i64 (numN (addN ps p) p:Int)∧NP m n0 Kp s0 s' ja jb M pv' (addN ps p)∧s.n≤s'.n∧∀ id,uses pv' id→uses pv id∨s.n≤id):=by
  refine call_fn (first:=[]) (caps:=[.pref ja 0, .pref jb 0]) Tryd.func61 (by decide +kernel) c61 (Nat.le_of_ble_eq_true rfl) (CodeOk.mono (Q:=fun o e s'=>(o = .normal∨o = .jmp .ret)∧∃ pv',e.at 4 = .int .i64 (numN (addN ps p) p:Int)∧NP m n0 Kp s0 s' ja jb M pv' (addN ps p)∧s.n≤s'.n∧∀ id,uses pv' id→uses pv id∨s.n≤id) ?_ fun o e s' hh=>by
    obtain ⟨h1,pv',h2,h3⟩:=hh
    exact ⟨h1,_,by simp [l61,resVal,resOne,h2],pv',rfl,h3⟩)
  have e0:(envOf ([]++[.agg [.int .i64 (px m p), .int .i64 (py m p), .int .i64 (pt p)]]++[.pref ja 0, .pref jb 0])).at 0 = .agg [.int .i64 (px m p), .int .i64 (py m p), .int .i64 (pt p)]:=by rw [envOf_at];rfl
  have e1:(envOf ([]++[.agg [.int .i64 (px m p), .int .i64 (py m p), .int .i64 (pt p)]]++[.pref ja 0, .pref jb 0])).at 1 = .pref ja 0:=by rw [envOf_at];rfl
  have e2:(envOf ([]++[.agg [.int .i64 (px m p), .int .i64 (py m p), .int .i64 (pt p)]]++[.pref ja 0, .pref jb 0])).at 2 = .pref jb 0:=by rw [envOf_at];rfl
  generalize envOf ([]++[.agg [.int .i64 (px m p), .int .i64 (py m p), .int .i64 (pt p)]]++[.pref ja 0, .pref jb 0])=e at *
  refine Cd.out ?_
  unfold l61
  dsimp only [jA,jG,qN,qS,qC,qO,qm,ql]
  have ga:=hF.ga
  have gb:=hF.gb
  have hf:=tfind3 m p ps 0
  have hky:keyOk TK3 (.agg [.int .i64 (px m p), .int .i64 (py m p), .int .i64 (pt p)])=true:=rfl
  have hpn:=hF.sp.len
  have hcc1:=hF.sp.cell
  cases hi:idx p ps 0 with
  | some i=>
    rw [hi] at hf
    have hmem:p∈ps:=List.mem_of_getElem? (idx_some hi).2
    have hadd:addN ps p=ps:=by rw [addN,if_pos hmem]
    have hnum:numN ps p=i:=by rw [numN,hi];rfl
    rw [hadd,hnum]
    repeat' (first | refine gA trivial ?_ | (refine gB trivial ?_;intro bb hbb;cases bb<;>(try simp only [hbs,if_false,reduceCtorEq] at hbb)) | apply qc_seq | fail)
    refine q_mlookS wN (M:=M) (i:=i) (v:=.int .i64 (i:Int)) (kv:=.agg [.int .i64 (px m p), .int .i64 (py m p), .int .i64 (pt p)]) ef ef rfl hF.gM hf ?_
    repeat' (first | refine gA trivial ?_ | (refine gB trivial ?_;intro bb hbb;cases bb<;>(try simp only [hbs,if_false,reduceCtorEq] at hbb)) | apply qc_seq | fail)
    refine ⟨.inr trivial,pv,ef,hF,Nat.le_refl _,fun id h=>.inl h⟩
  | none=>
    have hmem:p ∉ ps:=idx_none.1 hi
    rw [hi] at hf
    simp only [Option.map_none] at hf
    have hadd:addN ps p=ps++[p]:=by rw [addN,if_neg hmem]
    have hnum:numN (ps++[p]) p=ps.length:=by
      have:∀ (l:List Nat) (i:Nat),p ∉ l→idx p (l++[p]) i=some (i+l.length):=by
        intro l
        induction l with
        | nil=>intro i _;simp [idx]
        | cons q r ih=>
          intro i hn
          have h1:¬ p=q:=fun h=>hn (by rw [h];simp)
          simp only [List.cons_append,idx,h1,if_false]
          rw [ih (i+1) fun h=>hn (List.mem_cons_of_mem _ h)]
          simp only [List.length_cons]
          congr 1
          omega
      rw [numN,this ps 0 hmem]
      simp
    rw [hadd,hnum]
    repeat' (first | refine gA @hpn ?_ | (refine gB @hpn ?_;intro bb hbb;cases bb<;>(try simp only [hbs,if_false,reduceCtorEq] at hbb)) | apply qc_seq | fail)
    refine q_mlookN wN (M:=M) (kv:=.agg [.int .i64 (px m p), .int .i64 (py m p), .int .i64 (pt p)]) ef ef rfl hF.gM hf ?_
    repeat' (first | refine gA @hpn ?_ | (refine gB @hpn ?_;intro bb hbb;cases bb<;>(try simp only [hbs,if_false,reduceCtorEq] at hbb)) | apply qc_seq | fail)
    refine q_mupdN (M:=M) (kv:=.agg [.int .i64 (px m p), .int .i64 (py m p), .int .i64 (pt p)]) (vv:=.int .i64 (ps.length:Int)) ef ef ef rfl hF.gM hf ?_
    have hab:=hF.ab
    have hma:=hF.ma
    have hmb:=hF.mb
    have hga1:(s.put M (.map (tent3 m ps 0++[(.agg [.int .i64 (px m p), .int .i64 (py m p), .int .i64 (pt p)], .int .i64 (ps.length:Int))]))).get ja=some (.cells .mut [.mref M]):=by rw [St.get_put,if_neg (Ne.symm hma)];exact ga
    have hgb1:(s.put M (.map (tent3 m ps 0++[(.agg [.int .i64 (px m p), .int .i64 (py m p), .int .i64 (pt p)], .int .i64 (ps.length:Int))]))).get jb=some (.cells .mut [pv]):=by rw [St.get_put,if_neg (Ne.symm hmb)];exact gb
    have hM1:(s.put M (.map (tent3 m ps 0++[(.agg [.int .i64 (px m p), .int .i64 (py m p), .int .i64 (pt p)], .int .i64 (ps.length:Int))]))).get M=some (.map (tent3 m (ps++[p]) 0)):=by
      rw [St.get_put,if_pos rfl,tent3_append];simp [tent3]
    have hn1:(s.put M (.map (tent3 m ps 0++[(.agg [.int .i64 (px m p), .int .i64 (py m p), .int .i64 (pt p)], .int .i64 (ps.length:Int))]))).n=s.n:=rfl
    have ho1:∀ id,id≠M→(s.put M (.map (tent3 m ps 0++[(.agg [.int .i64 (px m p), .int .i64 (py m p), .int .i64 (pt p)], .int .i64 (ps.length:Int))]))).get id=s.get id:=fun id h=>by rw [St.get_put,if_neg h]
    generalize s.put M (.map (tent3 m ps 0++[(.agg [.int .i64 (px m p), .int .i64 (py m p), .int .i64 (pt p)], .int .i64 (ps.length:Int))]))=s1 at hga1 hgb1 hM1 hn1 ho1
    have hsp:SkC s1 pv 3 (tcells3 m ps) ps.length:=hF.sp.mono (by omega) fun id hu=>ho1 id (hF.dp id hu).2.2.2
    clear ga gb
    repeat' (first | refine gA trivial ?_ | (refine gB trivial ?_;intro bb hbb;cases bb<;>(try simp only [hbs,if_false,reduceCtorEq] at hbb)) | apply qc_seq | fail)
    refine q_appC (n:=ps.length) (esz:=3) (xv:=.agg [.int .i64 (px m p), .int .i64 (py m p), .int .i64 (pt p)]) (yv:=pv) (vs:=[.int .i64 (px m p), .int .i64 (py m p), .int .i64 (pt p)]) ef rfl rfl rfl rfl ef hsp (by decide) (by omega) (fun s2 j2 a1 a2 a3 a4=>?_)
    have hb1:=hF.b1
    have ha1:=hF.a1
    have hm1:=hF.m1
    have hg2:s2.get jb=some (.cells .mut [pv]):=by rw [a4 jb (by omega) fun hu=>(hF.dp _ hu).2.2.1 rfl];exact hgb1
    repeat' (first | refine gA trivial ?_ | (refine gB trivial ?_;intro bb hbb;cases bb<;>(try simp only [hbs,if_false,reduceCtorEq] at hbb)) | apply qc_seq | fail)
    have hj2:j2<s2.n:=a2.lt (uses_sref.2 rfl)
    have hM2:s2.get M=some (.map (tent3 m (ps++[p]) 0)):=by rw [a4 M (by omega) fun hu=>(hF.dp _ hu).2.2.2 rfl];exact hM1
    have hga2:s2.get ja=some (.cells .mut [.mref M]):=by rw [a4 ja (by omega) fun hu=>(hF.dp _ hu).2.1 rfl];exact hga1
    have hle:=hF.le
    have ha0:=hF.a0
    have hb0:=hF.b0
    have hm0:=hF.m0
    refine ⟨.inr trivial, .sref j2 0 (ps.length+1) 3,ef,?_,by rw [St.n_put];omega,fun id hu=>.inr (by have:=uses_sref.1 hu;omega)⟩
    refine ⟨by rw [St.n_put];omega,ha0,by rw [St.n_put];omega,hb0,by rw [St.n_put];omega,hm0,by rw [St.n_put];omega,hab,hma,hmb,by rw [St.get_put,if_neg hab];exact hga2,by rw [St.get_put,if_pos rfl],by rw [St.get_put,if_neg hmb];exact hM2,?_,fun id hu=>?_,fun id hid=>?_,fun id hid=>?_⟩
    · have h5:SkC (s2.put jb (.cells .mut [.sref j2 0 (ps.length+1) 3])) (.sref j2 0 (ps.length+1) 3) 3 (tcells3 m ps++pc3 m p) (ps.length+1):=a2.mono (by rw [St.n_put];omega) fun id hu=>by
        obtain rfl:=uses_sref.1 hu
        rw [St.get_put,if_neg (by omega)]
      have h6:tcells3 m (ps++[p])=tcells3 m ps++pc3 m p:=by rw [tcells3_append];simp [tcells3]
      rw [h6]
      simpa using h5
    · obtain rfl:=uses_sref.1 hu
      exact ⟨by omega,by omega,by omega,by omega⟩
    · obtain ⟨k1,k2,k3,k4,k5⟩:=hF.kp id hid
      exact ⟨by rw [St.n_put];omega,k2,k3,k4,fun hu=>by have:=uses_sref.1 hu;omega⟩
    · obtain ⟨k1,k2,k3,k4,k5⟩:=hF.kp id hid
      rw [St.get_put,if_neg k3,a4 id (by omega) k5,ho1 id k4]
      exact hF.old id hid
theorem pnum_call {m:Nat} {n0:Nat} {s:St} {ja jb M:Nat} {pv:LV} {ps:List Nat} (hF:NP m n0 (fun _=>False) s s ja jb M pv ps) (hl:ps.length≤1000000) (p:Nat):CallOk Tryd.prog GL (.fn (.func 61) [] [.pref ja 0, .pref jb 0]) [.agg [.int .i64 (px m p), .int .i64 (py m p), .int .i64 (pt p)]] s
    (fun r s'=>∃ pv',r = .int .i64 (numN (addN ps p) p:Int)∧NP m n0 (fun _=>False) s' s' ja jb M pv' (addN ps p)∧s.n≤s'.n∧(∀ id,uses pv' id→uses pv id∨s.n≤id)∧∀ id,id<s.n→id≠ja→id≠jb→id≠M→¬ uses pv id→s'.get id=s.get id):=by
  refine CallOk.mono (pnum_ok (hF.rebase (Kp':=fun id=>id<s.n∧id≠ja∧id≠jb∧id≠M∧¬ uses pv id) (s0':=s) (fun id h=>h) fun id _=>rfl) hl p) fun r s' hh=>?_
  obtain ⟨pv',h1,h2,h3,h4⟩:=hh
  exact ⟨pv',h1,h2.rebase (fun id h=>h.elim) (fun id h=>h.elim),h3,h4,fun id a b c d e=>h2.old id ⟨a,b,c,d,e⟩⟩
end Go.Proofs.YtmblpcidfjemhaaDoor
end
section
set_option linter.unusedSimpArgs false
set_option linter.unusedVariables false
namespace Go.Proofs.YtmblpcidfjemhaaDoor
open Go Go.Pv Go.Bfs
open Classical
def tn (t:Nat) (g h:Bool):Nat:=if (if t=0∧g=true then 1 else t)=1∧h=true then 2 else (if t=0∧g=true then 1 else t)
theorem tn_le {t:Nat} (h:t<2) (g k:Bool):tn t g k≤2:=by
  unfold tn
  by_cases h1:t=0∧g=true
  · rw [if_pos h1]
    split<;>omega
  · rw [if_neg h1]
    split<;>omega
def pcode (m x y t:Nat):Nat:=(x*m+y)*2+t
theorem pcode_parts {m x y t:Nat} (hy:y<m) (ht:t<2):px m (pcode m x y t)=(x:Int)∧py m (pcode m x y t)=(y:Int)∧pt (pcode m x y t)=(t:Int):=by
  have h1:pcode m x y t / 2=x*m+y:=by unfold pcode;omega
  have h2:pcode m x y t % 2=t:=by unfold pcode;omega
  have h3:(x*m+y) / m=x:=by rw [Nat.mul_comm,Nat.mul_add_div (by omega),Nat.div_eq_of_lt hy,Nat.add_zero]
  have h4:(x*m+y) % m=y:=by rw [Nat.mul_comm,Nat.mul_add_mod,Nat.mod_eq_of_lt hy]
  unfold px py pt
  rw [h1,h2,h3,h4]
  exact ⟨rfl,rfl,rfl⟩
theorem pcode_lt {m n x y t:Nat} (hx:x<n) (hy:y<m) (ht:t<2):pcode m x y t<n*m*2:=by
  have:(x+1)*m≤n*m:=Nat.mul_le_mul_right _ hx
  rw [Nat.add_mul,Nat.one_mul] at this
  unfold pcode
  omega
def pstep (m t:Nat) (mx my:Int × Bool):Nat × Bool:=(pcode m mx.1.toNat my.1.toNat (tn t mx.2 my.2 % 2),decide (tn t mx.2 my.2=2))
def mvX (A B:Bu) (x y t a:Nat):List (Nat × Bool):=(rowM A x a).flatMap fun mx=>(rowM B y a).map (pstep B.next.length t mx)
theorem fm_len {α β:Type} {f:α→List β} {n:Nat} : ∀ {l:List α},(∀ x∈l,(f x).length=n)→(l.flatMap f).length=l.length*n
  | [],_=>by simp
  | x::l,h=>by
    rw [List.flatMap_cons,List.length_append,h x (by simp),fm_len fun y hy=>h y (List.mem_cons_of_mem _ hy),List.length_cons,Nat.add_mul,Nat.one_mul,Nat.add_comm]
theorem fm_get {α β:Type} {f:α→List β} {n j:Nat} (hj:j<n):∀ {l:List α} {i:Nat} {x:α},(∀ x∈l,(f x).length=n)→l[i]? = some x→(l.flatMap f)[i*n+j]? = (f x)[j]?
  | [],i,x,_,h=>by simp at h
  | y::l,0,x,hl,h=>by
    have:y=x:=by simpa using h
    subst this
    rw [List.flatMap_cons,Nat.zero_mul,Nat.zero_add,List.getElem?_append_left (by rw [hl y (by simp)];exact hj)]
  | y::l,i+1,x,hl,h=>by
    have h':l[i]? = some x:=by simpa using h
    have hy:=hl y (by simp)
    rw [List.flatMap_cons,List.getElem?_append_right (by rw [hy,Nat.add_mul];omega),hy,Nat.add_mul,Nat.one_mul,show i*n+n+j - n=i*n+j by omega]
    exact fm_get hj (fun z hz=>hl z (List.mem_cons_of_mem _ hz)) h'
end Go.Proofs.YtmblpcidfjemhaaDoor
end
section
set_option linter.unusedSimpArgs false
set_option linter.unusedVariables false
namespace Go.Proofs.YtmblpcidfjemhaaDoor
open Go Go.Pv Go.Bfs
open Classical
theorem pmoves_ok {vA vB:LV} {A B:Bu} {sa na sb nb:LV} (hA:IsB vA A sa na) (hB:IsB vB B sb nb) (x y t:Int) (a:Nat) (s:St):CallOk Tryd.prog GL (.fn (.func 43) [] [.pimm [.int .i64 A.L,sa,na] 0, .pimm [.int .i64 B.L,sb,nb] 0]) [.agg [.int .i64 x, .int .i64 y, .int .i64 t], .int .i64 (a:Int)] s
    (fun r s'=>s'=s∧r = .fn (.func 44) [] [.pimm [.int .i64 A.L,sa,na] 0, .pimm [.int .i64 x, .int .i64 y, .int .i64 t] 0, .pimm [.int .i64 (a:Int)] 0, .pimm [.int .i64 B.L,sb,nb] 0]):=by
  refine call_fn (first:=[]) (caps:=[.pimm [.int .i64 A.L,sa,na] 0, .pimm [.int .i64 B.L,sb,nb] 0]) Tryd.func43 (by decide +kernel) c43 (Nat.le_of_ble_eq_true rfl) (CodeOk.mono (Q:=fun o e s'=>(o = .normal∨o = .jmp .ret)∧s'=s∧e.at 6 = .fn (.func 44) [] [.pimm [.int .i64 A.L,sa,na] 0, .pimm [.int .i64 x, .int .i64 y, .int .i64 t] 0, .pimm [.int .i64 (a:Int)] 0, .pimm [.int .i64 B.L,sb,nb] 0]) ?_ fun o e s' hh=>by
    obtain ⟨h1,h2,h3⟩:=hh
    exact ⟨h1,_,by simp [l43,resVal,resOne,h3],h2,rfl⟩)
  have e0:(envOf ([]++[.agg [.int .i64 x, .int .i64 y, .int .i64 t], .int .i64 (a:Int)]++[.pimm [.int .i64 A.L,sa,na] 0, .pimm [.int .i64 B.L,sb,nb] 0])).at 0 = .agg [.int .i64 x, .int .i64 y, .int .i64 t]:=by rw [envOf_at];rfl
  have e1:(envOf ([]++[.agg [.int .i64 x, .int .i64 y, .int .i64 t], .int .i64 (a:Int)]++[.pimm [.int .i64 A.L,sa,na] 0, .pimm [.int .i64 B.L,sb,nb] 0])).at 1 = .int .i64 (a:Int):=by rw [envOf_at];rfl
  have e2:(envOf ([]++[.agg [.int .i64 x, .int .i64 y, .int .i64 t], .int .i64 (a:Int)]++[.pimm [.int .i64 A.L,sa,na] 0, .pimm [.int .i64 B.L,sb,nb] 0])).at 2 = .pimm [.int .i64 A.L,sa,na] 0:=by rw [envOf_at];rfl
  have e3:(envOf ([]++[.agg [.int .i64 x, .int .i64 y, .int .i64 t], .int .i64 (a:Int)]++[.pimm [.int .i64 A.L,sa,na] 0, .pimm [.int .i64 B.L,sb,nb] 0])).at 3 = .pimm [.int .i64 B.L,sb,nb] 0:=by rw [envOf_at];rfl
  generalize envOf ([]++[.agg [.int .i64 x, .int .i64 y, .int .i64 t], .int .i64 (a:Int)]++[.pimm [.int .i64 A.L,sa,na] 0, .pimm [.int .i64 B.L,sb,nb] 0])=e at *
  refine Cd.out ?_
  unfold l43
  dsimp only [jA,qO,qm]
  repeat' (first | refine gA trivial ?_ | (refine gB trivial ?_;intro bb hbb;cases bb<;>(try simp only [hbs,if_false,reduceCtorEq] at hbb)) | apply qc_seq | fail)
  exact ⟨.inr trivial,trivial,by simp only [lk,sv1,sv2,sv3,Nat.reduceEqDiff,Nat.reduceAdd,Nat.reduceLeDiff,reduceIte,if_false,if_true,mkVal,unLV,List.map,optTmps,List.map,e2,e3]⟩
end Go.Proofs.YtmblpcidfjemhaaDoor
end
