/- What buchi.automaton makes accepts what the graph does; the graph of both accepts what both do: plain. -/
import Derived.Test.YtohldpfjnllkdaaDoorPboth
import Derived.Test.YtohldpfjnllkdaaDoorTlaw
import Derived.Test.YtohldpfjnllkdaaDoorSlaw
set_option linter.unusedSimpArgs false
set_option linter.unusedVariables false
namespace Go.Proofs.YtohldpfjnllkdaaDoor
open Go Go.Pv Go.Aut Go.Tarjan
open Classical
theorem R_num {l:List Nat} {p:Nat} (h:p∈l):l.getD (numN l p) 0=p:=by rw [List.getD_eq_getElem?_getD,numN_get h];rfl
theorem auto_row {g:Grf} {C:Bu} (hT:AutoR g C) {p a:Nat} (hp:p∈g.R) (ha:(a:Int)<g.L):(∀ x,x∈rowM C (numN g.R p) a↔x∈g.ren (g.mv p a)):=by
  have h1:=((hT.row _ (numN_lt hp)).2 a ha).1
  rw [R_num hp] at h1
  exact h1
theorem auto_mv {g:Grf} {C:Bu} {most:Int} (hok:GrfOk g most) (hmL:∀ p a m,m∈g.mv p a→(a:Int)<g.L) (hT:AutoR g C) {p a j:Nat} {b:Bool} (hp:p∈g.R):(j,b)∈bmv C (numN g.R p) a↔∃ q,q∈g.R∧j=numN g.R q∧(q,b)∈g.mv p a:=by
  obtain ⟨hnd,hlt,hcl⟩:=gr_ok hok
  by_cases ha:(a:Int)<g.L
  · have hr:=auto_row hT hp ha
    simp only [bmv,List.mem_map]
    constructor
    · rintro ⟨m,hm,hme⟩
      obtain ⟨x,hx,rfl⟩:=List.mem_map.1 ((hr m).1 hm)
      have e:numN g.R x.1=j∧x.2=b:=by simpa using hme
      refine ⟨x.1,hcl p hp _ (List.mem_flatMap.2 ⟨a,List.mem_range.2 (by have:=hok.L1;omega),List.mem_map.2 ⟨x,hx,rfl⟩⟩),e.1.symm,?_⟩
      rw [← e.2];exact hx
    · rintro ⟨q,hq,rfl,hm⟩
      exact ⟨((numN g.R q:Int),b),(hr _).2 (List.mem_map.2 ⟨(q,b),hm,rfl⟩),by simp⟩
  · constructor
    · intro h
      exfalso
      simp only [bmv,List.mem_map] at h
      obtain ⟨m,hm,_⟩:=h
      have h1:=(hT.row _ (numN_lt hp)).1
      have e1:(C.next.getD (numN g.R p) []).getD a []=[]:=by rw [List.getD_eq_getElem?_getD,List.getElem?_eq_none (by omega)];rfl
      have hm':m∈(C.next.getD (numN g.R p) []).getD a []:=hm
      rw [e1] at hm'
      cases hm'
    · rintro ⟨q,_,_,hm⟩
      exact absurd (hmL p a _ hm) ha
theorem auto_start {g:Grf} {C:Bu} (hT:AutoR g C) {q:Nat} : (q:Int)∈C.start↔∃ p∈g.st,q=numN g.R p:=by
  rw [hT.st]
  constructor
  · intro h
    obtain ⟨p,hp,he⟩:=List.mem_map.1 h
    exact ⟨p,hp,by omega⟩
  · rintro ⟨p,hp,rfl⟩
    exact List.mem_map.2 ⟨p,hp,rfl⟩
theorem auto_acc {g:Grf} {C:Bu} {most:Int} (hok:GrfOk g most) (hmL:∀ p a m,m∈g.mv p a→(a:Int)<g.L) (hT:AutoR g C) {w:Nat→Nat} : BAcc C w↔Acc (fun p=>p∈g.st) g.mv w:=by
  obtain ⟨hnd,hlt,hcl⟩:=gr_ok hok
  constructor
  · rintro ⟨q,b,h0,h1,h2⟩
    obtain ⟨p0,hp0,hq0⟩:=(auto_start hT).1 h0
    have hall:∀ i,g.R.getD (q i) 0∈g.R∧q i=numN g.R (g.R.getD (q i) 0):=by
      intro i
      induction i with
      | zero=>rw [hq0,R_num (st_in p0 hp0)];exact ⟨st_in p0 hp0,rfl⟩
      | succ i ih=>
        have h3:=h1 i
        rw [ih.2] at h3
        obtain ⟨r,hr,he,_⟩:=(auto_mv hok hmL hT ih.1).1 h3
        rw [he,R_num hr];exact ⟨hr,rfl⟩
    refine ⟨fun i=>g.R.getD (q i) 0,b,?_,fun i=>?_,h2⟩
    · show g.R.getD (q 0) 0∈g.st
      rw [hq0,R_num (st_in p0 hp0)];exact hp0
    · have h3:=h1 i
      rw [(hall i).2] at h3
      obtain ⟨r,hr,he,hm⟩:=(auto_mv hok hmL hT (hall i).1).1 h3
      show (g.R.getD (q (i+1)) 0,b i)∈g.mv (g.R.getD (q i) 0) (w i)
      rw [he,R_num hr];exact hm
  · rintro ⟨p,b,h0,h1,h2⟩
    have hall:∀ i,p i∈g.R:=by
      intro i
      induction i with
      | zero=>exact st_in _ h0
      | succ i ih=>
        have h3:=h1 i
        have ha:=hmL _ _ _ h3
        exact hcl _ ih _ (List.mem_flatMap.2 ⟨w i,List.mem_range.2 (by have:=hok.L1;omega),List.mem_map.2 ⟨_,h3,rfl⟩⟩)
    refine ⟨fun i=>numN g.R (p i),b,(auto_start hT).2 ⟨_,h0,rfl⟩,fun i=>?_,h2⟩
    exact (auto_mv hok hmL hT (hall i)).2 ⟨_,hall (i+1),rfl,h1 i⟩
theorem grB_mL {A B:Bu} (okA:Vb A):∀ p a m,m∈(grB A B).mv p a→(a:Int)<(grB A B).L:=by
  intro p a m hm
  obtain ⟨mx,hx,hm⟩:=List.mem_flatMap.1 hm
  show (a:Int)<A.L
  by_cases hp:p / 2 / B.next.length<A.next.length
  · exact (mv_rng okA hp hx).2.2
  · have:rowM A (p / 2 / B.next.length) a=[]:=by
      unfold rowM
      rw [List.getD_eq_getElem?_getD (l:=A.next),List.getElem?_eq_none (by omega)]
      simp
    rw [this] at hx
    cases hx
theorem pc_nat {m x y t:Nat} (hy:y<m) (ht:t<2):pcode m x y t / 2 / m=x∧pcode m x y t / 2 % m=y∧pcode m x y t % 2=t:=by
  obtain ⟨h1,h2,h3⟩:=pcode_parts (x:=x) hy ht
  unfold px at h1
  unfold py at h2
  unfold pt at h3
  omega
theorem tn_two {t:Nat} (ht:t<2) {b c:Bool} (h:tn t b c=2):c=true∧(t=1∨b=true):=by
  have h':t=0∨t=1:=by omega
  rcases h' with rfl | rfl<;>cases b<;>cases c<;>simp [tn] at h ⊢
theorem tn_zero {c:Bool} : tn 0 false c=0:=by cases c<;>rfl
theorem tn_one {t:Nat} (ht:t<2) {b c:Bool} (h1:t=1∨b=true) (h2:tn t b c≠2):tn t b c=1∧c=false:=by
  have h':t=0∨t=1:=by omega
  rcases h' with rfl | rfl<;>cases b<;>cases c<;>simp [tn] at h1 h2 ⊢
theorem both_acc {A B:Bu} (okA:Vb A) (okB:Vb B) {w:Nat→Nat} : Acc (fun p=>p∈(grB A B).st) (grB A B).mv w↔BAcc A w∧BAcc B w:=by
  constructor
  · rintro ⟨p,b,h0,h1,h2⟩
    obtain ⟨x0,hx0,h0⟩:=List.mem_flatMap.1 h0
    obtain ⟨y0,hy0,h0⟩:=List.mem_map.1 h0
    obtain ⟨ix,hix⟩:=List.mem_iff_getElem?.1 hx0
    obtain ⟨iy,hiy⟩:=List.mem_iff_getElem?.1 hy0
    have rx:=st_rng okA hix
    have ry:=st_rng okB hiy
    have hstep:∀ i,∃ mx my,mx∈rowM A (p i / 2 / B.next.length) (w i)∧my∈rowM B (p i / 2 % B.next.length) (w i)∧p (i+1)=pcode B.next.length mx.1.toNat my.1.toNat (tn (p i % 2) mx.2 my.2 % 2)∧b i=decide (tn (p i % 2) mx.2 my.2=2):=fun i=>by
      obtain ⟨mx,hx,hm⟩:=List.mem_flatMap.1 (h1 i)
      obtain ⟨my,hy,he⟩:=List.mem_map.1 hm
      have e1:=congrArg Prod.fst he
      have e2:=congrArg Prod.snd he
      exact ⟨mx,my,hx,hy,e1.symm,e2.symm⟩
    obtain ⟨fx,hfx⟩:∃ fx:Nat→Int × Bool,∀ i,∃ my,fx i∈rowM A (p i / 2 / B.next.length) (w i)∧my∈rowM B (p i / 2 % B.next.length) (w i)∧p (i+1)=pcode B.next.length (fx i).1.toNat my.1.toNat (tn (p i % 2) (fx i).2 my.2 % 2)∧b i=decide (tn (p i % 2) (fx i).2 my.2=2):=⟨fun i=>Classical.choose (hstep i),fun i=>Classical.choose_spec (hstep i)⟩
    obtain ⟨fy,hf⟩:∃ fy:Nat→Int × Bool,∀ i,fx i∈rowM A (p i / 2 / B.next.length) (w i)∧fy i∈rowM B (p i / 2 % B.next.length) (w i)∧p (i+1)=pcode B.next.length (fx i).1.toNat (fy i).1.toNat (tn (p i % 2) (fx i).2 (fy i).2 % 2)∧b i=decide (tn (p i % 2) (fx i).2 (fy i).2=2):=⟨fun i=>Classical.choose (hfx i),fun i=>Classical.choose_spec (hfx i)⟩
    have hrng : ∀ i, p i / 2 / B.next.length < A.next.length ∧ p i / 2 % B.next.length < B.next.length := by
      intro i
      cases i with
      | zero=>
        obtain ⟨e1,e2,_⟩:=pc_nat (m:=B.next.length) (x:=x0.toNat) (y:=y0.toNat) (t:=0) (by omega) (by decide)
        rw [← h0,e1,e2];omega
      | succ i=>
        obtain ⟨hx,hy,he,_⟩:=hf i
        have hp:p i / 2 % B.next.length<B.next.length:=by
          rcases Nat.eq_zero_or_pos B.next.length with hz | hz
          · omega
          · exact Nat.mod_lt _ hz
        have hyr:=mv_rng okB hp hy
        have hpx:p i / 2 / B.next.length<A.next.length:=by
          rcases Nat.lt_or_ge (p i / 2 / B.next.length) A.next.length with h | h
          · exact h
          · have:rowM A (p i / 2 / B.next.length) (w i)=[]:=by
              unfold rowM
              rw [List.getD_eq_getElem?_getD (l:=A.next),List.getElem?_eq_none (by omega)]
              simp
            rw [this] at hx
            cases hx
        have hxr:=mv_rng okA hpx hx
        obtain ⟨e1,e2,_⟩:=pc_nat (m:=B.next.length) (x:=(fx i).1.toNat) (y:=(fy i).1.toNat) (t:=tn (p i % 2) (fx i).2 (fy i).2 % 2) (by omega) (Nat.mod_lt _ (by decide))
        rw [he,e1,e2];omega
    have hnx:∀ i,p (i+1) / 2 / B.next.length=(fx i).1.toNat∧p (i+1) / 2 % B.next.length=(fy i).1.toNat∧p (i+1) % 2=tn (p i % 2) (fx i).2 (fy i).2 % 2:=fun i=>by
      have hyr:=mv_rng okB (hrng i).2 (hf i).2.1
      rw [(hf i).2.2.1]
      exact pc_nat (by omega) (Nat.mod_lt _ (by decide))
    constructor
    · refine ⟨fun i=>p i / 2 / B.next.length,fun i=>(fx i).2,?_,fun i=>?_,fun T=>?_⟩
      · show ((p 0 / 2 / B.next.length:Nat):Int)∈A.start
        obtain ⟨e1,_,_⟩:=pc_nat (m:=B.next.length) (x:=x0.toNat) (y:=y0.toNat) (t:=0) (by omega) (by decide)
        rw [← h0,e1,show ((x0.toNat:Nat):Int)=x0 by omega];exact hx0
      · show (p (i+1) / 2 / B.next.length,(fx i).2)∈bmv A (p i / 2 / B.next.length) (w i)
        rw [(hnx i).1]
        exact List.mem_map.2 ⟨fx i,(hf i).1,rfl⟩
      · -- between two good moves of both the first one has one
        obtain ⟨i,hi,hb⟩:=h2 T
        obtain ⟨k,hk,hbk⟩:=h2 (i+1)
        have e1:tn (p i % 2) (fx i).2 (fy i).2=2:=by have:=(hf i).2.2.2;rw [hb] at this;simpa using this.symm
        have t0:p (i+1) % 2=0:=by rw [(hnx i).2.2,e1]
        have e2:tn (p k % 2) (fx k).2 (fy k).2=2:=by have:=(hf k).2.2.2;rw [hbk] at this;simpa using this.symm
        apply Classical.byContradiction
        intro hno
        have hz:∀ d,i+1+d≤k→p (i+1+d) % 2=0:=by
          intro d
          induction d with
          | zero=>intro _;exact t0
          | succ d ih=>
            intro hd
            have h3:=ih (by omega)
            have h4:(fx (i+1+d)).2=false:=by
              cases h5:(fx (i+1+d)).2 with
              | false=>rfl
              | true=>exact absurd ⟨i+1+d,by omega,h5⟩ hno
            rw [← Nat.add_assoc,(hnx (i+1+d)).2.2,h3,h4,tn_zero]
        have h3:=hz (k - (i+1)) (by omega)
        rw [show i+1+(k - (i+1))=k by omega] at h3
        rcases (tn_two (by omega) e2).2 with h4 | h4
        · omega
        · exact hno ⟨k,by omega,h4⟩
    · refine ⟨fun i=>p i / 2 % B.next.length,fun i=>(fy i).2,?_,fun i=>?_,fun T=>?_⟩
      · show ((p 0 / 2 % B.next.length:Nat):Int)∈B.start
        obtain ⟨_,e1,_⟩:=pc_nat (m:=B.next.length) (x:=x0.toNat) (y:=y0.toNat) (t:=0) (by omega) (by decide)
        rw [← h0,e1,show ((y0.toNat:Nat):Int)=y0 by omega];exact hy0
      · show (p (i+1) / 2 % B.next.length,(fy i).2)∈bmv B (p i / 2 % B.next.length) (w i)
        rw [(hnx i).2.1]
        exact List.mem_map.2 ⟨fy i,(hf i).2.1,rfl⟩
      · obtain ⟨i,hi,hb⟩:=h2 T
        have e1:tn (p i % 2) (fx i).2 (fy i).2=2:=by have:=(hf i).2.2.2;rw [hb] at this;simpa using this.symm
        exact ⟨i,hi,(tn_two (Nat.mod_lt _ (by decide)) e1).1⟩
  · rintro ⟨⟨x,bx,hx0,hx1,hx2⟩,⟨y,by',hy0,hy1,hy2⟩⟩
    have hxr:∀ i,x i<A.next.length:=by
      intro i
      induction i with
      | zero=>have:=(start_nat okA hx0).2;simpa using this
      | succ i ih=>exact bmv_lt okA _ _ ih _ (hx1 i)
    have hyr:∀ i,y i<B.next.length:=by
      intro i
      induction i with
      | zero=>have:=(start_nat okB hy0).2;simpa using this
      | succ i ih=>exact bmv_lt okB _ _ ih _ (hy1 i)
    let t:Nat→Nat:=fun i=>Nat.rec 0 (fun i r=>tn r (bx i) (by' i) % 2) i
    have ts:∀ i,t (i+1)=tn (t i) (bx i) (by' i) % 2:=fun _=>rfl
    have tl:∀ i,t i<2:=fun i=>by
      cases i with
      | zero=>exact Nat.zero_lt_two
      | succ i=>rw [ts];exact Nat.mod_lt _ (by decide)
    refine ⟨fun i=>pcode B.next.length (x i) (y i) (t i),fun i=>decide (tn (t i) (bx i) (by' i)=2),?_,fun i=>?_,fun T=>?_⟩
    · exact List.mem_flatMap.2 ⟨(x 0:Int),hx0,List.mem_map.2 ⟨(y 0:Int),hy0,by simp;rfl⟩⟩
    · obtain ⟨e1,e2,e3⟩:=pc_nat (m:=B.next.length) (x:=x i) (y:=y i) (t:=t i) (hyr i) (tl i)
      show (pcode B.next.length (x (i+1)) (y (i+1)) (t (i+1)),decide (tn (t i) (bx i) (by' i)=2))∈mvX A B (pcode B.next.length (x i) (y i) (t i) / 2 / B.next.length) (pcode B.next.length (x i) (y i) (t i) / 2 % B.next.length) (pcode B.next.length (x i) (y i) (t i) % 2) (w i)
      rw [e1,e2,e3]
      have hx:=hx1 i
      have hy:=hy1 i
      simp only [bmv,List.mem_map] at hx hy
      obtain ⟨mx,hmx,hme⟩:=hx
      obtain ⟨my,hmy,hye⟩:=hy
      have f1:mx.1.toNat=x (i+1)∧mx.2=bx i:=by simpa using hme
      have f2:my.1.toNat=y (i+1)∧my.2=by' i:=by simpa using hye
      refine List.mem_flatMap.2 ⟨mx,hmx,List.mem_map.2 ⟨my,hmy,?_⟩⟩
      unfold pstep
      rw [f1.1,f1.2,f2.1,f2.2,ts]
    · apply Classical.byContradiction
      intro hno
      have hne:∀ i,T≤i→tn (t i) (bx i) (by' i)≠2:=fun i hi he=>hno ⟨i,hi,decide_eq_true he⟩
      obtain ⟨k,hk,hbk⟩:=hx2 T
      have h1:t (k+1)=1:=by rw [ts,(tn_one (tl k) (.inr hbk) (hne k hk)).1]
      have hst:∀ d,t (k+1+d)=1:=by
        intro d
        induction d with
        | zero=>exact h1
        | succ d ih=>
          rw [← Nat.add_assoc,ts,(tn_one (tl _) (.inl ih) (hne _ (by omega))).1]
      obtain ⟨l,hl,hbl⟩:=hy2 (k+1)
      have h2:=hst (l - (k+1))
      rw [show k+1+(l - (k+1))=l by omega] at h2
      have:=(tn_one (tl l) (.inl h2) (hne l (by omega))).2
      rw [hbl] at this
      cases this
end Go.Proofs.YtohldpfjnllkdaaDoor
