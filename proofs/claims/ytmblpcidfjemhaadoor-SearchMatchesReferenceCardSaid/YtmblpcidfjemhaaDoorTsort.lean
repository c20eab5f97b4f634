/- slices.SortFunc at moves. -/
import Derived.Test.YtmblpcidfjemhaaDoorLays
import Derived.Test.YtmblpcidfjemhaaDoorPvCall
import Derived.Test.YtmblpcidfjemhaaDoorTnum
import Derived.Test.YtmblpcidfjemhaaDoorPvSort
set_option linter.unusedSimpArgs false
set_option linter.unusedVariables false
section
set_option linter.unusedSimpArgs false
set_option linter.unusedVariables false
set_option maxRecDepth 100000
namespace Go.Proofs.YtmblpcidfjemhaaDoor
open Go Go.Shelf Go.RowKit Go.Lib Go.Sort
open Go.Pv
open Classical
theorem cmp_eq (x y:Int × Bool):mcmp x y=(if Lib.compareInt x.1 y.1≠0∨x.2=y.2 then Lib.compareInt x.1 y.1 else if y.2=true then -1 else 1):=by
  unfold mcmp Lib.compareInt
  by_cases h1:x.1<y.1
  · simp [h1]
  · by_cases h2:y.1<x.1
    · simp [h1,h2]
    · simp [h1,h2]
set_option maxHeartbeats 1000000 in
theorem cmp_calls (x y:Int × Bool) (W:World):Calls Tryd.prog 35 #[.agg #[.int .i64 x.1, .bool x.2], .agg #[.int .i64 y.1, .bool y.2]] W fun e w'=>e = .returned (.int .i64 (mcmp x y))∧∃ q os',w'=grow (W.drewN q) os':=by
  have hcon:=fun W'=>AnyG.cmp_Compare_int cmpInt x.1 y.1 W'
  change ∀ W',Calls Tryd.prog 57 _ _ _ at hcon
  obtain ⟨R,hR⟩:∃ R,R=mcmp x y:=⟨_,rfl⟩
  rw [← hR]
  rw [cmp_eq] at hR
  obtain ⟨a,b⟩:=x
  obtain ⟨c,d⟩:=y
  simp only at hcon hR ⊢
  generalize Lib.compareInt a c=r at hcon hR ⊢
  cases b<;>cases d
  all_goals
    go_enter Tryd.func35,Tryd.ntmps35
    go_wp2_with (go_at_call 57;refine (hcon _).mono ?_;rintro e w' ⟨rfl,rfl⟩)
    all_goals
      go_ret
      refine ⟨by rw [hR];simp [*],0,_,by rw [alloc_eq_grow,alloc_eq_grow,grow_grow];rfl⟩
theorem lt_iff (x y:Int × Bool):ltOf mcmp x y=decide (mlt x y):=by
  unfold ltOf
  by_cases h:mlt x y
  · rw [decide_eq_true h]
    exact decide_eq_true ((mcmp_lt x y).2 h)
  · rw [decide_eq_false h]
    exact decide_eq_false fun h'=>h ((mcmp_lt x y).1 h')
theorem swo_m:SWO (ltOf mcmp) where
  irrefl x:=by
    rw [lt_iff]
    refine decide_eq_false fun h=>?_
    rcases h with h | ⟨_,h1,h2⟩
    · omega
    · rw [h1] at h2;cases h2
  trans x y z h1 h2:=by
    rw [lt_iff] at *
    have k1:=of_decide_eq_true h1
    have k2:=of_decide_eq_true h2
    refine decide_eq_true ?_
    unfold mlt at *
    rcases k1 with k1 | ⟨a,b,c⟩<;>rcases k2 with k2 | ⟨d,e,f⟩
    · exact .inl (by omega)
    · exact .inl (by omega)
    · exact .inl (by omega)
    · rw [c] at e;cases e
  ntrans x y z h1 h2:=by
    rw [lt_iff] at *
    have k1:=of_decide_eq_false h1
    have k2:=of_decide_eq_false h2
    refine decide_eq_false fun h=>?_
    unfold mlt at *
    obtain ⟨a,p⟩:=x
    obtain ⟨b,q⟩:=y
    obtain ⟨c,r⟩:=z
    simp only [not_or,not_and,Int.not_lt] at *
    cases p<;>cases q<;>cases r<;>simp at *<;>omega
theorem tsort_ok {s:St} {j:Nat} {ms:List (Int × Bool)} (hs:s.get j=some (.cells .mut (mcells ms))) (hl1:1≤ms.length) (hl2:ms.length≤1048576) :
    CallOk Tryd.prog GL (.fn (.func 62) [] []) [.sref j 0 ms.length 2, .fn (.func 35) [] []] s (fun _ s'=>∃ ms',ms'.Perm ms∧(∀ a b,a<b→b<ms'.length→¬ mlt (ms'.getD b (0,false)) (ms'.getD a (0,false)))∧s'=s.put j (.cells .mut (mcells ms'))):=by
  have eg:∀ args w,(callFunc 35 args).run Tryd.prog w = .ok (.enter 35 args) w:=enters_of Tryd.func35 (by kernel_rfl) rfl
  refine CallOk.mono (call_sort (lt:=ltOf mcmp) Tryd.func62 (by decide +kernel) (body:=(Tryd.f62.body).getD default) (by kernel_rfl) ?_ hs hl1 hl2) ?_
  · intro blk off cap d w hH hb hz
    exact AnyQ.slices_SortFunc sortMv 2 Tryd.isAgg42 Tryd.sizeOf42 encM (fun _=>rfl) (fun x v hv=>by simp [encM] at hv;rcases hv with rfl | rfl<;>rfl) mcmp swo_m 35 #[] blk off cap d w eg (fun _ _ _ _ x y=>cmp_calls x y _) hH hb hz
  · rintro r s' ⟨ms',h1,h2,h3⟩
    refine ⟨ms',h1,fun a b hab hb hm=>?_,h3⟩
    have:=h2 a b hab hb
    rw [lt_iff] at this
    exact of_decide_eq_false this hm
noncomputable def TG:Nat→Option LFunc:=tabOf Tryd.prog GL []
theorem tabG:Tab Tryd.prog GL TG []:=tabOf_tab (by decide +kernel) (by decide +kernel)
theorem tsort_nil:PureOk Tryd.prog GL (.fn (.func 62) [] []) [.nils, .fn (.func 35) [] []] (.tup []) :=
  pure_ev (ow:=false) tabG (n:=20000) (by decide +kernel)
end Go.Proofs.YtmblpcidfjemhaaDoor
end
section
set_option linter.unusedSimpArgs false
set_option linter.unusedVariables false
namespace Go.Proofs.YtmblpcidfjemhaaDoor
open Go Go.Pv
open Classical
theorem loadN_movesR {ms:Moves} {k j:Nat} (h:k<ms.length) {s:St} {m:Md} (hs:s.get j=some (.cells m (mcells ms))):loadLV (some 2) (.pref j (k*2)) s=some (.agg [.int .i64 (ms.getD k (0,false)).1, .bool (ms.getD k (0,false)).2]):=by
  have h1:=mcells_pair h
  have h2:k*2+2≤(mcells ms).length:=by rw [mcells_length];omega
  simp only [loadLV,hs,mkVal]
  rw [if_pos h2,h1]
theorem meq_false {a b:Int × Bool} (h:a≠b):eqLV (.struct [(0,(1, .int)),(1,(1, .bool))]) (.agg [.int .i64 a.1, .bool a.2]) (.agg [.int .i64 b.1, .bool b.2])=some false:=by
  obtain ⟨x,p⟩:=a
  obtain ⟨y,q⟩:=b
  by_cases h1:x=y
  · subst h1
    have h2:¬ p=q:=fun h2=>h (by rw [h2])
    cases p<;>cases q<;>simp_all [eqLV,eqLV.eqFields,scEq]
  · have h2:(x == y)=false:=by simpa using h1
    simp [eqLV,eqLV.eqFields,scEq,h2]
theorem tcomp_nil:PureOk Tryd.prog GL (.fn (.func 63) [] []) [.nils] .nils:=
  pure_ev (ow:=false) tabG (n:=20000) (by decide +kernel)
end Go.Proofs.YtmblpcidfjemhaaDoor
end
section
set_option linter.unusedSimpArgs false
set_option linter.unusedVariables false
namespace Go.Proofs.YtmblpcidfjemhaaDoor
open Go Go.Pv
open Classical
theorem start_len {B:Bu} (hok:Vb B):B.start.length≤B.next.length:=by
  have hge:∀ i,i<B.start.length→(i:Int)≤B.start.getD i 0:=by
    intro i
    induction i with
    | zero=>intro hi;exact (hok.2.2.2.1 0 hi).1
    | succ i ih=>
      intro hi
      have h1:=ih (by omega)
      have h2:=(hok.2.2.2.1 (i+1) hi).2.2 (by omega)
      rw [Nat.add_sub_cancel] at h2
      omega
  by_cases h:B.start.length=0
  · omega
  · have h1:=hge (B.start.length - 1) (by omega)
    have h2:=(hok.2.2.2.1 (B.start.length - 1) (by omega)).2.1
    omega
theorem getD_set' {α:Type} {l:List α} {i k:Nat} {x d:α} (h:i<l.length):(l.set i x).getD k d=if k=i then x else l.getD k d:=by
  by_cases e:k=i
  · subst e;simp [List.getD_eq_getElem?_getD,h]
  · have e':i≠k:=fun h=>e h.symm
    simp [List.getD_eq_getElem?_getD,e,e']
theorem mok_len' {n:Nat} {ms:Moves} (h:MOK n ms):ms.length≤2*n:=by
  let f:Nat→Int:=fun k=>2*(ms.getD k (0,false)).1+(if (ms.getD k (0,false)).2=true then 1 else 0)
  have hf : ∀ k, k < ms.length → (k : Int) ≤ f k := by
    intro k
    induction k with
    | zero=>
      intro hk
      have:=(h 0 hk).1
      show (0:Int)≤2*_+_
      split<;>omega
    | succ k ih=>
      intro hk
      have h1:=ih (by omega)
      have h2:=(h (k+1) hk).2.2 (by omega)
      rw [Nat.add_sub_cancel] at h2
      have h3:f k<f (k+1):=by
        show 2*_+_<2*_+_
        rcases h2 with h2 | ⟨h2,h4,h5⟩
        · split<;>split<;>omega
        · rw [h4,h5,h2]
          first
            | (simp;done)
            | (simp;omega)
      omega
  by_cases h0:ms.length=0
  · omega
  · have h1:=hf (ms.length - 1) (by omega)
    have h2:=(h (ms.length - 1) (by omega)).2.1
    have h3:f (ms.length - 1)≤2*(ms.getD (ms.length - 1) (0,false)).1+1:=by
      show 2*_+_≤_
      split<;>omega
    omega
structure Fr1 (s1 s2:St) (ja jb M:Nat) (pv pv':LV):Prop where
  n:s1.n≤s2.n
  u:∀ id,uses pv' id→uses pv id∨s1.n≤id
  g:∀ id,id<s1.n→id≠ja→id≠jb→id≠M→¬ uses pv id→s2.get id=s1.get id
theorem Fr1.refl (s1:St) (ja jb M:Nat) (pv:LV):Fr1 s1 s1 ja jb M pv pv:=⟨Nat.le_refl _,fun _ h=>.inl h,fun _ _ _ _ _ _=>rfl⟩
theorem Fr1.trans {s1 s2 s3:St} {ja jb M:Nat} {pv pv' pv'':LV} (h:Fr1 s1 s2 ja jb M pv pv') (k:Fr1 s2 s3 ja jb M pv' pv''):Fr1 s1 s3 ja jb M pv pv'':=by
  refine ⟨Nat.le_trans h.n k.n,fun id hu=>?_,fun id h1 h2 h3 h4 h5=>?_⟩
  · rcases k.u id hu with h6 | h6
    · exact h.u id h6
    · exact .inr (by have:=h.n;omega)
  · rw [k.g id (by have:=h.n;omega) h2 h3 h4 fun hu=>by
      rcases h.u id hu with h6 | h6
      · exact h5 h6
      · omega]
    exact h.g id h1 h2 h3 h4 h5
theorem Fr1.young {s1 s2 s3:St} {ja jb M:Nat} {pv pv':LV} (h:Fr1 s1 s2 ja jb M pv pv') (hn:s2.n≤s3.n) (hs:∀ id,id<s1.n→s3.get id=s2.get id):Fr1 s1 s3 ja jb M pv pv' :=
  ⟨Nat.le_trans h.n hn,h.u,fun id h1 h2 h3 h4 h5=>by rw [hs id h1];exact h.g id h1 h2 h3 h4 h5⟩
theorem skc_cell {s:St} {v:LV} {esz n:Nat} {cells:List LV} (h:SkC s v esz cells n):isCell v=true:=by
  obtain ⟨_,⟨rfl,_⟩ | ⟨j,rfl,_⟩⟩:=h<;>rfl
end Go.Proofs.YtmblpcidfjemhaaDoor
end
section
set_option linter.unusedSimpArgs false
set_option linter.unusedVariables false
namespace Go.Proofs.YtmblpcidfjemhaaDoor
open Go Go.Pv
open Classical
theorem frz_aut {s:St} {stv nxv:LV} {C:Bu} {T1 T2:Nat→Prop} (f1:FZ T1 (fun v'=>IsInts v' C.start) 39 stv s) (f2:FZ T2 (fun v'=>IsNext v' C.next) 39 nxv s) (hd:∀ id,T1 id→¬ T2 id) :
    ∃ r s' sv nv,frz frzDepth (.agg [.int .i64 C.L,stv,nxv]) s=some (r,s')∧IsB r C sv nv:=by
  obtain ⟨v1,s1,a1,a2,a3,a4⟩:=f1 s fun _ _=>rfl
  obtain ⟨v2,s2,b1,b2,b3,b4⟩:=f2 s1 fun id hid=>a4 id fun h=>hd id h hid
  by_cases hc:(LV.agg [.int .i64 C.L,stv,nxv]).closed=true
  · have hc':stv.closed=true∧nxv.closed=true:=by simpa [LV.closed,LV.closed.closedAll] using hc
    rw [frz_closed hc'.1] at a1
    rw [frz_closed hc'.2] at b1
    cases a1
    cases b1
    exact ⟨_,s,stv,nxv,frz_closed hc,rfl,a2,b2⟩
  · have hc0:(LV.agg [.int .i64 C.L,stv,nxv]).closed=false:=by simpa using hc
    refine ⟨.agg [.int .i64 C.L,v1,v2],s2,v1,v2,?_,rfl,a2,b2⟩
    have hb:frz 39 (.int .i64 C.L) s=some (.int .i64 C.L,s):=frz_closed rfl
    show frz (39+1) _ s=_
    unfold frz
    rw [hc0]
    simp only [Bool.false_eq_true,if_false,frz.frzAll,hb,a1,b1,Option.bind_eq_bind,Option.bind_some]
end Go.Proofs.YtmblpcidfjemhaaDoor
end
