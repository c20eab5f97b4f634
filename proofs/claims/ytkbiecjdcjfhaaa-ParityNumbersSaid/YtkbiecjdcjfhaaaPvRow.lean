/- From what a row says of its input to plain values, and from a plain run to what a row asks. -/
import Derived.Test.YtkbiecjdcjfhaaaPvCall
import Derived.Carry
import Derived.ChangeArms
import Derived.ChangeSame
import Derived.Deep.Slices
import Derived.OpenShut
set_option linter.unusedSimpArgs false
set_option linter.unusedVariables false
section
set_option linter.unusedSimpArgs false
set_option linter.unusedVariables false
namespace Go.Pv
open Go Go.RowKit Go.ChangeShapes Go.WideShapes
inductive CT where
 | bool
 | int (k:IntKind)
 | str
 | sl (es:List CT)
mutual
inductive HasC:CT→LV→Prop
 | bool (b:Bool):HasC .bool (.bool b)
 | int {k:IntKind} {n:Int} (h:(Lit.int k n).wf=true):HasC (.int k) (.int k n)
 | str (s:ByteArray) (h:s.size≤maxLen):HasC .str (.str s)
 | nil {es:List CT} : HasC (.sl es) .nils
 | zs {es:List CT} : HasC (.sl es) .zs
 | sl {es:List CT} {rows:List (List LV)} (hn:rows.length≤maxLen) (h:HasRs es rows):HasC (.sl es) (.simm rows.flatten rows.length)
inductive HasR:List CT→List LV→Prop
 | nil:HasR [] []
 | cons {c:CT} {v:LV} {cs:List CT} {vs:List LV} (h:HasC c v) (hs:HasR cs vs):HasR (c::cs) (v::vs)
inductive HasRs:List CT→List (List LV)→Prop
 | nil {es:List CT} : HasRs es []
 | cons {es:List CT} {r:List LV} {rs:List (List LV)} (h:HasR es r) (hs:HasRs es rs):HasRs es (r::rs)
end
def fieldsTy (P:Program) (f:TypeId→Option (List CT)):List Field→Nat→Option (List CT)
 | [],_=>some []
 | fl::fs,off=>
  match f fl.type with
  | some r=>
   if fl.offset=off∧r.length=P.cellsOf fl.type then (match fieldsTy P f fs (off+r.length) with | some rs=>some (r++rs) | none=>none) else none
  | none=>none
def rowTy (P:Program):Nat→TypeId→Option (List CT)
 | 0,_=>none
 | n + 1, t =>
  match P.underlying t with
  | some .bool=>some [.bool]
  | some (.int k)=>some [.int k]
  | some .string=>some [.str]
  | some (.slice e) =>
   match rowTy P n e with
   | some r=>if r.length=P.cellsOf e∧0<r.length then some [.sl r] else none
   | none=>none
  | some (.struct fs) =>
   match fieldsTy P (rowTy P n) fs.toList 0 with
   | some r=>if r.length=P.cellsOf t then some r else none
   | none=>none
  | _=>none
theorem HasR.length:∀ {cs:List CT} {vs:List LV},HasR cs vs→vs.length=cs.length:=by
 intro cs
 induction cs with
 | nil=>intro vs h;cases h;rfl
 | cons c cs ih=>intro vs h;cases h with | cons h hs=>simp [ih hs]
theorem HasR.append:∀ {cs ds:List CT} {vs ws:List LV},HasR cs vs→HasR ds ws→HasR (cs++ds) (vs++ws):=by
 intro cs
 induction cs with
 | nil=>intro ds vs ws h k;cases h;exact k
 | cons c cs ih=>intro ds vs ws h k;cases h with | cons h hs=>exact .cons h (ih hs k)
section
variable {P:Program} {G:Globs} {H:Type} {enc:TypeId × Value→H} {W:World}
def noMu:Mu:=fun _=>none
def Rd (κ:Io) (W:World) (lvs:List LV) (cs:List Value):Prop:=lvs.length=cs.length∧∀ i,i<cs.length→Rv noMu κ W (lvs.getD i .top) (cs.getD i undef)∧(cs.getD i undef).oneCell'=true
theorem Rd.one {κ:Io} {v:LV} {x:Value} (h:Rv noMu κ W v x) (h1:x.oneCell'=true):Rd κ W [v] [x] :=
 ⟨rfl,fun i hi=>by
  have h0:i=0:=by simpa using hi
  subst h0
  exact ⟨by simpa using h,by simpa using h1⟩⟩
theorem Rd.append {κ:Io} {a b:List LV} {x y:List Value} (h:Rd κ W a x) (k:Rd κ W b y):Rd κ W (a++b) (x++y):=by
 refine ⟨by simp [h.1,k.1],fun i hi=>?_⟩
 by_cases hx:i<x.length
 ·have:=h.2 i hx
  have ha:i<a.length:=by rw [h.1];exact hx
  simpa [List.getD_eq_getElem?_getD,List.getElem?_append_left hx,List.getElem?_append_left ha] using this
 ·have hi':i - x.length<y.length:=by simp at hi;omega
  have:=k.2 _ hi'
  have ha:a.length≤i:=by rw [h.1];omega
  simpa [List.getD_eq_getElem?_getD,List.getElem?_append_right (Nat.le_of_not_lt hx),List.getElem?_append_right ha,h.1] using this
theorem flatten_len {α:Type} {rows:List (List α)} {m:Nat} (h:∀ r∈rows,r.length=m):rows.flatten.length=rows.length*m:=by
 induction rows with
 | nil=>simp
 | cons r rs ih=>
  rw [List.flatten_cons,List.length_append,ih (fun x hx=>h x (by simp [hx])),h r (by simp),List.length_cons,Nat.add_mul,Nat.one_mul,Nat.add_comm]
theorem flatten_get {α:Type} {m:Nat} : ∀ {rows:List (List α)},(∀ r∈rows,r.length=m)→∀ i j,j<m→rows.flatten[i*m+j]? = (rows[i]?).bind (·[j]?):=by
 intro rows
 induction rows with
 | nil=>intro _ i j _;simp
 | cons r rs ih=>
  intro h i j hj
  have hr:=h r (by simp)
  cases i with
  | zero=>simp [List.getElem?_append_left (show j<r.length by omega)]
  | succ i=>
   have:(i+1)*m+j=r.length+(i*m+j):=by rw [Nat.add_mul,hr];omega
   rw [this,List.flatten_cons,List.getElem?_append_right (by omega),Nat.add_sub_cancel_left,ih (fun x hx=>h x (by simp [hx])) i j hj]
   simp
theorem cells?_get {W:World} {base:Nat} {a:Addr} {n:Nat} {cs:List Value} (h:W.cells? base a n=some cs):cs.length=n∧∀ i,i<n→W.cell? (a.add i)=some (cs.getD i undef):=by
 unfold World.cells? at h
 split at h
 ·obtain ⟨h1,h2⟩:=Go.Pv.mapM_get h
  refine ⟨by simpa using h1,fun i hi=>?_⟩
  obtain ⟨y,hy,hc⟩:=h2 i (by simpa using hi)
  simp only [List.getElem_range] at hc
  rw [hc,List.getD_eq_getElem?_getD,hy]
  rfl
 ·cases h
theorem HasRs.all {es:List CT} : ∀ {rows:List (List LV)},HasRs es rows↔∀ r∈rows,HasR es r:=by
 intro rows
 induction rows with
 | nil=>exact Iff.intro (fun _ r hr=>absurd hr List.not_mem_nil) (fun _=>HasRs.nil)
 | cons r rs ih=>
  constructor
  ·intro h x hx
   cases h with
   | cons h hs=>
    rcases List.mem_cons.1 hx with rfl | hx
    ·exact h
    ·exact ih.1 hs x hx
  ·intro h
   exact .cons (h r (by simp)) (ih.2 fun x hx=>h x (by simp [hx]))
theorem read_row {κ : Io} : ∀ {n : Nat} {t : TypeId} {row : List CT}, rowTy P n t = some row → ∀ {fuel : Nat} {cs : List Value} {x : DataW H × List MemPlace}, DataW.trod enc P W 0 (fun _ => true) true fuel t cs = some x →
  (∀ b o,MemPlace.cell b o∈x.2→κ b o)→∃ lvs,HasR row lvs∧Rd κ W lvs cs:=by
 intro n
 induction n with
 | zero=>intro t row h;cases h
 | succ n ih =>
  intro t row h fuel cs x hx hκ
  unfold rowTy at h
  split at h
  ·rename_i ht;cases h
   obtain ⟨b,rfl,-⟩:=DataW.trod_bool ht hx
   exact ⟨[.bool b], .cons (.bool b) .nil,Rd.one (.bool b) rfl⟩
  ·rename_i k ht;cases h
   obtain ⟨n,rfl,-,hw⟩:=DataW.trod_int ht hx
   exact ⟨[.int k n], .cons (.int hw) .nil,Rd.one (.int k n) rfl⟩
  ·rename_i ht;cases h
   obtain ⟨s,rfl,-,hw⟩:=DataW.trod_string ht hx
   exact ⟨[.str s], .cons (.str s hw) .nil,Rd.one (.str s) rfl⟩
  ·rename_i e ht
   split at h
   ·rename_i r hr
    split at h
    ·rename_i hlen
     cases h
     rcases Deep.open_slice ht hx with ⟨rfl,-⟩ | ⟨a,len,cap,m,n',D,Pl,rfl,hb,hl,hcap,hm,rfl,hel⟩
     ·exact ⟨[.nils], .cons .nil .nil,Rd.one .nils rfl⟩
     ·simp only [if_true] at hm
      subst hm
      by_cases hc0:m=0
      ·subst hc0
       obtain rfl:len=0:=by omega
       exact ⟨[.zs], .cons .zs .nil,Rd.one (.zs a) rfl⟩
      ·have hcl:=hlen.1
       have hpos:0<P.cellsOf e:=by omega
       have hea:∀ i,i<m→∃ q:List LV × List Value,W.cells? 0 (a.add (i*P.cellsOf e)) (P.cellsOf e)=some q.2∧HasR r q.1∧Rd κ W q.1 q.2:=fun i hi=>by
        obtain ⟨cs',h1,h2⟩:=hel i hi
        obtain ⟨lvs,h3,h4⟩:=ih hr h2 (fun b o hmem=>hκ b o (List.mem_append_right _ (List.mem_flatMap.2 ⟨i,List.mem_range.2 hi,hmem⟩)))
        exact ⟨(lvs,cs'),h1,h3,h4⟩
       obtain ⟨Q,hQ⟩:=Deep.choose_lt hea
       have hspot:a.spot=none:=by
        have h0:=hQ 0 (by omega)
        have:=(cells?_get h0.1).2 0 hpos
        simp only [Nat.zero_mul,Addr.add,if_true] at this
        unfold World.cell? at this
        split at this
        ·split at this
         ·cases this
         ·rename_i hs;simpa using hs
        ·cases this
       have hadd:∀ k,a.add k=⟨a.block,a.off+k,none⟩:=fun k=>by
        unfold Addr.add
        split
        ·rename_i h0;subst h0;cases a;simp at hspot;subst hspot;rfl
        ·rfl
       let rows:=(List.range len).map fun i=>(Q i).1
       have hrl:∀ q∈rows,q.length=P.cellsOf e:=fun q hq=>by
        obtain ⟨i,hi,rfl⟩:=List.mem_map.1 hq
        rw [(hQ i (by have:=List.mem_range.1 hi;omega)).2.1.length,hcl]
       have hlen':rows.length=len:=by simp [rows]
       have hfl:=flatten_len hrl
       refine ⟨[.simm rows.flatten rows.length], .cons (.sl (by rw [hlen'];exact Nat.le_trans hl hcap) (HasRs.all.2 fun q hq=>?_)) .nil,?_⟩
       ·obtain ⟨i,hi,rfl⟩:=List.mem_map.1 hq
        exact (hQ i (by have:=List.mem_range.1 hi;omega)).2.1
       ·rw [hlen']
        have ha:a=⟨a.block,a.off,none⟩:=by cases a;simp at hspot;subst hspot;rfl
        have key:∀ i,i<rows.flatten.length→∃ y:Value,W.cell? ⟨a.block,a.off+i,none⟩=some y∧Rv noMu κ W (rows.flatten.getD i .top) y∧y.oneCell'=true∧κ a.block (a.off+i):=fun i hi=>by
         rw [hfl,hlen'] at hi
         have hdm:=Nat.div_add_mod i (P.cellsOf e)
         have hj:=Nat.mod_lt i hpos
         have hq:i / P.cellsOf e<len:=Nat.div_lt_of_lt_mul (by rw [Nat.mul_comm];exact hi)
         obtain ⟨h1,h2,h3⟩:=hQ (i / P.cellsOf e) (by omega)
         obtain ⟨g1,g2⟩:=cells?_get h1
         have h4:=g2 (i % P.cellsOf e) hj
         have h5:=h3.2 (i % P.cellsOf e) (by rw [g1];exact hj)
         have e1:i / P.cellsOf e*P.cellsOf e+i % P.cellsOf e=i:=by rw [Nat.mul_comm];exact hdm
         refine ⟨_,?_,?_,h5.2,hκ _ _ (List.mem_append_left _ ?_)⟩
         ·rw [Deep.add_add,e1,hadd] at h4
          exact h4
         ·have:=flatten_get hrl (i / P.cellsOf e) (i % P.cellsOf e) hj
          rw [e1] at this
          rw [List.getD_eq_getElem?_getD,this]
          have:rows[i / P.cellsOf e]? = some (Q (i / P.cellsOf e)).1:=by simp [rows,hq]
          rw [this]
          have h6:=h5.1
          rw [List.getD_eq_getElem?_getD] at h6
          exact h6
         ·refine List.mem_map.2 ⟨i,List.mem_range.2 ?_,rfl⟩
          exact Nat.lt_of_lt_of_le hi (Nat.mul_le_mul_right _ hl)
        obtain ⟨V,hV⟩:=Deep.choose_lt (α:=Value) (n:=rows.flatten.length) key
        rw [ha]
        exact Rd.one (.simm V (fun i hi=>(hV i hi).1) (fun i hi=>(hV i hi).2.2.2) (fun i hi=>(hV i hi).2.2.1) (fun i hi=>(hV i hi).2.1) hl) rfl
    ·cases h
   ·cases h
  ·rename_i fs ht
   split at h
   ·rename_i r hr
    split at h
    ·rename_i hlen
     cases h
     obtain ⟨xs,n',-,rfl,hcl,hxl,hf⟩:=DataW.trod_struct ht hx
     have key : ∀ (fl : List Field) (off : Nat) (r : List CT) (ys : List (DataW H × List MemPlace)), fieldsTy P (rowTy P n) fl off = some r → (∀ (i : Nat) f, fl[i]? = some f → DataW.trod enc P W 0 (fun _ => true) true n' f.type ((cs.drop f.offset).take (P.cellsOf f.type)) = ys[i]?) →
       ys.length=fl.length→(∀ b o,MemPlace.cell b o∈ys.flatMap (·.2)→κ b o)→off+r.length≤cs.length→∃ lvs,HasR r lvs∧Rd κ W lvs ((cs.drop off).take r.length):=by
      intro fl
      induction fl with
      | nil=>
       intro off r ys h _ _ _ _
       cases h
       exact ⟨[], .nil,by simp [Rd]⟩
      | cons f fl ihf=>
       intro off r ys h hys hyl hk hle
       simp only [fieldsTy] at h
       split at h
       ·rename_i r1 hr1
        split at h
        ·rename_i hc
         split at h
         ·rename_i r2 hr2
          cases h
          obtain ⟨hoff,hsz⟩:=hc
          match ys,hyl with
          | y :: ys, hyl =>
           have hy:=hys 0 f rfl
           simp only [List.getElem?_cons_zero] at hy
           obtain ⟨l1,g1,g2⟩:=ih hr1 hy (fun b o hm=>hk b o (by simp [hm]))
           simp only [List.length_append] at hle
           obtain ⟨l2,g3,g4⟩:=ihf (off+r1.length) r2 ys hr2 (fun i f' hi=>by simpa using hys (i+1) f' (by simpa using hi)) (by simpa using hyl)
            (fun b o hm=>hk b o (by simp only [List.flatMap_cons,List.mem_append];exact .inr hm)) (by omega)
           refine ⟨l1++l2,g1.append g3,?_⟩
           have:(cs.drop off).take (r1++r2).length=(cs.drop off).take r1.length++(cs.drop (off+r1.length)).take r2.length:=by
            rw [List.length_append,List.take_add,List.drop_drop]
           rw [this]
           rw [hoff,← hsz] at g2
           exact g2.append g4
         ·cases h
        ·cases h
       ·cases h
     obtain ⟨lvs,g1,g2⟩:=key fs.toList 0 row xs hr (fun i f hi=>hf i f (by simpa using hi)) (by simpa using hxl) hκ (by omega)
     refine ⟨lvs,g1,?_⟩
     rw [List.drop_zero,List.take_of_length_le (by omega)] at g2
     exact g2
    ·cases h
   ·cases h
  ·cases h
def HasArg (P:Program) (n:Nat) (t:TypeId) (v:LV):Prop:=
 ∃ row lvs,rowTy P n t=some row∧HasR row lvs∧(match P.underlying t with | some (.struct _)=>v = .agg lvs | _=>lvs=[v])
theorem read_arg {κ:Io} {n:Nat} {t:TypeId} {row:List CT} (hrow:rowTy P n t=some row) {base:Nat} {v:Value} (hval:Value.okWide P W .any base t v) {d:DataW H} {ps:List MemPlace} (h:DataW.Trod enc P W 0 (fun _=>true) true t v d ps)
  (hκ:∀ b o,MemPlace.cell b o∈ps→κ b o):∃ lv,HasArg P n t lv∧Rv noMu κ W lv v:=by
 obtain ⟨fuel,hf⟩:=h
 obtain ⟨lvs,h1,h2⟩:=read_row hrow hf hκ
 have hone:(∀ x,v≠.agg x)→(∀ fs,P.underlying t≠some (.struct fs))→∃ lv,HasArg P n t lv∧Rv noMu κ W lv v:=fun hn hs=>by
  have hc:v.cells.toList=[v]:=by
   cases v<;>first | rfl | exact absurd rfl (hn _)
  rw [hc] at h2
  match lvs,h2.1 with
  | [lv],_=>
   refine ⟨lv,⟨row,[lv],hrow,h1,?_⟩,by simpa using (h2.2 0 (by simp)).1⟩
   split
   ·rename_i fs hu;exact absurd hu (hs fs)
   ·rfl
 cases n with
 | zero=>cases hrow
 | succ n=>
  have hrow':=hrow
  unfold rowTy at hrow
  unfold Value.okWide at hval
  split at hrow
  ·rename_i ht
   rw [ht] at hval
   refine hone (fun x=>?_) (fun fs hu=>by rw [ht] at hu;cases hu)
   rintro rfl
   simp [Cell.okWide,ht,Cell.ok] at hval
  ·rename_i k ht
   rw [ht] at hval
   refine hone (fun x=>?_) (fun fs hu=>by rw [ht] at hu;cases hu)
   rintro rfl
   simp [Cell.okWide,ht,Cell.ok] at hval
  ·rename_i ht
   rw [ht] at hval
   refine hone (fun x=>?_) (fun fs hu=>by rw [ht] at hu;cases hu)
   rintro rfl
   simp [Cell.okWide,ht,Cell.ok] at hval
  ·rename_i e ht
   rw [ht] at hval
   refine hone (fun x=>?_) (fun fs hu=>by rw [ht] at hu;cases hu)
   rintro rfl
   simp [Cell.okWide,ht,Cell.ok] at hval
  ·rename_i fs ht
   rw [ht] at hval
   obtain ⟨cs,rfl,-,-⟩:=hval
   refine ⟨.agg lvs,⟨row,lvs,hrow',h1,by rw [ht]⟩, .agg (by have:=h2.1;simpa [Value.cells] using this.symm) fun i hi=>?_⟩
   have:=(h2.2 i (by rw [← h2.1];exact hi)).1
   simpa [Value.cells,List.getD_eq_getElem?_getD,Array.getD_eq_getD_getElem?] using this
  ·cases hrow
inductive HasArgs (P:Program) (n:Nat):List TypeId→List LV→Prop
 | nil:HasArgs P n [] []
 | cons {t:TypeId} {v:LV} {ts:List TypeId} {vs:List LV} (h:HasArg P n t v) (hs:HasArgs P n ts vs):HasArgs P n (t::ts) (v::vs)
theorem read_args {κ:Io} {n base:Nat} : ∀ {ts:List TypeId} {vs:List Value} {ds:List (DataW H)} {ps:List MemPlace},(∀ t∈ts,(rowTy P n t).isSome=true)→DataW.TrodAll enc P W 0 (fun _=>true) true ts vs ds ps →
  (∀ (j:Nat) t v,ts[j]? = some t→vs[j]? = some v→Value.okWide P W .any base t v)→(∀ b o,MemPlace.cell b o∈ps→κ b o) →
  ∃ lvs,HasArgs P n ts lvs∧lvs.length=vs.length∧∀ i,i<vs.length→Rv noMu κ W (lvs.getD i .top) (vs.getD i undef):=by
 intro ts
 induction ts with
 | nil=>
  intro vs ds ps _ h _ _
  obtain ⟨rfl,rfl,rfl⟩:=trodAll_nil h
  exact ⟨[], .nil,rfl,fun i hi=>absurd hi (Nat.not_lt_zero _)⟩
 | cons t ts ih=>
  intro vs ds ps hr h hv hκ
  obtain ⟨v,vs',d,ds',p,q,rfl,rfl,rfl,h0,h1⟩:=trodAll_cons h
  obtain ⟨row,hrow⟩:=Option.isSome_iff_exists.1 (hr t (by simp))
  obtain ⟨lv,g1,g2⟩:=read_arg hrow (hv 0 t v rfl rfl) h0 (fun b o hm=>hκ b o (by simp [hm]))
  obtain ⟨lvs,g3,g4,g5⟩:=ih (fun t ht=>hr t (by simp [ht])) h1 (fun j t v hj hv'=>hv (j+1) t v (by simpa using hj) (by simpa using hv')) (fun b o hm=>hκ b o (by simp [hm]))
  refine ⟨lv::lvs, .cons g1 g3,by simp [g4],fun i hi=>?_⟩
  cases i with
  | zero=>simpa using g2
  | succ i=>simpa using g5 i (by simpa using hi)
theorem calls_fnG {refs : List Nat} {f : FuncId} {fn : Func} {lf : LFunc} {args : List LV} {Q : LV → Prop} {κ : Io} (hglob : ∀ x ∈ G, Rv noMu κ W (.pimm x.2 0) (.pointer (some ⟨x.1, 0, none⟩))) (hf : P.funcs[f]? = some fn) (hn : (fn.name == "runtime.NumGoroutine") = false)
  (hc:compFunc P G refs fn=some lf) (hlen:args.length≤lf.ntmps)
  (h:CodeOk P G false lf.ntmps lf.body (envOf args) St.empty (fun o e s'=>(o = .normal∨o = .jmp .ret)∧∃ v,resVal lf.results e s'=some v∧Q v))
  {vargs:Array Value} (hκ:∀ b o,κ b o→∃ v,W.cell? ⟨b,o,none⟩=some v) (hvl:vargs.size=args.length) (hva:∀ i,i<args.length→Rv noMu κ W (args.getD i .top) (vargs.getD i undef)) (hown:ownG G=false) :
  Calls P f vargs W fun e W'=>∃ lv v μ' ι',e = .returned v∧Q lv∧Below W.heap.size W W'∧Rv μ' ι' W' lv v:=by
 intro cs
 unfold compFunc at hc
 obtain ⟨body,hbody,hc⟩:=bind_some hc
 obtain ⟨lrs,hlrs,hc⟩:=bind_some hc
 cases hc
 let w0:Bs:=⟨W,κ⟩
 have hN:Now P G w0 noMu κ (fun _=>False) St.empty W:=by
  refine ⟨⟨Below.refl _ _,fun id p hp=>(by cases hp),hκ,fun id b p _ hp=>(by cases hp),fun _ _ _ _ _ _ hb=>(by cases hb),fun _ hr=>hr.elim,fun b o hi _=>hi,fun b o hi hb=>by obtain ⟨v,hv⟩:=hκ b o hi;have:=cell_lt hv;exact absurd hb (by show ¬ W.heap.size≤b;omega)⟩,hglob,fun ho=>by rw [hown] at ho;cases ho⟩
 let b:Frame:={ (default:Frame) with fn:=f,kind:=.normal,roundOf:=none }
 let a:Act:={ tmps:=vargs++Array.replicate (fn.ntmps - vargs.size) undef,defers:=[] }
 have hfr:Frame.enter P f vargs .normal=b.atR a [.code body]:=by
  simp [Frame.enter,Frame.atR,hf,hbody,a,b]
 have hF:Fr P G w0 noMu κ (fun _=>False) St.empty W fn.ntmps (envOf args) a:=by
  refine ⟨hN,fun t=>?_,by simp only [a,Array.size_append,Array.size_replicate];simp only at hlen;omega⟩
  rw [envOf_at]
  by_cases ht:t<args.length
  ·have:=hva t ht
   have hx:a.tmps.getD t undef=vargs.getD t undef:=by
    simp only [a,Array.getD_eq_getD_getElem?]
    rw [Array.getElem?_append_left (by omega)]
   rw [hx];exact this
  ·rw [List.getD_eq_getElem?_getD,List.getElem?_eq_none (by omega)]
   exact .top _
 obtain ⟨o,e',s',μ',ι',δ',w1,a',⟨ho,v,hv,q⟩,har,hF',hW⟩:=h body ⟨refs,rfl⟩ w0 noMu κ (fun _=>False) W b a [] cs rfl hF
 have hend:∃ todo,Steps P (lone (b.atR a [.code body]) cs W) (lone { b.atR a' todo with mode:=.returning } cs w1):=by
  rcases ho with rfl | rfl
  ·exact ⟨[],Steps.trans har (.one (stepR_end rfl))⟩
  ·obtain ⟨k',har⟩:=har
   exact ⟨_,Steps.trans har (.one (stepR_ret rfl))⟩
 obtain ⟨todo,hs1⟩:=hend
 obtain ⟨rs,hd,hnd,hnδ,hδ⟩:=hW.marks
 obtain ⟨w2,hs2,I2,x2⟩:=unwind_marks (P:=P) (fr:={ b.atR a' todo with mode:=.returning }) (cs:=cs) rfl rs δ' w1 hnd hnδ hδ hF'.now.inv
 have hfr2:{ b.atR a' todo with mode:=FrameMode.returning } = { ({ b.atR a' todo with mode:=FrameMode.returning } : Frame) with defers:=rs.map mark } := by
  have:a'.defers=rs.map mark:=by rw [hd];simp [a]
  simp [Frame.atR,this]
 rw [hfr2] at hs1
 have hx:Ext noMu κ (fun _=>False) W μ' ι' (fun _=>False) w2:=⟨hW.ext.mu,hW.ext.io,fun b o hi=>(x2.cell b o (hW.ext.io b o hi)).trans (hW.ext.cell b o hi),Nat.le_trans hW.ext.size x2.size,fun _ h=>h⟩
 have hF2:Fr P G w0 μ' ι' (fun _=>False) s' w2 fn.ntmps e' a':=⟨hN.ext I2 hx,fun t=>(hF'.re t).mono x2.cell (fun _ _ h=>h) (fun _ _ h=>h),hF'.size⟩
 obtain ⟨x,hres,hrv⟩:=res_run (c:=⟨P,G,refs,fn.ntmps⟩) rfl hlrs hF2 hv
 refine ⟨.returned x,w2,{ ({ b.atR a' todo with mode:=FrameMode.returning } : Frame) with defers:=[] },⟨v,x,μ',ι',rfl,q,I2.below,hrv⟩,?_,rfl,⟨rfl,rfl,rfl,fn,hf,hres⟩⟩
 rw [hfr]
 exact Steps.trans hs1 hs2
theorem calls_fn {refs : List Nat} {f : FuncId} {fn : Func} {lf : LFunc} {args : List LV} {Q : LV → Prop} {κ : Io} (hG : G = []) (hf : P.funcs[f]? = some fn) (hn : (fn.name == "runtime.NumGoroutine") = false)
  (hc:compFunc P G refs fn=some lf) (hlen:args.length≤lf.ntmps)
  (h:CodeOk P G false lf.ntmps lf.body (envOf args) St.empty (fun o e s'=>(o = .normal∨o = .jmp .ret)∧∃ v,resVal lf.results e s'=some v∧Q v))
  {vargs:Array Value} (hκ:∀ b o,κ b o→∃ v,W.cell? ⟨b,o,none⟩=some v) (hvl:vargs.size=args.length) (hva:∀ i,i<args.length→Rv noMu κ W (args.getD i .top) (vargs.getD i undef)) :
  Calls P f vargs W fun e W'=>∃ lv v μ' ι',e = .returned v∧Q lv∧Below W.heap.size W W'∧Rv μ' ι' W' lv v:=
 calls_fnG (fun x hx=>by rw [hG] at hx;cases hx) hf hn hc hlen h hκ hvl hva (by rw [hG];rfl)
end
end Go.Pv
end
section
set_option linter.unusedSimpArgs false
set_option linter.unusedVariables false
namespace Go.Pv
open Go Go.RowKit Go.ChangeShapes Go.WideShapes
section
variable {P:Program} {H:Type} {enc:TypeId × Value→H} {W W':World}
theorem trodAll_stays (hl:laidOutB P=true) (hb:Below W.heap.size W W') {sp:Nat→Bool} : ∀ {ts:List TypeId} {vs:List Value} {ds:List (DataW H)} {ps:List MemPlace},(∀ t∈ts,P.readableRec t=true∧t<P.types.size) →
  DataW.TrodAll enc P W 0 (fun _=>true) true ts vs ds ps→(∀ p∈ps,p.block<W.heap.size)→(∀ p∈ps,sp p.block=true)→DataW.TrodAll enc P W' 0 sp true ts vs ds ps:=by
 intro ts
 induction ts with
 | nil=>
  intro vs ds ps _ h _ _
  obtain ⟨rfl,rfl,rfl⟩:=trodAll_nil h
  exact rfl
 | cons t ts ih=>
  intro vs ds ps hr h hlt hsp
  obtain ⟨v,vs',d,ds',p,q,rfl,rfl,rfl,h0,h1⟩:=trodAll_cons h
  exact ⟨p,q,WideElems.Trod_stays hl (hr t (by simp)).1 (hr t (by simp)).2 h0 (fun x hx=>hb.same (hlt x (by simp [hx]))) (fun x hx=>hsp x (by simp [hx])),
   ih (fun t ht=>hr t (by simp [ht])) h1 (fun x hx=>hlt x (by simp [hx])) (fun x hx=>hsp x (by simp [hx])),rfl⟩
theorem trodAll_len {base:Nat} {sp:Nat→Bool} {hd:Bool} : ∀ {ts:List TypeId} {vs:List Value} {ds:List (DataW H)} {ps:List MemPlace},DataW.TrodAll enc P W base sp hd ts vs ds ps→vs.length=ts.length∧ds.length=ts.length:=by
 intro ts
 induction ts with
 | nil=>intro vs ds ps h;obtain ⟨rfl,rfl,rfl⟩:=trodAll_nil h;exact ⟨rfl,rfl⟩
 | cons t ts ih=>
  intro vs ds ps h
  obtain ⟨v,vs',d,ds',p,q,rfl,rfl,rfl,h0,h1⟩:=trodAll_cons h
  have:=ih h1
  exact ⟨by simp [this.1],by simp [this.2]⟩
theorem post_true {f:Func} {s:ChangeSpec} {apart fresh handsOn again:Bool} {args:Array Value} {ds gs:List (DataW H)} {before:List MemPlace} {tb:TypeId}
  (hW:DataW.Whole enc P f.params.toList s.vars apart W args.toList ds gs before) (hv:s.vars=[]) (hspec:∀ ds:List (DataW H),ds.length=f.params.size→s.fn H ds = { results:=[.lit (.bool true)],args:=ds })
  (hr:f.resultTypes = #[tb]) (htb:P.underlying tb=some .bool) (hl:laidOutB P=true) (hts:∀ t∈f.params.toList,P.readableRec t=true∧t<P.types.size) (hb:Below W.heap.size W W') :
  s.post enc P f apart fresh handsOn again W args (.bool true) W':=by
 have hW':=hW
 obtain ⟨p,q,hA,hV,rfl,hz,hn⟩:=hW
 rw [hv] at hV
 obtain ⟨rfl,rfl⟩:=trodVars_none hV
 have hlen:=(trodAll_len hA).2
 have hsp:=hspec ds (by simpa using hlen)
 have hlt:∀ x∈p,x.block<W.heap.size:=fun x hx=>hW'.lt x (by simpa using hx)
 have hres:∀ (b:Nat) (sp:Nat→Bool) (hd:Bool),DataW.TrodAll enc P W' b sp hd f.resultTypes.toList ((Value.bool true).resultList f.resultTypes.size) (s.fn H (ds++[])).results []:=fun b sp hd=>by
  rw [List.append_nil,hsp,hr]
  exact trodAll_cons_mk (shut_bool htb _) trodAll_mk0
 have hargs:∀ sp:Nat→Bool,(∀ x∈p,sp x.block=true)→DataW.TrodAll enc P W' 0 sp true f.params.toList args.toList (s.fn H (ds++[])).args p:=fun sp hs=>by
  rw [List.append_nil,hsp]
  exact trodAll_stays hl hb hts hA hlt hs
 have hvars:∀ sp:Nat→Bool,DataW.TrodVars enc P W' sp s.vars (s.fn H (ds++[])).vars []:=fun sp=>by
  rw [List.append_nil,hsp,hv]
  rfl
 have hold:∀ x∈p++[],(fun b=>decide (b<W.heap.size)) x.block=true:=fun x hx=>by simpa using hW'.lt x hx
 refine ⟨ds,[],p++[],[],p,[],hW',hres _ _ _,hargs _ (fun x hx=>hold x (by simpa using hx)),hvars _,World.keptBut_mono (fun x hx=>⟨hx,by simpa using hx⟩) (hb.frame _),fun _=>?_⟩
 refine ⟨ok_one hr rfl (okWide_bool_mk htb _),_,_,([]++p)++[],⟨[]++p,[],trodAll_append (hargs _ (fun _ _=>rfl)) (hres _ _ _),hvars _,rfl,?_,?_⟩,?_⟩
 ·intro b off hp
  have hm:MemPlace.cell b off∈p:=by simpa using hp
  rw [hb.frozen (p:=⟨b,off,none⟩) (hlt _ hm)]
  exact hz b off (by simpa using hm)
 ·intro ha
  have:=hn ha
  simpa using this
 ·intro x hx _
  simpa using hx
def LawOk (P:Program) (k:Nat) (args:List LV):Prop:=
 ∃ fn refs lf, P.funcs[k]? = some fn ∧ (fn.name == "runtime.NumGoroutine") = false ∧ compFunc P [] refs fn = some lf ∧ args.length ≤ lf.ntmps ∧
  CodeOk P [] false lf.ntmps lf.body (envOf args) St.empty (fun o e s'=>(o = .normal∨o = .jmp .ret)∧resVal lf.results e s'=some (.bool true))
theorem Rv.strict {μ:Mu} {ι:Io} {w:World} {v:LV} {x:Value} (h:Rv μ ι w v x):Rv μ (fun b o=>ι b o∧∃ u,w.cell? ⟨b,o,none⟩=some u) w v x:=by
 induction h with
 | top v=>exact .top v
 | bool b=>exact .bool b
 | int k n=>exact .int k n
 | str s=>exact .str s
 | agg hl _ ih=>exact .agg hl ih
 | tup hl _ ih=>exact .tup hl ih
 | nilp=>exact .nilp
 | pimm vs hc hi h1 _ ih=>exact .pimm vs hc (fun i h=>⟨hi i h,_,hc i h⟩) h1 ih
 | pref hp=>exact .pref hp
 | nils=>exact .nils
 | zs a=>exact .zs a
 | simm vs hc hi h1 _ hlc ih=>exact .simm vs hc (fun i h=>⟨hi i h,_,hc i h⟩) h1 ih hlc
 | sref hp hcap hlc had=>exact .sref hp hcap hlc had
 | fn hl hl' _ _ ih ih'=>exact .fn hl hl' ih ih'
 | nilf=>exact .nilf
 | yld hp=>exact .yld hp
 | ifc _ ih=>exact .ifc ih
 | nili=>exact .nili
 | nilm=>exact .nilm
 | mref hp=>exact .mref hp
theorem law_contract {k n:Nat} {f:Func} {s:ChangeSpec} {apart fresh handsOn again:Bool} {tb:TypeId} {base:Nat} {args:Array Value} {ds gs:List (DataW H)} {before:List MemPlace}
  (hv:s.vars=[]) (hspec:∀ ds:List (DataW H),ds.length=f.params.size→s.fn H ds = { results:=[.lit (.bool true)],args:=ds })
  (hr:f.resultTypes = #[tb]) (htb:P.underlying tb=some .bool) (hl:laidOutB P=true) (hts:∀ t∈f.params.toList,P.readableRec t=true∧t<P.types.size) (hrow:∀ t∈f.params.toList,(rowTy P n t).isSome=true)
  (hlaw:∀ lvs,HasArgs P n f.params.toList lvs→LawOk P k lvs)
  (hval:∀ (j:Nat) t v,f.params[j]? = some t→args[j]? = some v→Value.okWide P W .any base t v)
  (hW:DataW.Whole enc P f.params.toList s.vars apart W args.toList ds gs before) :
  Calls P k args W fun e W'=>∃ v,e = .returned v∧s.post enc P f apart fresh handsOn again W args v W':=by
 have hW':=hW
 obtain ⟨p,q,hA,hV,rfl,hz,hn⟩:=hW
 rw [hv] at hV
 obtain ⟨rfl,rfl⟩:=trodVars_none hV
 let κ:Io:=fun b o=>MemPlace.cell b o∈p∧∃ v,W.cell? ⟨b,o,none⟩=some v
 let κ0:Io:=fun b o=>MemPlace.cell b o∈p
 obtain ⟨lvs,h1,h2,h3⟩:=read_args (κ:=κ0) hrow hA (fun j t v hj hv=>hval j t v (by simpa using hj) (by simpa using hv)) (fun b o h=>h)
 obtain ⟨fn,refs,lf,g1,g2,g3,g4,g5⟩:=hlaw lvs h1
 have hκ:∀ b o,κ b o→∃ v,W.cell? ⟨b,o,none⟩=some v:=fun b o h=>h.2
 refine (calls_fn (Q:=fun v=>v = .bool true) (κ:=κ) rfl g1 g2 g3 g4 (CodeOk.mono g5 fun o e s' hh=>⟨hh.1,_,hh.2,rfl⟩) hκ (vargs:=args) (by rw [h2];simp) (fun i hi=>?_)).mono fun e W' hh=>?_
 ·have:=h3 i (by rw [← h2];exact hi)
  have hs:=this.strict
  simpa [List.getD_eq_getElem?_getD,Array.getD_eq_getD_getElem?] using hs
 ·obtain ⟨lv,v,μ',ι',rfl,rfl,hb,hrv⟩:=hh
  cases hrv
  exact ⟨_,rfl,post_true hW' hv hspec hr htb hl hts hb⟩
end
end Go.Pv
end
section
set_option linter.unusedSimpArgs false
set_option linter.unusedVariables false
namespace Go.Pv
open Go
section
variable {P:Program} {G:Globs}
def Later (p:Prop):Prop:=p
theorem Later.mk {p:Prop} (h:p):Later p:=h
def stepW (P:Program) (G:Globs) (fl:Bool) (o:LOp) (e:Env) (s:St) (R:LV→St→Prop):Prop:=
 match o with
 | .call f as=>CallOk P G (f.ev e) (as.map (·.ev e)) s fun v s=>Later (R v s)
 | .mnext x=>NextOk (x.ev e) s fun v s=>Later (R v s)
 | .bin op x y=>
  match binLV op (x.ev e) (y.ev e) with
  | some (.bool b0)=>∀ b,b0=b→Later (R (.bool b) s)
  | some v=>R v s
  | none=>False
 | .eq neg t x y=>
  match eqLV t (x.ev e) (y.ev e) with
  | some b0=>∀ b,(if neg then !b0 else b0)=b→Later (R (.bool b) s)
  | none=>False
 | o=>
  match o.run e s with
  | some (v,s')=>strictOk fl o e=true∧R v s'
  | none=>False
def wpOps (P:Program) (G:Globs) (K:Env→St→Prop):List LOper→Env→St→Prop
 | [],e,s=>K e s
 | o::l,e,s=>
  match wantedG o.guard e with
  | none=>False
  | some false=>wpOps P G K l (e.put o.dst (.tup [])) s
  | some true=>stepW P G o.fl o.op e s (fun v s'=>Chks o.chk (e.put o.dst v) s'∧wpOps P G K l (e.put o.dst v) s')
theorem stepW_ok {fl:Bool} {o:LOp} {e:Env} {s:St} {R:LV→St→Prop} (h:stepW P G fl o e s R):OpGo P G fl o e s R:=by
 cases o
 case call f as=>exact h
 case mnext x=>exact h
 case eqp n x y=>exact (show False from h).elim
 case bin op x y=>
  simp only [stepW] at h
  simp only [OpGo,LOp.run]
  split at h
  ·rename_i b0 hb
   rw [hb]
   exact ⟨rfl,h b0 rfl⟩
  ·rename_i v hne hv
   rw [hv]
   exact ⟨rfl,h⟩
  ·exact h.elim
 case eq neg t x y=>
  simp only [stepW] at h
  simp only [OpGo,LOp.run]
  split at h
  ·rename_i b0 hb
   rw [hb]
   exact ⟨rfl,h _ rfl⟩
  ·exact h.elim
 all_goals exact h
theorem wpOps_ok {K:Env→St→Prop} : ∀ {l:List LOper} {e:Env} {s:St},wpOps P G K l e s→Chain P G l e s K:=by
 intro l
 induction l with
 | nil=>intro e s h;exact h
 | cons o l ih=>
  intro e s h
  simp only [wpOps] at h
  simp only [Chain]
  cases hw:wantedG o.guard e with
  | none=>rw [hw] at h;exact h.elim
  | some b=>
   rw [hw] at h
   cases b with
   | false=>exact ih h
   | true=>exact (stepW_ok h).mono fun v s hh=>⟨hh.1,ih hh.2⟩
theorem pw_region (hm:P.follows .mixedOrders=true) {rd:Bool} {nt:Nat} {l:List LOper} {e:Env} {s:St} {Q:Out→Env→St→Prop} (h:wpOps P G (fun e s=>Q .normal e s) l e s):CodeOk P G rd nt (.region l) e s Q:=ok_region hm (wpOps_ok h)
theorem stepW_run {fl:Bool} {o:LOp} {e:Env} {s s':St} {v:LV} {R:LV→St→Prop} (hr:o.run e s=some (v,s')) (hs:strictOk fl o e=true) (h:R v s'):stepW P G fl o e s R:=by
 cases o
 case call f as=>cases hr
 case mnext x=>cases hr
 case bin op x y=>
  simp only [LOp.run,Option.bind_eq_bind,Option.bind_eq_some_iff,Option.some.injEq,Prod.mk.injEq] at hr
  obtain ⟨a,ha,rfl,rfl⟩:=hr
  simp only [stepW,ha]
  split
  ·rename_i b0 heq
   cases heq
   intro b hb;subst hb;exact h
  ·rename_i heq;cases heq;exact h
  ·rename_i heq;cases heq
 case eq neg t x y=>
  simp only [LOp.run,Option.bind_eq_bind,Option.bind_eq_some_iff,Option.some.injEq,Prod.mk.injEq] at hr
  obtain ⟨a,ha,rfl,rfl⟩:=hr
  simp only [stepW,ha]
  intro b hb;subst hb;exact h
 all_goals (simp only [stepW,hr];exact ⟨hs,h⟩)
theorem pw_run0 {d:Nat} {op:LOp} {l:List LOper} {K:Env→St→Prop} {e:Env} {s s':St} {v:LV} (hr:op.run e s=some (v,s')) (h:wpOps P G K l (Tr.set e d v) s'):wpOps P G K (⟨some d,op,none,[],false⟩::l) e s:=by
 simp only [wpOps,wantedG]
 exact stepW_run hr (by unfold strictOk;split<;>simp) ⟨trivial,h⟩
theorem pw_runF {o:LOper} {l:List LOper} {K:Env→St→Prop} {e:Env} {s s':St} {v:LV} (hg:wantedG o.guard e=some true) (hr:o.op.run e s=some (v,s')) (hs:strictOk o.fl o.op e=true) (hc:Chks o.chk (e.put o.dst v) s') (h:wpOps P G K l (e.put o.dst v) s'):wpOps P G K (o::l) e s:=by
 simp only [wpOps,hg]
 exact stepW_run hr hs ⟨hc,h⟩
theorem pw_skipF {o:LOper} {l:List LOper} {K:Env→St→Prop} {e:Env} {s:St} (hg:wantedG o.guard e=some false) (h:wpOps P G K l (e.put o.dst (.tup [])) s):wpOps P G K (o::l) e s:=by
 simp only [wpOps,hg]
 exact h
theorem pw_binF {d:Nat} {op:BinOp} {x y:Opd} {g:Option (Nat × Bool)} {fl:Bool} {l:List LOper} {K:Env→St→Prop} {e:Env} {s:St} {b0:Bool} (hg:wantedG g e=some true) (hr:binLV op (x.ev e) (y.ev e)=some (.bool b0))
  (h:∀ b,b0=b→wpOps P G K l (Tr.set e d (.bool b)) s):wpOps P G K (⟨some d, .bin op x y,g,[],fl⟩::l) e s:=by
 simp only [wpOps,hg,stepW,hr]
 intro b hb
 exact ⟨trivial,h b hb⟩
theorem pw_eqF {d:Nat} {neg:Bool} {t:EqTy} {x y:Opd} {g:Option (Nat × Bool)} {fl:Bool} {l:List LOper} {K:Env→St→Prop} {e:Env} {s:St} {b0:Bool} (hg:wantedG g e=some true) (hr:eqLV t (x.ev e) (y.ev e)=some b0)
  (h:∀ b,(if neg then !b0 else b0)=b→wpOps P G K l (Tr.set e d (.bool b)) s):wpOps P G K (⟨some d, .eq neg t x y,g,[],fl⟩::l) e s:=by
 simp only [wpOps,hg,stepW,hr]
 intro b hb
 exact ⟨trivial,h b hb⟩
theorem pw_callF {o:LOper} {f:Opd} {as:List Opd} {l:List LOper} {K:Env→St→Prop} {e:Env} {s:St} (ho:o.op = .call f as) (hg:wantedG o.guard e=some true)
  (h:CallOk P G (f.ev e) (as.map (·.ev e)) s (fun v s'=>Chks o.chk (e.put o.dst v) s'∧wpOps P G K l (e.put o.dst v) s')):wpOps P G K (o::l) e s:=by
 simp only [wpOps,hg,ho,stepW]
 exact h
theorem pw_pure (hG:∀ x∈G,LV.closed.closedAll x.2=true) {dst:Option Nat} {g:Option (Nat × Bool)} {chk:List (Nat × Option (Nat × Bool) × LOp)} {fl:Bool} {as:List Opd} {vs:List LV} {fv r:LV} {l:List LOper} {K:Env→St→Prop} {e:Env} {s:St} (hp:PureOk P G fv vs r) (hg:wantedG g e=some true) (ha:as.map (·.ev e)=vs)
  (hc:Chks chk (e.put dst r) s) (h:wpOps P G K l (e.put dst r) s):wpOps P G K (⟨dst, .call (.c fv) as,g,chk,fl⟩::l) e s:=by
 refine pw_callF rfl hg ?_
 rw [ha]
 exact pure_call hG hp ⟨hc,h⟩
theorem pw_pureEx (hG:∀ x∈G,LV.closed.closedAll x.2=true) {dst:Option Nat} {g:Option (Nat × Bool)} {chk:List (Nat × Option (Nat × Bool) × LOp)} {fl:Bool} {as:List Opd} {vs:List LV} {fv:LV} {R:LV→Prop} {l:List LOper} {K:Env→St→Prop} {e:Env} {s:St} (hp:PureEx P G fv vs R) (hg:wantedG g e=some true) (ha:as.map (·.ev e)=vs)
  (h:∀ r,R r→r.closed=true→Chks chk (e.put dst r) s∧wpOps P G K l (e.put dst r) s):wpOps P G K (⟨dst, .call (.c fv) as,g,chk,fl⟩::l) e s:=by
 refine pw_callF rfl hg ?_
 rw [ha]
 exact pure_callEx hG hp h
theorem pw_pureB (hG:∀ x∈G,LV.closed.closedAll x.2=true) {dst:Option Nat} {g:Option (Nat × Bool)} {chk:List (Nat × Option (Nat × Bool) × LOp)} {fl:Bool} {as:List Opd} {vs:List LV} {fv:LV} {b0:Bool} {l:List LOper} {K:Env→St→Prop} {e:Env} {s:St} (hp:PureOk P G fv vs (.bool b0)) (hg:wantedG g e=some true) (ha:as.map (·.ev e)=vs)
  (h:∀ b,b0=b→Chks chk (e.put dst (.bool b)) s∧wpOps P G K l (e.put dst (.bool b)) s):wpOps P G K (⟨dst, .call (.c fv) as,g,chk,fl⟩::l) e s:=by
 refine pw_callF rfl hg ?_
 rw [ha]
 exact pure_call hG hp (h b0 rfl)
theorem pw_condT {rd:Bool} {nt:Nat} {x:Opd} {a b:LCode} {e:Env} {s:St} {Q:Out→Env→St→Prop} (hx:x.ev e = .bool true) (h:CodeOk P G rd nt a e s Q):CodeOk P G rd nt (.cond x a b) e s Q:=ok_cond hx h
theorem pw_condF {rd:Bool} {nt:Nat} {x:Opd} {a b:LCode} {e:Env} {s:St} {Q:Out→Env→St→Prop} (hx:x.ev e = .bool false) (h:CodeOk P G rd nt b e s Q):CodeOk P G rd nt (.cond x a b) e s Q:=ok_cond hx h
inductive Sl:LV→List LV→Nat→Prop
 | nil:Sl .nils [] 0
 | zs:Sl .zs [] 0
 | simm (cs:List LV) (n:Nat):Sl (.simm cs n) cs n
theorem Sl.len {v:LV} {cs:List LV} {n:Nat} (h:Sl v cs n):slLen v=some n:=by cases h<;>rfl
theorem Sl.closed {v:LV} {cs:List LV} {n:Nat} (h:Sl v cs n) (hc:LV.closed.closedAll cs=true):v.closed=true:=by cases h<;>simp [LV.closed,hc]
theorem Sl.pos {v:LV} {cs:List LV} {n:Nat} (h:Sl v cs n) (hn:0<n):v = .simm cs n:=by cases h<;>first | rfl | omega
theorem Sl.cell {v:LV} {cs:List LV} {n:Nat} (h:Sl v cs n):isCell v=true:=by cases h<;>rfl
theorem frz_closed {n:Nat} {v:LV} {s:St} (h:v.closed=true):frz (n+1) v s=some (v,s):=by unfold frz;simp [h]
theorem frzD_closed {v:LV} {s:St} (h:v.closed=true):frz frzDepth v s=some (v,s):=frz_closed h
theorem pure_fn {k : Nat} {fn : Func} {refs : List Nat} {lf : LFunc} {args : List LV} {r : LV} (hm : P.follows .mixedOrders = true) (hf : P.funcs[k]? = some fn) (hn : (fn.name == "runtime.NumGoroutine") = false) (hc : compFunc P G refs fn = some lf)
  (hlen:args.length≤lf.ntmps) (ha:LV.closed.closedAll args=true) (hr:r.closed=true)
  (h:CodeOk P G false lf.ntmps lf.body (envOf args) St.empty (fun o e s=>(o = .normal∨o = .jmp .ret)∧∃ v,resVal lf.results e s=some v∧∃ s',frz frzDepth v s=some (r,s'))):PureOk P G (.fn (.func k) [] []) args r:=
 ⟨rfl,ha,hr,call_fn (first:=[]) (caps:=[]) hf hn hc (by simpa using hlen) (by simpa using h)⟩
theorem pure_tmp {k : Nat} {fn : Func} {refs : List Nat} {lf : LFunc} {args : List LV} {r : LV} {t : Nat} (hm : P.follows .mixedOrders = true) (hf : P.funcs[k]? = some fn) (hn : (fn.name == "runtime.NumGoroutine") = false) (hc : compFunc P G refs fn = some lf)
  (hlen:args.length≤lf.ntmps) (ha:LV.closed.closedAll args=true) (hr:r.closed=true) (ht:lf.results=[.tmp t])
  (h:CodeOk P G false lf.ntmps lf.body (envOf args) St.empty (fun o e s=>(o = .normal∨o = .jmp .ret)∧e.at t=r)):PureOk P G (.fn (.func k) [] []) args r:=
 pure_fn hm hf hn hc hlen ha hr (CodeOk.mono h fun o e s hh=>⟨hh.1,r,by rw [ht];simp [resVal,resOne,hh.2],s,frzD_closed hr⟩)
theorem pureEx_tmp {k : Nat} {fn : Func} {refs : List Nat} {lf : LFunc} {args : List LV} {R : LV → Prop} {t : Nat} (hm : P.follows .mixedOrders = true) (hf : P.funcs[k]? = some fn) (hn : (fn.name == "runtime.NumGoroutine") = false) (hc : compFunc P G refs fn = some lf)
  (hlen:args.length≤lf.ntmps) (ha:LV.closed.closedAll args=true) (ht:lf.results=[.tmp t])
  (h:CodeOk P G false lf.ntmps lf.body (envOf args) St.empty (fun o e s=>(o = .normal∨o = .jmp .ret)∧∃ r s',frz frzDepth (e.at t) s=some (r,s')∧r.closed=true∧R r)):PureEx P G (.fn (.func k) [] []) args R:=
 ⟨rfl,ha,call_fn (first:=[]) (caps:=[]) hf hn hc (by simpa using hlen) (by
  have h':=CodeOk.mono h (Q':=fun o e s=>(o = .normal∨o = .jmp .ret)∧∃ v,resVal lf.results e s=some v∧∃ r s',frz frzDepth v s=some (r,s')∧r.closed=true∧R r) (fun o e s hh=>⟨hh.1,e.at t,by rw [ht];simp [resVal,resOne],hh.2⟩)
  simpa using h')⟩
end
end Go.Pv
end
section
set_option linter.unusedSimpArgs false
set_option linter.unusedVariables false
namespace Go.Pv
open Go
def ints (l:List Int):List LV:=l.map (LV.int .i64)
@[simp] theorem ints_length (l:List Int):(ints l).length=l.length:=by simp [ints]
theorem ints_closed (l:List Int):LV.closed.closedAll (ints l)=true:=by
 induction l with
 | nil=>rfl
 | cons x l ih=>simpa [ints,LV.closed.closedAll,LV.closed] using ih
theorem ints_get {l:List Int} {i:Nat} (h:(i:Int)<(l.length:Int)):(ints l)[i]? = some (.int .i64 (l.getD i 0)):=by
 have h:i<l.length:=by omega
 simp [ints,List.getD_eq_getElem?_getD,h]
def inI64 (x:Int):Prop:=-9223372036854775808≤x∧x≤9223372036854775807
structure IsInts (v:LV) (l:List Int):Prop where
 sl:Sl v (ints l) l.length
 len:l.length≤maxLen
 rng:∀ x∈l,inI64 x
structure IsRows (v:LV) (ls:List (List Int)) (vs:List LV):Prop where
 sl:Sl v vs ls.length
 vlen:vs.length=ls.length
 len:ls.length≤maxLen
 row:∀ i,i<ls.length→IsInts (vs.getD i .top) (ls.getD i [])
theorem IsInts.closed {v:LV} {l:List Int} (h:IsInts v l):v.closed=true:=h.sl.closed (ints_closed l)
theorem closedAll_of:∀ {vs:List LV},(∀ i,i<vs.length→(vs.getD i .top).closed=true)→LV.closed.closedAll vs=true:=by
 intro vs
 induction vs with
 | nil=>intro _;rfl
 | cons v vs ih=>
  intro h
  simp only [LV.closed.closedAll,Bool.and_eq_true]
  exact ⟨by simpa using h 0 (by simp),ih fun i hi=>by simpa using h (i+1) (by simpa using hi)⟩
theorem IsRows.closed {v:LV} {ls:List (List Int)} {vs:List LV} (h:IsRows v ls vs):v.closed=true:=
 h.sl.closed (closedAll_of fun i hi=>(h.row i (by rw [← h.vlen];exact hi)).closed)
theorem IsRows.get {v:LV} {ls:List (List Int)} {vs:List LV} (h:IsRows v ls vs) {i:Nat} (hi:i<ls.length):vs[i]? = some (vs.getD i .top):=by
 rw [List.getD_eq_getElem?_getD,List.getElem?_eq_getElem (by rw [h.vlen];exact hi)];rfl
theorem isC_int (k:IntKind) (n:Int):isCell (.int k n)=true:=rfl
theorem isC_bool (b:Bool):isCell (.bool b)=true:=rfl
theorem isC_str (s:ByteArray):isCell (.str s)=true:=rfl
theorem isC_nils:isCell .nils=true:=rfl
theorem isC_zs:isCell .zs=true:=rfl
theorem isC_simm (cs:List LV) (n:Nat):isCell (.simm cs n)=true:=rfl
theorem isC_sref (i o n e:Nat):isCell (.sref i o n e)=true:=rfl
theorem isC_pref (i o:Nat):isCell (.pref i o)=true:=rfl
theorem isC_pimm (cs:List LV) (o:Nat):isCell (.pimm cs o)=true:=rfl
theorem isC_mref (i:Nat):isCell (.mref i)=true:=rfl
theorem isC_fn (f:Fn) (a b:List LV):isCell (.fn f a b)=true:=rfl
theorem cells_agg (cs:List LV):cells? (.agg cs)=if cs.all isCell then some cs else none:=rfl
theorem cells_cell {v:LV} (h:isCell v=true):cells? v=some [v]:=by cases v<;>first | rfl | cases h
def iaLV (esz:Nat) (v i:LV) (s:St):Option (LV × St) :=
 match v with
 | .simm cs len=>do let k ← idxOf len i;some (.pimm cs (k*esz),s)
 | .sref id off len es=>do let k ← idxOf len i;if es=esz then some (.pref id (off+k*esz),s) else none
 | _=>none
theorem run_iaddr (esz:Nat) (x i:Opd) (e:Env) (s:St):(LOp.iaddr esz x i).run e s=iaLV esz (x.ev e) (i.ev e) s:=rfl
theorem iaN {v:LV} {cs:List LV} {n:Nat} (h:Sl v cs n) {esz:Nat} {k:IntKind} {s:St} {i:Nat} (hi:(i:Int)<(n:Int)):iaLV esz v (.int k (i:Int)) s=some (.pimm cs (i*esz),s):=by
 have hi':i<n:=by omega
 rw [h.pos (by omega)]
 simp [iaLV,idxOf,hi']
theorem getD_mem {α:Type} {l:List α} {i:Nat} {d:α} (h:i<l.length):l.getD i d∈l:=by
 simp [List.getD_eq_getElem?_getD,h]
theorem hasC_ints {v:LV} (h:HasC (.sl [.int .i64]) v):∃ l,IsInts v l:=by
 cases h with
 | nil=>exact ⟨[], .nil,by simp,fun x hx=>by cases hx⟩
 | zs=>exact ⟨[], .zs,by simp,fun x hx=>by cases hx⟩
 | sl hn hs=>
  rename_i rows
  have key:∀ {rows:List (List LV)},HasRs [.int .i64] rows→∃ l:List Int,rows.flatten=ints l∧l.length=rows.length∧∀ x∈l,inI64 x:=by
   intro rows
   induction rows with
   | nil=>intro _;exact ⟨[],rfl,rfl,fun x hx=>by cases hx⟩
   | cons r rs ih=>
    intro h
    cases h with
    | cons h hs=>
     obtain ⟨l,h1,h2,h3⟩:=ih hs
     cases h with
     | cons h hn=>
      cases hn
      cases h with
      | int hw=>
       rename_i n
       refine ⟨n::l,by simp [ints,h1],by simp [h2],fun x hx=>?_⟩
       rcases List.mem_cons.1 hx with rfl | hx
       ·simpa [Lit.wf,IntKind.min,IntKind.max,IntKind.signed,IntKind.bits,inI64] using hw
       ·exact h3 x hx
  obtain ⟨l,h1,h2,h3⟩:=key hs
  refine ⟨l,?_,by rw [h2];exact hn,h3⟩
  rw [h1,← h2]
  exact .simm _ _
theorem hasC_int {v:LV} (h:HasC (.int .i64) v):∃ n,v = .int .i64 n∧inI64 n:=by
 cases h with
 | int hw=>exact ⟨_,rfl,by simpa [Lit.wf,IntKind.min,IntKind.max,IntKind.signed,IntKind.bits,inI64] using hw⟩
end Go.Pv
namespace Go.Pv
open Go
end Go.Pv
end
