/- From what a row says of its input to plain values, and from a plain run to what a row asks. -/
import Derived.Test.YtkbiecjdcjfhaaaGreatPvCall
import Derived.Carry
import Derived.ChangeArms
import Derived.ChangeSame
import Derived.Deep.Slices
import Derived.OpenShut
set_option linter.unusedSimpArgs false
set_option linter.unusedVariables false
set_option maxRecDepth 100000
set_option maxHeartbeats 16000000
section
namespace Go.Pv
open Go Go.RowKit Go.ChangeShapes Go.WideShapes
inductive CT where
  | bool
  | int (k:IntKind)
  | str
  | sl (es:List CT)
mutual
inductive u0:CT->LV->Prop
  | bool (b:Bool):u0 .bool (.bool b)
  | int {k:IntKind}{n:Int}(h:(Lit.int k n).wf=true):u0 (.int k) (.int k n)
  | str (s:ByteArray) (h:s.size<=maxLen):u0 .str (.str s)
  | nil {es:List CT} : u0 (.sl es) .aq
  | zs {es:List CT} : u0 (.sl es) .zs
  | sl {es:List CT}{rows:List (List LV)}(hn:rows.length<=maxLen) (h:pz es rows):u0 (.sl es) (.aF rows.flatten rows.length)
inductive tO:List CT->List LV->Prop
  | nil:tO [] []
  | cons {c:CT}{v:LV}{cs:List CT}{vs:List LV}(h:u0 c v) (hs:tO cs vs):tO (c::cs) (v::vs)
inductive pz:List CT->List (List LV)->Prop
  | nil {es:List CT} : pz es []
  | cons {es:List CT}{r:List LV}{rs:List (List LV)}(h:tO es r) (hs:pz es rs):pz es (r::rs)
end
def uL (P:Program) (f:TypeId->Option (List CT)):List Field->Nat->Option (List CT)
 | [],_=>some []
 | fl::fs,off=>
   match f fl.type with
   | some r=>
     if fl.offset=off/\r.length=P.cellsOf fl.type then (match uL P f fs (off+r.length) with | some rs=>some (r++rs) | none=>none) else none
   | none=>none
def kL (P:Program):Nat->TypeId->Option (List CT)
 | 0,_=>none
 | n + 1, t =>
   match P.underlying t with
   | some .bool=>some [.bool]
   | some (.int k)=>some [.int k]
   | some .string=>some [.str]
   | some (.slice e) =>
     match kL P n e with
     | some r=>if r.length=P.cellsOf e/\0<r.length then some [.sl r] else none
     | none=>none
   | some (.struct fs) =>
     match uL P (kL P n) fs.toList 0 with
     | some r=>if r.length=P.cellsOf t then some r else none
     | none=>none
   | _=>none
theorem tO.length:∀ {cs:List CT}{vs:List LV},tO cs vs->vs.length=cs.length:=by
 intro cs;induction cs with
 | nil=>intro vs h;cases h;rfl
 | cons c cs ih=>intro vs h;cases h with | cons h hs=>simp[ih hs]
theorem tO.append:∀ {cs ds:List CT}{vs a:List LV},tO cs vs->tO ds a->tO (cs++ds) (vs++a):=by
 intro cs;induction cs with
 | nil=>intro ds vs a h k;cases h;exact k
 | cons c cs ih=>intro ds vs a h k;cases h with | cons h hs=>exact .cons h (ih hs k)
section
variable {P:Program}{G:bP}{H:Type}{enc:TypeId × Value->H}{W:World}
def vC:Mu:=λ_=>none
def Rd (κ:Io) (W:World) (a:List LV) (cs:List Value):Prop:=a.length=cs.length/\∀ i,i<cs.length->Rv vC κ W (a.getD i .top) (cs.getD i undef)/\(cs.getD i undef).oneCell'=true
theorem Rd.one {κ:Io}{v:LV}{x:Value}(h:Rv vC κ W v x) (h1:x.oneCell'=true):Rd κ W [v] [x] :=
 ⟨rfl,λi a=>by
  have h0:i=0:=by simpa using a
  subst h0;exact⟨by simpa using h,by simpa using h1⟩⟩
theorem Rd.append {κ:Io}{a b:List LV}{x y:List Value}(h:Rd κ W a x) (k:Rd κ W b y):Rd κ W (a++b) (x++y):=by
 refine⟨by simp[h.1,k.1],λi d=>?_⟩;by_cases hx:i<x.length
 ·have:=h.2 i hx;have c:i<a.length:=by rw[h.1];exact hx
  simpa[gD,List.getElem?_append_left hx,List.getElem?_append_left c] using this
 ·have e:i - x.length<y.length:=by simp at d;omega
  have:=k.2 _ e;have c:a.length<=i:=by rw[h.1];omega
  simpa[gD,List.getElem?_append_right (Nat.le_of_not_lt hx),List.getElem?_append_right c,h.1] using this
theorem FZ {α:Type}{rows:List (List α)}{m:Nat}(h:∀ r∈rows,r.length=m):rows.flatten.length=rows.length*m:=by
 induction rows with
 | nil=>simp
 | cons r rs ih=>
   rw[List.flatten_cons,List.length_append,ih (λx hx=>h x (by simp[hx])),h r (by simp),List.length_cons,Nat.add_mul,Nat.one_mul,Nat.add_comm]
theorem F0 {α:Type}{m:Nat} : ∀ {rows:List (List α)},(∀ r∈rows,r.length=m)->∀ i j,j<m->rows.flatten[i*m+j]? = (rows[i]?).bind (·[j]?):=by
 intro rows;induction rows with
 | nil=>intro _ i j _;simp
 | cons r rs ih=>
   intro h i j a;have b:=h r (by simp);cases i with
   | zero=>simp[List.getElem?_append_left (show j<r.length by omega)]
   | succ i=>
     have:(i+1)*m+j=r.length+(i*m+j):=by rw[Nat.add_mul,b];omega
     rw[this,List.flatten_cons,List.getElem?_append_right om,Nat.add_sub_cancel_left,ih (λx hx=>h x (by simp[hx])) i j a];simp
theorem zO {W:World}{base:Nat}{a:Addr}{n:Nat}{cs:List Value}(h:W.cells? base a n=some cs):cs.length=n/\∀ i,i<n->W.cell? (a.add i)=some (cs.getD i undef):=by
 unfold World.cells? at h;split at h
 ·obtain⟨h1,h2⟩:=Go.Pv.iU h;refine⟨by simpa using h1,λi c=>?_⟩;obtain⟨y,d,b⟩:=h2 i (by simpa using c);simp only[List.getElem_range]at b;rw[b,gD,d];rfl
 ·cases h
theorem pz.all {es:List CT} : ∀ {rows:List (List LV)},pz es rows↔∀ r∈rows,tO es r:=by
 intro rows;induction rows with
 | nil=>exact Iff.intro (λ_ r a=>absurd a List.not_mem_nil) (λ_=>pz.nil)
 | cons r rs ih=>
   constructor
   ·intro h x hx;cases h with
    | cons h hs=>
      rcases List.mem_cons.1 hx with rfl | hx
      ·exact h
      ·exact ih.1 hs x hx
   ·intro h;exact .cons (h r (by simp)) (ih.2 λx hx=>h x (by simp[hx]))
theorem OR {κ : Io} : ∀ {n : Nat}{t : TypeId}{row : List CT}, kL P n t = some row -> ∀ {l : Nat}{cs : List Value}{x : DataW H × List MemPlace}, DataW.trod enc P W 0 (λ_ => true) true l t cs = some x ->
 (∀ b o,MemPlace.cell b o∈x.2->κ b o)->∃ g,tO row g/\Rd κ W g cs:=by
 intro n;induction n with
 | zero=>intro t row h;cases h
 | succ n ih =>
   intro t row h l cs x hx F;unfold kL at h;split at h
   ·rename_i j;cases h;obtain⟨b,rfl,-⟩:=DataW.trod_bool j hx;exact⟨[.bool b], .cons (.bool b) .nil,Rd.one (.bool b) rfl⟩
   ·rename_i k j;cases h;obtain⟨n,rfl,-,I⟩:=DataW.trod_int j hx;exact⟨[.int k n], .cons (.int I) .nil,Rd.one (.int k n) rfl⟩
   ·rename_i j;cases h;obtain⟨s,rfl,-,I⟩:=DataW.trod_string j hx;exact⟨[.str s], .cons (.str s I) .nil,Rd.one (.str s) rfl⟩
   ·rename_i e j;split at h
    ·rename_i r J;split at h
     ·rename_i p;cases h;rcases Deep.open_slice j hx with⟨rfl,-⟩ | ⟨a,len,cap,m,U,D,Pl,rfl,hb,hl,ia,hm,rfl,Vf⟩
      ·exact⟨[.aq], .cons .nil .nil,Rd.one .aq rfl⟩
      ·simp only[if_true]at hm;subst hm;by_cases pH:m=0
       ·subst pH;obtain rfl:len=0:=by omega
        exact⟨[.zs], .cons .zs .nil,Rd.one (.zs a) rfl⟩
       ·have X:=p.1;have u:0<P.cellsOf e:=by omega
        have K:∀ i,i<m->∃ q:List LV × List Value,W.cells? 0 (a.add (i*P.cellsOf e)) (P.cellsOf e)=some q.2/\tO r q.1/\Rd κ W q.1 q.2:=λi d=>by
         obtain⟨L,h1,h2⟩:=Vf i d;obtain⟨g,h3,A⟩:=ih J h2 (λb o gb=>F b o (List.mem_append_right _ (List.mem_flatMap.2 ⟨i,List.mem_range.2 d,gb⟩)));exact⟨(g,L),h1,h3,A⟩
        obtain⟨Q,B⟩:=Deep.choose_lt K;have C:a.spot=none:=by
         have h0:=B 0 om;have:=(zO h0.1).2 0 u;simp only[Nat.zero_mul,Addr.add,if_true]at this;unfold World.cell? at this;split at this
         ·split at this
          ·cases this
          ·rename_i hs;simpa using hs
         ·cases this
        have Dg:∀ k,a.add k=⟨a.block,a.off+k,none⟩:=λk=>by
         unfold Addr.add;split
         ·rename_i h0;subst h0;cases a;simp at C;subst C;rfl
         ·rfl
        let c:=(List.range len).map λi=>(Q i).1;have Y:∀ q∈c,q.length=P.cellsOf e:=λq w=>by
         obtain⟨i,d,rfl⟩:=List.mem_map.1 w;rw[(B i (by have:=List.mem_range.1 d;omega)).2.1.length,X]
        have M:c.length=len:=by simp[c]
        have sK:=FZ Y;refine⟨[.aF c.flatten c.length], .cons (.sl (by rw[M];exact Nat.le_trans hl ia) (pz.all.2 λq w=>?_)) .nil,?_⟩
        ·obtain⟨i,d,rfl⟩:=List.mem_map.1 w;exact (B i (by have:=List.mem_range.1 d;omega)).2.1
        ·rw[M];have ha:a=⟨a.block,a.off,none⟩:=by cases a;simp at C;subst C;rfl
         have key:∀ i,i<c.flatten.length->∃ y:Value,W.cell? ⟨a.block,a.off+i,none⟩=some y/\Rv vC κ W (c.flatten.getD i .top) y/\y.oneCell'=true/\κ a.block (a.off+i):=λi d=>by
          rw[sK,M]at d;have N:=Nat.div_add_mod i (P.cellsOf e);have O:=Nat.mod_lt i u;have w:i / P.cellsOf e<len:=Nat.div_lt_of_lt_mul (by rw[Nat.mul_comm];exact d);obtain⟨h1,h2,h3⟩:=B (i / P.cellsOf e) om;obtain⟨g1,g2⟩:=zO h1;have A:=g2 (i % P.cellsOf e) O;have Z:=h3.2 (i % P.cellsOf e) (by rw[g1];exact O);have e1:i / P.cellsOf e*P.cellsOf e+i % P.cellsOf e=i:=by rw[Nat.mul_comm];exact N
          refine⟨_,?_,?_,Z.2,F _ _ (List.mem_append_left _ ?_)⟩
          ·rw[Deep.add_add,e1,Dg]at A;exact A
          ·have:=F0 Y (i / P.cellsOf e) (i % P.cellsOf e) O;rw[e1]at this;rw[gD,this];have:c[i / P.cellsOf e]? = some (Q (i / P.cellsOf e)).1:=by simp[c,w]
           rw[this];have h6:=Z.1;rw[gD]at h6;exact h6
          ·refine List.mem_map.2 ⟨i,List.mem_range.2 ?_,rfl⟩;exact Nat.lt_of_lt_of_le d (Nat.mul_le_mul_right _ hl)
         obtain⟨V,E⟩:=Deep.choose_lt (α:=Value) (n:=c.flatten.length) key;rw[ha];exact Rd.one (.aF V (λi d=>(E i d).1) (λi d=>(E i d).2.2.2) (λi d=>(E i d).2.2.1) (λi d=>(E i d).2.1) hl) rfl
     ·cases h
    ·cases h
   ·rename_i fs j;split at h
    ·rename_i r J;split at h
     ·rename_i p;cases h;obtain⟨xs,U,-,rfl,X,Kw,hf⟩:=DataW.trod_struct j hx;have key : ∀ (fl : List Field) (off : Nat) (r : List CT) (v : List (DataW H × List MemPlace)), uL P (kL P n) fl off = some r -> (∀ (i : Nat) f, fl[i]? = some f -> DataW.trod enc P W 0 (λ_ => true) true U f.type ((cs.drop f.offset).take (P.cellsOf f.type)) = v[i]?) ->
       v.length=fl.length->(∀ b o,MemPlace.cell b o∈v.flatMap (·.2)->κ b o)->off+r.length<=cs.length->∃ g,tO r g/\Rd κ W g ((cs.drop off).take r.length):=by
       intro fl;induction fl with
       | nil=>
         intro off r v h _ _ _ _;cases h;exact⟨[], .nil,by simp[Rd]⟩
       | cons f fl R=>
         intro off r v h z S hk T;simp only[uL]at h;split at h
         ·rename_i r1 nT;split at h
          ·rename_i hc;split at h
           ·rename_i r2 vj;cases h;obtain⟨uE,kO⟩:=hc;match v,S with
            | y :: v, S =>
              have hy:=z 0 f rfl;simp only[List.getElem?_cons_zero]at hy;obtain⟨l1,g1,g2⟩:=ih nT hy (λb o hm=>hk b o (by simp[hm]));simp only[List.length_append]at T;obtain⟨l2,g3,g4⟩:=R (off+r1.length) r2 v vj (λi f' d=>by simpa using z (i+1) f' (by simpa using d)) (by simpa using S)
               (λb o hm=>hk b o (by simp only[List.flatMap_cons,List.mem_append];exact .inr hm)) om
              refine⟨l1++l2,g1.append g3,?_⟩;have:(cs.drop off).take (r1++r2).length=(cs.drop off).take r1.length++(cs.drop (off+r1.length)).take r2.length:=by
               rw[List.length_append,List.take_add,List.drop_drop]
              rw[this];rw[uE,<- kO]at g2;exact g2.append g4
           ·cases h
          ·cases h
         ·cases h
      obtain⟨g,g1,g2⟩:=key fs.toList 0 row xs J (λi f d=>hf i f (by simpa using d)) (by simpa using Kw) F om;refine⟨g,g1,?_⟩;rw[List.drop_zero,List.take_of_length_le om]at g2;exact g2
     ·cases h
    ·cases h
   ·cases h
def tP (P:Program) (n:Nat) (t:TypeId) (v:LV):Prop:=
 ∃ row a,kL P n t=some row/\tO row a/\(match P.underlying t with | some (.struct _)=>v = .agg a | _=>a=[v])
theorem OS {κ:Io}{n:Nat}{t:TypeId}{row:List CT}(g:kL P n t=some row) {base:Nat}{v:Value}(f:Value.okWide P W .any base t v) {d:DataW H}{ps:List MemPlace}(h:DataW.Trod enc P W 0 (λ_=>true) true t v d ps)
 (q:∀ b o,MemPlace.cell b o∈ps->κ b o):∃ lv,tP P n t lv/\Rv vC κ W lv v:=by
 obtain⟨p,r⟩:=h;obtain⟨m,h1,h2⟩:=OR g r q;have l:(∀ x,v≠.agg x)->(∀ fs,P.underlying t≠some (.struct fs))->∃ lv,tP P n t lv/\Rv vC κ W lv v:=λs hs=>by
  have u:v.cells.toList=[v]:=by
   cases v<;>first | rfl | exact absurd rfl (s _)
  rw[u]at h2;match m,h2.1 with
  | [lv],_=>
    refine⟨lv,⟨row,[lv],g,h1,?_⟩,by simpa using (h2.2 0 (by simp)).1⟩;split
    ·rename_i fs c;exact absurd c (hs fs)
    ·rfl
 cases n with
 | zero=>cases g
 | succ n=>
   have j:=g;unfold kL at g;unfold Value.okWide at f;split at g
   ·rename_i a;rw[a]at f;refine l (λx=>?_) (λfs c=>by rw[a]at c;cases c);rintro rfl;simp[Cell.okWide,a,Cell.ok]at f
   ·rename_i k a;rw[a]at f;refine l (λx=>?_) (λfs c=>by rw[a]at c;cases c);rintro rfl;simp[Cell.okWide,a,Cell.ok]at f
   ·rename_i a;rw[a]at f;refine l (λx=>?_) (λfs c=>by rw[a]at c;cases c);rintro rfl;simp[Cell.okWide,a,Cell.ok]at f
   ·rename_i e a;rw[a]at f;refine l (λx=>?_) (λfs c=>by rw[a]at c;cases c);rintro rfl;simp[Cell.okWide,a,Cell.ok]at f
   ·rename_i fs a;rw[a]at f;obtain⟨cs,rfl,-,-⟩:=f;refine⟨.agg m,⟨row,m,j,h1,by rw[a]⟩, .agg (by have:=h2.1;simpa[Value.cells] using this.symm) λi w=>?_⟩;have:=(h2.2 i (by rw[<- h2.1];exact w)).1;simpa[Value.cells,gD,gF] using this
   ·cases g
inductive sj (P:Program) (n:Nat):List TypeId->List LV->Prop
  | nil:sj P n [] []
  | cons {t:TypeId}{v:LV}{ts:List TypeId}{vs:List LV}(h:tP P n t v) (hs:sj P n ts vs):sj P n (t::ts) (v::vs)
theorem LF {κ:Io}{n base:Nat} : ∀ {a:List TypeId}{vs:List Value}{ds:List (DataW H)}{ps:List MemPlace},(∀ t∈a,(kL P n t).isSome=true)->DataW.TrodAll enc P W 0 (λ_=>true) true a vs ds ps ->
 (∀ (j:Nat) t v,a[j]? = some t->vs[j]? = some v->Value.okWide P W .any base t v)->(∀ b o,MemPlace.cell b o∈ps->κ b o) ->
 ∃ c,sj P n a c/\c.length=vs.length/\∀ i,i<vs.length->Rv vC κ W (c.getD i .top) (vs.getD i undef):=by
 intro a;induction a with
 | nil=>
   intro vs ds ps _ h _ _;obtain⟨rfl,rfl,rfl⟩:=trodAll_nil h;exact⟨[], .nil,rfl,λi e=>absurd e (Nat.not_lt_zero _)⟩
 | cons t a ih=>
   intro vs ds ps g h k l;obtain⟨v,m,d,r,p,q,rfl,rfl,rfl,h0,h1⟩:=trodAll_cons h;obtain⟨row,s⟩:=Option.isSome_iff_exists.1 (g t (by simp));obtain⟨lv,g1,g2⟩:=OS s (k 0 t v rfl rfl) h0 (λb o hm=>l b o (by simp[hm]));obtain⟨c,u,w,x⟩:=ih (λt y=>g t (by simp[y])) h1 (λj t v z f=>k (j+1) t v (by simpa using z) (by simpa using f)) (λb o hm=>l b o (by simp[hm]));refine⟨lv::c, .cons g1 u,by simp[w],λi e=>?_⟩;cases i with
   | zero=>simpa using g2
   | succ i=>simpa using x i (by simpa using e)
theorem Nc {refs : List Nat}{f : FuncId}{fn : Func}{lf : bh}{args : List LV}{Q : LV -> Prop}{κ : Io}(hglob : ∀ x ∈ G, Rv vC κ W (.aY x.2 0) (.pointer (some ⟨x.1, 0, none⟩))) (hf : P.funcs[f]? = some fn) (hn : (fn.name == "runtime.NumGoroutine") = false)
 (hc:aL P G refs fn=some lf) (hlen:args.length<=lf.ntmps)
 (h:aX P G false lf.ntmps lf.body (fm args) St.empty (λo e s'=>(o = .normal∨o = .jmp .ret)/\∃ v,aW lf.results e s'=some v/\Q v))
 {cx:Array Value}(Ib:∀ b o,κ b o->∃ v,W.cell? ⟨b,o,none⟩=some v) (jQ:cx.size=args.length) (wW:∀ i,i<args.length->Rv vC κ W (args.getD i .top) (cx.getD i undef)) (hown:CF G=false) :
 Calls P f cx W λe W'=>∃ lv v b8 ck,e = .returned v/\Q lv/\Below W.heap.size W W'/\Rv b8 ck W' lv v:=by
 intro cs;unfold aL at hc;obtain⟨body,wC,hc⟩:=bind_some hc;obtain⟨Um,QT,hc⟩:=bind_some hc;cases hc;let w0:Bs:=⟨W,κ⟩;have hN:Du P G w0 vC κ (λ_=>False) St.empty W:=by
  refine⟨⟨Below.refl _ _,λid p hp=>(by cases hp),Ib,λid b p _ hp=>(by cases hp),λ_ _ _ _ _ _ hb=>(by cases hb),λ_ hr=>hr.elim,λb o hi _=>hi,λb o hi hb=>by obtain⟨v,hv⟩:=Ib b o hi;have:=uU hv;exact absurd hb (by show ¬ W.heap.size<=b;omega)⟩,hglob,λho=>by rw[hown]at ho;cases ho⟩
 let b:Frame:={ (default:Frame) with fn:=f,kind:=.normal,roundOf:=none };let a:Act:={ tmps:=cx++Array.replicate (fn.ntmps - cx.size) undef,defers:=[] };have xF:Frame.enter P f cx .normal=b.atR a [.code body]:=by
  simp[Frame.enter,Frame.atR,hf,wC,a,b]
 have hF:Fr P G w0 vC κ (λ_=>False) St.empty W fn.ntmps (fm args) a:=by
  refine⟨hN,λt=>?_,by simp only[a,Array.size_append,Array.size_replicate];simp only at hlen;omega⟩;rw[bS];by_cases ht:t<args.length
  ·have:=wW t ht;have hx:a.tmps.getD t undef=cx.getD t undef:=by
    simp only[a,gF];rw[Array.getElem?_append_left om]
   rw[hx];exact this
  ·rw[gD,List.getElem?_eq_none om];exact .top _
 obtain⟨o,e',s',b8,ck,mI,w1,a',⟨ho,v,hv,q⟩,jl,hF',hW⟩:=h body ⟨refs,rfl⟩ w0 vC κ (λ_=>False) W b a [] cs rfl hF;have w4:∃ todo,Steps P (lone (b.atR a [.code body]) cs W) (lone { b.atR a' todo with mode:=.returning } cs w1):=by
  rcases ho with rfl | rfl
  ·exact⟨[],Steps.trans jl (.one (stepR_end rfl))⟩
  ·obtain⟨k',jl⟩:=jl;exact⟨_,Steps.trans jl (.one (stepR_ret rfl))⟩
 obtain⟨todo,kU⟩:=w4;obtain⟨rs,hd,fM,Zf,YF⟩:=hW.marks;obtain⟨w2,tF,I2,x2⟩:=tV (P:=P) (fr:={ b.atR a' todo with mode:=.returning }) (cs:=cs) rfl rs mI w1 fM Zf YF hF'.now.inv;have ZO:{ b.atR a' todo with mode:=FrameMode.returning } = { ({ b.atR a' todo with mode:=FrameMode.returning } : Frame) with defers:=rs.map mark } := by
  have:a'.defers=rs.map mark:=by rw[hd];simp[a]
  simp[Frame.atR,this]
 rw[ZO]at kU;have hx:Ext vC κ (λ_=>False) W b8 ck (λ_=>False) w2:=⟨hW.ext.mu,hW.ext.io,λb o hi=>(x2.cell b o (hW.ext.io b o hi)).trans (hW.ext.cell b o hi),Nat.le_trans hW.ext.size x2.size,λ_ h=>h⟩;have KR:Fr P G w0 b8 ck (λ_=>False) s' w2 fn.ntmps e' a':=⟨hN.ext I2 hx,λt=>(hF'.re t).mono x2.cell (λ_ _ h=>h) (λ_ _ h=>h),hF'.size⟩;obtain⟨x,sC,ij⟩:=JG (c:=⟨P,G,refs,fn.ntmps⟩) rfl QT KR hv;refine⟨.returned x,w2,{ ({ b.atR a' todo with mode:=FrameMode.returning } : Frame) with defers:=[] },⟨v,x,b8,ck,rfl,q,I2.below,ij⟩,?_,rfl,⟨rfl,rfl,rfl,fn,hf,sC⟩⟩;rw[xF];exact Steps.trans kU tF
theorem Se {refs : List Nat}{f : FuncId}{fn : Func}{lf : bh}{args : List LV}{Q : LV -> Prop}{κ : Io}(hG : G = []) (hf : P.funcs[f]? = some fn) (hn : (fn.name == "runtime.NumGoroutine") = false)
 (hc:aL P G refs fn=some lf) (hlen:args.length<=lf.ntmps)
 (h:aX P G false lf.ntmps lf.body (fm args) St.empty (λo e s'=>(o = .normal∨o = .jmp .ret)/\∃ v,aW lf.results e s'=some v/\Q v))
 {cx:Array Value}(Ib:∀ b o,κ b o->∃ v,W.cell? ⟨b,o,none⟩=some v) (jQ:cx.size=args.length) (wW:∀ i,i<args.length->Rv vC κ W (args.getD i .top) (cx.getD i undef)) :
 Calls P f cx W λe W'=>∃ lv v b8 ck,e = .returned v/\Q lv/\Below W.heap.size W W'/\Rv b8 ck W' lv v:=
 Nc (λx hx=>by rw[hG]at hx;cases hx) hf hn hc hlen h Ib jQ wW (by rw[hG];rfl)
end
section
variable {P:Program}{H:Type}{enc:TypeId × Value->H}{W W':World}
theorem Ao (hl:laidOutB P=true) (g:Below W.heap.size W W') {c:Nat->Bool} : ∀ {a:List TypeId}{vs:List Value}{ds:List (DataW H)}{ps:List MemPlace},(∀ t∈a,P.readableRec t=true/\t<P.types.size) ->
 DataW.TrodAll enc P W 0 (λ_=>true) true a vs ds ps->(∀ p∈ps,p.block<W.heap.size)->(∀ p∈ps,c p.block=true)->DataW.TrodAll enc P W' 0 c true a vs ds ps:=by
 intro a;induction a with
 | nil=>
   intro vs ds ps _ h _ _;obtain⟨rfl,rfl,rfl⟩:=trodAll_nil h;exact rfl
 | cons t a ih=>
   intro vs ds ps b h e f;obtain⟨v,i,d,j,p,q,rfl,rfl,rfl,h0,h1⟩:=trodAll_cons h;exact⟨p,q,WideElems.Trod_stays hl (b t (by simp)).1 (b t (by simp)).2 h0 (λx hx=>g.same (e x (by simp[hx]))) (λx hx=>f x (by simp[hx])),
    ih (λt k=>b t (by simp[k])) h1 (λx hx=>e x (by simp[hx])) (λx hx=>f x (by simp[hx])),rfl⟩
theorem D2 {base:Nat}{b:Nat->Bool}{c:Bool} : ∀ {a:List TypeId}{vs:List Value}{ds:List (DataW H)}{ps:List MemPlace},DataW.TrodAll enc P W base b c a vs ds ps->vs.length=a.length/\ds.length=a.length:=by
 intro a;induction a with
 | nil=>intro vs ds ps h;obtain⟨rfl,rfl,rfl⟩:=trodAll_nil h;exact⟨rfl,rfl⟩
 | cons t a ih=>
   intro vs ds ps h;obtain⟨v,e,d,f,p,q,rfl,rfl,rfl,h0,h1⟩:=trodAll_cons h;have:=ih h1;exact⟨by simp[this.1],by simp[this.2]⟩
theorem LN {f:Func}{s:ChangeSpec}{apart fresh handsOn again:Bool}{args:Array Value}{ds gs:List (DataW H)}{before:List MemPlace}{tb:TypeId}
 (j:DataW.Whole enc P f.params.toList s.vars apart W args.toList ds gs before) (k:s.vars=[]) (y:∀ ds:List (DataW H),ds.length=f.params.size->s.fn H ds = { results:=[.lit (.bool true)],args:=ds })
 (l:f.resultTypes = #[tb]) (d:P.underlying tb=some .bool) (hl:laidOutB P=true) (z:∀ t∈f.params.toList,P.readableRec t=true/\t<P.types.size) (h:Below W.heap.size W W') :
 s.post enc P f apart fresh handsOn again W args (.bool true) W':=by
 have c:=j;obtain⟨p,q,m,n,rfl,A,B⟩:=j;rw[k]at n;obtain⟨rfl,rfl⟩:=trodVars_none n;have e:=(D2 m).2;have i:=y ds (by simpa using e);have o:∀ x∈p,x.block<W.heap.size:=λx hx=>c.lt x (by simpa using hx);have r:∀ (b:Nat) (a:Nat->Bool) (u:Bool),DataW.TrodAll enc P W' b a u f.resultTypes.toList ((Value.bool true).resultList f.resultTypes.size) (s.fn H (ds++[])).results []:=λb a u=>by
  rw[List.append_nil,i,l];exact trodAll_cons_mk (shut_bool d _) trodAll_mk0
 have v:∀ a:Nat->Bool,(∀ x∈p,a x.block=true)->DataW.TrodAll enc P W' 0 a true f.params.toList args.toList (s.fn H (ds++[])).args p:=λa hs=>by
  rw[List.append_nil,i];exact Ao hl h z m o hs
 have w:∀ a:Nat->Bool,DataW.TrodVars enc P W' a s.vars (s.fn H (ds++[])).vars []:=λa=>by
  rw[List.append_nil,i,k];rfl
 have g:∀ x∈p++[],(λb=>decide (b<W.heap.size)) x.block=true:=λx hx=>by simpa using c.lt x hx
 refine⟨ds,[],p++[],[],p,[],c,r _ _ _,v _ (λx hx=>g x (by simpa using hx)),w _,World.keptBut_mono (λx hx=>⟨hx,by simpa using hx⟩) (h.frame _),λ_=>?_⟩;refine⟨ok_one l rfl (okWide_bool_mk d _),_,_,([]++p)++[],⟨[]++p,[],trodAll_append (v _ (λ_ _=>rfl)) (r _ _ _),w _,rfl,?_,?_⟩,?_⟩
 ·intro b off C;have hm:MemPlace.cell b off∈p:=by simpa using C
  rw[h.frozen (p:=⟨b,off,none⟩) (o _ hm)];exact A b off (by simpa using hm)
 ·intro D;have:=B D;simpa using this
 ·intro x hx _;simpa using hx
def XG (P:Program) (k:Nat) (args:List LV):Prop:=
 ∃ fn refs lf, P.funcs[k]? = some fn /\ (fn.name == "runtime.NumGoroutine") = false /\ aL P [] refs fn = some lf /\ args.length <= lf.ntmps /\
   aX P [] false lf.ntmps lf.body (fm args) St.empty (λo e s'=>(o = .normal∨o = .jmp .ret)/\aW lf.results e s'=some (.bool true))
theorem Rv.strict {μ:Mu}{ι:Io}{w:World}{v:LV}{x:Value}(h:Rv μ ι w v x):Rv μ (λb o=>ι b o/\∃ u,w.cell? ⟨b,o,none⟩=some u) w v x:=by
 induction h with
 | top v=>exact .top v
 | bool b=>exact .bool b
 | int k n=>exact .int k n
 | str s=>exact .str s
 | agg hl _ ih=>exact .agg hl ih
 | cE hl _ ih=>exact .cE hl ih
 | eS=>exact .eS
 | aY vs d e h1 _ ih=>exact .aY vs d (λi h=>⟨e i h,_,d i h⟩) h1 ih
 | aO c=>exact .aO c
 | aq=>exact .aq
 | zs a=>exact .zs a
 | aF vs d e h1 _ f ih=>exact .aF vs d (λi h=>⟨e i h,_,d i h⟩) h1 ih f
 | aE c g f j=>exact .aE c g f j
 | fn hl l _ _ ih m=>exact .fn hl l ih m
 | js=>exact .js
 | rG c=>exact .rG c
 | su _ ih=>exact .su ih
 | lU=>exact .lU
 | cm=>exact .cm
 | aR c=>exact .aR c
theorem CQ {k n:Nat}{f:Func}{s:ChangeSpec}{apart fresh handsOn again:Bool}{tb:TypeId}{base:Nat}{args:Array Value}{ds gs:List (DataW H)}{before:List MemPlace}
 (c:s.vars=[]) (x:∀ ds:List (DataW H),ds.length=f.params.size->s.fn H ds = { results:=[.lit (.bool true)],args:=ds })
 (y:f.resultTypes = #[tb]) (l:P.underlying tb=some .bool) (hl:laidOutB P=true) (z:∀ t∈f.params.toList,P.readableRec t=true/\t<P.types.size) (A:∀ t∈f.params.toList,(kL P n t).isSome=true)
 (a:∀ d,sj P n f.params.toList d->XG P k d)
 (B:∀ (j:Nat) t v,f.params[j]? = some t->args[j]? = some v->Value.okWide P W .any base t v)
 (u:DataW.Whole enc P f.params.toList s.vars apart W args.toList ds gs before) :
 Calls P k args W λe W'=>∃ v,e = .returned v/\s.post enc P f apart fresh handsOn again W args v W':=by
 have m:=u;obtain⟨p,q,C,w,rfl,N,O⟩:=u;rw[c]at w;obtain⟨rfl,rfl⟩:=trodVars_none w;let κ:Io:=λb o=>MemPlace.cell b o∈p/\∃ v,W.cell? ⟨b,o,none⟩=some v;let r:Io:=λb o=>MemPlace.cell b o∈p;obtain⟨d,h1,h2,h3⟩:=LF (κ:=r) A C (λj t v D c=>B j t v (by simpa using D) (by simpa using c)) (λb o h=>h);obtain⟨fn,refs,R,g1,g2,E,F,I⟩:=a d h1;have J:∀ b o,κ b o->∃ v,W.cell? ⟨b,o,none⟩=some v:=λb o h=>h.2;refine (Se (Q:=λv=>v = .bool true) (κ:=κ) rfl g1 g2 E F (aX.mono I λo e s' g=>⟨g.1,_,g.2,rfl⟩) J (cx:=args) (by rw[h2];simp) (λi K=>?_)).mono λe W' g=>?_
 ·have:=h3 i (by rw[<- h2];exact K);have hs:=this.strict;simpa[gD,gF] using hs
 ·obtain⟨lv,v,S,T,rfl,rfl,L,M⟩:=g;cases M;exact⟨_,rfl,LN m c x y l hl z L⟩
end
open Go
section
variable {P:Program}{G:bP}
def wP (p:Prop):Prop:=p
theorem wP.mk {p:Prop}(h:p):wP p:=h
def o6 (P:Program) (G:bP) (fl:Bool) (o:bq) (e:Env) (s:St) (R:LV->St->Prop):Prop:=
 match o with
 | .call f as=>aM P G (f.ev e) (as.map (·.ev e)) s λv s=>wP (R v s)
 | .kN x=>jJ (x.ev e) s λv s=>wP (R v s)
 | .bin op x y=>
   match kr op (x.ev e) (y.ev e) with
   | some (.bool a)=>∀ b,a=b->wP (R (.bool b) s)
   | some v=>R v s
   | none=>False
 | .eq neg t x y=>
   match mw t (x.ev e) (y.ev e) with
   | some a=>∀ b,(if neg then !a else a)=b->wP (R (.bool b) s)
   | none=>False
 | o=>
   match o.run e s with
   | some (v,s')=>dP fl o e=true/\R v s'
   | none=>False
def wpOps (P:Program) (G:bP) (K:Env->St->Prop):List bC->Env->St->Prop
 | [],e,s=>K e s
 | o::l,e,s=>
   match aK o.guard e with
   | none=>False
   | some false=>wpOps P G K l (e.put o.dst (.cE [])) s
   | some true=>o6 P G o.fl o.op e s (λv s'=>dG o.jT (e.put o.dst v) s'/\wpOps P G K l (e.put o.dst v) s')
theorem Ou {fl:Bool}{o:bq}{e:Env}{s:St}{R:LV->St->Prop}(h:o6 P G fl o e s R):pJ P G fl o e s R:=by
 cases o
 case call f as=>exact h
 case kN x=>exact h
 case RX n x y=>exact (show False from h).elim
 case bin op x y=>
  simp only[o6]at h;simp only[pJ,bq.run];split at h
  ·rename_i b a;rw[a];exact⟨rfl,h b rfl⟩
  ·rename_i v dB c;rw[c];exact⟨rfl,h⟩
  ·exact h.elim
 case eq neg t x y=>
  simp only[o6]at h;simp only[pJ,bq.run];split at h
  ·rename_i b a;rw[a];exact⟨rfl,h _ rfl⟩
  ·exact h.elim
 all_goals exact h
theorem N8 {K:Env->St->Prop} : ∀ {l:List bC}{e:Env}{s:St},wpOps P G K l e s->dL P G l e s K:=by
 intro l;induction l with
 | nil=>intro e s h;exact h
 | cons o l ih=>
   intro e s h;simp only[wpOps]at h;simp only[dL];cases a:aK o.guard e with
   | none=>rw[a]at h;exact h.elim
   | some b=>
     rw[a]at h;cases b with
     | false=>exact ih h
     | true=>exact (Ou h).mono λv s c=>⟨c.1,ih c.2⟩
theorem LJ (hm:P.follows .mixedOrders=true) {rd:Bool}{nt:Nat}{l:List bC}{e:Env}{s:St}{Q:Out->Env->St->Prop}(h:wpOps P G (λe s=>Q .normal e s) l e s):aX P G rd nt (.region l) e s Q:=Bv hm (N8 h)
theorem vq {fl:Bool}{o:bq}{e:Env}{s s':St}{v:LV}{R:LV->St->Prop}(c:o.run e s=some (v,s')) (hs:dP fl o e=true) (h:R v s'):o6 P G fl o e s R:=by
 cases o
 case call f as=>cases c
 case kN x=>cases c
 case bin op x y=>
  simp only[bq.run,Option.bind_eq_bind,Option.bind_eq_some_iff,Option.some.injEq,Prod.mk.injEq]at c;obtain⟨a,d,rfl,rfl⟩:=c;simp only[o6,d];split
  ·rename_i i heq;cases heq;intro b g;subst g;exact h
  ·rename_i heq;cases heq;exact h
  ·rename_i heq;cases heq
 case eq neg t x y=>
  simp only[bq.run,Option.bind_eq_bind,Option.bind_eq_some_iff,Option.some.injEq,Prod.mk.injEq]at c;obtain⟨a,d,rfl,rfl⟩:=c;simp only[o6,d];intro b g;subst g;exact h
 all_goals (simp only[o6,c];exact⟨hs,h⟩)
theorem TO {d:Nat}{op:bq}{l:List bC}{K:Env->St->Prop}{e:Env}{s s':St}{v:LV}(a:op.run e s=some (v,s')) (h:wpOps P G K l (Tr.set e d v) s'):wpOps P G K (⟨some d,op,none,[],false⟩::l) e s:=by
 simp only[wpOps,aK];exact vq a (by unfold dP;split<;>simp) ⟨trivial,h⟩
theorem TL {op:bq}{l:List bC}{K:Env->St->Prop}{e:Env}{s s':St}{v:LV}(a:op.run e s=some (v,s')) (h:wpOps P G K l e s'):wpOps P G K (⟨none,op,none,[],false⟩::l) e s:=by
 simp only[wpOps,aK];exact vq a (by unfold dP;split<;>simp) ⟨trivial,h⟩
theorem JV {o:bC}{l:List bC}{K:Env->St->Prop}{e:Env}{s s':St}{v:LV}(a:aK o.guard e=some true) (b:o.op.run e s=some (v,s')) (hs:dP o.fl o.op e=true) (c:dG o.jT (e.put o.dst v) s') (h:wpOps P G K l (e.put o.dst v) s'):wpOps P G K (o::l) e s:=by
 simp only[wpOps,a];exact vq b hs ⟨c,h⟩
theorem yj {o:bC}{l:List bC}{K:Env->St->Prop}{e:Env}{s:St}(a:aK o.guard e=some false) (h:wpOps P G K l (e.put o.dst (.cE [])) s):wpOps P G K (o::l) e s:=by
 simp only[wpOps,a];exact h
theorem TQ {d:Nat}{op:BinOp}{x y:bF}{g:Option (Nat × Bool)}{fl:Bool}{l:List bC}{K:Env->St->Prop}{e:Env}{s:St}{a:Bool}(c:aK g e=some true) (f:kr op (x.ev e) (y.ev e)=some (.bool a))
 (h:∀ b,a=b->wpOps P G K l (Tr.set e d (.bool b)) s):wpOps P G K (⟨some d, .bin op x y,g,[],fl⟩::l) e s:=by
 simp only[wpOps,c,o6,f];intro b i;exact⟨trivial,h b i⟩
theorem X3 {d:Nat}{neg:Bool}{t:cT}{x y:bF}{g:Option (Nat × Bool)}{fl:Bool}{l:List bC}{K:Env->St->Prop}{e:Env}{s:St}{a:Bool}(c:aK g e=some true) (f:mw t (x.ev e) (y.ev e)=some a)
 (h:∀ b,(if neg then !a else a)=b->wpOps P G K l (Tr.set e d (.bool b)) s):wpOps P G K (⟨some d, .eq neg t x y,g,[],fl⟩::l) e s:=by
 simp only[wpOps,c,o6,f];intro b i;exact⟨trivial,h b i⟩
theorem ue {o:bC}{f:bF}{as:List bF}{l:List bC}{K:Env->St->Prop}{e:Env}{s:St}(ho:o.op = .call f as) (a:aK o.guard e=some true)
 (h:aM P G (f.ev e) (as.map (·.ev e)) s (λv s'=>dG o.jT (e.put o.dst v) s'/\wpOps P G K l (e.put o.dst v) s')):wpOps P G K (o::l) e s:=by
 simp only[wpOps,a,ho,o6];exact h
theorem TP (a:∀ x∈G,LV.closed.au x.2=true) {dst:Option Nat}{g:Option (Nat × Bool)}{jT:List (Nat × Option (Nat × Bool) × bq)}{fl:Bool}{as:List bF}{vs:List LV}{fv r:LV}{l:List bC}{K:Env->St->Prop}{e:Env}{s:St}(b:fu P G fv vs r) (d:aK g e=some true) (f:as.map (·.ev e)=vs)
 (i:dG jT (e.put dst r) s) (h:wpOps P G K l (e.put dst r) s):wpOps P G K (⟨dst, .call (.c fv) as,g,jT,fl⟩::l) e s:=by
 refine ue rfl d ?_;rw[f];exact iD a b ⟨i,h⟩
theorem LK (a:∀ x∈G,LV.closed.au x.2=true) {dst:Option Nat}{g:Option (Nat × Bool)}{jT:List (Nat × Option (Nat × Bool) × bq)}{fl:Bool}{as:List bF}{vs:List LV}{fv:LV}{R:LV->Prop}{l:List bC}{K:Env->St->Prop}{e:Env}{s:St}(b:ny P G fv vs R) (d:aK g e=some true) (f:as.map (·.ev e)=vs)
 (h:∀ r,R r->r.closed=true->dG jT (e.put dst r) s/\wpOps P G K l (e.put dst r) s):wpOps P G K (⟨dst, .call (.c fv) as,g,jT,fl⟩::l) e s:=by
 refine ue rfl d ?_;rw[f];exact mP a b h
theorem O5 (d:∀ x∈G,LV.closed.au x.2=true) {dst:Option Nat}{g:Option (Nat × Bool)}{jT:List (Nat × Option (Nat × Bool) × bq)}{fl:Bool}{as:List bF}{vs:List LV}{fv:LV}{a:Bool}{l:List bC}{K:Env->St->Prop}{e:Env}{s:St}(f:fu P G fv vs (.bool a)) (i:aK g e=some true) (j:as.map (·.ev e)=vs)
 (h:∀ b,a=b->dG jT (e.put dst (.bool b)) s/\wpOps P G K l (e.put dst (.bool b)) s):wpOps P G K (⟨dst, .call (.c fv) as,g,jT,fl⟩::l) e s:=by
 refine ue rfl i ?_;rw[j];exact iD d f (h a rfl)
theorem O6 {rd:Bool}{nt:Nat}{x:bF}{a b:bx}{e:Env}{s:St}{Q:Out->Env->St->Prop}(hx:x.ev e = .bool true) (h:aX P G rd nt a e s Q):aX P G rd nt (.cond x a b) e s Q:=CH hx h
theorem O7 {rd:Bool}{nt:Nat}{x:bF}{a b:bx}{e:Env}{s:St}{Q:Out->Env->St->Prop}(hx:x.ev e = .bool false) (h:aX P G rd nt b e s Q):aX P G rd nt (.cond x a b) e s Q:=CH hx h
inductive Sl:LV->List LV->Nat->Prop
  | nil:Sl .aq [] 0
  | zs:Sl .zs [] 0
  | aF (cs:List LV) (n:Nat):Sl (.aF cs n) cs n
theorem Sl.len {v:LV}{cs:List LV}{n:Nat}(h:Sl v cs n):ji v=some n:=by cases h<;>rfl
theorem Sl.closed {v:LV}{cs:List LV}{n:Nat}(h:Sl v cs n) (a:LV.closed.au cs=true):v.closed=true:=by cases h<;>simp[LV.closed,a]
theorem Sl.pos {v:LV}{cs:List LV}{n:Nat}(h:Sl v cs n) (a:0<n):v = .aF cs n:=by cases h<;>first | rfl | omega
theorem Sl.cell {v:LV}{cs:List LV}{n:Nat}(h:Sl v cs n):bf v=true:=by cases h<;>rfl
theorem jw {n:Nat}{v:LV}{s:St}(h:v.closed=true):cY (n+1) v s=some (v,s):=by unfold cY;simp[h]
theorem bk {v:LV}{s:St}(h:v.closed=true):cY bp v s=some (v,s):=jw h
theorem TR {k : Nat}{fn : Func}{refs : List Nat}{lf : bh}{args : List LV}{r : LV}(hm : P.follows .mixedOrders = true) (hf : P.funcs[k]? = some fn) (hn : (fn.name == "runtime.NumGoroutine") = false) (hc : aL P G refs fn = some lf)
 (hlen:args.length<=lf.ntmps) (ha:LV.closed.au args=true) (hr:r.closed=true)
 (h:aX P G false lf.ntmps lf.body (fm args) St.empty (λo e s=>(o = .normal∨o = .jmp .ret)/\∃ v,aW lf.results e s=some v/\∃ s',cY bp v s=some (r,s'))):fu P G (.fn (.func k) [] []) args r:=
 ⟨rfl,ha,hr,bM (first:=[]) (caps:=[]) hf hn hc (by simpa using hlen) (by simpa using h)⟩
theorem O8 {k : Nat}{fn : Func}{refs : List Nat}{lf : bh}{args : List LV}{r : LV}{t : Nat}(hm : P.follows .mixedOrders = true) (hf : P.funcs[k]? = some fn) (hn : (fn.name == "runtime.NumGoroutine") = false) (hc : aL P G refs fn = some lf)
 (hlen:args.length<=lf.ntmps) (ha:LV.closed.au args=true) (hr:r.closed=true) (ht:lf.results=[.tmp t])
 (h:aX P G false lf.ntmps lf.body (fm args) St.empty (λo e s=>(o = .normal∨o = .jmp .ret)/\e.at t=r)):fu P G (.fn (.func k) [] []) args r:=
 TR hm hf hn hc hlen ha hr (aX.mono h λo e s hh=>⟨hh.1,r,by rw[ht];simp[aW,bD,hh.2],s,bk hr⟩)
theorem HJ {k : Nat}{fn : Func}{refs : List Nat}{lf : bh}{args : List LV}{R : LV -> Prop}{t : Nat}(hm : P.follows .mixedOrders = true) (hf : P.funcs[k]? = some fn) (hn : (fn.name == "runtime.NumGoroutine") = false) (hc : aL P G refs fn = some lf)
 (hlen:args.length<=lf.ntmps) (ha:LV.closed.au args=true) (ht:lf.results=[.tmp t])
 (h:aX P G false lf.ntmps lf.body (fm args) St.empty (λo e s=>(o = .normal∨o = .jmp .ret)/\∃ r s',cY bp (e.at t) s=some (r,s')/\r.closed=true/\R r)):ny P G (.fn (.func k) [] []) args R:=
 ⟨rfl,ha,bM (first:=[]) (caps:=[]) hf hn hc (by simpa using hlen) (by
  have h':=aX.mono h (Q':=λo e s=>(o = .normal∨o = .jmp .ret)/\∃ v,aW lf.results e s=some v/\∃ r s',cY bp v s=some (r,s')/\r.closed=true/\R r) (λo e s hh=>⟨hh.1,e.at t,by rw[ht];simp[aW,bD],hh.2⟩);simpa using h')⟩
end
def ints (l:List Int):List LV:=l.map (LV.int .i64)
@[simp] theorem wh (l:List Int):(ints l).length=l.length:=by simp[ints]
theorem bI (l:List Int):LV.closed.au (ints l)=true:=by
 induction l with
 | nil=>rfl
 | cons x l ih=>simpa[ints,LV.closed.au,LV.closed] using ih
theorem bB {l:List Int}{i:Nat}(h:(i:Int)<(l.length:Int)):(ints l)[i]? = some (.int .i64 (l.getD i 0)):=by
 have h:i<l.length:=by omega
 simp[ints,gD,h]
def bU (x:Int):Prop:=-9223372036854775808<=x/\x<=9223372036854775807
structure aP (v:LV) (l:List Int):Prop where
  sl:Sl v (ints l) l.length
  len:l.length<=maxLen
  tQ:∀ x∈l,bU x
structure bN (v:LV) (ls:List (List Int)) (vs:List LV):Prop where
  sl:Sl v vs ls.length
  Oa:vs.length=ls.length
  len:ls.length<=maxLen
  row:∀ i,i<ls.length->aP (vs.getD i .top) (ls.getD i [])
theorem aP.closed {v:LV}{l:List Int}(h:aP v l):v.closed=true:=h.sl.closed (bI l)
theorem oU:∀ {vs:List LV},(∀ i,i<vs.length->(vs.getD i .top).closed=true)->LV.closed.au vs=true:=by
 intro vs;induction vs with
 | nil=>intro _;rfl
 | cons v vs ih=>
   intro h;simp only[LV.closed.au,Bool.and_eq_true];exact⟨by simpa using h 0 (by simp),ih λi a=>by simpa using h (i+1) (by simpa using a)⟩
theorem bN.closed {v:LV}{ls:List (List Int)}{vs:List LV}(h:bN v ls vs):v.closed=true:=
 h.sl.closed (oU λi a=>(h.row i (by rw[<- h.Oa];exact a)).closed)
theorem bN.get {v:LV}{ls:List (List Int)}{vs:List LV}(h:bN v ls vs) {i:Nat}(a:i<ls.length):vs[i]? = some (vs.getD i .top):=by
 rw[gD,gE (by rw[h.Oa];exact a)];rfl
theorem Uw (k:IntKind) (n:Int):bf (.int k n)=true:=rfl
theorem Ql (b:Bool):bf (.bool b)=true:=rfl
theorem Uv (s:ByteArray):bf (.str s)=true:=rfl
theorem Qj:bf .aq=true:=rfl
theorem YC:bf .zs=true:=rfl
theorem Qg (cs:List LV) (n:Nat):bf (.aF cs n)=true:=rfl
theorem Qf (i o n e:Nat):bf (.aE i o n e)=true:=rfl
theorem Qh (i o:Nat):bf (.aO i o)=true:=rfl
theorem Qi (cs:List LV) (o:Nat):bf (.aY cs o)=true:=rfl
theorem Qk (i:Nat):bf (.aR i)=true:=rfl
theorem YD (f:Fn) (a b:List LV):bf (.fn f a b)=true:=rfl
theorem B8 (cs:List LV):cells? (.agg cs)=if cs.all bf then some cs else none:=rfl
theorem tN {v:LV}(h:bf v=true):cells? v=some [v]:=by cases v<;>first | rfl | cases h
def yO (aZ:Nat) (v i:LV) (s:St):Option (LV × St) :=
 match v with
 | .aF cs len=>do let k <- idxOf len i;some (.aY cs (k*aZ),s)
 | .aE id off len a=>do let k <- idxOf len i;if a=aZ then some (.aO id (off+k*aZ),s) else none
 | _=>none
theorem Lo (aZ:Nat) (x i:bF) (e:Env) (s:St):(bq.wj aZ x i).run e s=yO aZ (x.ev e) (i.ev e) s:=rfl
theorem cU {v:LV}{cs:List LV}{n:Nat}(h:Sl v cs n) {aZ:Nat}{k:IntKind}{s:St}{i:Nat}(b:(i:Int)<(n:Int)):yO aZ v (.int k (i:Int)) s=some (.aY cs (i*aZ),s):=by
 have a:i<n:=by omega
 rw[h.pos om];simp[yO,idxOf,a]
theorem iaI {v:LV}{cs:List LV}{n:Nat}(h:Sl v cs n) {aZ:Nat}{k:IntKind}{s:St}{a:Int}(h0:0<=a) (b:a<(n:Int)):yO aZ v (.int k a) s=some (.aY cs (a.toNat*aZ),s):=by
 rw[h.pos om];simp[yO,idxOf,h0,b]
theorem ez {i n:Nat}(h:(i:Int)<(n:Int)) (a:n<=maxLen):IntKind.i64.wrap ((i:Int)+1)=((i+1:Nat):Int):=by
 have hm:maxLen=9223372036854775807:=by decide
 rw[wrap_i64 _ om om];simp
theorem cn {α:Type}{l:List α}{i:Nat}{d:α}(h:i<l.length):l.getD i d∈l:=by
 simp[gD,h]
theorem rQ {v:LV}(h:u0 (.sl [.int .i64]) v):∃ l,aP v l:=by
 cases h with
 | nil=>exact⟨[], .nil,by simp,λx hx=>by cases hx⟩
 | zs=>exact⟨[], .zs,by simp,λx hx=>by cases hx⟩
 | sl b hs=>
   rename_i a;have key:∀ {a:List (List LV)},pz [.int .i64] a->∃ l:List Int,a.flatten=ints l/\l.length=a.length/\∀ x∈l,bU x:=by
    intro a;induction a with
    | nil=>intro _;exact⟨[],rfl,rfl,λx hx=>by cases hx⟩
    | cons r rs ih=>
      intro h;cases h with
      | cons h hs=>
        obtain⟨l,h1,h2,h3⟩:=ih hs;cases h with
        | cons h b=>
          cases b;cases h with
          | int c=>
            rename_i n;refine⟨n::l,by simp[ints,h1],by simp[h2],λx hx=>?_⟩;rcases List.mem_cons.1 hx with rfl | hx
            ·simpa[Lit.wf,IntKind.min,IntKind.max,IntKind.signed,IntKind.bits,bU] using c
            ·exact h3 x hx
   obtain⟨l,h1,h2,h3⟩:=key hs;refine⟨l,?_,by rw[h2];exact b,h3⟩;rw[h1,<- h2];exact .aF _ _
theorem BZ {v:LV}(h:u0 (.sl [.sl [.int .i64]]) v):∃ ls vs,bN v ls vs:=by
 cases h with
 | nil=>exact⟨[],[], .nil,rfl,by simp,λi b=>absurd b (Nat.not_lt_zero _)⟩
 | zs=>exact⟨[],[], .zs,rfl,by simp,λi b=>absurd b (Nat.not_lt_zero _)⟩
 | sl c hs=>
   have key:∀ {a:List (List LV)},pz [.sl [.int .i64]] a->∃ ls:List (List Int),ls.length=a.length/\a.flatten.length=a.length/\∀ i,i<ls.length->aP (a.flatten.getD i .top) (ls.getD i []):=by
    intro a;induction a with
    | nil=>intro _;exact⟨[],rfl,rfl,λi b=>absurd b (Nat.not_lt_zero _)⟩
    | cons r rs ih=>
      intro h;cases h with
      | cons h hs=>
        obtain⟨ls,h1,h2,h3⟩:=ih hs;cases h with
        | cons h c=>
          cases c;obtain⟨l,hl⟩:=rQ h;refine⟨l::ls,by simp[h1],by simp[h2],λi b=>?_⟩;cases i with
          | zero=>simpa using hl
          | succ i=>simpa using h3 i (by simpa using b)
   obtain⟨ls,h1,h2,h3⟩:=key hs;refine⟨ls,_,?_,by rw[h2,h1],by rw[h1];exact c,h3⟩;rw[h1];exact .aF _ _
theorem zk {v:LV}(h:u0 (.int .i64) v):∃ n,v = .int .i64 n/\bU n:=by
 cases h with
 | int a=>exact⟨_,rfl,by simpa[Lit.wf,IntKind.min,IntKind.max,IntKind.signed,IntKind.bits,bU] using a⟩
theorem bN.mo {v:LV}{ls:List (List Int)}{vs:List LV}(h:bN v ls vs) {i:Nat}(a:(i:Int)<(ls.length:Int)):vs[i]? = some (vs.getD i .top):=h.get om
theorem bN.wU {v:LV}{ls:List (List Int)}{vs:List LV}(h:bN v ls vs) {i:Nat}(a:(i:Int)<(ls.length:Int)):ji (vs.getD i .top)=some (ls.getD i []).length:=(h.row i om).sl.len
theorem bN.ria {v:LV}{ls:List (List Int)}{vs:List LV}(h:bN v ls vs) {i:Nat}(b:(i:Int)<(ls.length:Int)) {aZ:Nat}{k:IntKind}{s:St}{j:Nat}(a:(j:Int)<((ls.getD i []).length:Int)) :
 yO aZ (vs.getD i .top) (.int k (j:Int)) s=some (.aY (ints (ls.getD i [])) (j*aZ),s):=cU (h.row i om).sl a
end Go.Pv
end
