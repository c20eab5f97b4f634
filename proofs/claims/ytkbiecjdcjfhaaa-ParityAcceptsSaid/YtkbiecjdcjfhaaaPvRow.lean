/- From what a row says of its input to plain values, and from a plain run to what a row asks. -/
import Derived.Test.YtkbiecjdcjfhaaaPvCall
import Derived.Carry
import Derived.ChangeArms
import Derived.ChangeSame
import Derived.Deep.Slices
import Derived.OpenShut
set_option linter.unusedSimpArgs false
set_option linter.unusedVariables false
set_option maxRecDepth 100000
set_option maxHeartbeats 16000000
section
namespace Go.Pv
open Go Go.RowKit Go.ChangeShapes Go.WideShapes
inductive CT where
  | bool
  | int (k:IntKind)
  | str
  | sl (es:List CT)
mutual
inductive vi:CT->LV->Prop
  | bool (b:Bool):vi .bool (.bool b)
  | int {k:IntKind}{n:Int}(h:(Lit.int k n).wf=true):vi (.int k) (.int k n)
  | str (s:ByteArray) (h:s.size<=maxLen):vi .str (.str s)
  | nil {es:List CT} : vi (.sl es) .aj
  | zs {es:List CT} : vi (.sl es) .zs
  | sl {es:List CT}{rows:List (List LV)}(hn:rows.length<=maxLen) (h:qn es rows):vi (.sl es) (.aB rows.flatten rows.length)
inductive sM:List CT->List LV->Prop
  | nil:sM [] []
  | cons {c:CT}{v:LV}{cs:List CT}{vs:List LV}(h:vi c v) (hs:sM cs vs):sM (c::cs) (v::vs)
inductive qn:List CT->List (List LV)->Prop
  | nil {es:List CT} : qn es []
  | cons {es:List CT}{r:List LV}{rs:List (List LV)}(h:sM es r) (hs:qn es rs):qn es (r::rs)
end
def tY (P:Program) (f:TypeId->Option (List CT)):List Field->Nat->Option (List CT)
 | [],_=>some []
 | fl::fs,off=>
   match f fl.type with
   | some r=>
     if fl.offset=off/\r.length=P.cellsOf fl.type then (match tY P f fs (off+r.length) with | some rs=>some (r++rs) | none=>none) else none
   | none=>none
def lW (P:Program):Nat->TypeId->Option (List CT)
 | 0,_=>none
 | n + 1, t =>
   match P.underlying t with
   | some .bool=>some [.bool]
   | some (.int k)=>some [.int k]
   | some .string=>some [.str]
   | some (.slice e) =>
     match lW P n e with
     | some r=>if r.length=P.cellsOf e/\0<r.length then some [.sl r] else none
     | none=>none
   | some (.struct fs) =>
     match tY P (lW P n) fs.toList 0 with
     | some r=>if r.length=P.cellsOf t then some r else none
     | none=>none
   | _=>none
theorem sM.length:∀ {cs:List CT}{vs:List LV},sM cs vs->vs.length=cs.length:=by
 intro cs;induction cs with
 | nil=>intro vs h;cases h;rfl
 | cons c cs ih=>intro vs h;cases h with | cons h hs=>simp[ih hs]
theorem sM.append:∀ {cs ds:List CT}{vs a:List LV},sM cs vs->sM ds a->sM (cs++ds) (vs++a):=by
 intro cs;induction cs with
 | nil=>intro ds vs a h k;cases h;exact k
 | cons c cs ih=>intro ds vs a h k;cases h with | cons h hs=>exact .cons h (ih hs k)
section
variable {P:Program}{G:bG}{H:Type}{enc:TypeId × Value->H}{W:World}
def uL:Mu:=λ_=>none
def Rd (κ:Io) (W:World) (a:List LV) (cs:List Value):Prop:=a.length=cs.length/\∀ i,i<cs.length->Rv uL κ W (a.getD i .top) (cs.getD i undef)/\(cs.getD i undef).oneCell'=true
theorem Rd.one {κ:Io}{v:LV}{x:Value}(h:Rv uL κ W v x) (h1:x.oneCell'=true):Rd κ W [v] [x] :=
 ⟨rfl,λi a=>by
  have h0:i=0:=by simpa using a
  subst h0;exact⟨by simpa using h,by simpa using h1⟩⟩
theorem Rd.append {κ:Io}{a b:List LV}{x y:List Value}(h:Rd κ W a x) (k:Rd κ W b y):Rd κ W (a++b) (x++y):=by
 refine⟨by simp[h.1,k.1],λi d=>?_⟩;by_cases hx:i<x.length
 ·have:=h.2 i hx;have c:i<a.length:=by rw[h.1];exact hx
  simpa[gD,List.getElem?_append_left hx,List.getElem?_append_left c] using this
 ·have e:i - x.length<y.length:=by simp at d;omega
  have:=k.2 _ e;have c:a.length<=i:=by rw[h.1];omega
  simpa[gD,List.getElem?_append_right (Nat.le_of_not_lt hx),List.getElem?_append_right c,h.1] using this
theorem EK {α:Type}{rows:List (List α)}{m:Nat}(h:∀ r∈rows,r.length=m):rows.flatten.length=rows.length*m:=by
 induction rows with
 | nil=>simp
 | cons r rs ih=>
   rw[List.flatten_cons,List.length_append,ih (λx hx=>h x (by simp[hx])),h r (by simp),List.length_cons,Nat.add_mul,Nat.one_mul,Nat.add_comm]
theorem EL {α:Type}{m:Nat} : ∀ {rows:List (List α)},(∀ r∈rows,r.length=m)->∀ i j,j<m->rows.flatten[i*m+j]? = (rows[i]?).bind (·[j]?):=by
 intro rows;induction rows with
 | nil=>intro _ i j _;simp
 | cons r rs ih=>
   intro h i j a;have b:=h r (by simp);cases i with
   | zero=>simp[List.getElem?_append_left (show j<r.length by omega)]
   | succ i=>
     have:(i+1)*m+j=r.length+(i*m+j):=by rw[Nat.add_mul,b];omega
     rw[this,List.flatten_cons,List.getElem?_append_right om,Nat.add_sub_cancel_left,ih (λx hx=>h x (by simp[hx])) i j a];simp
theorem yR {W:World}{base:Nat}{a:Addr}{n:Nat}{cs:List Value}(h:W.cells? base a n=some cs):cs.length=n/\∀ i,i<n->W.cell? (a.add i)=some (cs.getD i undef):=by
 unfold World.cells? at h;split at h
 ·obtain⟨h1,h2⟩:=Go.Pv.iK h;refine⟨by simpa using h1,λi c=>?_⟩;obtain⟨y,d,b⟩:=h2 i (by simpa using c);simp only[List.getElem_range]at b;rw[b,gD,d];rfl
 ·cases h
theorem qn.all {es:List CT} : ∀ {rows:List (List LV)},qn es rows↔∀ r∈rows,sM es r:=by
 intro rows;induction rows with
 | nil=>exact Iff.intro (λ_ r a=>absurd a List.not_mem_nil) (λ_=>qn.nil)
 | cons r rs ih=>
   constructor
   ·intro h x hx;cases h with
    | cons h hs=>
      rcases List.mem_cons.1 hx with rfl | hx
      ·exact h
      ·exact ih.1 hs x hx
   ·intro h;exact .cons (h r (by simp)) (ih.2 λx hx=>h x (by simp[hx]))
theorem M4 {κ : Io} : ∀ {n : Nat}{t : TypeId}{row : List CT}, lW P n t = some row -> ∀ {l : Nat}{cs : List Value}{x : DataW H × List MemPlace}, DataW.trod enc P W 0 (λ_ => true) true l t cs = some x ->
 (∀ b o,MemPlace.cell b o∈x.2->κ b o)->∃ g,sM row g/\Rd κ W g cs:=by
 intro n;induction n with
 | zero=>intro t row h;cases h
 | succ n ih =>
   intro t row h l cs x hx C;unfold lW at h;split at h
   ·rename_i j;cases h;obtain⟨b,rfl,-⟩:=DataW.trod_bool j hx;exact⟨[.bool b], .cons (.bool b) .nil,Rd.one (.bool b) rfl⟩
   ·rename_i k j;cases h;obtain⟨n,rfl,-,E⟩:=DataW.trod_int j hx;exact⟨[.int k n], .cons (.int E) .nil,Rd.one (.int k n) rfl⟩
   ·rename_i j;cases h;obtain⟨s,rfl,-,E⟩:=DataW.trod_string j hx;exact⟨[.str s], .cons (.str s E) .nil,Rd.one (.str s) rfl⟩
   ·rename_i e j;split at h
    ·rename_i r F;split at h
     ·rename_i p;cases h;rcases Deep.open_slice j hx with⟨rfl,-⟩ | ⟨a,len,cap,m,T,D,Pl,rfl,hb,hl,gR,hm,rfl,Tm⟩
      ·exact⟨[.aj], .cons .nil .nil,Rd.one .aj rfl⟩
      ·simp only[if_true]at hm;subst hm;by_cases pZ:m=0
       ·subst pZ;obtain rfl:len=0:=by omega
        exact⟨[.zs], .cons .zs .nil,Rd.one (.zs a) rfl⟩
       ·have U:=p.1;have X:0<P.cellsOf e:=by omega
        have I:∀ i,i<m->∃ q:List LV × List Value,W.cells? 0 (a.add (i*P.cellsOf e)) (P.cellsOf e)=some q.2/\sM r q.1/\Rd κ W q.1 q.2:=λi d=>by
         obtain⟨J,h1,h2⟩:=Tm i d;obtain⟨g,h3,w⟩:=ih F h2 (λb o cJ=>C b o (List.mem_append_right _ (List.mem_flatMap.2 ⟨i,List.mem_range.2 d,cJ⟩)));exact⟨(g,J),h1,h3,w⟩
        obtain⟨Q,z⟩:=Deep.choose_lt I;have A:a.spot=none:=by
         have h0:=z 0 om;have:=(yR h0.1).2 0 X;simp only[Nat.zero_mul,Addr.add,if_true]at this;unfold World.cell? at this;split at this
         ·split at this
          ·cases this
          ·rename_i hs;simpa using hs
         ·cases this
        have Cm:∀ k,a.add k=⟨a.block,a.off+k,none⟩:=λk=>by
         unfold Addr.add;split
         ·rename_i h0;subst h0;cases a;simp at A;subst A;rfl
         ·rfl
        let c:=(List.range len).map λi=>(Q i).1;have Y:∀ q∈c,q.length=P.cellsOf e:=λq v=>by
         obtain⟨i,d,rfl⟩:=List.mem_map.1 v;rw[(z i (by have:=List.mem_range.1 d;omega)).2.1.length,U]
        have K:c.length=len:=by simp[c]
        have uX:=EK Y;refine⟨[.aB c.flatten c.length], .cons (.sl (by rw[K];exact Nat.le_trans hl gR) (qn.all.2 λq v=>?_)) .nil,?_⟩
        ·obtain⟨i,d,rfl⟩:=List.mem_map.1 v;exact (z i (by have:=List.mem_range.1 d;omega)).2.1
        ·rw[K];have ha:a=⟨a.block,a.off,none⟩:=by cases a;simp at A;subst A;rfl
         have key:∀ i,i<c.flatten.length->∃ y:Value,W.cell? ⟨a.block,a.off+i,none⟩=some y/\Rv uL κ W (c.flatten.getD i .top) y/\y.oneCell'=true/\κ a.block (a.off+i):=λi d=>by
          rw[uX,K]at d;have L:=Nat.div_add_mod i (P.cellsOf e);have M:=Nat.mod_lt i X;have v:i / P.cellsOf e<len:=Nat.div_lt_of_lt_mul (by rw[Nat.mul_comm];exact d);obtain⟨h1,h2,h3⟩:=z (i / P.cellsOf e) om;obtain⟨g1,g2⟩:=yR h1;have w:=g2 (i % P.cellsOf e) M;have Z:=h3.2 (i % P.cellsOf e) (by rw[g1];exact M);have e1:i / P.cellsOf e*P.cellsOf e+i % P.cellsOf e=i:=by rw[Nat.mul_comm];exact L
          refine⟨_,?_,?_,Z.2,C _ _ (List.mem_append_left _ ?_)⟩
          ·rw[Deep.add_add,e1,Cm]at w;exact w
          ·have:=EL Y (i / P.cellsOf e) (i % P.cellsOf e) M;rw[e1]at this;rw[gD,this];have:c[i / P.cellsOf e]? = some (Q (i / P.cellsOf e)).1:=by simp[c,v]
           rw[this];have h6:=Z.1;rw[gD]at h6;exact h6
          ·refine List.mem_map.2 ⟨i,List.mem_range.2 ?_,rfl⟩;exact Nat.lt_of_lt_of_le d (Nat.mul_le_mul_right _ hl)
         obtain⟨V,B⟩:=Deep.choose_lt (α:=Value) (n:=c.flatten.length) key;rw[ha];exact Rd.one (.aB V (λi d=>(B i d).1) (λi d=>(B i d).2.2.2) (λi d=>(B i d).2.2.1) (λi d=>(B i d).2.1) hl) rfl
     ·cases h
    ·cases h
   ·rename_i fs j;split at h
    ·rename_i r F;split at h
     ·rename_i p;cases h;obtain⟨xs,T,-,rfl,U,Ej,hf⟩:=DataW.trod_struct j hx;have key : ∀ (fl : List Field) (off : Nat) (r : List CT) (u : List (DataW H × List MemPlace)), tY P (lW P n) fl off = some r -> (∀ (i : Nat) f, fl[i]? = some f -> DataW.trod enc P W 0 (λ_ => true) true T f.type ((cs.drop f.offset).take (P.cellsOf f.type)) = u[i]?) ->
       u.length=fl.length->(∀ b o,MemPlace.cell b o∈u.flatMap (·.2)->κ b o)->off+r.length<=cs.length->∃ g,sM r g/\Rd κ W g ((cs.drop off).take r.length):=by
       intro fl;induction fl with
       | nil=>
         intro off r u h _ _ _ _;cases h;exact⟨[], .nil,by simp[Rd]⟩
       | cons f fl N=>
         intro off r u h Ys O hk R;simp only[tY]at h;split at h
         ·rename_i r1 mN;split at h
          ·rename_i hc;split at h
           ·rename_i r2 Ca;cases h;obtain⟨tL,kz⟩:=hc;match u,O with
            | y :: u, O =>
              have hy:=Ys 0 f rfl;simp only[List.getElem?_cons_zero]at hy;obtain⟨l1,g1,g2⟩:=ih mN hy (λb o hm=>hk b o (by simp[hm]));simp only[List.length_append]at R;obtain⟨l2,g3,g4⟩:=N (off+r1.length) r2 u Ca (λi f' d=>by simpa using Ys (i+1) f' (by simpa using d)) (by simpa using O)
               (λb o hm=>hk b o (by simp only[List.flatMap_cons,List.mem_append];exact .inr hm)) om
              refine⟨l1++l2,g1.append g3,?_⟩;have:(cs.drop off).take (r1++r2).length=(cs.drop off).take r1.length++(cs.drop (off+r1.length)).take r2.length:=by
               rw[List.length_append,List.take_add,List.drop_drop]
              rw[this];rw[tL,<- kz]at g2;exact g2.append g4
           ·cases h
          ·cases h
         ·cases h
      obtain⟨g,g1,g2⟩:=key fs.toList 0 row xs F (λi f d=>hf i f (by simpa using d)) (by simpa using Ej) C om;refine⟨g,g1,?_⟩;rw[List.drop_zero,List.take_of_length_le om]at g2;exact g2
     ·cases h
    ·cases h
   ·cases h
def y6 (P:Program) (n:Nat) (t:TypeId) (v:LV):Prop:=
 ∃ row a,lW P n t=some row/\sM row a/\(match P.underlying t with | some (.struct _)=>v = .agg a | _=>a=[v])
theorem M5 {κ:Io}{n:Nat}{t:TypeId}{row:List CT}(g:lW P n t=some row) {base:Nat}{v:Value}(f:Value.okWide P W .any base t v) {d:DataW H}{ps:List MemPlace}(h:DataW.Trod enc P W 0 (λ_=>true) true t v d ps)
 (q:∀ b o,MemPlace.cell b o∈ps->κ b o):∃ lv,y6 P n t lv/\Rv uL κ W lv v:=by
 obtain⟨p,r⟩:=h;obtain⟨m,h1,h2⟩:=M4 g r q;have l:(∀ x,v≠.agg x)->(∀ fs,P.underlying t≠some (.struct fs))->∃ lv,y6 P n t lv/\Rv uL κ W lv v:=λs hs=>by
  have u:v.cells.toList=[v]:=by
   cases v<;>first | rfl | exact absurd rfl (s _)
  rw[u]at h2;match m,h2.1 with
  | [lv],_=>
    refine⟨lv,⟨row,[lv],g,h1,?_⟩,by simpa using (h2.2 0 (by simp)).1⟩;split
    ·rename_i fs c;exact absurd c (hs fs)
    ·rfl
 cases n with
 | zero=>cases g
 | succ n=>
   have j:=g;unfold lW at g;unfold Value.okWide at f;split at g
   ·rename_i a;rw[a]at f;refine l (λx=>?_) (λfs c=>by rw[a]at c;cases c);rintro rfl;simp[Cell.okWide,a,Cell.ok]at f
   ·rename_i k a;rw[a]at f;refine l (λx=>?_) (λfs c=>by rw[a]at c;cases c);rintro rfl;simp[Cell.okWide,a,Cell.ok]at f
   ·rename_i a;rw[a]at f;refine l (λx=>?_) (λfs c=>by rw[a]at c;cases c);rintro rfl;simp[Cell.okWide,a,Cell.ok]at f
   ·rename_i e a;rw[a]at f;refine l (λx=>?_) (λfs c=>by rw[a]at c;cases c);rintro rfl;simp[Cell.okWide,a,Cell.ok]at f
   ·rename_i fs a;rw[a]at f;obtain⟨cs,rfl,-,-⟩:=f;refine⟨.agg m,⟨row,m,j,h1,by rw[a]⟩, .agg (by have:=h2.1;simpa[Value.cells] using this.symm) λi w=>?_⟩;have:=(h2.2 i (by rw[<- h2.1];exact w)).1;simpa[Value.cells,gD,gF] using this
   ·cases g
inductive qW (P:Program) (n:Nat):List TypeId->List LV->Prop
  | nil:qW P n [] []
  | cons {t:TypeId}{v:LV}{ts:List TypeId}{vs:List LV}(h:y6 P n t v) (hs:qW P n ts vs):qW P n (t::ts) (v::vs)
theorem JL {κ:Io}{n base:Nat} : ∀ {a:List TypeId}{vs:List Value}{ds:List (DataW H)}{ps:List MemPlace},(∀ t∈a,(lW P n t).isSome=true)->DataW.TrodAll enc P W 0 (λ_=>true) true a vs ds ps ->
 (∀ (j:Nat) t v,a[j]? = some t->vs[j]? = some v->Value.okWide P W .any base t v)->(∀ b o,MemPlace.cell b o∈ps->κ b o) ->
 ∃ c,qW P n a c/\c.length=vs.length/\∀ i,i<vs.length->Rv uL κ W (c.getD i .top) (vs.getD i undef):=by
 intro a;induction a with
 | nil=>
   intro vs ds ps _ h _ _;obtain⟨rfl,rfl,rfl⟩:=trodAll_nil h;exact⟨[], .nil,rfl,λi e=>absurd e (Nat.not_lt_zero _)⟩
 | cons t a ih=>
   intro vs ds ps g h k l;obtain⟨v,m,d,y,p,q,rfl,rfl,rfl,h0,h1⟩:=trodAll_cons h;obtain⟨row,r⟩:=Option.isSome_iff_exists.1 (g t (by simp));obtain⟨lv,g1,g2⟩:=M5 r (k 0 t v rfl rfl) h0 (λb o hm=>l b o (by simp[hm]));obtain⟨c,g3,s,u⟩:=ih (λt w=>g t (by simp[w])) h1 (λj t v x f=>k (j+1) t v (by simpa using x) (by simpa using f)) (λb o hm=>l b o (by simp[hm]));refine⟨lv::c, .cons g1 g3,by simp[s],λi e=>?_⟩;cases i with
   | zero=>simpa using g2
   | succ i=>simpa using u i (by simpa using e)
theorem Lz {refs : List Nat}{f : FuncId}{fn : Func}{lf : aZ}{args : List LV}{Q : LV -> Prop}{κ : Io}(hglob : ∀ x ∈ G, Rv uL κ W (.aX x.2 0) (.pointer (some ⟨x.1, 0, none⟩))) (hf : P.funcs[f]? = some fn) (hn : (fn.name == "runtime.NumGoroutine") = false)
 (hc:aF P G refs fn=some lf) (hlen:args.length<=lf.ntmps)
 (h:aQ P G false lf.ntmps lf.body (eV args) St.empty (λo e s'=>(o = .normal∨o = .jmp .ret)/\∃ v,br lf.results e s'=some v/\Q v))
 {cp:Array Value}(Gy:∀ b o,κ b o->∃ v,W.cell? ⟨b,o,none⟩=some v) (lS:cp.size=args.length) (x5:∀ i,i<args.length->Rv uL κ W (args.getD i .top) (cp.getD i undef)) (hown:BN G=false) :
 Calls P f cp W λe W'=>∃ lv v bT bW,e = .returned v/\Q lv/\Below W.heap.size W W'/\Rv bT bW W' lv v:=by
 intro cs;unfold aF at hc;obtain⟨body,vO,hc⟩:=bind_some hc;obtain⟨Ss,OJ,hc⟩:=bind_some hc;cases hc;let w0:Bs:=⟨W,κ⟩;have hN:CF P G w0 uL κ (λ_=>False) St.empty W:=by
  refine⟨⟨Below.refl _ _,λid p hp=>(by cases hp),Gy,λid b p _ hp=>(by cases hp),λ_ _ _ _ _ _ hb=>(by cases hb),λ_ hr=>hr.elim,λb o hi _=>hi,λb o hi hb=>by obtain⟨v,hv⟩:=Gy b o hi;have:=uj hv;exact absurd hb (by show ¬ W.heap.size<=b;omega)⟩,hglob,λho=>by rw[hown]at ho;cases ho⟩
 let b:Frame:={ (default:Frame) with fn:=f,kind:=.normal,roundOf:=none };let a:Act:={ tmps:=cp++Array.replicate (fn.ntmps - cp.size) undef,defers:=[] };have og:Frame.enter P f cp .normal=b.atR a [.code body]:=by
  simp[Frame.enter,Frame.atR,hf,vO,a,b]
 have hF:Fr P G w0 uL κ (λ_=>False) St.empty W fn.ntmps (eV args) a:=by
  refine⟨hN,λt=>?_,by simp only[a,Array.size_append,Array.size_replicate];simp only at hlen;omega⟩;rw[bM];by_cases ht:t<args.length
  ·have:=x5 t ht;have hx:a.tmps.getD t undef=cp.getD t undef:=by
    simp only[a,gF];rw[Array.getElem?_append_left om]
   rw[hx];exact this
  ·rw[gD,List.getElem?_eq_none om];exact .top _
 obtain⟨o,e',s',bT,bW,lI,w1,a',⟨ho,v,hv,q⟩,ja,TC,hW⟩:=h body ⟨refs,rfl⟩ w0 uL κ (λ_=>False) W b a [] cs rfl hF;have kH:∃ todo,Steps P (lone (b.atR a [.code body]) cs W) (lone { b.atR a' todo with mode:=.returning } cs w1):=by
  rcases ho with rfl | rfl
  ·exact⟨[],Steps.trans ja (.one (stepR_end rfl))⟩
  ·obtain⟨k',ja⟩:=ja;exact⟨_,Steps.trans ja (.one (stepR_ret rfl))⟩
 obtain⟨todo,oN⟩:=kH;obtain⟨rs,hd,gK,W1,Wt⟩:=hW.marks;obtain⟨w2,B9,I2,x2⟩:=sQ (P:=P) (fr:={ b.atR a' todo with mode:=.returning }) (cs:=cs) rfl rs lI w1 gK W1 Wt TC.now.inv;have Xm:{ b.atR a' todo with mode:=FrameMode.returning } = { ({ b.atR a' todo with mode:=FrameMode.returning } : Frame) with defers:=rs.map mark } := by
  have:a'.defers=rs.map mark:=by rw[hd];simp[a]
  simp[Frame.atR,this]
 rw[Xm]at oN;have hx:Ext uL κ (λ_=>False) W bT bW (λ_=>False) w2:=⟨hW.ext.mu,hW.ext.io,λb o hi=>(x2.cell b o (hW.ext.io b o hi)).trans (hW.ext.cell b o hi),Nat.le_trans hW.ext.size x2.size,λ_ h=>h⟩;have Fz:Fr P G w0 bT bW (λ_=>False) s' w2 fn.ntmps e' a':=⟨hN.ext I2 hx,λt=>(TC.re t).mono x2.cell (λ_ _ h=>h) (λ_ _ h=>h),TC.size⟩;obtain⟨x,o7,mY⟩:=HX (c:=⟨P,G,refs,fn.ntmps⟩) rfl OJ Fz hv;refine⟨.returned x,w2,{ ({ b.atR a' todo with mode:=FrameMode.returning } : Frame) with defers:=[] },⟨v,x,bT,bW,rfl,q,I2.below,mY⟩,?_,rfl,⟨rfl,rfl,rfl,fn,hf,o7⟩⟩;rw[og];exact Steps.trans oN B9
theorem Qf {refs : List Nat}{f : FuncId}{fn : Func}{lf : aZ}{args : List LV}{Q : LV -> Prop}{κ : Io}(hG : G = []) (hf : P.funcs[f]? = some fn) (hn : (fn.name == "runtime.NumGoroutine") = false)
 (hc:aF P G refs fn=some lf) (hlen:args.length<=lf.ntmps)
 (h:aQ P G false lf.ntmps lf.body (eV args) St.empty (λo e s'=>(o = .normal∨o = .jmp .ret)/\∃ v,br lf.results e s'=some v/\Q v))
 {cp:Array Value}(Gy:∀ b o,κ b o->∃ v,W.cell? ⟨b,o,none⟩=some v) (lS:cp.size=args.length) (x5:∀ i,i<args.length->Rv uL κ W (args.getD i .top) (cp.getD i undef)) :
 Calls P f cp W λe W'=>∃ lv v bT bW,e = .returned v/\Q lv/\Below W.heap.size W W'/\Rv bT bW W' lv v:=
 Lz (λx hx=>by rw[hG]at hx;cases hx) hf hn hc hlen h Gy lS x5 (by rw[hG];rfl)
end
section
variable {P:Program}{H:Type}{enc:TypeId × Value->H}{W W':World}
theorem zk (hl:laidOutB P=true) (f:Below W.heap.size W W') {sp:Nat->Bool} : ∀ {a:List TypeId}{vs:List Value}{ds:List (DataW H)}{ps:List MemPlace},(∀ t∈a,P.readableRec t=true/\t<P.types.size) ->
 DataW.TrodAll enc P W 0 (λ_=>true) true a vs ds ps->(∀ p∈ps,p.block<W.heap.size)->(∀ p∈ps,sp p.block=true)->DataW.TrodAll enc P W' 0 sp true a vs ds ps:=by
 intro a;induction a with
 | nil=>
   intro vs ds ps _ h _ _;obtain⟨rfl,rfl,rfl⟩:=trodAll_nil h;exact rfl
 | cons t a ih=>
   intro vs ds ps b h c e;obtain⟨v,g,d,j,p,q,rfl,rfl,rfl,h0,h1⟩:=trodAll_cons h;exact⟨p,q,WideElems.Trod_stays hl (b t (by simp)).1 (b t (by simp)).2 h0 (λx hx=>f.same (c x (by simp[hx]))) (λx hx=>e x (by simp[hx])),
    ih (λt i=>b t (by simp[i])) h1 (λx hx=>c x (by simp[hx])) (λx hx=>e x (by simp[hx])),rfl⟩
theorem Da {base:Nat}{sp:Nat->Bool}{b:Bool} : ∀ {a:List TypeId}{vs:List Value}{ds:List (DataW H)}{ps:List MemPlace},DataW.TrodAll enc P W base sp b a vs ds ps->vs.length=a.length/\ds.length=a.length:=by
 intro a;induction a with
 | nil=>intro vs ds ps h;obtain⟨rfl,rfl,rfl⟩:=trodAll_nil h;exact⟨rfl,rfl⟩
 | cons t a ih=>
   intro vs ds ps h;obtain⟨v,c,d,e,p,q,rfl,rfl,rfl,h0,h1⟩:=trodAll_cons h;have:=ih h1;exact⟨by simp[this.1],by simp[this.2]⟩
theorem JR {f:Func}{s:ChangeSpec}{apart fresh handsOn again:Bool}{args:Array Value}{ds gs:List (DataW H)}{before:List MemPlace}{tb:TypeId}
 (i:DataW.Whole enc P f.params.toList s.vars apart W args.toList ds gs before) (j:s.vars=[]) (w:∀ ds:List (DataW H),ds.length=f.params.size->s.fn H ds = { results:=[.lit (.bool true)],args:=ds })
 (k:f.resultTypes = #[tb]) (c:P.underlying tb=some .bool) (hl:laidOutB P=true) (y:∀ t∈f.params.toList,P.readableRec t=true/\t<P.types.size) (g:Below W.heap.size W W') :
 s.post enc P f apart fresh handsOn again W args (.bool true) W':=by
 have a:=i;obtain⟨p,q,l,m,rfl,z,A⟩:=i;rw[j]at m;obtain⟨rfl,rfl⟩:=trodVars_none m;have d:=(Da l).2;have h:=w ds (by simpa using d);have n:∀ x∈p,x.block<W.heap.size:=λx hx=>a.lt x (by simpa using hx);have o:∀ (b:Nat) (sp:Nat->Bool) (r:Bool),DataW.TrodAll enc P W' b sp r f.resultTypes.toList ((Value.bool true).resultList f.resultTypes.size) (s.fn H (ds++[])).results []:=λb sp r=>by
  rw[List.append_nil,h,k];exact trodAll_cons_mk (shut_bool c _) trodAll_mk0
 have u:∀ sp:Nat->Bool,(∀ x∈p,sp x.block=true)->DataW.TrodAll enc P W' 0 sp true f.params.toList args.toList (s.fn H (ds++[])).args p:=λsp hs=>by
  rw[List.append_nil,h];exact zk hl g y l n hs
 have v:∀ sp:Nat->Bool,DataW.TrodVars enc P W' sp s.vars (s.fn H (ds++[])).vars []:=λsp=>by
  rw[List.append_nil,h,j];rfl
 have e:∀ x∈p++[],(λb=>decide (b<W.heap.size)) x.block=true:=λx hx=>by simpa using a.lt x hx
 refine⟨ds,[],p++[],[],p,[],a,o _ _ _,u _ (λx hx=>e x (by simpa using hx)),v _,World.keptBut_mono (λx hx=>⟨hx,by simpa using hx⟩) (g.frame _),λ_=>?_⟩;refine⟨ok_one k rfl (okWide_bool_mk c _),_,_,([]++p)++[],⟨[]++p,[],trodAll_append (u _ (λ_ _=>rfl)) (o _ _ _),v _,rfl,?_,?_⟩,?_⟩
 ·intro b off B;have hm:MemPlace.cell b off∈p:=by simpa using B
  rw[g.frozen (p:=⟨b,off,none⟩) (n _ hm)];exact z b off (by simpa using hm)
 ·intro C;have:=A C;simpa using this
 ·intro x hx _;simpa using hx
def VG (P:Program) (k:Nat) (args:List LV):Prop:=
 ∃ fn refs lf, P.funcs[k]? = some fn /\ (fn.name == "runtime.NumGoroutine") = false /\ aF P [] refs fn = some lf /\ args.length <= lf.ntmps /\
   aQ P [] false lf.ntmps lf.body (eV args) St.empty (λo e s'=>(o = .normal∨o = .jmp .ret)/\br lf.results e s'=some (.bool true))
theorem Rv.strict {μ:Mu}{ι:Io}{w:World}{v:LV}{x:Value}(h:Rv μ ι w v x):Rv μ (λb o=>ι b o/\∃ u,w.cell? ⟨b,o,none⟩=some u) w v x:=by
 induction h with
 | top v=>exact .top v
 | bool b=>exact .bool b
 | int k n=>exact .int k n
 | str s=>exact .str s
 | agg hl _ ih=>exact .agg hl ih
 | cy hl _ ih=>exact .cy hl ih
 | eu=>exact .eu
 | aX vs d e h1 _ ih=>exact .aX vs d (λi h=>⟨e i h,_,d i h⟩) h1 ih
 | aH c=>exact .aH c
 | aj=>exact .aj
 | zs a=>exact .zs a
 | aB vs d e h1 _ f ih=>exact .aB vs d (λi h=>⟨e i h,_,d i h⟩) h1 ih f
 | aD c g f j=>exact .aD c g f j
 | fn hl l _ _ ih m=>exact .fn hl l ih m
 | jh=>exact .jh
 | qp c=>exact .qp c
 | q5 _ ih=>exact .q5 ih
 | ld=>exact .ld
 | bN=>exact .bN
 | aI c=>exact .aI c
theorem BZ {k n:Nat}{f:Func}{s:ChangeSpec}{apart fresh handsOn again:Bool}{tb:TypeId}{base:Nat}{args:Array Value}{ds gs:List (DataW H)}{before:List MemPlace}
 (c:s.vars=[]) (x:∀ ds:List (DataW H),ds.length=f.params.size->s.fn H ds = { results:=[.lit (.bool true)],args:=ds })
 (y:f.resultTypes = #[tb]) (l:P.underlying tb=some .bool) (hl:laidOutB P=true) (z:∀ t∈f.params.toList,P.readableRec t=true/\t<P.types.size) (A:∀ t∈f.params.toList,(lW P n t).isSome=true)
 (a:∀ d,qW P n f.params.toList d->VG P k d)
 (B:∀ (j:Nat) t v,f.params[j]? = some t->args[j]? = some v->Value.okWide P W .any base t v)
 (u:DataW.Whole enc P f.params.toList s.vars apart W args.toList ds gs before) :
 Calls P k args W λe W'=>∃ v,e = .returned v/\s.post enc P f apart fresh handsOn again W args v W':=by
 have m:=u;obtain⟨p,q,C,w,rfl,M,N⟩:=u;rw[c]at w;obtain⟨rfl,rfl⟩:=trodVars_none w;let κ:Io:=λb o=>MemPlace.cell b o∈p/\∃ v,W.cell? ⟨b,o,none⟩=some v;let r:Io:=λb o=>MemPlace.cell b o∈p;obtain⟨d,h1,h2,h3⟩:=JL (κ:=r) A C (λj t v D c=>B j t v (by simpa using D) (by simpa using c)) (λb o h=>h);obtain⟨fn,refs,O,g1,g2,g3,E,F⟩:=a d h1;have I:∀ b o,κ b o->∃ v,W.cell? ⟨b,o,none⟩=some v:=λb o h=>h.2;refine (Qf (Q:=λv=>v = .bool true) (κ:=κ) rfl g1 g2 g3 E (aQ.mono F λo e s' g=>⟨g.1,_,g.2,rfl⟩) I (cp:=args) (by rw[h2];simp) (λi J=>?_)).mono λe W' g=>?_
 ·have:=h3 i (by rw[<- h2];exact J);have hs:=this.strict;simpa[gD,gF] using hs
 ·obtain⟨lv,v,R,T,rfl,rfl,K,L⟩:=g;cases L;exact⟨_,rfl,JR m c x y l hl z K⟩
end
open Go
section
variable {P:Program}{G:bG}
def vY (p:Prop):Prop:=p
theorem vY.mk {p:Prop}(h:p):vY p:=h
def oK (P:Program) (G:bG) (fl:Bool) (o:aR) (e:Env) (s:St) (R:LV->St->Prop):Prop:=
 match o with
 | .call f as=>aJ P G (f.ev e) (as.map (·.ev e)) s λv s=>vY (R v s)
 | .ku x=>jq (x.ev e) s λv s=>vY (R v s)
 | .bin op x y=>
   match iA op (x.ev e) (y.ev e) with
   | some (.bool a)=>∀ b,a=b->vY (R (.bool b) s)
   | some v=>R v s
   | none=>False
 | .eq neg t x y=>
   match jP t (x.ev e) (y.ev e) with
   | some a=>∀ b,(if neg then !a else a)=b->vY (R (.bool b) s)
   | none=>False
 | o=>
   match o.run e s with
   | some (v,s')=>dA fl o e=true/\R v s'
   | none=>False
def wpOps (P:Program) (G:bG) (K:Env->St->Prop):List bx->Env->St->Prop
 | [],e,s=>K e s
 | o::l,e,s=>
   match aE o.guard e with
   | none=>False
   | some false=>wpOps P G K l (e.put o.dst (.cy [])) s
   | some true=>oK P G o.fl o.op e s (λv s'=>cH o.m8 (e.put o.dst v) s'/\wpOps P G K l (e.put o.dst v) s')
theorem ML {fl:Bool}{o:aR}{e:Env}{s:St}{R:LV->St->Prop}(h:oK P G fl o e s R):pe P G fl o e s R:=by
 cases o
 case call f as=>exact h
 case ku x=>exact h
 case PZ n x y=>exact (show False from h).elim
 case bin op x y=>
  simp only[oK]at h;simp only[pe,aR.run];split at h
  ·rename_i b a;rw[a];exact⟨rfl,h b rfl⟩
  ·rename_i v dH c;rw[c];exact⟨rfl,h⟩
  ·exact h.elim
 case eq neg t x y=>
  simp only[oK]at h;simp only[pe,aR.run];split at h
  ·rename_i b a;rw[a];exact⟨rfl,h _ rfl⟩
  ·exact h.elim
 all_goals exact h
theorem Mn {K:Env->St->Prop} : ∀ {l:List bx}{e:Env}{s:St},wpOps P G K l e s->dy P G l e s K:=by
 intro l;induction l with
 | nil=>intro e s h;exact h
 | cons o l ih=>
   intro e s h;simp only[wpOps]at h;simp only[dy];cases a:aE o.guard e with
   | none=>rw[a]at h;exact h.elim
   | some b=>
     rw[a]at h;cases b with
     | false=>exact ih h
     | true=>exact (ML h).mono λv s c=>⟨c.1,ih c.2⟩
theorem JO (hm:P.follows .mixedOrders=true) {rd:Bool}{nt:Nat}{l:List bx}{e:Env}{s:St}{Q:Out->Env->St->Prop}(h:wpOps P G (λe s=>Q .normal e s) l e s):aQ P G rd nt (.region l) e s Q:=Az hm (Mn h)
theorem uF {fl:Bool}{o:aR}{e:Env}{s s':St}{v:LV}{R:LV->St->Prop}(c:o.run e s=some (v,s')) (hs:dA fl o e=true) (h:R v s'):oK P G fl o e s R:=by
 cases o
 case call f as=>cases c
 case ku x=>cases c
 case bin op x y=>
  simp only[aR.run,Option.bind_eq_bind,Option.bind_eq_some_iff,Option.some.injEq,Prod.mk.injEq]at c;obtain⟨a,d,rfl,rfl⟩:=c;simp only[oK,d];split
  ·rename_i i heq;cases heq;intro b g;subst g;exact h
  ·rename_i heq;cases heq;exact h
  ·rename_i heq;cases heq
 case eq neg t x y=>
  simp only[aR.run,Option.bind_eq_bind,Option.bind_eq_some_iff,Option.some.injEq,Prod.mk.injEq]at c;obtain⟨a,d,rfl,rfl⟩:=c;simp only[oK,d];intro b g;subst g;exact h
 all_goals (simp only[oK,c];exact⟨hs,h⟩)
theorem RM {d:Nat}{op:aR}{l:List bx}{K:Env->St->Prop}{e:Env}{s s':St}{v:LV}(a:op.run e s=some (v,s')) (h:wpOps P G K l (Tr.set e d v) s'):wpOps P G K (⟨some d,op,none,[],false⟩::l) e s:=by
 simp only[wpOps,aE];exact uF a (by unfold dA;split<;>simp) ⟨trivial,h⟩
theorem RL {op:aR}{l:List bx}{K:Env->St->Prop}{e:Env}{s s':St}{v:LV}(a:op.run e s=some (v,s')) (h:wpOps P G K l e s'):wpOps P G K (⟨none,op,none,[],false⟩::l) e s:=by
 simp only[wpOps,aE];exact uF a (by unfold dA;split<;>simp) ⟨trivial,h⟩
theorem Im {o:bx}{l:List bx}{K:Env->St->Prop}{e:Env}{s s':St}{v:LV}(a:aE o.guard e=some true) (b:o.op.run e s=some (v,s')) (hs:dA o.fl o.op e=true) (c:cH o.m8 (e.put o.dst v) s') (h:wpOps P G K l (e.put o.dst v) s'):wpOps P G K (o::l) e s:=by
 simp only[wpOps,a];exact uF b hs ⟨c,h⟩
theorem xF {o:bx}{l:List bx}{K:Env->St->Prop}{e:Env}{s:St}(a:aE o.guard e=some false) (h:wpOps P G K l (e.put o.dst (.cy [])) s):wpOps P G K (o::l) e s:=by
 simp only[wpOps,a];exact h
theorem RO {d:Nat}{op:BinOp}{x y:bz}{g:Option (Nat × Bool)}{fl:Bool}{l:List bx}{K:Env->St->Prop}{e:Env}{s:St}{a:Bool}(c:aE g e=some true) (f:iA op (x.ev e) (y.ev e)=some (.bool a))
 (h:∀ b,a=b->wpOps P G K l (Tr.set e d (.bool b)) s):wpOps P G K (⟨some d, .bin op x y,g,[],fl⟩::l) e s:=by
 simp only[wpOps,c,oK,f];intro b i;exact⟨trivial,h b i⟩
theorem V6 {d:Nat}{neg:Bool}{t:cL}{x y:bz}{g:Option (Nat × Bool)}{fl:Bool}{l:List bx}{K:Env->St->Prop}{e:Env}{s:St}{a:Bool}(c:aE g e=some true) (f:jP t (x.ev e) (y.ev e)=some a)
 (h:∀ b,(if neg then !a else a)=b->wpOps P G K l (Tr.set e d (.bool b)) s):wpOps P G K (⟨some d, .eq neg t x y,g,[],fl⟩::l) e s:=by
 simp only[wpOps,c,oK,f];intro b i;exact⟨trivial,h b i⟩
theorem td {o:bx}{f:bz}{as:List bz}{l:List bx}{K:Env->St->Prop}{e:Env}{s:St}(ho:o.op = .call f as) (a:aE o.guard e=some true)
 (h:aJ P G (f.ev e) (as.map (·.ev e)) s (λv s'=>cH o.m8 (e.put o.dst v) s'/\wpOps P G K l (e.put o.dst v) s')):wpOps P G K (o::l) e s:=by
 simp only[wpOps,a,ho,oK];exact h
theorem RN (a:∀ x∈G,LV.closed.aq x.2=true) {dst:Option Nat}{g:Option (Nat × Bool)}{m8:List (Nat × Option (Nat × Bool) × aR)}{fl:Bool}{as:List bz}{vs:List LV}{fv r:LV}{l:List bx}{K:Env->St->Prop}{e:Env}{s:St}(b:eB P G fv vs r) (d:aE g e=some true) (f:as.map (·.ev e)=vs)
 (i:cH m8 (e.put dst r) s) (h:wpOps P G K l (e.put dst r) s):wpOps P G K (⟨dst, .call (.c fv) as,g,m8,fl⟩::l) e s:=by
 refine td rfl d ?_;rw[f];exact ij a b ⟨i,h⟩
theorem JP (a:∀ x∈G,LV.closed.aq x.2=true) {dst:Option Nat}{g:Option (Nat × Bool)}{m8:List (Nat × Option (Nat × Bool) × aR)}{fl:Bool}{as:List bz}{vs:List LV}{fv:LV}{R:LV->Prop}{l:List bx}{K:Env->St->Prop}{e:Env}{s:St}(b:qj P G fv vs R) (d:aE g e=some true) (f:as.map (·.ev e)=vs)
 (h:∀ r,R r->r.closed=true->cH m8 (e.put dst r) s/\wpOps P G K l (e.put dst r) s):wpOps P G K (⟨dst, .call (.c fv) as,g,m8,fl⟩::l) e s:=by
 refine td rfl d ?_;rw[f];exact lZ a b h
theorem Nl (d:∀ x∈G,LV.closed.aq x.2=true) {dst:Option Nat}{g:Option (Nat × Bool)}{m8:List (Nat × Option (Nat × Bool) × aR)}{fl:Bool}{as:List bz}{vs:List LV}{fv:LV}{a:Bool}{l:List bx}{K:Env->St->Prop}{e:Env}{s:St}(f:eB P G fv vs (.bool a)) (i:aE g e=some true) (j:as.map (·.ev e)=vs)
 (h:∀ b,a=b->cH m8 (e.put dst (.bool b)) s/\wpOps P G K l (e.put dst (.bool b)) s):wpOps P G K (⟨dst, .call (.c fv) as,g,m8,fl⟩::l) e s:=by
 refine td rfl i ?_;rw[j];exact ij d f (h a rfl)
theorem Nm {rd:Bool}{nt:Nat}{x:bz}{a b:bp}{e:Env}{s:St}{Q:Out->Env->St->Prop}(hx:x.ev e = .bool true) (h:aQ P G rd nt a e s Q):aQ P G rd nt (.cond x a b) e s Q:=BP hx h
theorem Nn {rd:Bool}{nt:Nat}{x:bz}{a b:bp}{e:Env}{s:St}{Q:Out->Env->St->Prop}(hx:x.ev e = .bool false) (h:aQ P G rd nt b e s Q):aQ P G rd nt (.cond x a b) e s Q:=BP hx h
inductive Sl:LV->List LV->Nat->Prop
  | nil:Sl .aj [] 0
  | zs:Sl .zs [] 0
  | aB (cs:List LV) (n:Nat):Sl (.aB cs n) cs n
theorem Sl.len {v:LV}{cs:List LV}{n:Nat}(h:Sl v cs n):fm v=some n:=by cases h<;>rfl
theorem Sl.closed {v:LV}{cs:List LV}{n:Nat}(h:Sl v cs n) (a:LV.closed.aq cs=true):v.closed=true:=by cases h<;>simp[LV.closed,a]
theorem Sl.pos {v:LV}{cs:List LV}{n:Nat}(h:Sl v cs n) (a:0<n):v = .aB cs n:=by cases h<;>first | rfl | omega
theorem Sl.cell {v:LV}{cs:List LV}{n:Nat}(h:Sl v cs n):aV v=true:=by cases h<;>rfl
theorem g8 {n:Nat}{v:LV}{s:St}(h:v.closed=true):cK (n+1) v s=some (v,s):=by unfold cK;simp[h]
theorem bf {v:LV}{s:St}(h:v.closed=true):cK aY v s=some (v,s):=g8 h
theorem RP {k : Nat}{fn : Func}{refs : List Nat}{lf : aZ}{args : List LV}{r : LV}(hm : P.follows .mixedOrders = true) (hf : P.funcs[k]? = some fn) (hn : (fn.name == "runtime.NumGoroutine") = false) (hc : aF P G refs fn = some lf)
 (hlen:args.length<=lf.ntmps) (ha:LV.closed.aq args=true) (hr:r.closed=true)
 (h:aQ P G false lf.ntmps lf.body (eV args) St.empty (λo e s=>(o = .normal∨o = .jmp .ret)/\∃ v,br lf.results e s=some v/\∃ s',cK aY v s=some (r,s'))):eB P G (.fn (.func k) [] []) args r:=
 ⟨rfl,ha,hr,bL (first:=[]) (caps:=[]) hf hn hc (by simpa using hlen) (by simpa using h)⟩
theorem DE {k : Nat}{fn : Func}{refs : List Nat}{lf : aZ}{args : List LV}{r : LV}{t : Nat}(hm : P.follows .mixedOrders = true) (hf : P.funcs[k]? = some fn) (hn : (fn.name == "runtime.NumGoroutine") = false) (hc : aF P G refs fn = some lf)
 (hlen:args.length<=lf.ntmps) (ha:LV.closed.aq args=true) (hr:r.closed=true) (ht:lf.results=[.tmp t])
 (h:aQ P G false lf.ntmps lf.body (eV args) St.empty (λo e s=>(o = .normal∨o = .jmp .ret)/\e.at t=r)):eB P G (.fn (.func k) [] []) args r:=
 RP hm hf hn hc hlen ha hr (aQ.mono h λo e s hh=>⟨hh.1,r,by rw[ht];simp[br,bO,hh.2],s,bf hr⟩)
theorem F8 {k : Nat}{fn : Func}{refs : List Nat}{lf : aZ}{args : List LV}{R : LV -> Prop}{t : Nat}(hm : P.follows .mixedOrders = true) (hf : P.funcs[k]? = some fn) (hn : (fn.name == "runtime.NumGoroutine") = false) (hc : aF P G refs fn = some lf)
 (hlen:args.length<=lf.ntmps) (ha:LV.closed.aq args=true) (ht:lf.results=[.tmp t])
 (h:aQ P G false lf.ntmps lf.body (eV args) St.empty (λo e s=>(o = .normal∨o = .jmp .ret)/\∃ r s',cK aY (e.at t) s=some (r,s')/\r.closed=true/\R r)):qj P G (.fn (.func k) [] []) args R:=
 ⟨rfl,ha,bL (first:=[]) (caps:=[]) hf hn hc (by simpa using hlen) (by
  have h':=aQ.mono h (Q':=λo e s=>(o = .normal∨o = .jmp .ret)/\∃ v,br lf.results e s=some v/\∃ r s',cK aY v s=some (r,s')/\r.closed=true/\R r) (λo e s hh=>⟨hh.1,e.at t,by rw[ht];simp[br,bO],hh.2⟩);simpa using h')⟩
end
def ints (l:List Int):List LV:=l.map (LV.int .i64)
@[simp] theorem fT (l:List Int):(ints l).length=l.length:=by simp[ints]
theorem bD (l:List Int):LV.closed.aq (ints l)=true:=by
 induction l with
 | nil=>rfl
 | cons x l ih=>simpa[ints,LV.closed.aq,LV.closed] using ih
theorem bu {l:List Int}{i:Nat}(h:(i:Int)<(l.length:Int)):(ints l)[i]? = some (.int .i64 (l.getD i 0)):=by
 have h:i<l.length:=by omega
 simp[ints,gD,h]
def cF (x:Int):Prop:=-9223372036854775808<=x/\x<=9223372036854775807
structure aM (v:LV) (l:List Int):Prop where
  sl:Sl v (ints l) l.length
  len:l.length<=maxLen
  jd:∀ x∈l,cF x
structure dF (v:LV) (ls:List (List Int)) (vs:List LV):Prop where
  sl:Sl v vs ls.length
  Mr:vs.length=ls.length
  len:ls.length<=maxLen
  row:∀ i,i<ls.length->aM (vs.getD i .top) (ls.getD i [])
theorem aM.closed {v:LV}{l:List Int}(h:aM v l):v.closed=true:=h.sl.closed (bD l)
theorem kL:∀ {vs:List LV},(∀ i,i<vs.length->(vs.getD i .top).closed=true)->LV.closed.aq vs=true:=by
 intro vs;induction vs with
 | nil=>intro _;rfl
 | cons v vs ih=>
   intro h;simp only[LV.closed.aq,Bool.and_eq_true];exact⟨by simpa using h 0 (by simp),ih λi a=>by simpa using h (i+1) (by simpa using a)⟩
theorem dF.closed {v:LV}{ls:List (List Int)}{vs:List LV}(h:dF v ls vs):v.closed=true:=
 h.sl.closed (kL λi a=>(h.row i (by rw[<- h.Mr];exact a)).closed)
theorem dF.get {v:LV}{ls:List (List Int)}{vs:List LV}(h:dF v ls vs) {i:Nat}(hi:i<ls.length):vs[i]? = some (vs.getD i .top):=by
 rw[gD,gE (by rw[h.Mr];exact hi)];rfl
theorem tD (k:IntKind) (n:Int):aV (.int k n)=true:=rfl
theorem Oi (b:Bool):aV (.bool b)=true:=rfl
theorem SD (s:ByteArray):aV (.str s)=true:=rfl
theorem Og:aV .aj=true:=rfl
theorem Wq:aV .zs=true:=rfl
theorem Oc (cs:List LV) (n:Nat):aV (.aB cs n)=true:=rfl
theorem Ob (i o n e:Nat):aV (.aD i o n e)=true:=rfl
theorem Od (i o:Nat):aV (.aH i o)=true:=rfl
theorem Oe (cs:List LV) (o:Nat):aV (.aX cs o)=true:=rfl
theorem Oh (i:Nat):aV (.aI i)=true:=rfl
theorem Wr (f:Fn) (a b:List LV):aV (.fn f a b)=true:=rfl
theorem jk (cs:List LV):cells? (.agg cs)=if cs.all aV then some cs else none:=rfl
theorem fY {v:LV}(h:aV v=true):cells? v=some [v]:=by cases v<;>first | rfl | cases h
def mM (aU:Nat) (v i:LV) (s:St):Option (LV × St) :=
 match v with
 | .aB cs len=>do let k <- idxOf len i;some (.aX cs (k*aU),s)
 | .aD id off len a=>do let k <- idxOf len i;if a=aU then some (.aH id (off+k*aU),s) else none
 | _=>none
theorem JH (aU:Nat) (x i:bz) (e:Env) (s:St):(aR.vI aU x i).run e s=mM aU (x.ev e) (i.ev e) s:=rfl
theorem cw {v:LV}{cs:List LV}{n:Nat}(h:Sl v cs n) {aU:Nat}{k:IntKind}{s:St}{i:Nat}(hi:(i:Int)<(n:Int)):mM aU v (.int k (i:Int)) s=some (.aX cs (i*aU),s):=by
 have a:i<n:=by omega
 rw[h.pos om];simp[mM,idxOf,a]
theorem iaI {v:LV}{cs:List LV}{n:Nat}(h:Sl v cs n) {aU:Nat}{k:IntKind}{s:St}{a:Int}(h0:0<=a) (hi:a<(n:Int)):mM aU v (.int k a) s=some (.aX cs (a.toNat*aU),s):=by
 rw[h.pos om];simp[mM,idxOf,h0,hi]
theorem dI {i n:Nat}(h:(i:Int)<(n:Int)) (a:n<=maxLen):IntKind.i64.wrap ((i:Int)+1)=((i+1:Nat):Int):=by
 have hm:maxLen=9223372036854775807:=by decide
 rw[wrap_i64 _ om om];simp
theorem bE {α:Type}{l:List α}{i:Nat}{d:α}(h:i<l.length):l.getD i d∈l:=by
 simp[gD,h]
theorem uY {v:LV}(h:vi (.sl [.int .i64]) v):∃ l,aM v l:=by
 cases h with
 | nil=>exact⟨[], .nil,by simp,λx hx=>by cases hx⟩
 | zs=>exact⟨[], .zs,by simp,λx hx=>by cases hx⟩
 | sl b hs=>
   rename_i a;have key:∀ {a:List (List LV)},qn [.int .i64] a->∃ l:List Int,a.flatten=ints l/\l.length=a.length/\∀ x∈l,cF x:=by
    intro a;induction a with
    | nil=>intro _;exact⟨[],rfl,rfl,λx hx=>by cases hx⟩
    | cons r rs ih=>
      intro h;cases h with
      | cons h hs=>
        obtain⟨l,h1,h2,h3⟩:=ih hs;cases h with
        | cons h b=>
          cases b;cases h with
          | int c=>
            rename_i n;refine⟨n::l,by simp[ints,h1],by simp[h2],λx hx=>?_⟩;rcases List.mem_cons.1 hx with rfl | hx
            ·simpa[Lit.wf,IntKind.min,IntKind.max,IntKind.signed,IntKind.bits,cF] using c
            ·exact h3 x hx
   obtain⟨l,h1,h2,h3⟩:=key hs;refine⟨l,?_,by rw[h2];exact b,h3⟩;rw[h1,<- h2];exact .aB _ _
theorem Pd {v:LV}(h:vi (.int .i64) v):∃ n,v = .int .i64 n/\cF n:=by
 cases h with
 | int a=>exact⟨_,rfl,by simpa[Lit.wf,IntKind.min,IntKind.max,IntKind.signed,IntKind.bits,cF] using a⟩
theorem dF.tV {v:LV}{ls:List (List Int)}{vs:List LV}(h:dF v ls vs) {i:Nat}(hi:(i:Int)<(ls.length:Int)):vs[i]? = some (vs.getD i .top):=h.get om
theorem dF.Dj {v:LV}{ls:List (List Int)}{vs:List LV}(h:dF v ls vs) {i:Nat}(hi:(i:Int)<(ls.length:Int)):fm (vs.getD i .top)=some (ls.getD i []).length:=(h.row i om).sl.len
theorem dF.ria {v:LV}{ls:List (List Int)}{vs:List LV}(h:dF v ls vs) {i:Nat}(hi:(i:Int)<(ls.length:Int)) {aU:Nat}{k:IntKind}{s:St}{j:Nat}(a:(j:Int)<((ls.getD i []).length:Int)) :
 mM aU (vs.getD i .top) (.int k (j:Int)) s=some (.aX (ints (ls.getD i [])) (j*aU),s):=cw (h.row i om).sl a
end Go.Pv
end
