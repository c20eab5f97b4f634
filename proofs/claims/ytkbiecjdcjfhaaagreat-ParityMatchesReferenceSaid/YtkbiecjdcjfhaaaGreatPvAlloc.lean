/- Operations that make a row of cells. -/
import Derived.Test.YtkbiecjdcjfhaaaGreatPvComp
set_option linter.unusedSimpArgs false
set_option linter.unusedVariables false
set_option maxRecDepth 100000
set_option maxHeartbeats 16000000
section
namespace Go.Pv
open Go Go.RowKit
section
variable {w:World}{w0:Bs}{μ:Mu}{ι:Io}{δ:Nat->Prop}{s s':St}{cmp:Nat->bx->Code->Prop}{c:Ctx}{e:Env}{a:Act}{o:Oper}{v:LV}
theorem wrap_i64 (n:Int) (h0 : -9223372036854775808<=n) (h1:n<=9223372036854775807):IntKind.i64.wrap n=n:=by
 unfold IntKind.wrap;have b:(2 ^ 64:Int)=18446744073709551616:=by decide
 have d:(2 ^ (64 - 1):Int)=9223372036854775808:=by decide
 simp only[IntKind.bits,IntKind.signed,Bool.true_and,decide_eq_true_eq,b,d,ge_iff_le];split<;>omega
theorem eP (n:Nat) (z:List LV):(rep n z).length=n*z.length:=by
 induction n with
 | zero=>simp[rep]
 | succ n ih=>
   unfold rep at ih ⊢;rw[List.replicate_succ,List.flatten_cons,List.length_append,ih,Nat.succ_mul];omega
theorem OP (z:List LV):∀ (n i:Nat),i<n*z.length->(rep n z).getD i .top=z.getD (i % z.length) .top:=by
 intro n;induction n with
 | zero=>intro i h;omega
 | succ n ih=>
   intro i h;unfold rep at ih ⊢;rw[List.replicate_succ,List.flatten_cons];by_cases b:i<z.length
   ·rw[Nat.mod_eq_of_lt b];simp[gD,List.getElem?_append_left b]
   ·rw[Nat.succ_mul]at h;have:=ih (i - z.length) om;rw[gD,List.getElem?_append_right om,<- gD,this];congr 1;have h0:i - z.length+z.length=i:=by omega
    rw[<- Nat.add_mod_right,h0]
theorem mM {z:List LV}{b:Array Value}(d:Ra μ ι w z b) (g:0<z.length) (m l:Nat) (hl:l<=m) :
 l*z.length<=((Array.range (m*z.length)).map (b[· % b.size]!)).size /\
 ∀ i,i<l*z.length->Rv μ ι w ((rep l z).getD i .top) (((Array.range (m*z.length)).map (b[· % b.size]!)).getD i undef):=by
 have hm:l*z.length<=m*z.length:=Nat.mul_le_mul_right _ hl;refine⟨by simpa using hm,λi h=>?_⟩;rw[OP z l i h];have h2:=d.2 (i % z.length) (Nat.mod_lt _ g);have h3:i<m*z.length:=by omega
 have f:i % z.length<b.size:=by rw[d.1];exact Nat.mod_lt _ g
 rw[gF]at h2 ⊢;simp only[Array.getElem?_map,Array.getElem?_range,h3,if_true,Option.map_some,Option.getD_some,d.1];simp only[f,getElem?_pos,Option.getD_some]at h2;rw[getElem!_pos b (i % z.length) f];simpa[f,d.1] using h2
theorem Ra.one {cs:List LV}{vs:Array Value}(h:Ra μ ι w cs vs) (d:∀ y∈cs,bf y=true):∀ i,i<vs.size->(vs.getD i undef).oneCell'=true:=λi f=>by
 have b:i<cs.length:=by rw[<- h.1];exact f
 refine vW (h.2 i b) (d _ ?_);rw[gD,gE b,Option.getD_some];exact List.getElem_mem b
theorem Hf (new:List LV):∀ (cs:List LV) (off:Nat),(∀ y∈cs,bf y=true)->(∀ y∈new,bf y=true)->∀ y∈splice cs off new,bf y=true:=by
 induction new with
 | nil=>intro cs off h _;exact h
 | cons v new ih=>
   intro cs off h d;refine ih _ _ (λy b=>?_) (λy b=>d y (by simp[b]));rcases List.mem_or_eq_of_mem_set b with h1 | rfl
   ·exact h y h1
   ·exact d _ (by simp)
theorem AY {v:LV}{cs:List LV}(h:cells? v=some cs):∀ y∈cs,bf y=true:=by
 cases v<;>simp only[cells?,reduceCtorEq]at h
 case agg l=>
  split at h
  ·rename_i b;cases h;simpa using b
  ·cases h
 all_goals (cases h;simp[bf])
theorem nZ:∀ (ls:List (Nat × Nat × LV)) (cs cs':List LV),aU cs ls=some cs'->(∀ y∈cs,bf y=true)->(cs'.length=cs.length/\∀ y∈cs',bf y=true):=by
 intro ls;induction ls with
 | nil=>intro cs cs' h b;simp[aU]at h;rw[<- h];exact⟨rfl,b⟩
 | cons l ls ih=>
   intro cs cs' h d;obtain⟨off,size,v⟩:=l;simp only[aU]at h;cases b:cells? v with
   | none=>simp[b]at h
   | some vs=>
     simp only[b]at h;split at h
     ·obtain⟨h1,h2⟩:=ih _ _ h (Hf _ _ _ d (AY b));exact⟨by rw[h1,mX],h2⟩
     ·cases h
theorem JI {n:Nat}{z:List LV}(h:∀ y∈z,bf y=true):∀ y∈rep n z,bf y=true:=by
 intro y b;unfold rep at b;obtain⟨l,hl,b⟩:=List.mem_flatten.1 b;rw[(List.mem_replicate.1 hl).2]at b;exact h y b
def wO (c:Ctx) (a:Act) (o:Oper) (w:World) (T:TypeId) (arr:Array Value) (x:Value):Prop:=
 (execOp a.eval o).run c.P w = .ok (.value x) { w with heap:=w.heap.push (.cells arr T) }
theorem Bg {V:bq}(hm:Op.makes o.op=true) (hl:lX V=true) (b:bH c o=some V) (Q:Ho μ ι w c e a o) (d:V.run e s=some (v,s')) :
 ∃ cs arr T x,s'=s.new (.cells .mut cs)/\wO c a o w T arr x/\cs.length<=arr.size/\(∀ i,i<cs.length->Rv μ ι w (cs.getD i .top) (arr.getD i undef)) /\
   (∀ i,i<arr.size->(arr.getD i undef).oneCell'=true)/\∀ E F G,E s.n=some ⟨w.heap.size,0,arr.size⟩->Rv E F G v x:=by
 cases ho:o.op<;>rw[ho]at hm<;>(try (cases hm;done))<;>simp only[bH,ho]at b
 case alloc t=>
  obtain⟨z,I,b⟩:=bind_some b;cases b;cases d;obtain⟨A,J,m,H⟩:=nC (μ:=μ) (ι:=ι) (w:=w) I;refine⟨z,A.cells,t, .pointer (some ⟨w.heap.size,0,none⟩),rfl,?_,Nat.le_of_eq m.1.symm,m.2,m.one H,λE F G h=>?_⟩
  ·simp[wO,execOp,ho,Instr.alloc,J,newVar,newRow]
  ·exact .aO (off:=0) h
 case box t x=>
  obtain⟨y,X,b⟩:=bind_some b;cases b;have hx:=Q x y (by simp[ho,Op.operands]) X;unfold bq.run at d;split at d<;>simp only[lX,reduceCtorEq,bq.box.injEq] at * 
  ·rename_i h;rw[h.1]at hl;cases hl
  ·rename_i h;rw[<- h.2]at d;obtain⟨cs,KL,d⟩:=bind_some d;cases d;obtain⟨h1,h2,h3⟩:=iG hx KL;refine⟨cs,(a.eval x).cells,t, .pointer (some ⟨w.heap.size,0,none⟩),rfl,?_,Nat.le_of_eq h1.symm,h2,Ra.one (μ:=μ) (ι:=ι) (w:=w) ⟨h1,h2⟩ (by simpa using h3),λE F G h=>?_⟩
   ·simp[wO,execOp,ho,Instr.box,newVar,newRow]
   ·exact .aO (off:=0) h
 case buildSlice t len ps=>
  cases p:c.P.underlying t with
  | none=>simp[p]at b
  | some Y=>
    rw[p]at b;cases Y<;>simp only[reduceCtorEq]at b;rename_i K;obtain⟨q,kO,b⟩:=bind_some b;obtain⟨z,I,b⟩:=bind_some b;split at b
    ·cases b
    ·rename_i iP;simp only[not_or,Nat.not_lt,ne_eq,Decidable.not_not]at iP;obtain⟨Z,R,kI⟩:=iP;obtain⟨ls,SL,b⟩:=bind_some b;cases b;unfold bq.run at d;dsimp only at d;obtain⟨cs,S,d⟩:=bind_some d;cases d;obtain⟨A,J,m,H⟩:=nC (μ:=μ) (ι:=ι) (w:=w) I;have Fw:∀ x y,x∈ps.toList.map (·.2)->cP c x=some y->Rv μ ι w (y.ev e) (a.eval x):=λx y hx X=>Q x y (by simpa[ho,Op.operands] using hx) X;have QS:(ps.map λ(i,x)=>(i,a.eval x)).toList=iV a ps.toList:=by simp[iV]
     obtain⟨h1,h2⟩:=qd (μ:=μ) (ι:=ι) (w:=w) (e:=e) (a:=a) SL Fw;have L:len*q=0->Ra μ ι w (rep len z) ((Array.range (len*q)).map ((#[]:Array Value)[· % (#[]:Array Value).size]!)):=λh0=>by
      have M:len=0:=by
       rcases Nat.mul_eq_zero.1 h0 with h | h
       ·exact h
       ·exact absurd h Z
      subst M;exact⟨by simp[rep],λi r=>by simp[rep]at r⟩
     have N:Ra μ ι w (rep len z) ((Array.range (len*q)).map (A.cells[· % A.cells.size]!)):=by
      have u:0<z.length:=by omega
      obtain⟨k1,U⟩:=mM m u len len (Nat.le_refl _);rw[R]at k1 U;exact⟨by rw[eP,R];simp,λi r=>U i (by rw[eP,R]at r;exact r)⟩
     have hex:∃ f,Ra μ ι w cs f/\wO c a o w K f (.slice (some ⟨w.heap.size,0,none⟩) len len):=by
      by_cases h0:len*q=0
      ·obtain⟨f,SB,B⟩:=uK (place:=λi=>some (i*q,q)) _ _ _ _ _ (L h0) h1 h2 S;refine⟨f,B,?_⟩;simp only[wO,execOp,ho,Instr.buildSlice,Sem.run_bind,ru p,wT kO,Result.andThen_ok];rw[if_neg om,if_pos h0];simp only[Sem.run_pure,Sem.run_bind,Result.andThen_ok,QS,SB];simp[newRow]
      ·obtain⟨f,SB,B⟩:=uK (place:=λi=>some (i*q,q)) _ _ _ _ _ N h1 h2 S;refine⟨f,B,?_⟩;simp only[wO,execOp,ho,Instr.buildSlice,Sem.run_bind,ru p,wT kO,Result.andThen_ok];rw[if_neg om,if_neg h0];simp only[Sem.run_pure,Sem.run_bind,Result.andThen_ok,J,QS,SB];simp[newRow]
     obtain⟨f,B,ct⟩:=hex;refine⟨cs,f,K, .slice (some ⟨w.heap.size,0,none⟩) len len,rfl,ct,Nat.le_of_eq B.1.symm,B.2,B.one (nZ _ _ _ S (JI H)).2,λE F G h=>?_⟩
     ·refine .aE (off:=0) (off':=0) h ?_ (Nat.le_refl _) (λ_=>rfl);have:f.size=len*q:=by
       rw[B.1];have:cs.length=(rep len z).length:=(nZ _ _ _ S (JI H)).1;rw[this,eP,R]
      simp only;omega
 case makeSlice t l k=>
  cases p:c.P.underlying t with
  | none=>simp[p]at b
  | some Y =>
    rw[p]at b;cases Y<;>simp only[reduceCtorEq]at b;rename_i K;obtain⟨i,r,b⟩:=bind_some b;obtain⟨z,I,b⟩:=bind_some b;split at b
    ·cases b
    ·rename_i Z;obtain⟨ll,wZ,b⟩:=bind_some b;obtain⟨lk,hlk,b⟩:=bind_some b;cases b;have h1:=Q l ll (by simp[ho,Op.operands]) wZ;have h2:=Q k lk (by simp[ho,Op.operands]) hlk;unfold bq.run at d;dsimp only at d;generalize ll.ev e=vl at *;generalize lk.ev e=vk at *;generalize wE:a.eval l=al at *;generalize O:a.eval k=ak at *;cases h1<;>try (cases d;done)
     cases h2<;>try (cases d;done)
     rename_i kl C kk g;dsimp only at d;split at d
     ·rename_i hb;obtain⟨tL,fy,lJ,xG,MG⟩:=hb;cases d;obtain⟨A,J,m,H⟩:=nC (μ:=μ) (ι:=ι) (w:=w) I;have xB:IntKind.i64.wrap C=C:=by unfold big at xG;exact wrap_i64 _ om om
      have wk:IntKind.i64.wrap g=g:=by unfold big at xG;exact wrap_i64 _ om om
      have u:0<z.length:=by omega
      have kn:(g<0 || (i.bytes:Int)*g > 2 ^ 48)=false:=by
       unfold big at lJ;have RC:(i.bytes:Int)*g<=2 ^ 32:=by rw[Int.mul_comm];exact_mod_cast lJ
       simp only[Bool.or_eq_false_iff,decide_eq_false_iff_not];omega
      have WZ:g.toNat*i.size=g.toNat*z.length:=by rw[MG]
      obtain⟨k1,U⟩:=mM m u g.toNat C.toNat om;by_cases h0:g.toNat*i.size=0
      ·have jd:g.toNat=0:=by
        rcases Nat.mul_eq_zero.1 h0 with h | h
        ·exact h
        ·exact absurd h Z
       have Dc:C.toNat=0:=by omega
       refine⟨rep C.toNat z,#[],K, .slice (some ⟨w.heap.size,0,none⟩) C.toNat g.toNat,rfl,?_,by simp[Dc,rep],λj D=>by simp[Dc,rep]at D,λj D=>by simp at D,λE F G h=>?_⟩
       ·simp only[wO,execOp,ho,wE,O,Instr.makeSlice,Sem.run_bind,ru p,Lq r,Result.andThen_ok,asInt,asIntOf,Sem.run_pure,xB,wk,kn];rw[if_neg (by simp;omega)];simp only[Sem.run_bind,run_askRoom,Result.andThen_ok,sizeOf,Lq r,Sem.run_pure,h0,if_true];simp[newRow,show Array.range 0 = #[] from rfl]
       ·exact .aE (off:=0) (off':=0) h (by rw[jd];simp) om (λ_=>rfl)
      ·refine⟨rep C.toNat z,_,K, .slice (some ⟨w.heap.size,0,none⟩) C.toNat g.toNat,rfl,?_,by rw[eP];exact k1,λj D=>U j (by rw[eP]at D;exact D),λj D=>?_,λE F G h=>?_⟩
       ·simp only[wO,execOp,ho,wE,O,Instr.makeSlice,Sem.run_bind,ru p,Lq r,Result.andThen_ok,asInt,asIntOf,Sem.run_pure,xB,wk,kn];rw[if_neg (by simp;omega)];simp only[Sem.run_bind,run_askRoom,Result.andThen_ok,sizeOf,Lq r,Sem.run_pure,h0,if_false,J];simp[newRow,MG]
       ·have jg:j<g.toNat*z.length:=by simpa using D
        have FB:j % A.cells.size<A.cells.size:=Nat.mod_lt _ (by rw[m.1];exact u);have:=m.one H _ FB;rw[gF]at this ⊢;simp only[FB,getElem?_pos,Option.getD_some]at this;simp only[Array.getElem?_map,Array.getElem?_range,jg,if_true,Option.map_some,Option.getD_some];rw[getElem!_pos A.cells _ FB];exact this
       ·refine .aE (off:=0) (off':=0) h ?_ om (λ_=>rfl);simp[MG]
     ·cases d
end
section
variable {w:World}{w0:Bs}{μ:Mu}{ι:Io}{δ:Nat->Prop}{s s':St}{cmp:Nat->bx->Code->Prop}
structure iu (μ:Mu) (s s':St):Prop where
  n:s'.n=s.n
  cells:∀ id m cs,s.get id=some (.cells m cs)->∃ m' cs',s'.get id=some (.cells m' cs')/\cs'.length=cs.length/\(m'=m∨(m = .mut/\m' = .app))
  kept:∀ id,μ id=none->s'.get id=s.get id
theorem iu.refl (μ:Mu) (s:St):iu μ s s:=⟨rfl,λ_ m cs h=>⟨m,cs,h,rfl, .inl rfl⟩,λ_ _=>rfl⟩
theorem iu.trans {μ:Mu}{s s' b:St}(h:iu μ s s') (k:iu μ s' b):iu μ s b:=by
 refine⟨k.n.trans h.n,λid m cs d=>?_,λid hm=>(k.kept id hm).trans (h.kept id hm)⟩;obtain⟨f,c1,g1,l1,g⟩:=h.cells id m cs d;obtain⟨i,c2,g2,l2,j⟩:=k.cells id f c1 g1;refine⟨i,c2,g2,l2.trans l1,?_⟩;rcases g with rfl | ⟨rfl,rfl⟩<;>rcases j with rfl | ⟨h1,rfl⟩
 ·exact .inl rfl
 ·exact .inr ⟨h1,rfl⟩
 ·exact .inr ⟨rfl,rfl⟩
 ·cases h1
def XH (cmp:Nat->bx->Code->Prop) (w0:Bs) (μ:Mu) (δ:Nat->Prop) (w:World) (f:LV->St->Option (LV × St)):Prop:=
 ∀ (v:LV) (s:St) (v':LV) (s':St) (ι:Io) (x:Value),f v s=some (v',s')->Inv cmp w0 μ ι δ s w->Rv μ ι w v x ->
   ∃ b,Inv cmp w0 μ b δ s' w/\Ext μ ι δ w μ b δ w/\Rv μ b w v' x/\iu μ s s'
theorem iF {f:LV->St->Option (LV × St)}(l:XH cmp w0 μ δ w f):∀ (cs:List LV) (s:St) (cs':List LV) (s':St) (ι:Io) (xs:Nat->Value),
 cY.cM f cs s=some (cs',s')->Inv cmp w0 μ ι δ s w->(∀ i,i<cs.length->Rv μ ι w (cs.getD i .top) (xs i)) ->
 ∃ d,Inv cmp w0 μ d δ s' w/\Ext μ ι δ w μ d δ w/\cs'.length=cs.length/\(∀ i,i<cs.length->Rv μ d w (cs'.getD i .top) (xs i))/\iu μ s s':=by
 intro cs;induction cs with
 | nil=>
   intro s cs' s' ι xs h I _;cases h;exact⟨ι,I,Ext.refl _ _ _ _,rfl,λi b=>absurd b (Nat.not_lt_zero _),iu.refl _ _⟩
 | cons v cs ih=>
   intro s cs' s' ι xs h I g;simp only[cY.cM]at h;obtain⟨⟨m,s1⟩,h1,h⟩:=bind_some h;obtain⟨⟨r2,s2⟩,h2,h⟩:=bind_some h;cases h;obtain⟨n,p,j,q,f1⟩:=l v s m s1 ι (xs 0) h1 I (by simpa using g 0 (by simp));obtain⟨r,t,k,l2,u,f2⟩:=ih s1 r2 s2 n (λi=>xs (i+1)) h2 p (λi b=>(by simpa using g (i+1) (by simpa using b):Rv μ ι w (cs.getD i .top) (xs (i+1))).ext j);refine⟨r,t,j.trans k,by simp[l2],λi b=>?_,f1.trans f2⟩;cases i with
   | zero=>simpa using q.ext k
   | succ i=>simpa using u i (by simpa using b)
theorem zy : ∀ n, XH cmp w0 μ δ w (cY n) := by
 intro n;induction n with
 | zero=>intro v s v' s' ι x h;cases h
 | succ n ih =>
   intro v s v' s' ι x h I L;simp only[cY]at h;split at h
   ·cases h;exact⟨ι,I,Ext.refl _ _ _ _,L,iu.refl _ _⟩
   ·rename_i V;clear V;cases L<;>simp only[reduceCtorEq]at h
    case agg cs vs hl B=>
     obtain⟨⟨cs',s1⟩,h1,h⟩:=bind_some h;cases h;obtain⟨q,k,j,l1,g,f1⟩:=iF ih cs s cs' s1 ι (λi=>vs.getD i undef) h1 I B;exact⟨q,k,j, .agg (by rw[hl,l1]) (λi d=>g i (by rw[<- l1];exact d)),f1⟩
    case cE cs vs hl B=>
     obtain⟨⟨cs',s1⟩,h1,h⟩:=bind_some h;cases h;obtain⟨q,k,j,l1,g,f1⟩:=iF ih cs s cs' s1 ι (λi=>vs.getD i undef) h1 I B;exact⟨q,k,j, .cE (by rw[hl,l1]) (λi d=>g i (by rw[<- l1];exact d)),f1⟩
    case su t v x L=>
     obtain⟨⟨X,s1⟩,h1,h⟩:=bind_some h;cases h;obtain⟨q,k,j,g,f1⟩:=ih v s X s1 ι x h1 I L;exact⟨q,k,j, .su g,f1⟩
    case fn f Y Z va vb hl oe B wX =>
     obtain⟨⟨M,s1⟩,h1,h⟩:=bind_some h;obtain⟨⟨N,s2⟩,h2,h⟩:=bind_some h;cases h;obtain⟨q,k,j,l1,g,f1⟩:=iF ih Y s M s1 ι (λi=>va.getD i undef) h1 I B;obtain⟨C,D,u,l2,XT,f2⟩:=iF ih Z s1 N s2 q (λi=>vb.getD i undef) h2 k (λi d=>(wX i d).ext j);exact⟨C,D,j.trans u, .fn (by rw[hl,l1]) (by rw[oe,l2]) (λi d=>(g i (by rw[<- l1];exact d)).ext u) (λi d=>XT i (by rw[<- l2];exact d)),f1.trans f2⟩
    case aE id off len S cap p T y ia pM U=>
     split at h
     ·rename_i m cs E;split at h
      ·rename_i kH;obtain⟨⟨cs',s1⟩,h1,h⟩:=bind_some h;cases h;have O:=I.zN E y;have F:∀ i,∃ x,i<cs.length->(w.cell? ⟨p.b,p.off+i,none⟩=some x/\x.oneCell'=true/\Rv μ ι w (cs.getD i .top) x):=λi=>by
        by_cases d:i<cs.length
        ·obtain⟨x,hx⟩:=O i d;exact⟨x,λ_=>hx⟩
        ·exact⟨undef,λh=>absurd h d⟩
       let f:Nat->Value:=λi=>Classical.choose (F i);have r:∀ i,i<cs.length->(w.cell? ⟨p.b,p.off+i,none⟩=some (f i)/\(f i).oneCell'=true/\Rv μ ι w (cs.getD i .top) (f i)):=λi d=>Classical.choose_spec (F i) d;obtain⟨q,k,j,l1,g,f1⟩:=iF ih cs s cs' s1 ι f h1 I (λi d=>(r i d).2.2);obtain⟨G,c1,g1,l,H⟩:=f1.cells id m cs E;obtain⟨C,D,u,z⟩:=k.Hz (m':=if m = .mut then .app else m) (cs':=cs') g1 y (by rw[l1,l]) (by
        rcases H with rfl | ⟨rfl,rfl⟩
        ·by_cases hm:G = .mut
         ·subst hm;exact .inr ⟨rfl,rfl⟩
         ·rw[if_neg hm];exact .inl rfl
        ·exact .inl rfl) (λi x d hx=>by
        have:=r i (by rw[<- l];exact d);rw[this.1]at hx;cases hx;exact g i (by rw[<- l];exact d))
       have J:((cs'.drop off).take (len*S)).length=len*S:=by simp;omega
       refine⟨C,D,j.trans u,?_,f1.trans ⟨rfl,λK m' Q A=>?_,λK hm=>?_⟩⟩
       ·refine .aF (λi=>f (off+i)) (λi d=>?_) (λi d=>?_) (λi d=>?_) (λi d=>?_) pM<;>rw[J]at d
        ·have R : cap ≠ 0 := by rintro rfl; have : len = 0 := by omega
                                subst this;simp at d
         rw[U R,Nat.add_assoc];exact (r _ om).1
        ·have R : cap ≠ 0 := by rintro rfl; have : len = 0 := by omega
                                subst this;simp at d
         rw[U R,Nat.add_assoc];exact z (by cases m<;>simp) _ om
        ·exact (r _ om).2.1
        ·rw[dY _ _ _ _ d];exact (g _ om).ext u
       ·rw[St.az];by_cases e:K=id
        ·subst e;rw[g1]at A;cases A;refine⟨_,_,if_pos rfl,by rw[l1,l],?_⟩;rcases H with rfl | ⟨rfl,rfl⟩
         ·by_cases hm:G = .mut
          ·subst hm;exact .inr ⟨rfl,rfl⟩
          ·rw[if_neg hm];exact .inl rfl
         ·exact .inl rfl
        ·exact⟨m',Q,by rw[if_neg e];exact A,rfl, .inl rfl⟩
       ·rw[St.az,if_neg];rintro rfl;rw[y]at hm;cases hm
      ·cases h
     ·cases h
    case aO id off p y=>
     split at h
     ·rename_i m cs E;split at h
      ·rename_i kH;obtain⟨⟨cs',s1⟩,h1,h⟩:=bind_some h;cases h;have O:=I.zN E y;have F:∀ i,∃ x,i<cs.length->(w.cell? ⟨p.b,p.off+i,none⟩=some x/\x.oneCell'=true/\Rv μ ι w (cs.getD i .top) x):=λi=>by
        by_cases d:i<cs.length
        ·obtain⟨x,hx⟩:=O i d;exact⟨x,λ_=>hx⟩
        ·exact⟨undef,λh=>absurd h d⟩
       let f:Nat->Value:=λi=>Classical.choose (F i);have r:∀ i,i<cs.length->(w.cell? ⟨p.b,p.off+i,none⟩=some (f i)/\(f i).oneCell'=true/\Rv μ ι w (cs.getD i .top) (f i)):=λi d=>Classical.choose_spec (F i) d;obtain⟨q,k,j,l1,g,f1⟩:=iF ih cs s cs' s1 ι f h1 I (λi d=>(r i d).2.2);obtain⟨G,c1,g1,l,H⟩:=f1.cells id m cs E;obtain⟨C,D,u,z⟩:=k.Hz (m':=if m = .mut then .app else m) (cs':=cs') g1 y (by rw[l1,l]) (by
        rcases H with rfl | ⟨rfl,rfl⟩
        ·by_cases hm:G = .mut
         ·subst hm;exact .inr ⟨rfl,rfl⟩
         ·rw[if_neg hm];exact .inl rfl
        ·exact .inl rfl) (λi x d hx=>by
        have:=r i (by rw[<- l];exact d);rw[this.1]at hx;cases hx;exact g i (by rw[<- l];exact d))
       refine⟨C,D,j.trans u,?_,f1.trans ⟨rfl,λK m' Q A=>?_,λK hm=>?_⟩⟩
       ·refine .aY f (λi d=>(r i (by rw[<- l1];exact d)).1) (λi d=>z (by cases m<;>simp) i (by rw[l,<- l1];exact d)) (λi d=>(r i (by rw[<- l1];exact d)).2.1) (λi d=>(g i (by rw[<- l1];exact d)).ext u)
       ·rw[St.az];by_cases e:K=id
        ·subst e;rw[g1]at A;cases A;refine⟨_,_,if_pos rfl,by rw[l1,l],?_⟩;rcases H with rfl | ⟨rfl,rfl⟩
         ·by_cases hm:G = .mut
          ·subst hm;exact .inr ⟨rfl,rfl⟩
          ·rw[if_neg hm];exact .inl rfl
         ·exact .inl rfl
        ·exact⟨m',Q,by rw[if_neg e];exact A,rfl, .inl rfl⟩
       ·rw[St.az,if_neg];rintro rfl;rw[y]at hm;cases hm
      ·cases h
     ·cases h
end
section
variable {P:Program}{w:World}{w0:Bs}{μ:Mu}{ι:Io}{δ:Nat->Prop}{s s':St}{cmp:Nat->bx->Code->Prop}{c:Ctx}{e:Env}{a:Act}{o:Oper}{v:LV}
def sP (cmp:Nat->bx->Code->Prop) (w0:Bs) (μ:Mu) (ι:Io) (δ:Nat->Prop) (s:St) (w:World) (P:Program) (a:Act) (o:Oper) (v:LV) (s':St):Prop:=
 ∃ x b d f,((execOp a.eval o).run P w = .ok (.value x) b∨((execOp a.eval o).run P w = .ok .skip b/\x=undef)) /\
   Inv cmp w0 d f δ s' b/\Ext μ ι δ w d f δ b/\Rv d f b v x/\Kept μ s d s'
theorem Kept.trans {d:St}{f g:Mu}(h:Kept μ s f s') (k:Kept f s' g d):Kept μ s g d :=
 ⟨Nat.le_trans h.n k.n,λid b hm=>(k.get id (Nat.lt_of_lt_of_le b h.n) (h.free id b hm)).trans (h.get id b hm),
  λid b hm=>k.free id (Nat.lt_of_lt_of_le b h.n) (h.free id b hm)⟩
theorem Kept.CI (h:iu μ s s'):Kept μ s μ s':=⟨Nat.le_of_eq h.n.symm,λid _ hm=>h.kept id hm,λ_ _ h=>h⟩
theorem Mu.pS {k:Nat}{p:Place}{id:Nat}(h:id≠k) (hm:μ id=none):μ.nB k p id=none:=by rw[Mu.nB,if_neg h];exact hm
theorem Kept.new (b:jU) (p:Place):Kept μ s (μ.nB s.n p) (s.new b):=⟨by simp,λid d _=>by rw[St.aA,if_neg om],λid d hm=>Mu.pS om hm⟩
theorem Kept.put {id:Nat}{p:Place}(d:μ id=some p) (b:jU):Kept μ s μ (s.put id b):=⟨Nat.le_refl _,λj _ hm=>(by rw[St.az,if_neg];rintro rfl;rw[d]at hm;cases hm),λ_ _ h=>h⟩
theorem Kc (I:Inv cmp w0 μ ι δ s w) (h:dK μ ι w P a o v):sP cmp w0 μ ι δ s w P a o v s:=
 let ⟨x,hx,b⟩:=h;⟨x,w,μ,ι, .inl hx,I,Ext.refl _ _ _ _,b,Kept.refl _ _⟩
theorem Yc (I:Inv cmp w0 μ ι δ s w) {b:bq}(hm:Op.makes o.op=true) (hl:lX b=true) (f:bH c o=some b) (g:Ho μ ι w c e a o) (h:b.run e s=some (v,s')) :
 sP cmp w0 μ ι δ s w c.P a o v s':=by
 obtain⟨cs,d,T,x,rfl,i,h1,h2,h3,j⟩:=Bg hm hl f g h;obtain⟨k,l⟩:=I.nL T d cs h1 h3 h2;exact⟨x,_,_,ι, .inl i,k,l,j _ _ _ (by simp[Mu.nB]),Kept.new _ _⟩
theorem Ye {t:TypeId}{x:Operand}(ho:o.op = .box t x) (I:Inv cmp w0 μ ι δ s w) (j:Ho μ ι w c e a o) {y:bF}(k:cP c x=some y) (b:(bq.box true y).run e s=some (v,s')) :
 sP cmp w0 μ ι δ s w c.P a o v s':=by
 have hx:=j x y (by simp[ho,Op.operands]) k;unfold bq.run at b;dsimp only at b;obtain⟨⟨C,s1⟩,h1,b⟩:=bind_some b;obtain⟨cs,l,b⟩:=bind_some b;split at b
 ·cases b
 ·cases b;obtain⟨m,n,p,q,f1⟩:=zy bp _ _ _ _ ι _ h1 I hx;obtain⟨f,g,r⟩:=iG q l;obtain⟨u,h,z⟩:=n.Yg t (a.eval x).cells;refine⟨.pointer (some ⟨w.heap.size,0,none⟩),_,μ,_, .inl ?_,u,p.trans h,?_,Kept.CI f1⟩
  ·simp[execOp,ho,Instr.box,newVar,newRow]
  ·have A:=Ra.one (μ:=μ) (ι:=m) (w:=w) ⟨f,g⟩ (by simpa using r);refine .aY (o:=0) (off:=0) (λi=>(a.eval x).cells.getD i undef) (λi d=>?_) (λi d=>.inr ⟨rfl,by rw[Nat.zero_add,f];exact d⟩) (λi d=>A i (by rw[f];exact d)) (λi d=>(g i d).ext h);have B:i<(a.eval x).cells.size:=by rw[f];exact d
   rw[Nat.zero_add,z];simp[gF,B]
theorem Pq {t:TypeId}{k x:Operand}(ho:o.op = .store t k x) (I:Inv cmp w0 μ ι δ s w) (C:Ho μ ι w c e a o) {n:Nat}(H:gU c.P t=some n) {l y:bF}(q:cP c k=some l) (J:cP c x=some y)
 (d:(bq.store n l y).run e s=some (v,s')):sP cmp w0 μ ι δ s w c.P a o v s':=by
 have K:=C k l (by simp[ho,Op.operands]) q;have hx:=C x y (by simp[ho,Op.operands]) J;unfold bq.run at d;dsimp only at d;generalize l.ev e=Y at *;generalize y.ev e=L at *;generalize r:a.eval k=aa at *;generalize z:a.eval x=f at *;cases K<;>try (cases d;done)
 rename_i id off p A;cases m:cells? L with
 | none=>rw[m]at d;cases d
 | some new=>
   rw[m]at d;dsimp only at d;split at d
   ·rename_i cs D;split at d
    ·rename_i M;cases d;obtain⟨B,E,N⟩:=iG hx m;have O:=Ra.one (μ:=μ) (ι:=ι) (w:=w) ⟨B,E⟩ (by simpa using N);obtain⟨_,h1,h2,h3,_,_,_⟩:=I.dR id _ p D A;have g:f.cells.toList.length=new.length:=by simpa using B
     obtain⟨F,Q,W⟩:=gi (P:=c.P) p.b (p.off+off) f.cells.toList 0 w (Nb hx m) (λj R=>by
      obtain⟨u,S,_⟩:=h2 (off+j) om;exact⟨u,by rw[<- S];congr 2;omega⟩) (λj R=>by
      exact h3 _)
     rw[Nat.add_zero]at W;have G:∀ i,f.cells.toList.getD i undef=f.cells.getD i undef:=λi=>by simp[gD,gF]
     obtain⟨T,U⟩:=I.write D A new f.cells.toList g om (λi h=>by rw[G];exact E i h) (λi h=>by rw[G];exact O i (by simpa using h)) W;refine⟨undef,F,μ,ι, .inr ⟨?_,rfl⟩,T,U, .cE rfl (λi h=>absurd h (Nat.not_lt_zero _)),Kept.put A _⟩;have V:f.cells.size=n:=by rw[B,M.1]
     have X:(storeVar t ⟨p.b,p.off+off,none⟩ f).run c.P w = .ok () F:=by
      simp only[storeVar,Sem.run_bind,wT H,Result.andThen_ok,Sem.run_ite];rw[if_neg (by simp[V])];exact Q
     simp[execOp,ho,r,z,Instr.storeAt,Instr.sureAddr,X]
    ·cases d
   ·cases d
theorem nH (I:Inv cmp w0 μ ι δ s w) {aZ n:Nat}{v:LV}{x:Value}{new:List LV}(C:Rv μ ι w v x) (h:rowOf s aZ n v=some new) :
 ∃ arr,(∀ g,cZ w g->(Builtin.firstCells aZ n x).run P g = .ok arr g)/\Ra μ ι w new arr/\(∀ i,i<arr.size->(arr.getD i undef).oneCell'=true)/\new.length=n*aZ:=by
 have key:∀ (b o off:Nat) (cs:List LV),off+n*aZ<=cs.length->(∀ i,i<cs.length->∃ x,w.cell? ⟨b,o+i,none⟩=some x/\x.oneCell'=true/\Rv μ ι w (cs.getD i .top) x)->∀ q,(n*aZ≠0->q=o+off) ->
  ∃ arr,(∀ g,cZ w g->(loadCells ⟨b,q,none⟩ (n*aZ)).run P g = .ok arr g)/\Ra μ ι w ((cs.drop off).take (n*aZ)) arr/\(∀ i,i<arr.size->(arr.getD i undef).oneCell'=true)/\((cs.drop off).take (n*aZ)).length=n*aZ:=by
  intro b o off cs M t q D;have A:∀ i,∃ x,i<n*aZ->(w.cell? ⟨b,o+off+i,none⟩=some x/\x.oneCell'=true/\Rv μ ι w (cs.getD (off+i) .top) x):=λi=>by
   by_cases d:i<n*aZ
   ·obtain⟨x,hx,ho,u⟩:=t (off+i) om;exact⟨x,λ_=>⟨by rw[<- hx];congr 2;omega,ho,u⟩⟩
   ·exact⟨undef,λh=>absurd h d⟩
  let f:Nat->Value:=λi=>Classical.choose (A i);have y:∀ i,i<n*aZ->(w.cell? ⟨b,o+off+i,none⟩=some (f i)/\(f i).oneCell'=true/\Rv μ ι w (cs.getD (off+i) .top) (f i)):=λi d=>Classical.choose_spec (A i) d;have z:∀ g,cZ w g->(loadCells ⟨b,q,none⟩ (n*aZ)).run P g = .ok ((List.range (n*aZ)).map f).toArray g:=λg hs=>by
   have z:=run_loadCells (P:=P) (w:=g) b q ((List.range (n*aZ)).map f) (λj E=>by
    have B:j<n*aZ:=by simpa using E
    rw[D om,hs.cell (y j B).1];simp[gD,B])
   rwa[List.length_map,List.length_range]at z
  have k:((cs.drop off).take (n*aZ)).length=n*aZ:=by simp;omega
  refine⟨_,z,⟨by simp[k],λi d=>?_⟩,λi d=>?_,k⟩
  ·rw[k]at d;rw[dY _ _ _ _ d];have:=(y i d).2.2;simpa[gF,d] using this
  ·have l:i<n*aZ:=by simpa using d
   have:=(y i l).2.1;simpa[gF,l] using this
 cases C<;>simp only[rowOf,reduceCtorEq]at h
 case aq=>
  split at h
  ·rename_i h0;cases h;subst h0;exact⟨#[],λg _=>by simp[Builtin.firstCells],⟨rfl,λi d=>absurd d (Nat.not_lt_zero _)⟩,λi d=>absurd d (Nat.not_lt_zero _),by simp⟩
  ·cases h
 case zs=>
  split at h
  ·rename_i h0;cases h;subst h0;exact⟨#[],λg _=>by simp[Builtin.firstCells,loadCells,loadCellsFrom],⟨rfl,λi d=>absurd d (Nat.not_lt_zero _)⟩,λi d=>absurd d (Nat.not_lt_zero _),by simp⟩
  ·cases h
 case str b=>
  split at h
  ·rename_i h0;cases h;obtain⟨rfl,h0⟩:=h0;refine⟨(b.extract 0 n).data.map λb=>.int .u8 b.toNat,λg _=>by simp[Builtin.firstCells],?_,?_,?_⟩
   ·have N:(b.extract 0 n).data.toList=b.data.toList.take n:=by simp
    have F:((b.extract 0 n).data.map λb=>Value.int .u8 b.toNat)=((b.data.toList.take n).map λb=>Value.int .u8 b.toNat).toArray:=by
     apply Array.ext';simp
    rw[F];refine⟨by simp,λi d=>?_⟩;have l:i<(b.data.toList.take n).length:=by simpa using d
    simp only[gD,List.getElem?_map,gF,List.getElem?_toArray,gE l,Option.map_some,Option.getD_some];exact .int _ _
   ·intro i d;have l:i<(b.extract 0 n).data.size:=by simpa using d
    simp only[gF,Array.getElem?_map,Array.getElem?_eq_getElem l,Option.map_some,Option.getD_some];rfl
   ·have:b.size=b.data.toList.length:=by simp
    simp;omega
  ·cases h
 case aF cs len b o cap vs t d G u H=>
  split at h
  ·rename_i h0;cases h;have:n*aZ<=len*aZ:=Nat.mul_le_mul_right _ h0.1;have:=key b o 0 cs om (λi d=>⟨vs i,t i d,G i d,u i d⟩) o (λ_=>rfl);simpa[Builtin.firstCells] using this
  ·cases h
 case aE id off len O cap p r J Q H K=>
  split at h
  ·rename_i m cs L;split at h
   ·rename_i h0;cases h;have h2:n*aZ<=len*aZ:=Nat.mul_le_mul_right _ h0.2.1;have:=key p.b p.off off cs om (I.zN L J) (p.off+r) (λdB=>by
     rw[K (by rintro rfl;have:n=0:=by omega
              subst this;simp at dB)])
    simpa[Builtin.firstCells] using this
   ·cases h
  ·cases h
end
section
variable {P:Program}{w:World}{w0:Bs}{μ:Mu}{ι:Io}{δ:Nat->Prop}{s s':St}{cmp:Nat->bx->Code->Prop}{c:Ctx}{e:Env}{a:Act}{o:Oper}{v:LV}
theorem MQ (b:Nat):∀ (r c:Nat),Builtin.growBy b r c<=max c (b+b / 4+192):=by
 intro r;induction r with
 | zero=>intro c;simp[Builtin.growBy];omega
 | succ r ih=>
   intro c;unfold Builtin.growBy;split
   ·omega
   ·rename_i h;have:=ih (c+(c+768) / 4);omega
theorem yz (b old:Nat) (h:old<b):Builtin.nextslicecap b old<=2*b+192:=by
 unfold Builtin.nextslicecap;split
 ·omega
 ·split
  ·omega
  ·have:=MQ b 4 old;omega
theorem wg {d:TypeDesc}(h:Fb d=true):(∃ e,d = .slice e)∨d = .string:=by
 cases d<;>first | (cases h;done) | exact .inl ⟨_,rfl⟩ | exact .inr rfl
theorem mW {t u g:TypeId}{ty:TypeId}{d:TypeDesc}{i:TypeInfo}(k:P.underlying t=some (.slice g)) (l:P.underlying u=some d) (r:Fb d=true) (y:P.info? g=some i)
 {base:Option Addr}{f h n:Nat}{x:Value}(hl:Builtin.lenOf x=Sem.pure n) (m:f+n<=h) {new:Array Value}(p:(Builtin.firstCells i.size n x).run P w = .ok new w) {j:World}
 (z:∀ b,base=some b->(storeCells (b.add (f*i.size)) new.toList).run P w = .ok () j) (A:base=none->j=w) :
 (Builtin.append_ #[t,u] ty #[.slice base f h,x]).run P w = .ok (.slice base (f+n) h) j:=by
 have q:(sizeOf g).run P w = .ok i.size w:=by simp[sizeOf,Lq y]
 rcases wg r with⟨B,rfl⟩ | rfl<;>cases base with
 | none=>
   obtain rfl:=A rfl;simp only[Builtin.append_];simp[ru k,ru l,q,hl,m,p]
 | some b=>
   simp only[Builtin.append_];simp[ru k,ru l,q,hl,m,p,z b rfl]
theorem lu {t u h:TypeId}{ty:TypeId}{d:TypeDesc}{i:TypeInfo}(p:P.underlying t=some (.slice h)) (q:P.underlying u=some d) (F:Fb d=true) (j:P.info? h=some i)
 {base:Option Addr}{b g n:Nat}{x:Value}(hl:Builtin.lenOf x=Sem.pure n) (G:g<b+n) (k:i.bytes≠0) (H:(b+n)*i.bytes<=2 ^ 32) {l:Value}(I:i.zero=some l)
 {old new:Array Value}(r:(Builtin.firstCells i.size b (.slice base b g)).run P w.drew = .ok old w.drew) (y:(Builtin.firstCells i.size n x).run P w.drew = .ok new w.drew) :
 ∃ m,b+n<=m/\(Builtin.append_ #[t,u] ty #[.slice base b g,x]).run P w =
   .ok (.slice (some ⟨w.heap.size,0,none⟩) (b+n) m) (({ w with drawn:=w.drawn+1 } : World).alloc (.cells (old++new++Builtin.zeroCells l.cells (m - (b+n))) h)):=by
 have z:∀ f:World,(sizeOf h).run P f = .ok i.size f:=λf=>by simp[sizeOf,Lq j]
 have J:b+n<=2 ^ 32:=Nat.le_trans (Nat.le_mul_of_pos_right _ (Nat.pos_of_ne_zero k)) H;have A:¬ (281474976710656<Builtin.nextslicecap (b+n) g*i.bytes):=by
  have h1:=yz (b+n) g G;have h2:Builtin.nextslicecap (b+n) g*i.bytes<=(2*(b+n)+192)*i.bytes:=Nat.mul_le_mul_right _ h1;have h3:(2*(b+n)+192)*i.bytes=2*((b+n)*i.bytes)+192*i.bytes:=by rw[Nat.add_mul,Nat.mul_assoc]
  have L:i.bytes<=(b+n)*i.bytes:=Nat.le_mul_of_pos_left _ om;omega
 have B:(Question.appendCap (b+n) g h).forced=false:=rfl;refine⟨(Question.appendCap (b+n) g h).cut (w.tape w.drawn (.appendCap (b+n) g h)),by simp[Question.cut],?_⟩;have C:¬ (b+n<=g):=by omega
 have K:¬ (9223372036854775807<(b:Int)+(n:Int)):=by omega
 have D:∀ f:World,(typeInfo h).run P f = .ok i f:=λf=>Lq j;have E:∀ f:World,(zeroValue h).run P f = .ok l f:=λf=>rz j I;rcases wg F with⟨M,rfl⟩ | rfl
 ·simp only[Builtin.append_];simp[ru p,ru q,z,hl,C,D,k,A,B,r,y,E,newRow]
 ·simp only[Builtin.append_];simp[ru p,ru q,z,hl,C,D,k,A,B,r,y,E,newRow]
theorem Ra.append {xs b:List LV}{us vs:Array Value}(h:Ra μ ι w xs us) (k:Ra μ ι w b vs):Ra μ ι w (xs++b) (us++vs):=by
 refine⟨by simp[h.1,k.1],λi f=>?_⟩;by_cases hx:i<xs.length
 ·have:=h.2 i hx;have d:i<us.size:=by rw[h.1];exact hx
  simpa[gD,gF,List.getElem?_append_left hx,Array.getElem?_append_left d] using this
 ·have g:i - xs.length<b.length:=by simp at f;omega
  have:=k.2 (i - xs.length) g;have d:us.size<=i:=by rw[h.1];omega
  have e:i - us.size=i - xs.length:=by rw[h.1]
  simpa[gD,gF,List.getElem?_append_right (Nat.le_of_not_lt hx),Array.getElem?_append_right d,e] using this
theorem dF (z:Array Value) (k:Nat):(Builtin.zeroCells z k).size=k*z.size:=by simp[Builtin.zeroCells]
theorem eM {z:Array Value}(d:∀ i,i<z.size->(z.getD i undef).oneCell'=true) (k:Nat):∀ i,i<(Builtin.zeroCells z k).size->((Builtin.zeroCells z k).getD i undef).oneCell'=true:=by
 intro i b;rw[dF]at b;have f:0<z.size:=by
  rcases Nat.eq_zero_or_pos z.size with h | h
  ·rw[h]at b;simp at b
  ·exact h
 have hm:i % z.size<z.size:=Nat.mod_lt _ f;have:=d _ hm;rw[gF]at this ⊢;simp only[hm,getElem?_pos,Option.getD_some]at this;simp only[Builtin.zeroCells,Array.getElem?_map,Array.getElem?_range,b,if_true,Option.map_some,Option.getD_some];rw[getElem!_pos z _ hm];exact this
theorem eR {us vs:Array Value}(h:∀ i,i<us.size->(us.getD i undef).oneCell'=true) (k:∀ i,i<vs.size->(vs.getD i undef).oneCell'=true) :
 ∀ i,i<(us++vs).size->((us++vs).getD i undef).oneCell'=true:=by
 intro i b;by_cases hx:i<us.size
 ·have:=h i hx;simpa[gF,Array.getElem?_append_left hx] using this
 ·have:=k (i - us.size) (by simp at b;omega);simpa[gF,Array.getElem?_append_right (Nat.le_of_not_lt hx)] using this
theorem vG {v:LV}{x:Value}{n:Nat}(d:Rv μ ι w v x) (h:o8 v=some n):Builtin.lenOf x=Sem.pure n:=by
 rcases Mc d h with⟨b,k,rfl⟩ | ⟨s,rfl,rfl⟩<;>rfl
theorem q8 {old new:Array Value}{xs b:List LV}(h:Ra μ ι w xs old) (k:Ra μ ι w b new) (z:Array Value) :
 (xs++b).length<=(old++new++z).size/\∀ i,i<(xs++b).length->Rv μ ι w ((xs++b).getD i .top) ((old++new++z).getD i undef):=by
 have d:=h.append k;refine⟨by rw[<- d.1];simp,λi f=>?_⟩;have g:i<(old++new).size:=by rw[d.1];exact f
 have:=d.2 i f;rw[gF,Array.getElem?_append_left g,<- gF];exact this
end
section
variable {P:Program}{w:World}{w0:Bs}{μ:Mu}{ι:Io}{δ:Nat->Prop}{s s':St}{cmp:Nat->bx->Code->Prop}{c:Ctx}{e:Env}{a:Act}{o:Oper}{v:LV}
theorem oL {old new z:Array Value}{l n k m b:Nat}(h1:old.size=l*m) (h2:new.size=n*m) (h3:z.size=k*m) (f:k=b - (l+n)) (d:l+n<=b):b*m<=(old++new++z).size:=by
 have:b=l+n+k:=by omega
 subst this;simp only[Array.size_append,h1,h2,h3];rw[Nat.add_mul,Nat.add_mul];exact Nat.le_refl _
theorem pV {μ:Mu}{ι:Io}{w:World}{k b len d aZ f:Nat}(h:d*aZ<=f) (hl:len<=d):Rv (μ.nB k ⟨b,0,f⟩) ι w (.aE k 0 len aZ) (.slice (some ⟨b,0,none⟩) len d) :=
 .aE (off:=0) (off':=0) (p:=⟨b,0,f⟩) (by simp[Mu.nB]) (by simpa using h) hl (λ_=>rfl)
def z7 (P:Program) (w:World) (t u ty:TypeId) (xv yv:Value) (r:Value) (b:World):Prop:=(Builtin.append_ #[t,u] ty #[xv,yv]).run P w = .ok r b
theorem Cc {t u U ty : TypeId}{d : TypeDesc}{i : TypeInfo}{z : List LV}(ht : P.underlying t = some (.slice U)) (hu : P.underlying u = some d) (hd : Fb d = true) (V : P.info? U = some i)
 (sy:i.size≠0) (tL:i.bytes≠0) (hz:oY P U=some z) (Gx:z.length=i.size)
 (I:Inv cmp w0 μ ι δ s w) {lx:LV}{xv yv:Value}(hx:Rv μ ι w lx xv) {n:Nat}(hl:Builtin.lenOf yv=Sem.pure n) {new:List LV}{arr:Array Value}
 (dA:∀ A,cZ w A->(Builtin.firstCells i.size n yv).run P A = .ok arr A) (wm:Ra μ ι w new arr) (T:∀ i,i<arr.size->(arr.getD i undef).oneCell'=true) (fH:new.length=n*i.size)
 (C:bT i.size i.bytes lx new n s=some (v,s')) :
 ∃ r A b8 ck,z7 P w t u ty xv yv r A/\Inv cmp w0 b8 ck δ s' A/\Ext μ ι δ w b8 ck δ A/\Rv b8 ck A v r/\Kept μ s b8 s':=by
 obtain⟨i',O,eU,DG⟩:∃ i' O,P.info? U=some i'/\i'.zero=some O/\∃ x,nu O=some x/\cells? x=some z:=by
  unfold oY at hz;obtain⟨i',h1,hz⟩:=bind_some hz;obtain⟨O,h2,hz⟩:=bind_some hz;obtain⟨x,h3,hz⟩:=bind_some hz;exact⟨i',O,h1,h2,x,h3,hz⟩
 obtain rfl:i=i':=Option.some.inj (V.symm.trans eU);obtain⟨DG,zx,hzx,Nx⟩:=DG;obtain⟨ve,YI,hz3⟩:=iG (nF (μ:=μ) (ι:=ι) (w:=w) hzx) Nx;have Uy:=Ra.one (μ:=μ) (ι:=ι) (w:=w) ⟨ve,YI⟩ (by simpa using hz3);have D:arr.size=n*i.size:=by rw[wm.1,fH]
 have qZ:cZ w w.drew:=cZ.drew w;have Id:=I.same qZ;have xd:=I.fk qZ;have UO:Ra μ ι w.drew new arr:=⟨wm.1,λj f=>(wm.2 j f).ext xd⟩;cases hx<;>simp only[bT,reduceCtorEq]at C
 case aq=>
  split at C
  ·rename_i hn;cases C;subst hn;refine⟨.slice none 0 0,w,μ,ι,?_,I,Ext.refl _ _ _ _, .aq,Kept.refl _ _⟩;exact mW ht hu hd V hl (Nat.le_refl _) (dA w (cZ.refl w)) (λb h=>by cases h) (λ_=>rfl)
  ·rename_i hn;split at C
   ·rename_i g;cases C;have B:(Builtin.firstCells i.size 0 (.slice none 0 0)).run P w.drew = .ok #[] w.drew:=by simp[Builtin.firstCells]
    obtain⟨F,X,L⟩:=lu (ty:=ty) ht hu hd V hl om tL (by unfold big at g;rw[Nat.zero_add];exact g.1) DG B (dA _ qZ);have zf:Ra μ ι w.drew [] #[]:=⟨rfl,λj f=>absurd f (Nat.not_lt_zero _)⟩;obtain⟨g1,g2⟩:=q8 zf UO (Builtin.zeroCells O.cells (F - (0+n)));rw[List.nil_append]at g1 g2;have Q:=eR (eR (us:=#[]) (λj f=>by simp at f) T) (eM Uy (F - (0+n)));obtain⟨I2,E⟩:=Id.nL U _ new g1 Q g2;refine⟨_,_,_,ι,L,I2,xd.trans E,?_,Kept.new _ _⟩;rw[Nat.zero_add];exact pV (oL (l:=0) (n:=n) (k:=F - (0+n)) (by simp) D (by simp[dF,ve,Gx]) rfl X) om
   ·cases C
 case zs za=>
  split at C
  ·rename_i hn;cases C;subst hn;refine⟨.slice (some za) 0 0,w,μ,ι,?_,I,Ext.refl _ _ _ _, .zs _,Kept.refl _ _⟩;exact mW ht hu hd V hl (Nat.le_refl _) (dA w (cZ.refl w)) (λb h=>by
    cases h;have:arr.toList=[]:=List.length_eq_zero_iff.1 (by simpa using D);rw[this];simp[storeCells]) (λh=>by cases h)
  ·rename_i hn;split at C
   ·rename_i g;cases C;have B:(Builtin.firstCells i.size 0 (.slice (some za) 0 0)).run P w.drew = .ok #[] w.drew:=by simp[Builtin.firstCells,loadCells,loadCellsFrom]
    obtain⟨F,X,L⟩:=lu (ty:=ty) ht hu hd V hl om tL (by unfold big at g;rw[Nat.zero_add];exact g.1) DG B (dA _ qZ);have zf:Ra μ ι w.drew [] #[]:=⟨rfl,λj f=>absurd f (Nat.not_lt_zero _)⟩;obtain⟨g1,g2⟩:=q8 zf UO (Builtin.zeroCells O.cells (F - (0+n)));rw[List.nil_append]at g1 g2;have Q:=eR (eR (us:=#[]) (λj f=>by simp at f) T) (eM Uy (F - (0+n)));obtain⟨I2,E⟩:=Id.nL U _ new g1 Q g2;refine⟨_,_,_,ι,L,I2,xd.trans E,?_,Kept.new _ _⟩;rw[Nat.zero_add];exact pV (oL (l:=0) (n:=n) (k:=F - (0+n)) (by simp) D (by simp[dF,ve,Gx]) rfl X) om
   ·cases C
 case aE id off len aZ cap p off' H ia pM tT=>
  split at C
  ·rename_i BX;subst BX;have B:∀ {s:St}{w:World}{ι:Io}(_:Inv cmp w0 μ ι δ s w) {m:Md}{cs:List LV},s.get id=some (.cells m cs)->off+len*i.size<=cs.length->∃ old,(∀ A,cZ w A->(Builtin.firstCells i.size len (.slice (some ⟨p.b,p.off+off',none⟩) len cap)).run P A = .ok old A) /\
    Ra μ ι w ((cs.drop off).take (len*i.size)) old/\(∀ i,i<old.size->(old.getD i undef).oneCell'=true)/\((cs.drop off).take (len*i.size)).length=len*i.size:=by
    intro s w ι I m cs R kH;refine nH (P:=P) I (.aE H ia pM tT) (new:=(cs.drop off).take (len*i.size)) ?_;simp only[rowOf,R];rw[if_pos ⟨trivial,Nat.le_refl _,kH⟩]
   have S:=I.oh id p H;split at C
   · -- 
    rename_i cs R;split at C
    ·rename_i g;cases C;obtain⟨kH,kI,_⟩:=g;have ic:=I.dR id _ p R H;obtain⟨⟨sh,Fu⟩,k1,k2,k3,k4,k5,k6⟩:=ic;obtain⟨old,fG,iM,fR,Y⟩:=B I R kH;obtain⟨J,sX⟩:=I.toRo (cs':=[]) R H (.inl rfl);have FH:∀ q,Kept μ s (μ.nB s.n q) ((s.put id (.cells .ro [])).new (.cells .mut ((cs.drop off).take (len*i.size)++new))):=by
      refine λq=>⟨by simp,λj f hm=>?_,λj f hm=>Mu.pS om hm⟩;rw[St.aA,if_neg (by simp;omega),St.az,if_neg];rintro rfl;rw[H]at hm;cases hm
     by_cases M:len+n<=cap
     · -- 
      have bW:∀ j,j<arr.toList.length->∃ v,w.cell? ⟨p.b,(p.off+off'+len*i.size)+(0+j),none⟩=some v:=λj f=>by
       have G:j<n*i.size:=by rw[<- D];simpa using f
       have K : cap ≠ 0 := by rintro rfl; have : n = 0 := by omega
                              subst this;simp at G
       have h2:(len+n)*i.size<=cap*i.size:=Nat.mul_le_mul_right _ M;rw[Nat.add_mul]at h2;obtain⟨v,Z,_⟩:=k2 (off+len*i.size+j) om;exact⟨v,by rw[<- Z,tT K];congr 2;omega⟩
      have ZN:∀ j,j<arr.toList.length->w.frozen? ⟨p.b,(p.off+off'+len*i.size)+(0+j),none⟩=false:=λj f=>by
       have G:j<n*i.size:=by rw[<- D];simpa using f
       have K : cap ≠ 0 := by rintro rfl; have : n = 0 := by omega
                              subst this;simp at G
       have h2:(len+n)*i.size<=cap*i.size:=Nat.mul_le_mul_right _ M;rw[Nat.add_mul]at h2;exact k3 _
      have kW:∀ j,arr.toList.getD j undef=arr.getD j undef:=λj=>by simp[gD,gF]
      have Q:∀ y∈arr.toList,y.oneCell'=true:=λy hy=>by
       obtain⟨j,f,rfl⟩:=List.getElem_of_mem hy;have G:j<arr.size:=by simpa using f
       have:=T j G;simpa[gF,G] using this
      obtain⟨A,nQ,W⟩:=gi (P:=P) p.b (p.off+off'+len*i.size) arr.toList 0 w Q bW ZN;rw[Nat.add_zero]at W;have Zj:∀ j,j<arr.toList.length->¬ ι p.b ((p.off+off'+len*i.size)+j):=λj f=>by
       have G:j<n*i.size:=by rw[<- D];simpa using f
       have K : cap ≠ 0 := by rintro rfl; have : n = 0 := by omega
                              subst this;simp at G
       have h2:(len+n)*i.size<=cap*i.size:=Nat.mul_le_mul_right _ M;rw[Nat.add_mul]at h2;have:=k5 rfl (off+len*i.size+j) om;rwa[show p.off+(off+len*i.size+j)=p.off+off'+len*i.size+j from by rw[tT K];omega]at this
      obtain⟨J2,E⟩:=J.A5 W S.2.1 (λj f=>by rw[kW];exact T j (by simpa using f)) Zj ⟨sh,Fu⟩ (λj b q f g N=>sX j b q p f g (by simp) N H);have L:z7 P w t u ty (.slice (some ⟨p.b,p.off+off',none⟩) len cap) yv (.slice (some ⟨p.b,p.off+off',none⟩) (len+n) cap) A :=
       mW ht hu hd V hl M (dA w (cZ.refl w)) (λb g=>by cases g;rw[jz];exact nQ) (λh=>by cases h)
      by_cases K:cap=0
      ·have Dc:len=0:=by omega
       have jd:n=0:=by omega
       subst K;subst Dc;subst jd
       have yV : new = [] := by have : new.length = 0 := by rw[fH]; simp
                                exact List.length_eq_zero_iff.1 this
       subst yV;obtain⟨J3,x3⟩:=J2.rD ⟨p.b,p.off+off',0⟩ (.cells .mut ((cs.drop off).take (0*i.size)++[])) S.2.1 (by rw[W.size];exact S.2.2)
        ⟨⟨sh,by rw[W.shape];exact Fu⟩,by simp,λj f=>absurd f (Nat.not_lt_zero _),λj=>by rw[W.frozen];exact k3 j,λh=>absurd rfl h,λ_ j f=>absurd f (Nat.not_lt_zero _),λh=>by cases h⟩
        (λ_ j b q f g N=>sX j b q p f g (by simp) N H)
       exact⟨_,A,_,ι,L,J3,E.trans x3, .aE (off:=0) (off':=0) (p:=⟨p.b,p.off+off',0⟩) (by simp[Mu.nB]) (by simp) om (λh=>absurd rfl h),FH _⟩
      ·have My:=tT K;subst My;have Rm:(len+n)*i.size<=cap*i.size:=Nat.mul_le_mul_right _ M;rw[Nat.add_mul]at Rm;have FF:((cs.drop off').take (len*i.size)++new).length=len*i.size+n*i.size:=by rw[List.length_append,Y,fH]
       have Iz:∀ j,j<p.cap - off'->∃ v,A.cell? ⟨p.b,p.off+off'+j,none⟩=some v/\v.oneCell'=true/\(j<((cs.drop off').take (len*i.size)++new).length->Rv μ ι A (((cs.drop off').take (len*i.size)++new).getD j .top) v):=by
        intro j f;obtain⟨v,Z,C6,ij⟩:=k2 (off'+j) om;by_cases h1:j<len*i.size
        ·refine⟨v,?_,C6,λ_=>?_⟩
         ·rw[W.yD _ (by simp only;omega)];rw[<- Z];congr 2;omega
         ·rw[gD,List.getElem?_append_left (by rw[Y];exact h1),<- gD,dY _ _ _ _ h1];exact (ij om).ext E
        ·by_cases h2:j<len*i.size+n*i.size
         ·have hh:=W.BT (j - len*i.size) (by rw[Array.length_toList,D];omega);rw[show p.off+off'+len*i.size+(j - len*i.size)=p.off+off'+j from by omega]at hh;refine⟨_,hh,by rw[kW];exact T _ (by rw[D];omega),λ_=>?_⟩;rw[gD,List.getElem?_append_right (by rw[Y];omega),<- gD,Y,kW];exact (wm.2 _ (by rw[fH];omega)).ext E
         ·refine⟨v,?_,C6,λhc=>absurd hc (by rw[FF];exact h2)⟩;rw[W.yD _ (by simp only[Array.length_toList,D];omega)];rw[<- Z];congr 2;omega
       obtain⟨J3,x3⟩:=J2.rD ⟨p.b,p.off+off',p.cap - off'⟩ (.cells .mut ((cs.drop off').take (len*i.size)++new)) S.2.1 (by rw[W.size];exact S.2.2)
        ⟨⟨sh,by rw[W.shape];exact Fu⟩,by rw[FF];simp only;omega,Iz,λj=>by rw[W.frozen];exact k3 j,
          λh=>absurd rfl h,λ_ j f=>by have:=k5 rfl (off'+j) (by simp only at f;omega);rwa[<- Nat.add_assoc]at this,λh=>by cases h⟩
        (λ_ j b q f g N=>sX j b q p f g (by simp) N H)
       refine⟨_,A,_,ι,L,J3,E.trans x3,?_,FH _⟩;have:=Rv.aE (μ:=μ.nB s.n ⟨p.b,p.off+off',p.cap - off'⟩) (ι:=ι) (w:=A) (id:=s.n) (off:=0) (len:=len+n) (aZ:=i.size) (cap:=cap) (off':=0) (p:=⟨p.b,p.off+off',p.cap - off'⟩) (by simp[Mu.nB]) (by simp only;omega) M (λ_=>rfl);exact this
     · -- 
      obtain⟨Yb,SY,Rk,hd3,hd4⟩:=B Id R kH;obtain⟨F,X,L⟩:=lu (ty:=ty) ht hu hd V hl om tL (by unfold big at kI;exact kI) DG (SY _ (cZ.refl _)) (dA _ qZ);obtain⟨g1,g2⟩:=q8 Rk UO (Builtin.zeroCells O.cells (F - (len+n)));have Q:=eR (eR hd3 T) (eM Uy (F - (len+n)));obtain⟨I2,E⟩:=(J.same qZ).nL U _ _ g1 Q g2;refine⟨_,_,_,ι,L,I2,xd.trans E,?_,FH _⟩;exact pV (oL (l:=len) (n:=n) (k:=F - (len+n)) (by rw[Rk.1,hd4]) D (by rw[dF,ve,Gx]) rfl X) X
    ·cases C
   · -- 
    rename_i cs R;split at C
    ·rename_i g;cases C;obtain⟨hin0,kI,_⟩:=g;have kH:off+len*i.size<=cs.length:=by omega
     have ic:=I.dR id _ p R H;obtain⟨⟨sh,Fu⟩,k1,k2,k3,k4,k5,k6⟩:=ic;obtain⟨old,fG,iM,fR,Y⟩:=B I R kH;obtain⟨J,sX⟩:=I.toRo (cs':=cs) R H (.inr ⟨rfl,rfl⟩);have FH:∀ q,Kept μ s (μ.nB s.n q) ((s.put id (.cells .ro cs)).new (.cells .app ((cs.drop off).take (len*i.size)++new))):=by
      refine λq=>⟨by simp,λj f hm=>?_,λj f hm=>Mu.pS om hm⟩;rw[St.aA,if_neg (by simp;omega),St.az,if_neg];rintro rfl;rw[H]at hm;cases hm
     by_cases M:len+n<=cap
     · -- 
      have bW:∀ j,j<arr.toList.length->∃ v,w.cell? ⟨p.b,(p.off+off'+len*i.size)+(0+j),none⟩=some v:=λj f=>by
       have G:j<n*i.size:=by rw[<- D];simpa using f
       have K : cap ≠ 0 := by rintro rfl; have : n = 0 := by omega
                              subst this;simp at G
       have h2:(len+n)*i.size<=cap*i.size:=Nat.mul_le_mul_right _ M;rw[Nat.add_mul]at h2;obtain⟨v,Z,_⟩:=k2 (off+len*i.size+j) om;exact⟨v,by rw[<- Z,tT K];congr 2;omega⟩
      have ZN:∀ j,j<arr.toList.length->w.frozen? ⟨p.b,(p.off+off'+len*i.size)+(0+j),none⟩=false:=λj f=>by
       have G:j<n*i.size:=by rw[<- D];simpa using f
       have K : cap ≠ 0 := by rintro rfl; have : n = 0 := by omega
                              subst this;simp at G
       have h2:(len+n)*i.size<=cap*i.size:=Nat.mul_le_mul_right _ M;rw[Nat.add_mul]at h2;exact k3 _
      have kW:∀ j,arr.toList.getD j undef=arr.getD j undef:=λj=>by simp[gD,gF]
      have Q:∀ y∈arr.toList,y.oneCell'=true:=λy hy=>by
       obtain⟨j,f,rfl⟩:=List.getElem_of_mem hy;have G:j<arr.size:=by simpa using f
       have:=T j G;simpa[gF,G] using this
      obtain⟨A,nQ,W⟩:=gi (P:=P) p.b (p.off+off'+len*i.size) arr.toList 0 w Q bW ZN;rw[Nat.add_zero]at W;have Zj:∀ j,j<arr.toList.length->¬ ι p.b ((p.off+off'+len*i.size)+j):=λj f=>by
       have G:j<n*i.size:=by rw[<- D];simpa using f
       have K : cap ≠ 0 := by rintro rfl; have : n = 0 := by omega
                              subst this;simp at G
       have h2:(len+n)*i.size<=cap*i.size:=Nat.mul_le_mul_right _ M;rw[Nat.add_mul]at h2;have:=k6 rfl (off+len*i.size+j) om om;rwa[show p.off+(off+len*i.size+j)=p.off+off'+len*i.size+j from by rw[tT K];omega]at this
      obtain⟨J2,E⟩:=J.A5 W S.2.1 (λj f=>by rw[kW];exact T j (by simpa using f)) Zj ⟨sh,Fu⟩ (λj b q f g N=>sX j b q p f g (by simp) N H);have L:z7 P w t u ty (.slice (some ⟨p.b,p.off+off',none⟩) len cap) yv (.slice (some ⟨p.b,p.off+off',none⟩) (len+n) cap) A :=
       mW ht hu hd V hl M (dA w (cZ.refl w)) (λb g=>by cases g;rw[jz];exact nQ) (λh=>by cases h)
      by_cases K:cap=0
      ·have Dc:len=0:=by omega
       have jd:n=0:=by omega
       subst K;subst Dc;subst jd
       have yV : new = [] := by have : new.length = 0 := by rw[fH]; simp
                                exact List.length_eq_zero_iff.1 this
       subst yV;obtain⟨J3,x3⟩:=J2.rD ⟨p.b,p.off+off',0⟩ (.cells .app ((cs.drop off).take (0*i.size)++[])) S.2.1 (by rw[W.size];exact S.2.2)
        ⟨⟨sh,by rw[W.shape];exact Fu⟩,by simp,λj f=>absurd f (Nat.not_lt_zero _),λj=>by rw[W.frozen];exact k3 j,λ_ j f=>by simp at f,(λh=>by cases h),λ_ j _ f=>absurd f (Nat.not_lt_zero _)⟩
        (λ_ j b q f g N=>sX j b q p f g (by simp) N H)
       exact⟨_,A,_,ι,L,J3,E.trans x3, .aE (off:=0) (off':=0) (p:=⟨p.b,p.off+off',0⟩) (by simp[Mu.nB]) (by simp) om (λh=>absurd rfl h),FH _⟩
      ·have My:=tT K;subst My;have Rm:(len+n)*i.size<=cap*i.size:=Nat.mul_le_mul_right _ M;rw[Nat.add_mul]at Rm;have FF:((cs.drop off').take (len*i.size)++new).length=len*i.size+n*i.size:=by rw[List.length_append,Y,fH]
       have Iz:∀ j,j<p.cap - off'->∃ v,A.cell? ⟨p.b,p.off+off'+j,none⟩=some v/\v.oneCell'=true/\(j<((cs.drop off').take (len*i.size)++new).length->Rv μ ι A (((cs.drop off').take (len*i.size)++new).getD j .top) v):=by
        intro j f;obtain⟨v,Z,C6,ij⟩:=k2 (off'+j) om;by_cases h1:j<len*i.size
        ·refine⟨v,?_,C6,λ_=>?_⟩
         ·rw[W.yD _ (by simp only;omega)];rw[<- Z];congr 2;omega
         ·rw[gD,List.getElem?_append_left (by rw[Y];exact h1),<- gD,dY _ _ _ _ h1];exact (ij om).ext E
        ·by_cases h2:j<len*i.size+n*i.size
         ·have hh:=W.BT (j - len*i.size) (by rw[Array.length_toList,D];omega);rw[show p.off+off'+len*i.size+(j - len*i.size)=p.off+off'+j from by omega]at hh;refine⟨_,hh,by rw[kW];exact T _ (by rw[D];omega),λ_=>?_⟩;rw[gD,List.getElem?_append_right (by rw[Y];omega),<- gD,Y,kW];exact (wm.2 _ (by rw[fH];omega)).ext E
         ·refine⟨v,?_,C6,λhc=>absurd hc (by rw[FF];exact h2)⟩;rw[W.yD _ (by simp only[Array.length_toList,D];omega)];rw[<- Z];congr 2;omega
       obtain⟨J2',x2'⟩:=J2.addIo (λb o=>b=p.b/\∃ j,j<n*i.size/\o=p.off+off'+len*i.size+j) (λb o h=>by rw[h.1];exact S.2.1) (λb o h=>by rw[h.1];exact⟨⟨sh,by rw[W.shape];exact Fu⟩,λo=>by rw[W.frozen];exact k3 o⟩) (by
        rintro b o ⟨rfl,j,f,rfl⟩;exact⟨_,W.BT j (by rw[Array.length_toList,D];exact f)⟩) (by
        rintro j b q f g N o ⟨he,_⟩;exact sX j b q p f g (by simp) N H he)
       obtain⟨J3,x3⟩:=J2'.rD ⟨p.b,p.off+off',p.cap - off'⟩ (.cells .app ((cs.drop off').take (len*i.size)++new)) S.2.1 (by rw[W.size];exact S.2.2)
        ⟨⟨sh, by rw[W.shape]; exact Fu⟩, by rw[FF]; simp only; omega, λj f => by
         obtain⟨v,h1,h2,h3⟩:=Iz j f;exact⟨v,h1,h2,λh=>(h3 h).ext x2'⟩,
         λj=>by rw[W.frozen];exact k3 j,
         λ_ j f=>by
          rw[FF]at f;by_cases h1:j<len*i.size
          ·refine .inl ?_;have:=k4 (by simp) (off'+j) om;rwa[<- Nat.add_assoc]at this
          ·exact .inr ⟨rfl,j - len*i.size,by omega,by simp only;omega⟩,
         (λh=>by cases h),
         λ_ j hl f hx=>by
          rw[FF]at hl;rcases hx with hx | ⟨_,k,hk,hx⟩
          ·have:=k6 rfl (off'+j) om (by simp only at f;omega);rw[<- Nat.add_assoc]at this;exact this hx
          ·simp only at hx;omega⟩
        (λ_ j b q f g N=>sX j b q p f g (by simp) N H)
       refine⟨_,A,_,_,L,J3,(E.trans x2').trans x3,?_,FH _⟩;have:=Rv.aE (μ:=μ.nB s.n ⟨p.b,p.off+off',p.cap - off'⟩) (ι:=λb o=>ι b o∨(b=p.b/\∃ j,j<n*i.size/\o=p.off+off'+len*i.size+j)) (w:=A) (id:=s.n) (off:=0) (len:=len+n) (aZ:=i.size) (cap:=cap) (off':=0) (p:=⟨p.b,p.off+off',p.cap - off'⟩) (by simp[Mu.nB]) (by simp only;omega) M (λ_=>rfl);exact this
     · -- 
      obtain⟨Yb,SY,Rk,hd3,hd4⟩:=B Id R kH;obtain⟨F,X,L⟩:=lu (ty:=ty) ht hu hd V hl om tL (by unfold big at kI;exact kI) DG (SY _ (cZ.refl _)) (dA _ qZ);obtain⟨g1,g2⟩:=q8 Rk UO (Builtin.zeroCells O.cells (F - (len+n)));have Q:=eR (eR hd3 T) (eM Uy (F - (len+n)));obtain⟨I2,E⟩:=(J.same qZ).nL U _ _ g1 Q g2;obtain⟨N1,I3,x3,_⟩:=I2.Hz (id:=s.n) (m:=.mut) (m':=.app) (cs':=(cs.drop off).take (len*i.size)++new) (by rw[St.aA];exact if_pos rfl) (p:=⟨w.drew.heap.size,0,_⟩) (by show Mu.nB μ s.n _ s.n=_;simp[Mu.nB];rfl) rfl (.inr ⟨rfl,rfl⟩) (by
       intro j x f hx;have bW:=World.cell?_alloc_new w.drew (Yb++arr++Builtin.zeroCells O.cells (F - (len+n))) U j;rw[Nat.zero_add]at hx;have UD:(Yb++arr++Builtin.zeroCells O.cells (F - (len+n)))[j]? = some x:=bW.symm.trans hx;have:=(g2 j f).ext E;rw[gF,UD,Option.getD_some]at this;exact this)
      refine⟨_,_,_,N1,L,I3.congr rfl (λj=>?_),(xd.trans E).trans x3,?_,FH _⟩
      ·show ((s.put id (.cells .ro cs)).new (.cells .app ((cs.drop off).take (len*i.size)++new))).get j=_;rw[St.az,St.aA,St.aA];by_cases e:j=s.n
       ·rw[if_pos e];exact if_pos e
       ·rw[if_neg e];have e':¬ j=(s.put id (.cells .ro cs)).n:=e;rw[if_neg e',if_neg e']
      ·exact pV (oL (l:=len) (n:=n) (k:=F - (len+n)) (by rw[Rk.1,hd4]) D (by rw[dF,ve,Gx]) rfl X) X
    ·cases C
   ·cases C
  ·cases C
end
end Go.Pv
end
