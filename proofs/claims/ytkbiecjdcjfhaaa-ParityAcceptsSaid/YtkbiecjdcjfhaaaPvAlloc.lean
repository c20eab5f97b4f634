/- Operations that make a row of cells. -/
import Derived.Test.YtkbiecjdcjfhaaaPvComp
set_option linter.unusedSimpArgs false
set_option linter.unusedVariables false
set_option maxRecDepth 100000
set_option maxHeartbeats 16000000
section
namespace Go.Pv
open Go Go.RowKit
section
variable {w:World}{w0:Bs}{μ:Mu}{ι:Io}{δ:Nat->Prop}{s s':St}{cmp:Nat->bp->Code->Prop}{c:Ctx}{e:Env}{a:Act}{o:Oper}{v:LV}
theorem wrap_i64 (n:Int) (h0 : -9223372036854775808<=n) (h1:n<=9223372036854775807):IntKind.i64.wrap n=n:=by
 unfold IntKind.wrap;have b:(2 ^ 64:Int)=18446744073709551616:=by decide
 have d:(2 ^ (64 - 1):Int)=9223372036854775808:=by decide
 simp only[IntKind.bits,IntKind.signed,Bool.true_and,decide_eq_true_eq,b,d,ge_iff_le];split<;>omega
theorem eo (n:Nat) (z:List LV):(rep n z).length=n*z.length:=by
 induction n with
 | zero=>simp[rep]
 | succ n ih=>
   unfold rep at ih ⊢;rw[List.replicate_succ,List.flatten_cons,List.length_append,ih,Nat.succ_mul];omega
theorem MZ (z:List LV):∀ (n i:Nat),i<n*z.length->(rep n z).getD i .top=z.getD (i % z.length) .top:=by
 intro n;induction n with
 | zero=>intro i h;omega
 | succ n ih=>
   intro i h;unfold rep at ih ⊢;rw[List.replicate_succ,List.flatten_cons];by_cases b:i<z.length
   ·rw[Nat.mod_eq_of_lt b];simp[gD,List.getElem?_append_left b]
   ·rw[Nat.succ_mul]at h;have:=ih (i - z.length) om;rw[gD,List.getElem?_append_right om,<- gD,this];congr 1;have h0:i - z.length+z.length=i:=by omega
    rw[<- Nat.add_mod_right,h0]
theorem lV {z:List LV}{b:Array Value}(d:Ra μ ι w z b) (g:0<z.length) (m l:Nat) (hl:l<=m) :
 l*z.length<=((Array.range (m*z.length)).map (b[· % b.size]!)).size /\
 ∀ i,i<l*z.length->Rv μ ι w ((rep l z).getD i .top) (((Array.range (m*z.length)).map (b[· % b.size]!)).getD i undef):=by
 have hm:l*z.length<=m*z.length:=Nat.mul_le_mul_right _ hl;refine⟨by simpa using hm,λi h=>?_⟩;rw[MZ z l i h];have h2:=d.2 (i % z.length) (Nat.mod_lt _ g);have h3:i<m*z.length:=by omega
 have f:i % z.length<b.size:=by rw[d.1];exact Nat.mod_lt _ g
 rw[gF]at h2 ⊢;simp only[Array.getElem?_map,Array.getElem?_range,h3,if_true,Option.map_some,Option.getD_some,d.1];simp only[f,getElem?_pos,Option.getD_some]at h2;rw[getElem!_pos b (i % z.length) f];simpa[f,d.1] using h2
theorem Ra.one {cs:List LV}{vs:Array Value}(h:Ra μ ι w cs vs) (d:∀ y∈cs,aV y=true):∀ i,i<vs.size->(vs.getD i undef).oneCell'=true:=λi f=>by
 have b:i<cs.length:=by rw[<- h.1];exact f
 refine vu (h.2 i b) (d _ ?_);rw[gD,gE b,Option.getD_some];exact List.getElem_mem b
theorem FP (new:List LV):∀ (cs:List LV) (off:Nat),(∀ y∈cs,aV y=true)->(∀ y∈new,aV y=true)->∀ y∈splice cs off new,aV y=true:=by
 induction new with
 | nil=>intro cs off h _;exact h
 | cons v new ih=>
   intro cs off h d;refine ih _ _ (λy b=>?_) (λy b=>d y (by simp[b]));rcases List.mem_or_eq_of_mem_set b with h1 | rfl
   ·exact h y h1
   ·exact d _ (by simp)
theorem zR {v:LV}{cs:List LV}(h:cells? v=some cs):∀ y∈cs,aV y=true:=by
 cases v<;>simp only[cells?,reduceCtorEq]at h
 case agg l=>
  split at h
  ·rename_i b;cases h;simpa using b
  ·cases h
 all_goals (cases h;simp[aV])
theorem nK:∀ (ls:List (Nat × Nat × LV)) (cs cs':List LV),aW cs ls=some cs'->(∀ y∈cs,aV y=true)->(cs'.length=cs.length/\∀ y∈cs',aV y=true):=by
 intro ls;induction ls with
 | nil=>intro cs cs' h b;simp[aW]at h;rw[<- h];exact⟨rfl,b⟩
 | cons l ls ih=>
   intro cs cs' h d;obtain⟨off,size,v⟩:=l;simp only[aW]at h;cases b:cells? v with
   | none=>simp[b]at h
   | some vs=>
     simp only[b]at h;split at h
     ·obtain⟨h1,h2⟩:=ih _ _ h (FP _ _ _ d (zR b));exact⟨by rw[h1,mD],h2⟩
     ·cases h
theorem HY {n:Nat}{z:List LV}(h:∀ y∈z,aV y=true):∀ y∈rep n z,aV y=true:=by
 intro y b;unfold rep at b;obtain⟨l,hl,b⟩:=List.mem_flatten.1 b;rw[(List.mem_replicate.1 hl).2]at b;exact h y b
def vX (c:Ctx) (a:Act) (o:Oper) (w:World) (T:TypeId) (arr:Array Value) (x:Value):Prop:=
 (execOp a.eval o).run c.P w = .ok (.value x) { w with heap:=w.heap.push (.cells arr T) }
theorem Ak {lo:aR}(hm:Op.makes o.op=true) (hl:lu lo=true) (b:bA c o=some lo) (O:Ho μ ι w c e a o) (d:lo.run e s=some (v,s')) :
 ∃ cs arr T x,s'=s.new (.cells .mut cs)/\vX c a o w T arr x/\cs.length<=arr.size/\(∀ i,i<cs.length->Rv μ ι w (cs.getD i .top) (arr.getD i undef)) /\
   (∀ i,i<arr.size->(arr.getD i undef).oneCell'=true)/\∀ D E F,D s.n=some ⟨w.heap.size,0,arr.size⟩->Rv D E F v x:=by
 cases ho:o.op<;>rw[ho]at hm<;>(try (cases hm;done))<;>simp only[bA,ho]at b
 case alloc t=>
  obtain⟨z,H,b⟩:=bind_some b;cases b;cases d;obtain⟨u,I,m,G⟩:=m9 (μ:=μ) (ι:=ι) (w:=w) H;refine⟨z,u.cells,t, .pointer (some ⟨w.heap.size,0,none⟩),rfl,?_,Nat.le_of_eq m.1.symm,m.2,m.one G,λD E F h=>?_⟩
  ·simp[vX,execOp,ho,Instr.alloc,I,newVar,newRow]
  ·exact .aH (off:=0) h
 case box t x=>
  obtain⟨y,X,b⟩:=bind_some b;cases b;have hx:=O x y (by simp[ho,Op.operands]) X;unfold aR.run at d;split at d<;>simp only[lu,reduceCtorEq,aR.box.injEq] at * 
  ·rename_i h;rw[h.1]at hl;cases hl
  ·rename_i h;rw[<- h.2]at d;obtain⟨cs,Fw,d⟩:=bind_some d;cases d;obtain⟨h1,h2,h3⟩:=iz hx Fw;refine⟨cs,(a.eval x).cells,t, .pointer (some ⟨w.heap.size,0,none⟩),rfl,?_,Nat.le_of_eq h1.symm,h2,Ra.one (μ:=μ) (ι:=ι) (w:=w) ⟨h1,h2⟩ (by simpa using h3),λD E F h=>?_⟩
   ·simp[vX,execOp,ho,Instr.box,newVar,newRow]
   ·exact .aH (off:=0) h
 case buildSlice t len ps=>
  cases p:c.P.underlying t with
  | none=>simp[p]at b
  | some Y=>
    rw[p]at b;cases Y<;>simp only[reduceCtorEq]at b;rename_i J;obtain⟨q,kz,b⟩:=bind_some b;obtain⟨z,H,b⟩:=bind_some b;split at b
    ·cases b
    ·rename_i tM;simp only[not_or,Nat.not_lt,ne_eq,Decidable.not_not]at tM;obtain⟨Z,Q,gZ⟩:=tM;obtain⟨ls,QL,b⟩:=bind_some b;cases b;unfold aR.run at d;dsimp only at d;obtain⟨cs,R,d⟩:=bind_some d;cases d;obtain⟨u,I,m,G⟩:=m9 (μ:=μ) (ι:=ι) (w:=w) H;have uU:∀ x y,x∈ps.toList.map (·.2)->cB c x=some y->Rv μ ι w (y.ev e) (a.eval x):=λx y hx X=>O x y (by simpa[ho,Op.operands] using hx) X;have OI:(ps.map λ(i,x)=>(i,a.eval x)).toList=iL a ps.toList:=by simp[iL]
     obtain⟨h1,h2⟩:=pP (μ:=μ) (ι:=ι) (w:=w) (e:=e) (a:=a) QL uU;have K:len*q=0->Ra μ ι w (rep len z) ((Array.range (len*q)).map ((#[]:Array Value)[· % (#[]:Array Value).size]!)):=λh0=>by
      have L:len=0:=by
       rcases Nat.mul_eq_zero.1 h0 with h | h
       ·exact h
       ·exact absurd h Z
      subst L;exact⟨by simp[rep],λi r=>by simp[rep]at r⟩
     have M:Ra μ ι w (rep len z) ((Array.range (len*q)).map (u.cells[· % u.cells.size]!)):=by
      have U:0<z.length:=by omega
      obtain⟨k1,V⟩:=lV m U len len (Nat.le_refl _);rw[Q]at k1 V;exact⟨by rw[eo,Q];simp,λi r=>V i (by rw[eo,Q]at r;exact r)⟩
     have hex:∃ f,Ra μ ι w cs f/\vX c a o w J f (.slice (some ⟨w.heap.size,0,none⟩) len len):=by
      by_cases h0:len*q=0
      ·obtain⟨f,SL,A⟩:=tX (place:=λi=>some (i*q,q)) _ _ _ _ _ (K h0) h1 h2 R;refine⟨f,A,?_⟩;simp only[vX,execOp,ho,Instr.buildSlice,Sem.run_bind,ru p,wj kz,Result.andThen_ok];rw[if_neg om,if_pos h0];simp only[Sem.run_pure,Sem.run_bind,Result.andThen_ok,OI,SL];simp[newRow]
      ·obtain⟨f,SL,A⟩:=tX (place:=λi=>some (i*q,q)) _ _ _ _ _ M h1 h2 R;refine⟨f,A,?_⟩;simp only[vX,execOp,ho,Instr.buildSlice,Sem.run_bind,ru p,wj kz,Result.andThen_ok];rw[if_neg om,if_neg h0];simp only[Sem.run_pure,Sem.run_bind,Result.andThen_ok,I,OI,SL];simp[newRow]
     obtain⟨f,A,bV⟩:=hex;refine⟨cs,f,J, .slice (some ⟨w.heap.size,0,none⟩) len len,rfl,bV,Nat.le_of_eq A.1.symm,A.2,A.one (nK _ _ _ R (HY G)).2,λD E F h=>?_⟩
     ·refine .aD (off:=0) (off':=0) h ?_ (Nat.le_refl _) (λ_=>rfl);have:f.size=len*q:=by
       rw[A.1];have:cs.length=(rep len z).length:=(nK _ _ _ R (HY G)).1;rw[this,eo,Q]
      simp only;omega
 case makeSlice t l k=>
  cases p:c.P.underlying t with
  | none=>simp[p]at b
  | some Y =>
    rw[p]at b;cases Y<;>simp only[reduceCtorEq]at b;rename_i J;obtain⟨i,r,b⟩:=bind_some b;obtain⟨z,H,b⟩:=bind_some b;split at b
    ·cases b
    ·rename_i Z;obtain⟨ll,uA,b⟩:=bind_some b;obtain⟨lk,hlk,b⟩:=bind_some b;cases b;have h1:=O l ll (by simp[ho,Op.operands]) uA;have h2:=O k lk (by simp[ho,Op.operands]) hlk;unfold aR.run at d;dsimp only at d;generalize ll.ev e=vl at *;generalize lk.ev e=vk at *;generalize rj:a.eval l=al at *;generalize N:a.eval k=ak at *;cases h1<;>try (cases d;done)
     cases h2<;>try (cases d;done)
     rename_i kl B kk g;dsimp only at d;split at d
     ·rename_i hb;obtain⟨zM,eE,kT,wV,O9⟩:=hb;cases d;obtain⟨u,I,m,G⟩:=m9 (μ:=μ) (ι:=ι) (w:=w) H;have LY:IntKind.i64.wrap B=B:=by unfold big at wV;exact wrap_i64 _ om om
      have vJ:IntKind.i64.wrap g=g:=by unfold big at wV;exact wrap_i64 _ om om
      have U:0<z.length:=by omega
      have lT:(g<0 || (i.bytes:Int)*g > 2 ^ 48)=false:=by
       unfold big at kT;have h2':(i.bytes:Int)*g<=2 ^ 32:=by rw[Int.mul_comm];exact_mod_cast kT
       simp only[Bool.or_eq_false_iff,decide_eq_false_iff_not];omega
      have S6:g.toNat*i.size=g.toNat*z.length:=by rw[O9]
      obtain⟨k1,V⟩:=lV m U g.toNat B.toNat om;by_cases h0:g.toNat*i.size=0
      ·have wq:g.toNat=0:=by
        rcases Nat.mul_eq_zero.1 h0 with h | h
        ·exact h
        ·exact absurd h Z
       have Ev:B.toNat=0:=by omega
       refine⟨rep B.toNat z,#[],J, .slice (some ⟨w.heap.size,0,none⟩) B.toNat g.toNat,rfl,?_,by simp[Ev,rep],λj C=>by simp[Ev,rep]at C,λj C=>by simp at C,λD E F h=>?_⟩
       ·simp only[vX,execOp,ho,rj,N,Instr.makeSlice,Sem.run_bind,ru p,JI r,Result.andThen_ok,asInt,asIntOf,Sem.run_pure,LY,vJ,lT];rw[if_neg (by simp;omega)];simp only[Sem.run_bind,run_askRoom,Result.andThen_ok,sizeOf,JI r,Sem.run_pure,h0,if_true];simp[newRow,show Array.range 0 = #[] from rfl]
       ·exact .aD (off:=0) (off':=0) h (by rw[wq];simp) om (λ_=>rfl)
      ·refine⟨rep B.toNat z,_,J, .slice (some ⟨w.heap.size,0,none⟩) B.toNat g.toNat,rfl,?_,by rw[eo];exact k1,λj C=>V j (by rw[eo]at C;exact C),λj C=>?_,λD E F h=>?_⟩
       ·simp only[vX,execOp,ho,rj,N,Instr.makeSlice,Sem.run_bind,ru p,JI r,Result.andThen_ok,asInt,asIntOf,Sem.run_pure,LY,vJ,lT];rw[if_neg (by simp;omega)];simp only[Sem.run_bind,run_askRoom,Result.andThen_ok,sizeOf,JI r,Sem.run_pure,h0,if_false,I];simp[newRow,O9]
       ·have gY:j<g.toNat*z.length:=by simpa using C
        have GK:j % u.cells.size<u.cells.size:=Nat.mod_lt _ (by rw[m.1];exact U);have:=m.one G _ GK;rw[gF]at this ⊢;simp only[GK,getElem?_pos,Option.getD_some]at this;simp only[Array.getElem?_map,Array.getElem?_range,gY,if_true,Option.map_some,Option.getD_some];rw[getElem!_pos u.cells _ GK];exact this
       ·refine .aD (off:=0) (off':=0) h ?_ om (λ_=>rfl);simp[O9]
     ·cases d
end
section
variable {w:World}{w0:Bs}{μ:Mu}{ι:Io}{δ:Nat->Prop}{s s':St}{cmp:Nat->bp->Code->Prop}
structure gV (μ:Mu) (s s':St):Prop where
  n:s'.n=s.n
  cells:∀ id m cs,s.get id=some (.cells m cs)->∃ m' cs',s'.get id=some (.cells m' cs')/\cs'.length=cs.length/\(m'=m∨(m = .mut/\m' = .app))
  kept:∀ id,μ id=none->s'.get id=s.get id
theorem gV.refl (μ:Mu) (s:St):gV μ s s:=⟨rfl,λ_ m cs h=>⟨m,cs,h,rfl, .inl rfl⟩,λ_ _=>rfl⟩
theorem gV.trans {μ:Mu}{s s' b:St}(h:gV μ s s') (k:gV μ s' b):gV μ s b:=by
 refine⟨k.n.trans h.n,λid m cs d=>?_,λid hm=>(k.kept id hm).trans (h.kept id hm)⟩;obtain⟨m1,c1,g1,l1,f⟩:=h.cells id m cs d;obtain⟨g,c2,g2,l2,i⟩:=k.cells id m1 c1 g1;refine⟨g,c2,g2,l2.trans l1,?_⟩;rcases f with rfl | ⟨rfl,rfl⟩<;>rcases i with rfl | ⟨h1,rfl⟩
 ·exact .inl rfl
 ·exact .inr ⟨h1,rfl⟩
 ·exact .inr ⟨rfl,rfl⟩
 ·cases h1
def VI (cmp:Nat->bp->Code->Prop) (w0:Bs) (μ:Mu) (δ:Nat->Prop) (w:World) (f:LV->St->Option (LV × St)):Prop:=
 ∀ (v:LV) (s:St) (v':LV) (s':St) (ι:Io) (x:Value),f v s=some (v',s')->Inv cmp w0 μ ι δ s w->Rv μ ι w v x ->
   ∃ b,Inv cmp w0 μ b δ s' w/\Ext μ ι δ w μ b δ w/\Rv μ b w v' x/\gV μ s s'
theorem iy {f:LV->St->Option (LV × St)}(m:VI cmp w0 μ δ w f):∀ (cs:List LV) (s:St) (cs':List LV) (s':St) (ι:Io) (xs:Nat->Value),
 cK.cu f cs s=some (cs',s')->Inv cmp w0 μ ι δ s w->(∀ i,i<cs.length->Rv μ ι w (cs.getD i .top) (xs i)) ->
 ∃ d,Inv cmp w0 μ d δ s' w/\Ext μ ι δ w μ d δ w/\cs'.length=cs.length/\(∀ i,i<cs.length->Rv μ d w (cs'.getD i .top) (xs i))/\gV μ s s':=by
 intro cs;induction cs with
 | nil=>
   intro s cs' s' ι xs h I _;cases h;exact⟨ι,I,Ext.refl _ _ _ _,rfl,λi b=>absurd b (Nat.not_lt_zero _),gV.refl _ _⟩
 | cons v cs ih=>
   intro s cs' s' ι xs h I g;simp only[cK.cu]at h;obtain⟨⟨n,j⟩,h1,h⟩:=bind_some h;obtain⟨⟨r2,p⟩,h2,h⟩:=bind_some h;cases h;obtain⟨q,r,k,t,f1⟩:=m v s n j ι (xs 0) h1 I (by simpa using g 0 (by simp));obtain⟨u,x,l,l2,y,f2⟩:=ih j r2 p q (λi=>xs (i+1)) h2 r (λi b=>(by simpa using g (i+1) (by simpa using b):Rv μ ι w (cs.getD i .top) (xs (i+1))).ext k);refine⟨u,x,k.trans l,by simp[l2],λi b=>?_,f1.trans f2⟩;cases i with
   | zero=>simpa using t.ext l
   | succ i=>simpa using y i (by simpa using b)
theorem Cs : ∀ n, VI cmp w0 μ δ w (cK n) := by
 intro n;induction n with
 | zero=>intro v s v' s' ι x h;cases h
 | succ n ih =>
   intro v s v' s' ι x h I L;simp only[cK]at h;split at h
   ·cases h;exact⟨ι,I,Ext.refl _ _ _ _,L,gV.refl _ _⟩
   ·rename_i X;clear X;cases L<;>simp only[reduceCtorEq]at h
    case agg cs vs hl C=>
     obtain⟨⟨cs',j⟩,h1,h⟩:=bind_some h;cases h;obtain⟨r,l,k,l1,g,f1⟩:=iy ih cs s cs' j ι (λi=>vs.getD i undef) h1 I C;exact⟨r,l,k, .agg (by rw[hl,l1]) (λi d=>g i (by rw[<- l1];exact d)),f1⟩
    case cy cs vs hl C=>
     obtain⟨⟨cs',j⟩,h1,h⟩:=bind_some h;cases h;obtain⟨r,l,k,l1,g,f1⟩:=iy ih cs s cs' j ι (λi=>vs.getD i undef) h1 I C;exact⟨r,l,k, .cy (by rw[hl,l1]) (λi d=>g i (by rw[<- l1];exact d)),f1⟩
    case q5 t v x L=>
     obtain⟨⟨Y,j⟩,h1,h⟩:=bind_some h;cases h;obtain⟨r,l,k,g,f1⟩:=ih v s Y j ι x h1 I L;exact⟨r,l,k, .q5 g,f1⟩
    case fn f Z lb va vb hl nT C uT =>
     obtain⟨⟨M,j⟩,h1,h⟩:=bind_some h;obtain⟨⟨N,s2⟩,h2,h⟩:=bind_some h;cases h;obtain⟨r,l,k,l1,g,f1⟩:=iy ih Z s M j ι (λi=>va.getD i undef) h1 I C;obtain⟨D,E,y,l2,ZR,f2⟩:=iy ih lb j N s2 r (λi=>vb.getD i undef) h2 l (λi d=>(uT i d).ext k);exact⟨D,E,k.trans y, .fn (by rw[hl,l1]) (by rw[nT,l2]) (λi d=>(g i (by rw[<- l1];exact d)).ext y) (λi d=>ZR i (by rw[<- l2];exact d)),f1.trans f2⟩
    case aD id off len T cap p U z gR pq V=>
     split at h
     ·rename_i m cs F;split at h
      ·rename_i jZ;obtain⟨⟨cs',j⟩,h1,h⟩:=bind_some h;cases h;have O:=I.yQ F z;have G:∀ i,∃ x,i<cs.length->(w.cell? ⟨p.b,p.off+i,none⟩=some x/\x.oneCell'=true/\Rv μ ι w (cs.getD i .top) x):=λi=>by
        by_cases d:i<cs.length
        ·obtain⟨x,hx⟩:=O i d;exact⟨x,λ_=>hx⟩
        ·exact⟨undef,λh=>absurd h d⟩
       let f:Nat->Value:=λi=>Classical.choose (G i);have u:∀ i,i<cs.length->(w.cell? ⟨p.b,p.off+i,none⟩=some (f i)/\(f i).oneCell'=true/\Rv μ ι w (cs.getD i .top) (f i)):=λi d=>Classical.choose_spec (G i) d;obtain⟨r,l,k,l1,g,f1⟩:=iy ih cs s cs' j ι f h1 I (λi d=>(u i d).2.2);obtain⟨m1,c1,g1,q,H⟩:=f1.cells id m cs F;obtain⟨D,E,y,A⟩:=l.F0 (m':=if m = .mut then .app else m) (cs':=cs') g1 z (by rw[l1,q]) (by
        rcases H with rfl | ⟨rfl,rfl⟩
        ·by_cases hm:m1 = .mut
         ·subst hm;exact .inr ⟨rfl,rfl⟩
         ·rw[if_neg hm];exact .inl rfl
        ·exact .inl rfl) (λi x d hx=>by
        have:=u i (by rw[<- q];exact d);rw[this.1]at hx;cases hx;exact g i (by rw[<- q];exact d))
       have J:((cs'.drop off).take (len*T)).length=len*T:=by simp;omega
       refine⟨D,E,k.trans y,?_,f1.trans ⟨rfl,λK m' Q B=>?_,λK hm=>?_⟩⟩
       ·refine .aB (λi=>f (off+i)) (λi d=>?_) (λi d=>?_) (λi d=>?_) (λi d=>?_) pq<;>rw[J]at d
        ·have R : cap ≠ 0 := by rintro rfl; have : len = 0 := by omega
                                subst this;simp at d
         rw[V R,Nat.add_assoc];exact (u _ om).1
        ·have R : cap ≠ 0 := by rintro rfl; have : len = 0 := by omega
                                subst this;simp at d
         rw[V R,Nat.add_assoc];exact A (by cases m<;>simp) _ om
        ·exact (u _ om).2.1
        ·rw[dK _ _ _ _ d];exact (g _ om).ext y
       ·rw[St.ah];by_cases e:K=id
        ·subst e;rw[g1]at B;cases B;refine⟨_,_,if_pos rfl,by rw[l1,q],?_⟩;rcases H with rfl | ⟨rfl,rfl⟩
         ·by_cases hm:m1 = .mut
          ·subst hm;exact .inr ⟨rfl,rfl⟩
          ·rw[if_neg hm];exact .inl rfl
         ·exact .inl rfl
        ·exact⟨m',Q,by rw[if_neg e];exact B,rfl, .inl rfl⟩
       ·rw[St.ah,if_neg];rintro rfl;rw[z]at hm;cases hm
      ·cases h
     ·cases h
    case aH id off p z=>
     split at h
     ·rename_i m cs F;split at h
      ·rename_i jZ;obtain⟨⟨cs',j⟩,h1,h⟩:=bind_some h;cases h;have O:=I.yQ F z;have G:∀ i,∃ x,i<cs.length->(w.cell? ⟨p.b,p.off+i,none⟩=some x/\x.oneCell'=true/\Rv μ ι w (cs.getD i .top) x):=λi=>by
        by_cases d:i<cs.length
        ·obtain⟨x,hx⟩:=O i d;exact⟨x,λ_=>hx⟩
        ·exact⟨undef,λh=>absurd h d⟩
       let f:Nat->Value:=λi=>Classical.choose (G i);have u:∀ i,i<cs.length->(w.cell? ⟨p.b,p.off+i,none⟩=some (f i)/\(f i).oneCell'=true/\Rv μ ι w (cs.getD i .top) (f i)):=λi d=>Classical.choose_spec (G i) d;obtain⟨r,l,k,l1,g,f1⟩:=iy ih cs s cs' j ι f h1 I (λi d=>(u i d).2.2);obtain⟨m1,c1,g1,q,H⟩:=f1.cells id m cs F;obtain⟨D,E,y,A⟩:=l.F0 (m':=if m = .mut then .app else m) (cs':=cs') g1 z (by rw[l1,q]) (by
        rcases H with rfl | ⟨rfl,rfl⟩
        ·by_cases hm:m1 = .mut
         ·subst hm;exact .inr ⟨rfl,rfl⟩
         ·rw[if_neg hm];exact .inl rfl
        ·exact .inl rfl) (λi x d hx=>by
        have:=u i (by rw[<- q];exact d);rw[this.1]at hx;cases hx;exact g i (by rw[<- q];exact d))
       refine⟨D,E,k.trans y,?_,f1.trans ⟨rfl,λK m' Q B=>?_,λK hm=>?_⟩⟩
       ·refine .aX f (λi d=>(u i (by rw[<- l1];exact d)).1) (λi d=>A (by cases m<;>simp) i (by rw[q,<- l1];exact d)) (λi d=>(u i (by rw[<- l1];exact d)).2.1) (λi d=>(g i (by rw[<- l1];exact d)).ext y)
       ·rw[St.ah];by_cases e:K=id
        ·subst e;rw[g1]at B;cases B;refine⟨_,_,if_pos rfl,by rw[l1,q],?_⟩;rcases H with rfl | ⟨rfl,rfl⟩
         ·by_cases hm:m1 = .mut
          ·subst hm;exact .inr ⟨rfl,rfl⟩
          ·rw[if_neg hm];exact .inl rfl
         ·exact .inl rfl
        ·exact⟨m',Q,by rw[if_neg e];exact B,rfl, .inl rfl⟩
       ·rw[St.ah,if_neg];rintro rfl;rw[z]at hm;cases hm
      ·cases h
     ·cases h
end
section
variable {P:Program}{w:World}{w0:Bs}{μ:Mu}{ι:Io}{δ:Nat->Prop}{s s':St}{cmp:Nat->bp->Code->Prop}{c:Ctx}{e:Env}{a:Act}{o:Oper}{v:LV}
def rC (cmp:Nat->bp->Code->Prop) (w0:Bs) (μ:Mu) (ι:Io) (δ:Nat->Prop) (s:St) (w:World) (P:Program) (a:Act) (o:Oper) (v:LV) (s':St):Prop:=
 ∃ x b d f,((execOp a.eval o).run P w = .ok (.value x) b∨((execOp a.eval o).run P w = .ok .skip b/\x=undef)) /\
   Inv cmp w0 d f δ s' b/\Ext μ ι δ w d f δ b/\Rv d f b v x/\Kept μ s d s'
theorem Kept.trans {d:St}{f g:Mu}(h:Kept μ s f s') (k:Kept f s' g d):Kept μ s g d :=
 ⟨Nat.le_trans h.n k.n,λid b hm=>(k.get id (Nat.lt_of_lt_of_le b h.n) (h.free id b hm)).trans (h.get id b hm),
  λid b hm=>k.free id (Nat.lt_of_lt_of_le b h.n) (h.free id b hm)⟩
theorem Kept.Gc (h:gV μ s s'):Kept μ s μ s':=⟨Nat.le_of_eq h.n.symm,λid _ hm=>h.kept id hm,λ_ _ h=>h⟩
theorem Mu.pG {k:Nat}{p:Place}{id:Nat}(h:id≠k) (hm:μ id=none):μ.jT k p id=none:=by rw[Mu.jT,if_neg h];exact hm
theorem Kept.new (b:iC) (p:Place):Kept μ s (μ.jT s.n p) (s.new b):=⟨by simp,λid d _=>by rw[St.az,if_neg om],λid d hm=>Mu.pG om hm⟩
theorem Kept.put {id:Nat}{p:Place}(d:μ id=some p) (b:iC):Kept μ s μ (s.put id b):=⟨Nat.le_refl _,λj _ hm=>(by rw[St.ah,if_neg];rintro rfl;rw[d]at hm;cases hm),λ_ _ h=>h⟩
theorem Iv (I:Inv cmp w0 μ ι δ s w) (h:dx μ ι w P a o v):rC cmp w0 μ ι δ s w P a o v s:=
 let ⟨x,hx,b⟩:=h;⟨x,w,μ,ι, .inl hx,I,Ext.refl _ _ _ _,b,Kept.refl _ _⟩
theorem Wd (I:Inv cmp w0 μ ι δ s w) {lo:aR}(hm:Op.makes o.op=true) (hl:lu lo=true) (d:bA c o=some lo) (f:Ho μ ι w c e a o) (g:lo.run e s=some (v,s')) :
 rC cmp w0 μ ι δ s w c.P a o v s':=by
 obtain⟨cs,b,T,x,rfl,h,h1,h2,h3,i⟩:=Ak hm hl d f g;obtain⟨j,k⟩:=I.ny T b cs h1 h3 h2;exact⟨x,_,_,ι, .inl h,j,k,i _ _ _ (by simp[Mu.jT]),Kept.new _ _⟩
theorem Wg {t:TypeId}{x:Operand}(ho:o.op = .box t x) (I:Inv cmp w0 μ ι δ s w) (j:Ho μ ι w c e a o) {y:bz}(k:cB c x=some y) (b:(aR.box true y).run e s=some (v,s')) :
 rC cmp w0 μ ι δ s w c.P a o v s':=by
 have hx:=j x y (by simp[ho,Op.operands]) k;unfold aR.run at b;dsimp only at b;obtain⟨⟨C,D⟩,h1,b⟩:=bind_some b;obtain⟨cs,l,b⟩:=bind_some b;split at b
 ·cases b
 ·cases b;obtain⟨m,n,p,q,f1⟩:=Cs aY _ _ _ _ ι _ h1 I hx;obtain⟨f,g,r⟩:=iz q l;obtain⟨u,h,z⟩:=n.Wh t (a.eval x).cells;refine⟨.pointer (some ⟨w.heap.size,0,none⟩),_,μ,_, .inl ?_,u,p.trans h,?_,Kept.Gc f1⟩
  ·simp[execOp,ho,Instr.box,newVar,newRow]
  ·have A:=Ra.one (μ:=μ) (ι:=m) (w:=w) ⟨f,g⟩ (by simpa using r);refine .aX (o:=0) (off:=0) (λi=>(a.eval x).cells.getD i undef) (λi d=>?_) (λi d=>.inr ⟨rfl,by rw[Nat.zero_add,f];exact d⟩) (λi d=>A i (by rw[f];exact d)) (λi d=>(g i d).ext h);have B:i<(a.eval x).cells.size:=by rw[f];exact d
   rw[Nat.zero_add,z];simp[gF,B]
theorem NC {t:TypeId}{k x:Operand}(ho:o.op = .store t k x) (I:Inv cmp w0 μ ι δ s w) (C:Ho μ ι w c e a o) {n:Nat}(H:gG c.P t=some n) {l y:bz}(q:cB c k=some l) (J:cB c x=some y)
 (d:(aR.store n l y).run e s=some (v,s')):rC cmp w0 μ ι δ s w c.P a o v s':=by
 have K:=C k l (by simp[ho,Op.operands]) q;have hx:=C x y (by simp[ho,Op.operands]) J;unfold aR.run at d;dsimp only at d;generalize l.ev e=Z at *;generalize y.ev e=L at *;generalize r:a.eval k=aa at *;generalize z:a.eval x=f at *;cases K<;>try (cases d;done)
 rename_i id off p A;cases m:cells? L with
 | none=>rw[m]at d;cases d
 | some new=>
   rw[m]at d;dsimp only at d;split at d
   ·rename_i cs D;split at d
    ·rename_i M;cases d;obtain⟨B,E,N⟩:=iz hx m;have O:=Ra.one (μ:=μ) (ι:=ι) (w:=w) ⟨B,E⟩ (by simpa using N);obtain⟨_,h1,h2,h3,_,_,_⟩:=I.dD id _ p D A;have g:f.cells.toList.length=new.length:=by simpa using B
     obtain⟨F,Q,W⟩:=fQ (P:=c.P) p.b (p.off+off) f.cells.toList 0 w (Lx hx m) (λj R=>by
      obtain⟨u,T,_⟩:=h2 (off+j) om;exact⟨u,by rw[<- T];congr 2;omega⟩) (λj R=>by
      exact h3 _)
     rw[Nat.add_zero]at W;have G:∀ i,f.cells.toList.getD i undef=f.cells.getD i undef:=λi=>by simp[gD,gF]
     obtain⟨U,V⟩:=I.write D A new f.cells.toList g om (λi h=>by rw[G];exact E i h) (λi h=>by rw[G];exact O i (by simpa using h)) W;refine⟨undef,F,μ,ι, .inr ⟨?_,rfl⟩,U,V, .cy rfl (λi h=>absurd h (Nat.not_lt_zero _)),Kept.put A _⟩;have X:f.cells.size=n:=by rw[B,M.1]
     have Y:(storeVar t ⟨p.b,p.off+off,none⟩ f).run c.P w = .ok () F:=by
      simp only[storeVar,Sem.run_bind,wj H,Result.andThen_ok,Sem.run_ite];rw[if_neg (by simp[X])];exact Q
     simp[execOp,ho,r,z,Instr.storeAt,Instr.sureAddr,Y]
    ·cases d
   ·cases d
theorem nu (I:Inv cmp w0 μ ι δ s w) {aU n:Nat}{v:LV}{x:Value}{new:List LV}(C:Rv μ ι w v x) (h:rowOf s aU n v=some new) :
 ∃ arr,(∀ g,cR w g->(Builtin.firstCells aU n x).run P g = .ok arr g)/\Ra μ ι w new arr/\(∀ i,i<arr.size->(arr.getD i undef).oneCell'=true)/\new.length=n*aU:=by
 have key:∀ (b o off:Nat) (cs:List LV),off+n*aU<=cs.length->(∀ i,i<cs.length->∃ x,w.cell? ⟨b,o+i,none⟩=some x/\x.oneCell'=true/\Rv μ ι w (cs.getD i .top) x)->∀ q,(n*aU≠0->q=o+off) ->
  ∃ arr,(∀ g,cR w g->(loadCells ⟨b,q,none⟩ (n*aU)).run P g = .ok arr g)/\Ra μ ι w ((cs.drop off).take (n*aU)) arr/\(∀ i,i<arr.size->(arr.getD i undef).oneCell'=true)/\((cs.drop off).take (n*aU)).length=n*aU:=by
  intro b o off cs M t q D;have A:∀ i,∃ x,i<n*aU->(w.cell? ⟨b,o+off+i,none⟩=some x/\x.oneCell'=true/\Rv μ ι w (cs.getD (off+i) .top) x):=λi=>by
   by_cases d:i<n*aU
   ·obtain⟨x,hx,ho,u⟩:=t (off+i) om;exact⟨x,λ_=>⟨by rw[<- hx];congr 2;omega,ho,u⟩⟩
   ·exact⟨undef,λh=>absurd h d⟩
  let f:Nat->Value:=λi=>Classical.choose (A i);have y:∀ i,i<n*aU->(w.cell? ⟨b,o+off+i,none⟩=some (f i)/\(f i).oneCell'=true/\Rv μ ι w (cs.getD (off+i) .top) (f i)):=λi d=>Classical.choose_spec (A i) d;have z:∀ g,cR w g->(loadCells ⟨b,q,none⟩ (n*aU)).run P g = .ok ((List.range (n*aU)).map f).toArray g:=λg hs=>by
   have z:=run_loadCells (P:=P) (w:=g) b q ((List.range (n*aU)).map f) (λj E=>by
    have B:j<n*aU:=by simpa using E
    rw[D om,hs.cell (y j B).1];simp[gD,B])
   rwa[List.length_map,List.length_range]at z
  have k:((cs.drop off).take (n*aU)).length=n*aU:=by simp;omega
  refine⟨_,z,⟨by simp[k],λi d=>?_⟩,λi d=>?_,k⟩
  ·rw[k]at d;rw[dK _ _ _ _ d];have:=(y i d).2.2;simpa[gF,d] using this
  ·have l:i<n*aU:=by simpa using d
   have:=(y i l).2.1;simpa[gF,l] using this
 cases C<;>simp only[rowOf,reduceCtorEq]at h
 case aj=>
  split at h
  ·rename_i h0;cases h;subst h0;exact⟨#[],λg _=>by simp[Builtin.firstCells],⟨rfl,λi d=>absurd d (Nat.not_lt_zero _)⟩,λi d=>absurd d (Nat.not_lt_zero _),by simp⟩
  ·cases h
 case zs=>
  split at h
  ·rename_i h0;cases h;subst h0;exact⟨#[],λg _=>by simp[Builtin.firstCells,loadCells,loadCellsFrom],⟨rfl,λi d=>absurd d (Nat.not_lt_zero _)⟩,λi d=>absurd d (Nat.not_lt_zero _),by simp⟩
  ·cases h
 case str b=>
  split at h
  ·rename_i h0;cases h;obtain⟨rfl,h0⟩:=h0;refine⟨(b.extract 0 n).data.map λb=>.int .u8 b.toNat,λg _=>by simp[Builtin.firstCells],?_,?_,?_⟩
   ·have N:(b.extract 0 n).data.toList=b.data.toList.take n:=by simp
    have F:((b.extract 0 n).data.map λb=>Value.int .u8 b.toNat)=((b.data.toList.take n).map λb=>Value.int .u8 b.toNat).toArray:=by
     apply Array.ext';simp
    rw[F];refine⟨by simp,λi d=>?_⟩;have l:i<(b.data.toList.take n).length:=by simpa using d
    simp only[gD,List.getElem?_map,gF,List.getElem?_toArray,gE l,Option.map_some,Option.getD_some];exact .int _ _
   ·intro i d;have l:i<(b.extract 0 n).data.size:=by simpa using d
    simp only[gF,Array.getElem?_map,Array.getElem?_eq_getElem l,Option.map_some,Option.getD_some];rfl
   ·have:b.size=b.data.toList.length:=by simp
    simp;omega
  ·cases h
 case aB cs len b o cap vs t d G u H=>
  split at h
  ·rename_i h0;cases h;have:n*aU<=len*aU:=Nat.mul_le_mul_right _ h0.1;have:=key b o 0 cs om (λi d=>⟨vs i,t i d,G i d,u i d⟩) o (λ_=>rfl);simpa[Builtin.firstCells] using this
  ·cases h
 case aD id off len O cap p r J Q H K=>
  split at h
  ·rename_i m cs L;split at h
   ·rename_i h0;cases h;have h2:n*aU<=len*aU:=Nat.mul_le_mul_right _ h0.2.1;have:=key p.b p.off off cs om (I.yQ L J) (p.off+r) (λdH=>by
     rw[K (by rintro rfl;have:n=0:=by omega
              subst this;simp at dH)])
    simpa[Builtin.firstCells] using this
   ·cases h
  ·cases h
end
section
variable {P:Program}{w:World}{w0:Bs}{μ:Mu}{ι:Io}{δ:Nat->Prop}{s s':St}{cmp:Nat->bp->Code->Prop}{c:Ctx}{e:Env}{a:Act}{o:Oper}{v:LV}
theorem Lb (b:Nat):∀ (r c:Nat),Builtin.growBy b r c<=max c (b+b / 4+192):=by
 intro r;induction r with
 | zero=>intro c;simp[Builtin.growBy];omega
 | succ r ih=>
   intro c;unfold Builtin.growBy;split
   ·omega
   ·rename_i h;have:=ih (c+(c+768) / 4);omega
theorem xN (b old:Nat) (h:old<b):Builtin.nextslicecap b old<=2*b+192:=by
 unfold Builtin.nextslicecap;split
 ·omega
 ·split
  ·omega
  ·have:=Lb b 4 old;omega
theorem vH {d:TypeDesc}(h:D8 d=true):(∃ e,d = .slice e)∨d = .string:=by
 cases d<;>first | (cases h;done) | exact .inl ⟨_,rfl⟩ | exact .inr rfl
theorem mB {t u g:TypeId}{ty:TypeId}{d:TypeDesc}{i:TypeInfo}(k:P.underlying t=some (.slice g)) (l:P.underlying u=some d) (r:D8 d=true) (hi:P.info? g=some i)
 {base:Option Addr}{f h n:Nat}{x:Value}(hl:Builtin.lenOf x=Sem.pure n) (m:f+n<=h) {new:Array Value}(p:(Builtin.firstCells i.size n x).run P w = .ok new w) {j:World}
 (y:∀ b,base=some b->(storeCells (b.add (f*i.size)) new.toList).run P w = .ok () j) (z:base=none->j=w) :
 (Builtin.append_ #[t,u] ty #[.slice base f h,x]).run P w = .ok (.slice base (f+n) h) j:=by
 have q:(sizeOf g).run P w = .ok i.size w:=by simp[sizeOf,JI hi]
 rcases vH r with⟨A,rfl⟩ | rfl<;>cases base with
 | none=>
   obtain rfl:=z rfl;simp only[Builtin.append_];simp[ru k,ru l,q,hl,m,p]
 | some b=>
   simp only[Builtin.append_];simp[ru k,ru l,q,hl,m,p,y b rfl]
theorem kN {t u h:TypeId}{ty:TypeId}{d:TypeDesc}{i:TypeInfo}(m:P.underlying t=some (.slice h)) (p:P.underlying u=some d) (E:D8 d=true) (hi:P.info? h=some i)
 {base:Option Addr}{b g n:Nat}{x:Value}(hl:Builtin.lenOf x=Sem.pure n) (F:g<b+n) (j:i.bytes≠0) (G:(b+n)*i.bytes<=2 ^ 32) {k:Value}(H:i.zero=some k)
 {old new:Array Value}(q:(Builtin.firstCells i.size b (.slice base b g)).run P w.drew = .ok old w.drew) (r:(Builtin.firstCells i.size n x).run P w.drew = .ok new w.drew) :
 ∃ l,b+n<=l/\(Builtin.append_ #[t,u] ty #[.slice base b g,x]).run P w =
   .ok (.slice (some ⟨w.heap.size,0,none⟩) (b+n) l) (({ w with drawn:=w.drawn+1 } : World).alloc (.cells (old++new++Builtin.zeroCells k.cells (l - (b+n))) h)):=by
 have y:∀ f:World,(sizeOf h).run P f = .ok i.size f:=λf=>by simp[sizeOf,JI hi]
 have I:b+n<=2 ^ 32:=Nat.le_trans (Nat.le_mul_of_pos_right _ (Nat.pos_of_ne_zero j)) G;have z:¬ (281474976710656<Builtin.nextslicecap (b+n) g*i.bytes):=by
  have h1:=xN (b+n) g F;have h2:Builtin.nextslicecap (b+n) g*i.bytes<=(2*(b+n)+192)*i.bytes:=Nat.mul_le_mul_right _ h1;have h3:(2*(b+n)+192)*i.bytes=2*((b+n)*i.bytes)+192*i.bytes:=by rw[Nat.add_mul,Nat.mul_assoc]
  have K:i.bytes<=(b+n)*i.bytes:=Nat.le_mul_of_pos_left _ om;omega
 have A:(Question.appendCap (b+n) g h).forced=false:=rfl;refine⟨(Question.appendCap (b+n) g h).cut (w.tape w.drawn (.appendCap (b+n) g h)),by simp[Question.cut],?_⟩;have B:¬ (b+n<=g):=by omega
 have J:¬ (9223372036854775807<(b:Int)+(n:Int)):=by omega
 have C:∀ f:World,(typeInfo h).run P f = .ok i f:=λf=>JI hi;have D:∀ f:World,(zeroValue h).run P f = .ok k f:=λf=>rz hi H;rcases vH E with⟨L,rfl⟩ | rfl
 ·simp only[Builtin.append_];simp[ru m,ru p,y,hl,B,C,j,z,A,q,r,D,newRow]
 ·simp only[Builtin.append_];simp[ru m,ru p,y,hl,B,C,j,z,A,q,r,D,newRow]
theorem Ra.append {xs b:List LV}{us vs:Array Value}(h:Ra μ ι w xs us) (k:Ra μ ι w b vs):Ra μ ι w (xs++b) (us++vs):=by
 refine⟨by simp[h.1,k.1],λi f=>?_⟩;by_cases hx:i<xs.length
 ·have:=h.2 i hx;have d:i<us.size:=by rw[h.1];exact hx
  simpa[gD,gF,List.getElem?_append_left hx,Array.getElem?_append_left d] using this
 ·have g:i - xs.length<b.length:=by simp at f;omega
  have:=k.2 (i - xs.length) g;have d:us.size<=i:=by rw[h.1];omega
  have e:i - us.size=i - xs.length:=by rw[h.1]
  simpa[gD,gF,List.getElem?_append_right (Nat.le_of_not_lt hx),Array.getElem?_append_right d,e] using this
theorem di (z:Array Value) (k:Nat):(Builtin.zeroCells z k).size=k*z.size:=by simp[Builtin.zeroCells]
theorem ek {z:Array Value}(d:∀ i,i<z.size->(z.getD i undef).oneCell'=true) (k:Nat):∀ i,i<(Builtin.zeroCells z k).size->((Builtin.zeroCells z k).getD i undef).oneCell'=true:=by
 intro i b;rw[di]at b;have f:0<z.size:=by
  rcases Nat.eq_zero_or_pos z.size with h | h
  ·rw[h]at b;simp at b
  ·exact h
 have hm:i % z.size<z.size:=Nat.mod_lt _ f;have:=d _ hm;rw[gF]at this ⊢;simp only[hm,getElem?_pos,Option.getD_some]at this;simp only[Builtin.zeroCells,Array.getElem?_map,Array.getElem?_range,b,if_true,Option.map_some,Option.getD_some];rw[getElem!_pos z _ hm];exact this
theorem ep {us vs:Array Value}(h:∀ i,i<us.size->(us.getD i undef).oneCell'=true) (k:∀ i,i<vs.size->(vs.getD i undef).oneCell'=true) :
 ∀ i,i<(us++vs).size->((us++vs).getD i undef).oneCell'=true:=by
 intro i b;by_cases hx:i<us.size
 ·have:=h i hx;simpa[gF,Array.getElem?_append_left hx] using this
 ·have:=k (i - us.size) (by simp at b;omega);simpa[gF,Array.getElem?_append_right (Nat.le_of_not_lt hx)] using this
theorem uN {v:LV}{x:Value}{n:Nat}(d:Rv μ ι w v x) (h:me v=some n):Builtin.lenOf x=Sem.pure n:=by
 rcases Ku d h with⟨b,k,rfl⟩ | ⟨s,rfl,rfl⟩<;>rfl
theorem qa {old new:Array Value}{xs b:List LV}(h:Ra μ ι w xs old) (k:Ra μ ι w b new) (z:Array Value) :
 (xs++b).length<=(old++new++z).size/\∀ i,i<(xs++b).length->Rv μ ι w ((xs++b).getD i .top) ((old++new++z).getD i undef):=by
 have d:=h.append k;refine⟨by rw[<- d.1];simp,λi f=>?_⟩;have g:i<(old++new).size:=by rw[d.1];exact f
 have:=d.2 i f;rw[gF,Array.getElem?_append_left g,<- gF];exact this
end
section
variable {P:Program}{w:World}{w0:Bs}{μ:Mu}{ι:Io}{δ:Nat->Prop}{s s':St}{cmp:Nat->bp->Code->Prop}{c:Ctx}{e:Env}{a:Act}{o:Oper}{v:LV}
theorem oh {old new z:Array Value}{l n k m b:Nat}(h1:old.size=l*m) (h2:new.size=n*m) (h3:z.size=k*m) (f:k=b - (l+n)) (d:l+n<=b):b*m<=(old++new++z).size:=by
 have:b=l+n+k:=by omega
 subst this;simp only[Array.size_append,h1,h2,h3];rw[Nat.add_mul,Nat.add_mul];exact Nat.le_refl _
theorem pH {μ:Mu}{ι:Io}{w:World}{k b len d aU f:Nat}(h:d*aU<=f) (hl:len<=d):Rv (μ.jT k ⟨b,0,f⟩) ι w (.aD k 0 len aU) (.slice (some ⟨b,0,none⟩) len d) :=
 .aD (off:=0) (off':=0) (p:=⟨b,0,f⟩) (by simp[Mu.jT]) (by simpa using h) hl (λ_=>rfl)
def y7 (P:Program) (w:World) (t u ty:TypeId) (xv yv:Value) (r:Value) (b:World):Prop:=(Builtin.append_ #[t,u] ty #[xv,yv]).run P w = .ok r b
theorem Bj {t u V ty : TypeId}{d : TypeDesc}{i : TypeInfo}{z : List LV}(ht : P.underlying t = some (.slice V)) (hu : P.underlying u = some d) (hd : D8 d = true) (hi : P.info? V = some i)
 (CQ:i.size≠0) (zM:i.bytes≠0) (hz:oJ P V=some z) (KC:z.length=i.size)
 (I:Inv cmp w0 μ ι δ s w) {lx:LV}{xv yv:Value}(hx:Rv μ ι w lx xv) {n:Nat}(hl:Builtin.lenOf yv=Sem.pure n) {new:List LV}{arr:Array Value}
 (dB:∀ A,cR w A->(Builtin.firstCells i.size n yv).run P A = .ok arr A) (QH:Ra μ ι w new arr) (U:∀ i,i<arr.size->(arr.getD i undef).oneCell'=true) (fG:new.length=n*i.size)
 (C:bF i.size i.bytes lx new n s=some (v,s')) :
 ∃ r A bT bW,y7 P w t u ty xv yv r A/\Inv cmp w0 bT bW δ s' A/\Ext μ ι δ w bT bW δ A/\Rv bT bW A v r/\Kept μ s bT s':=by
 obtain⟨i',O,dc,CO⟩:∃ i' O,P.info? V=some i'/\i'.zero=some O/\∃ x,mV O=some x/\cells? x=some z:=by
  unfold oJ at hz;obtain⟨i',h1,hz⟩:=bind_some hz;obtain⟨O,h2,hz⟩:=bind_some hz;obtain⟨x,h3,hz⟩:=bind_some hz;exact⟨i',O,h1,h2,x,h3,hz⟩
 obtain rfl:i=i':=Option.some.inj (hi.symm.trans dc);obtain⟨CO,zx,hzx,LS⟩:=CO;obtain⟨ux,SG,hz3⟩:=iz (nj (μ:=μ) (ι:=ι) (w:=w) hzx) LS;have SF:=Ra.one (μ:=μ) (ι:=ι) (w:=w) ⟨ux,SG⟩ (by simpa using hz3);have D:arr.size=n*i.size:=by rw[QH.1,fG]
 have pY:cR w w.drew:=cR.drew w;have Id:=I.same pY;have xd:=I.eU pY;have S2:Ra μ ι w.drew new arr:=⟨QH.1,λj f=>(QH.2 j f).ext xd⟩;cases hx<;>simp only[bF,reduceCtorEq]at C
 case aj=>
  split at C
  ·rename_i hn;cases C;subst hn;refine⟨.slice none 0 0,w,μ,ι,?_,I,Ext.refl _ _ _ _, .aj,Kept.refl _ _⟩;exact mB ht hu hd hi hl (Nat.le_refl _) (dB w (cR.refl w)) (λb h=>by cases h) (λ_=>rfl)
  ·rename_i hn;split at C
   ·rename_i g;cases C;have B:(Builtin.firstCells i.size 0 (.slice none 0 0)).run P w.drew = .ok #[] w.drew:=by simp[Builtin.firstCells]
    obtain⟨F,X,L⟩:=kN (ty:=ty) ht hu hd hi hl om zM (by unfold big at g;rw[Nat.zero_add];exact g.1) CO B (dB _ pY);have yq:Ra μ ι w.drew [] #[]:=⟨rfl,λj f=>absurd f (Nat.not_lt_zero _)⟩;obtain⟨g1,g2⟩:=qa yq S2 (Builtin.zeroCells O.cells (F - (0+n)));rw[List.nil_append]at g1 g2;have Q:=ep (ep (us:=#[]) (λj f=>by simp at f) U) (ek SF (F - (0+n)));obtain⟨I2,E⟩:=Id.ny V _ new g1 Q g2;refine⟨_,_,_,ι,L,I2,xd.trans E,?_,Kept.new _ _⟩;rw[Nat.zero_add];exact pH (oh (l:=0) (n:=n) (k:=F - (0+n)) (by simp) D (by simp[di,ux,KC]) rfl X) om
   ·cases C
 case zs za=>
  split at C
  ·rename_i hn;cases C;subst hn;refine⟨.slice (some za) 0 0,w,μ,ι,?_,I,Ext.refl _ _ _ _, .zs _,Kept.refl _ _⟩;exact mB ht hu hd hi hl (Nat.le_refl _) (dB w (cR.refl w)) (λb h=>by
    cases h;have:arr.toList=[]:=List.length_eq_zero_iff.1 (by simpa using D);rw[this];simp[storeCells]) (λh=>by cases h)
  ·rename_i hn;split at C
   ·rename_i g;cases C;have B:(Builtin.firstCells i.size 0 (.slice (some za) 0 0)).run P w.drew = .ok #[] w.drew:=by simp[Builtin.firstCells,loadCells,loadCellsFrom]
    obtain⟨F,X,L⟩:=kN (ty:=ty) ht hu hd hi hl om zM (by unfold big at g;rw[Nat.zero_add];exact g.1) CO B (dB _ pY);have yq:Ra μ ι w.drew [] #[]:=⟨rfl,λj f=>absurd f (Nat.not_lt_zero _)⟩;obtain⟨g1,g2⟩:=qa yq S2 (Builtin.zeroCells O.cells (F - (0+n)));rw[List.nil_append]at g1 g2;have Q:=ep (ep (us:=#[]) (λj f=>by simp at f) U) (ek SF (F - (0+n)));obtain⟨I2,E⟩:=Id.ny V _ new g1 Q g2;refine⟨_,_,_,ι,L,I2,xd.trans E,?_,Kept.new _ _⟩;rw[Nat.zero_add];exact pH (oh (l:=0) (n:=n) (k:=F - (0+n)) (by simp) D (by simp[di,ux,KC]) rfl X) om
   ·cases C
 case aD id off len aU cap p off' H gR pq sP=>
  split at C
  ·rename_i A5;subst A5;have B:∀ {s:St}{w:World}{ι:Io}(_:Inv cmp w0 μ ι δ s w) {m:Md}{cs:List LV},s.get id=some (.cells m cs)->off+len*i.size<=cs.length->∃ old,(∀ A,cR w A->(Builtin.firstCells i.size len (.slice (some ⟨p.b,p.off+off',none⟩) len cap)).run P A = .ok old A) /\
    Ra μ ι w ((cs.drop off).take (len*i.size)) old/\(∀ i,i<old.size->(old.getD i undef).oneCell'=true)/\((cs.drop off).take (len*i.size)).length=len*i.size:=by
    intro s w ι I m cs R jZ;refine nu (P:=P) I (.aD H gR pq sP) (new:=(cs.drop off).take (len*i.size)) ?_;simp only[rowOf,R];rw[if_pos ⟨trivial,Nat.le_refl _,jZ⟩]
   have T:=I.nX id p H;split at C
   · -- written so far
    rename_i cs R;split at C
    ·rename_i g;cases C;obtain⟨jZ,gZ,_⟩:=g;have ey:=I.dD id _ p R H;obtain⟨⟨sh,x9⟩,k1,k2,k3,k4,k5,k6⟩:=ey;obtain⟨old,eY,oQ,iw,Y⟩:=B I R jZ;obtain⟨J,rO⟩:=I.ZD (cs':=[]) R H (.inl rfl);have I5:∀ q,Kept μ s (μ.jT s.n q) ((s.put id (.cells .ro [])).new (.cells .mut ((cs.drop off).take (len*i.size)++new))):=by
      refine λq=>⟨by simp,λj f hm=>?_,λj f hm=>Mu.pG om hm⟩;rw[St.az,if_neg (by simp;omega),St.ah,if_neg];rintro rfl;rw[H]at hm;cases hm
     by_cases M:len+n<=cap
     · -- in place
      have bQ:∀ j,j<arr.toList.length->∃ v,w.cell? ⟨p.b,(p.off+off'+len*i.size)+(0+j),none⟩=some v:=λj f=>by
       have G:j<n*i.size:=by rw[<- D];simpa using f
       have K : cap ≠ 0 := by rintro rfl; have : n = 0 := by omega
                              subst this;simp at G
       have h2:(len+n)*i.size<=cap*i.size:=Nat.mul_le_mul_right _ M;rw[Nat.add_mul]at h2;obtain⟨v,Z,_⟩:=k2 (off+len*i.size+j) om;exact⟨v,by rw[<- Z,sP K];congr 2;omega⟩
      have Xk:∀ j,j<arr.toList.length->w.frozen? ⟨p.b,(p.off+off'+len*i.size)+(0+j),none⟩=false:=λj f=>by
       have G:j<n*i.size:=by rw[<- D];simpa using f
       have K : cap ≠ 0 := by rintro rfl; have : n = 0 := by omega
                              subst this;simp at G
       have h2:(len+n)*i.size<=cap*i.size:=Nat.mul_le_mul_right _ M;rw[Nat.add_mul]at h2;exact k3 _
      have gL:∀ j,arr.toList.getD j undef=arr.getD j undef:=λj=>by simp[gD,gF]
      have Q:∀ y∈arr.toList,y.oneCell'=true:=λy hy=>by
       obtain⟨j,f,rfl⟩:=List.getElem_of_mem hy;have G:j<arr.size:=by simpa using f
       have:=U j G;simpa[gF,G] using this
      obtain⟨A,jy,W⟩:=fQ (P:=P) p.b (p.off+off'+len*i.size) arr.toList 0 w Q bQ Xk;rw[Nat.add_zero]at W;have W5:∀ j,j<arr.toList.length->¬ ι p.b ((p.off+off'+len*i.size)+j):=λj f=>by
       have G:j<n*i.size:=by rw[<- D];simpa using f
       have K : cap ≠ 0 := by rintro rfl; have : n = 0 := by omega
                              subst this;simp at G
       have h2:(len+n)*i.size<=cap*i.size:=Nat.mul_le_mul_right _ M;rw[Nat.add_mul]at h2;have:=k5 rfl (off+len*i.size+j) om;rwa[show p.off+(off+len*i.size+j)=p.off+off'+len*i.size+j from by rw[sP K];omega]at this
      obtain⟨J2,E⟩:=J.z6 W T.2.1 (λj f=>by rw[gL];exact U j (by simpa using f)) W5 ⟨sh,x9⟩ (λj b q f g N=>rO j b q p f g (by simp) N H);have L:y7 P w t u ty (.slice (some ⟨p.b,p.off+off',none⟩) len cap) yv (.slice (some ⟨p.b,p.off+off',none⟩) (len+n) cap) A :=
       mB ht hu hd hi hl M (dB w (cR.refl w)) (λb g=>by cases g;rw[jl];exact jy) (λh=>by cases h)
      by_cases K:cap=0
      ·have Ev:len=0:=by omega
       have wq:n=0:=by omega
       subst K;subst Ev;subst wq
       have yd : new = [] := by have : new.length = 0 := by rw[fG]; simp
                                exact List.length_eq_zero_iff.1 this
       subst yd;obtain⟨J3,x3⟩:=J2.qh ⟨p.b,p.off+off',0⟩ (.cells .mut ((cs.drop off).take (0*i.size)++[])) T.2.1 (by rw[W.size];exact T.2.2)
        ⟨⟨sh,by rw[W.shape];exact x9⟩,by simp,λj f=>absurd f (Nat.not_lt_zero _),λj=>by rw[W.frozen];exact k3 j,λh=>absurd rfl h,λ_ j f=>absurd f (Nat.not_lt_zero _),λh=>by cases h⟩
        (λ_ j b q f g N=>rO j b q p f g (by simp) N H)
       exact⟨_,A,_,ι,L,J3,E.trans x3, .aD (off:=0) (off':=0) (p:=⟨p.b,p.off+off',0⟩) (by simp[Mu.jT]) (by simp) om (λh=>absurd rfl h),I5 _⟩
      ·have KO:=sP K;subst KO;have O7:(len+n)*i.size<=cap*i.size:=Nat.mul_le_mul_right _ M;rw[Nat.add_mul]at O7;have Et:((cs.drop off').take (len*i.size)++new).length=len*i.size+n*i.size:=by rw[List.length_append,Y,fG]
       have G2:∀ j,j<p.cap - off'->∃ v,A.cell? ⟨p.b,p.off+off'+j,none⟩=some v/\v.oneCell'=true/\(j<((cs.drop off').take (len*i.size)++new).length->Rv μ ι A (((cs.drop off').take (len*i.size)++new).getD j .top) v):=by
        intro j f;obtain⟨v,Z,Er,mY⟩:=k2 (off'+j) om;by_cases h1:j<len*i.size
        ·refine⟨v,?_,Er,λ_=>?_⟩
         ·rw[W.xS _ (by simp only;omega)];rw[<- Z];congr 2;omega
         ·rw[gD,List.getElem?_append_left (by rw[Y];exact h1),<- gD,dK _ _ _ _ h1];exact (mY om).ext E
        ·by_cases h2:j<len*i.size+n*i.size
         ·have hh:=W.KX (j - len*i.size) (by rw[Array.length_toList,D];omega);rw[show p.off+off'+len*i.size+(j - len*i.size)=p.off+off'+j from by omega]at hh;refine⟨_,hh,by rw[gL];exact U _ (by rw[D];omega),λ_=>?_⟩;rw[gD,List.getElem?_append_right (by rw[Y];omega),<- gD,Y,gL];exact (QH.2 _ (by rw[fG];omega)).ext E
         ·refine⟨v,?_,Er,λhc=>absurd hc (by rw[Et];exact h2)⟩;rw[W.xS _ (by simp only[Array.length_toList,D];omega)];rw[<- Z];congr 2;omega
       obtain⟨J3,x3⟩:=J2.qh ⟨p.b,p.off+off',p.cap - off'⟩ (.cells .mut ((cs.drop off').take (len*i.size)++new)) T.2.1 (by rw[W.size];exact T.2.2)
        ⟨⟨sh,by rw[W.shape];exact x9⟩,by rw[Et];simp only;omega,G2,λj=>by rw[W.frozen];exact k3 j,
          λh=>absurd rfl h,λ_ j f=>by have:=k5 rfl (off'+j) (by simp only at f;omega);rwa[<- Nat.add_assoc]at this,λh=>by cases h⟩
        (λ_ j b q f g N=>rO j b q p f g (by simp) N H)
       refine⟨_,A,_,ι,L,J3,E.trans x3,?_,I5 _⟩;have:=Rv.aD (μ:=μ.jT s.n ⟨p.b,p.off+off',p.cap - off'⟩) (ι:=ι) (w:=A) (id:=s.n) (off:=0) (len:=len+n) (aU:=i.size) (cap:=cap) (off':=0) (p:=⟨p.b,p.off+off',p.cap - off'⟩) (by simp[Mu.jT]) (by simp only;omega) M (λ_=>rfl);exact this
     · -- it grows
      obtain⟨Wc,Tn,QU,hd3,hd4⟩:=B Id R jZ;obtain⟨F,X,L⟩:=kN (ty:=ty) ht hu hd hi hl om zM (by unfold big at gZ;exact gZ) CO (Tn _ (cR.refl _)) (dB _ pY);obtain⟨g1,g2⟩:=qa QU S2 (Builtin.zeroCells O.cells (F - (len+n)));have Q:=ep (ep hd3 U) (ek SF (F - (len+n)));obtain⟨I2,E⟩:=(J.same pY).ny V _ _ g1 Q g2;refine⟨_,_,_,ι,L,I2,xd.trans E,?_,I5 _⟩;exact pH (oh (l:=len) (n:=n) (k:=F - (len+n)) (by rw[QU.1,hd4]) D (by rw[di,ux,KC]) rfl X) X
    ·cases C
   · -- appended to so far
    rename_i cs R;split at C
    ·rename_i g;cases C;obtain⟨hin0,gZ,_⟩:=g;have jZ:off+len*i.size<=cs.length:=by omega
     have ey:=I.dD id _ p R H;obtain⟨⟨sh,x9⟩,k1,k2,k3,k4,k5,k6⟩:=ey;obtain⟨old,eY,oQ,iw,Y⟩:=B I R jZ;obtain⟨J,rO⟩:=I.ZD (cs':=cs) R H (.inr ⟨rfl,rfl⟩);have I5:∀ q,Kept μ s (μ.jT s.n q) ((s.put id (.cells .ro cs)).new (.cells .app ((cs.drop off).take (len*i.size)++new))):=by
      refine λq=>⟨by simp,λj f hm=>?_,λj f hm=>Mu.pG om hm⟩;rw[St.az,if_neg (by simp;omega),St.ah,if_neg];rintro rfl;rw[H]at hm;cases hm
     by_cases M:len+n<=cap
     · -- in place
      have bQ:∀ j,j<arr.toList.length->∃ v,w.cell? ⟨p.b,(p.off+off'+len*i.size)+(0+j),none⟩=some v:=λj f=>by
       have G:j<n*i.size:=by rw[<- D];simpa using f
       have K : cap ≠ 0 := by rintro rfl; have : n = 0 := by omega
                              subst this;simp at G
       have h2:(len+n)*i.size<=cap*i.size:=Nat.mul_le_mul_right _ M;rw[Nat.add_mul]at h2;obtain⟨v,Z,_⟩:=k2 (off+len*i.size+j) om;exact⟨v,by rw[<- Z,sP K];congr 2;omega⟩
      have Xk:∀ j,j<arr.toList.length->w.frozen? ⟨p.b,(p.off+off'+len*i.size)+(0+j),none⟩=false:=λj f=>by
       have G:j<n*i.size:=by rw[<- D];simpa using f
       have K : cap ≠ 0 := by rintro rfl; have : n = 0 := by omega
                              subst this;simp at G
       have h2:(len+n)*i.size<=cap*i.size:=Nat.mul_le_mul_right _ M;rw[Nat.add_mul]at h2;exact k3 _
      have gL:∀ j,arr.toList.getD j undef=arr.getD j undef:=λj=>by simp[gD,gF]
      have Q:∀ y∈arr.toList,y.oneCell'=true:=λy hy=>by
       obtain⟨j,f,rfl⟩:=List.getElem_of_mem hy;have G:j<arr.size:=by simpa using f
       have:=U j G;simpa[gF,G] using this
      obtain⟨A,jy,W⟩:=fQ (P:=P) p.b (p.off+off'+len*i.size) arr.toList 0 w Q bQ Xk;rw[Nat.add_zero]at W;have W5:∀ j,j<arr.toList.length->¬ ι p.b ((p.off+off'+len*i.size)+j):=λj f=>by
       have G:j<n*i.size:=by rw[<- D];simpa using f
       have K : cap ≠ 0 := by rintro rfl; have : n = 0 := by omega
                              subst this;simp at G
       have h2:(len+n)*i.size<=cap*i.size:=Nat.mul_le_mul_right _ M;rw[Nat.add_mul]at h2;have:=k6 rfl (off+len*i.size+j) om om;rwa[show p.off+(off+len*i.size+j)=p.off+off'+len*i.size+j from by rw[sP K];omega]at this
      obtain⟨J2,E⟩:=J.z6 W T.2.1 (λj f=>by rw[gL];exact U j (by simpa using f)) W5 ⟨sh,x9⟩ (λj b q f g N=>rO j b q p f g (by simp) N H);have L:y7 P w t u ty (.slice (some ⟨p.b,p.off+off',none⟩) len cap) yv (.slice (some ⟨p.b,p.off+off',none⟩) (len+n) cap) A :=
       mB ht hu hd hi hl M (dB w (cR.refl w)) (λb g=>by cases g;rw[jl];exact jy) (λh=>by cases h)
      by_cases K:cap=0
      ·have Ev:len=0:=by omega
       have wq:n=0:=by omega
       subst K;subst Ev;subst wq
       have yd : new = [] := by have : new.length = 0 := by rw[fG]; simp
                                exact List.length_eq_zero_iff.1 this
       subst yd;obtain⟨J3,x3⟩:=J2.qh ⟨p.b,p.off+off',0⟩ (.cells .app ((cs.drop off).take (0*i.size)++[])) T.2.1 (by rw[W.size];exact T.2.2)
        ⟨⟨sh,by rw[W.shape];exact x9⟩,by simp,λj f=>absurd f (Nat.not_lt_zero _),λj=>by rw[W.frozen];exact k3 j,λ_ j f=>by simp at f,(λh=>by cases h),λ_ j _ f=>absurd f (Nat.not_lt_zero _)⟩
        (λ_ j b q f g N=>rO j b q p f g (by simp) N H)
       exact⟨_,A,_,ι,L,J3,E.trans x3, .aD (off:=0) (off':=0) (p:=⟨p.b,p.off+off',0⟩) (by simp[Mu.jT]) (by simp) om (λh=>absurd rfl h),I5 _⟩
      ·have KO:=sP K;subst KO;have O7:(len+n)*i.size<=cap*i.size:=Nat.mul_le_mul_right _ M;rw[Nat.add_mul]at O7;have Et:((cs.drop off').take (len*i.size)++new).length=len*i.size+n*i.size:=by rw[List.length_append,Y,fG]
       have G2:∀ j,j<p.cap - off'->∃ v,A.cell? ⟨p.b,p.off+off'+j,none⟩=some v/\v.oneCell'=true/\(j<((cs.drop off').take (len*i.size)++new).length->Rv μ ι A (((cs.drop off').take (len*i.size)++new).getD j .top) v):=by
        intro j f;obtain⟨v,Z,Er,mY⟩:=k2 (off'+j) om;by_cases h1:j<len*i.size
        ·refine⟨v,?_,Er,λ_=>?_⟩
         ·rw[W.xS _ (by simp only;omega)];rw[<- Z];congr 2;omega
         ·rw[gD,List.getElem?_append_left (by rw[Y];exact h1),<- gD,dK _ _ _ _ h1];exact (mY om).ext E
        ·by_cases h2:j<len*i.size+n*i.size
         ·have hh:=W.KX (j - len*i.size) (by rw[Array.length_toList,D];omega);rw[show p.off+off'+len*i.size+(j - len*i.size)=p.off+off'+j from by omega]at hh;refine⟨_,hh,by rw[gL];exact U _ (by rw[D];omega),λ_=>?_⟩;rw[gD,List.getElem?_append_right (by rw[Y];omega),<- gD,Y,gL];exact (QH.2 _ (by rw[fG];omega)).ext E
         ·refine⟨v,?_,Er,λhc=>absurd hc (by rw[Et];exact h2)⟩;rw[W.xS _ (by simp only[Array.length_toList,D];omega)];rw[<- Z];congr 2;omega
       obtain⟨J2',x2'⟩:=J2.addIo (λb o=>b=p.b/\∃ j,j<n*i.size/\o=p.off+off'+len*i.size+j) (λb o h=>by rw[h.1];exact T.2.1) (λb o h=>by rw[h.1];exact⟨⟨sh,by rw[W.shape];exact x9⟩,λo=>by rw[W.frozen];exact k3 o⟩) (by
        rintro b o ⟨rfl,j,f,rfl⟩;exact⟨_,W.KX j (by rw[Array.length_toList,D];exact f)⟩) (by
        rintro j b q f g N o ⟨he,_⟩;exact rO j b q p f g (by simp) N H he)
       obtain⟨J3,x3⟩:=J2'.qh ⟨p.b,p.off+off',p.cap - off'⟩ (.cells .app ((cs.drop off').take (len*i.size)++new)) T.2.1 (by rw[W.size];exact T.2.2)
        ⟨⟨sh, by rw[W.shape]; exact x9⟩, by rw[Et]; simp only; omega, λj f => by
         obtain⟨v,h1,h2,h3⟩:=G2 j f;exact⟨v,h1,h2,λh=>(h3 h).ext x2'⟩,
         λj=>by rw[W.frozen];exact k3 j,
         λ_ j f=>by
          rw[Et]at f;by_cases h1:j<len*i.size
          ·refine .inl ?_;have:=k4 (by simp) (off'+j) om;rwa[<- Nat.add_assoc]at this
          ·exact .inr ⟨rfl,j - len*i.size,by omega,by simp only;omega⟩,
         (λh=>by cases h),
         λ_ j hl f hx=>by
          rw[Et]at hl;rcases hx with hx | ⟨_,k,hk,hx⟩
          ·have:=k6 rfl (off'+j) om (by simp only at f;omega);rw[<- Nat.add_assoc]at this;exact this hx
          ·simp only at hx;omega⟩
        (λ_ j b q f g N=>rO j b q p f g (by simp) N H)
       refine⟨_,A,_,_,L,J3,(E.trans x2').trans x3,?_,I5 _⟩;have:=Rv.aD (μ:=μ.jT s.n ⟨p.b,p.off+off',p.cap - off'⟩) (ι:=λb o=>ι b o∨(b=p.b/\∃ j,j<n*i.size/\o=p.off+off'+len*i.size+j)) (w:=A) (id:=s.n) (off:=0) (len:=len+n) (aU:=i.size) (cap:=cap) (off':=0) (p:=⟨p.b,p.off+off',p.cap - off'⟩) (by simp[Mu.jT]) (by simp only;omega) M (λ_=>rfl);exact this
     · -- it grows
      obtain⟨Wc,Tn,QU,hd3,hd4⟩:=B Id R jZ;obtain⟨F,X,L⟩:=kN (ty:=ty) ht hu hd hi hl om zM (by unfold big at gZ;exact gZ) CO (Tn _ (cR.refl _)) (dB _ pY);obtain⟨g1,g2⟩:=qa QU S2 (Builtin.zeroCells O.cells (F - (len+n)));have Q:=ep (ep hd3 U) (ek SF (F - (len+n)));obtain⟨I2,E⟩:=(J.same pY).ny V _ _ g1 Q g2;obtain⟨Mh,I3,x3,_⟩:=I2.F0 (id:=s.n) (m:=.mut) (m':=.app) (cs':=(cs.drop off).take (len*i.size)++new) (by rw[St.az];exact if_pos rfl) (p:=⟨w.drew.heap.size,0,_⟩) (by show Mu.jT μ s.n _ s.n=_;simp[Mu.jT];rfl) rfl (.inr ⟨rfl,rfl⟩) (by
       intro j x f hx;have bQ:=World.cell?_alloc_new w.drew (Wc++arr++Builtin.zeroCells O.cells (F - (len+n))) V j;rw[Nat.zero_add]at hx;have IP:(Wc++arr++Builtin.zeroCells O.cells (F - (len+n)))[j]? = some x:=bQ.symm.trans hx;have:=(g2 j f).ext E;rw[gF,IP,Option.getD_some]at this;exact this)
      refine⟨_,_,_,Mh,L,I3.congr rfl (λj=>?_),(xd.trans E).trans x3,?_,I5 _⟩
      ·show ((s.put id (.cells .ro cs)).new (.cells .app ((cs.drop off).take (len*i.size)++new))).get j=_;rw[St.ah,St.az,St.az];by_cases e:j=s.n
       ·rw[if_pos e];exact if_pos e
       ·rw[if_neg e];have e':¬ j=(s.put id (.cells .ro cs)).n:=e;rw[if_neg e',if_neg e']
      ·exact pH (oh (l:=len) (n:=n) (k:=F - (len+n)) (by rw[QU.1,hd4]) D (by rw[di,ux,KC]) rfl X) X
    ·cases C
   ·cases C
  ·cases C
end
end Go.Pv
end
