/- Plain code, one rule an operation. -/
import Derived.Test.YtkbiecjdcjfhaaaPvRow
set_option linter.unusedSimpArgs false
set_option linter.unusedVariables false
section
set_option linter.unusedSimpArgs false
set_option linter.unusedVariables false
namespace Go.Pv
open Go
structure W (P:Program) (G:Globs) (K:Env→St→Prop) (l:List LOper) (e:Env) (s:St):Prop where
  out:wpOps P G K l e s
structure Cd (P:Program) (G:Globs) (rd:Bool) (nt:Nat) (c:LCode) (e:Env) (s:St) (Q:Out→Env→St→Prop):Prop where
  out:CodeOk P G rd nt c e s Q
section
variable {P:Program} {G:Globs} {K:Env→St→Prop} {l:List LOper} {e:Env} {s:St} {d:Nat} {g:Option (Nat × Bool)} {fl:Bool}
theorem wN:wantedG none e=some true:=rfl
theorem wG {i:Nat} {b:Bool} (h:e.at i = .bool b):wantedG (some (i,b)) e=some true:=by simp [wantedG,h]
theorem wG0 {i:Nat} {b c:Bool} (h:e.at i = .bool c) (hn:(c == b)=false):wantedG (some (i,b)) e=some false:=by simp [wantedG,h,hn]
theorem q_skip {o:LOper} {i:Nat} {b c:Bool} (ho:o.guard=some (i,b)) (h:e.at i = .bool c) (hn:(c == b)=false) (k:W P G K l (e.put o.dst (.tup [])) s):W P G K (o::l) e s:=⟨pw_skipF (by rw [ho];exact wG0 h hn) k.out⟩
theorem q_op {op:LOp} {v:LV} {s':St} (hg:wantedG g e=some true) (hs:strictOk fl op e=true) (hr:op.run e s=some (v,s')) (k:W P G K l (Tr.set e d v) s'):W P G K (⟨some d,op,g,[],fl⟩::l) e s:=
  ⟨pw_runF hg hr hs trivial k.out⟩
theorem q_mv {x:Opd} {v:LV} (hg:wantedG g e=some true) (hx:x.ev e=v) (k:W P G K l (Tr.set e d v) s):W P G K (⟨some d, .mv x,g,[],fl⟩::l) e s:=
  q_op hg rfl (by simp [LOp.run,hx]) k
theorem q_len {x:Opd} {v:LV} {n:Nat} (hg:wantedG g e=some true) (hx:x.ev e=v) (hv:slLen v=some n) (k:W P G K l (Tr.set e d (.int .i64 n)) s):W P G K (⟨some d, .lenSl x,g,[],fl⟩::l) e s:=
  q_op hg rfl (by simp [LOp.run,hx,hv]) k
theorem q_iaddr {x i:Opd} {esz:Nat} {v iv r:LV} {s':St} (hg:wantedG g e=some true) (hx:x.ev e=v) (hi:i.ev e=iv) (hv:iaLV esz v iv s=some (r,s')) (k:W P G K l (Tr.set e d r) s'):W P G K (⟨some d, .iaddr esz x i,g,[],fl⟩::l) e s:=
  q_op hg rfl (by rw [run_iaddr,hx,hi,hv]) k
theorem q_cmp {op:BinOp} {x y:Opd} {a b:LV} {b0:Bool} (hg:wantedG g e=some true) (hx:x.ev e=a) (hy:y.ev e=b) (hr:binLV op a b=some (.bool b0)) (k:∀ b,b0=b→W P G K l (Tr.set e d (.bool b)) s):W P G K (⟨some d, .bin op x y,g,[],fl⟩::l) e s:=
  ⟨pw_binF hg (by rw [hx,hy];exact hr) fun b hb=>(k b hb).out⟩
theorem q_bin {op:BinOp} {x y:Opd} {a b:LV} {v:LV} (hg:wantedG g e=some true) (hx:x.ev e=a) (hy:y.ev e=b) (hr:binLV op a b=some v) (k:W P G K l (Tr.set e d v) s):W P G K (⟨some d, .bin op x y,g,[],fl⟩::l) e s:=
  q_op hg rfl (by simp [LOp.run,hx,hy,hr]) k
theorem q_eq {neg:Bool} {t:EqTy} {x y:Opd} {a b:LV} {b0:Bool} (hg:wantedG g e=some true) (hx:x.ev e=a) (hy:y.ev e=b) (hr:eqLV t a b=some b0) (k:∀ b,(if neg then !b0 else b0)=b→W P G K l (Tr.set e d (.bool b)) s):W P G K (⟨some d, .eq neg t x y,g,[],fl⟩::l) e s:=
  ⟨pw_eqF hg (by rw [hx,hy];exact hr) fun b hb=>(k b hb).out⟩
theorem q_run0 {op:LOp} {s':St} {v:LV} (hr:op.run e s=some (v,s')) (h:W P G K l (Tr.set e d v) s'):W P G K (⟨some d,op,none,[],false⟩::l) e s:=⟨pw_run0 hr h.out⟩
theorem q_pure (hG:∀ x∈G,LV.closed.closedAll x.2=true) {dst:Option Nat} {chk:List (Nat × Option (Nat × Bool) × LOp)} {as:List Opd} {vs:List LV} {fv r:LV} (hp:PureOk P G fv vs r) (hg:wantedG g e=some true) (ha:as.map (·.ev e)=vs)
    (hc:Chks chk (e.put dst r) s) (h:W P G K l (e.put dst r) s):W P G K (⟨dst, .call (.c fv) as,g,chk,fl⟩::l) e s:=⟨pw_pure hG hp hg ha hc h.out⟩
theorem q_pureEx (hG:∀ x∈G,LV.closed.closedAll x.2=true) {dst:Option Nat} {chk:List (Nat × Option (Nat × Bool) × LOp)} {as:List Opd} {vs:List LV} {fv:LV} {R:LV→Prop} (hp:PureEx P G fv vs R) (hg:wantedG g e=some true) (ha:as.map (·.ev e)=vs)
    (h:∀ r,R r→r.closed=true→Chks chk (e.put dst r) s∧W P G K l (e.put dst r) s):W P G K (⟨dst, .call (.c fv) as,g,chk,fl⟩::l) e s:=⟨pw_pureEx hG hp hg ha fun r hr hc=>⟨(h r hr hc).1,(h r hr hc).2.out⟩⟩
theorem q_pureB (hG:∀ x∈G,LV.closed.closedAll x.2=true) {dst:Option Nat} {chk:List (Nat × Option (Nat × Bool) × LOp)} {as:List Opd} {vs:List LV} {fv:LV} {b0:Bool} (hp:PureOk P G fv vs (.bool b0)) (hg:wantedG g e=some true) (ha:as.map (·.ev e)=vs)
    (h:∀ b,b0=b→Chks chk (e.put dst (.bool b)) s∧W P G K l (e.put dst (.bool b)) s):W P G K (⟨dst, .call (.c fv) as,g,chk,fl⟩::l) e s:=⟨pw_pureB hG hp hg ha fun b hb=>⟨(h b hb).1,(h b hb).2.out⟩⟩
theorem q_call {dst:Option Nat} {chk:List (Nat × Option (Nat × Bool) × LOp)} {f:Opd} {as:List Opd} {vs:List LV} {fv:LV} (hg:wantedG g e=some true) (hf:f.ev e=fv) (ha:as.map (·.ev e)=vs)
    (h:CallOk P G fv vs s (fun v s'=>Chks chk (e.put dst v) s'∧W P G K l (e.put dst v) s')):W P G K (⟨dst, .call f as,g,chk,fl⟩::l) e s:=
  ⟨pw_callF rfl hg (by rw [hf,ha];exact CallOk.mono h fun v s hh=>⟨hh.1,hh.2.out⟩)⟩
theorem q_nil (h:K e s):W P G K [] e s:=⟨h⟩
variable {rd:Bool} {nt:Nat} {Q:Out→Env→St→Prop}
theorem qc_skip (h:Q .normal e s):Cd P G rd nt .skip e s Q:=⟨ok_skip h⟩
theorem qc_exit {id:Nat} (h:Q (.jmp (.exit id)) e s):Cd P G rd nt (.exit id) e s Q:=⟨ok_exit h⟩
theorem qc_ret (h:Q (.jmp .ret) e s):Cd P G rd nt .ret e s Q:=⟨ok_ret h⟩
theorem qc_block {id:Nat} {x:LCode} (h:Cd P G rd nt x e s (Blkd id Q)):Cd P G rd nt (.block id x) e s Q:=⟨ok_block h.out⟩
theorem qc_scope {x:LCode} (h:Cd P G rd nt x e s Q):Cd P G rd nt (.scope x) e s Q:=⟨ok_scope h.out⟩
theorem qc_seq {a b:LCode} (h:Cd P G rd nt a e s (Thn (fun e s=>Cd P G rd nt b e s Q) Q)):Cd P G rd nt (.seq a b) e s Q:=
  ⟨ok_seq (CodeOk.mono h.out fun o e s hh=>by cases o with | normal=>exact Cd.out hh | jmp j=>exact hh)⟩
theorem qc_region (hm:P.follows .mixedOrders=true) {l:List LOper} (h:W P G (fun e s=>Q .normal e s) l e s):Cd P G rd nt (.region l) e s Q:=⟨pw_region hm h.out⟩
theorem qc_condT {x:Opd} {a b:LCode} (hx:x.ev e = .bool true) (h:Cd P G rd nt a e s Q):Cd P G rd nt (.cond x a b) e s Q:=⟨pw_condT hx h.out⟩
theorem qc_condF {x:Opd} {a b:LCode} (hx:x.ev e = .bool false) (h:Cd P G rd nt b e s Q):Cd P G rd nt (.cond x a b) e s Q:=⟨pw_condF hx h.out⟩
theorem qc_loop {x:LCode} (I:Nat→Env→St→Prop) (n:Nat) (h:I n e s)
    (hI:∀ n e s,I n e s→Cd P G rd nt x e s (Thn (fun e s=>∃ m,m<n∧I m e s) Q)):Cd P G rd nt (.loop x) e s Q:=⟨ok_loop_inv I (fun n e s h=>(hI n e s h).out) n h⟩
theorem q_fn {k : Nat} {fn : Func} {refs : List Nat} {lf : LFunc} {args : List LV} {r : LV} {t : Nat} (hm : P.follows .mixedOrders = true) (hf : P.funcs[k]? = some fn) (hn : (fn.name == "runtime.NumGoroutine") = false) (hc : compFunc P G refs fn = some lf)
    (hlen:args.length≤lf.ntmps) (ha:LV.closed.closedAll args=true) (hr:r.closed=true) (ht:lf.results=[.tmp t])
    (h:Cd P G false lf.ntmps lf.body (envOf args) St.empty (fun o e s=>(o = .normal∨o = .jmp .ret)∧e.at t=r)):PureOk P G (.fn (.func k) [] []) args r:=pure_tmp hm hf hn hc hlen ha hr ht h.out
theorem q_fnEx {k : Nat} {fn : Func} {refs : List Nat} {lf : LFunc} {args : List LV} {R : LV → Prop} {t : Nat} (hm : P.follows .mixedOrders = true) (hf : P.funcs[k]? = some fn) (hn : (fn.name == "runtime.NumGoroutine") = false) (hc : compFunc P G refs fn = some lf)
    (hlen:args.length≤lf.ntmps) (ha:LV.closed.closedAll args=true) (ht:lf.results=[.tmp t])
    (h:Cd P G false lf.ntmps lf.body (envOf args) St.empty (fun o e s=>(o = .normal∨o = .jmp .ret)∧∃ r s',frz frzDepth (e.at t) s=some (r,s')∧r.closed=true∧R r)):PureEx P G (.fn (.func k) [] []) args R:=pureEx_tmp hm hf hn hc hlen ha ht h.out
end
def keep (e:Env):List Nat→Env
  | []=>.nil
  | t::r=>Tr.set (keep e r) t (e.at t)
end Go.Pv
end
section
set_option linter.unusedSimpArgs false
set_option linter.unusedVariables false
namespace Go.Pv
open Go
theorem cells_int (k:IntKind) (n:Int):cells? (.int k n)=some [.int k n]:=rfl
theorem cells_bool (b:Bool):cells? (.bool b)=some [.bool b]:=rfl
theorem cells_mref (i:Nat):cells? (.mref i)=some [.mref i]:=rfl
theorem n_empty:St.empty.n=0:=rfl
section
variable {P:Program} {G:Globs} {K:Env→St→Prop} {l:List LOper} {e:Env} {s:St} {d:Nat} {g:Option (Nat × Bool)} {fl:Bool}
theorem q_alloc {z:List LV} (hg:wantedG g e=some true) (k:W P G K l (Tr.set e d (.pref s.n 0)) (s.new (.cells .mut z))):W P G K (⟨some d, .alloc z,g,[],fl⟩::l) e s:=q_op hg rfl rfl k
theorem q_ext {x:Opd} {vs:List LV} {i:Nat} {v:LV} (hg:wantedG g e=some true) (hx:x.ev e = .tup vs) (hv:vs[i]? = some v) (k:W P G K l (Tr.set e d v) s):W P G K (⟨some d, .ext x i,g,[],fl⟩::l) e s:=
  q_op hg rfl (by simp [LOp.run,hx,hv]) k
theorem q_bslice0 {esz:Nat} {z:List LV} (hg:wantedG g e=some true) (k:W P G K l (Tr.set e d (.sref s.n 0 0 esz)) (s.new (.cells .mut []))):W P G K (⟨some d, .bslice esz 0 z [],g,[],fl⟩::l) e s:=
  q_op hg rfl (by simp [LOp.run,fillParts,evParts,rep]) k
theorem q_append {esz b:Nat} {x y:Opd} {xv yv r:LV} {n:Nat} {new new':List LV} {s1 s2:St} (hg:wantedG g e=some true) (hx:x.ev e=xv) (hy:y.ev e=yv) (hn:lenLV yv=some n) (hr:rowOf s esz n yv=some new) (hf:frzTry new s=(new',s1))
    (ha:appendLV esz b xv new' n s1=some (r,s2)) (k:W P G K l (Tr.set e d r) s2):W P G K (⟨some d, .append esz b x y,g,[],fl⟩::l) e s:=
  q_op hg rfl (by simp [LOp.run,hx,hy,hn,hr,hf,ha]) k
end
theorem frzAll_closed:∀ {l:List LV} {s:St} {n:Nat},LV.closed.closedAll l=true→frz.frzAll (frz (n+1)) l s=some (l,s):=by
  intro l
  induction l with
  | nil=>intro s n _;rfl
  | cons v l ih=>
    intro s n h
    simp only [LV.closed.closedAll,Bool.and_eq_true] at h
    simp [frz.frzAll,frz_closed h.1,ih h.2]
theorem frz_sref {s:St} {j len:Nat} {cs:List LV} (h:s.get j=some (.cells .mut cs)) (hl:cs.length=len) (hc:LV.closed.closedAll cs=true):frz frzDepth (.sref j 0 len 1) s=some (.simm cs len,s.put j (.cells .app cs)):=by
  have:frz frzDepth (.sref j 0 len 1) s=frz (38+1+1) (.sref j 0 len 1) s:=rfl
  rw [this]
  unfold frz
  simp only [LV.closed,Bool.false_eq_true,if_false,h,Nat.zero_add,Nat.mul_one,hl,Nat.le_refl,if_true,frzAll_closed hc,Option.bind_eq_bind,Option.bind_some,List.drop_zero,Option.some.injEq,Prod.mk.injEq,and_true]
  rw [List.take_of_length_le (by omega)]
theorem frz_srefN {s:St} {j len:Nat} {cs:List LV} (n:Nat) (h:s.get j=some (.cells .mut cs)) (hl:cs.length=len) (hc:LV.closed.closedAll cs=true):frz (n+2) (.sref j 0 len 1) s=some (.simm cs len,s.put j (.cells .app cs)):=by
  unfold frz
  simp only [LV.closed,Bool.false_eq_true,if_false,h,Nat.zero_add,Nat.mul_one,hl,Nat.le_refl,if_true,frzAll_closed hc,Option.bind_eq_bind,Option.bind_some,List.drop_zero,Option.some.injEq,Prod.mk.injEq,and_true]
  rw [List.take_of_length_le (by omega)]
theorem q_fnExR {P : Program} {G : Globs} {k : Nat} {fn : Func} {refs : List Nat} {lf : LFunc} {args : List LV} {R : LV → Prop} (hf : P.funcs[k]? = some fn) (hn : (fn.name == "runtime.NumGoroutine") = false) (hc : compFunc P G refs fn = some lf)
    (hlen:args.length≤lf.ntmps) (ha:LV.closed.closedAll args=true)
    (h:Cd P G false lf.ntmps lf.body (envOf args) St.empty (fun o e s=>(o = .normal∨o = .jmp .ret)∧∃ v,resVal lf.results e s=some v∧∃ r s',frz frzDepth v s=some (r,s')∧r.closed=true∧R r)):PureEx P G (.fn (.func k) [] []) args R:=
  ⟨rfl,ha,call_fn (first:=[]) (caps:=[]) hf hn hc (by simpa using hlen) (by simpa using h.out)⟩
end Go.Pv
end
section
set_option linter.unusedSimpArgs false
set_option linter.unusedVariables false
namespace Go.Pv
open Go
theorem lk:(∀ (e:Env) (i:Nat),(Opd.t i).ev e=e.at i)∧(∀ (e:Env) (v:LV),(Opd.c v).ev e=v)∧(∀ (e:Env) (i j:Nat) (v:LV),Env.at (Tr.set e i v) j=if j=i then v else Env.at e j) :=
  ⟨fun _ _=>rfl,fun _ _=>rfl,Env.at_set⟩
theorem sv1:(∀ {v:LV} {s:St},v.closed=true→frz frzDepth v s=some (v,s))∧(∀ cs:List LV,cells? (.agg cs)=if cs.all isCell then some cs else none)∧(∀ {v:LV},isCell v=true→cells? v=some [v]) ∧
    (∀ (k:IntKind) (n:Int),isCell (.int k n)=true)∧(∀ b:Bool,isCell (.bool b)=true)∧(∀ s:ByteArray,isCell (.str s)=true)∧isCell .nils=true∧isCell .zs=true∧(∀ (cs:List LV) (n:Nat),isCell (.simm cs n)=true) ∧
    (∀ i o n e:Nat,isCell (.sref i o n e)=true)∧(∀ i o:Nat,isCell (.pref i o)=true)∧(∀ (cs:List LV) (o:Nat),isCell (.pimm cs o)=true)∧(∀ i:Nat,isCell (.mref i)=true)∧(∀ (f:Fn) (a b:List LV),isCell (.fn f a b)=true) :=
  ⟨frzD_closed,cells_agg,cells_cell,isC_int,isC_bool,isC_str,isC_nils,isC_zs,isC_simm,isC_sref,isC_pref,isC_pimm,isC_mref,isC_fn⟩
theorem sv2:(∀ n:Nat,0+n=n)∧(∀ n:Nat,n+0=n)∧(∀ n:Nat,n*1=n)∧(∀ n:Nat,(n≤n)=True)∧((!true)=false)∧((!false)=true)∧((false=true)=False)∧((true=false)=False)∧(∀ b:Bool,(b && b)=b) :=
  ⟨Nat.zero_add,Nat.add_zero,Nat.mul_one,fun n=>by simp,rfl,rfl,by simp,by simp,Bool.and_self⟩
theorem sv3:(∀ (α:Type) (x:α) (l:List α),(x::l)[0]? = some x)∧(∀ (α:Type) (x:α) (l:List α) (i:Nat),(x::l)[i+1]? = l[i]?)∧(∀ (α:Type) (x:α) (l:List α),(x::l).length=l.length+1)∧(∀ α:Type,([]:List α).length=0) ∧
    (∀ (α:Type) (l:List α),l.drop 0=l)∧(∀ (α:Type) (x:α) (l:List α) (i:Nat),(x::l).drop (i+1)=l.drop i)∧(∀ (α:Type) (x:α) (l:List α) (i:Nat),(x::l).take (i+1)=x::l.take i)∧(∀ (α:Type) (l:List α),l.take 0=[])∧(∀ (α:Type) (i:Nat),([]:List α).take i=[]) ∧
    (∀ (α:Type) (p:α→Bool) (x:α) (l:List α),(x::l).all p=(p x && l.all p))∧(∀ (α:Type) (p:α→Bool),([]:List α).all p=true) ∧
    (∀ (α β:Type) (a:α) (f:α→Option β),(some a).bind f=f a)∧(∀ (α β:Type) (a:α) (f:α→β),(some a).map f=some (f a))∧(∀ (α β:Type) (x:Option α) (f:α→Option β),(x >>= f)=x.bind f) :=
  ⟨fun _ _ _=>rfl,fun _ _ _ _=>rfl,fun _ _ _=>rfl,fun _=>rfl,fun _ _=>rfl,fun _ _ _ _=>rfl,fun _ _ _ _=>rfl,fun _ _=>rfl,fun _ i=>by cases i<;>rfl,fun _ _ _ _=>rfl,fun _ _=>rfl,fun _ _ _ _=>rfl,fun _ _ _ _=>rfl,fun _ _ _ _=>rfl⟩
end Go.Pv
namespace Go.Pv
open Go
theorem q_gen {P:Program} {G:Globs} {K:Env→St→Prop} {l:List LOper} {e:Env} {s s':St} {o:LOper} {v:LV} (hg:wantedG o.guard e=some true) (hr:o.op.run e s=some (v,s')) (hs:strictOk o.fl o.op e=true) (hc:Chks o.chk (e.put o.dst v) s')
    (h:W P G K l (e.put o.dst v) s'):W P G K (o::l) e s:=⟨pw_runF hg hr hs hc h.out⟩
theorem frzTry_all {l:List LV} {s:St} (h:LV.closed.closedAll l=true):frzTry l s=(l,s):=by
  have:frz.frzAll (frz frzDepth) l s=some (l,s):=frzAll_closed h
  simp [frzTry,this]
theorem rowOf_simm {s:St} {cs:List LV} {n:Nat} (h:cs.length=n):rowOf s 1 n (.simm cs n)=some cs:=by
  simp [rowOf,h]
  exact List.take_of_length_le (by omega)
theorem appendLV_mutN {b j k n:Nat} {new:List LV} {s:St} {cs:List LV} (h:s.get j=some (.cells .mut cs)) (hl:cs.length=k) (hn:new.length=n) (hb:b≤2 ^ 10) (hk:k+n≤2 ^ 20) :
    appendLV 1 b (.sref j 0 k 1) new n s=some (.sref s.n 0 (k+n) 1,(s.put j (.cells .ro [])).new (.cells .mut (cs++new))):=by
  have:(k+n)*b≤big:=by
    have:(k+n)*b≤2 ^ 20*2 ^ 10:=Nat.mul_le_mul hk hb
    unfold big;omega
  simp only [appendLV,if_true,h,Nat.zero_add,Nat.mul_one,hl,Nat.le_refl,this,hn,and_self,List.drop_zero]
  rw [List.take_of_length_le (by omega)]
  rfl
theorem iaS {esz j off len i:Nat} {k:IntKind} {s:St} (h:(i:Int)<(len:Int)):iaLV esz (.sref j off len esz) (.int k (i:Int)) s=some (.pref j (off+i*esz),s):=by
  have h':i<len:=by omega
  simp [iaLV,idxOf,h']
end Go.Pv
namespace Go.Pv
open Go
theorem q_storeG {P:Program} {G:Globs} {K:Env→St→Prop} {l:List LOper} {e:Env} {s:St} {fl:Bool} {a x:Opd} {i o n:Nat} {cs vs cs':List LV} {v:LV} (ha:a.ev e = .pref i o) (hx:x.ev e=v) (hv:cells? v=some vs) (hs:s.get i=some (.cells .mut cs)) (hl:vs.length=n) (hb:o+n≤cs.length) (hc:splice cs o vs=cs')
    (h:W P G K l e (s.put i (.cells .mut cs'))):W P G K (⟨none, .store n a x,none,[],fl⟩::l) e s:=
  q_gen (v:=zeroVal) rfl (by simp only [LOp.run,ha,hx,hv,hs];rw [if_pos ⟨hl,hb⟩,hc]) rfl trivial h
end Go.Pv
end
section
set_option linter.unusedSimpArgs false
set_option linter.unusedVariables false
namespace Go.Pv
open Go
section
variable {P:Program} {G:Globs}
theorem qc_mono {rd:Bool} {nt:Nat} {c:LCode} {e:Env} {s:St} {Q:Out→Env→St→Prop} (Q':Out→Env→St→Prop) (h:Cd P G rd nt c e s Q') (hq:∀ o e s,Q' o e s→Q o e s):Cd P G rd nt c e s Q:=⟨CodeOk.mono h.out hq⟩
end
end Go.Pv
end
section
set_option linter.unusedSimpArgs false
set_option linter.unusedVariables false
namespace Go.Pv
open Go
def loadLV (n:Option Nat) (p:LV) (s:St):Option LV:=
  match p with
  | .pimm cs off=>mkVal n cs off
  | .pref id off=>match s.get id with | some (.cells _ cs)=>mkVal n cs off | _=>none
  | _=>none
def faddrLV (off:Nat):LV→Option LV
  | .pimm cs o=>some (.pimm cs (o+off))
  | .pref i o=>some (.pref i (o+off))
  | _=>none
def storeLV (n:Nat) (p v:LV) (s:St):Option St:=
  match p,cells? v with
  | .pref id off,some vs=>
    match s.get id with
    | some (.cells .mut cs)=>if vs.length=n∧off+n≤cs.length then some (s.put id (.cells .mut (splice cs off vs))) else none
    | _=>none
  | _,_=>none
def fieldLV (off:Nat) (n:Option Nat):LV→Option LV
  | .agg cs=>mkVal n cs off
  | _=>none
def pickB:Bool→LV→LV→LV
  | true,a,_=>a
  | false,_,b=>b
def nilLV:LV→Bool
  | .pimm .. => true
  | .pref .. => true
  | .fn (.func _) _ _=>true
  | .yld _=>true
  | _=>false
theorem load_imm {cs:List LV} {o:Nat} {v:LV} {s:St} (h:cs[o]? = some v):loadLV none (.pimm cs o) s=some v:=h
theorem load_ref {m:Md} {cs:List LV} {i o:Nat} {v:LV} {s:St} (hs:s.get i=some (.cells m cs)) (h:cs[o]? = some v):loadLV none (.pref i o) s=some v:=by
  simp only [loadLV,hs];exact h
theorem loadN_imm {cs vs:List LV} {o n:Nat} {s:St} (hn:Nat.ble (o+n) cs.length=true) (h:(cs.drop o).take n=vs):loadLV (some n) (.pimm cs o) s=some (.agg vs):=by
  simp [loadLV,mkVal,Nat.le_of_ble_eq_true hn,h]
theorem loadN_ref {m:Md} {cs vs:List LV} {i o n:Nat} {s:St} (hs:s.get i=some (.cells m cs)) (hn:Nat.ble (o+n) cs.length=true) (h:(cs.drop o).take n=vs):loadLV (some n) (.pref i o) s=some (.agg vs):=by
  simp [loadLV,mkVal,hs,Nat.le_of_ble_eq_true hn,h]
theorem store_ref {cs vs cs':List LV} {i o n:Nat} {v:LV} {s:St} (hv:cells? v=some vs) (hs:s.get i=some (.cells .mut cs)) (hl:Nat.beq vs.length n=true) (hb:Nat.ble (o+n) cs.length=true) (hc:splice cs o vs=cs'):storeLV n (.pref i o) v s=some (s.put i (.cells .mut cs')):=by
  simp only [storeLV,hv,hs]
  rw [if_pos ⟨Nat.eq_of_beq_eq_true hl,Nat.le_of_ble_eq_true hb⟩,hc]
section
variable {P:Program} {G:Globs} {K:Env→St→Prop} {l:List LOper} {e:Env} {s:St} {d:Nat} {g:Option (Nat × Bool)} {fl:Bool}
theorem u_faddr {x:Opd} {off:Nat} {p r:LV} (hg:wantedG g e=some true) (hx:x.ev e=p) (hr:faddrLV off p=some r) (k:W P G K l (Tr.set e d r) s):W P G K (⟨some d, .faddr off x,g,[],fl⟩::l) e s:=
  q_op hg rfl (by
    cases p<;>simp only [faddrLV,reduceCtorEq,Option.some.injEq] at hr
    all_goals (subst hr;simp [LOp.run,hx])) k
theorem u_load {x:Opd} {n:Option Nat} {p v:LV} (hg:wantedG g e=some true) (hx:x.ev e=p) (hr:loadLV n p s=some v) (k:W P G K l (Tr.set e d v) s):W P G K (⟨some d, .load n x,g,[],fl⟩::l) e s:=
  q_op hg (by cases fl<;>rfl) (by
    cases p<;>simp only [loadLV,reduceCtorEq] at hr
    · simp [LOp.run,hx,hr]
    · rename_i i o
      simp only [LOp.run,hx]
      split at hr
      · rename_i h;simp [h,hr]
      · cases hr) k
theorem u_len {x:Opd} {v:LV} {n:Nat} (hg:wantedG g e=some true) (hx:x.ev e=v) (hv:slLen v=some n) (k:W P G K l (Tr.set e d (.int .i64 n)) s):W P G K (⟨some d, .lenSl x,g,[],fl⟩::l) e s:=q_len hg hx hv k
theorem u_un {op:UnOp} {x:Opd} {v r:LV} (hg:wantedG g e=some true) (hx:x.ev e=v) (hv:unLV op v=some r) (k:W P G K l (Tr.set e d r) s):W P G K (⟨some d, .un op x,g,[],fl⟩::l) e s:=
  q_op hg rfl (by simp [LOp.run,hx,hv]) k
theorem u_field {x:Opd} {off:Nat} {n:Option Nat} {v r:LV} (hg:wantedG g e=some true) (hx:x.ev e=v) (hv:fieldLV off n v=some r) (k:W P G K l (Tr.set e d r) s):W P G K (⟨some d, .field off n x,g,[],fl⟩::l) e s:=
  q_op hg rfl (by
    cases v<;>simp only [fieldLV,reduceCtorEq] at hv
    simp [LOp.run,hx,hv]) k
theorem u_conv {x:Opd} {k k':IntKind} {n m:Int} (hg:wantedG g e=some true) (hx:x.ev e = .int k' n) (hv:k.wrap n=m) (h:W P G K l (Tr.set e d (.int k m)) s):W P G K (⟨some d, .convInt k x,g,[],fl⟩::l) e s:=
  q_op hg rfl (by simp [LOp.run,hx,hv]) h
theorem u_mm {b:Bool} {x y:Opd} {v w r:LV} (hg:wantedG g e=some true) (hx:x.ev e=v) (hy:y.ev e=w) (hr:minmaxLV b [v,w]=some r) (k:W P G K l (Tr.set e d r) s):W P G K (⟨some d, .minmax b [x,y],g,[],fl⟩::l) e s:=
  q_op hg rfl (by simp [LOp.run,hx,hy,hr]) k
theorem mm_max {k:IntKind} {a b:Int} : minmaxLV true [.int k a, .int k b]=some (.int k (max a b)):=by
  have hm:(if a<b then b else a)=max a b:=by rw [Int.max_def];split<;>split<;>omega
  simp [minmaxLV,minmaxLV.go,hm]
theorem mm_min {k:IntKind} {a b:Int} : minmaxLV false [.int k a, .int k b]=some (.int k (min a b)):=by
  have hm:(if b<a then b else a)=min a b:=by rw [Int.min_def];split<;>split<;>omega
  simp [minmaxLV,minmaxLV.go,hm]
theorem u_pick {c x y:Opd} {t:Bool} {a b v:LV} (hg:wantedG g e=some true) (hc:c.ev e = .bool t) (hx:x.ev e=a) (hy:y.ev e=b) (hr:pickB t a b=v) (k:W P G K l (Tr.set e d v) s):W P G K (⟨some d, .pick c x y,g,[],fl⟩::l) e s:=
  q_op hg rfl (by cases t<;>simp only [pickB] at hr<;>simp [LOp.run,hc,hx,hy,hr]) k
theorem u_ext {x:Opd} {vs:List LV} {i:Nat} {v:LV} (hg:wantedG g e=some true) (hx:x.ev e = .tup vs) (hv:vs[i]? = some v) (k:W P G K l (Tr.set e d v) s):W P G K (⟨some d, .ext x i,g,[],fl⟩::l) e s:=q_ext hg hx hv k
theorem u_store {n:Nat} {a x:Opd} {p v:LV} {s':St} (ha:a.ev e=p) (hx:x.ev e=v) (hr:storeLV n p v s=some s') (h:W P G K l e s'):W P G K (⟨none, .store n a x,none,[],fl⟩::l) e s:=
  q_gen (v:=zeroVal) rfl (by
    unfold storeLV at hr
    split at hr
    · rename_i h1 h2
      simp only [LOp.run,ha,hx,h2]
      split at hr
      · rename_i h3
        simp only [h3]
        split at hr
        · rename_i h4;cases hr;rw [if_pos h4]
        · cases hr
      · cases hr
    · cases hr) (by cases fl<;>rfl) trivial h
theorem u_nilchk {x:Opd} {v:LV} (hg:wantedG g e=some true) (hx:x.ev e=v) (hv:nilLV v=true) (k:W P G K l (Tr.set e d v) s):W P G K (⟨some d, .nilchk x,g,[],fl⟩::l) e s:=
  q_op hg rfl (by
    cases v with
    | fn f a b=>cases f<;>first | (simp [nilLV] at hv;done) | (simp [LOp.run,hx];done)
    | _=>first | (simp [nilLV] at hv;done) | (simp [LOp.run,hx];done)) k
theorem u_mkfn {f:Fn} {a b:List Opd} {va vb:List LV} (hg:wantedG g e=some true) (ha:a.map (·.ev e)=va) (hb:b.map (·.ev e)=vb) (k:W P G K l (Tr.set e d (.fn f va vb)) s):W P G K (⟨some d, .mkfn f a b,g,[],fl⟩::l) e s:=
  q_op hg rfl (by simp [LOp.run,ha,hb]) k
theorem u_skip {op:LOp} {i:Nat} {b c:Bool} {chk:List (Nat × Option (Nat × Bool) × LOp)} (h:e.at i = .bool c) (hn:(c == b)=false) (k:W P G K l (Tr.set e d (.tup [])) s):W P G K (⟨some d,op,some (i,b),chk,fl⟩::l) e s:=q_skip rfl h hn k
theorem u_skipN {op:LOp} {i:Nat} {b c:Bool} {chk:List (Nat × Option (Nat × Bool) × LOp)} (h:e.at i = .bool c) (hn:(c == b)=false) (k:W P G K l e s):W P G K (⟨none,op,some (i,b),chk,fl⟩::l) e s:=q_skip rfl h hn k
theorem wG2 {i:Nat} {b:Bool} {vs:List LV} (h:e.at i = .tup vs):wantedG (some (i,b)) e=some false:=by simp [wantedG,h]
theorem u_skipT {op:LOp} {i:Nat} {b:Bool} {vs:List LV} {chk:List (Nat × Option (Nat × Bool) × LOp)} (h:e.at i = .tup vs) (k:W P G K l (Tr.set e d (.tup [])) s):W P G K (⟨some d,op,some (i,b),chk,fl⟩::l) e s:=⟨pw_skipF (wG2 h) k.out⟩
theorem u_skipTN {op:LOp} {i:Nat} {b:Bool} {vs:List LV} {chk:List (Nat × Option (Nat × Bool) × LOp)} (h:e.at i = .tup vs) (k:W P G K l e s):W P G K (⟨none,op,some (i,b),chk,fl⟩::l) e s:=⟨pw_skipF (wG2 h) k.out⟩
theorem u_box {x:Opd} {v:LV} {cs:List LV} (hx:x.ev e=v) (hv:cells? v=some cs) (hc:v.closed=true) (hl:Nat.beq cs.length 0=false) (k:W P G K l (Tr.set e d (.pimm cs 0)) s):W P G K (⟨some d, .box true x,none,[],false⟩::l) e s:=
  q_op rfl rfl (by
    have h0:cs.length≠0:=fun h=>by rw [h] at hl;cases hl
    have h1:cs≠[]:=fun h=>h0 (by rw [h];rfl)
    simp [LOp.run,hx,frzD_closed hc,hv,h1]) k
theorem u_boxR {x:Opd} {v:LV} {cs:List LV} {m:Nat} (hx:x.ev e=v) (hv:cells? v=some cs) (hn:s.n=m) (k:W P G K l (Tr.set e d (.pref m 0)) (s.new (.cells .mut cs))):W P G K (⟨some d, .box false x,none,[],fl⟩::l) e s:=by
  subst hn
  exact q_op rfl rfl (by simp [LOp.run,hx,hv]) k
theorem ev_I {x:Opd} {v:LV} (h:x.ev e=v):x.ev e=v:=h
theorem at_I {i:Nat} {v:LV} (h:e.at i=v):e.at i=v:=h
theorem map_I {a:List Opd} {v:List LV} (h:a.map (·.ev e)=v):a.map (·.ev e)=v:=h
theorem n_I {m:Nat} (h:s.n=m):s.n=m:=h
theorem cells_I {v:LV} {cs:List LV} (h:cells? v=some cs):cells? v=some cs:=h
theorem closed_I {v:LV} (h:v.closed=true):v.closed=true:=h
theorem pick_I {t:Bool} {a b v:LV} (h:pickB t a b=v):pickB t a b=v:=h
theorem wrap_I {k:IntKind} {n m:Int} (h:k.wrap n=m):k.wrap n=m:=h
theorem fa_I {off:Nat} {p r:LV} (h:faddrLV off p=some r):faddrLV off p=some r:=h
theorem u_lss {x y:Opd} {a b:LV} {b0:Bool} (hg:wantedG g e=some true) (hx:x.ev e=a) (hy:y.ev e=b) (hr:binLV .lss a b=some (.bool b0)) (k:∀ b,b0=b→W P G K l (Tr.set e d (.bool b)) s):W P G K (⟨some d, .bin .lss x y,g,[],fl⟩::l) e s:=q_cmp hg hx hy hr k
theorem u_leq {x y:Opd} {a b:LV} {b0:Bool} (hg:wantedG g e=some true) (hx:x.ev e=a) (hy:y.ev e=b) (hr:binLV .leq a b=some (.bool b0)) (k:∀ b,b0=b→W P G K l (Tr.set e d (.bool b)) s):W P G K (⟨some d, .bin .leq x y,g,[],fl⟩::l) e s:=q_cmp hg hx hy hr k
theorem u_gtr {x y:Opd} {a b:LV} {b0:Bool} (hg:wantedG g e=some true) (hx:x.ev e=a) (hy:y.ev e=b) (hr:binLV .gtr a b=some (.bool b0)) (k:∀ b,b0=b→W P G K l (Tr.set e d (.bool b)) s):W P G K (⟨some d, .bin .gtr x y,g,[],fl⟩::l) e s:=q_cmp hg hx hy hr k
theorem u_geq {x y:Opd} {a b:LV} {b0:Bool} (hg:wantedG g e=some true) (hx:x.ev e=a) (hy:y.ev e=b) (hr:binLV .geq a b=some (.bool b0)) (k:∀ b,b0=b→W P G K l (Tr.set e d (.bool b)) s):W P G K (⟨some d, .bin .geq x y,g,[],fl⟩::l) e s:=q_cmp hg hx hy hr k
theorem u_eql {x y:Opd} {a b:LV} {b0:Bool} (hg:wantedG g e=some true) (hx:x.ev e=a) (hy:y.ev e=b) (hr:binLV .eql a b=some (.bool b0)) (k:∀ b,b0=b→W P G K l (Tr.set e d (.bool b)) s):W P G K (⟨some d, .bin .eql x y,g,[],fl⟩::l) e s:=q_cmp hg hx hy hr k
theorem u_neq {x y:Opd} {a b:LV} {b0:Bool} (hg:wantedG g e=some true) (hx:x.ev e=a) (hy:y.ev e=b) (hr:binLV .neq a b=some (.bool b0)) (k:∀ b,b0=b→W P G K l (Tr.set e d (.bool b)) s):W P G K (⟨some d, .bin .neq x y,g,[],fl⟩::l) e s:=q_cmp hg hx hy hr k
theorem u_alloc {z:List LV} {m:Nat} (hg:wantedG g e=some true) (hn:s.n=m) (k:W P G K l (Tr.set e d (.pref m 0)) (s.new (.cells .mut z))):W P G K (⟨some d, .alloc z,g,[],fl⟩::l) e s:=by
  subst hn;exact q_alloc hg k
theorem u_bslice0 {esz:Nat} {z:List LV} {m:Nat} (hg:wantedG g e=some true) (hn:s.n=m) (k:W P G K l (Tr.set e d (.sref m 0 0 esz)) (s.new (.cells .mut []))):W P G K (⟨some d, .bslice esz 0 z [],g,[],fl⟩::l) e s:=by
  subst hn;exact q_bslice0 hg k
end
theorem u5:(∀ cs,(LV.agg cs).closed=LV.closed.closedAll cs)∧LV.closed.closedAll []=true∧(∀ v r,LV.closed.closedAll (v::r)=(v.closed && LV.closed.closedAll r))∧(∀ k n,(LV.int k n).closed=true)∧(∀ b,(LV.bool b).closed=true)∧(∀ b,(LV.str b).closed=true)∧LV.nils.closed=true∧LV.zs.closed=true∧(∀ cs n,(LV.simm cs n).closed=LV.closed.closedAll cs)∧(∀ b:Bool,(b && b)=b)∧(∀ b:Bool,(true && b)=b) :=
  ⟨fun _=>rfl,rfl,fun _ _=>rfl,fun _ _=>rfl,fun _=>rfl,fun _=>rfl,rfl,rfl,fun _ _=>rfl,Bool.and_self,Bool.true_and⟩
theorem u1:(∀ (s:St) (id j:Nat) (b:Blk),(s.put id b).get j=if j=id then some b else s.get j)∧(∀ (s:St) (j:Nat) (b:Blk),(s.new b).get j=if j=s.n then some b else s.get j)∧(∀ (s:St) (id:Nat) (b:Blk),(s.put id b).n=s.n)∧(∀ (s:St) (b:Blk),(s.new b).n=s.n+1)∧St.empty.n=0∧(∀ n:Nat,0+n=n)∧(∀ n:Nat,n*1=n) :=
  ⟨St.get_put,St.get_new,St.n_put,St.n_new,rfl,Nat.zero_add,Nat.mul_one⟩
theorem u2:(∀ (α:Type) (x:α) (l:List α),(x::l)[0]? = some x)∧(∀ (α:Type) (x:α) (l:List α) (i:Nat),(x::l)[i+1]? = l[i]?)∧(∀ (α:Type) (x:α) (l:List α),(x::l).length=l.length+1)∧(∀ α:Type,([]:List α).length=0) ∧
    (∀ (α:Type) (l:List α),l.drop 0=l)∧(∀ (α:Type) (x:α) (l:List α) (i:Nat),(x::l).drop (i+1)=l.drop i)∧(∀ (α:Type) (x:α) (l:List α) (i:Nat),(x::l).take (i+1)=x::l.take i)∧(∀ (α:Type) (l:List α),l.take 0=[])∧(∀ (α:Type) (i:Nat),([]:List α).take i=[]) :=
  ⟨fun _ _ _=>rfl,fun _ _ _ _=>rfl,fun _ _ _=>rfl,fun _=>rfl,fun _ _=>rfl,fun _ _ _ _=>rfl,fun _ _ _ _=>rfl,fun _ _=>rfl,fun _ i=>by cases i<;>rfl⟩
theorem u3:(∀ (k:IntKind) (n:Int),cells? (.int k n)=some [.int k n])∧(∀ b:Bool,cells? (.bool b)=some [.bool b])∧(∀ b:ByteArray,cells? (.str b)=some [.str b])∧cells? .nils=some [.nils]∧cells? .zs=some [.zs]∧(∀ (cs:List LV) (n:Nat),cells? (.simm cs n)=some [.simm cs n]) ∧
    (∀ i o n z:Nat,cells? (.sref i o n z)=some [.sref i o n z])∧(∀ i o:Nat,cells? (.pref i o)=some [.pref i o])∧(∀ (cs:List LV) (o:Nat),cells? (.pimm cs o)=some [.pimm cs o])∧(∀ i:Nat,cells? (.mref i)=some [.mref i])∧cells? .nilm=some [.nilm]∧(∀ (f:Fn) (a b:List LV),cells? (.fn f a b)=some [.fn f a b])∧cells? .nilp=some [.nilp] :=
  ⟨fun _ _=>rfl,fun _=>rfl,fun _=>rfl,rfl,rfl,fun _ _=>rfl,fun _ _ _ _=>rfl,fun _ _=>rfl,fun _ _=>rfl,fun _=>rfl,rfl,fun _ _ _=>rfl,rfl⟩
theorem u4:(∀ cs:List LV,cells? (.agg cs)=if cs.all isCell then some cs else none)∧(∀ {v:LV},isCell v=true→cells? v=some [v])∧(∀ (k:IntKind) (n:Int),isCell (.int k n)=true)∧(∀ b:Bool,isCell (.bool b)=true)∧(∀ b:ByteArray,isCell (.str b)=true)∧isCell .nils=true∧isCell .zs=true∧(∀ (cs:List LV) (n:Nat),isCell (.simm cs n)=true)∧(∀ i o n z:Nat,isCell (.sref i o n z)=true) ∧
    (∀ (p:LV→Bool) (x:LV) (l:List LV),(x::l).all p=(p x && l.all p))∧(∀ p:LV→Bool,([]:List LV).all p=true)∧(∀ b:Bool,(b && b)=b)∧(∀ b:Bool,(true && b)=b) :=
  ⟨cells_agg,cells_cell,fun _ _=>rfl,fun _=>rfl,fun _=>rfl,rfl,rfl,fun _ _=>rfl,fun _ _ _ _=>rfl,fun _ _ _=>rfl,fun _=>rfl,Bool.and_self,Bool.true_and⟩
end Go.Pv
end
section
set_option linter.unusedSimpArgs false
set_option linter.unusedVariables false
namespace Go.Pv
open Go
structure IsLs {α:Type} (R:LV→α→Prop) (d:α) (v:LV) (l:List α) (vs:List LV):Prop where
  sl:Sl v vs l.length
  vlen:vs.length=l.length
  len:l.length≤maxLen
  row:∀ i,i<l.length→R (vs.getD i .top) (l.getD i d)
section
variable {α:Type} {R:LV→α→Prop} {d:α} {v:LV} {l:List α} {vs:List LV}
theorem IsLs.get (h:IsLs R d v l vs) {i:Nat} (hi:i<l.length):vs[i]? = some (vs.getD i .top):=by
  have:i<vs.length:=by rw [h.vlen];exact hi
  simp [List.getD_eq_getElem?_getD,this]
theorem IsLs.closed (h:IsLs R d v l vs) (hc:∀ v x,R v x→v.closed=true):v.closed=true:=
  h.sl.closed (closedAll_of fun j hj=>hc _ _ (h.row j (by rw [← h.vlen];exact hj)))
theorem hasC_ls {c:CT} (hR:∀ v,HasC c v→∃ x,R v x) (h:HasC (.sl [c]) v):∃ l vs,IsLs R d v l vs:=by
  cases h with
  | nil=>exact ⟨[],[], .nil,rfl,by simp,fun i hi=>absurd hi (Nat.not_lt_zero _)⟩
  | zs=>exact ⟨[],[], .zs,rfl,by simp,fun i hi=>absurd hi (Nat.not_lt_zero _)⟩
  | sl hn hs=>
    have key:∀ {rows:List (List LV)},HasRs [c] rows→∃ ls:List α,ls.length=rows.length∧rows.flatten.length=rows.length∧∀ i,i<ls.length→R (rows.flatten.getD i .top) (ls.getD i d):=by
      intro rows
      induction rows with
      | nil=>intro _;exact ⟨[],rfl,rfl,fun i hi=>absurd hi (Nat.not_lt_zero _)⟩
      | cons r rs ih=>
        intro h
        cases h with
        | cons h hs=>
          obtain ⟨ls,h1,h2,h3⟩:=ih hs
          cases h with
          | cons h hn=>
            cases hn
            obtain ⟨l,hl⟩:=hR _ h
            refine ⟨l::ls,by simp [h1],by simp [h2],fun i hi=>?_⟩
            cases i with
            | zero=>simpa using hl
            | succ i=>simpa using h3 i (by simpa using hi)
    obtain ⟨ls,h1,h2,h3⟩:=key hs
    refine ⟨ls,_,?_,by rw [h2,h1],by rw [h1];exact hn,h3⟩
    rw [h1]
    exact .simm _ _
end
def mcells:List (Int × Bool)→List LV
  | []=>[]
  | m::r=>.int .i64 m.1::.bool m.2::mcells r
theorem mcells_length:∀ l:List (Int × Bool),(mcells l).length=l.length*2
  | []=>rfl
  | m::r=>by simp only [mcells,List.length_cons,mcells_length r];omega
theorem mcells_append:∀ (a b:List (Int × Bool)),mcells (a++b)=mcells a++mcells b
  | [],b=>rfl
  | m::r,b=>by simp only [List.cons_append,mcells,mcells_append r b]
theorem mcells_closed:∀ l:List (Int × Bool),LV.closed.closedAll (mcells l)=true
  | []=>rfl
  | m::r=>by simp [mcells,LV.closed.closedAll,LV.closed,mcells_closed r]
theorem mcells_get0:∀ {l:List (Int × Bool)} {i:Nat},i<l.length→(mcells l)[i*2]? = some (.int .i64 (l.getD i (0,false)).1)
  | m::r,0,_=>rfl
  | m::r,i+1,h=>by
    have:=mcells_get0 (l:=r) (i:=i) (by simpa using h)
    rw [show (i+1)*2=i*2+1+1 by omega]
    simpa [mcells] using this
theorem mcells_get1:∀ {l:List (Int × Bool)} {i:Nat},i<l.length→(mcells l)[i*2+1]? = some (.bool (l.getD i (0,false)).2)
  | m::r,0,_=>rfl
  | m::r,i+1,h=>by
    have:=mcells_get1 (l:=r) (i:=i) (by simpa using h)
    rw [show (i+1)*2+1=i*2+1+1+1 by omega]
    simpa [mcells] using this
theorem mcells_pair {l:List (Int × Bool)} {i:Nat} (h:i<l.length):((mcells l).drop (i*2)).take 2=[.int .i64 (l.getD i (0,false)).1, .bool (l.getD i (0,false)).2]:=by
  have h0:=mcells_get0 h
  have h1:=mcells_get1 h
  have hl:=mcells_length l
  apply List.ext_getElem?
  intro j
  match j with
  | 0=>simpa using h0
  | 1=>simpa using h1
  | j+2=>simp;omega
structure IsMoves (v:LV) (ms:List (Int × Bool)):Prop where
  sl:Sl v (mcells ms) ms.length
  len:ms.length≤maxLen
  rng:∀ x∈ms,inI64 x.1
theorem IsMoves.closed {v:LV} {ms:List (Int × Bool)} (h:IsMoves v ms):v.closed=true:=h.sl.closed (mcells_closed ms)
theorem hasC_moves {v:LV} (h:HasC (.sl [.int .i64, .bool]) v):∃ ms,IsMoves v ms:=by
  cases h with
  | nil=>exact ⟨[], .nil,by simp,fun x hx=>by cases hx⟩
  | zs=>exact ⟨[], .zs,by simp,fun x hx=>by cases hx⟩
  | sl hn hs=>
    have key:∀ {rows:List (List LV)},HasRs [.int .i64, .bool] rows→∃ l:List (Int × Bool),rows.flatten=mcells l∧l.length=rows.length∧∀ x∈l,inI64 x.1:=by
      intro rows
      induction rows with
      | nil=>intro _;exact ⟨[],rfl,rfl,fun x hx=>by cases hx⟩
      | cons r rs ih=>
        intro h
        cases h with
        | cons h hs=>
          obtain ⟨l,h1,h2,h3⟩:=ih hs
          cases h with | cons h hn=>cases hn with | cons h' hn=>
          cases hn
          cases h with
          | int hw=>
            cases h'
            rename_i n b
            refine ⟨(n,b)::l,by simp [mcells,h1],by simp [h2],fun x hx=>?_⟩
            rcases List.mem_cons.1 hx with rfl | hx
            · simpa [Lit.wf,IntKind.min,IntKind.max,IntKind.signed,IntKind.bits,inI64] using hw
            · exact h3 x hx
    obtain ⟨l,h1,h2,h3⟩:=key hs
    refine ⟨l,?_,by rw [h2];exact hn,h3⟩
    rw [h1,← h2]
    exact .simm _ _
abbrev Moves:=List (Int × Bool)
def IsRowM (v:LV) (r:List Moves):Prop:=∃ vs,IsLs IsMoves [] v r vs
def IsNext (v:LV) (n:List (List Moves)):Prop:=∃ vs,IsLs IsRowM [] v n vs
theorem IsRowM.closed {v:LV} {r:List Moves} (h:IsRowM v r):v.closed=true:=by
  obtain ⟨vs,h⟩:=h
  exact h.closed fun _ _ h=>h.closed
theorem IsNext.closed {v:LV} {n:List (List Moves)} (h:IsNext v n):v.closed=true:=by
  obtain ⟨vs,h⟩:=h
  exact h.closed fun _ _ h=>h.closed
theorem hasC_next {v:LV} (h:HasC (.sl [.sl [.sl [.int .i64, .bool]]]) v):∃ n,IsNext v n:=by
  obtain ⟨l,vs,h⟩:=hasC_ls (R:=IsRowM) (d:=[]) (fun v h=>by
    obtain ⟨l,vs,h⟩:=hasC_ls (R:=IsMoves) (d:=[]) (fun v h=>hasC_moves h) h
    exact ⟨l,vs,h⟩) h
  exact ⟨l,vs,h⟩
end Go.Pv
end
section
set_option linter.unusedSimpArgs false
set_option linter.unusedVariables false
namespace Go.Pv
open Go
def fcells (n:Nat) (f:Nat→Nat):List LV:=(List.range n).map fun (i:Nat)=>LV.int .i64 (f i:Int)
@[simp] theorem fcells_length (n:Nat) (f:Nat→Nat):(fcells n f).length=n:=by simp [fcells]
theorem fcells_get {n i:Nat} {f:Nat→Nat} (h:i<n):(fcells n f)[i]? = some (.int .i64 (f i:Int)):=by
  simp [fcells,h]
theorem fcells_set {n i x:Nat} {f g:Nat→Nat} (h:i<n) (hg:∀ j,g j=if j=i then x else f j):(fcells n f).set i (.int .i64 (x:Int))=fcells n g:=by
  apply List.ext_getElem?
  intro j
  by_cases hj:j<n
  · rw [fcells_get hj,hg]
    by_cases e:j=i
    · subst e;rw [List.getElem?_set_self (by simpa using hj),if_pos rfl]
    · rw [List.getElem?_set_ne (by omega),fcells_get hj,if_neg e]
  · rw [List.getElem?_eq_none (by simpa using hj),List.getElem?_eq_none (by simpa using hj)]
theorem fcells_ints (n:Nat) (f:Nat→Nat):fcells n f=ints ((List.range n).map fun i=>(f i:Int)):=by simp [fcells,ints]
theorem rep_int (n:Nat):rep n [LV.int .i64 0]=fcells n fun _=>0:=by
  induction n with
  | zero=>rfl
  | succ n ih=>
    have:rep (n+1) [LV.int .i64 0] = .int .i64 0::rep n [LV.int .i64 0]:=by simp [rep,List.replicate_succ]
    rw [this,ih]
    simp [fcells,List.range_succ_eq_map]
theorem rep_one (n:Nat) (v:LV):rep n [v]=List.replicate n v:=by
  induction n with
  | zero=>rfl
  | succ n ih=>
    have:rep (n+1) [v]=v::rep n [v]:=by simp [rep,List.replicate_succ]
    rw [this,ih,List.replicate_succ]
def nints (l:List Nat):List LV:=l.map fun (i:Nat)=>LV.int .i64 (i:Int)
@[simp] theorem nints_length (l:List Nat):(nints l).length=l.length:=by simp [nints]
def uses (v:LV) (id:Nat):Prop:=∃ o l z,v = .sref id o l z
theorem uses_nils (id:Nat):¬ uses .nils id:=fun ⟨_,_,_,h⟩=>by cases h
theorem uses_sref {id j o l z:Nat} : uses (.sref j o l z) id↔id=j:=⟨fun ⟨_,_,_,h⟩=>by cases h;rfl,fun h=>⟨o,l,z,by rw [h]⟩⟩
def Sk (s:St) (v:LV) (l:List Nat):Prop:=(v = .nils∧l=[])∨∃ j cs,v = .sref j 0 l.length 1∧j<s.n∧s.get j=some (.cells .mut (nints l++cs))
theorem Sk.mono {s s':St} {v:LV} {l:List Nat} (h:Sk s v l) (hn:s.n≤s'.n) (hs:∀ id,uses v id→s'.get id=s.get id):Sk s' v l:=by
  rcases h with h | ⟨j,cs,h1,h2,h3⟩
  · exact .inl h
  · exact .inr ⟨j,cs,h1,by omega,by rw [hs j ⟨0,l.length,1,h1⟩];exact h3⟩
theorem Sk.len {s:St} {v:LV} {l:List Nat} (h:Sk s v l):slLen v=some l.length:=by
  rcases h with ⟨rfl,rfl⟩ | ⟨j,cs,rfl,_⟩<;>rfl
theorem Sk.lt {s:St} {v:LV} {l:List Nat} (h:Sk s v l) {id:Nat} (hu:uses v id):id<s.n:=by
  rcases h with ⟨rfl,rfl⟩ | ⟨j,cs,rfl,h2,_⟩
  · exact absurd hu (uses_nils id)
  · rw [uses_sref.1 hu];exact h2
theorem Sk.pos {s:St} {v:LV} {l:List Nat} {x:Nat} (h:Sk s v (l++[x])):∃ j cs,v = .sref j 0 (l.length+1) 1∧j<s.n∧s.get j=some (.cells .mut (nints (l++[x])++cs)):=by
  rcases h with ⟨_,h⟩ | ⟨j,cs,h1,h2,h3⟩
  · simp at h
  · exact ⟨j,cs,by rw [h1];simp,h2,h3⟩
section
variable {P:Program} {G:Globs} {K:Env→St→Prop} {l:List LOper} {e:Env} {s:St} {d:Nat} {g:Option (Nat × Bool)} {fl:Bool}
theorem q_storeF {a x:Opd} {i v n y:Nat} {f f':Nat→Nat} (ha:a.ev e = .pref i v) (hx:x.ev e = .int .i64 (y:Int)) (hs:s.get i=some (.cells .mut (fcells n f))) (hv:v<n) (hf:∀ j,f' j=if j=v then y else f j)
    (h:∀ s',s'.n=s.n→s'.get i=some (.cells .mut (fcells n f'))→(∀ j,j≠i→s'.get j=s.get j)→W P G K l e s'):W P G K (⟨none, .store 1 a x,none,[],fl⟩::l) e s:=
  q_gen (v:=zeroVal) rfl (by
    have:v+1≤(fcells n f).length:=by simp;omega
    simp only [LOp.run,ha,hx,cells_int,hs]
    rw [if_pos ⟨rfl,this⟩]) (by cases fl<;>rfl) trivial (h (s.put i (.cells .mut (splice (fcells n f) v [.int .i64 (y:Int)]))) rfl (by rw [St.get_put,if_pos rfl];simp only [splice];rw [fcells_set hv hf]) fun j hj=>by rw [St.get_put,if_neg hj])
theorem u_mk1 {x y:Opd} {n m:Nat} (hg:wantedG g e=some true) (hn:s.n=m) (hx:x.ev e = .int .i64 (n:Int)) (hy:y.ev e = .int .i64 (n:Int)) (hb:n≤1048576) (k:W P G K l (Tr.set e d (.sref m 0 n 1)) (s.new (.cells .mut (fcells n fun _=>0)))):W P G K (⟨some d, .mkslice 1 8 [.int .i64 0] x y,g,[],fl⟩::l) e s:=by
  subst hn
  refine q_op hg rfl ?_ k
  have h1:(n:Int)*8≤big:=by unfold big;omega
  have h2:(n:Int)≤big:=by unfold big;omega
  simp only [LOp.run,hx,hy]
  rw [if_pos ⟨by omega,Int.le_refl _,h1,h2,rfl⟩,Int.toNat_natCast,rep_int]
variable {rd:Bool} {nt:Nat} {Q:Out→Env→St→Prop}
theorem qc_mid {a b:LCode} (R:Env→St→Prop) (h:Cd P G rd nt a e s (Thn R Q)) (hR:∀ e s,R e s→Cd P G rd nt b e s Q):Cd P G rd nt (.seq a b) e s Q:=
  qc_seq (qc_mono _ h fun o e s hh=>by cases o with | normal=>exact hR e s hh | jmp j=>exact hh)
end
end Go.Pv
namespace Go.Pv
open Go
section
variable {P:Program} {G:Globs} {e:Env} {s:St} {rd:Bool} {nt:Nat} {Q:Out→Env→St→Prop}
theorem qc_seqR {l:List LOper} {b:LCode} (h:Cd P G rd nt (.region l) e s (Thn (fun e s=>Cd P G rd nt b e s Q) Q)):Cd P G rd nt (.seq (.region l) b) e s Q:=qc_seq h
theorem qc_seqX {x:Opd} {i:Nat} {b:LCode} (h:Cd P G rd nt (.cond x .skip (.exit i)) e s (Thn (fun e s=>Cd P G rd nt b e s Q) Q)):Cd P G rd nt (.seq (.cond x .skip (.exit i)) b) e s Q:=qc_seq h
theorem qc_seqB {i:Nat} {a b:LCode} (h:Cd P G rd nt (.block i a) e s (Thn (fun e s=>Cd P G rd nt b e s Q) Q)):Cd P G rd nt (.seq (.block i a) b) e s Q:=qc_seq h
theorem qc_seqS {b:LCode} (h:Cd P G rd nt .skip e s (Thn (fun e s=>Cd P G rd nt b e s Q) Q)):Cd P G rd nt (.seq .skip b) e s Q:=qc_seq h
theorem qc_seqRB {l:List LOper} {i:Nat} {a b:LCode} (h:Cd P G rd nt (.seq (.region l) (.block i a)) e s (Thn (fun e s=>Cd P G rd nt b e s Q) Q)):Cd P G rd nt (.seq (.seq (.region l) (.block i a)) b) e s Q:=qc_seq h
theorem qc_seqRX {l:List LOper} {x:Opd} {i:Nat} {b:LCode} (h:Cd P G rd nt (.seq (.region l) (.cond x .skip (.exit i))) e s (Thn (fun e s=>Cd P G rd nt b e s Q) Q)):Cd P G rd nt (.seq (.seq (.region l) (.cond x .skip (.exit i))) b) e s Q:=qc_seq h
theorem qc_seqRY {l:List LOper} {x:Opd} {i:Nat} {b:LCode} (h:Cd P G rd nt (.seq (.region l) (.cond x (.exit i) .skip)) e s (Thn (fun e s=>Cd P G rd nt b e s Q) Q)):Cd P G rd nt (.seq (.seq (.region l) (.cond x (.exit i) .skip)) b) e s Q:=qc_seq h
theorem qc_seqRT {l:List LOper} {x:Opd} {a b:LCode} (h:Cd P G rd nt (.seq (.region l) (.cond x (.seq a .ret) .skip)) e s (Thn (fun e s=>Cd P G rd nt b e s Q) Q)):Cd P G rd nt (.seq (.seq (.region l) (.cond x (.seq a .ret) .skip)) b) e s Q:=qc_seq h
theorem qc_seqRE {l:List LOper} {x:Opd} {i:Nat} {a b:LCode} (h:Cd P G rd nt (.seq (.region l) (.cond x (.seq a (.exit i)) .skip)) e s (Thn (fun e s=>Cd P G rd nt b e s Q) Q)):Cd P G rd nt (.seq (.seq (.region l) (.cond x (.seq a (.exit i)) .skip)) b) e s Q:=qc_seq h
end
end Go.Pv
namespace Go.Pv
open Go
theorem q_fnC {P : Program} {G : Globs} {k : Nat} {fn : Func} {refs : List Nat} {lf : LFunc} {args caps : List LV} {r : LV} {t : Nat} (hf : P.funcs[k]? = some fn) (hn : (fn.name == "runtime.NumGoroutine") = false) (hc : compFunc P G refs fn = some lf)
    (hlen:(args++caps).length≤lf.ntmps) (ha:LV.closed.closedAll args=true) (hcc:LV.closed.closedAll caps=true) (hr:r.closed=true) (ht:lf.results=[.tmp t])
    (h:Cd P G false lf.ntmps lf.body (envOf (args++caps)) St.empty (fun o e s=>(o = .normal∨o = .jmp .ret)∧e.at t=r)):PureOk P G (.fn (.func k) [] caps) args r:=
  ⟨by simp [LV.closed,hcc,LV.closed.closedAll],ha,hr,call_fn (first:=[]) (caps:=caps) hf hn hc (by simpa using hlen) (by
    simp only [List.nil_append]
    exact CodeOk.mono h.out fun o e s hh=>⟨hh.1,r,by rw [ht];simp [resVal,resOne,hh.2],s,frzD_closed hr⟩)⟩
section
variable {P:Program} {G:Globs} {K:Env→St→Prop} {l:List LOper} {e:Env} {s:St} {g:Option (Nat × Bool)} {fl:Bool}
theorem q_pureT (hG:∀ x∈G,LV.closed.closedAll x.2=true) {d:Nat} {f:Opd} {as:List Opd} {vs:List LV} {fv r:LV} (hp:PureOk P G fv vs r) (hg:wantedG g e=some true) (hf:f.ev e=fv) (ha:as.map (·.ev e)=vs)
    (h:W P G K l (Tr.set e d r) s):W P G K (⟨some d, .call f as,g,[],fl⟩::l) e s:=q_call hg hf ha (pure_call hG hp ⟨trivial,h⟩)
theorem q_pureTB (hG:∀ x∈G,LV.closed.closedAll x.2=true) {d:Nat} {f:Opd} {as:List Opd} {vs:List LV} {fv:LV} {b0:Bool} (hp:PureOk P G fv vs (.bool b0)) (hg:wantedG g e=some true) (hf:f.ev e=fv) (ha:as.map (·.ev e)=vs)
    (h:∀ b,b0=b→W P G K l (Tr.set e d (.bool b)) s):W P G K (⟨some d, .call f as,g,[],fl⟩::l) e s:=q_pureT hG hp hg hf ha (h b0 rfl)
end
end Go.Pv
end
section
set_option linter.unusedSimpArgs false
set_option linter.unusedVariables false
namespace Go.Pv
open Go
theorem splice_gen:∀ (vs a b c:List LV),b.length=vs.length→splice (a++b++c) a.length vs=a++vs++c:=by
  intro vs
  induction vs with
  | nil => intro a b c h; have : b = [] := by simpa using h
           subst this;simp [splice]
  | cons v vs ih=>
    intro a b c h
    cases b with
    | nil=>simp at h
    | cons x b=>
      have h':b.length=vs.length:=by simpa using h
      have:=ih (a++[v]) b c h'
      simp only [splice]
      have e1:(a++(x::b)++c).set a.length v=a++[v]++b++c:=by simp [List.set_append]
      rw [e1]
      simpa using this
theorem splice_all {vs z:List LV} (h:z.length=vs.length):splice z 0 vs=vs:=by
  have:=splice_gen vs [] z [] h
  simpa using this
def SkC (s:St) (v:LV) (esz:Nat) (cells:List LV) (n:Nat):Prop:=cells.length=n*esz∧((v = .nils∧n=0)∨∃ j,v = .sref j 0 n esz∧0<n∧j<s.n∧s.get j=some (.cells .mut cells))
theorem SkC.nil (s:St) (esz:Nat):SkC s .nils esz [] 0:=⟨by simp, .inl ⟨rfl,rfl⟩⟩
theorem SkC.mono {s s':St} {v:LV} {esz n:Nat} {cells:List LV} (h:SkC s v esz cells n) (hn:s.n≤s'.n) (hs:∀ id,uses v id→s'.get id=s.get id):SkC s' v esz cells n:=by
  obtain ⟨h0,h | ⟨j,h1,h2,h3,h4⟩⟩:=h
  · exact ⟨h0, .inl h⟩
  · exact ⟨h0, .inr ⟨j,h1,h2,by omega,by rw [hs j ⟨0,n,esz,h1⟩];exact h4⟩⟩
theorem SkC.len {s:St} {v:LV} {esz n:Nat} {cells:List LV} (h:SkC s v esz cells n):slLen v=some n:=by
  obtain ⟨_,⟨rfl,rfl⟩ | ⟨j,rfl,_⟩⟩:=h<;>rfl
theorem SkC.cell {s:St} {v:LV} {esz n:Nat} {cells:List LV} (h:SkC s v esz cells n):isCell v=true:=by
  obtain ⟨_,⟨rfl,rfl⟩ | ⟨j,rfl,_⟩⟩:=h<;>rfl
theorem SkC.lt {s:St} {v:LV} {esz n:Nat} {cells:List LV} (h:SkC s v esz cells n) {id:Nat} (hu:uses v id):id<s.n:=by
  obtain ⟨_,⟨rfl,rfl⟩ | ⟨j,rfl,_,h2,_⟩⟩:=h
  · exact absurd hu (uses_nils id)
  · rw [uses_sref.1 hu];exact h2
theorem SkC.pos {s:St} {v:LV} {esz n:Nat} {cells:List LV} (h:SkC s v esz cells n) (hn:0<n):∃ j,v = .sref j 0 n esz∧j<s.n∧s.get j=some (.cells .mut cells):=by
  obtain ⟨_,⟨_,h⟩ | ⟨j,h1,_,h2,h3⟩⟩:=h
  · omega
  · exact ⟨j,h1,h2,h3⟩
section
variable {P:Program} {G:Globs} {K:Env→St→Prop} {l:List LOper} {e:Env} {s:St} {fl fl':Bool}
theorem q_appK {chk:List (Nat × Option (Nat × Bool) × LOp)} {a b bytes esz n:Nat} {x y:Opd} {z:List LV} {xv yv:LV} {vs cells:List LV} (hx:x.ev e=xv) (hxc:cells? xv=some vs) (hz:z.length=esz) (hvs:vs.length=esz) (hcl:LV.closed.closedAll vs=true) (hy:y.ev (Tr.set e a (.sref s.n 0 1 esz))=yv) (hs:SkC s yv esz cells n) (hck:Chks chk (Tr.set e a (.sref s.n 0 1 esz)) (s.new (.cells .mut vs))) (hb:bytes≤2 ^ 10) (hl:n≤2 ^ 20)
    (h:∀ s' j,s.n≤j→SkC s' (.sref j 0 (n+1) esz) esz (cells++vs) (n+1)→s.n≤s'.n→(∀ id,id<s.n→¬ uses yv id→s'.get id=s.get id)→W P G K l (Tr.set (Tr.set e a (.sref s.n 0 1 esz)) b (.sref j 0 (n+1) esz)) s') :
    W P G K (⟨some a, .bslice esz 1 z [(0,(esz,x))],none,chk,fl⟩::⟨some b, .append esz bytes y (.t a),none,[],fl'⟩::l) e s:=by
  have hfill:fillParts (rep 1 z) (evParts e [(0,(esz,x))])=some vs:=by
    have h1:splice z 0 vs=vs:=by
      have:=splice_all (vs:=vs) (z:=z) (by rw [hz,hvs])
      exact this
    have hr1:rep 1 z=z:=by simp [rep]
    simp only [evParts,List.map,hr1,fillParts,hx,hxc,hvs]
    rw [if_pos ⟨trivial,by rw [hz];omega⟩,h1]
  refine q_gen (v:=.sref s.n 0 1 esz) (s':=s.new (.cells .mut vs)) rfl (by simp only [LOp.run,hfill,Option.bind_eq_bind,Option.bind_some]) (by cases fl<;>rfl) hck ?_
  simp only [Env.put_some]
  have hr:rowOf (s.new (.cells .mut vs)) esz 1 (.sref s.n 0 1 esz)=some vs:=by
    simp only [rowOf,St.get_new,if_true,Nat.le_refl,Nat.one_mul,Nat.zero_add,hvs,and_self,List.drop_zero]
    rw [List.take_of_length_le (by omega)]
  have hft:frzTry vs (s.new (.cells .mut vs))=(vs,s.new (.cells .mut vs)):=frzTry_all hcl
  have hbig:(n+1)*bytes≤big:=by
    have:(n+1)*bytes≤(2 ^ 20+1)*2 ^ 10:=Nat.mul_le_mul (by omega) hb
    unfold big;omega
  obtain ⟨hcl0,hs⟩:=hs
  have hlen':(cells++vs).length=(n+1)*esz:=by rw [List.length_append,hcl0,hvs,Nat.add_mul,Nat.one_mul]
  rcases hs with ⟨rfl,rfl⟩ | ⟨j,rfl,h1,h2,h3⟩
  · have hc0:cells=[]:=List.length_eq_zero_iff.1 (by rw [hcl0,Nat.zero_mul])
    subst hc0
    have hap:appendLV esz bytes .nils vs 1 (s.new (.cells .mut vs))=some (.sref (s.n+1) 0 1 esz,(s.new (.cells .mut vs)).new (.cells .mut vs)):=by
      simp only [appendLV]
      rw [if_neg (by omega),if_pos ⟨by simpa using hbig,by rw [hvs];omega⟩]
      rfl
    refine q_append rfl hy (by simp) rfl hr hft hap ?_
    refine h _ (s.n+1) (by omega) ⟨hlen', .inr ⟨s.n+1,rfl,by omega,by simp,by rw [St.get_new,St.n_new,if_pos rfl];rfl⟩⟩ (by simp;omega) fun id hid _=>?_
    rw [St.get_new,St.n_new,if_neg (by omega),St.get_new,if_neg (by omega)]
  · have hg:(s.new (.cells .mut vs)).get j=some (.cells .mut cells):=by rw [St.get_new,if_neg (by omega)];exact h3
    have hap:appendLV esz bytes (.sref j 0 n esz) vs 1 (s.new (.cells .mut vs))=some (.sref (s.n+1) 0 (n+1) esz,((s.new (.cells .mut vs)).put j (.cells .ro [])).new (.cells .mut (cells++vs))):=by
      simp only [appendLV,if_true,hg,Nat.zero_add,hcl0,Nat.le_refl,hbig,hvs,Nat.one_mul,and_self,List.drop_zero]
      rw [List.take_of_length_le (by omega)]
      rfl
    refine q_append rfl hy (by simp) rfl hr hft hap ?_
    refine h _ (s.n+1) (by omega) ⟨hlen', .inr ⟨s.n+1,rfl,by omega,by simp,by rw [St.get_new,St.n_put,St.n_new,if_pos rfl]⟩⟩ (by simp;omega) fun id hid hu=>?_
    have hne:id≠j:=fun e=>hu (uses_sref.2 e)
    rw [St.get_new,St.n_put,St.n_new,if_neg (by omega),St.get_put,if_neg hne,St.get_new,if_neg (by omega)]
theorem q_appC {a b bytes esz n:Nat} {x y:Opd} {z:List LV} {xv yv:LV} {vs cells:List LV} (hx:x.ev e=xv) (hxc:cells? xv=some vs) (hz:z.length=esz) (hvs:vs.length=esz) (hcl:LV.closed.closedAll vs=true) (hy:y.ev (Tr.set e a (.sref s.n 0 1 esz))=yv) (hs:SkC s yv esz cells n) (hb:bytes≤2 ^ 10) (hl:n≤2 ^ 20)
    (h:∀ s' j,s.n≤j→SkC s' (.sref j 0 (n+1) esz) esz (cells++vs) (n+1)→s.n≤s'.n→(∀ id,id<s.n→¬ uses yv id→s'.get id=s.get id)→W P G K l (Tr.set (Tr.set e a (.sref s.n 0 1 esz)) b (.sref j 0 (n+1) esz)) s') :
    W P G K (⟨some a, .bslice esz 1 z [(0,(esz,x))],none,[],fl⟩::⟨some b, .append esz bytes y (.t a),none,[],fl'⟩::l) e s:=
  q_appK hx hxc hz hvs hcl hy hs trivial hb hl h
theorem q_mlook2 {d M:Nat} {kd:KTy} {zero kv:LV} {m k:Opd} {es:List (LV × LV)} {r:Option (Nat × LV)} {g:Option (Nat × Bool)} (hg:wantedG g e=some true) (hm:m.ev e = .mref M) (hk:k.ev e=kv) (hok:keyOk kd kv=true) (hs:s.get M=some (.map es)) (hf:mfind kd kv es 0=some r)
    (h:W P G K l (Tr.set e d (.tup [match r with | some x=>x.2 | none=>zero, .bool r.isSome])) s):W P G K (⟨some d, .mlook kd zero true m k,g,[],fl⟩::l) e s:=
  q_op hg (by cases fl<;>rfl) (by
    simp only [LOp.run,hk,hok,if_true,hm,hs,hf,Option.bind_eq_bind,Option.bind_some]
    cases r<;>rfl) h
theorem run_mlook1 {M:Nat} {kd:KTy} {zero kv:LV} {m k:Opd} {es:List (LV × LV)} {r:Option (Nat × LV)} (hm:m.ev e = .mref M) (hk:k.ev e=kv) (hok:keyOk kd kv=true) (hs:s.get M=some (.map es)) (hf:mfind kd kv es 0=some r) :
    (LOp.mlook kd zero false m k).run e s=some (match r with | some x=>x.2 | none=>zero,s):=by
  simp only [LOp.run,hk,hok,if_true,hm,hs,hf,Option.bind_eq_bind,Option.bind_some]
  cases r<;>rfl
theorem q_mupdN {M:Nat} {kd:KTy} {kv vv:LV} {m k v:Opd} {es:List (LV × LV)} (hm:m.ev e = .mref M) (hk:k.ev e=kv) (hv:v.ev e=vv) (hok:keyOk kd kv=true) (hs:s.get M=some (.map es)) (hf:mfind kd kv es 0=some none)
    (h:W P G K l e (s.put M (.map (es++[(kv,vv)])))):W P G K (⟨none, .mupd kd m k v,none,[],fl⟩::l) e s:=
  q_gen (v:=zeroVal) rfl (by simp only [LOp.run,hk,hv,hok,if_true,hm,hs,hf,Option.bind_eq_bind,Option.bind_some]) (by cases fl<;>rfl) trivial h
end
end Go.Pv
end
section
set_option linter.unusedSimpArgs false
set_option linter.unusedVariables false
namespace Go.Pv
open Go
theorem fl_len {m:Nat} : ∀ {rows:List (List LV)},(∀ r∈rows,r.length=m)→rows.flatten.length=rows.length*m
  | [],_=>by simp
  | r::rs,h=>by rw [List.flatten_cons,List.length_append,fl_len (fun x hx=>h x (by simp [hx])),h r (by simp),List.length_cons,Nat.add_mul,Nat.one_mul,Nat.add_comm]
theorem fl_splice {m i:Nat} {rows:List (List LV)} {vs:List LV} (h:∀ r∈rows,r.length=m) (hi:i<rows.length) (hv:vs.length=m):splice rows.flatten (i*m) vs=(rows.set i vs).flatten:=by
  obtain ⟨r,hr⟩:∃ r,rows[i]? = some r:=⟨_,List.getElem?_eq_getElem hi⟩
  have e1:rows=rows.take i++r::rows.drop (i+1):=by
    conv=>lhs;rw [← List.take_append_drop i rows]
    congr 1
    rw [List.drop_eq_getElem_cons hi]
    congr 1
    rw [List.getElem?_eq_getElem hi] at hr
    exact Option.some.inj hr
  have hl1:(rows.take i).flatten.length=i*m:=by
    rw [fl_len fun x hx=>h x (List.mem_of_mem_take hx),List.length_take,Nat.min_eq_left (by omega)]
  have hrm:r.length=m:=h r (List.mem_of_getElem? hr)
  have e2:rows.set i vs=rows.take i++vs::rows.drop (i+1):=List.set_eq_take_append_cons_drop.trans (by rw [if_pos hi])
  rw [e2]
  conv=>lhs;rw [e1]
  simp only [List.flatten_append,List.flatten_cons]
  rw [← hl1,← List.append_assoc,splice_gen _ _ _ _ (by rw [hrm,hv]),List.append_assoc]
def rcells (n:Nat) (f:Nat→List LV):List LV:=((List.range n).map f).flatten
theorem rcells_len {n m:Nat} {f:Nat→List LV} (h:∀ i,(f i).length=m):(rcells n f).length=n*m:=by
  unfold rcells
  rw [fl_len (m:=m) fun r hr=>by obtain ⟨i,_,rfl⟩:=List.mem_map.1 hr;exact h i]
  simp
theorem rcells_splice {n m i:Nat} {f g:Nat→List LV} {vs:List LV} (h:∀ i,(f i).length=m) (hi:i<n) (hv:vs.length=m) (hg:∀ j,g j=if j=i then vs else f j):splice (rcells n f) (i*m) vs=rcells n g:=by
  unfold rcells
  rw [fl_splice (fun r hr=>by obtain ⟨i,_,rfl⟩:=List.mem_map.1 hr;exact h i) (by simpa using hi) hv]
  congr 1
  apply List.ext_getElem?
  intro j
  by_cases hj:j<n
  · by_cases e:j=i
    · subst e
      rw [List.getElem?_set_self (by simpa using hj)]
      simp [hj,hg]
    · rw [List.getElem?_set_ne (by omega)]
      simp [hj,hg,e]
  · rw [List.getElem?_eq_none (by simpa using hj),List.getElem?_eq_none (by simpa using hj)]
theorem rep_rcells (n:Nat) (z:List LV):rep n z=rcells n fun _=>z:=by
  unfold rep rcells
  congr 1
  apply List.ext_getElem?
  intro j
  by_cases hj:j<n
  · rw [List.getElem?_replicate]
    simp [hj]
  · rw [List.getElem?_eq_none (by simpa using hj),List.getElem?_eq_none (by simpa using hj)]
def bcells (n:Nat) (f:Nat→Bool):List LV:=(List.range n).map fun (i:Nat)=>LV.bool (f i)
@[simp] theorem bcells_length (n:Nat) (f:Nat→Bool):(bcells n f).length=n:=by simp [bcells]
theorem bcells_get {n i:Nat} {f:Nat→Bool} (h:i<n):(bcells n f)[i]? = some (.bool (f i)):=by simp [bcells,h]
theorem bcells_set {n i:Nat} {x:Bool} {f g:Nat→Bool} (h:i<n) (hg:∀ j,g j=if j=i then x else f j):(bcells n f).set i (.bool x)=bcells n g:=by
  apply List.ext_getElem?
  intro j
  by_cases hj:j<n
  · rw [bcells_get hj,hg]
    by_cases e:j=i
    · subst e;rw [List.getElem?_set_self (by simpa using hj),if_pos rfl]
    · rw [List.getElem?_set_ne (by omega),bcells_get hj,if_neg e]
  · rw [List.getElem?_eq_none (by simpa using hj),List.getElem?_eq_none (by simpa using hj)]
theorem rep_bool (n:Nat) (b:Bool):rep n [LV.bool b]=bcells n fun _=>b:=by
  rw [rep_one]
  apply List.ext_getElem?
  intro j
  by_cases hj:j<n
  · rw [List.getElem?_replicate,bcells_get hj,if_pos hj]
  · rw [List.getElem?_eq_none (by simpa using hj),List.getElem?_eq_none (by simpa using hj)]
section
variable {P:Program} {G:Globs} {K:Env→St→Prop} {l:List LOper} {e:Env} {s:St} {d:Nat} {g:Option (Nat × Bool)} {fl:Bool}
theorem u_mkR {x y:Opd} {n k m bytes:Nat} {z:List LV} (hg:wantedG g e=some true) (hn:s.n=k) (hx:x.ev e = .int .i64 (n:Int)) (hy:y.ev e = .int .i64 (n:Int)) (hb:n≤1048576) (hby:bytes≤1024) (hz:z.length=m) (hk:W P G K l (Tr.set e d (.sref k 0 n m)) (s.new (.cells .mut (rcells n fun _=>z)))):W P G K (⟨some d, .mkslice m bytes z x y,g,[],fl⟩::l) e s:=by
  subst hn
  refine q_op hg rfl ?_ hk
  have h0:(n:Int)*(bytes:Int)≤1048576*1024:=by
    have:n*bytes≤1048576*1024:=Nat.mul_le_mul hb hby
    omega
  have h1:(n:Int)*bytes≤big:=by unfold big;omega
  have h2:(n:Int)≤big:=by unfold big;omega
  simp only [LOp.run,hx,hy]
  rw [if_pos ⟨by omega,Int.le_refl _,h1,h2,hz⟩,Int.toNat_natCast,rep_rcells]
theorem u_mkB {x y:Opd} {n k:Nat} (hg:wantedG g e=some true) (hn:s.n=k) (hx:x.ev e = .int .i64 (n:Int)) (hy:y.ev e = .int .i64 (n:Int)) (hb:n≤1048576) (hk:W P G K l (Tr.set e d (.sref k 0 n 1)) (s.new (.cells .mut (bcells n fun _=>false)))):W P G K (⟨some d, .mkslice 1 1 [.bool false] x y,g,[],fl⟩::l) e s:=by
  subst hn
  refine q_op hg rfl ?_ hk
  have h1:(n:Int)*(1:Nat)≤big:=by unfold big;omega
  have h2:(n:Int)≤big:=by unfold big;omega
  simp only [LOp.run,hx,hy]
  rw [if_pos ⟨by omega,Int.le_refl _,h1,h2,rfl⟩,Int.toNat_natCast,rep_bool]
theorem q_storeR {a x:Opd} {i q n m:Nat} {f f':Nat→List LV} {v:LV} {vs:List LV} (ha:a.ev e = .pref i (q*m)) (hx:x.ev e=v) (hv:cells? v=some vs) (hm:vs.length=m) (hs:s.get i=some (.cells .mut (rcells n f))) (hl:∀ i,(f i).length=m) (hq:q<n) (hf:∀ j,f' j=if j=q then vs else f j)
    (h:∀ s',s'.n=s.n→s'.get i=some (.cells .mut (rcells n f'))→(∀ j,j≠i→s'.get j=s.get j)→W P G K l e s'):W P G K (⟨none, .store m a x,none,[],fl⟩::l) e s:=
  q_gen (v:=zeroVal) rfl (by
    have hlen:q*m+m≤(rcells n f).length:=by
      rw [rcells_len hl]
      have:(q+1)*m≤n*m:=Nat.mul_le_mul_right _ hq
      rw [Nat.add_mul,Nat.one_mul] at this
      exact this
    simp only [LOp.run,ha,hx,hv,hs]
    rw [if_pos ⟨hm,hlen⟩]) (by cases fl<;>rfl) trivial (h (s.put i (.cells .mut (splice (rcells n f) (q*m) vs))) rfl (by rw [St.get_put,if_pos rfl,rcells_splice hl hq hm hf]) fun j hj=>by rw [St.get_put,if_neg hj])
theorem q_storeB {a:Opd} {i q n:Nat} {x:Opd} {b:Bool} {f f':Nat→Bool} (ha:a.ev e = .pref i q) (hx:x.ev e = .bool b) (hs:s.get i=some (.cells .mut (bcells n f))) (hq:q<n) (hf:∀ j,f' j=if j=q then b else f j)
    (h:∀ s',s'.n=s.n→s'.get i=some (.cells .mut (bcells n f'))→(∀ j,j≠i→s'.get j=s.get j)→W P G K l e s'):W P G K (⟨none, .store 1 a x,none,[],fl⟩::l) e s:=
  q_gen (v:=zeroVal) rfl (by
    have:q+1≤(bcells n f).length:=by simp;omega
    have hb:cells? (.bool b)=some [.bool b]:=rfl
    simp only [LOp.run,ha,hx,hb,hs]
    rw [if_pos ⟨rfl,this⟩]) (by cases fl<;>rfl) trivial (h (s.put i (.cells .mut (splice (bcells n f) q [.bool b]))) rfl (by rw [St.get_put,if_pos rfl];simp only [splice];rw [bcells_set hq hf]) fun j hj=>by rw [St.get_put,if_neg hj])
theorem qc_range {nt:Nat} {y:Opd} {yv:LV} {ps:List Nat} {as bo:LCode} {Q:Out→Env→St→Prop} (hy:y.ev e=yv) (h:CallOk P G yv [.yld s.n] (s.new (.loop .ready none e ps as bo)) (fun _ s'=>Ranged s.n e Q s')):Cd P G false nt (.rangeFunc y ps as bo) e s Q:=⟨ok_rangeFunc (by rw [hy];exact h)⟩
theorem qc_yield {id:Nat} {env:Env} {ps:List Nat} {as bo:LCode} {pend:Option Jmp} {args:List LV} {Q:LV→St→Prop} (hg:s.get id=some (.loop .ready pend env ps as bo)) (hl:args.length=ps.length)
    (h:∀ nt,Cd P G true nt as (putPs ps args env) s (Thn (fun e1 s1=>s1.get id=some (.loop .ready pend env ps as bo)∧Cd P G true nt bo e1 (s1.put id (.loop .busy pend env ps as bo)) (Round id Q)) (fun _ _ _=>False))):CallOk P G (.yld id) args s Q:=
  call_yield hg hl fun nt=>CodeOk.mono (h nt).out fun o e1 s1 hh=>by
    cases o with
    | normal=>exact ⟨_,_,_,_,_,hh.1,hh.2.out⟩
    | jmp j=>exact hh.elim
end
end Go.Pv
end
section
set_option linter.unusedSimpArgs false
set_option linter.unusedVariables false
namespace Go.Pv
open Go
def FV (T:Nat→Prop):Nat→St→LV→LV→Prop
  | 0,_,v,r=>v.closed=true∧r=v
  | d + 1, s, v, r => (v.closed = true ∧ r = v) ∨
      (∃ j off k esz m cs rs,v = .sref j off k esz∧r = .simm ((rs.drop off).take (k*esz)) k∧T j∧s.get j=some (.cells m cs)∧off+k*esz≤cs.length∧rs.length=cs.length∧LV.closed.closedAll rs=true∧∀ i,i<cs.length→FV T d s (cs.getD i .top) (rs.getD i .top)) ∨
      (∃ j off m cs rs,v = .pref j off∧r = .pimm rs off∧T j∧s.get j=some (.cells m cs)∧off<cs.length∧rs.length=cs.length∧LV.closed.closedAll rs=true∧∀ i,i<cs.length→FV T d s (cs.getD i .top) (rs.getD i .top)) ∨
      (∃ cs rs,v = .agg cs∧v.closed=false∧r = .agg rs∧rs.length=cs.length∧LV.closed.closedAll rs=true∧∀ i,i<cs.length→FV T d s (cs.getD i .top) (rs.getD i .top)) ∨
      (∃ cs rs,v = .tup cs∧v.closed=false∧r = .tup rs∧rs.length=cs.length∧LV.closed.closedAll rs=true∧∀ i,i<cs.length→FV T d s (cs.getD i .top) (rs.getD i .top))
section
variable {T:Nat→Prop}
theorem FV.shut {d:Nat} {s:St} {v:LV} (h:v.closed=true):FV T d s v v:=by
  cases d with
  | zero=>exact ⟨h,rfl⟩
  | succ d=>exact .inl ⟨h,rfl⟩
theorem FV.of_closed {d:Nat} {s:St} {v r:LV} (h:FV T d s v r) (hc:v.closed=true):r=v:=by
  cases d with
  | zero=>exact h.2
  | succ d=>
    rcases h with h | ⟨_,_,_,_,_,_,_,rfl,_⟩ | ⟨_,_,_,_,_,rfl,_⟩ | ⟨_,_,rfl,h,_⟩ | ⟨_,_,rfl,h,_⟩
    · exact h.2
    · simp [LV.closed] at hc
    · simp [LV.closed] at hc
    · rw [h] at hc;cases hc
    · rw [h] at hc;cases hc
theorem closedAll_drop {n:Nat} : ∀ {l:List LV},LV.closed.closedAll l=true→LV.closed.closedAll (l.drop n)=true:=by
  induction n with
  | zero=>intro l h;exact h
  | succ n ih=>
    intro l h
    cases l with
    | nil=>exact h
    | cons a l=>
      simp only [LV.closed.closedAll,Bool.and_eq_true] at h
      exact ih h.2
theorem closedAll_take {n:Nat} : ∀ {l:List LV},LV.closed.closedAll l=true→LV.closed.closedAll (l.take n)=true:=by
  induction n with
  | zero=>intro l h;rfl
  | succ n ih=>
    intro l h
    cases l with
    | nil=>exact h
    | cons a l=>
      simp only [LV.closed.closedAll,Bool.and_eq_true] at h
      simp only [List.take_succ_cons,LV.closed.closedAll,Bool.and_eq_true]
      exact ⟨h.1,ih h.2⟩
theorem FV.closed {d:Nat} {s:St} {v r:LV} (h:FV T d s v r):r.closed=true:=by
  cases d with
  | zero=>rw [h.2];exact h.1
  | succ d=>
    rcases h with h | ⟨_,_,_,_,_,_,_,_,rfl,_,_,_,_,h,_⟩ | ⟨_,_,_,_,_,_,rfl,_,_,_,_,h,_⟩ | ⟨_,_,_,_,rfl,_,h,_⟩ | ⟨_,_,_,_,rfl,_,h,_⟩
    · rw [h.2];exact h.1
    · exact closedAll_take (closedAll_drop h)
    · exact h
    · exact h
    · exact h
theorem FV.uniq:∀ {d d':Nat} {s:St} {v r r':LV},FV T d s v r→FV T d' s v r'→r=r':=by
  intro d
  induction d with
  | zero=>intro d' s v r r' h k;rw [h.2,k.of_closed h.1]
  | succ d ih=>
    intro d' s v r r' h k
    by_cases hc:v.closed=true
    · rw [h.of_closed hc,k.of_closed hc]
    · cases d' with
      | zero=>exact absurd k.1 hc
      | succ d' =>
        have key:∀ {cs rs rs':List LV},rs.length=cs.length→rs'.length=cs.length→(∀ i,i<cs.length→FV T d s (cs.getD i .top) (rs.getD i .top))→(∀ i,i<cs.length→FV T d' s (cs.getD i .top) (rs'.getD i .top))→rs=rs':=fun {cs rs rs'} l1 l2 h1 h2=>by
          apply List.ext_getElem (by rw [l1,l2])
          intro i i1 i2
          have:=ih (h1 i (by omega)) (h2 i (by omega))
          simpa [List.getD_eq_getElem?_getD,i1,i2] using this
        rcases h with h | ⟨j,off,kk,esz,m,cs,rs,rfl,rfl,_,h1,_,h2,_,h3⟩ | ⟨j,off,m,cs,rs,rfl,rfl,_,h1,_,h2,_,h3⟩ | ⟨cs,rs,rfl,_,rfl,h2,_,h3⟩ | ⟨cs,rs,rfl,_,rfl,h2,_,h3⟩
        · exact absurd h.1 hc
        all_goals rcases k with k | ⟨_,_,_,_,_,cs',rs',e,rfl,_,k1,_,k2,_,k3⟩ | ⟨_,_,_,cs',rs',e,rfl,_,k1,_,k2,_,k3⟩ | ⟨cs',rs',e,_,rfl,k2,_,k3⟩ | ⟨cs',rs',e,_,rfl,k2,_,k3⟩
        all_goals first
          | exact absurd k.1 hc
          | (cases e;done)
          | skip
        · cases e
          rw [h1] at k1
          cases k1
          rw [key h2 k2 h3 k3]
        · cases e
          rw [h1] at k1
          cases k1
          rw [key h2 k2 h3 k3]
        · cases e
          rw [key h2 k2 h3 k3]
        · cases e
          rw [key h2 k2 h3 k3]
theorem FV.put {d0:Nat} {s:St} {j:Nat} {m m':Md} {cs rs:List LV} (hg:s.get j=some (.cells m cs)) (hl:rs.length=cs.length) (hc:LV.closed.closedAll rs=true) (hp:∀ i,i<cs.length→FV T d0 s (cs.getD i .top) (rs.getD i .top)) :
    ∀ {d:Nat} {v r:LV},FV T d s v r→FV T d (s.put j (.cells m' rs)) v r:=by
  intro d
  induction d with
  | zero=>intro v r h;exact h
  | succ d ih=>
    intro v r h
    have key:∀ {cs' rs':List LV},rs'.length=cs'.length→(∀ i,i<cs'.length→FV T d s (cs'.getD i .top) (rs'.getD i .top))→s.get j=some (.cells m cs')→rs'=rs:=fun {cs' rs'} l1 h1 h2=>by
      rw [hg] at h2
      cases h2
      apply List.ext_getElem (by rw [l1,hl])
      intro i i1 i2
      have:=(h1 i (by omega)).uniq (hp i (by omega))
      simpa [List.getD_eq_getElem?_getD,i1,i2] using this
    have hself:∀ i,i<rs.length→FV T d (s.put j (.cells m' rs)) (rs.getD i .top) (rs.getD i .top):=fun i hi=>FV.shut (closedAll_get hc hi)
    rcases h with h | ⟨i,off,kk,esz,n,cs',rs',rfl,rfl,ht,h1,h0,h2,hcl,h3⟩ | ⟨i,off,n,cs',rs',rfl,rfl,ht,h1,h0,h2,hcl,h3⟩ | ⟨cs',rs',rfl,hv,rfl,h2,hcl,h3⟩ | ⟨cs',rs',rfl,hv,rfl,h2,hcl,h3⟩
    · exact .inl h
    · right;left
      by_cases e:i=j
      · subst e
        obtain rfl:n=m:=by rw [hg] at h1;cases h1;rfl
        obtain rfl:=key h2 h3 h1
        exact ⟨i,off,kk,esz,m',rs',rs',rfl,rfl,ht,by rw [St.get_put,if_pos rfl],by omega,rfl,hcl,hself⟩
      · exact ⟨i,off,kk,esz,n,cs',rs',rfl,rfl,ht,by rw [St.get_put,if_neg e];exact h1,h0,h2,hcl,fun q hq=>ih (h3 q hq)⟩
    · right;right;left
      by_cases e:i=j
      · subst e
        obtain rfl:n=m:=by rw [hg] at h1;cases h1;rfl
        obtain rfl:=key h2 h3 h1
        exact ⟨i,off,m',rs',rs',rfl,rfl,ht,by rw [St.get_put,if_pos rfl],by omega,rfl,hcl,hself⟩
      · exact ⟨i,off,n,cs',rs',rfl,rfl,ht,by rw [St.get_put,if_neg e];exact h1,h0,h2,hcl,fun q hq=>ih (h3 q hq)⟩
    · exact .inr (.inr (.inr (.inl ⟨cs',rs',rfl,hv,rfl,h2,hcl,fun q hq=>ih (h3 q hq)⟩)))
    · exact .inr (.inr (.inr (.inr ⟨cs',rs',rfl,hv,rfl,h2,hcl,fun q hq=>ih (h3 q hq)⟩)))
structure Fk (T:Nat→Prop) (s s':St):Prop where
  n:s'.n=s.n
  fv:∀ {d:Nat} {v r:LV},FV T d s v r→FV T d s' v r
  get:∀ id,¬ T id→s'.get id=s.get id
  blk:∀ {j:Nat} {m:Md} {cs:List LV},s.get j=some (.cells m cs)→∃ m' cs',s'.get j=some (.cells m' cs')∧cs'.length=cs.length
theorem Fk.refl (s:St):Fk T s s:=⟨rfl,fun h=>h,fun _ _=>rfl,fun h=>⟨_,_,h,rfl⟩⟩
theorem Fk.trans {s s' s'':St} (h:Fk T s s') (k:Fk T s' s''):Fk T s s'':=⟨k.n.trans h.n,fun hh=>k.fv (h.fv hh),fun id hi=>(k.get id hi).trans (h.get id hi),fun hj=>by
  obtain ⟨m1,c1,h1,h2⟩:=h.blk hj
  obtain ⟨m2,c2,k1,k2⟩:=k.blk h1
  exact ⟨m2,c2,k1,k2.trans h2⟩⟩
theorem Fk.shut {d:Nat} {s s1:St} {j:Nat} {m m':Md} {cs rs:List LV} (k:Fk T s s1) (ht:T j) (h1:s.get j=some (.cells m cs)) (h2:rs.length=cs.length) (hcl:LV.closed.closedAll rs=true) (h3:∀ i,i<cs.length→FV T d s (cs.getD i .top) (rs.getD i .top)):Fk T s (s1.put j (.cells m' rs)):=by
  have hb:∃ m1 cs1,s1.get j=some (.cells m1 cs1)∧rs.length=cs1.length∧∀ i,i<cs1.length→FV T d s1 (cs1.getD i .top) (rs.getD i .top):=by
    by_cases h0:cs.length=0
    · obtain ⟨m1,c1,k1,k2⟩:=k.blk h1
      exact ⟨m1,c1,k1,by omega,fun i hi=>by omega⟩
    · have hp:FV T (d+1) s (.pref j 0) (.pimm rs 0):=.inr (.inr (.inl ⟨j,0,m,cs,rs,rfl,rfl,ht,h1,by omega,h2,hcl,h3⟩))
      rcases k.fv hp with ⟨hc,_⟩ | ⟨_,_,_,_,_,_,_,e1,_⟩ | ⟨j',o',m1,cs1,rs1,e1,e2,_,k1,k0,k2,kc,k3⟩ | ⟨_,_,e1,_⟩ | ⟨_,_,e1,_⟩
      · simp [LV.closed] at hc
      · cases e1
      · cases e1
        cases e2
        exact ⟨m1,cs1,k1,k2,k3⟩
      · cases e1
      · cases e1
  obtain ⟨m1,cs1,k1,k2,k3⟩:=hb
  refine ⟨k.n,fun h=>FV.put k1 k2 hcl k3 (k.fv h),fun id hid=>by rw [St.get_put,if_neg fun e=>hid (by rw [e];exact ht)];exact k.get id hid,fun {i n c} hi=>?_⟩
  by_cases e:i=j
  · subst e
    rw [h1] at hi
    cases hi
    exact ⟨m',rs,by rw [St.get_put,if_pos rfl],h2⟩
  · obtain ⟨m2,c2,g1,g2⟩:=k.blk hi
    exact ⟨m2,c2,by rw [St.get_put,if_neg e];exact g1,g2⟩
theorem frzAll_fv {n d:Nat} (hf:∀ {s:St} {v r:LV},FV T d s v r→∃ s',frz n v s=some (r,s')∧Fk T s s'):∀ {cs rs:List LV} {s:St},rs.length=cs.length→(∀ i,i<cs.length→FV T d s (cs.getD i .top) (rs.getD i .top))→∃ s',frz.frzAll (frz n) cs s=some (rs,s')∧Fk T s s':=by
  intro cs
  induction cs with
  | nil=>
    intro rs s hl _
    have:rs=[]:=List.length_eq_zero_iff.1 hl
    subst this
    exact ⟨s,rfl,Fk.refl s⟩
  | cons c cs ih=>
    intro rs s hl h
    match rs,hl with
    | r::rs,hl=>
      obtain ⟨s1,h1,k1⟩:=hf (s:=s) (v:=c) (r:=r) (by simpa using h 0 (by simp))
      obtain ⟨s2,h2,k2⟩:=ih (rs:=rs) (s:=s1) (by simpa using hl) (fun i hi=>k1.fv (by simpa using h (i+1) (by simpa using hi)))
      exact ⟨s2,by simp [frz.frzAll,h1,h2],k1.trans k2⟩
theorem frz_fv:∀ {d n:Nat} {s:St} {v r:LV},FV T d s v r→∃ s',frz (n+d+1) v s=some (r,s')∧Fk T s s':=by
  intro d
  induction d with
  | zero=>
    intro n s v r h
    obtain ⟨hc,rfl⟩:=h
    exact ⟨s,by unfold frz;simp [hc],Fk.refl s⟩
  | succ d ih=>
    intro n s v r h
    have hall:=fun {cs rs:List LV} {s:St} => frzAll_fv (T:=T) (n:=n+d+1) (d:=d) (fun h=>ih h) (cs:=cs) (rs:=rs) (s:=s)
    rcases h with ⟨hc,rfl⟩ | ⟨j,off,k,esz,m,cs,rs,rfl,rfl,ht,h1,h0,h2,hcl,h3⟩ | ⟨j,off,m,cs,rs,rfl,rfl,ht,h1,h0,h2,hcl,h3⟩ | ⟨cs,rs,rfl,hv,rfl,h2,hcl,h3⟩ | ⟨cs,rs,rfl,hv,rfl,h2,hcl,h3⟩
    · exact ⟨s,by unfold frz;simp [hc],Fk.refl s⟩
    · obtain ⟨s1,a1,a2⟩:=hall h2 h3
      refine ⟨s1.put j (.cells (if m = .mut then .app else m) rs),?_,a2.shut ht h1 h2 hcl h3⟩
      show frz ((n+d+1)+1) _ _=_
      unfold frz
      simp only [LV.closed,Bool.false_eq_true,if_false,h1,h0,if_true,a1,Option.bind_eq_bind,Option.bind_some]
    · obtain ⟨s1,a1,a2⟩:=hall h2 h3
      refine ⟨s1.put j (.cells (if m = .mut then .app else m) rs),?_,a2.shut ht h1 h2 hcl h3⟩
      show frz ((n+d+1)+1) _ _=_
      unfold frz
      simp only [LV.closed,Bool.false_eq_true,if_false,h1,h0,if_true,a1,Option.bind_eq_bind,Option.bind_some]
    · obtain ⟨s1,a1,a2⟩:=hall h2 h3
      refine ⟨s1,?_,a2⟩
      show frz ((n+d+1)+1) _ _=_
      unfold frz
      simp only [hv,Bool.false_eq_true,if_false,a1,Option.bind_eq_bind,Option.bind_some]
    · obtain ⟨s1,a1,a2⟩:=hall h2 h3
      refine ⟨s1,?_,a2⟩
      show frz ((n+d+1)+1) _ _=_
      unfold frz
      simp only [hv,Bool.false_eq_true,if_false,a1,Option.bind_eq_bind,Option.bind_some]
theorem frzD_fv {d:Nat} {s:St} {v r:LV} (hd:d≤39) (h:FV T d s v r):∃ s',frz frzDepth v s=some (r,s')∧Fk T s s':=by
  have:=frz_fv (n:=39 - d) h
  rwa [show 39 - d+d+1=frzDepth by unfold frzDepth;omega] at this
theorem FV.row {d:Nat} {s:St} {v:LV} {esz n:Nat} {cells:List LV} (h:SkC s v esz cells n) (hc:LV.closed.closedAll cells=true) (ht:∀ id,uses v id→T id):∃ r,FV T (d+1) s v r∧Sl r cells n:=by
  obtain ⟨hl,⟨rfl,h0⟩ | ⟨j,rfl,hj,hn,hg⟩⟩:=h
  · have:cells=[]:=List.length_eq_zero_iff.1 (by rw [hl,h0,Nat.zero_mul])
    subst this
    subst h0
    exact ⟨.nils,FV.shut rfl, .nil⟩
  · refine ⟨.simm cells n, .inr (.inl ⟨j,0,n,esz, .mut,cells,cells,rfl,?_,ht j (uses_sref.2 rfl),hg,by omega,rfl,hc,fun i hi=>FV.shut (closedAll_get hc hi)⟩), .simm _ _⟩
    rw [List.drop_zero,List.take_of_length_le (by omega)]
end
end Go.Pv
end
