/- Grow and Concat of numbers. -/
import Derived.Test.YtgobbogomchnhaaGreatDoorWod
import Derived.Test.YtgobbogomchnhaaGreatDoorSmall
set_option linter.unusedSimpArgs false
set_option linter.unusedVariables false
section
set_option linter.unusedSimpArgs false
set_option linter.unusedVariables false
namespace Go.Proofs.YtgobbogomchnhaaGreatDoor
open Go Go.Pv
open Classical
def Gr (s:St) (r:LV) (s':St):Prop:=(r = .nils∧s'=s)∨∃ cs,r = .sref s.n 0 0 1∧s'=s.new (.cells .mut cs)∧LV.closed.closedAll cs=true
set_option maxHeartbeats 4000000 in
theorem grow_c {n:Nat} (hn:n≤1000) {s:St} : CallOk Tryz.prog GL (.fn (.func 121) [] []) [.nils, .int .i64 (n:Int)] s (fun r s'=>Gr s r s'):=by
 refine call_fn (first:=[]) (caps:=[]) Tryz.func121 (by decide +kernel) c121 (Nat.le_of_ble_eq_true rfl) (CodeOk.mono (Q:=fun o e s'=>(o = .normal∨o = .jmp .ret)∧Gr s (e.at 4) s') ?_ fun o e s' hh=>⟨hh.1,e.at 4,by simp [l121,resVal,resOne],hh.2⟩)
 have h0:(envOf ([]++[.nils,LV.int .i64 (n:Int)]++[])).at 0 = .nils:=by rw [envOf_at];rfl
 have h1:(envOf ([]++[.nils,LV.int .i64 (n:Int)]++[])).at 1 = .int .i64 (n:Int):=by rw [envOf_at];rfl
 generalize envOf ([]++[.nils,LV.int .i64 (n:Int)]++[])=e at *
 refine Cd.out ?_
 unfold l121
 dsimp only [jA,qS,qm]
 repeat' (first | refine gA trivial ?_ | (refine gB trivial ?_;intro bb hbb;cases bb<;>(try simp only [hbs,if_false,reduceCtorEq] at hbb)) | apply qc_seq | fail)
 rotate_left
 ·exfalso;omega
 refine q_gen (v:=.int .i64 0) (s':=s) wN (by simp only [LOp.run,lk,sv1,sv2,sv3,Nat.reduceEqDiff,Nat.reduceAdd,Nat.reduceLeDiff,reduceIte,if_false,if_true,mkVal,unLV,List.map,optTmps,h0]) rfl trivial ?_
 simp only [Env.put_some]
 repeat' (first | refine gA trivial ?_ | (refine gB trivial ?_;intro bb hbb;cases bb<;>(try simp only [hbs,if_false,reduceCtorEq] at hbb)) | apply qc_seq | fail)
 ·exact ⟨.inr trivial, .inl ⟨ef,rfl⟩⟩
 ·have hrc:LV.closed.closedAll (rep n [.int .i64 0])=true:=by
   rw [rep_one]
   exact closedAll_of fun i hi=>by
    rw [List.length_replicate] at hi
    rw [List.getD_eq_getElem?_getD,List.getElem?_replicate,if_pos hi];rfl
  have hw:IntKind.i64.wrap ((n:Int) - IntKind.i64.wrap (0 - ((0:Nat):Int)))=(n:Int):=by
   have h1:IntKind.i64.wrap (0 - ((0:Nat):Int))=0:=by decide
   rw [h1,Int.sub_zero]
   exact wrap_i64 _ (by omega) (by omega)
  rw [hw] at hbb
  simp only [hw]
  refine q_gen (v:=.int .i64 0) (s':=s) wN (by simp only [LOp.run,lk,sv1,sv2,sv3,Nat.reduceEqDiff,Nat.reduceAdd,Nat.reduceLeDiff,reduceIte,if_false,if_true,mkVal,unLV,List.map,optTmps,h0]) rfl trivial ?_
  simp only [Env.put_some]
  refine q_gen (v:=.nils) (s':=s) wN (by simp only [LOp.run,lk,sv1,sv2,sv3,Nat.reduceEqDiff,Nat.reduceAdd,Nat.reduceLeDiff,reduceIte,if_false,if_true,mkVal,unLV,List.map,optTmps,h0];rfl) rfl trivial ?_
  simp only [Env.put_some]
  repeat' (first | refine gA trivial ?_ | (refine gB trivial ?_;intro bb hbb;cases bb<;>(try simp only [hbs,if_false,reduceCtorEq] at hbb)) | apply qc_seq | fail)
  refine q_gen (v:=.sref s.n 0 n 1) (s':=St.new s (.cells .mut (rep n [.int .i64 0]))) wN ?_ rfl trivial ?_
  ·have:(n:Int)*8≤big:=by unfold big;omega
   have h2:(n:Int)≤big:=by unfold big;omega
   simp only [LOp.run,lk,sv1,sv2,sv3,Nat.reduceEqDiff,Nat.reduceAdd,Nat.reduceLeDiff,reduceIte,if_false,if_true,mkVal,unLV,List.map,optTmps,h0]
   rw [if_neg (by omega),if_pos ⟨by omega,this,h2⟩]
   simp [n_empty]
  simp only [Env.put_some]
  repeat' (first | refine gA trivial ?_ | (refine gB trivial ?_;intro bb hbb;cases bb<;>(try simp only [hbs,if_false,reduceCtorEq] at hbb)) | apply qc_seq | fail)
  refine q_gen (v:=.sref s.n 0 0 1) (s':=St.new s (.cells .mut (rep n [.int .i64 0]))) wN ?_ rfl trivial ?_
  ·simp only [LOp.run,lk,sv1,sv2,sv3,Nat.reduceEqDiff,Nat.reduceAdd,Nat.reduceLeDiff,reduceIte,if_false,if_true,mkVal,unLV,List.map,optTmps,h0,Option.map_some,Option.map_none,bndOf,Option.bind_eq_bind,Option.bind_some]
   simp
  simp only [Env.put_some]
  repeat' (first | refine gA trivial ?_ | (refine gB trivial ?_;intro bb hbb;cases bb<;>(try simp only [hbs,if_false,reduceCtorEq] at hbb)) | apply qc_seq | fail)
  exact ⟨.inr trivial, .inr ⟨_,ef,rfl,hrc⟩⟩
end Go.Proofs.YtgobbogomchnhaaGreatDoor
end
section
set_option linter.unusedSimpArgs false
set_option linter.unusedVariables false
namespace Go.Proofs.YtgobbogomchnhaaGreatDoor
open Go Go.Pv
open Classical
def Ap (s:St) (x:LV) (l:List Int):Prop:=(x = .nils∧l=[])∨∃ j cs,x = .sref j 0 l.length 1∧s.get j=some (.cells .mut cs)∧LV.closed.closedAll cs=true∧l.length≤cs.length∧cs.take l.length=ints l
theorem ints_append2 (l r:List Int):ints (l++r)=ints l++ints r:=by simp [ints]
theorem Ap.of_gr {s s':St} {r:LV} (h:Gr s r s'):Ap s' r []:=by
 rcases h with ⟨rfl,_⟩ | ⟨cs,rfl,rfl,hc⟩
 ·exact .inl ⟨rfl,rfl⟩
 ·exact .inr ⟨s.n,cs,rfl,by simp,hc,by simp,by simp [ints]⟩
theorem Ap.app {s:St} {x:LV} {l r:List Int} (h:Ap s x l) (hb:(l++r).length≤1000):∃ y s',appendLV 1 8 x (ints r) r.length s=some (y,s')∧Ap s' y (l++r):=by
 have hlen:(l++r).length=l.length+r.length:=by simp
 have hbig:(l.length+r.length)*8≤big:=by unfold big;omega
 rcases h with ⟨rfl,rfl⟩ | ⟨j,cs,rfl,hs,hc,hl,ht⟩
 ·by_cases h0:r.length=0
  ·have:r=[]:=List.eq_nil_of_length_eq_zero h0
   subst this
   exact ⟨.nils,s,by simp [appendLV], .inl ⟨rfl,rfl⟩⟩
  ·have hb2:r.length*8≤big:=by
    rw [List.nil_append] at hb
    unfold big;omega
   exact ⟨.sref s.n 0 r.length 1,s.new (.cells .mut (ints r)),by simp [appendLV,h0,hb2], .inr ⟨s.n,ints r,by simp,by simp,ints_closed r,by simp,by simp [List.take_of_length_le]⟩⟩
 ·refine ⟨.sref s.n 0 (l.length+r.length) 1,⟨s.n+1,(s.h.set j (.cells .ro [])).set s.n (.cells .mut (ints l++ints r))⟩,?_, .inr ⟨s.n,ints l++ints r,by simp,?_,?_,by simp,?_⟩⟩
  ·simp only [appendLV,if_true,hs,Nat.zero_add,Nat.mul_one,List.drop_zero,ht]
   rw [if_pos ⟨hl,hbig,by simp⟩]
  ·show St.get _ _=_
   simp [St.get]
  ·rw [← ints_append2];exact ints_closed _
  ·rw [← ints_append2,List.take_of_length_le (by simp)]
theorem Ap.frz {s:St} {x:LV} {l:List Int} (h:Ap s x l) (hb:l.length≤1000) (hr:∀ z∈l,inI64 z):∃ r s',Pv.frz frzDepth x s=some (r,s')∧r.closed=true∧IsInts r l:=by
 rcases h with ⟨rfl,rfl⟩ | ⟨j,cs,rfl,hs,hc,hl,ht⟩
 ·exact ⟨.nils,s,frzD_closed rfl,rfl, .nil,by simp,by simp⟩
 ·have h2:Pv.frz frzDepth (.sref j 0 l.length 1) s=Pv.frz (38+1+1) (.sref j 0 l.length 1) s:=rfl
  refine ⟨.simm (ints l) l.length,s.put j (.cells .app cs),?_,by simp [LV.closed,ints_closed], .simm _ _,Nat.le_trans hb (by decide),hr⟩
  rw [h2]
  unfold Pv.frz
  simp [LV.closed,hs,frzAll_closed hc,hl,ht]
theorem flat_take {N:List (List Int)} {i:Nat} (hi:i<N.length):(N.take (i+1)).flatten=(N.take i).flatten++N.getD i []:=by
 rw [List.take_add_one,List.flatten_append,List.getD_eq_getElem?_getD,List.getElem?_eq_getElem hi]
 simp
theorem flat_len (N:List (List Int)) (i:Nat):(N.take i).flatten.length≤N.flatten.length:=by
 have h:N.flatten=(N.take i).flatten++(N.drop i).flatten:=by rw [← List.flatten_append,List.take_append_drop]
 rw [h,List.length_append]
 omega
set_option maxHeartbeats 4000000 in
theorem concat_ok {v:LV} {N:List (List Int)} {vs:List LV} (hv:IsRows v N vs) (hb:N.flatten.length≤1000) (hn:N.length≤1000):PE 85 [v] (fun r=>IsInts r N.flatten):=by
 have hc1:=hv.sl.cell
 have hsl:=hv.sl.len
 have hrng:∀ z∈N.flatten,inI64 z:=fun z hz=>by
  obtain ⟨r,hr,hz⟩:=List.mem_flatten.1 hz
  obtain ⟨i,hi,rfl⟩:=List.mem_iff_getElem.1 hr
  have:=(hv.row i hi).rng
  rw [List.getD_eq_getElem?_getD,List.getElem?_eq_getElem hi] at this
  exact this z hz
 refine q_fnEx (t:=2) hm Tryz.func85 (by decide +kernel) c85 (Nat.le_of_ble_eq_true rfl) (by simp [LV.closed.closedAll,hv.closed]) rfl ?_
 have e0:(envOf [v]).at 0=v:=by rw [envOf_at];rfl
 generalize envOf [v]=e at *
 unfold l85
 dsimp only [jA,qS,qI,qA,qB,qC,qm,ql]
 repeat' (first | refine gA @hsl ?_ | (refine gB @hsl ?_;intro bb hbb;cases bb<;>(try simp only [hbs,if_false,reduceCtorEq] at hbb)) | fail)
 refine qc_loop (fun m e s=>s=St.empty∧∃ i:Nat,m=N.length - i∧i≤N.length∧e.at 0=v∧e.at 9=v∧e.at 10 = .int .i64 (N.length:Int)∧e.at 11 = .int .i64 (i:Int)∧e.at 3 = .int .i64 ((N.take i).flatten.length:Int)) _
  ⟨rfl,0,rfl,by omega,ef,ef,ef,by simp only [lk,sv1,sv2,sv3,Nat.reduceEqDiff,Nat.reduceAdd,Nat.reduceLeDiff,reduceIte,if_false,if_true,mkVal,unLV,List.map,optTmps];rfl,by simp only [lk,sv1,sv2,sv3,Nat.reduceEqDiff,Nat.reduceAdd,Nat.reduceLeDiff,reduceIte,if_false,if_true,mkVal,unLV,List.map,optTmps];rfl⟩ ?_
 clear e0
 clear e
 rintro m e s ⟨rfl,i,rfl,hi,e0,e9,e10,e11,e3⟩
 by_cases hil:i<N.length
 ·have hiI:(i:Int)<(N.length:Int):=by omega
  have hw:IntKind.i64.wrap ((i:Int)+1)=((i+1:Nat):Int):=by rw [wrap_i64 _ (by omega) (by omega)];rfl
  have hg:=hv.get hil
  have hrl:=(hv.row i hil).sl.len
  have hrc:=(hv.row i hil).sl.cell
  have hf1:=flat_take hil
  have hf2:=flat_len N (i+1)
  have hlen:(N.take (i+1)).flatten.length=(N.take i).flatten.length+(N.getD i []).length:=by rw [hf1,List.length_append]
  have hw2:IntKind.i64.wrap (((N.take i).flatten.length:Int)+((N.getD i []).length:Int))=((N.take (i+1)).flatten.length:Int):=by rw [wrap_i64 _ (by omega) (by omega),hlen];rfl
  clear hf1 hlen
  repeat' (first | refine gA (@iaN _ _ _ hv.sl) ?_ | (refine gB (@iaN _ _ _ hv.sl) ?_;intro bb hbb;cases bb<;>(try simp only [hbs,if_false,reduceCtorEq] at hbb)) | fail)
  ·exfalso;omega
  ·exact ⟨N.length - (i+1),by omega,trivial,i+1,rfl,by omega,ef,ef,ef,ef,ef⟩
  ·exfalso;rw [hw2] at hbb;omega
 ·have hi':i=N.length:=by omega
  subst hi'
  rw [List.take_length] at e3
  repeat' (first | refine gA trivial ?_ | (refine gB trivial ?_;intro bb hbb;cases bb<;>(try simp only [hbs,if_false,reduceCtorEq] at hbb)) | fail)
  rotate_left
  ·exfalso;omega
  refine q_call wN (fv:=.fn (.func 121) [] []) (vs:=[.nils, .int .i64 (N.flatten.length:Int)]) ef (by simp only [List.map,lk,sv1,sv2,sv3,Nat.reduceEqDiff,Nat.reduceAdd,Nat.reduceLeDiff,reduceIte,if_false,if_true,mkVal,unLV,List.map,optTmps,e3]) (CallOk.mono (grow_c hb) fun r s1 hr=>⟨trivial,?_⟩)
  have hA:=Ap.of_gr hr
  clear hr
  simp only [Env.put_some]
  repeat' (first | refine gA @hsl ?_ | (refine gB @hsl ?_;intro bb hbb;cases bb<;>(try simp only [hbs,if_false,reduceCtorEq] at hbb)) | fail)
  refine qc_loop (fun m e s=>∃ (i:Nat) (x:LV),m=N.length - i∧i≤N.length∧Ap s x (N.take i).flatten∧e.at 25=v∧e.at 26 = .int .i64 (N.length:Int)∧e.at 27 = .int .i64 (i:Int)∧e.at 6=x) _
   ⟨0,r,rfl,by omega,by simpa using hA,ef,ef,by simp only [lk,sv1,sv2,sv3,Nat.reduceEqDiff,Nat.reduceAdd,Nat.reduceLeDiff,reduceIte,if_false,if_true,mkVal,unLV,List.map,optTmps];rfl,ef⟩ ?_
  clear e0 e9 e10 e11 e3 hA hi hil
  clear e
  rintro m e s ⟨i,x,rfl,hi,hA,e25,e26,e27,e6⟩
  by_cases hil:i<N.length
  ·have hiI:(i:Int)<(N.length:Int):=by omega
   have hw:IntKind.i64.wrap ((i:Int)+1)=((i+1:Nat):Int):=by rw [wrap_i64 _ (by omega) (by omega)];rfl
   have hg:=hv.get hil
   have hri:=row_ints (hv.row i hil)
   have hrc:=(hv.row i hil).sl.cell
   have hf2:=flat_len N (i+1)
   have hft:frzTry (ints (N.getD i [])) s=(ints (N.getD i []),s):=by
    unfold frzTry
    rw [show frzDepth=39+1 from rfl,frzAll_closed (ints_closed _)]
   obtain ⟨y,s2,ha,hA2⟩:=hA.app (r:=N.getD i []) (by rw [← flat_take hil];omega)
   rw [← flat_take hil] at hA2
   repeat' (first | refine gA (@iaN _ _ _ hv.sl) ?_ | (refine gB (@iaN _ _ _ hv.sl) ?_;intro bb hbb;cases bb<;>(try simp only [hbs,if_false,reduceCtorEq] at hbb)) | fail)
   ·exfalso;omega
   refine q_append wN (xv:=x) (yv:=vs.getD i .top) ef ef hri.1 (hri.2 _) hft ha ?_
   clear hft ha hri hA
   repeat' (first | refine gA trivial ?_ | (refine gB trivial ?_;intro bb hbb;cases bb<;>(try simp only [hbs,if_false,reduceCtorEq] at hbb)) | fail)
   exact ⟨N.length - (i+1),by omega,i+1,y,rfl,by omega,hA2,ef,ef,ef,ef⟩
  ·have hi':i=N.length:=by omega
   subst hi'
   rw [List.take_length] at hA
   repeat' (first | refine gA trivial ?_ | (refine gB trivial ?_;intro bb hbb;cases bb<;>(try simp only [hbs,if_false,reduceCtorEq] at hbb)) | fail)
   ·refine ⟨.inr trivial,?_⟩
    simp only [lk,sv1,sv2,sv3,Nat.reduceEqDiff,Nat.reduceAdd,Nat.reduceLeDiff,reduceIte,if_false,if_true,mkVal,unLV,List.map,optTmps,e6]
    exact hA.frz hb hrng
   ·exfalso;omega
end Go.Proofs.YtgobbogomchnhaaGreatDoor
end
section
set_option linter.unusedSimpArgs false
set_option linter.unusedVariables false
namespace Go.Proofs.YtgobbogomchnhaaGreatDoor
open Go Go.Pv Go.Aut
open Classical
theorem pos_eq {B:Bu} {ls:List Nat} {n m:Nat} (hl:ls.length=n+m) (hm:0<m):∀ i,(tkOf B ls n).pos i=if i<n then i else n+(i - n) % m:=by
 intro i
 induction i with
 | zero=>
  show 0=_
  by_cases h:0<n
  ·rw [if_pos h]
  ·have:n=0:=by omega
   subst this;simp
 | succ i ih=>
  show (if (tkOf B ls n).pos i+1=ls.length then n else (tkOf B ls n).pos i+1)=_
  rw [ih,hl]
  by_cases h1:i<n
  ·rw [if_pos h1,if_neg (by omega)]
   by_cases h2:i+1<n
   ·rw [if_pos h2]
   ·rw [if_neg h2]
    have:i+1 - n=0:=by omega
    rw [this,Nat.zero_mod];omega
  ·rw [if_neg h1,if_neg (by omega:¬ i+1<n)]
   have hd:i+1 - n=(i - n)+1:=by omega
   rw [hd]
   generalize i - n=d
   have h3:=Nat.mod_lt d hm
   have h4:(d+1) % m=(d % m+1) % m:=by
    have h5:d+1=m*(d / m)+(d % m+1):=by have:=Nat.div_add_mod d m;omega
    rw [h5,Nat.mul_add_mod]
   rw [h4]
   clear h4
   by_cases h6:d % m+1=m
   ·rw [if_pos (by omega),h6,Nat.mod_self];omega
   ·have h7:(d % m+1) % m=d % m+1:=Nat.mod_eq_of_lt (by omega)
    rw [if_neg (by omega),h7];omega
theorem word_lett {B:Bu} {S L:List Int} (hL:1≤L.length) (h0:∀ x∈S++L,0≤x) (i:Nat):((tkOf B ((S++L).map Int.toNat) S.length).word i:Int)=lett S L i:=by
 have hp:=pos_eq (B:=B) (ls:=(S++L).map Int.toNat) (n:=S.length) (m:=L.length) (by simp) (by omega) i
 have hg:∀ j,j<(S++L).length→((((S++L).map Int.toNat).getD j 0:Nat):Int)=(S++L).getD j 0:=by
  intro j hj
  rw [List.getD_eq_getElem?_getD,List.getD_eq_getElem?_getD,List.getElem?_map,List.getElem?_eq_getElem hj]
  have:=h0 _ (List.getElem_mem hj)
  simp only [Option.map_some,Option.getD_some]
  omega
 show ((((S++L).map Int.toNat).getD ((tkOf B ((S++L).map Int.toNat) S.length).pos i) 0:Nat):Int)=_
 rw [hp]
 unfold lett
 by_cases h:i<S.length
 ·rw [if_pos h,if_pos h,hg _ (by simp;omega)]
  simp [List.getD_eq_getElem?_getD,List.getElem?_append_left h]
 ·have h3:=Nat.mod_lt (i - S.length) (by omega:L.length > 0)
  rw [if_neg h,if_neg h,hg _ (by simp;omega)]
  simp [List.getD_eq_getElem?_getD,List.getElem?_append_right]
end Go.Proofs.YtgobbogomchnhaaGreatDoor
end
