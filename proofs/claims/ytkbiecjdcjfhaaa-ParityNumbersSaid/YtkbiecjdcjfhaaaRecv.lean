/- record.Valid, record.Start. -/
import Derived.Test.YtkbiecjdcjfhaaaBase
import Derived.Test.YtkbiecjdcjfhaaaPvKM
set_option linter.unusedSimpArgs false
set_option linter.unusedVariables false
namespace Go.Proofs.Ytkbiecjdcjfhaaa
open Go Go.Pv
open Classical
def RecV (r:List Int):Prop:=r.length≤6000∧(∀ x∈r,1≤x∧x≤(r.length:Int))∧r.Nodup
def RecK (r:List Int) (k:Nat):Prop:=(∀ x∈r.take k,1≤x∧x≤(r.length:Int))∧(r.take k).Nodup
theorem recK_succ {r:List Int} {k:Nat} {x:Int} (hx:r[k]? = some x):RecK r (k+1)↔RecK r k∧(1≤x∧x≤(r.length:Int))∧x ∉ r.take k:=by
  unfold RecK
  rw [List.take_add_one,hx]
  simp only [Option.toList_some,List.mem_append,List.mem_singleton,List.nodup_append,List.nodup_cons,List.not_mem_nil,not_false_eq_true,List.nodup_nil,and_true,true_and]
  constructor
  · rintro ⟨h1,h2,h3⟩
    exact ⟨⟨fun y hy=>h1 y (.inl hy),h2⟩,h1 x (.inr rfl),fun hm=>h3 x hm x rfl rfl⟩
  · rintro ⟨⟨h1,h2⟩,h3,h4⟩
    exact ⟨fun y hy=>hy.elim (h1 y) fun e=>e ▸ h3,h2,fun a ha b hb hab=>h4 (by rw [← hb,← hab];exact ha)⟩
theorem recK_all {r:List Int} (hl:r.length≤6000):RecK r r.length↔RecV r:=by
  unfold RecK RecV
  rw [List.take_length]
  exact ⟨fun h=>⟨hl,h⟩,fun h=>h.2⟩
theorem recK_le {r:List Int} {k:Nat} (h:¬ RecK r k):¬ RecV r:=fun hv=>h ⟨fun x hx=>hv.2.1 x (List.mem_of_mem_take hx),hv.2.2.sublist (List.take_sublist _ _)⟩
set_option maxHeartbeats 8000000 in
theorem recvalid_ok {rv:LV} {r:List Int} (hr:IsInts rv r):PO 52 [rv, .int .i64 (r.length:Int)] (.bool (decide (RecV r))):=by
  have hcl:=hr.closed
  have hrl:=hr.sl.len
  have hlen:=hr.len
  have hmx:maxLen=9223372036854775807:=by decide
  refine q_fn (t:=4) hm Try.func52 (by decide +kernel) c52 (Nat.le_of_ble_eq_true rfl) (by simp [LV.closed.closedAll,LV.closed,hcl]) rfl rfl ?_
  have e0:(envOf [rv, .int .i64 (r.length:Int)]).at 0=rv:=by rw [envOf_at];rfl
  have e1:(envOf [rv, .int .i64 (r.length:Int)]).at 1 = .int .i64 (r.length:Int):=by rw [envOf_at];rfl
  generalize envOf [rv, .int .i64 (r.length:Int)]=e at *
  unfold l52
  dsimp only [jA,jC,qM,qL,qS,qI,qA,qB,qC,qK,qP,qm,ql]
  by_cases hbig:6000<r.length
  · have hF:Bx (decide (RecV r)=false):=⟨decide_eq_false fun h=>by have:=h.1;omega⟩
    generalize RecV r=RV at *
    repeat' (first | refine gA @hrl ?_ | (refine gB @hrl ?_;intro bb hbb;cases bb<;>(try simp only [hbs,if_false,reduceCtorEq] at hbb)) | apply qc_seq | fail)
    all_goals first | (exfalso;omega) | skip
    exact ⟨.inr trivial,by rw [hF.out];simp only [lk,sv1,sv2,sv3,Nat.reduceEqDiff,Nat.reduceAdd,Nat.reduceLeDiff,reduceIte,if_false,if_true,mkVal,unLV,List.map,optTmps]⟩
  · have hw : IntKind.i64.wrap ((r.length : Int) + 1) = ((r.length + 1 : Nat) : Int) := by rw [wrap_i64 _ (by omega) (by omega)]; rfl
    have hl6:r.length≤6000:=by omega
    repeat' (first | refine gA (And.intro @hrl @hw) ?_ | (refine gB (And.intro @hrl @hw) ?_;intro bb hbb;cases bb<;>(try simp only [hbs,if_false,reduceCtorEq] at hbb)) | apply qc_seq | fail)
    all_goals first | (exfalso;first | omega | exact hbb.elim) | skip
    refine u_mkB (n:=r.length+1) wN n_empty ef ef (by omega) ?_
    repeat' (first | refine gA (And.intro @hrl @hw) ?_ | (refine gB (And.intro @hrl @hw) ?_;intro bb hbb;cases bb<;>(try simp only [hbs,if_false,reduceCtorEq] at hbb)) | apply qc_seq | fail)
    refine qc_loop (fun m e s=>∃ k:Nat,m=r.length - k∧k≤r.length∧RecK r k∧s.get 0=some (.cells .mut (bcells (r.length+1) fun j=>decide ((j:Int)∈r.take k)))∧e.at 0=rv∧e.at 1 = .int .i64 (r.length:Int)∧e.at 5 = .sref 0 0 (r.length+1) 1∧e.at 23=rv∧e.at 24 = .int .i64 (r.length:Int)∧e.at 25 = .int .i64 (k:Int)) _
      ⟨0,rfl,by omega,by simp [RecK],by simp [n_empty],ef,ef,ef,ef,ef,by simp only [lk,sv1,sv2,sv3,Nat.reduceEqDiff,Nat.reduceAdd,Nat.reduceLeDiff,reduceIte,if_false,if_true,mkVal,unLV,List.map,optTmps];rfl⟩ ?_
    clear e0 e1
    clear e
    rintro m e s ⟨k,rfl,hk,hK,hs,e0,e1,e5,e23,e24,e25⟩
    by_cases hkl:k<r.length
    · have hkI:(k:Int)<(r.length:Int):=by omega
      have hwk:IntKind.i64.wrap ((k:Int)+1)=((k+1:Nat):Int):=by rw [wrap_i64 _ (by omega) (by omega)];rfl
      have hg:=ints_get hkI
      have hx:r[k]? = some (r.getD k 0):=by rw [List.getD_eq_getElem?_getD,List.getElem?_eq_getElem hkl];rfl
      have hsucc:=recK_succ hx
      generalize r.getD k 0=x at *
      by_cases hx1:1≤x∧x≤(r.length:Int)
      · obtain ⟨n,rfl⟩:∃ n:Nat,x=(n:Int):=⟨x.toNat,by omega⟩
        have hn:(n:Int)<((r.length+1:Nat):Int):=by omega
        have hn':n<r.length+1:=by omega
        have hib:(bcells (r.length+1) fun j=>decide ((j:Int)∈r.take k))[n]? = some (.bool (decide ((n:Int)∈r.take k))):=bcells_get hn'
        have hxB:Bx (1≤(n:Int)∧(n:Int)≤(r.length:Int)):=⟨hx1⟩
        have hsB:Bx (s.get 0=some (.cells .mut (bcells (r.length+1) fun j=>decide ((j:Int)∈r.take k)))):=⟨hs⟩
        have hxB2:Bx (r[k]? = some (n:Int)):=⟨hx⟩
        by_cases hmem:(n:Int)∈r.take k
        · have hF:Bx (decide (RecV r)=false):=⟨decide_eq_false (recK_le (k:=k+1) fun h=>(hsucc.1 h).2.2 hmem)⟩
          rw [decide_eq_true hmem] at hib
          clear hsucc hK hmem hx
          repeat' (first | refine gA (And.intro (@iaN _ _ _ hr.sl) (And.intro @hg (And.intro @iaS @hib))) ?_ | (refine gB (And.intro (@iaN _ _ _ hr.sl) (And.intro @hg (And.intro @iaS @hib))) ?_;intro bb hbb;cases bb<;>(try simp only [hbs,if_false,reduceCtorEq] at hbb)) | apply qc_seq | fail)
          all_goals first | (exfalso;first | omega | exact hbb.elim) | skip
          exact ⟨.inr trivial,by rw [hF.out];simp only [lk,sv1,sv2,sv3,Nat.reduceEqDiff,Nat.reduceAdd,Nat.reduceLeDiff,reduceIte,if_false,if_true,mkVal,unLV,List.map,optTmps]⟩
        · have hK':Bx (RecK r (k+1)):=⟨hsucc.2 ⟨hK,hx1,hmem⟩⟩
          rw [decide_eq_false hmem] at hib
          clear hsucc hK hmem hx
          repeat' (first | refine gA (And.intro (@iaN _ _ _ hr.sl) (And.intro @hg (And.intro @iaS @hib))) ?_ | (refine gB (And.intro (@iaN _ _ _ hr.sl) (And.intro @hg (And.intro @iaS @hib))) ?_;intro bb hbb;cases bb<;>(try simp only [hbs,if_false,reduceCtorEq] at hbb)) | apply qc_seq | fail)
          all_goals first | (exfalso;first | omega | exact hbb.elim) | skip
          refine q_storeB (q:=n) (b:=true) (f':=fun j=>decide ((j:Int)∈r.take (k+1))) ef rfl hs hn' (fun j=>?_) fun s' h1 h2 h3=>?_
          · rw [List.take_add_one,hxB2.out]
            by_cases hj:j=n
            · subst hj;simp
            · have:¬ ((j:Int)=(n:Int)):=by omega
              simp [hj,this]
          repeat' (first | refine gA trivial ?_ | (refine gB trivial ?_;intro bb hbb;cases bb<;>(try simp only [hbs,if_false,reduceCtorEq] at hbb)) | apply qc_seq | fail)
          refine ⟨r.length - (k+1),by omega,k+1,rfl,by omega,hK'.out,h2,?_⟩
          simp only [lk,sv1,sv2,sv3,Nat.reduceEqDiff,Nat.reduceAdd,Nat.reduceLeDiff,reduceIte,if_false,if_true,mkVal,unLV,List.map,optTmps,hwk,e0,e1,e5,e23,e24,and_self]
      · have hF:Bx (decide (RecV r)=false):=⟨decide_eq_false (recK_le (k:=k+1) fun h=>hx1 (hsucc.1 h).2.1)⟩
        clear hsucc hK hx
        repeat' (first | refine gA (And.intro (@iaN _ _ _ hr.sl) @hg) ?_ | (refine gB (And.intro (@iaN _ _ _ hr.sl) @hg) ?_;intro bb hbb;cases bb<;>(try simp only [hbs,if_false,reduceCtorEq] at hbb)) | apply qc_seq | fail)
        all_goals first | (exfalso;first | omega | exact hbb.elim) | skip
        all_goals exact ⟨.inr trivial,by rw [hF.out];simp only [lk,sv1,sv2,sv3,Nat.reduceEqDiff,Nat.reduceAdd,Nat.reduceLeDiff,reduceIte,if_false,if_true,mkVal,unLV,List.map,optTmps]⟩
    · have hF:Bx (decide (RecV r)=true):=⟨decide_eq_true ((recK_all hl6).1 (by rw [show k=r.length by omega] at hK;exact hK))⟩
      clear hK
      repeat' (first | refine gA trivial ?_ | (refine gB trivial ?_;intro bb hbb;cases bb<;>(try simp only [hbs,if_false,reduceCtorEq] at hbb)) | apply qc_seq | fail)
      all_goals first | (exfalso;first | omega | exact hbb.elim) | skip
      exact ⟨.inr trivial,by rw [hF.out];simp only [lk,sv1,sv2,sv3,Nat.reduceEqDiff,Nat.reduceAdd,Nat.reduceLeDiff,reduceIte,if_false,if_true,mkVal,unLV,List.map,optTmps]⟩
def recS (n:Nat):List Int:=(List.range n).map fun i=>((i+1:Nat):Int)
theorem recS_len (n:Nat):(recS n).length=n:=by simp [recS]
theorem recS_ok {n:Nat} (h:n≤6000):RecV (recS n):=by
  refine ⟨by rw [recS_len];exact h,fun x hx=>?_,?_⟩
  · obtain ⟨i,hi,rfl⟩:=List.mem_map.1 hx
    have:=List.mem_range.1 hi
    rw [recS_len]
    omega
  · unfold recS
    rw [List.nodup_iff_pairwise_ne,List.pairwise_map]
    refine (List.nodup_iff_pairwise_ne.1 List.nodup_range).imp fun hne he=>hne (by omega)
set_option maxHeartbeats 8000000 in
theorem recstart_ok {n:Nat} (hn:n≤6000):PE 18 [.int .i64 (n:Int)] (fun v=>IsInts v (recS n)):=by
  have hmx:maxLen=9223372036854775807:=by decide
  refine q_fnEx (t:=2) hm Try.func18 (by decide +kernel) c18 (Nat.le_of_ble_eq_true rfl) rfl rfl ?_
  have e0:(envOf [.int .i64 (n:Int)]).at 0 = .int .i64 (n:Int):=by rw [envOf_at];rfl
  generalize envOf [.int .i64 (n:Int)]=e at *
  unfold l18
  dsimp only [jA,jC,jG,qM,qS,qI,qA,qB,qC,qP,qm]
  repeat' (first | refine gA trivial ?_ | (refine gB trivial ?_;intro bb hbb;cases bb<;>(try simp only [hbs,if_false,reduceCtorEq] at hbb)) | apply qc_seq | fail)
  all_goals first | (exfalso;first | omega | exact hbb.elim) | skip
  refine u_mk1 (n:=n) wN n_empty ef ef (by omega) ?_
  repeat' (first | refine gA trivial ?_ | (refine gB trivial ?_;intro bb hbb;cases bb<;>(try simp only [hbs,if_false,reduceCtorEq] at hbb)) | apply qc_seq | fail)
  refine qc_loop (fun m e s=>∃ k:Nat,m=n - k∧k≤n∧s.get 0=some (.cells .mut (fcells n fun j=>if j<k then j+1 else 0))∧e.at 3 = .sref 0 0 n 1∧e.at 14 = .int .i64 (n:Int)∧e.at 15 = .int .i64 (k:Int)) _
    ⟨0,rfl,by omega,by simp [n_empty],ef,ef,by simp only [lk,sv1,sv2,sv3,Nat.reduceEqDiff,Nat.reduceAdd,Nat.reduceLeDiff,reduceIte,if_false,if_true,mkVal,unLV,List.map,optTmps];rfl⟩ ?_
  clear e0
  clear e
  rintro m e s ⟨k,rfl,hk,hs,e3,e14,e15⟩
  by_cases hkn:k<n
  · have hkI:(k:Int)<(n:Int):=by omega
    have hwk:IntKind.i64.wrap ((k:Int)+1)=((k+1:Nat):Int):=by rw [wrap_i64 _ (by omega) (by omega)];rfl
    repeat' (first | refine gA (And.intro @iaS @hwk) ?_ | (refine gB (And.intro @iaS @hwk) ?_;intro bb hbb;cases bb<;>(try simp only [hbs,if_false,reduceCtorEq] at hbb)) | apply qc_seq | fail)
    all_goals first | (exfalso;first | omega | exact hbb.elim) | skip
    refine q_storeF (v:=k) (y:=k+1) (f':=fun j=>if j<k+1 then j+1 else 0) ef ef hs hkn (fun j=>?_) fun s' h1 h2 h3=>?_
    · by_cases hj:j=k
      · subst hj;simp
      · by_cases hjk:j<k
        · simp [hj,hjk,show j<k+1 by omega]
        · simp [hj,hjk,show ¬ j<k+1 by omega]
    repeat' (first | refine gA trivial ?_ | (refine gB trivial ?_;intro bb hbb;cases bb<;>(try simp only [hbs,if_false,reduceCtorEq] at hbb)) | apply qc_seq | fail)
    refine ⟨n - (k+1),by omega,k+1,rfl,by omega,h2,?_⟩
    simp only [lk,sv1,sv2,sv3,Nat.reduceEqDiff,Nat.reduceAdd,Nat.reduceLeDiff,reduceIte,if_false,if_true,mkVal,unLV,List.map,optTmps,hwk,e3,e14,and_self]
  · have hkn':k=n:=by omega
    subst hkn'
    repeat' (first | refine gA trivial ?_ | (refine gB trivial ?_;intro bb hbb;cases bb<;>(try simp only [hbs,if_false,reduceCtorEq] at hbb)) | apply qc_seq | fail)
    all_goals first | (exfalso;first | omega | exact hbb.elim) | skip
    have hfc:fcells k (fun j=>if j<k then j+1 else 0)=ints (recS k):=by
      rw [fcells_ints]
      unfold recS
      congr 1
      refine List.map_congr_left fun i hi=>?_
      rw [if_pos (List.mem_range.1 hi)]
    rw [hfc] at hs
    refine ⟨.inr trivial, .simm (ints (recS k)) k,_,by simp only [lk,sv1,sv2,sv3,Nat.reduceEqDiff,Nat.reduceAdd,Nat.reduceLeDiff,reduceIte,if_false,if_true,mkVal,unLV,List.map,optTmps];exact frz_sref hs (by rw [ints_length,recS_len]) (ints_closed _),?_,?_,?_,?_⟩
    · simp [LV.closed,ints_closed]
    · rw [recS_len];exact .simm _ _
    · rw [recS_len];omega
    · intro x hx
      obtain ⟨i,hi,rfl⟩:=List.mem_map.1 hx
      have:=List.mem_range.1 hi
      unfold inI64
      constructor<;>omega
end Go.Proofs.Ytkbiecjdcjfhaaa
