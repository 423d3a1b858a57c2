/-
  The layer Sx: regions of open order whose last operations stand behind all others.
-/
import Derived.Orders
import Derived.Test.YtekngilbecjkhaaGreatDoorSxSound
set_option linter.unusedSectionVars false
set_option linter.unusedVariables false
set_option linter.unusedSimpArgs false
namespace Go.Sx
def waits(ops:Array Oper)(i j:Nat):Bool:=((ops[i]?).map fun o=>o.after.any fun e=>Region.binds .any e && Nat.beq e.on j).getD false
def fwdOK(ops:Array Oper):Bool:=(List.range ops.size).all fun i=>((ops[i]?).map fun o=>o.after.all fun e=> !Region.binds .any e || Nat.blt e.on i).getD false
def lastOK(ops:Array Oper)(k:Nat):Bool:=Nat.ble k ops.size && (List.range ops.size).all fun i=>Nat.blt i k || (List.range i).all fun j=>waits ops i j
def readyL(ops:Array Oper)(listed:Nat→Bool):List Nat:=
 (List.range ops.size).filter fun i=> !listed i && ((ops[i]?).map (·.after.all fun e=> !Region.binds .any e || listed e.on)).getD false
def pickL(ops:Array Oper):Nat→Nat→(Nat→Bool)→List Nat
 |0,_,_=>[]
 |fuel+1,t,listed=>match(readyL ops listed)[t % (readyL ops listed).length]? with
  |some i=>i::pickL ops fuel (t / (readyL ops listed).length) fun j=>listed j || Nat.beq i j
  |none=>[]
theorem go_pickL(ops:Array Oper):∀ (fuel t:Nat) (listed:Array Bool) (acc:List Nat) (p:Nat→Bool),listed.size=ops.size→(∀ i,i<ops.size→listed.getD i true=p i∧listed.getD i false=p i)→(∀ i,i<ops.size→∀ o,ops[i]? =some o→∀ e∈o.after,Region.binds .any e=true→e.on<ops.size)→
  Region.linearise.go .any ops fuel t listed acc=acc.reverse++pickL ops fuel t p:=by
 intro fuel
 induction fuel with
 |zero=>intro t listed acc p _ _ _;simp[Region.linearise.go,pickL]
 |succ fuel ih=>
  intro t listed acc p hsz hp he
  have hr:((List.range ops.size).filter fun i=> !listed.getD i true && ((ops[i]?).map (·.after.all fun e=> !Region.binds .any e || listed.getD e.on false)).getD false)=readyL ops p:=by
   unfold readyL
   refine List.filter_congr fun i hi=> ?_
   have hi':i<ops.size:=List.mem_range.1 hi
   rw[(hp i hi').1]
   congr 1
   have ho:ops[i]? =some ops[i]:=Array.getElem?_eq_getElem hi'
   rw[ho]
   simp only[Option.map_some,Option.getD_some]
   rw[Bool.eq_iff_iff,Array.all_eq_true_iff_forall_mem,Array.all_eq_true_iff_forall_mem]
   refine forall_congr' fun e=>forall_congr' fun hm=> ?_
   cases hb:Region.binds .any e with
   |false=>simp
   |true=>rw[(hp e.on (he i hi' _ ho e hm hb)).2]
  simp only[Region.linearise.go,pickL,hr]
  cases hi:(readyL ops p)[t % (readyL ops p).length]? with
  |none=>simp
  |some i=>
   simp only
   have him:i<ops.size:=by
    have:=List.mem_of_getElem? hi
    unfold readyL at this
    exact List.mem_range.1 (List.mem_filter.1 this).1
   rw[ih (t / (readyL ops p).length) (listed.setIfInBounds i true) (i::acc) (fun j=>p j || Nat.beq i j) (by simpa using hsz) (fun j hj=> ?_) he]
   ·simp
   ·have h1:=hp j hj
    by_cases e:i=j
    ·subst e
     simp[Array.getD_eq_getD_getElem?,Array.getElem?_setIfInBounds,hsz,him,Nat.beq_refl]
    ·have e':Nat.beq i j=false:=by
      cases hb:Nat.beq i j with
      |false=>rfl
      |true=>exact absurd (Nat.eq_of_beq_eq_true hb) e
     simp only[Array.getD_eq_getD_getElem?,Array.getElem?_setIfInBounds,e',Bool.or_false]at h1 ⊢
     simpa[e]using h1
theorem linearise_pick(ops:Array Oper)(hf:fwdOK ops=true)(t:Nat):Region.linearise .any ops t=pickL ops ops.size t fun i=> !Nat.blt i ops.size:=by
 unfold Region.linearise
 rw[go_pickL ops ops.size t _ [] (fun i=> !Nat.blt i ops.size) (by simp) (fun i hi=> ?_) (fun i hi o ho e he hb=> ?_)]
 ·rfl
 ·have:Nat.blt i ops.size=true:=by rw[Nat.blt_eq];exact hi
  simp[this,Array.getD_eq_getD_getElem?,Array.getElem?_replicate,hi]
 ·unfold fwdOK at hf
  have h1:=List.all_eq_true.1 hf i (List.mem_range.2 hi)
  rw[ho]at h1
  simp only[Option.map_some,Option.getD_some,Array.all_eq_true_iff_forall_mem]at h1
  have h2:=h1 e he
  rw[hb]at h2
  simp only[Bool.not_true,Bool.false_or,Nat.blt_eq]at h2
  omega
theorem filter_lt'{α:Type}(p q:α→Bool):∀ (l:List α),(∀ x∈l,q x=true→p x=true)→(∃ x∈l,p x=true∧q x=false)→(l.filter q).length+1≤(l.filter p).length
 |[],_,⟨x,hx,_⟩=>by cases hx
 |a::l,h,⟨x,hx,h1,h2⟩=>by
  rcases List.mem_cons.1 hx with rfl|hx
  ·rw[List.filter_cons,List.filter_cons,if_neg (by simp[h2]),if_pos h1,List.length_cons]
   have:(l.filter q).length≤(l.filter p).length:=by
    rw[← List.countP_eq_length_filter,← List.countP_eq_length_filter]
    exact List.countP_mono_left fun y hy hq=>h y (List.mem_cons_of_mem _ hy) hq
   omega
  ·have ih:=filter_lt' p q l (fun y hy=>h y (List.mem_cons_of_mem _ hy)) ⟨x,hx,h1,h2⟩
   rw[List.filter_cons,List.filter_cons]
   have ha:=h a List.mem_cons_self
   split
   ·rename_i hq
    rw[if_pos (ha hq),List.length_cons,List.length_cons];omega
   ·split
    ·rw[List.length_cons];omega
    ·exact ih
theorem fwd_at{ops:Array Oper}(hf:fwdOK ops=true){i:Nat}(hi:i<ops.size):∀ e∈ops[i].after,Region.binds .any e=true→e.on<i:=fun e he hb=>by
 unfold fwdOK at hf
 have h1:=List.all_eq_true.1 hf i (List.mem_range.2 hi)
 rw[Array.getElem?_eq_getElem hi]at h1
 simp only[Option.map_some,Option.getD_some,Array.all_eq_true_iff_forall_mem]at h1
 have h2:=h1 e he
 rw[hb]at h2
 simpa only[Bool.not_true,Bool.false_or,Nat.blt_eq]using h2
theorem last_at{ops:Array Oper}{k:Nat}(hl:lastOK ops k=true){i j:Nat}(hi:i<ops.size)(hk:k≤i)(hj:j<i):∃ e∈ops[i].after,Region.binds .any e=true∧e.on=j:=by
 unfold lastOK at hl
 rw[Bool.and_eq_true]at hl
 have h1:=List.all_eq_true.1 hl.2 i (List.mem_range.2 hi)
 rw[Bool.or_eq_true]at h1
 rcases h1 with h1|h1
 ·rw[Nat.blt_eq]at h1;omega
 ·have h2:=List.all_eq_true.1 h1 j (List.mem_range.2 hj)
  unfold waits at h2
  rw[Array.getElem?_eq_getElem hi]at h2
  simp only[Option.map_some,Option.getD_some]at h2
  rw[Array.any_eq_true]at h2
  obtain⟨m,hm,h3⟩:=h2
  rw[Bool.and_eq_true]at h3
  exact⟨_,Array.getElem_mem hm,h3.1,Nat.eq_of_beq_eq_true h3.2⟩
theorem last_le{ops:Array Oper}{k:Nat}(hl:lastOK ops k=true):k≤ops.size:=by
 unfold lastOK at hl
 rw[Bool.and_eq_true]at hl
 exact Nat.le_of_ble_eq_true hl.1
theorem mem_readyL{ops:Array Oper}{p:Nat→Bool}{i:Nat}:i∈readyL ops p↔∃ h:i<ops.size,p i=false∧∀ e∈ops[i].after,Region.binds .any e=true→p e.on=true:=by
 unfold readyL
 rw[List.mem_filter,List.mem_range]
 constructor
 ·rintro⟨h,h2⟩
  rw[Bool.and_eq_true,Array.getElem?_eq_getElem h]at h2
  simp only[Option.map_some,Option.getD_some,Array.all_eq_true_iff_forall_mem]at h2
  refine⟨h,by simpa using h2.1,fun e he hb=> ?_⟩
  have:=h2.2 e he
  rw[hb]at this
  simpa using this
 ·rintro⟨h,h1,h2⟩
  refine⟨h,?_⟩
  rw[Bool.and_eq_true,Array.getElem?_eq_getElem h]
  simp only[Option.map_some,Option.getD_some,Array.all_eq_true_iff_forall_mem]
  refine⟨by simpa using h1,fun e he=> ?_⟩
  cases hb:Region.binds .any e with
  |false=>rfl
  |true=>simpa using h2 e he hb
theorem pickL_last{ops:Array Oper}{k:Nat}(hf:fwdOK ops=true)(hl:lastOK ops k=true):∀ (d m fuel t:Nat) (q:Nat→Bool),ops.size-m=d→k≤m→d≤fuel→(∀ i,q i=(Nat.blt i m || !Nat.blt i ops.size))→m≤ops.size→pickL ops fuel t q=List.range' m d:=by
 intro d
 induction d with
 |zero=>
  intro m fuel t q hd _ _ hq hm
  have hr:readyL ops q=[]:=by
   rw[List.eq_nil_iff_forall_not_mem]
   intro i hi
   obtain⟨h,h1,_⟩:=mem_readyL.1 hi
   rw[hq]at h1
   have:Nat.blt i m=true:=by rw[Nat.blt_eq];omega
   rw[this]at h1;cases h1
  cases fuel with
  |zero=>rfl
  |succ fuel=>simp[pickL,hr]
 |succ d ih=>
  intro m fuel t q hd hk hfu hq hm
  cases fuel with
  |zero=>omega
  |succ fuel=>
   have hmn:m<ops.size:=by omega
   have hbm:Nat.blt m m=false:=by cases hb:Nat.blt m m with|false=>rfl|true=>rw[Nat.blt_eq]at hb;omega
   have hbn:Nat.blt m ops.size=true:=by rw[Nat.blt_eq];exact hmn
   have hr:readyL ops q=[m]:=by
    have hsub:∀ i,i∈readyL ops q↔i=m:=fun i=>by
     rw[mem_readyL]
     constructor
     ·rintro⟨h,h1,h2⟩
      rcases Nat.lt_trichotomy i m with h3|h3|h3
      ·rw[hq]at h1
       have:Nat.blt i m=true:=by rw[Nat.blt_eq];exact h3
       rw[this]at h1;cases h1
      ·exact h3
      ·obtain⟨e,he,hb,hon⟩:=last_at hl h (by omega) h3
       have:=h2 e he hb
       rw[hon,hq,hbm,hbn]at this;cases this
     ·rintro rfl
      refine⟨hmn,by rw[hq,hbm,hbn];rfl,fun e he hb=> ?_⟩
      have:=fwd_at hf hmn e he hb
      rw[hq]
      have:Nat.blt e.on i=true:=by rw[Nat.blt_eq];exact this
      rw[this];rfl
    have hnd:(readyL ops q).Nodup:=List.Pairwise.filter _ List.nodup_range
    match hL:readyL ops q,hsub,hnd with
    |[],hs,_=>exact absurd ((hs m).2 rfl) (by simp)
    |[x],hs,_=>rw[(hs x).1 (by simp)]
    |x::y::l,hs,hn=>
     have h1:=(hs x).1 (by simp)
     have h2:=(hs y).1 (by simp)
     simp[h1,h2]at hn
   simp only[pickL,hr,List.length_singleton,Nat.mod_one,List.getElem?_cons_zero]
   rw[List.range'_succ,ih (m+1) fuel _ _ (by omega) (by omega) (by omega) (fun i=> ?_) (by omega)]
   rw[hq]
   by_cases h1:i<m
   ·have e1:Nat.blt i m=true:=by rw[Nat.blt_eq];exact h1
    have e2:Nat.blt i (m+1)=true:=by rw[Nat.blt_eq];omega
    rw[e1,e2];rfl
   ·have e1:Nat.blt i m=false:=by cases hb:Nat.blt i m with|false=>rfl|true=>rw[Nat.blt_eq]at hb;omega
    by_cases h2:i=m
    ·subst h2
     have e2:Nat.blt i (i+1)=true:=by rw[Nat.blt_eq];omega
     rw[e2,Nat.beq_refl];simp
    ·have e2:Nat.blt i (m+1)=false:=by cases hb:Nat.blt i (m+1)with|false=>rfl|true=>rw[Nat.blt_eq]at hb;omega
     have e3:Nat.beq m i=false:=by cases hb:Nat.beq m i with|false=>rfl|true=>exact absurd (Nat.eq_of_beq_eq_true hb).symm h2
     rw[e1,e2,e3];simp
theorem pickL_lt(ops:Array Oper):∀ (fuel t:Nat) (p:Nat→Bool) {i:Nat},i∈pickL ops fuel t p→i<ops.size
 |0,_,_,_,h=>by cases h
 |fuel+1,t,p,i,h=>by
  unfold pickL at h
  split at h
  ·rename_i j hj
   rcases List.mem_cons.1 h with rfl|h
   ·obtain⟨h1,_⟩:=mem_readyL.1 (List.mem_of_getElem? hj);exact h1
   ·exact pickL_lt ops fuel _ _ h
  ·cases h
theorem pickL_split{ops pre:Array Oper}{k:Nat}(hf:fwdOK ops=true)(hl:lastOK ops k=true)(hp:pre.size=k)(he:∀ i (h:i<k) (h':i<ops.size) (h'':i<pre.size),pre[i]=ops[i]):
  ∀ (fuel t:Nat) (p q:Nat→Bool),((List.range k).filter fun i=> !p i).length≤fuel→(∀ i,q i=if i<k then p i else !Nat.blt i ops.size)→pickL ops (fuel+(ops.size-k)) t q=pickL pre fuel t p++List.range' k (ops.size-k):=by
 have hkn:=last_le hl
 have done:∀ (fuel t:Nat) (p q:Nat→Bool),(∀ i,i<k→p i=true)→(∀ i,q i=if i<k then p i else !Nat.blt i ops.size)→pickL ops (fuel+(ops.size-k)) t q=List.range' k (ops.size-k):=fun fuel t p q hall hq=>
  pickL_last hf hl _ k _ t q rfl (Nat.le_refl _) (by omega) (fun i=>by
   rw[hq]
   by_cases h:i<k
   ·have e1:Nat.blt i k=true:=by rw[Nat.blt_eq];exact h
    rw[if_pos h,hall i h,e1];rfl
   ·have e1:Nat.blt i k=false:=by cases hb:Nat.blt i k with|false=>rfl|true=>rw[Nat.blt_eq]at hb;omega
    rw[if_neg h,e1];rfl) hkn
 intro fuel
 induction fuel with
 |zero=>
  intro t p q hc hq
  have h0:=List.eq_nil_of_length_eq_zero (Nat.le_zero.1 hc)
  exact done 0 t p q (fun i hi=>by
   have:=List.filter_eq_nil_iff.1 h0 i (List.mem_range.2 hi)
   simpa using this) hq
 |succ fuel ih=>
  intro t p q hc hq
  by_cases hall:∀ i,i<k→p i=true
  ·have hr:readyL pre p=[]:=by
    rw[List.eq_nil_iff_forall_not_mem]
    intro i hi
    obtain⟨h,h1,_⟩:=mem_readyL.1 hi
    rw[hall i (by omega)]at h1;cases h1
   rw[done (fuel+1) t p q hall hq]
   simp[pickL,hr]
  ·obtain⟨i0,hi0,hmin⟩:∃ i0,(i0<k∧p i0=false)∧∀ j,j<i0→p j=true:=by
    have:∃ i,i<k∧p i=false:=by
     refine Classical.byContradiction fun hn=>hall fun i hi=> ?_
     cases hpi:p i with
     |true=>rfl
     |false=>exact absurd ⟨i,hi,hpi⟩ hn
    obtain⟨n,hn⟩:=this
    induction n using Nat.strongRecOn with
    |ind n ihn=>
     by_cases h:∃ j,j<n∧p j=false
     ·obtain⟨j,hj,hpj⟩:=h;exact ihn j hj ⟨by omega,hpj⟩
     ·refine⟨n,hn,fun j hj=> ?_⟩
      cases hpj:p j with
      |true=>rfl
      |false=>exact absurd ⟨j,hj,hpj⟩ h
   have hqp:∀ j,j<k→q j=p j:=fun j hj=>by rw[hq,if_pos hj]
   have hr:readyL ops q=readyL pre p:=by
    have hmem:∀ i,i∈readyL ops q↔i∈readyL pre p:=fun i=>by
     rw[mem_readyL,mem_readyL]
     constructor
     ·rintro⟨h,h1,h2⟩
      by_cases hik:i<k
      ·refine⟨by omega,by rw[← hqp i hik];exact h1,fun e hem hb=> ?_⟩
       rw[he i hik h (by omega)]at hem
       have h3:=fwd_at hf h e hem hb
       rw[← hqp _ (by omega)];exact h2 e hem hb
      ·obtain⟨e,hem,hb,hon⟩:=last_at hl h (by omega) (show i0<i by omega)
       have:=h2 e hem hb
       rw[hon,hqp i0 hi0.1,hi0.2]at this;cases this
     ·rintro⟨h,h1,h2⟩
      have hik:i<k:=by omega
      refine⟨by omega,by rw[hqp i hik];exact h1,fun e hem hb=> ?_⟩
      have hem':e∈pre[i].after:=by rw[he i hik (by omega) h];exact hem
      have h3:=fwd_at hf (show i<ops.size by omega) e hem hb
      rw[hqp _ (by omega)];exact h2 e hem' hb
    have e1:readyL ops q=(List.range k).filter (fun i=>decide (i∈readyL pre p)):=by
     unfold readyL at hmem ⊢
     have e2:List.range ops.size=List.range k++List.range' k (ops.size-k):=by
      have h:= @List.range'_append_1 0 k (ops.size-k)
      rw[Nat.zero_add,show k+(ops.size-k)=ops.size by omega]at h
      rw[List.range_eq_range',List.range_eq_range',← h]
     rw[e2,List.filter_append]
     have e3:(List.range' k (ops.size-k)).filter (fun i=> !q i && ((ops[i]?).map (·.after.all fun e=> !Region.binds .any e || q e.on)).getD false)=[]:=by
      rw[List.filter_eq_nil_iff]
      intro i hi hc'
      have h1:=(hmem i).1 (List.mem_filter.2 ⟨by rw[e2];exact List.mem_append_right _ hi,hc'⟩)
      have h2:=List.mem_range.1 (List.mem_filter.1 h1).1
      have h3:=List.mem_range'.1 hi
      omega
     rw[e3,List.append_nil]
     refine List.filter_congr fun i hi=> ?_
     have h1:=hmem i
     rw[List.mem_filter,List.mem_filter]at h1
     have h2:i∈List.range ops.size:=List.mem_range.2 (by have:=List.mem_range.1 hi;omega)
     have h3:i∈List.range pre.size:=List.mem_range.2 (by have:=List.mem_range.1 hi;omega)
     rw[Bool.eq_iff_iff,decide_eq_true_eq,List.mem_filter]
     constructor
     ·intro h;exact h1.1 ⟨h2,h⟩
     ·intro h;exact(h1.2 h).2
    rw[e1]
    conv=>rhs;unfold readyL
    rw[hp]
    refine List.filter_congr fun i hi=> ?_
    rw[Bool.eq_iff_iff,decide_eq_true_eq]
    unfold readyL
    rw[List.mem_filter,hp]
    exact⟨fun h=>h.2,fun h=>⟨hi,h⟩⟩
   have hne:readyL pre p≠[]:=fun e=>by
    have:i0∈readyL pre p:=mem_readyL.2 ⟨by omega,hi0.2,fun e hem hb=>by
     rw[he i0 hi0.1 (by omega) (by omega)]at hem
     exact hmin _ (fwd_at hf (show i0<ops.size by omega) e hem hb)⟩
    rw[e]at this;cases this
   have hlen:0<(readyL pre p).length:=List.length_pos_iff.2 hne
   obtain⟨i,hi⟩:∃ i,(readyL pre p)[t % (readyL pre p).length]? =some i:=⟨_,List.getElem?_eq_getElem (Nat.mod_lt _ hlen)⟩
   have him:=List.mem_of_getElem? hi
   obtain⟨h1,h2,_⟩:=mem_readyL.1 him
   rw[show fuel+1+(ops.size-k)=(fuel+(ops.size-k))+1 by omega]
   simp only[pickL,hr,hi]
   rw[List.cons_append,ih (t / (readyL pre p).length) (fun j=>p j || Nat.beq i j) (fun j=>q j || Nat.beq i j) ?_ (fun j=> ?_)]
   ·have:=filter_lt' (fun i=> !p i) (fun j=> !(p j || Nat.beq i j)) (List.range k) (fun x _ hx=>by simp at hx ⊢;exact hx.1) ⟨i,List.mem_range.2 (by omega),by simp[h2],by simp[Nat.beq_refl]⟩
    omega
   ·rw[hq]
    by_cases hj:j<k
    ·rw[if_pos hj,if_pos hj]
    ·rw[if_neg hj,if_neg hj]
     have:Nat.beq i j=false:=by cases hb:Nat.beq i j with|false=>rfl|true=>have:=Nat.eq_of_beq_eq_true hb;omega
     rw[this,Bool.or_false]
end Go.Sx
namespace Go.Sx
open Go.RowKit
structure CI where
 d:Option Nat
 op:IOp
 g:Option (Nat×Bool)
structure CD where
 ix:Nat
 c:CI
 cf:List Nat
inductive SC where
 |skip
 |reg (l:List CI)
 |dreg (l:List CI)
 |mreg (als:List Nat) (l:List CD)
 |seq (a b:SC)
 |cond (c:Operand) (t e:SC)
 |block (id:Nat) (b:SC)
 |loop (b:SC)
 |exit (id:Nat)
 |ret
def compI(P:Program)[Glob P](N:Nat)(ops:Array Oper)(o:Oper):Option CI:=
 match compO P o,o.dst with
 |some iop,some t=>if t<N then
   match o.guard with
   |none=>some ⟨some t,iop,none⟩
   |some (j,want)=>match(ops[j]?).bind (·.dst)with
    |some u=>some ⟨some t,iop,some (u,want)⟩
    |none=>none
  else none
 |some iop,none=>
   match o.guard with
   |none=>some ⟨none,iop,none⟩
   |some (j,want)=>match(ops[j]?).bind (·.dst)with
    |some u=>some ⟨none,iop,some (u,want)⟩
    |none=>none
 |none,_=>none
def compL(P:Program)[Glob P](N:Nat)(ops:Array Oper):List Oper→Option (List CI)
 |[]=>some []
 |o::l=>match compI P N ops o with
  |some c=>(compL P N ops l).map (c::·)
  |none=>none
def IOp.opers:IOp→List Operand
 | .mv x| .box _ x| .load _ _ x| .nilck x| .un _ x| .cvint _ x| .cvstr x| .mkifc _ x| .faddr _ x| .field _ _ _ x| .extract x _| .len _ x=>[x]
 | .pick c a b=>[c,a,b]
 | .alloc _ _=>[]
 | .build _ ps=>ps.map (·.2.2)
 | .mksl _ _ ps=>ps
 | .store _ x y| .bin _ x y| .eqb _ _ x y| .eqs _ _ x y| .iaddr _ x y| .iaddrA _ _ x y| .idxs x y| .append _ _ _ _ x y| .max2 x y| .min2 x y=>[x,y]
 | .mkfn _ a b=>a++b
 | .slice _ x lo hi=>x::(lo.toList++hi.toList)
 | .call _ as=>as
 | .callv f as=>f::as
 | .extq _ _ _ as| .exts _ _ _ as=>as
def tmpsOf:List Operand→List Nat
 |[]=>[]
 | .tmp t::l=>t::tmpsOf l
 |_::l=>tmpsOf l
def CI.reads(c:CI):List Nat:=tmpsOf c.op.opers++(match c.g with|some (u,_)=>[u]|none=>[])
def posOf(t:Nat):List (Option Nat)→Nat→Option Nat
 |[],_=>none
 |x::l,k=>if x=some t then some k else posOf t l (k+1)
theorem posOf_some{t j:Nat}:∀ (l:List (Option Nat)) (k:Nat),posOf t l k=some j→∃ i,j=k+i∧l[i]? =some (some t)
 |[],k,h=>by cases h
 |x::l,k,h=>by
  simp only[posOf]at h
  split at h
  ·rename_i e;cases h;exact⟨0,rfl,by simp[e]⟩
  ·obtain⟨i,h1,h2⟩:=posOf_some l (k+1) h
   exact⟨i+1,by omega,by simpa using h2⟩
theorem posOf_none{t:Nat}:∀ (l:List (Option Nat)) (k:Nat),posOf t l k=none→some t∉l
 |[],k,h=>by simp
 |x::l,k,h=>by
  simp only[posOf]at h
  split at h
  ·cases h
  ·rename_i e
   have:=posOf_none l (k+1) h
   intro hm
   rcases List.mem_cons.1 hm with e'|hm
   ·exact e e'.symm
   ·exact this hm
def IOp.cls:IOp→Nat
 | .load .. =>1
 | .alloc .. | .box .. =>2
 | .store .. =>3
 | .append .. | .exts .. =>4
 |_=>0
def drawOK(ops:Array Oper)(l:List CI):Bool:=
 (l.map (·.d)).Nodup && l.all (fun c=>c.d.isSome && (Nat.ble c.op.cls 1 || (Nat.beq c.op.cls 4 && c.g.isNone))) &&
 (l.zip ops.toList).zipIdx.all fun((c,o),i)=>
  o.after.all (fun e=> !Region.binds .any e || decide (e.on<i)) &&
  c.reads.all fun t=>match posOf t (l.map (·.d)) 0 with
   |some j=>o.after.any fun e=>Region.binds .any e && e.on == j
   |none=>true
def pos4:List CI→Nat→Option Nat
 |[],_=>none
 |c::l,k=>bif Nat.beq c.op.cls 4 then some k else pos4 l (k+1)
theorem pos4_some{k:Nat}:∀ (l:List CI) (m:Nat),pos4 l m=some k→∃ i,∃ h:i<l.length,k=m+i∧l[i].op.cls=4∧∀ j,j<i→(hj:j<l.length)→l[j].op.cls≠4
 |[],m,h=>by cases h
 |c::l,m,h=>by
  simp only[pos4]at h
  cases e:Nat.beq c.op.cls 4 with
  |true=>rw[e]at h;cases h;exact⟨0,by simp,rfl,Nat.eq_of_beq_eq_true e,fun j hj=>absurd hj (by omega)⟩
  |false=>
   rw[e]at h
   obtain⟨i,h1,h2,h3,h4⟩:=pos4_some l (m+1) h
   refine⟨i+1,by simpa using h1,by omega,by simpa using h3,fun j hj hl=> ?_⟩
   cases j with
   |zero=>intro e2;have e2:c.op.cls=4:=e2;rw[e2]at e;cases e
   |succ j=>simpa using h4 j (by omega) (by simpa using hl)
def drawS(ops:Array Oper)(l:List CI):Bool:=match pos4 l 0 with
 |none=>false
 |some k=>
 (l.map (·.d)).Nodup && l.all (fun c=>c.d.isSome && (Nat.ble c.op.cls 1 || (Nat.beq c.op.cls 4 && c.g.isNone))) &&
 (l.zip ops.toList).zipIdx.all fun((c,o),i)=>
  o.after.all (fun e=> !Region.binds .any e || decide (e.on<i)) &&
  c.reads.all fun t=>match posOf t (l.map (·.d)) 0 with
   |some j=>(o.after.any fun e=>Region.binds .any e && e.on == j) || (Nat.ble i k && Nat.blt k j)
   |none=>true
def hasE(ops:Array Oper)(i j:Nat):Bool:=match ops[i]? with
 |some o=>o.after.any fun e=>Region.binds .any e && e.on == j
 |none=>false
def lateL(ops:Array Oper):List CI→Nat→List Nat→List Nat
 |[],_,acc=>acc
 |c::l,i,acc=>lateL ops l (i+1) (bif Nat.ble 2 c.op.cls || acc.any (hasE ops i)then i::acc else acc)
def ptrSlot:IOp→Option Nat
 | .store _ (.tmp s) _=>some s
 |_=>none
def isApp:IOp→Bool
 | .append .. =>true
 |_=>false
def alsOf(l:List CI):List Nat:=l.filterMap fun c=>bif Nat.beq c.op.cls 2 || isApp c.op then c.d else none
def defOf(s:Nat):List CI→Option IOp
 |[]=>none
 |c::l=>match c.d with
  |some d=>bif Nat.beq d s then some c.op else defOf s l
  |none=>defOf s l
def rootOf(l:List CI):Nat→Nat→Option Nat
 |0,_=>none
 |n+1,s=>match defOf s l with
  |none=>some s
  |some (.alloc ..)|some (.box ..)=>some s
  |some (.faddr _ (.tmp s'))|some (.nilck (.tmp s'))|some (.iaddrA _ _ (.tmp s') _)|some (.iaddr _ (.tmp s') _)|some (.mv (.tmp s'))=>rootOf l n s'
  |_=>none
def cfOf(ops:Array Oper)(l0:List CI)(i:Nat):List CI→Nat→List Nat
 |[],_=>[]
 |c::l,j=>match ptrSlot c.op with
  |some s=>bif hasE ops i j || hasE ops j i then cfOf ops l0 i l (j+1)else match rootOf l0 l0.length s with
   |some r=>bif (alsOf l0).elem r then cfOf ops l0 i l (j+1)else r::cfOf ops l0 i l (j+1)
   |none=>cfOf ops l0 i l (j+1)
  |none=>cfOf ops l0 i l (j+1)
def mkD(ops:Array Oper)(l:List CI)(i:Nat):Option CD:=
 match l[i]? with
 |some c=>some ⟨i,c,bif Nat.beq c.op.cls 1 then cfOf ops l i l 0 else match ptrSlot c.op with
  |some s=>(rootOf l l.length s).toList
  |none=>[]⟩
 |none=>none
def noD(d:Option Nat)(x:CD):Bool:=match d with
 |some d=> !x.c.reads.elem d && !x.cf.elem d
 |none=>true
def commD(als:List Nat)(a c:CD):Bool:=
 noD a.c.d c && noD c.c.d a && (a.c.d.isNone || decide (a.c.d≠c.c.d)) &&
 match a.c.op.cls,c.c.op.cls with
 |0,_=>true
 |1,0|1,1=>true
 |1,2=>(match c.c.d with|some d=>als.elem d|none=>false)
 |1,3=>(match c.cf with|[s]=>a.cf.elem s || als.elem s|_=>false)
 |1,4=>(match c.c.d with|some d=>als.elem d|none=>false)
 |2,2=>true
 |_,_=>false
def hasR(ops:Array Oper):Nat→Nat→Nat→Bool
 |0,i,j=>hasE ops i j
 |n+1,i,j=>hasE ops i j || (List.range ops.size).any fun b=>hasE ops i b && hasR ops n b j
def pairOK(ops:Array Oper)(als:List Nat):List CD→Bool
 |[]=>true
 |a::l=> !hasE ops a.ix a.ix && l.all (fun c=> !hasE ops a.ix c.ix && (hasE ops c.ix a.ix || commD als a c || (Nat.beq c.c.op.cls 4 && hasR ops 2 c.ix a.ix))) && pairOK ops als l
def oneOK(x:CD):Bool:=(Nat.ble x.c.op.cls 3 || isApp x.c.op) && (Nat.ble x.c.op.cls 1 || x.c.g.isNone) && (!Nat.beq x.c.op.cls 2 || x.c.d.isSome)
def many4(l:List CI):Bool:=Nat.ble 2 (l.filter fun c=>Nat.beq c.op.cls 4).length
def mixOK(ops:Array Oper)(als:List Nat)(ds:List CD):Bool:=
 decide ((ds.map (·.ix)).Nodup) && Nat.ble ds.length ops.size && (List.range ops.size).all (fun i=>ds.any fun x=>Nat.beq x.ix i) && ds.all oneOK && ops.all (fun o=>o.after.all fun e=> !Region.binds .any e || decide (e.on<ops.size)) && pairOK ops als ds
def mixL(ops:Array Oper)(l:List CI):List CD:=
 let late:=lateL ops l 0 []
 ((List.range l.length).filter (fun i=> !late.elem i)++(List.range l.length).filter (fun i=>late.elem i)).filterMap (mkD ops l)
theorem mixL_get{ops:Array Oper}{l:List CI}{x:CD}(h:x∈mixL ops l):l[x.ix]? =some x.c:=by
 unfold mixL at h
 obtain⟨i,_,hi⟩:=List.mem_filterMap.1 h
 unfold mkD at hi
 split at hi
 ·rename_i c hc;cases hi;exact hc
 ·cases hi
def tN(ops:Array Oper):Nat:=bif lastOK ops (ops.size-2)then 2 else 1
def preO(ops:Array Oper):Array Oper:=ops.extract 0 (ops.size-tN ops)
def sufO(ops:Array Oper):Array Oper:=ops.extract (ops.size-tN ops) ops.size
def tailOK(ops:Array Oper):Bool:=Nat.ble (tN ops) ops.size && fwdOK ops && fwdOK (preO ops) && lastOK ops (ops.size-tN ops) && (preO ops).all (fun o=>match o.guard with|some (j,_)=>Nat.blt j (ops.size-tN ops)|none=>true) && (sufO ops).all (fun o=>o.guard.isNone)
def compT(P:Program)[Glob P](N:Nat)(ops:Array Oper):Option SC:=
 match compL P N (preO ops) (preO ops).toList,compL P N (sufO ops) (sufO ops).toList with
 |some l1,some l2=>if tailOK ops=true∧((drawOK (preO ops) l1=true∨drawS (preO ops) l1=true)∧many4 l1=false)∧P.follows .mixedOrders=true then some (.seq (.dreg l1) (.reg l2))else none
 |_,_=>none
def compC(P:Program)[Glob P](N:Nat):Code→Option SC
 | .skip=>some .skip
 | .region _ ops false=>(compL P N ops ops.toList).map .reg
 | .region _ ops true=>match compL P N ops ops.toList with
  |some l=>if many4 l=true∧mixOK ops (alsOf l) (mixL ops l)∧P.follows .mixedOrders=true then some (.mreg (alsOf l) (mixL ops l))
    else if(drawOK ops l=true∨drawS ops l=true)∧P.follows .mixedOrders=true then some (.dreg l)
    else if mixOK ops (alsOf l) (mixL ops l)∧P.follows .mixedOrders=true then some (.mreg (alsOf l) (mixL ops l))else compT P N ops
  |none=>none
 | .seq a b=>match compC P N a,compC P N b with
  |some a,some b=>some (.seq a b)
  |_,_=>none
 | .cond c t e=>match compC P N t,compC P N e with
  |some t,some e=>some (.cond c t e)
  |_,_=>none
 | .block id b=>(compC P N b).map (.block id)
 | .loop b=>(compC P N b).map .loop
 | .exit id=>some (.exit id)
 | .ret=>some .ret
 |_=>none
def conc(P:Program)[Glob P](M:Mem)(w0:World)(N:Nat)(Q:Exit→Regs→Store→Prop):Exit→Act→World→Prop:=fun e a w=>
 ∃ M' rg σ,M.le M'∧Inv P M' w0 σ w∧RegsOK M' rg a∧a.tmps.size=N∧a.defers=[]∧Q e rg σ
def cwp(P:Program)(c:Code)(Q:Exit→Act→World→Prop)(a:Act)(w:World):Prop:=match c with
 | .region _ ops true=>P.follows .mixedOrders=true∧∀ t,wpOps P ops Q (Region.linearise .any ops t) a {w with drawn:=w.drawn+1}
 | .region _ ops false=>wpOps P ops Q (List.range ops.size) a w
 |c=>c.wp P Q a w
theorem cwp_wp{P:Program}{c:Code}{Q:Exit→Act→World→Prop}{a:Act}{w:World}(h:cwp P c Q a w):c.wp P Q a w:=by
 unfold cwp at h
 split at h
 ·refine wp_region_draw fun t=> ?_
  simp only[Region.schedule,h.1,Bool.true_or,if_true]
  exact h.2 t
 ·exact wp_region h
 ·exact h
theorem cwp_any{P:Program}{id:Nat}{ops:Array Oper}{Q:Exit→Act→World→Prop}{a:Act}{w:World}(hm:P.follows .mixedOrders=true)(h:wpAny P .any ops Q ops.size (Array.replicate ops.size false) a {w with drawn:=w.drawn+1}):cwp P (.region id ops true) Q a w:=
 ⟨hm,fun t=>wpAny_sound ops.size t _ a _ h⟩
def SW(P:Program)[Glob P](N:Nat)(s:SC)(Q:Exit→Regs→Store→Prop)(rg:Regs)(σ:Store):Prop:=
 ∀ c,compC P N c=some s→∀ (M:Mem) (w0:World) (a:Act) (w:World),Inv P M w0 σ w→RegsOK M rg a→a.tmps.size=N→a.defers=[]→cwp P c (conc P M w0 N Q) a w
def vcG(P:Program)[Glob P](cfg:Nat→Nat)(c:CI)(K:AV→Store→Prop)(E:List PanicEntry→Store→Prop)(rg:Regs)(σ:Store):Prop:=
 match c.g with
 |none=>vcO P cfg c.d rg σ K E c.op
 |some (t,want)=>match lk rg t with
  | .v (.bool b)=>(b=want→vcO P cfg c.d rg σ K E c.op)∧(b= !want→K (.v undef) σ)
  | .v (.tuple _)=>K (.v undef) σ
  |_=>False
def Gd(b want:Bool)(X Y:Prop):Prop:=(b=want→X)∧(b= !want→Y)
theorem Gd.l{b want:Bool}{X Y:Prop}(h:Gd b want X Y):b=want→X:=h.1
theorem Gd.r{b want:Bool}{X Y:Prop}(h:Gd b want X Y):b= !want→Y:=h.2
def vcL(P:Program)[Glob P](cfg:Nat→Nat):List CI→(K:Regs→Store→Prop)→(E:List PanicEntry→Store→Prop)→Regs→Store→Prop
 |[],K,_,rg,σ=>K rg σ
 |c::l,K,E,rg,σ=>match c.g with
  |none=>vcO P cfg c.d rg σ (fun x σ'=>vcL P cfg l K E (putR c.d x rg) σ') E c.op
  |some (t,want)=>match lk rg t with
   | .v (.bool b)=>Gd b want (vcO P cfg c.d ((t,.v (.bool want))::rg) σ (fun x σ'=>vcL P cfg l K E (putR c.d x ((t,.v (.bool want))::rg)) σ') E c.op)
     (vcL P cfg l K E (putR c.d (.v undef) ((t,.v (.bool !want))::rg)) σ)
   | .v (.tuple _)=>vcL P cfg l K E (putR c.d (.v undef) rg) σ
   |_=>False
theorem lk_self{rg:Regs}{t:Nat}{x:AV}(h:lk rg t=x)(i:Nat):lk ((t,x)::rg) i=lk rg i:=by
 simp only[lk]
 cases hb:Nat.beq t i with
 |true=>rw[← Nat.eq_of_beq_eq_true hb,h];rfl
 |false=>rfl
theorem vcL_guard{P:Program}[Glob P]{cfg:Nat→Nat}{c:CI}{l:List CI}{K:Regs→Store→Prop}{E:List PanicEntry→Store→Prop}{rg:Regs}{σ:Store}(h:vcL P cfg (c::l) K E rg σ):
  ∃ rg',(∀ i,lk rg' i=lk rg i)∧vcG P cfg c (fun x σ'=>vcL P cfg l K E (putR c.d x rg') σ') E rg' σ:=by
 simp only[vcL]at h
 split at h
 ·rename_i hg
  exact⟨rg,fun _=>rfl,by unfold vcG;rw[hg];exact h⟩
 ·rename_i t want hg
  split at h
  ·rename_i b hb
   by_cases hbw:b=want
   ·subst hbw
    have e:lk ((t,AV.v (.bool b))::rg) t= .v (.bool b):=by simp[lk,Nat.beq_refl]
    refine⟨_,lk_self hb,?_⟩
    unfold vcG
    rw[hg]
    simp only[e]
    exact⟨fun _=>h.l rfl,fun h'=>by cases b<;>simp at h'⟩
   ·have hb':b= !want:=by cases b<;>cases want<;>simp_all
    subst hb'
    have e:lk ((t,AV.v (.bool !want))::rg) t= .v (.bool !want):=by simp[lk,Nat.beq_refl]
    refine⟨_,lk_self hb,?_⟩
    unfold vcG
    rw[hg]
    simp only[e]
    exact⟨fun h'=>absurd h' hbw,fun _=>h.r rfl⟩
  ·rename_i vs hb
   exact⟨rg,fun _=>rfl,by unfold vcG;rw[hg];simp only[hb];exact h⟩
  ·exact h.elim
section
variable {P:Program}[Glob P]{M:Mem}{w0 w:World}{σ:Store}{rg:Regs}{a:Act}{cfg:Nat→Nat}{N:Nat}
theorem guard_sound{ops:Array Oper}{o:Oper}{c:CI}(hc:compI P N ops o=some c){K:AV→Store→Prop}{E:List PanicEntry→Store→Prop}(h:vcG P cfg c K E rg σ)(hI:Inv P M w0 σ w)(hR:RegsOK M rg a)
  {next:Act→World→Prop} {Q:Exit→Act→World→Prop} (hg:Goes P M w0 w K E o a next Q):
  if Region.wanted o (yielded ops a.tmps)then o.wp P a w next Q∨(o.asks P a w∧LetsOut Q)else next (a.put o.dst undef) w:=by
 obtain⟨iop,hiop,hd,hop,hgd⟩:∃ iop,compO P o=some iop∧c.d=o.dst∧c.op=iop∧((o.guard=none∧c.g=none)∨∃ j want u,o.guard=some (j,want)∧(ops[j]?).bind (·.dst)=some u∧c.g=some (u,want)):=by
  unfold compI at hc
  split at hc
  ·rename_i iop t hi hd
   split at hc
   ·split at hc
    ·rename_i hgn;cases hc;exact⟨iop,hi,hd.symm,rfl,.inl ⟨hgn,rfl⟩⟩
    ·rename_i j want hgs
     split at hc
     ·rename_i u hu;cases hc;exact⟨iop,hi,hd.symm,rfl,.inr ⟨j,want,u,hgs,hu,rfl⟩⟩
     ·cases hc
   ·cases hc
  ·rename_i iop hi hd
   split at hc
   ·rename_i hgn;cases hc;exact⟨iop,hi,hd.symm,rfl,.inl ⟨hgn,rfl⟩⟩
   ·rename_i j want hgs
    split at hc
    ·rename_i u hu;cases hc;exact⟨iop,hi,hd.symm,rfl,.inr ⟨j,want,u,hgs,hu,rfl⟩⟩
    ·cases hc
  ·cases hc
 have run:vcO P cfg c.d rg σ K E c.op→o.wp P a w next Q:=fun h=>compO_sound (cfg:=cfg) (d:=c.d) hiop (by rw[← hop];exact h) hI hR hg
 have skp:K (.v undef) σ→next (a.put o.dst undef) w:=fun h=>hg.val M _ σ undef w (Mem.le.refl _) hI (.v _) h
 unfold vcG at h
 rcases hgd with⟨h1,h2⟩|⟨j,want,u,h1,h2,h3⟩
 ·rw[h2]at h
  simp only[Region.wanted,h1,if_true]
  exact .inl (run h)
 ·rw[h3]at h
  simp only at h
  have hy:yielded ops a.tmps j=match a.tmps[u]? with
   |some (.bool b)=>some b
   |_=>none:=by unfold yielded;rw[h2];rfl
  have hu:=hR u
  split at h
  ·rename_i b hb
   rw[hb]at hu
   have hv:=hu.of_v
   have ht:a.tmps[u]? =some (.bool b):=by
    rw[Array.getD_eq_getD_getElem?]at hv
    cases he:a.tmps[u]? with
    |none=>rw[he]at hv;simp[undef]at hv
    |some y=>rw[he]at hv;simp at hv;rw[hv]
   have hyy:yielded ops a.tmps j=some b:=by rw[hy,ht]
   simp only[Region.wanted,h1,hyy]
   by_cases hbw:b=want
   ·subst hbw
    simp only[beq_self_eq_true,if_true]
    exact .inl (run (h.1 rfl))
   ·have:(some b == some want)=false:=by simp[hbw]
    simp only[this,Bool.false_eq_true,if_false]
    exact skp (h.2 (by cases b<;>cases want<;>simp_all))
  ·rename_i vs hb
   rw[hb]at hu
   have hv:=hu.of_v
   have hyy:yielded ops a.tmps j=none:=by
    rw[hy]
    rw[Array.getD_eq_getD_getElem?]at hv
    cases he:a.tmps[u]? with
    |none=>rfl
    |some y=>rw[he]at hv;simp at hv;rw[hv]
   simp only[Region.wanted,h1,hyy]
   have:((none:Option Bool) == some want)=false:=rfl
   simp only[this,Bool.false_eq_true,if_false]
   exact skp h
  ·exact h.elim
theorem compI_lt{ops:Array Oper}{o:Oper}{c:CI}(hc:compI P N ops o=some c):c.d=o.dst∧∀ t,c.d=some t→t<N:=by
 unfold compI at hc
 split at hc
 ·rename_i iop t hi hd
  split at hc
  ·rename_i hlt
   split at hc
   ·cases hc;exact⟨hd.symm,fun u hu=>by cases hu;exact hlt⟩
   ·split at hc
    ·cases hc;exact⟨hd.symm,fun u hu=>by cases hu;exact hlt⟩
    ·cases hc
  ·cases hc
 ·rename_i iop hi hd
  split at hc
  ·cases hc;exact⟨hd.symm,fun u hu=>by cases hu⟩
  ·split at hc
   ·cases hc;exact⟨hd.symm,fun u hu=>by cases hu⟩
   ·cases hc
 ·cases hc
theorem vcL_sound(ops:Array Oper){Q:Exit→Regs→Store→Prop}{K:Regs→Store→Prop}(hK:∀ rg σ,K rg σ→Q .normal rg σ):
  ∀ (os:List Oper) (k:Nat) (l:List CI),compL P N ops os=some l→(∀ i,i<os.length→ops[k+i]? =os[i]?)→
  ∀ (M:Mem) (w0 w:World) (a:Act) (rg:Regs) (σ:Store),vcL P cfg l K (fun ch σ'=>Q (.panic ch) [] σ') rg σ→Inv P M w0 σ w→RegsOK M rg a→a.tmps.size=N→a.defers=[]→
   wpOps P ops (conc P M w0 N Q) (List.range' k os.length) a w
 |[],k,l,hl,_,M,w0,w,a,rg,σ,h,hI,hR,hN,hD=>by
  simp only[compL,Option.some.injEq]at hl
  subst hl
  exact⟨M,rg,σ,Mem.le.refl _,hI,hR,hN,hD,hK rg σ h⟩
 |o::os,k,l,hl,ho,M,w0,w,a,rg,σ,h,hI,hR,hN,hD=>by
  simp only[compL]at hl
  split at hl
  ·rename_i c hc
   obtain⟨l',hl',rfl⟩:=Option.map_eq_some_iff.1 hl
   have ho0:ops[k]? =some o:=by simpa using ho 0 (by simp)
   obtain⟨rg',hrg,h⟩:=vcL_guard h
   replace hR:RegsOK M rg' a:=fun i=>by rw[hrg];exact hR i
   obtain⟨hdst,hlt⟩:=compI_lt hc
   simp only[List.length_cons,List.range'_succ,wpOps,ho0]
   refine guard_sound hc h hI hR ⟨fun M' x σ' v w' hM hI' hx hk=> ?_,fun M' ch σ' w' hM hI' hk=> ?_⟩
   ·have ih:=vcL_sound ops hK os (k+1) l' hl' (fun i hi=>by have:=ho (i+1) (by simpa using hi);rw[show k+1+i=k+(i+1)from by omega];simpa using this) M' w0 w' (a.put o.dst v) (putR c.d x rg') σ' hk hI'
     (by rw[hdst];exact(hR.mono hM).put o.dst (fun t ht=>by rw[hN];exact hlt t (hdst.trans ht)) hx) (by rw[Act.size_put];exact hN) (by rw[Act.defers_put];exact hD)
    refine wpOps_le ?_ _ _ _ ih
    rintro e a2 w2 ⟨M2,rg2,σ2,h1,h2⟩
    exact⟨M2,rg2,σ2,hM.trans h1,h2⟩
   ·exact⟨M',[],σ',hM,hI',fun i=> .any _,hN,hD,hk⟩
  ·cases hl
where
 wpOps_le {ops:Array Oper} {Q Q':Exit→Act→World→Prop} (h:∀ e a w,Q e a w→Q' e a w):∀ (is:List Nat) (a:Act) (w:World),wpOps P ops Q is a w→wpOps P ops Q' is a w
 |[],a,w,hq=>h _ _ _ hq
 |i::is,a,w,hq=>by
  rw[wpOps_cons]at hq ⊢
  unfold wpOp at hq ⊢
  split
  ·rename_i e;rw[e]at hq;exact wpOps_le h is a w hq
  ·rename_i o e
   rw[e]at hq
   simp only at hq
   split
   ·rename_i hw
    rw[if_pos hw]at hq
    refine hq.imp (fun hh=> ?_) (fun⟨x,y⟩=>⟨x,y.elim fun a h'=>h'.elim fun w h''=>⟨a,w,h _ _ _ h''⟩⟩)
    have h1:=Oper.wp_mono (K':=wpOps P ops Q' is) (fun a w=>wpOps_le h is a w) hh
    unfold Oper.wp at h1 ⊢
    generalize (execOp a.eval o).run P w=r at h1
    cases r with
    |ok n w'=>
     cases n<;>simp only[Oper.upon]at h1 ⊢<;>first
      |exact h1
      |exact Calls.mono h1 (fun e w'' he=>by cases e<;>first|exact he|exact h _ _ _ he|exact he.elim fun a h'=>h'.elim fun w h''=>⟨a,w,h _ _ _ h''⟩)
    |halt x w'=>cases x<;>simp only[Oper.upon]at h1 ⊢<;>first|exact h1|exact h _ _ _ h1
   ·rename_i hw
    rw[if_neg hw]at hq
    exact wpOps_le h is _ _ hq
theorem cwp_mono{c:Code}{Q Q':Exit→Act→World→Prop}(h:cwp P c Q a w)(hq:∀ e a w,Q e a w→Q' e a w):cwp P c Q' a w:=by
 unfold cwp at h ⊢
 split
 ·exact⟨h.1,fun t=>vcL_sound.wpOps_le hq _ _ _ (h.2 t)⟩
 ·exact vcL_sound.wpOps_le hq _ _ _ h
 ·rename_i h1 h2
  have h':c.wp P Q a w:=by
   split at h
   ·exact absurd rfl (h1 _ _)
   ·exact absurd rfl (h2 _ _)
   ·exact h
  exact wp_mono h' hq
theorem wpOps_tr{ops ops':Array Oper}{Q:Exit→Act→World→Prop}(f:Nat→Nat)(L2:List Nat):∀ (L:List Nat),(∀ i∈L,ops'[i]? =ops[f i]?∧∀ o,ops'[i]? =some o→∀ tmps,Region.wanted o (yielded ops' tmps)=Region.wanted o (yielded ops tmps))→∀ (a:Act) (w:World),
  wpOps P ops' (Exit.then (wpOps P ops Q L2) Q) L a w→wpOps P ops Q (L.map f++L2) a w
 |[],_,a,w,h=>h
 |i::L,hL,a,w,h=>by
  have ih:=wpOps_tr (ops:=ops) (ops':=ops') (Q:=Q) f L2 L (fun j hj=>hL j (List.mem_cons_of_mem _ hj))
  obtain⟨h1,h2⟩:=hL i List.mem_cons_self
  rw[List.map_cons,List.cons_append,wpOps_cons]
  rw[wpOps_cons]at h
  unfold wpOp at h ⊢
  rw[← h1]
  split
  ·rename_i e;rw[e]at h;exact ih a w h
  ·rename_i o e
   rw[e]at h
   simp only at h
   rw[← h2 o e]
   split
   ·rename_i hw
    rw[if_pos hw]at h
    refine h.imp (fun hh=> ?_) (fun⟨x,y⟩=>⟨x,y⟩)
    have h3:=Oper.wp_mono (K':=wpOps P ops Q (L.map f++L2)) (fun a w=>ih a w) hh
    unfold Oper.wp at h3 ⊢
    generalize (execOp a.eval o).run P w=r at h3
    cases r with
    |ok n w'=>
     cases n<;>simp only[Oper.upon]at h3 ⊢<;>first
      |exact h3
      |exact Calls.mono h3 (fun e w'' he=>by cases e<;>exact he)
    |halt x w'=>cases x<;>simp only[Oper.upon]at h3 ⊢<;>exact h3
   ·rename_i hw
    rw[if_neg hw]at h
    exact ih _ _ h
theorem wanted_congr{o:Oper}{ops ops':Array Oper}(h:∀ j want,o.guard=some (j,want)→ops'[j]? =ops[j]?)(tmps:Array Value):Region.wanted o (yielded ops' tmps)=Region.wanted o (yielded ops tmps):=by
 unfold Region.wanted
 cases hg:o.guard with
 |none=>rfl
 |some g=>
  obtain⟨j,want⟩:=g
  simp only[yielded,h j want hg]
theorem conc_le{M M':Mem}(h:M.le M'){Q:Exit→Regs→Store→Prop}{e:Exit}{a:Act}{w:World}:conc P M' w0 N Q e a w→conc P M w0 N Q e a w:=
 fun⟨M2,rg2,σ2,h1,h2⟩=>⟨M2,rg2,σ2,h.trans h1,h2⟩
theorem SW.mono{s:SC}{Q Q':Exit→Regs→Store→Prop}(h:SW P N s Q rg σ)(hq:∀ e rg σ,Q e rg σ→Q' e rg σ):SW P N s Q' rg σ:=
 fun c hc M w0 a w hI hR hN hD=>cwp_mono (h c hc M w0 a w hI hR hN hD) fun _ _ _ ⟨M2,rg2,σ2,h1,h2,h3,h4,h5,h6⟩=>⟨M2,rg2,σ2,h1,h2,h3,h4,h5,hq _ _ _ h6⟩
theorem SW.filt(l:List Nat){s:SC}{Q:Exit→Regs→Store→Prop}(h:SW P N s Q (filt l rg) σ):SW P N s Q rg σ:=
 fun c hc M w0 a w hI hR hN hD=>h c hc M w0 a w hI (hR.filt l) hN hD
def thenQ(K:Regs→Store→Prop)(Q:Exit→Regs→Store→Prop):Exit→Regs→Store→Prop
 | .normal,rg,σ=>K rg σ
 |e,rg,σ=>Q e rg σ
def blockQ(id:Nat)(Q:Exit→Regs→Store→Prop):Exit→Regs→Store→Prop
 | .exit id',rg,σ=>if id'=id then Q .normal rg σ else Q (.exit id') rg σ
 |e,rg,σ=>Q e rg σ
def Inverse(P:Program)[Glob P](N:Nat)(c:Code):SC→Prop
 | .skip=>c= .skip
 | .reg l=>∃ id ops,c= .region id ops false∧compL P N ops ops.toList=some l
 | .dreg l=>∃ id ops,c= .region id ops true∧compL P N ops ops.toList=some l∧(drawOK ops l=true∨drawS ops l=true)∧P.follows .mixedOrders=true
 | .mreg als ds=>∃ id ops l,c= .region id ops true∧compL P N ops ops.toList=some l∧(∀ x∈ds,l[x.ix]? =some x.c)∧mixOK ops als ds=true∧P.follows .mixedOrders=true
 | .seq a b=>(∃ ca cb,c= .seq ca cb∧compC P N ca=some a∧compC P N cb=some b)∨
   ∃ id ops l1 l2,c= .region id ops true∧a= .dreg l1∧b= .reg l2∧compL P N (preO ops) (preO ops).toList=some l1∧compL P N (sufO ops) (sufO ops).toList=some l2∧tailOK ops=true∧((drawOK (preO ops) l1=true∨drawS (preO ops) l1=true)∧many4 l1=false)∧P.follows .mixedOrders=true
 | .cond x a b=>∃ ca cb,c= .cond x ca cb∧compC P N ca=some a∧compC P N cb=some b
 | .block id b=>∃ cb,c= .block id cb∧compC P N cb=some b
 | .loop b=>∃ cb,c= .loop cb∧compC P N cb=some b
 | .exit id=>c= .exit id
 | .ret=>c= .ret
theorem compC_inv{c:Code}{s:SC}(h:compC P N c=some s):Inverse P N c s:=by
 cases c with
 |skip=>simp only[compC,Option.some.injEq]at h;subst h;rfl
 |region id ops draw=>
  cases draw with
  |false=>
   simp only[compC]at h
   obtain⟨l,h1,rfl⟩:=Option.map_eq_some_iff.1 h
   exact⟨id,ops,rfl,h1⟩
  |true=>
   simp only[compC]at h
   split at h
   ·rename_i l hl
    split at h
    ·rename_i hd;cases h;exact⟨id,ops,l,rfl,hl,fun x hx=>mixL_get hx,hd.2.1,hd.2.2⟩
    split at h
    ·rename_i hd;cases h;exact⟨id,ops,rfl,hl,hd.1,hd.2⟩
    ·split at h
     ·rename_i hd;cases h;exact⟨id,ops,l,rfl,hl,fun x hx=>mixL_get hx,hd.1,hd.2⟩
     ·unfold compT at h
      split at h
      ·rename_i l1 l2 e1 e2
       split at h
       ·rename_i hd;cases h;exact .inr ⟨id,ops,l1,l2,rfl,rfl,rfl,e1,e2,hd.1,hd.2.1,hd.2.2⟩
       ·cases h
      ·cases h
   ·cases h
 |seq a b=>
  simp only[compC]at h
  split at h
  ·rename_i x y h1 h2;cases h;exact .inl ⟨a,b,rfl,h1,h2⟩
  ·cases h
 |cond x a b=>
  simp only[compC]at h
  split at h
  ·rename_i x y h1 h2;cases h;exact⟨a,b,rfl,h1,h2⟩
  ·cases h
 |block id b=>
  simp only[compC]at h
  obtain⟨l,h1,rfl⟩:=Option.map_eq_some_iff.1 h
  exact⟨b,rfl,h1⟩
 |loop b=>
  simp only[compC]at h
  obtain⟨l,h1,rfl⟩:=Option.map_eq_some_iff.1 h
  exact⟨b,rfl,h1⟩
 |exit id=>simp only[compC,Option.some.injEq]at h;subst h;rfl
 |ret=>simp only[compC,Option.some.injEq]at h;subst h;rfl
 |_=>simp[compC]at h
theorem SW_reg{l:List CI}{Q:Exit→Regs→Store→Prop}(cfg:Nat→Nat)(h:vcL P cfg l (Q .normal) (fun ch σ'=>Q (.panic ch) [] σ') rg σ):SW P N (.reg l) Q rg σ:=by
 intro c hc M w0 a w hI hR hN hD
 obtain⟨id,ops,rfl,hl⟩:=compC_inv hc
 show wpOps _ _ _ _ _ _
 have:=vcL_sound (P:=P) (N:=N) (cfg:=cfg) ops (Q:=Q) (K:=Q .normal) (fun _ _ h=>h) ops.toList 0 l hl (fun i hi=>by simp) M w0 w a rg σ h hI hR hN hD
 rw[List.range_eq_range']
 simpa using this
theorem SW_seq{x y:SC}{Q:Exit→Regs→Store→Prop}(h:SW P N x (thenQ (SW P N y Q) Q) rg σ):SW P N (.seq x y) Q rg σ:=by
 intro c hc M w0 a w hI hR hN hD
 rcases compC_inv hc with⟨ca,cb,rfl,h1,h2⟩|⟨id,ops,l1,l2,rfl,rfl,rfl,e1,e2,hT,hd,hfol⟩
 ·refine wp_seq (wp_mono (cwp_wp (h ca h1 M w0 a w hI hR hN hD)) ?_)
  rintro e a2 w2 ⟨M2,rg2,σ2,g1,g2,g3,g4,g5,g6⟩
  cases e with
  |normal=>
   refine wp_mono (cwp_wp (g6 cb h2 M2 w0 a2 w2 g2 g3 g4 g5)) ?_
   intro e a3 w3 hh
   exact conc_le g1 hh
  |_=>exact⟨M2,rg2,σ2,g1,g2,g3,g4,g5,g6⟩
 ·unfold tailOK at hT
  simp only[Bool.and_eq_true]at hT
  obtain⟨⟨⟨⟨⟨hk2,hf⟩,hfp⟩,hl⟩,hgp⟩,hgs⟩:=hT
  have hk2:=Nat.le_of_ble_eq_true hk2
  have hps:(preO ops).size=ops.size-tN ops:=by unfold preO;rw[Array.size_extract];omega
  have hss:(sufO ops).size=tN ops:=by unfold sufO;rw[Array.size_extract];omega
  have hpe:∀ i,i<ops.size-tN ops→(preO ops)[i]? =ops[i]? :=fun i hi=>by
   unfold preO;rw[Array.getElem?_extract,if_pos (by omega)];simp
  have hc1:compC P N (.region id (preO ops) true)=some (.dreg l1):=by
   simp only[compC,e1]
   rw[if_neg (fun h=>by rw[hd.2]at h;exact nomatch h.1),if_pos ⟨hd.1,hfol⟩]
  have hc2:compC P N (.region id (sufO ops) false)=some (.reg l2):=by simp only[compC,e2];rfl
  refine⟨hfol,fun t=> ?_⟩
  have hrun:=(h _ hc1 M w0 a w hI hR hN hD).2 t
  rw[linearise_pick _ hfp,hps]at hrun
  have e0:Region.linearise .any ops t=pickL (preO ops) (ops.size-tN ops) t (fun i=> !Nat.blt i (ops.size-tN ops))++List.range' (ops.size-tN ops) (ops.size-(ops.size-tN ops)):=by
   rw[linearise_pick _ hf]
   have:=pickL_split hf hl hps (fun i h h' h''=>by
    have:=hpe i h
    rw[Array.getElem?_eq_getElem h'',Array.getElem?_eq_getElem h']at this
    exact Option.some.inj this) (ops.size-tN ops) t (fun i=> !Nat.blt i (ops.size-tN ops)) (fun i=> !Nat.blt i ops.size) (Nat.le_trans (List.length_filter_le _ _) (by simp)) (fun i=>by
     by_cases hi:i<ops.size-tN ops
     ·have a1:Nat.blt i (ops.size-tN ops)=true:=by rw[Nat.blt_eq];exact hi
      have a2:Nat.blt i ops.size=true:=by rw[Nat.blt_eq];omega
      rw[if_pos hi,a1,a2]
     ·rw[if_neg hi])
   rwa [show ops.size-tN ops+(ops.size-(ops.size-tN ops))=ops.size by omega]at this
  rw[e0]
  have hL:∀ i∈pickL (preO ops) (ops.size-tN ops) t (fun i=> !Nat.blt i (ops.size-tN ops)),i<ops.size-tN ops:=fun i hi=>by
   rw[← hps];exact pickL_lt _ _ _ _ hi
  have key:=wpOps_tr (P:=P) (ops:=ops) (ops':=preO ops) (Q:=conc P M w0 N Q) (fun i=>i) (List.range' (ops.size-tN ops) (ops.size-(ops.size-tN ops))) (pickL (preO ops) (ops.size-tN ops) t (fun i=> !Nat.blt i (ops.size-tN ops))) (fun i hi=>⟨hpe i (hL i hi),fun o ho tmps=>wanted_congr (fun j want hg=>hpe j (by
   have hm:=Array.mem_of_getElem? ho
   have:=Array.all_eq_true_iff_forall_mem.1 hgp o hm
   rw[hg]at this
   simpa only[Nat.blt_eq]using this)) tmps⟩) a _ (vcL_sound.wpOps_le ?_ _ _ _ hrun)
  ·rw[List.map_id'']at key
   ·exact key
   ·exact fun _=>rfl
  ·rintro e a2 w2 ⟨M2,rg2,σ2,g1,g2,g3,g4,g5,g6⟩
   cases e with
   |normal=>
    have hrun2:wpOps P (sufO ops) (conc P M2 w0 N Q) (List.range (sufO ops).size) a2 w2:=g6 _ hc2 M2 w0 a2 w2 g2 g3 g4 g5
    rw[hss]at hrun2
    have key2:=wpOps_tr (P:=P) (ops:=ops) (ops':=sufO ops) (Q:=conc P M w0 N Q) (fun i=>ops.size-tN ops+i) [] (List.range (tN ops)) (fun i hi=>⟨by
     have:=List.mem_range.1 hi
     unfold sufO;rw[Array.getElem?_extract,if_pos (by omega)],fun o ho tmps=>by
     have hm:=Array.mem_of_getElem? ho
     have:=Array.all_eq_true_iff_forall_mem.1 hgs o hm
     simp only[Option.isNone_iff_eq_none]at this
     simp[Region.wanted,this]⟩) a2 w2 (vcL_sound.wpOps_le (fun e a3 w3 hh=>by cases e<;>exact conc_le g1 hh) _ _ _ hrun2)
    rw[List.append_nil]at key2
    rw[show ops.size-(ops.size-tN ops)=tN ops by omega]
    show wpOps P ops _ _ a2 w2
    have e3:(List.range (tN ops)).map (fun i=>ops.size-tN ops+i)=List.range' (ops.size-tN ops) (tN ops):=by rw[List.range'_eq_map_range]
    rw[← e3];exact key2
   |_=>exact⟨M2,rg2,σ2,g1,g2,g3,g4,g5,g6⟩
theorem SW_skip{Q:Exit→Regs→Store→Prop}(h:Q .normal rg σ):SW P N .skip Q rg σ:=by
 intro c hc M w0 a w hI hR hN hD
 obtain rfl:=compC_inv hc
 exact wp_skip ⟨M,rg,σ,Mem.le.refl _,hI,hR,hN,hD,h⟩
theorem SW_ret{Q:Exit→Regs→Store→Prop}(h:Q .ret rg σ):SW P N .ret Q rg σ:=by
 intro c hc M w0 a w hI hR hN hD
 obtain rfl:=compC_inv hc
 exact wp_ret ⟨M,rg,σ,Mem.le.refl _,hI,hR,hN,hD,h⟩
theorem SW_exit{id:Nat}{Q:Exit→Regs→Store→Prop}(h:Q (.exit id) rg σ):SW P N (.exit id) Q rg σ:=by
 intro c hc M w0 a w hI hR hN hD
 obtain rfl:=compC_inv hc
 exact wp_exit ⟨M,rg,σ,Mem.le.refl _,hI,hR,hN,hD,h⟩
theorem SW_cond{x:Operand}{s t:SC}{Q:Exit→Regs→Store→Prop}{b:Bool}(hx:ev rg x= .v (.bool b))(h1:b=true→SW P N s Q rg σ)(h2:b=false→SW P N t Q rg σ):SW P N (.cond x s t) Q rg σ:=by
 intro c hc M w0 a w hI hR hN hD
 obtain⟨ca,cb,rfl,g1,g2⟩:=compC_inv hc
 have he:=hR.ev x
 rw[hx]at he
 exact wp_cond_split he.of_v (fun hb=>cwp_wp (h1 hb _ g1 M w0 a w hI hR hN hD)) (fun hb=>cwp_wp (h2 hb _ g2 M w0 a w hI hR hN hD))
theorem SW_block{id:Nat}{s:SC}{Q:Exit→Regs→Store→Prop}(h:SW P N s (blockQ id Q) rg σ):SW P N (.block id s) Q rg σ:=by
 intro c hc M w0 a w hI hR hN hD
 obtain⟨cb,rfl,h1⟩:=compC_inv hc
 refine wp_block (wp_mono (cwp_wp (h _ h1 M w0 a w hI hR hN hD)) ?_)
 rintro e a2 w2 ⟨M2,rg2,σ2,g1,g2,g3,g4,g5,g6⟩
 cases e with
 |exit id'=>
  simp only[blockQ]at g6
  simp only[Exit.inBlock]
  split
  ·rename_i e;rw[if_pos e]at g6;exact⟨M2,rg2,σ2,g1,g2,g3,g4,g5,g6⟩
  ·rename_i e;rw[if_neg e]at g6;exact⟨M2,rg2,σ2,g1,g2,g3,g4,g5,g6⟩
 |_=>exact⟨M2,rg2,σ2,g1,g2,g3,g4,g5,g6⟩
theorem SW_loop{s:SC}{Q:Exit→Regs→Store→Prop}(I:Nat→Regs→Store→Prop)(n:Nat)(h0:I n rg σ)(h:∀ n rg σ,I n rg σ→SW P N s (thenQ (fun rg' σ'=>∃ n',n'<n∧I n' rg' σ') Q) rg σ):SW P N (.loop s) Q rg σ:=by
 intro c hc M w0 a w hI hR hN hD
 obtain⟨cb,rfl,hs'⟩:=compC_inv hc
 have key:∀ (m:Nat) (a:Act) (w:World),(∃ M2 rg2 σ2,M.le M2∧Inv P M2 w0 σ2 w∧RegsOK M2 rg2 a∧a.tmps.size=N∧a.defers=[]∧I m rg2 σ2)→
   ∀ (b:Frame) (k:List Item) (cs:List Frame),∃ e a' w',conc P M w0 N Q e a' w'∧Arrives P (lone (b.at a (.code cb:: .inLoop cb::k)) cs w) b k cs e a' w':=by
  intro m
  induction m using Nat.strongRecOn with
  |_ m ih=>
   rintro a w ⟨M2,rg2,σ2,g1,g2,g3,g4,g5,g6⟩ b k cs
   obtain⟨e,a',w',hq,harr⟩:=cwp_wp (h m rg2 σ2 g6 cb hs' M2 w0 a w g2 g3 g4 g5) b (.inLoop cb::k) cs
   obtain⟨M3,rg3,σ3,k1,k2,k3,k4,k5,k6⟩:=hq
   cases e with
   |normal=>
    obtain⟨m',hlt,hIm⟩:=k6
    obtain⟨e2,a2,w2,hq2,harr2⟩:=ih m' hlt a' w' ⟨M3,rg3,σ3,g1.trans k1,k2,k3,k4,k5,hIm⟩ b k cs
    exact⟨e2,a2,w2,hq2,.of_steps (Steps.trans harr (.one step_inLoop)) harr2⟩
   |exit id=>exact⟨_,a',w',⟨M3,rg3,σ3,g1.trans k1,k2,k3,k4,k5,k6⟩,.pass (x:= .inLoop cb) rfl (fun _ _=> .inl (by simp)) harr⟩
   |goto l=>exact⟨_,a',w',⟨M3,rg3,σ3,g1.trans k1,k2,k3,k4,k5,k6⟩,.pass (x:= .inLoop cb) rfl (fun _ _=> .inl (by simp)) harr⟩
   |ret=>exact⟨_,a',w',⟨M3,rg3,σ3,g1.trans k1,k2,k3,k4,k5,k6⟩,.pass (x:= .inLoop cb) rfl (fun _ _=> .inl (by simp)) harr⟩
   |panic ch=>exact⟨_,a',w',⟨M3,rg3,σ3,g1.trans k1,k2,k3,k4,k5,k6⟩,.pass (x:= .inLoop cb) rfl (fun _ _=> .inl (by simp)) harr⟩
   |outgrown=>exact⟨_,a',w',⟨M3,rg3,σ3,g1.trans k1,k2,k3,k4,k5,k6⟩,.pass (x:= .inLoop cb) rfl (fun _ _=> .inl (by simp)) harr⟩
 intro b k cs
 obtain⟨e,a',w',hq,harr⟩:=key n a w ⟨M,rg,σ,Mem.le.refl _,hI,hR,hN,hD,h0⟩ b k cs
 exact⟨e,a',w',hq,.of_steps (.one step_loop) harr⟩
end
end Go.Sx
