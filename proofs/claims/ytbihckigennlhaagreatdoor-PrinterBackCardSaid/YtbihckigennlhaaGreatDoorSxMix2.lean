/-
  The layer Sx, fourteenth part: operations that may stand in any order.
-/
import Derived.Test.YtbihckigennlhaaGreatDoorSxStep
set_option linter.unusedVariables false
set_option linter.unusedSimpArgs false
set_option linter.unusedSectionVars false
namespace Go.Sx
open Go.RowKit
def labOf:AV→Option Nat
 | .lp t _ _=>some t
 | .ms t _ _ _ _=>some t
 |_=>none
def labNe(rg:Regs)(t s:Nat):Bool:=match labOf (lk rg s)with
 |some t'=> !Nat.beq t' t
 |none=>false
def ldOK(als cf:List Nat)(rg:Regs):IOp→Bool
 | .load _ _ x=>match ev rg x with
  | .lp t _ _=> !als.elem t && cf.all (labNe rg t)
  |_=>true
 |_=>false
def stOK(als cf:List Nat)(rg:Regs):IOp→Bool
 | .store _ x _=>match ev rg x with
  | .lp t _ _=>match cf with
   |[]=>true
   |[s]=>match labOf (lk rg s)with
    |some t'=>Nat.beq t' t && (!als.elem s || Nat.beq s t)
    |none=>false
   |_=>false
  |_=>true
 |_=>false
def vcOD(P:Program)[Glob P](cfg:Nat→Nat)(als cf:List Nat)(d:Option Nat)(rg:Regs)(σ:Store)(K:AV→Store→Prop)(op:IOp):Prop:=
 match op.cls with
 |0=>vcOQ P cfg d rg σ (fun x=>K x σ) op
 |1=>ldOK als cf rg op=true∧vcO P cfg d rg σ K (fun _ _=>False) op
 |2=>vcO P cfg d rg σ K (fun _ _=>False) op
 |3=>stOK als cf rg op=true∧vcO P cfg d rg σ K (fun _ _=>False) op
 |4=>(isApp op && als.elem (d.getD 0))=true∧vcO P cfg d rg σ K (fun _ _=>False) op
 |_=>False
def vcGD(P:Program)[Glob P](cfg:Nat→Nat)(als:List Nat)(c:CD)(K:AV→Store→Prop)(rg:Regs)(σ:Store):Prop:=
 match c.c.g with
 |none=>vcOD P cfg als c.cf c.c.d rg σ K c.c.op
 |some (t,want)=>match lk rg t with
  | .v (.bool b)=>(b=want→vcOD P cfg als c.cf c.c.d rg σ K c.c.op)∧(b= !want→K (.v undef) σ)
  | .v (.tuple _)=>K (.v undef) σ
  |_=>False
def vcM(P:Program)[Glob P](cfg:Nat→Nat)(als:List Nat):List CD→(Regs→Store→Prop)→Regs→Store→Prop
 |[],K,rg,σ=>K rg σ
 |c::l,K,rg,σ=>vcGD P cfg als c (fun x σ'=>vcM P cfg als l K (putR c.c.d x rg) σ') rg σ
section
variable {P:Program}[Glob P]{cfg:Nat→Nat}{als:List Nat}{c:CD}{rg rg':Regs}{σ σ':Store}{K K':AV→Store→Prop}
theorem vcOQ_local{d:Option Nat}{K:AV→Prop}{op:IOp}(h:∀ t∈tmpsOf op.opers,lk rg t=lk rg' t):vcOQ P cfg d rg σ K op=vcOQ P cfg d rg' σ K op:=by
 cases op with
 |call f args=>simp only[vcOQ];rw[evs_local args h]
 |callv f args=>
  have hf:ev rg f=ev rg' f:=ev_local fun t ht=>h t (by simp only[IOp.opers];rw[tmpsOf_cons];exact List.mem_append_left _ ht)
  have ha:evs rg args=evs rg' args:=evs_local args fun t ht=>h t (by simp only[IOp.opers];rw[tmpsOf_cons];exact List.mem_append_right _ ht)
  simp only[vcOQ];rw[hf,ha]
 |mksl t esz parts=>simp only[vcOQ];rw[evs_local parts h]
 |len s x=>cases s<;>(simp only[vcOQ];rw[ev_local h])
 |box t x=>rfl
 |alloc t z=>rfl
 |store n x y=>rfl
 |append t n k z x y=>rfl
 |exts op ty ti args=>rfl
 |panic x=>rfl
 |extq op ty ti args=>simp only[vcOQ];rw[evs_local args h]
 |_=>simp only[vcOQ];exact vcO_local h
theorem ldOK_local{cf:List Nat}{op:IOp}(h:∀ t∈tmpsOf op.opers,lk rg t=lk rg' t)(h2:∀ t∈cf,lk rg t=lk rg' t):ldOK als cf rg op=ldOK als cf rg' op:=by
 cases op<;>try rfl
 rename_i a n x
 simp only[ldOK]
 rw[ev_local h]
 have:∀ t,cf.all (labNe rg t)=cf.all (labNe rg' t):=fun t=>by
  rw[Bool.eq_iff_iff,List.all_eq_true,List.all_eq_true]
  exact⟨fun k s hs=>by have:=k s hs;unfold labNe at *;rwa [← h2 s hs],fun k s hs=>by have:=k s hs;unfold labNe at *;rwa [h2 s hs]⟩
 split<;>simp only[this]
theorem stOK_local{cf:List Nat}{op:IOp}(h:∀ t∈tmpsOf op.opers,lk rg t=lk rg' t)(h2:∀ t∈cf,lk rg t=lk rg' t):stOK als cf rg op=stOK als cf rg' op:=by
 cases op<;>try rfl
 rename_i n x y
 have hx:ev rg x=ev rg' x:=ev_local fun t ht=>h t (by simp only[IOp.opers];rw[tmpsOf_cons];exact List.mem_append_left _ ht)
 simp only[stOK]
 rw[hx]
 split
 ·split
  ·rfl
  ·rename_i s;rw[h2 s (by simp)]
  ·rfl
 ·rfl
def rdD(c:CD):List Nat:=c.c.reads++c.cf
theorem vcOD_local{cf:List Nat}{d:Option Nat}{op:IOp}(h:∀ t∈tmpsOf op.opers,lk rg t=lk rg' t)(h2:∀ t∈cf,lk rg t=lk rg' t):vcOD P cfg als cf d rg σ K op=vcOD P cfg als cf d rg' σ K op:=by
 unfold vcOD
 split
 ·exact vcOQ_local h
 ·rw[ldOK_local h h2,vcO_local h]
 ·exact vcO_local h
 ·rw[stOK_local h h2,vcO_local h]
 ·rw[vcO_local h]
 ·rfl
theorem vcGD_local(h:∀ t∈rdD c,lk rg t=lk rg' t)(hv:vcGD P cfg als c K rg σ):vcGD P cfg als c K rg' σ:=by
 have e:vcOD P cfg als c.cf c.c.d rg σ K c.c.op=vcOD P cfg als c.cf c.c.d rg' σ K c.c.op:=
  vcOD_local (fun t ht=>h t (by unfold rdD CI.reads;exact List.mem_append_left _ (List.mem_append_left _ ht))) (fun t ht=>h t (by unfold rdD;exact List.mem_append_right _ ht))
 unfold vcGD at *
 cases hg:c.c.g with
 |none=>rw[hg]at hv;simp only at hv ⊢;rw[← e];exact hv
 |some p=>
  obtain⟨u,want⟩:=p
  have hu:lk rg u=lk rg' u:=h u (by unfold rdD CI.reads;rw[hg];simp)
  rw[hg]at hv
  simp only at hv ⊢
  rw[← hu]
  split<;>rename_i e2<;>simp only[e2]at hv
  ·rw[← e];exact hv
  ·exact hv
def Keep(als:List Nat)(c:CD)(rg:Regs)(σ σ':Store):Prop:=∀ t,als.elem t=false→(∀ s∈c.cf,labOf (lk rg s)≠some t)→∀ b l,lkt σ t=some (b,.cells l)→lkt σ' t=some (b,.cells l)
theorem load_det{cf:List Nat}{d:Option Nat}{E:List PanicEntry→Store→Prop}{op:IOp}(h1:op.cls=1)(hk:ldOK als cf rg op=true)(h:vcO P cfg d rg σ K E op):
  ∃ x,K x σ∧∀ (σ':Store),(∀ t,als.elem t=false→(∀ s∈cf,labOf (lk rg s)≠some t)→∀ b l,lkt σ t=some (b,.cells l)→lkt σ' t=some (b,.cells l))→∀ (K':AV→Store→Prop) (E':List PanicEntry→Store→Prop),K' x σ'→vcO P cfg d rg σ' K' E' op:=by
 cases op<;>simp only[IOp.cls,reduceCtorEq,Nat.reduceEqDiff]at h1
 rename_i g n x
 simp only[vcO]at h ⊢
 simp only[ldOK]at hk
 split at h
 ·rename_i t b o he
  rw[he]at hk
  simp only[Bool.and_eq_true,Bool.not_eq_true']at hk
  have hkeep:∀ σ':Store,(∀ t,als.elem t=false→(∀ s∈cf,labOf (lk rg s)≠some t)→∀ b l,lkt σ t=some (b,.cells l)→lkt σ' t=some (b,.cells l))→∀ b l,lkt σ t=some (b,.cells l)→lkt σ' t=some (b,.cells l):=fun σ' hh=>hh t hk.1 fun s hs e=>by
   have:=List.all_eq_true.1 hk.2 s hs
   unfold labNe at this
   rw[e]at this
   simp[Nat.beq_refl]at this
  split at h
  ·rename_i b' l hb
   obtain⟨rfl,h⟩:=h
   cases g with
   |true=>
    simp only[if_true]at h ⊢
    exact⟨_,h.2,fun σ' hs K' E' hk'=>by rw[hkeep σ' hs _ _ hb];exact⟨by trivial,h.1,hk'⟩⟩
   |false=>
    simp only[Bool.false_eq_true,if_false]at h ⊢
    split at h
    ·rename_i y hy
     exact⟨_,h,fun σ' hs K' E' hk'=>by rw[hkeep σ' hs _ _ hb];simp only[hy];exact⟨by trivial,hk'⟩⟩
    ·exact h.elim
  ·exact h.elim
 ·rename_i l he
  cases g with
  |true=>simp only[if_true]at h ⊢;exact⟨_,h.2,fun σ' _ K' E' hk'=>⟨h.1,hk'⟩⟩
  |false=>
   simp only[Bool.false_eq_true,if_false]at h ⊢
   split at h
   ·rename_i y hy
    exact⟨_,h,fun σ' _ K' E' hk'=>by(try simp only[hy]);exact hk'⟩
   ·exact h.elim
 ·rename_i gv he
  split at h
  ·rename_i l hl
   (try simp only[hl])
   cases g with
   |true=>simp only[if_true]at h ⊢;exact⟨_,h.2,fun σ' _ K' E' hk'=>⟨h.1,hk'⟩⟩
   |false=>
    simp only[Bool.false_eq_true,if_false]at h ⊢
    split at h
    ·rename_i y hy
     exact⟨_,h,fun σ' _ K' E' hk'=>by(try simp only[hy]);exact hk'⟩
    ·exact h.elim
  ·exact h.elim
 ·exact h.elim
theorem det(hc:c.c.op.cls≤1)(h:vcGD P cfg als c K rg σ):∃ x,K x σ∧∀ σ',(c.c.op.cls=1→Keep als c rg σ σ')→∀ K':AV→Store→Prop,K' x σ'→vcGD P cfg als c K' rg σ':=by
 have hop:vcOD P cfg als c.cf c.c.d rg σ K c.c.op→∃ x,K x σ∧∀ σ',(c.c.op.cls=1→Keep als c rg σ σ')→∀ K':AV→Store→Prop,K' x σ'→vcOD P cfg als c.cf c.c.d rg σ' K' c.c.op:=by
  intro h
  unfold vcOD at h
  split at h
  ·rename_i h0
   obtain⟨x,hx,hv⟩:=vcOQ_free h0 h
   exact⟨x,hx,fun σ' _ K' hk=>by unfold vcOD;rw[h0];exact hv σ' _ hk⟩
  ·rename_i h1
   obtain⟨x,hx,hv⟩:=load_det h1 h.1 h.2
   exact⟨x,hx,fun σ' hs K' hk=>by unfold vcOD;rw[h1];exact⟨h.1,hv σ' (hs h1) _ _ hk⟩⟩
  ·rename_i h2;rw[h2]at hc;omega
  ·rename_i h2;rw[h2]at hc;omega
  ·rename_i h2;rw[h2]at hc;omega
  ·exact h.elim
 unfold vcGD at h ⊢
 cases hg:c.c.g with
 |none=>rw[hg]at h;exact hop h
 |some p=>
  obtain⟨u,want⟩:=p
  rw[hg]at h
  simp only at h ⊢
  split at h
  ·rename_i b he
   by_cases hb:b=want
   ·obtain⟨x,hx,hv⟩:=hop (h.1 hb)
    exact⟨x,hx,fun σ' hs K' hk=>⟨fun _=>hv σ' hs K' hk,fun h'=>by subst hb;cases b<;>simp at h'⟩⟩
   ·have hb':b= !want:=by cases b<;>cases want<;>simp_all
    exact⟨_,h.2 hb',fun σ' hs K' hk=>⟨fun h'=>absurd h' hb,fun _=>hk⟩⟩
  ·exact⟨_,h,fun σ' hs K' hk=>hk⟩
  ·exact h.elim
def alC(rg:Regs):IOp→Option (List AV)
 | .alloc _ z=>some (z.cells.toList.map .v)
 | .box _ x=>(ev rg x).cells?
 |_=>none
theorem alC_local{op:IOp}(h:∀ t∈tmpsOf op.opers,lk rg t=lk rg' t):alC rg op=alC rg' op:=by
 cases op<;>try rfl
 simp only[alC]
 rw[ev_local h]
theorem vcA_iff(h2:c.c.op.cls=2)(hg:c.c.g=none):vcGD P cfg als c K rg σ↔∃ l,alC rg c.c.op=some l∧∀ b,K (.lp (c.c.d.getD 0) b 0) ((c.c.d.getD 0,b,.cells l)::σ):=by
 unfold vcGD vcOD
 rw[hg]
 simp only[h2]
 cases ho:c.c.op<;>rw[ho]at h2<;>simp only[IOp.cls,reduceCtorEq,Nat.reduceEqDiff]at h2
 ·rename_i t x
  simp only[vcO,alC]
  cases(ev rg x).cells? with
  |none=>simp
  |some l=>simp
 ·simp only[vcO,alC,Option.some.injEq,exists_eq_left']
theorem vcS_form(h3:c.c.op.cls=3)(hg:c.c.g=none)(h:vcGD P cfg als c K rg σ):
  ∃ t b l x,lkt σ t=some (b,.cells l)∧(∀ s,c.cf=[s]→labOf (lk rg s)=some t∧(als.elem s=true→s=t))∧K (.v undef) (upt σ t b x)∧
   ∀ (σ':Store) (K':AV→Store→Prop),lkt σ' t=lkt σ t→K' (.v undef) (upt σ' t b x)→vcGD P cfg als c K' rg σ':=by
 unfold vcGD vcOD at *
 rw[hg]at *
 simp only[h3]at h ⊢
 cases ho:c.c.op<;>rw[ho]at h3<;>simp only[IOp.cls,reduceCtorEq,Nat.reduceEqDiff]at h3
 rename_i n x y
 rw[ho]at h
 simp only[vcO,stOK]at h ⊢
 obtain⟨hk,h⟩:=h
 split at h
 ·rename_i t b o l' e1 e2
  rw[e1]at hk
  simp only at hk
  split at h
  ·rename_i b' l e3
   obtain⟨rfl,g1,g2,g3,g4⟩:=h
   refine⟨t,b,l,_,e3,fun s hs=> ?_,g4,fun σ' K' hl hk'=> ?_⟩
   ·rw[hs]at hk
    simp only at hk
    split at hk
    ·rename_i t' e4
     simp only[Bool.and_eq_true,Bool.or_eq_true,Bool.not_eq_true']at hk
     have:=Nat.eq_of_beq_eq_true hk.1
     subst this
     refine⟨e4,fun ha=> ?_⟩
     rcases hk.2 with h|h
     ·rw[ha]at h;cases h
     ·exact Nat.eq_of_beq_eq_true h
    ·cases hk
   ·rw[e1]
    simp only[hk,hl,e2,e3,true_and]
    exact⟨g1,g2,g3,hk'⟩
  ·exact h.elim
 ·exact h.elim
theorem isApp_cls{op:IOp}(h:isApp op=true):op.cls=4:=by cases op<;>first|rfl|cases h
theorem app_to{d:Option Nat}{E E':List PanicEntry→Store→Prop}{op:IOp}(ha:isApp op=true)(hs:StEq σ σ')
  (hk:∀ y σ1 σ1',StEq σ1 σ1'∧(σ=σ'→σ1=σ1')→(∀ t b l,d.getD 0≠t→lkt σ t=some (b,.cells l)→lkt σ1 t=some (b,.cells l))→K y σ1→K' y σ1') (h:vcO P cfg d rg σ K E op):vcO P cfg d rg σ' K' E' op:=by
 cases op<;>first|cases ha|skip
 have hcons:∀ (b:Nat) (x:Blk),∀ t b' l,d.getD 0≠t→lkt σ t=some (b',.cells l)→lkt ((d.getD 0,b,x)::σ) t=some (b',.cells l):=fun b x t b' l hne hl=>by
  rw[lkt_cons,if_neg hne];exact hl
 simp only[vcO]at h ⊢
 split at h
 ·exact⟨h.1,fun e=>hk _ _ _ ⟨hs,fun e=>e⟩ (fun _ _ _ _ hl=>hl) (h.2.1 e),fun e b u c hu=>hk _ _ _ ⟨hs.cons _,fun e=>by rw[e]⟩ (hcons _ _) (h.2.2 e b u c hu)⟩
 ·refine⟨h.1,(hs.1 _).symm.trans h.2.1,h.2.2.1,h.2.2.2.1,fun b u c hu=>hk _ _ _ ⟨hs.upt h.2.1 _ _,fun e=>by rw[e]⟩ (fun t b' l _ hl=> ?_) (h.2.2.2.2 b u c hu)⟩
  rw[lkt_upt h.2.1,if_neg (fun e=>by subst e;rw[h.2.1]at hl;cases hl)];exact hl
 ·exact⟨h.1,h.2.1,fun e=>hk _ _ _ ⟨hs,fun e=>e⟩ (fun _ _ _ _ hl=>hl) (h.2.2.1 e),fun e b u c=>hk _ _ _ ⟨hs.cons _,fun e=>by rw[e]⟩ (hcons _ _) (h.2.2.2 e b u c)⟩
 ·exact h.elim
theorem app_G(ha:isApp c.c.op=true)(hg:c.c.g=none)(hs:StEq σ σ')
  (hk:∀ y σ1 σ1',StEq σ1 σ1'∧(σ=σ'→σ1=σ1')→(∀ t b l,c.c.d.getD 0≠t→lkt σ t=some (b,.cells l)→lkt σ1 t=some (b,.cells l))→K y σ1→K' y σ1') (h:vcGD P cfg als c K rg σ):vcGD P cfg als c K' rg σ':=by
 have hc:=isApp_cls ha
 unfold vcGD vcOD at *
 rw[hg]at *
 simp only[hc]at h ⊢
 exact⟨h.1,app_to ha hs hk h.2⟩
def Step(als:List Nat)(c:CD)(rg:Regs)(σ σ2:Store):Prop:=
 (c.c.op.cls≤1→σ2=σ)∧(c.c.op.cls=2→∃ b x,σ2=(c.c.d.getD 0,b,x)::σ)∧
 (c.c.op.cls=3→∃ t b x l,lkt σ t=some (b,.cells l)∧σ2=upt σ t b x∧∀ s,c.cf=[s]→labOf (lk rg s)=some t∧(als.elem s=true→s=t))∧
 (c.c.op.cls=4→∀ t b l,c.c.d.getD 0≠t→lkt σ t=some (b,.cells l)→lkt σ2 t=some (b,.cells l))
theorem one_of{x:CD}(h:oneOK x=true):(x.c.op.cls≤1∨(x.c.op.cls=2∧x.c.g=none∧x.c.d.isSome=true)∨(x.c.op.cls=3∧x.c.g=none))∨(isApp x.c.op=true∧x.c.op.cls=4∧x.c.g=none):=by
 unfold oneOK at h
 simp only[Bool.and_eq_true,Bool.or_eq_true,Nat.ble_eq,Bool.not_eq_true',Option.isNone_iff_eq_none]at h
 obtain⟨⟨h1,h2⟩,h3⟩:=h
 rcases h1 with h1|h1
 rotate_left
 ·have h4:=isApp_cls h1
  refine .inr ⟨h1,h4,?_⟩
  rcases h2 with h2|h2
  ·omega
  ·exact h2
 left
 rcases Nat.lt_or_ge x.c.op.cls 2 with h|h
 ·exact .inl (by omega)
 ·right
  have hg:x.c.g=none:=by
   rcases h2 with h2|h2
   ·omega
   ·exact h2
  rcases Nat.lt_or_ge x.c.op.cls 3 with h'|h'
  ·have e:x.c.op.cls=2:=by omega
   left
   refine⟨e,hg,?_⟩
   rcases h3 with h3|h3
   ·rw[e]at h3;simp at h3
   ·exact h3
  ·exact .inr ⟨by omega,hg⟩
theorem vcGD_step(ho:oneOK c=true)(h:vcGD P cfg als c K rg σ)(hk:∀ y σ2,Step als c rg σ σ2→K y σ2→K' y σ2):vcGD P cfg als c K' rg σ:=by
 rcases one_of ho with(h1|⟨h2,hg,_⟩|⟨h3,hg⟩)|⟨ha,h4,hg⟩
 ·obtain⟨x,hx,hv⟩:=det h1 h
  exact hv σ (fun _ _ _ _ _ _ h=>h) _ (hk _ _ ⟨fun _=>rfl,fun e=>by omega,fun e=>by omega,fun e=>by omega⟩ hx)
 ·obtain⟨l,hl,hb⟩:=(vcA_iff h2 hg).1 h
  exact(vcA_iff h2 hg).2 ⟨l,hl,fun b=>hk _ _ ⟨fun e=>by omega,fun _=>⟨b,_,rfl⟩,fun e=>by omega,fun e=>by omega⟩ (hb b)⟩
 ·obtain⟨t,b,l,x,g1,g2,g3,g4⟩:=vcS_form h3 hg h
  exact g4 σ _ rfl (hk _ _ ⟨fun e=>by omega,fun e=>by omega,fun _=>⟨t,b,x,l,g1,rfl,g2⟩,fun e=>by omega⟩ g3)
 ·have hK:vcGD P cfg als c (fun y σ2=>K y σ2∧Step als c rg σ σ2) rg σ:=by
   have hc:=h4
   unfold vcGD vcOD at h ⊢
   rw[hg]at h ⊢
   simp only[hc]at h ⊢
   refine⟨h.1,?_⟩
   have h:=h.2
   obtain⟨ix,⟨d,op,g⟩,cf⟩:=c
   simp only at *
   cases op<;>first|cases ha|skip
   have hS:∀ σ2,(∀ t b l,d.getD 0≠t→lkt σ t=some (b,.cells l)→lkt σ2 t=some (b,.cells l))→∀ o:IOp,o.cls=4→Step als ⟨ix,⟨d,o,g⟩,cf⟩ rg σ σ2:=fun σ2 hh o ho=>⟨fun e=>by simp only at e;omega,fun e=>by simp only at e;omega,fun e=>by simp only at e;omega,fun _=>hh⟩
   have hcons:∀ (b:Nat) (x:Blk),∀ t b' l,d.getD 0≠t→lkt σ t=some (b',.cells l)→lkt ((d.getD 0,b,x)::σ) t=some (b',.cells l):=fun b x t b' l hne hl=>by
    rw[lkt_cons,if_neg hne];exact hl
   simp only[vcO]at h ⊢
   split at h
   ·exact⟨h.1,fun e=>⟨h.2.1 e,hS _ (fun _ _ _ _ hl=>hl) _ hc⟩,fun e b u c hu=>⟨h.2.2 e b u c hu,hS _ (hcons _ _) _ hc⟩⟩
   ·refine⟨h.1,h.2.1,h.2.2.1,h.2.2.2.1,fun b u c hu=>⟨h.2.2.2.2 b u c hu,hS _ (fun t b' l _ hl=> ?_) _ hc⟩⟩
    rw[lkt_upt h.2.1,if_neg (fun e=>by subst e;rw[h.2.1]at hl;cases hl)];exact hl
   ·exact⟨h.1,h.2.1,fun e=>⟨h.2.2.1 e,hS _ (fun _ _ _ _ hl=>hl) _ hc⟩,fun e b u c=>⟨h.2.2.2 e b u c,hS _ (hcons _ _) _ hc⟩⟩
   ·exact h.elim
  exact app_G ha hg (StEq.refl σ) (fun y σ1 σ1' h1 _ hy=>by obtain rfl:=h1.2 rfl;exact hk y σ1 hy.2 hy.1) hK
theorem vcGD_eqv(ho:oneOK c=true)(hs:StEq σ σ')(h:vcGD P cfg als c K rg σ)(hk:∀ y σ1 σ1',StEq σ1 σ1'→K y σ1→K' y σ1'):vcGD P cfg als c K' rg σ':=by
 rcases one_of ho with(h1|⟨h2,hg,_⟩|⟨h3,hg⟩)|⟨ha,h4,hg⟩
 ·obtain⟨x,hx,hv⟩:=det h1 h
  exact hv σ' (fun _ t _ _ b l hl=>(hs.1 _).symm.trans hl) _ (hk _ _ _ hs hx)
 ·obtain⟨l,hl,hb⟩:=(vcA_iff h2 hg).1 h
  exact(vcA_iff h2 hg).2 ⟨l,hl,fun b=>hk _ _ _ (hs.cons _) (hb b)⟩
 ·obtain⟨t,b,l,x,g1,g2,g3,g4⟩:=vcS_form h3 hg h
  exact g4 σ' _ (hs.1 t).symm (hk _ _ _ (hs.upt g1 b x) g3)
 ·exact app_G ha hg hs (fun y σ1 σ1' h1 _ h2=>hk y σ1 σ1' h1.1 h2) h
def Closed(K:Regs→Store→Prop):Prop:=∀ rg rg' σ σ',(∀ i,lk rg i=lk rg' i)→StEq σ σ'→K rg σ→K rg' σ'
theorem vcM_closed{K:Regs→Store→Prop}(hK:Closed K):∀ (l:List CD),(∀ x∈l,oneOK x=true)→Closed (vcM P cfg als l K)
 |[],_=>hK
 |c::l,ho=>fun rg rg' σ σ' hr hs h=>by
  simp only[vcM]at h ⊢
  refine vcGD_local (fun t _=>hr t) (vcGD_eqv (ho c (by simp)) hs h fun y σ1 σ1' hs1 hk=> ?_)
  exact vcM_closed hK l (fun x hx=>ho x (by simp[hx])) _ _ _ _ (lk_put_congr hr _ _) hs1 hk
theorem put_local{d:Option Nat}{x:AV}(h:noD d c=true):∀ t∈rdD c,lk (putR d x rg) t=lk rg t:=by
 intro t ht
 cases d with
 |none=>rfl
 |some d=>
  simp only[noD,Bool.and_eq_true,Bool.not_eq_true']at h
  have hne:d≠t:=fun e=>by
   subst e
   rcases List.mem_append.1 ht with ht|ht
   ·have:=List.elem_eq_true_of_mem ht;rw[h.1]at this;cases this
   ·have:=List.elem_eq_true_of_mem ht;rw[h.2]at this;cases this
  simp only[putR,lk_cons,if_neg hne]
theorem put_swap{d d':Option Nat}{x y:AV}(h:d.isNone=true∨d≠d')(i:Nat):lk (putR d x (putR d' y rg)) i=lk (putR d' y (putR d x rg)) i:=by
 cases d with
 |none=>rfl
 |some d=>
  cases d' with
  |none=>rfl
  |some d'=>
   have hne:d≠d':=by rcases h with h|h<;>simp_all
   simp only[putR,lk_cons]
   by_cases h1:d=i<;>by_cases h2:d'=i<;>simp_all
theorem swapD{a:CD}{Z:Regs→Store→Prop}(hz:Closed Z)(hc:commD als a c=true)(ha:oneOK a=true)(ho:oneOK c=true)
  (h:vcGD P cfg als a (fun x σ1=>vcGD P cfg als c (fun y σ2=>Z (putR c.c.d y (putR a.c.d x rg)) σ2) (putR a.c.d x rg) σ1) rg σ):
  vcGD P cfg als c (fun y σ2=>vcGD P cfg als a (fun x σ1=>Z (putR a.c.d x (putR c.c.d y rg)) σ1) (putR c.c.d y rg) σ2) rg σ:=by
 unfold commD at hc
 simp only[Bool.and_eq_true,Bool.or_eq_true,decide_eq_true_eq]at hc
 obtain⟨⟨⟨hn1,hn2⟩,hdd⟩,hcls⟩:=hc
 rcases one_of ha with(h1|⟨h2,hg,hsome⟩|⟨h3,hg⟩)|⟨_,h4,_⟩
 ·obtain⟨x,hx,hD⟩:=det h1 h
  have hx':=vcGD_local (rg':=rg) (put_local hn1) hx
  refine vcGD_step ho hx' fun y σ2 hst hZ=> ?_
  refine vcGD_local (rg:=rg) (fun t ht=>(put_local hn2 t ht).symm) (hD σ2 (fun h1=> ?_) _ (hz _ _ _ _ (fun i=>(put_swap hdd i).symm) (StEq.refl _) hZ))
  rw[h1]at hcls
  intro t ht hcf b0 l0 hl0
  rcases one_of ho with(k1|⟨k2,_,k3⟩|⟨k3,_⟩)|⟨_,k4,_⟩
  ·rw[hst.1 k1];exact hl0
  rotate_left 2
  ·refine hst.2.2.2 k4 t b0 l0 ?_ hl0
   rw[k4]at hcls
   simp only at hcls
   split at hcls
   ·rename_i d hd
    rw[hd]
    intro e
    have e:d=t:=e
    subst e
    rw[ht]at hcls;cases hcls
   ·cases hcls
  ·obtain⟨b,v,rfl⟩:=hst.2.1 k2
   rw[k2]at hcls
   simp only at hcls
   split at hcls
   ·rename_i d hd
    rw[hd,lkt_cons,if_neg]
    ·exact hl0
    intro e
    have e:d=t:=e
    subst e
    rw[ht]at hcls;cases hcls
   ·cases hcls
  ·obtain⟨t',b,v,l,g1,rfl,g2⟩:=hst.2.2.1 k3
   rw[k3]at hcls
   simp only at hcls
   split at hcls
   ·rename_i s hs
    rw[lkt_upt g1,if_neg]
    ·exact hl0
    rintro rfl
    obtain⟨g3,g4⟩:=g2 s hs
    simp only[Bool.or_eq_true]at hcls
    rcases hcls with hcls|hcls
    ·exact hcf s (List.mem_of_elem_eq_true hcls) g3
    ·have:=g4 hcls;subst this;rw[ht]at hcls;cases hcls
   ·cases hcls
 ·rw[h2]at hcls
  have k2:c.c.op.cls=2∧c.c.g=none∧c.c.d.isSome=true:=by
   rcases one_of ho with(k1|k2|⟨k3,_⟩)|⟨_,k4,_⟩
   ·exfalso
    generalize c.c.op.cls=m at k1 hcls
    match m,k1,hcls with
    |0,_,h=>cases h
    |1,_,h=>cases h
   ·exact k2
   ·rw[k3]at hcls;cases hcls
   ·rw[k4]at hcls;cases hcls
  obtain⟨k2,kg,ksome⟩:=k2
  obtain⟨l,hl,hb⟩:=(vcA_iff h2 hg).1 h
  have hrd:∀ (x:CD) t,t∈tmpsOf x.c.op.opers→t∈rdD x:=fun x t ht=>by unfold rdD CI.reads;exact List.mem_append_left _ (List.mem_append_left _ ht)
  obtain⟨l',hl',_⟩:=(vcA_iff k2 kg).1 (hb 0)
  rw[alC_local (rg':=rg) fun t ht=>put_local hn1 t (hrd c t ht)]at hl'
  refine(vcA_iff k2 kg).2 ⟨l',hl',fun b'=>(vcA_iff h2 hg).2 ⟨l,?_,fun b=> ?_⟩⟩
  ·rw[alC_local (rg':=rg) fun t ht=>put_local hn2 t (hrd a t ht)];exact hl
  ·obtain⟨l2,hl2,hb2⟩:=(vcA_iff k2 kg).1 (hb b)
   rw[alC_local (rg':=rg) fun t ht=>put_local hn1 t (hrd c t ht),hl']at hl2
   cases hl2
   refine hz _ _ _ _ (fun i=>(put_swap hdd i).symm) ?_ (hb2 b')
   refine StEq.swap ?_ σ
   obtain⟨d,hd⟩:=Option.isSome_iff_exists.1 hsome
   obtain⟨d',hd'⟩:=Option.isSome_iff_exists.1 ksome
   rw[hd,hd']at hdd ⊢
   simp only[Option.isNone_some,Bool.false_eq_true,false_or,Option.getD_some,ne_eq,Option.some.injEq]at hdd ⊢
   exact fun e=>hdd e.symm
 ·rw[h3]at hcls
  cases hcls
 ·rw[h4]at hcls
  cases hcls
theorem frontD{K:Regs→Store→Prop}(hK:Closed K)(ho:oneOK c=true):∀ (A B:List CD) (rg:Regs) (σ:Store),(∀ a∈A,commD als a c=true∧oneOK a=true)→(∀ b∈B,oneOK b=true)→
  vcM P cfg als (A++c::B) K rg σ→vcGD P cfg als c (fun y σ2=>vcM P cfg als (A++B) K (putR c.c.d y rg) σ2) rg σ
 |[],B,rg,σ,_,_,h=>h
 |a::A,B,rg,σ,hA,hB,h=>by
  simp only[List.cons_append,vcM]at h ⊢
  have ha:=hA a (by simp)
  refine swapD (Z:=vcM P cfg als (A++B) K) (vcM_closed hK _ fun x hx=> ?_) ha.1 ha.2 ho (vcGD_step ha.2 h fun x σ1 _ hv=> ?_)
  ·rcases List.mem_append.1 hx with hx|hx
   ·exact(hA x (by simp[hx])).2
   ·exact hB x hx
  ·exact frontD hK ho A B _ σ1 (fun x hx=>hA x (by simp[hx])) hB hv
theorem vcGD_G{E:List PanicEntry→Store→Prop}(ho:oneOK c=true)(h:vcGD P cfg als c K rg σ):vcG P cfg c.c K E rg σ:=by
 have hop:vcOD P cfg als c.cf c.c.d rg σ K c.c.op→vcO P cfg c.c.d rg σ K E c.c.op:=by
  intro h
  unfold vcOD at h
  split at h
  ·obtain⟨x,hx,hv⟩:=vcOQ_det h;exact hv _ _ hx
  ·rename_i h1
   obtain⟨x,hx,hv⟩:=load_det h1 h.1 h.2
   exact hv σ (fun _ _ _ _ _ h=>h) _ _ hx
  ·rename_i h2
   cases hop:c.c.op<;>rw[hop]at h2 h<;>simp only[IOp.cls,reduceCtorEq,Nat.reduceEqDiff]at h2<;>exact h
  ·rename_i h2
   cases hop:c.c.op<;>rw[hop]at h2 h<;>simp only[IOp.cls,reduceCtorEq,Nat.reduceEqDiff]at h2
   exact h.2
  ·have ha:=h.1
   rw[Bool.and_eq_true]at ha
   exact app_to (hs:=StEq.refl σ) ha.1 (fun y σ1 σ1' h1 _ hy=>by obtain rfl:=h1.2 rfl;exact hy) h.2
  ·exact h.elim
 unfold vcGD at h
 unfold vcG
 cases hg:c.c.g with
 |none=>rw[hg]at h;exact hop h
 |some p=>
  obtain⟨u,want⟩:=p
  rw[hg]at h
  simp only at h ⊢
  split at h
  ·rename_i b he;simp only[he];exact⟨fun hb=>hop (h.1 hb),h.2⟩
  ·rename_i he;simp only[he];exact h
  ·exact h.elim
end
end Go.Sx
