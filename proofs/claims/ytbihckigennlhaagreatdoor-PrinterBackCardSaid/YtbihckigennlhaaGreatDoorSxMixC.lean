/-
  The layer Sx: a region of open order, new variables and stores among its operations, with one call that turns the store and may panic.
-/
import Derived.Test.YtbihckigennlhaaGreatDoorSxSt
import Derived.Laws.BytesString
set_option linter.unusedVariables false
set_option linter.unusedSimpArgs false
set_option linter.unusedSectionVars false
namespace Go.Sx
open Go.RowKit
def splitC(d:Nat):List CD→Option (List CD×CD×List CD)
 |[]=>none
 |c::l=>bif (match c.c.d with|some e=>Nat.beq e d|none=>false)then some ([],c,l)else match splitC d l with
  |some (a,s,b)=>some (c::a,s,b)
  |none=>none
theorem splitC_eq{d:Nat}:∀ {l a b:List CD} {s:CD},splitC d l=some (a,s,b)→l=a++s::b
 |[],_,_,_,h=>by cases h
 |c::l,a,b,s,h=>by
  simp only[splitC]at h
  generalize (match c.c.d with|some e=>Nat.beq e d|none=>false)=q at h
  cases q with
  |true=>cases h;rfl
  |false=>
   simp only[cond_false]at h
   cases h2:splitC d l with
   |none=>rw[h2]at h;cases h
   |some p=>obtain⟨a',s',b'⟩:=p;rw[h2]at h;cases h;rw[splitC_eq h2];rfl
def depC(als:List Nat):List CD→List CD→Bool
 |_,[]=>true
 |acc,b::l=>(acc.any fun a=> !commD als a b) && depC als (b::acc) l
theorem depC_at{als:List Nat}{x:CD}{B:List CD}:∀ (c' acc:List CD),depC als acc (c'++x::B)=true→∃ a,(a∈acc∨a∈c')∧commD als a x=false
 |[],acc,h=>by
  simp only[List.nil_append,depC,Bool.and_eq_true,List.any_eq_true,Bool.not_eq_true']at h
  obtain⟨⟨a,ha,hc⟩,_⟩:=h
  exact⟨a,.inl ha,hc⟩
 |c::c',acc,h=>by
  simp only[List.cons_append,depC,Bool.and_eq_true]at h
  obtain⟨a,ha,hc⟩:=depC_at c' _ h.2
  refine⟨a,?_,hc⟩
  rcases ha with ha|ha
  ·rcases List.mem_cons.1 ha with rfl|ha
   ·exact .inr (by simp)
   ·exact .inl ha
  ·exact .inr (by simp[ha])
section
variable {P:Program}[Glob P]{cfg:Nat→Nat}{ts als:List Nat}{rg:Regs}{σ:Store}{N:Nat}{K:Regs→Store→Prop}{E:List PanicEntry→Store→Prop}{Q:Exit→Regs→Store→Prop}{k:List Fr}{xr:XR}
def MidC(P:Program)[Glob P](cfg:Nat→Nat)(ts als:List Nat)(K:Regs→Store→Prop)(E:List PanicEntry→Store→Prop)(d:Nat)(f:FuncId)(args:List Operand)(l2:List CD)(rg:Regs)(σ:Store):Prop:=
 ∃ R:Res→Store→Prop,Spec P f (evs rg args) σ R∧(∀ x σ',R (.ret x) σ'→(∀ t b l,ts.elem t=false→lkt σ t=some (b,.cells l)→lkt σ' t=some (b,.cells l))∧vcM P cfg als l2 (Cl K) ((d,x)::rg) σ')∧∀ ch σ',R (.pan ch) σ'→E ch σ'
theorem elem_app{t:Nat}(h:(ts++als).elem t=false):ts.elem t=false∧als.elem t=false:=by
 constructor<;>(rw[← Bool.not_eq_true]at h ⊢;intro h2;exact h (List.elem_eq_true_of_mem (by rw[List.mem_append];first|exact .inl (List.mem_of_elem_eq_true h2)|exact .inr (List.mem_of_elem_eq_true h2))))
theorem ldOK_als{cf:List Nat}{op:IOp}(h:ldOK (ts++als) cf rg op=true):ldOK als cf rg op=true:=by
 cases op<;>try exact h
 simp only[ldOK]at h ⊢
 split at h
 ·simp only[Bool.and_eq_true,Bool.not_eq_true']at h ⊢
  exact⟨(elem_app h.1).2,h.2⟩
 ·rfl
theorem vcGD_als{c:CD}{K:AV→Store→Prop}(hc:c.c.op.cls≤1)(h:vcGD P cfg (ts++als) c K rg σ):vcGD P cfg als c K rg σ:=by
 have hop:vcOD P cfg (ts++als) c.cf c.c.d rg σ K c.c.op→vcOD P cfg als c.cf c.c.d rg σ K c.c.op:=fun h=>by
  unfold vcOD at h ⊢
  split at h
  ·exact h
  ·exact⟨ldOK_als h.1,h.2⟩
  all_goals(rename_i e;first|(rw[e]at hc;omega)|exact h.elim)
 unfold vcGD at h ⊢
 split at h
 ·exact hop h
 ·split at h
  ·exact⟨fun e=>hop (h.1 e),h.2⟩
  ·exact h
  ·exact h.elim
theorem commD_als{a c:CD}(ha:a.c.op.cls≤1)(hc:c.c.op.cls≤1)(h:commD als a c=true):commD (ts++als) a c=true:=by
 unfold commD at h ⊢
 simp only[Bool.and_eq_true]at h ⊢
 refine⟨h.1,?_⟩
 generalize a.c.op.cls=m at ha
 generalize c.c.op.cls=n at hc
 match m,n,ha,hc with
 |0,_,_,_=>rfl
 |1,0,_,_=>rfl
 |1,1,_,_=>rfl
theorem mid_lift{d:Nat}{f:FuncId}{args:List Operand}{l2:List CD}{s:CD}(hs:s.c=⟨some d,.call f args,none⟩)(ho2:∀ b∈l2,oneOK b=true):∀ (A:List CD) (rg:Regs) (σ:Store),
  (∀ a∈A,oneOK a=true∧a.c.op.cls≤1∧commD als a s=true)→vcM P cfg (ts++als) A (Cl (MidC P cfg ts als K E d f args l2)) rg σ→
  ∃ σ1,StEq σ1 σ∧∃ R:Res→Store→Prop,Spec P f (evs rg args) σ1 R∧(∀ x σ',R (.ret x) σ'→(∀ t b l,ts.elem t=false→lkt σ1 t=some (b,.cells l)→lkt σ' t=some (b,.cells l))∧vcM P cfg als (A++l2) (Cl K) ((d,x)::rg) σ')∧∀ ch σ',R (.pan ch) σ'→E ch σ'
 |[],rg,σ,_,h=>by
  obtain⟨rg',σ',h1,h2,R,hR,hk,he⟩:=h
  refine⟨σ',h2,R,?_,fun x σ3 hr=>⟨(hk x σ3 hr).1,?_⟩,he⟩
  ·rw[← evs_local args fun t _=>h1 t];exact hR
  ·exact vcM_closed (Cl.closed K) l2 ho2 _ _ _ _ (lk_put_congr h1 (some d) x) (StEq.refl _) (hk x σ3 hr).2
 |a::A,rg,σ,hA,h=>by
  obtain⟨ha,hcl,hcm⟩:=hA a (by simp)
  obtain⟨y,hy,hv⟩:=det hcl h
  obtain⟨σ1,hs1,R,hR,hk,he⟩:=mid_lift hs ho2 A _ σ (fun b hb=>hA b (by simp[hb])) hy
  unfold commD at hcm
  simp only[Bool.and_eq_true,Bool.or_eq_true,decide_eq_true_eq]at hcm
  obtain⟨⟨⟨hn1,hn2⟩,hdd⟩,_⟩:=hcm
  rw[hs]at hn2 hdd
  refine⟨σ1,hs1,R,?_,fun x σ' hr=>⟨(hk x σ' hr).1,?_⟩,he⟩
  ·rw[← evs_local (rg:=putR a.c.d y rg) args fun t ht=>put_local hn1 t (by unfold rdD CI.reads;rw[hs];exact List.mem_append_left _ (List.mem_append_left _ ht))];exact hR
  ·refine vcGD_local (rg:=rg) (fun t ht=>(put_local (d:=some d) (x:=x) hn2 t ht).symm) (vcGD_als hcl (hv σ' (fun h1 t ht hcf b l hl=>(hk x σ' hr).1 t b l (elem_app ht).1 ((hs1.1 t).trans hl)) _ ?_))
   exact vcM_closed (Cl.closed K) (A++l2) (fun b hb=>(List.mem_append.1 hb).elim (fun h=>(hA b (by simp[h])).1) (ho2 b)) _ _ _ _ (fun i=>(put_swap (d:=a.c.d) (d':=some d) hdd i).symm) (StEq.refl _) (hk x σ' hr).2
theorem SW_mregC(ts:List Nat){l1 l2:List CD}{s:CD}{d:Nat}{f:FuncId}{args:List Operand}(hs:s.c=⟨some d,.call f args,none⟩)(hq:(l1.all fun a=>Nat.ble a.c.op.cls 1)=true)(hd:depC als [s] l2=true)
  (h:vcM P cfg (ts++als) l1 (MidC P cfg ts als (Q .normal) (fun ch σ'=>Q (.panic ch) [] σ') d f args l2) rg σ):SW P N (.mreg als (l1++s::l2)) Q rg σ:=by
 refine SW_mregG cfg (fun L rg σ=>(∃ A,L=A++s::l2∧(∀ a∈A,a.c.op.cls≤1)∧vcM P cfg (ts++als) A (Cl (MidC P cfg ts als (Q .normal) (fun ch σ'=>Q (.panic ch) [] σ') d f args l2)) rg σ)∨vcM P cfg als L (Cl (Q .normal)) rg σ)
  (fun ho=> .inl ⟨l1,rfl,fun a ha=>Nat.le_of_ble_eq_true (List.all_eq_true.1 hq a ha),vcM_mono (fun _ _=>Cl.intro) l1 rg σ (fun x hx=>ho x (by simp[hx])) h⟩) (fun rg σ hv=> ?_) fun A x B rg σ ho hA hv=> ?_
 ·rcases hv with⟨A,e,_⟩|hv
  ·simp at e
  ·exact hv
 ·have call:∀ A B,(∀ a∈A,a.c.op.cls≤1)→(∀ a∈A++s::l2,oneOK a=true)→(∀ a∈A,commD als a s=true)→B=l2→vcM P cfg (ts++als) A (Cl (MidC P cfg ts als (Q .normal) (fun ch σ'=>Q (.panic ch) [] σ') d f args l2)) rg σ→
    ∃ rg' σ',(∀ i,lk rg' i=lk rg i)∧StEq σ' σ∧vcG P cfg s.c (fun y σ2=>(∃ A',A++B=A'++s::l2∧(∀ a∈A',a.c.op.cls≤1)∧vcM P cfg (ts++als) A' (Cl (MidC P cfg ts als (Q .normal) (fun ch σ'=>Q (.panic ch) [] σ') d f args l2)) (putR s.c.d y rg) σ2)∨vcM P cfg als (A++B) (Cl (Q .normal)) (putR s.c.d y rg) σ2) (fun ch σ'=>Q (.panic ch) [] σ') rg' σ':=by
   rintro A B hc ho hA rfl hv
   obtain⟨σ1,hs1,R,hR,hk,he⟩:=mid_lift hs (fun b hb=>ho b (by simp[hb])) A rg σ (fun a ha=>⟨ho a (by simp[ha]),hc a ha,hA a ha⟩) hv
   refine⟨rg,σ1,fun _=>rfl,hs1,?_⟩
   unfold vcG
   rw[hs]
   simp only[vcO]
   exact⟨R,hR,fun x σ' hr=> .inr (hk x σ' hr).2,he⟩
  rcases hv with⟨A',e,hc,hv⟩|hv
  ·rcases List.append_eq_append_iff.1 e with⟨a',e1,e2⟩|⟨c',e1,e2⟩
   ·cases a' with
    |nil=>
     simp only[List.nil_append,List.cons.injEq]at e2
     rw[List.append_nil]at e1
     obtain⟨rfl,rfl⟩:=e2
     subst e1
     exact call _ _ hc ho hA rfl hv
    |cons y a'=>
     simp only[List.cons_append,List.cons.injEq]at e2
     obtain⟨rfl,rfl⟩:=e2
     subst e1
     refine⟨rg,σ,fun _=>rfl,StEq.refl _,vcGD_G (ho x (by simp)) (vcGD_step (ho x (by simp)) (frontD (als:=ts++als) (Cl.closed _) (ho x (by simp)) A a' rg σ (fun a ha=>⟨commD_als (hc a (by simp[ha])) (hc x (by simp)) (hA a ha),ho a (by simp[ha])⟩) (fun b hb=>ho b (by simp[hb])) hv) fun y σ2 _ h=> .inl ⟨A++a',by simp,fun a ha=>hc a ?_,h⟩)⟩
     rcases List.mem_append.1 ha with h|h<;>simp[h]
   ·cases c' with
    |nil=>
     simp only[List.nil_append,List.cons.injEq]at e2
     rw[List.append_nil]at e1
     obtain⟨rfl,rfl⟩:=e2
     subst e1
     exact call _ _ hc ho hA rfl hv
    |cons y c'=>
     exfalso
     simp only[List.cons_append,List.cons.injEq]at e2
     obtain⟨rfl,rfl⟩:=e2
     subst e1
     obtain⟨a,ha,hcm⟩:=depC_at c' [s] hd
     have:=hA a (by rcases ha with ha|ha<;>simp_all)
     rw[this]at hcm;cases hcm
  ·exact⟨rg,σ,fun _=>rfl,StEq.refl _,vcGD_G (ho x (by simp)) (vcGD_step (ho x (by simp)) (frontD (Cl.closed _) (ho x (by simp)) A B rg σ (fun a ha=>⟨hA a ha,ho a (by simp[ha])⟩) (fun b hb=>ho b (by simp[hb])) hv) fun _ _ _ h=> .inr h)⟩
theorem WK_mregC(ts:List Nat)(d:Nat){ld l1 l2:List CD}{ix:Nat}{cf:List Nat}{f:FuncId}{args:List Operand}(hl:splitC d ld=some (l1,⟨ix,⟨some d,.call f args,none⟩,cf⟩,l2))(hq:(l1.all fun a=>Nat.ble a.c.op.cls 1)=true)
  (hd:depC als [⟨ix,⟨some d,.call f args,none⟩,cf⟩] l2=true) (hx:toXO rg=some xr)
  (h:VY P cfg (ts++als) l1 (MidC P cfg ts als (FK P N cfg Q .normal k) (fun ch σ'=>FK P N cfg Q (.panic ch) k [] σ') d f args l2) xr σ):WK P N cfg Q (.mreg als ld) k rg σ:=by
 have e:=splitC_eq hl
 subst e
 refine⟨WA.mono (Q:=fun e=>FK P N cfg Q e k) ⟨rfl,SW_mregC (cfg:=cfg) ts rfl hq hd ?_⟩ fun _ _ _ h=>h.h⟩
 have:=h.h
 rw[← toXO_eq hx,den_toX]at this
 exact this
end
theorem RL.un1{M:Mem}{x:AV}{vs:List Value}(h:RL M [x] vs):∃ v,vs=[v]∧R M x v:=by
 obtain⟨v,vs',rfl,h1,h2⟩:=h.uncons
 exact⟨v,by rw[h2.unnil],h1⟩
def slsO(lo hi:Option Operand)(as:List AV):Option (ByteArray×Int×Int):=
 match lo,hi,as with
 |none,none,[.v (.string s)]=>some (s,0,s.size)
 |some _,none,[.v (.string s),.v (.int _ a)]=>some (s,a,s.size)
 |none,some _,[.v (.string s),.v (.int _ b)]=>some (s,0,b)
 |some _,some _,[.v (.string s),.v (.int _ a),.v (.int _ b)]=>some (s,a,b)
 |_,_,_=>none
def u8s:List (List AV)→Option (List Int)
 |[]=>some []
 |[.v (.int .u8 n)]::l=>(u8s l).map (n::·)
 |_=>none
def bytesI(ns:List Int):ByteArray:=⟨(ns.map fun n=>UInt8.ofNat n.toNat).toArray⟩
section
variable {P:Program}[Glob P]{M:Mem}{w0:Base}{w:World}{σ:Store}
theorem OpP_sls{t ty:TypeId}{x:Operand}{lo hi:Option Operand}{as:List AV}{s:ByteArray}{a b:Int}(h:slsO lo hi as=some (s,a,b))(hb:0≤a∧a≤b∧b≤s.size):
  OpP P (.slice t x lo hi none) ty [.str] (x::(lo.toList++hi.toList)) as (.v (.string (s.extract a.toNat b.toNat))):=⟨fun σ hti M w0 w ρ hI hR=>by
 have ht:P.underlying t=some .string:=by
  simp only[opInfo,List.cons.injEq,and_true]at hti;exact tiOf_str hti
 refine⟨.value (.string (s.extract a.toNat b.toNat)),w,M,.v (.string (s.extract a.toNat b.toNat)),.string (s.extract a.toNat b.toNat),σ,?_,rfl,Mem.le.refl _,hI,.v _,rfl,rfl⟩
 unfold slsO at h
 split at h<;>cases h
 ·obtain⟨v,hv,hx⟩:=hR.un1
  simp only[Option.toList_none,List.append_nil,List.map_cons,List.map_nil,List.cons.injEq,and_true]at hv
  simp[execOp,Instr.sliceAt,run_under ht,Instr.slice,Instr.sliceBounds,hv,hx.of_v]
 ·obtain⟨v,vs,hv,hx,hR2⟩:=hR.uncons
  obtain⟨v2,hv2,hx2⟩:=hR2.un1
  subst hv2
  simp only[Option.toList_none,Option.toList_some,List.append_nil,List.map_cons,List.map_nil,List.cons.injEq,and_true]at hv
  have e1:=hx.of_v
  have e2:=hx2.of_v
  have h1:(0:Int)≤a∧a≤(s.size:Int):=⟨hb.1,hb.2.1⟩
  simp[execOp,Instr.sliceAt,run_under ht,Instr.slice,Instr.sliceBounds,Instr.sliceBound,asIntOf,hv.1,hv.2,e1,e2,h1]
 ·obtain⟨v,vs,hv,hx,hR2⟩:=hR.uncons
  obtain⟨v2,hv2,hx2⟩:=hR2.un1
  subst hv2
  simp only[Option.toList_none,Option.toList_some,List.nil_append,List.map_cons,List.map_nil,List.cons.injEq,and_true]at hv
  have e1:=hx.of_v
  have e2:=hx2.of_v
  have h1:(0:Int)≤b∧b≤(s.size:Int):=⟨hb.2.1,hb.2.2⟩
  simp[execOp,Instr.sliceAt,run_under ht,Instr.slice,Instr.sliceBounds,Instr.sliceBound,asIntOf,hv.1,hv.2,e1,e2,h1]
 ·obtain⟨v,vs,hv,hx,hR2⟩:=hR.uncons
  obtain⟨v2,vs2,hv2,hx2,hR3⟩:=hR2.uncons
  obtain⟨v3,hv3,hx3⟩:=hR3.un1
  subst hv3
  subst hv2
  simp only[Option.toList_some,List.cons_append,List.nil_append,List.map_cons,List.map_nil,List.cons.injEq,and_true]at hv
  have e1:=hx.of_v
  have e2:=hx2.of_v
  have e3:=hx3.of_v
  have h1:(0:Int)≤b∧b≤(s.size:Int):=⟨by omega,hb.2.2⟩
  have h2:(0:Int)≤a∧a≤(b.toNat:Int):=⟨hb.1,by omega⟩
  simp[execOp,Instr.sliceAt,run_under ht,Instr.slice,Instr.sliceBounds,Instr.sliceBound,asIntOf,hv.1,hv.2.1,hv.2.2,e1,e2,e3,h1,h2]
  intro hlt
  omega⟩
theorem u8s_cells{M:Mem}:∀ {rows:List (List AV)} {ns:List Int} {L:List Value},u8s rows=some ns→RL M rows.flatten L→L=ns.map (.int .u8)
 |[],ns,L,h,hR=>by cases h;exact hR.unnil
 |r::rows,ns,L,h,hR=>by
  unfold u8s at h
  split at h
  ·rename_i he;cases he
  ·rename_i n l he
   cases he
   obtain⟨ns',h1,rfl⟩:=Option.map_eq_some_iff.1 h
   obtain⟨v,vs,rfl,hx,hR2⟩:=RL.uncons (x:= .v (.int .u8 n)) (xs:=rows.flatten) hR
   rw[hx.of_v,u8s_cells h1 hR2];rfl
  ·cases h
theorem bytesI_fold(ns:List Int):ns.foldl (fun r n=>r.push (UInt8.ofNat n.toNat)) ByteArray.empty=bytesI ns:=by
 have:∀ (ns:List Int) (s:ByteArray),ns.foldl (fun r n=>r.push (UInt8.ofNat n.toNat)) s=⟨s.data++(ns.map fun n=>UInt8.ofNat n.toNat).toArray⟩:=by
  intro ns
  induction ns with
  |nil=>intro s;simp
  |cons n ns ih=>
   intro s
   rw[List.foldl_cons,ih]
   congr 1
   apply Array.ext'
   simp[ByteArray.push]
 rw[this]
 simp only[bytesI]
 congr 1
 apply Array.ext'
 simp[ByteArray.empty,ByteArray.emptyWithCapacity]
 try rfl
theorem OpP_cvbs{src dst e ty:TypeId}{x:Operand}{v:AV}{rows:List (List AV)}{ns:List Int}{q:TI}(hv:rowsV 1 v=some rows)(hns:¬∃ s,v= .v (.string s))(hn:u8s rows=some ns):
  OpP P (.convert src dst x) ty [.sl e,.int .u8,.str,q] [x] [v] (.v (.string (bytesI ns))):=⟨fun σ hti M w0 w ρ hI hR=>by
 simp only[opInfo,List.cons.injEq,and_true]at hti
 have hs:=tiOf_sl hti.1
 have he:P.underlying e=some (.int .u8):=by
  have:=hti.2.1
  unfold elU at this
  rw[hs]at this
  exact tiOf_int this
 have hd:=tiOf_str hti.2.2.1
 obtain⟨u,hu,hx⟩:=hR.un1
 simp only[List.map_cons,List.map_nil,List.cons.injEq,and_true]at hu
 obtain⟨base,cap,L,rfl,hL,_,hrun⟩:=rowsV_cells (P:=P) hI hx hv hns
 have hL':=u8s_cells hn hL
 subst hL'
 refine⟨.value (.string (bytesI ns)),w,M,.v (.string (bytesI ns)),.string (bytesI ns),σ,?_,rfl,Mem.le.refl _,hI,.v _,rfl,rfl⟩
 have hc:=run_convert_bytes_string (P:=P) w src dst e base rows.length cap hs he hd
 simp only[execOp,hu,Sem.run_bind,hc]
 cases base with
 |none=>
  simp only[Builtin.firstCells,Sem.run_pure,Result.ok.injEq,and_true]at hrun
  have:ns=[]:=by
   have:=congrArg Array.toList hrun
   simpa using this
  subst this
  simp[Conv.bytesToString,Sem.run_pure]
  rfl
 |some a=>
  simp only[Builtin.firstCells,Nat.mul_one]at hrun
  rw[run_bytesToString w a rows.length cap ns hrun,bytesI_fold]
  simp[Sem.run_pure]⟩
theorem u8s_map:∀ (ls:List UInt8),u8s (ls.map byteRow)=some (ls.map fun b=>(b.toNat:Int))
 |[]=>rfl
 |b::ls=>by
  show(u8s (ls.map byteRow)).map ((b.toNat:Int)::·)=_
  rw[u8s_map ls];rfl
theorem bytesI_map(ls:List UInt8):bytesI (ls.map fun b=>(b.toNat:Int))=⟨ls.toArray⟩:=by
 simp only[bytesI,List.map_map]
 congr 2
 conv=>rhs;rw[← List.map_id ls]
 apply List.map_congr_left
 intro b _
 simp
theorem Inv.newImm(hI:Inv P M w0 σ w){w':World}(e1:w'.os=w.os)(e2:w'.tape=w.tape)(e3:w'.output=w.output)(hs:w.heap.size≤w'.heap.size)(hold:∀ k,k<w.heap.size→w'.heap[k]? =w.heap[k]?)(cs:List Value)
  (hc:∀ o v,cs[o]? =some v→w'.cell? ⟨w.heap.size,o,none⟩=some v):Inv P (M.add w.heap.size cs.length cs) w0 σ w':=by
 have hle:=hI.le_add cs.length cs
 refine⟨e1.trans hI.os,e2.trans hI.tape,e3.trans hI.output,Nat.le_trans hI.size hs,fun k hk=>(hold k (Nat.lt_of_lt_of_le hk hI.size)).trans (hI.old k hk),fun b o v hv=> ?_,fun e he=>⟨(hI.st e he).1,?_⟩,hI.nd,fun g l e=>(hI.gl g l e).mono hle,hI.gw,fun b o v hv hlt=>hI.bm b o v (by simp only[Mem.add]at hv;rwa [if_neg (by have:=hI.size;omega)]at hv) hlt⟩
 ·simp only[Mem.add]at hv
  split at hv
  ·rename_i e
   subst e
   split at hv
   ·exact hc o v hv
   ·cases hv
  ·have h1:=hI.imm b o v hv
   have hb:b<w.heap.size:=by simpa using World.block_lt_of_cell? _ _ h1
   rw[← h1]
   simp only[World.cell?,hold b hb]
 ·obtain⟨tg,b,x⟩:=e
  have hk:=(hI.st _ he).2
  have hlt:b<w.heap.size:=hI.lt_of he
  have hne:b≠w.heap.size:=by omega
  have hk2:=hk.heap (hold b hlt)
  cases x with
  |cells l=>obtain⟨h1,cs',t',h2,h3⟩:=hk2;exact⟨fun o=>by simp[Mem.add,hne,h1 o],cs',t',h2,h3.mono hle⟩
  |tail u' c=>obtain⟨h1,cs',t',h2,h3⟩:=hk2;exact⟨fun o ho=>by simp[Mem.add,hne,h1 o ho],cs',t',h2,h3⟩
  |map es k=>obtain⟨h1,l,h2,h3,h4⟩:=hk2;exact⟨fun o=>by simp[Mem.add,hne,h1 o],l,h2,h3,h4.mono hle⟩
theorem OpP_cvsb{src dst e ty:TypeId}{x:Operand}{s:ByteArray}{q:TI}(hs0:s.size≤9223372036854775806):OpP P (.convert src dst x) ty [.str,q,.sl e,.int .u8] [x] [.v (.string s)] (.sl true 1 (s.data.toList.map byteRow)):=⟨fun σ hti M w0 w ρ hI hR=>by
 simp only[opInfo,List.cons.injEq,and_true]at hti
 have hs:=tiOf_str hti.1
 have hd:=tiOf_sl hti.2.2.1
 have he:P.underlying e=some (.int .u8):=by
  have:=hti.2.2.2
  unfold elU at this
  rw[hd]at this
  exact tiOf_int this
 obtain⟨u,hu,hx⟩:=hR.un1
 simp only[List.map_cons,List.map_nil,List.cons.injEq,and_true]at hu
 have hxv:=hx.of_v
 subst hxv
 let q0:=Question.appendCap s.size 0 e
 let cap:=q0.cut (w.tape w.drawn q0)
 have hcap:cap=s.size+w.tape w.drawn q0 % (2 ^ 63-s.size):=rfl
 have hmod:w.tape w.drawn q0 % (2 ^ 63-s.size)<2 ^ 63-s.size:=Nat.mod_lt _ (by omega)
 let arr:Array Value:=s.data.map (fun b=>Value.int .u8 b.toNat)++Array.replicate (cap-s.size) (.int .u8 0)
 let w1:World:=w.drew.alloc (.cells arr e)
 let w2:World:=w1.freeze ⟨w.heap.size,arr.size,none⟩ 1
 let cs:List Value:=s.data.toList.map (fun b=>Value.int .u8 b.toNat)
 have hlen:cs.length=s.size:=by simp[cs]
 have hfz:∀ k,k≠w.heap.size→w2.heap[k]? =w1.heap[k]? :=fun k hk=>by
  have hk':¬w.heap.size=k:=fun e=>hk e.symm
  simp only[w2,World.freeze,Nat.one_ne_zero,if_false,Array.getElem?_modify,if_neg hk']
 have h1:w1.heap[w.heap.size]? =some (.cells arr e):=heap_alloc_new w.drew _
 have h2:∃ f,w2.heap[w.heap.size]? =some (.cells arr e f):=by
  simp only[w2,World.freeze,Nat.one_ne_zero,if_false,Array.getElem?_modify,if_true,h1,Option.map_some]
  exact⟨_,rfl⟩
 have hold:∀ k,k<w.heap.size→w2.heap[k]? =w.heap[k]? :=fun k hk=>(hfz k (by omega)).trans (heap_alloc_lt w.drew _ k hk)
 have hcell:∀ o v,cs[o]? =some v→w2.cell? ⟨w.heap.size,o,none⟩=some v:=fun o v hv=>by
  obtain⟨f,h2⟩:=h2
  simp only[World.cell?,h2,Option.isSome_none,Bool.false_eq_true,if_false,arr]
  have ho:o<s.size:=by rw[← hlen];exact(List.getElem?_eq_some_iff.1 hv).1
  rw[Array.getElem?_append_left (by simpa using ho)]
  rw[← hv]
  simp[cs]
 have hI2:Inv P (M.add w.heap.size cs.length cs) w0 σ w2:=Inv.newImm (w':=w2) hI rfl rfl rfl (by simp[w2,World.freeze,w1]) hold cs hcell
 refine⟨.value (.slice (some ⟨w.heap.size,0,none⟩) s.size cap),w2,_,.sl true 1 (s.data.toList.map byteRow),_,σ,?_,rfl,hI.le_add _ _,hI2,?_,rfl,rfl⟩
 ·have hf:q0.forced=false:=rfl
  have hsh:w1.shape? w.heap.size=some (e,arr.size):=by simp only[World.shape?,h1]
  simp only[execOp,hu,convert,Sem.run_bind,run_under hs,run_under hd,run_under he,Result.andThen_ok,Conv.stringToBytes,newRow,markStringish]
  simp[choose,Sem.run,Sem.bind,Bind.bind,Pure.pure,Question.forced,newObj,shape,freeze]
  erw [hsh]
  rfl
 ·have hr:Rows (M.add w.heap.size cs.length cs) w.heap.size 0 1 (s.data.toList.map byteRow) (fun k=>cs.getD k undef):=by
   refine Rows.of_flat (fun i hi=>by simp[byteRow]) ?_ (fun k v hv=> ?_)
   ·have:∀ l:List UInt8,RL (M.add w.heap.size cs.length cs) (l.map byteRow).flatten (l.map fun b=>Value.int .u8 b.toNat):=by
     intro l
     induction l with
     |nil=>exact RL.nil
     |cons b l ih=>exact RL.cons (.v _) ih
    exact this _
   ·have hk:k<cs.length:=(List.getElem?_eq_some_iff.1 hv).1
    simp only[Mem.add,if_true,Nat.zero_add]
    rw[if_pos hk];exact hv
  have:=R.mk_sl (cap:=cap) hr (by simp;omega) (by unfold maxLen;omega) true
  simpa using this⟩
end
def plainK:TI→Option TypeDesc
 | .int k=>some (.int k)
 | .str=>some .string
 |_=>none
theorem plainK_eq{q:TI}{kd:TypeDesc}{d:Option TypeDesc}(h:plainK q=some kd)(ht:tiOf d=q):d=some kd:=by
 unfold plainK at h
 split at h
 ·cases h;exact tiOf_int ht
 ·cases h;exact tiOf_str ht
 ·cases h
def findA(kd:TypeDesc)(k:Value):List (Value×Nat×AV)→Option (Option AV)
 |[]=>some none
 |e::es=>match Instr.sameNow kd k e.1 with
  |some true=>some (some e.2.2)
  |some false=>findA kd k es
  |none=>none
theorem findA_none{M:Mem}{kd:TypeDesc}{k:Value}:∀ {es:List (Value×Nat×AV)} {l:List MapEntry} (i:Nat),l.map (fun e=>(e.key,e.born))=es.map (fun e=>(e.1,e.2.1))→findA kd k es=some none→Instr.findNow kd k l i=some none
 |[],l,i,hk,_=>by
  have:l=[]:=by simpa using hk
  subst this;rfl
 |e::es,l,i,hk,h=>by
  cases l with
  |nil=>simp at hk
  |cons m l=>
   simp only[List.map_cons,List.cons.injEq,Prod.mk.injEq]at hk
   simp only[findA]at h
   simp only[Instr.findNow,hk.1.1]
   split at h
   ·cases h
   ·rename_i e1;rw[e1];exact findA_none (M:=M) (i+1) hk.2 h
   ·cases h
theorem findA_some{M:Mem}{kd:TypeDesc}{k:Value}{x:AV}:∀ {es:List (Value×Nat×AV)} {l:List MapEntry} (i:Nat),l.map (fun e=>(e.key,e.born))=es.map (fun e=>(e.1,e.2.1))→RL M (es.map (·.2.2)) (l.map (·.val))→findA kd k es=some (some x)→
  ∃ j v,Instr.findNow kd k l i=some (some (j,v))∧R M x v
 |[],l,i,_,_,h=>by cases h
 |e::es,l,i,hk,hR,h=>by
  cases l with
  |nil=>simp at hk
  |cons m l=>
   simp only[List.map_cons,List.cons.injEq,Prod.mk.injEq]at hk
   obtain⟨v,vs,hv,hx,hR2⟩:=RL.uncons (x:=e.2.2) (xs:=es.map (·.2.2)) hR
   simp only[List.map_cons,List.cons.injEq]at hv
   obtain⟨hv1,rfl⟩:=hv
   simp only[findA]at h
   simp only[Instr.findNow,hk.1.1]
   split at h
   ·rename_i e1
    cases h
    rw[e1]
    exact⟨i,m.val,rfl,by rw[hv1];exact hx⟩
   ·rename_i e1;rw[e1];exact findA_some (i+1) hk.2 hR2 h
   ·cases h
section
variable {P:Program}[Glob P]{M:Mem}{w0:Base}{w:World}{σ:Store}
theorem run_checkKey{b:Bool}{n:Nat}{q:TI}{kd:TypeDesc}{kt:TypeId}{v:Value}(hp:plainK q=some kd)(hk:P.underlying kt=some kd):(Instr.checkKey b (n+1) kt v).run P w= .ok () w:=by
 unfold plainK at hp
 split at hp
 ·cases hp;cases v<;>simp[Instr.checkKey,run_under hk]
 ·cases hp;cases v<;>simp[Instr.checkKey,run_under hk]
 ·cases hp
theorem Inv.getMap{tg b k:Nat}{es:List (Value×Nat×AV)}(hI:Inv P M w0 σ w)(hb:lkt σ tg=some (b,.map es k)):
  (∀ o,M b o=none)∧∃ l:List MapEntry,w.heap[b]? =some (.map l.toArray k)∧l.map (fun e=>(e.key,e.born))=es.map (fun e=>(e.1,e.2.1))∧RL M (es.map (·.2.2)) (l.map (·.val)):=(hI.st _ (lkt_mem hb)).2
theorem OpS_mkmap(tag:Nat){t ty:TypeId}{ti:List TI}:OpS P (.makeMap t none) ty ti [] [] σ fun x σ'=>∃ b,x= .mpt tag b∧σ'=(tag,b,.map [] 0)::σ:=by
 intro _ M w0 w ρ hI _
 refine⟨.value (.map (some w.heap.size)),w.alloc (.map #[] 0),M,.mpt tag w.heap.size,_,_,?_,rfl,Mem.le.refl _,?_,.mpt _ _,_,rfl,rfl⟩
 ·simp[execOp,Instr.makeMap,newObj]
  rfl
 ·have h':=hI.alloc (.map #[] 0)
  refine⟨h'.os,h'.tape,h'.output,h'.size,h'.old,h'.imm,fun e he=> ?_,?_,h'.gl,h'.gw,h'.bm⟩
  ·rcases List.mem_cons.1 he with rfl|he
   ·exact⟨hI.size,hI.freshM,[],heap_alloc_new _ _,rfl,RL.nil⟩
   ·exact h'.st e he
  ·simp only[List.map_cons,List.nodup_cons]
   exact⟨hI.fresh,hI.nd⟩
theorem OpS_ins{tg b clk:Nat}{es:List (Value×Nat×AV)}{t ty kt vt:TypeId}{q:TI}{kd:TypeDesc}{m k x:Operand}{key:Value}{v:AV}(hp:plainK q=some kd)(hl:lkt σ tg=some (b,.map es clk))(hf:findA kd key es=some none):
  OpS P (.insert t m k x) ty [.mp kt vt,q] [m,k,x] [.mpt tg b,.v key,v] σ fun y σ'=>y= .v undef∧σ'=upt σ tg b (.map (es++[(key,clk,v)]) (clk+1)):=by
 intro hti M w0 w ρ hI hR
 simp only[opInfo,List.cons.injEq,and_true]at hti
 have ht:=tiOf_mp hti.1
 have hk:P.underlying kt=some kd:=by
  have:=hti.2
  unfold keyU at this
  rw[ht]at this
  exact plainK_eq hp this
 obtain⟨v1,vs1,e1,h1,hR1⟩:=hR.uncons
 obtain⟨v2,vs2,e2,h2,hR2⟩:=hR1.uncons
 obtain⟨v3,e3,h3⟩:=hR2.un1
 subst e3 e2
 simp only[List.map_cons,List.map_nil,List.cons.injEq,and_true]at e1
 obtain⟨hM,l,hh,hkeys,hvals⟩:=hI.getMap hl
 have g1:=h1.of_mpt
 have g2:=h2.of_v
 subst g1 g2
 have hfn:=findA_none (M:=M) 0 hkeys hf
 let w':World:={w with heap:=w.heap.setIfInBounds b (.map (l++[(⟨v2,v3,clk⟩:MapEntry)]).toArray (clk+1))}
 have hlt:b<w.heap.size:=(Array.getElem?_eq_some_iff.1 hh).1
 refine⟨.skip,w',M,.v undef,undef,_,?_,rfl,Mem.le.refl _,?_,.v _,rfl,rfl⟩
 ·have hu:l.toArray.push (⟨v2,v3,clk⟩:MapEntry)=(l++[(⟨v2,v3,clk⟩:MapEntry)]).toArray:=by apply Array.ext';simp
  simp only[execOp,e1.1,e1.2.1,e1.2.2,Instr.mapUpdate,Sem.run_bind,run_under ht,Result.andThen_ok,getObj,Sem.run,hh,run_checkKey hp hk,Instr.findKey,run_under hk,hfn,Sem.run_pure,setObj,hu]
  rfl
 ·refine hI.upd (y:= .map (es++[(v2,clk,v)]) (clk+1)) hl (fun k hk=> ?_) rfl rfl rfl (by simp[w']) hM ⟨hM,l++[⟨v2,v3,clk⟩],?_,?_,?_⟩
  ·simp only[w']
   rw[Array.getElem?_setIfInBounds_ne (fun e=>hk e.symm)]
  ·simp only[w']
   rw[Array.getElem?_setIfInBounds_self_of_lt hlt]
  ·simp[hkeys]
  ·simp only[List.map_append,List.map_cons,List.map_nil]
   exact RL.append hvals (RL.cons h3 RL.nil)
theorem OpS_lk{tg b clk:Nat}{es:List (Value×Nat×AV)}{t ty kt vt:TypeId}{q:TI}{kd:TypeDesc}{m k:Operand}{key:Value}{v:AV}(hp:plainK q=some kd)(hl:lkt σ tg=some (b,.map es clk))(hf:findA kd key es=some (some v)):
  OpS P (.lookup t m k false) ty [.mp kt vt,q] [m,k] [.mpt tg b,.v key] σ fun y σ'=>y=v∧σ'=σ:=by
 intro hti M w0 w ρ hI hR
 simp only[opInfo,List.cons.injEq,and_true]at hti
 have ht:=tiOf_mp hti.1
 have hk:P.underlying kt=some kd:=by
  have:=hti.2
  unfold keyU at this
  rw[ht]at this
  exact plainK_eq hp this
 obtain⟨v1,vs1,e1,h1,hR1⟩:=hR.uncons
 obtain⟨v2,e2,h2⟩:=hR1.un1
 subst e2
 simp only[List.map_cons,List.map_nil,List.cons.injEq,and_true]at e1
 obtain⟨hM,l,hh,hkeys,hvals⟩:=hI.getMap hl
 have g1:=h1.of_mpt
 have g2:=h2.of_v
 subst g1 g2
 obtain⟨j,u,hfn,hu⟩:=findA_some (M:=M) 0 hkeys hvals hf
 refine⟨.value u,w,M,v,u,σ,?_,rfl,Mem.le.refl _,hI,hu,rfl,rfl⟩
 simp only[execOp,e1.1,e1.2,Instr.lookup,Sem.run_bind,run_under ht,Result.andThen_ok,getObj,Sem.run,hh,run_checkKey hp hk,Instr.findKey,run_under hk,hfn,Sem.run_pure]
 rfl
end
section
variable {P:Program}[Glob P]{N:Nat}{cfg:Nat→Nat}{Q:Exit→Regs→Store→Prop}{K:Regs→Store→Prop}{E:List PanicEntry→Store→Prop}{rg:Regs}{σ σ':Store}{l:List CI}{d:Nat}{v:AV}{xr xr':XR}{ps:List Prop}
 {als cf:List Nat} {ix:Nat} {ld:List CD} {g:Option (Nat×Bool)} {og:Option Bool} {as:List AV} {args:List Operand} {op:Op} {ty:TypeId} {ti:List TI}
theorem argO_none(h:argO xr none args=some (og,as,ps)):og=none:=by
 unfold argO gX at h
 obtain⟨ps',h',_,_⟩:=needs_eq h
 split at h'<;>cases h';rfl
theorem VX_extq{r:AV}(h:argO xr g args=some (og,as,ps))(hp:og.getD true=true→OpP P op ty ti args as r)(hps:OB ps)(k:VX P cfg l K E (putX og d r xr) σ):VX P cfg (⟨some d,.extq op ty ti args,g⟩::l) K E xr σ:=by
 obtain⟨hc,he⟩:=argO_eq h
 refine VX_gen hc (fun hg=> ?_) (fun hg=> ?_)
 ·simp only[vcO,he hps hg]
  refine((hp hg).sp σ).mono fun x σ' ⟨e1,e2⟩=> ?_
  subst e1 e2;rw[← putX_t hg];exact k.h
 ·rw[← putX_f hg (v:=r)];exact k.h
theorem VY_extq{r:AV}(h:argO xr g args=some (og,as,ps))(hp:og.getD true=true→OpP P op ty ti args as r)(hps:OB ps)(k:VY P cfg als ld K (putX og d r xr) σ):VY P cfg als (⟨ix,⟨some d,.extq op ty ti args,g⟩,cf⟩::ld) K xr σ:=by
 obtain⟨hc,he⟩:=argO_eq h
 refine VY_gen hc (fun hg=> ?_) (fun hg=> ?_)
 ·simp only[vcOD,IOp.cls,vcOQ,he hps hg]
  refine⟨r,hp hg,?_⟩
  have:=k.h;rw[putX_t hg]at this;exact this
 ·rw[← putX_f hg (v:=r)];exact k.h
theorem VX_sls{t:TypeId}{x:Operand}{lo hi:Option Operand}{s:ByteArray}{a b:Int}(h:argO xr g args=some (og,as,ps))(he:args=x::(lo.toList++hi.toList))(hs:slsO lo hi as=some (s,a,b))(hps:OB ps)
  (hb:og.getD true=true→0≤a∧a≤b∧b≤s.size) (k:VX P cfg l K E (putX og d (.v (.string (s.extract a.toNat b.toNat))) xr) σ):VX P cfg (⟨some d,.extq (.slice t x lo hi none) ty [.str] args,g⟩::l) K E xr σ:=
 VX_extq h (fun hg=>by subst he;exact OpP_sls hs (hb hg)) hps k
theorem VY_sls{t:TypeId}{x:Operand}{lo hi:Option Operand}{s:ByteArray}{a b:Int}(h:argO xr g args=some (og,as,ps))(he:args=x::(lo.toList++hi.toList))(hs:slsO lo hi as=some (s,a,b))(hps:OB ps)
  (hb:og.getD true=true→0≤a∧a≤b∧b≤s.size) (k:VY P cfg als ld K (putX og d (.v (.string (s.extract a.toNat b.toNat))) xr) σ):VY P cfg als (⟨ix,⟨some d,.extq (.slice t x lo hi none) ty [.str] args,g⟩,cf⟩::ld) K xr σ:=
 VY_extq h (fun hg=>by subst he;exact OpP_sls hs (hb hg)) hps k
def noStr:AV→Bool
 | .v (.string _)=>false
 |_=>true
theorem noStr_eq(h:noStr v=true):¬∃ s,v= .v (.string s):=fun⟨s,e⟩=>by subst e;cases h
theorem VX_cvbm{src dst e:TypeId}{x:Operand}{q:TI}{ls:List UInt8}(h:argO xr g [x]=some (og,[v],ps))(hv:rowsV 1 v=some (ls.map byteRow))(hn:noStr v=true)(hps:OB ps)
  (k:VX P cfg l K E (putX og d (.v (.string ⟨ls.toArray⟩)) xr) σ):VX P cfg (⟨some d,.extq (.convert src dst x) ty [.sl e,.int .u8,.str,q] [x],g⟩::l) K E xr σ:=
 VX_extq h (fun _=>by have:=OpP_cvbs (P:=P) (src:=src) (dst:=dst) (e:=e) (ty:=ty) (x:=x) (q:=q) hv (noStr_eq hn) (u8s_map ls);rwa [bytesI_map]at this) hps k
theorem VY_cvbm{src dst e:TypeId}{x:Operand}{q:TI}{ls:List UInt8}(h:argO xr g [x]=some (og,[v],ps))(hv:rowsV 1 v=some (ls.map byteRow))(hn:noStr v=true)(hps:OB ps)
  (k:VY P cfg als ld K (putX og d (.v (.string ⟨ls.toArray⟩)) xr) σ):VY P cfg als (⟨ix,⟨some d,.extq (.convert src dst x) ty [.sl e,.int .u8,.str,q] [x],g⟩,cf⟩::ld) K xr σ:=
 VY_extq h (fun _=>by have:=OpP_cvbs (P:=P) (src:=src) (dst:=dst) (e:=e) (ty:=ty) (x:=x) (q:=q) hv (noStr_eq hn) (u8s_map ls);rwa [bytesI_map]at this) hps k
theorem VX_cvsb{src dst e:TypeId}{x:Operand}{q:TI}{s:ByteArray}(h:argO xr g [x]=some (og,[.v (.string s)],ps))(hps:OB ps)(hb:og.getD true=true→s.size≤9223372036854775806)
  (k:VX P cfg l K E (putX og d (.sl true 1 (s.data.toList.map byteRow)) xr) σ):VX P cfg (⟨some d,.extq (.convert src dst x) ty [.str,q,.sl e,.int .u8] [x],g⟩::l) K E xr σ:=
 VX_extq h (fun hg=>OpP_cvsb (hb hg)) hps k
theorem VY_cvsb{src dst e:TypeId}{x:Operand}{q:TI}{s:ByteArray}(h:argO xr g [x]=some (og,[.v (.string s)],ps))(hps:OB ps)(hb:og.getD true=true→s.size≤9223372036854775806)
  (k:VY P cfg als ld K (putX og d (.sl true 1 (s.data.toList.map byteRow)) xr) σ):VY P cfg als (⟨ix,⟨some d,.extq (.convert src dst x) ty [.str,q,.sl e,.int .u8] [x],g⟩,cf⟩::ld) K xr σ:=
 VY_extq h (fun hg=>OpP_cvsb (hb hg)) hps k
def byteAt(s:ByteArray)(i:Nat):UInt8:=s.data.toList.getD i 0
theorem VX_idx{x i:Operand}{s:ByteArray}{iv:AV}{n:Int}(h:argO xr g [x,i]=some (og,[.v (.string s),iv],ps))(hi:intO iv=some n)(hps:OB ps)(hb:og.getD true=true→0≤n∧n<s.size)
  (k:VX P cfg l K E (putX og d (.v (.int .u8 (byteAt s n.toNat).toNat)) xr) σ):VX P cfg (⟨some d,.idxs x i,g⟩::l) K E xr σ:=by
 obtain⟨hc,he⟩:=argO_eq h
 refine VX_gen hc (fun hg=> ?_) (fun hg=> ?_)
 ·have:=he hps hg
  simp only[evs,List.cons.injEq,and_true]at this
  obtain⟨q,hq⟩:=intO_eq hi
  simp only[vcO,this.1,this.2,hq]
  have hlt:=hb hg
  refine⟨hlt,?_⟩
  have hk:=k.h
  rw[putX_t hg]at hk
  have e:byteAt s n.toNat=s[n.toNat]'(by omega):=by
   have h2:n.toNat<s.data.toList.length:=by rw[Array.length_toList];have:s.size=s.data.size:=rfl;omega
   simp only[byteAt,List.getD_eq_getElem?_getD,List.getElem?_eq_getElem h2,Option.getD_some]
   rfl
  rw[e]at hk
  exact hk
 ·rw[← putX_f hg (v:= .v (.int .u8 (byteAt s n.toNat).toNat))];exact k.h
theorem VY_idx{x i:Operand}{s:ByteArray}{iv:AV}{n:Int}(h:argO xr g [x,i]=some (og,[.v (.string s),iv],ps))(hi:intO iv=some n)(hps:OB ps)(hb:og.getD true=true→0≤n∧n<s.size)
  (k:VY P cfg als ld K (putX og d (.v (.int .u8 (byteAt s n.toNat).toNat)) xr) σ):VY P cfg als (⟨ix,⟨some d,.idxs x i,g⟩,cf⟩::ld) K xr σ:=by
 obtain⟨hc,he⟩:=argO_eq h
 refine VY_gen hc (fun hg=> ?_) (fun hg=> ?_)
 ·have:=he hps hg
  simp only[evs,List.cons.injEq,and_true]at this
  obtain⟨q,hq⟩:=intO_eq hi
  simp only[vcOD,IOp.cls,vcOQ,vcO,this.1,this.2,hq]
  have hlt:=hb hg
  refine⟨hlt,?_⟩
  have hk:=k.h
  rw[putX_t hg]at hk
  have e:byteAt s n.toNat=s[n.toNat]'(by omega):=by
   have h2:n.toNat<s.data.toList.length:=by rw[Array.length_toList];have:s.size=s.data.size:=rfl;omega
   simp only[byteAt,List.getD_eq_getElem?_getD,List.getElem?_eq_getElem h2,Option.getD_some]
   rfl
  rw[e]at hk
  exact hk
 ·rw[← putX_f hg (v:= .v (.int .u8 (byteAt s n.toNat).toNat))];exact k.h
theorem VX_mkmap{t:TypeId}(k:∀ b,VX P cfg l K E ((d,.s (.mpt d b))::xr) ((d,b,.map [] 0)::σ)):VX P cfg (⟨some d,.exts (.makeMap t none) ty ti [],none⟩::l) K E xr σ:=by
 constructor
 simp only[vcX,vcG,vcO,evs]
 refine(OpS_mkmap d).mono fun x σ' ⟨b,e1,e2⟩=> ?_
 subst e1 e2
 exact(k b).h
theorem VX_ins{t kt vt:TypeId}{q:TI}{kd:TypeDesc}{m k x:Operand}{tg b b' clk:Nat}{es:List (Value×Nat×AV)}{key:Value}(h:argO xr none [m,k,x]=some (og,[.mpt tg b,.v key,v],ps))(hp:plainK q=some kd)(hl:lkt σ tg=some (b',.map es clk))(hb:b=b')
  (hf:findA kd key es=some none) (hu:updS σ tg b (.map (es++[(key,clk,v)]) (clk+1))=some σ') (hps:OB ps) (kk:VX P cfg l K E xr σ'):VX P cfg (⟨none,.exts (.insert t m k x) ty [.mp kt vt,q] [m,k,x],none⟩::l) K E xr σ:=by
 obtain⟨hc,he⟩:=argO_eq h
 have hog:=argO_none h
 subst hog
 subst hb
 constructor
 simp only[vcX,vcG,vcO,he hps rfl]
 refine(OpS_ins hp hl hf).mono fun y s ⟨e1,e2⟩=> ?_
 rw[updS_eq hu]at e2
 subst e1 e2
 exact kk.h
theorem VX_lk{t kt vt:TypeId}{q:TI}{kd:TypeDesc}{m k:Operand}{tg b b' clk:Nat}{es:List (Value×Nat×AV)}{key:Value}(h:argO xr none [m,k]=some (og,[.mpt tg b,.v key],ps))(hp:plainK q=some kd)(hl:lkt σ tg=some (b',.map es clk))(hb:b=b')
  (hf:findA kd key es=some (some v)) (hps:OB ps) (kk:VX P cfg l K E ((d,.s v)::xr) σ):VX P cfg (⟨some d,.extq (.lookup t m k false) ty [.mp kt vt,q] [m,k],none⟩::l) K E xr σ:=by
 obtain⟨hc,he⟩:=argO_eq h
 have hog:=argO_none h
 subst hog
 subst hb
 constructor
 simp only[vcX,vcG,vcO,he hps rfl]
 refine(OpS_lk hp hl hf).mono fun y s ⟨e1,e2⟩=> ?_
 subst e1 e2
 exact kk.h
theorem VX_callc{f:FuncId}{r:AV}{fo:Operand}{a c:List AV}(h:argO xr g (fo::args)=some (og,.cl f a c::as,ps))(hcl:callable P f=true)(hp:og.getD true=true→Pure P f (a++as++c) r)(hps:OB ps)(k:VX P cfg l K E (putX og d r xr) σ):
  VX P cfg (⟨some d,.callv fo args,g⟩::l) K E xr σ:=by
 obtain⟨hc,he⟩:=argO_eq h
 refine VX_gen hc (fun hg=> ?_) (fun hg=> ?_)
 ·have:=he hps hg
  simp only[evs,List.cons.injEq]at this
  simp only[vcO,this.1,this.2]
  refine⟨hcl,callP_pure (hp hg) ?_⟩
  rw[← putX_t hg];exact k.h
 ·rw[← putX_f hg (v:=r)];exact k.h
theorem VY_callc{f:FuncId}{r:AV}{fo:Operand}{a c:List AV}(h:argO xr g (fo::args)=some (og,.cl f a c::as,ps))(hcl:callable P f=true)(hp:og.getD true=true→Pure P f (a++as++c) r)(hps:OB ps)(k:VY P cfg als ld K (putX og d r xr) σ):
  VY P cfg als (⟨ix,⟨some d,.callv fo args,g⟩,cf⟩::ld) K xr σ:=by
 obtain⟨hc,he⟩:=argO_eq h
 refine VY_gen hc (fun hg=> ?_) (fun hg=> ?_)
 ·have:=he hps hg
  simp only[evs,List.cons.injEq]at this
  simp only[vcOD,IOp.cls,vcOQ,this.1,this.2]
  refine⟨hcl,r,hp hg,?_⟩
  have:=k.h;rw[putX_t hg]at this;exact this
 ·rw[← putX_f hg (v:=r)];exact k.h
end
end Go.Sx
