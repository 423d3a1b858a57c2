/-
  The layer Sx, third part: how operations are compiled, and that their conditions are sound.
-/
import Derived.Test.YtekngilbecjkhaaGreatDoorSxCore
set_option linter.unusedVariables false
set_option linter.unusedSimpArgs false
set_option linter.unusedSectionVars false
namespace Go.Sx
open Go.RowKit
def aggT(P:Program)[Glob P](t:TypeId):Option (Bool×Nat):=
 match P.underlying t,P.info? t with
 |some (.struct _),some i|some (.array _ _),some i=>some (true,i.size)
 |some _,some i=>some (false,i.size)
 |_,_=>none
def placesS(P:Program)[Glob P](fs:List Field):List (Nat×Operand)→Option (List (Nat×Nat×Operand))
 |[]=>some []
 |(i,x)::l=>match fs[i]? with
  |some f=>match P.info? f.type with
   |some k=>(placesS P fs l).map ((f.offset,k.size,x)::·)
   |none=>none
  |none=>none
def leafKs(P:Program)[Glob P](n:Nat):List Field→Option (List LeafK)
 |[]=>some []
 |f::fs=>if f.name≠ "_" ∧f.offset=n then
   match P.underlying f.type with
   |some (.int _)=>(leafKs P (n+1) fs).map (.int::·)
   |some .string=>(leafKs P (n+1) fs).map (.str::·)
   |some .bool=>(leafKs P (n+1) fs).map (.bool::·)
   |_=>none
  else none
def compEq(P:Program)[Glob P](neg:Bool)(t:TypeId)(x y:Operand):Option IOp:=
 match P.underlying t with
 |some (.int _)|some .string=>some (.bin (if neg then .neq else .eql) x y)
 |some (.struct fs)=>if P.stoodInHeld t=false∧P.eqGuardType P.depth t=false then(leafKs P 0 fs.toList).map fun ks=> .eqs neg ks x y else none
 |some .bool=>some (.eqb neg .bool x y)
 |some (.slice _)=>some (.eqb neg .slice x y)
 |some (.map _ _)=>some (.eqb neg .map x y)
 |some (.func _ _ _)=>some (.eqb neg .func x y)
 |some (.pointer _)=>some (.eqb neg .ptr x y)
 |_=>none
def compCall(P:Program)[Glob P](c:Call):Option IOp:=
 match c.callee with
 | .value (.func f)=>if callable P f then some (.call f c.args.toList)else none
 | .value f=>some (.callv f c.args.toList)
 | .builtin .len=>match c.args.toList,c.argTypes.toList with
  |[x],[t]=>match P.underlying t with
   |some .string=>some (.len true x)
   |some (.slice _)=>some (.len false x)
   |_=>none
  |_,_=>none
 | .builtin .append=>match c.args.toList,c.argTypes.toList with
  |[x,y],[t,u]=>match P.underlying t,P.underlying u with
   |some (.slice e),some (.slice _)=>match P.info? e with
    |some i=>match i.zero with
     |some z=>if 0<i.size∧0<i.bytes∧z.cells.size=i.size then some (.append e i.size i.bytes z.cells.toList x y)else none
     |none=>none
    |none=>none
   |some (.slice e),some .string=>match P.info? e with
    |some i=>match i.zero with
     |some z=>if 0<i.size∧0<i.bytes∧z.cells.size=i.size then some (.append e i.size i.bytes z.cells.toList x y)else none
     |none=>none
    |none=>none
   |_,_=>none
  |_,_=>none
 | .builtin .max=>match c.args.toList with
  |[x,y]=>some (.max2 x y)
  |_=>none
 | .builtin .min=>match c.args.toList with
  |[x,y]=>some (.min2 x y)
  |_=>none
 |_=>none
def compO(P:Program)[Glob P](o:Oper):Option IOp:=
 match o.op with
 | .move x| .assign x=>some (.mv x)
 | .pick c a b=>some (.pick c a b)
 | .alloc e=>match P.info? e with
  |some i=>i.zero.map (.alloc e ·)
  |none=>none
 | .box e x=>some (.box e x)
 | .build t parts=>match P.underlying t,P.info? t with
  |some (.struct fs),some i=>if fs.toList.all (fun f=>(P.info? f.type).isSome)then
    match i.zero,placesS P fs.toList parts.toList with
    |some z,some ps=>some (.build z.cells.toList ps)
    |_,_=>none
   else none
  |_,_=>none
 | .buildSlice t n parts=>match P.underlying t with
  |some (.slice e)=>match P.info? e with
   |some i=>match i.zero with
    |some z=>if parts.toList.map (·.1)=List.range n∧n * i.size≤16777216∧z.cells.size=i.size then some (.mksl e i.size (parts.toList.map (·.2)))else none
    |none=>none
   |none=>none
  |_=>none
 | .load t x=>(aggT P t).map fun(g,n)=> .load g n x
 | .store t x v=>(aggT P t).map fun(_,n)=> .store n x v
 | .nilCheck x=>some (.nilck x)
 | .binOp .eql t x y _=>compEq P false t x y
 | .binOp .neq t x y _=>compEq P true t x y
 | .binOp op _ x y _=>some (.bin op x y)
 | .unOp op _ x=>some (.un op x)
 | .convert src dst x=>match P.underlying src,P.underlying dst with
  |some (.int _),some (.int k)=>some (.cvint k x)
  |some .string,some .string=>some (.cvstr x)
  |_,_=>some (.extq (.convert src dst x) o.type (opInfo P o.op) [x])
 | .makeInterface t x=>match P.underlying t with
  |some (.interface _)=>none
  |some _=>some (.mkifc t x)
  |none=>none
 | .makeFunc fn first captured=>some (.mkfn fn first.toList captured.toList)
 | .slice t x lo hi none=>match P.underlying t with
  |some (.slice e)=>match P.info? e with
   |some i=>some (.slice i.size x lo hi)
   |none=>none
  |_=>some (.extq (.slice t x lo hi none) o.type (opInfo P o.op) (x::(lo.toList++hi.toList)))
 | .fieldAddr t x i=>match P.underlying t with
  |some (.struct fs)=>match fs[i]? with
   |some f=>match P.info? f.type with
    |some k=>if k.size≠0 then some (.faddr f.offset x)else none
    |none=>none
   |none=>none
  |_=>none
 | .field t x i=>match P.underlying t with
  |some (.struct fs)=>match fs[i]? with
   |some f=>(aggT P f.type).map fun(g,n)=> .field g f.offset n x
   |none=>none
  |_=>none
 | .indexAddr t x i=>match P.underlying t with
  |some (.slice e)=>match P.info? e with
   |some k=>some (.iaddr k.size x i)
   |none=>none
  |some (.array n e)=>match P.info? e with
   |some k=>some (.iaddrA n k.size x i)
   |none=>none
  |_=>none
 | .index t x i=>match P.underlying t with
  |some .string=>some (.idxs x i)
  |_=>some (.extq (.index t x i) o.type (opInfo P o.op) [x,i])
 | .makeMap t none=>some (.exts (.makeMap t none) o.type (opInfo P o.op) [])
 | .insert t m k x=>some (.exts (.insert t m k x) o.type (opInfo P o.op) [m,k,x])
 | .mapUpdate t m k x=>some (.exts (.mapUpdate t m k x) o.type (opInfo P o.op) [m,k,x])
 | .mapEntry t m k=>some (.exts (.mapEntry t m k) o.type (opInfo P o.op) [m,k])
 | .entryStore t m s x=>some (.exts (.entryStore t m s x) o.type (opInfo P o.op) [m,s,x])
 | .lookup t m k ok=>some (.extq (.lookup t m k ok) o.type (opInfo P o.op) [m,k])
 | .makeSlice t n c=>some (.exts (.makeSlice t n c) o.type (opInfo P o.op) [n,c])
 | .extract x i=>some (.extract x i)
 | .call c=>match compCall P c with
  |some i=>some i
  |none=>match c.callee with
   | .builtin _=>some (.exts (.call c) o.type (opInfo P o.op) c.args.toList)
   |_=>none
 |_=>none
def Gives(P:Program)[Glob P](M:Mem)(w0:World)(K:AV→Store→Prop)(r:Result Value):Prop:=
 ∃ v w' M' x σ',r= .ok v w'∧M.le M'∧Inv P M' w0 σ' w'∧R M' x v∧K x σ'
section
variable {P:Program}[Glob P]{M:Mem}{w0 w:World}{σ:Store}{K:AV→Store→Prop}{rg:Regs}{a:Act}
theorem Gives.same(hI:Inv P M w0 σ w){x:AV}{v:Value}(hr:R M x v)(hk:K x σ){r:Result Value}(e:r= .ok v w):Gives P M w0 K r:=
 ⟨v,w,M,x,σ,e,Mem.le.refl _,hI,hr,hk⟩
theorem run_under{t:TypeId}{d:TypeDesc}(h:P.underlying t=some d)(w:World):(underlying t).run P w= .ok d w:=run_underlying h w
theorem run_info{t:TypeId}{i:TypeInfo}(h:P.info? t=some i)(w:World):(typeInfo t).run P w= .ok i w:=by simp[typeInfo,h]
theorem run_size{t:TypeId}{i:TypeInfo}(h:P.info? t=some i)(w:World):(sizeOf t).run P w= .ok i.size w:=by simp[sizeOf,run_info h]
theorem run_zero{t:TypeId}{i:TypeInfo}{z:Value}(h:P.info? t=some i)(hz:i.zero=some z)(w:World):(zeroValue t).run P w= .ok z w:=by simp[zeroValue,run_info h,hz]
theorem aggT_run{t:TypeId}{g:Bool}{n:Nat}(h:aggT P t=some (g,n))(w:World):(isAgg t).run P w= .ok g w∧(sizeOf t).run P w= .ok n w:=by
 unfold aggT at h
 split at h
 ·rename_i fs i h1 h2
  simp only[Option.some.injEq,Prod.mk.injEq]at h
  obtain⟨rfl,rfl⟩:=h
  exact⟨by simp[isAgg,run_under h1],run_size h2 w⟩
 ·rename_i m e i h1 h2
  simp only[Option.some.injEq,Prod.mk.injEq]at h
  obtain⟨rfl,rfl⟩:=h
  exact⟨by simp[isAgg,run_under h1],run_size h2 w⟩
 ·rename_i d i h3 h4 h1 h2
  simp only[Option.some.injEq,Prod.mk.injEq]at h
  obtain⟨rfl,rfl⟩:=h
  refine⟨?_,run_size h2 w⟩
  cases d<;>simp[isAgg,run_under h1]<;>first|exact(h3 _ rfl).elim|exact(h4 _ _ rfl).elim
 ·simp at h
theorem Inv.cell{tg b:Nat}{l:List AV}(hI:Inv P M w0 σ w)(hb:lkt σ tg=some (b,.cells l)){o:Nat}{y:AV}(hy:l[o]? =some y):
  ∃ v,w.cell? ⟨b,o,none⟩=some v∧R M y v:=by
 obtain⟨_,_,cs,t,hh,hl⟩:=hI.st _ (lkt_mem hb)
 obtain⟨v,hv,hr⟩:=hl.get hy
 exact⟨v,by simp[World.cell?,hh];simpa using hv,hr⟩
theorem run_loads(b o n:Nat)(cs:List Value)(hn:cs.length=n)(h:∀ i (hi:i<cs.length),w.cell? ⟨b,o+i,none⟩=some cs[i]):(loadCells ⟨b,o,none⟩ n).run P w= .ok cs.toArray w:=by
 subst hn
 have:=run_loadCells_list (P:=P) (w:=w) ⟨b,o,none⟩ cs (fun j v hv=>by
  obtain⟨hj,rfl⟩:=List.getElem?_eq_some_iff.1 hv
  rw[Addr.add_lit];exact h j hj)
 simpa using this
theorem s_load_cells{agg:Bool}{n b o:Nat}{t:TypeId}(ht:aggT P t=some (agg,n))(xs:List AV)(hx:∀ i y,xs[i]? =some y→∃ v,w.cell? ⟨b,o+i,none⟩=some v∧R M y v)
  (h:if agg then n≤xs.length∧K (.agg (xs.take n)) σ else match xs[0]? with
    |some y=>K y σ
    |none=>False):∃ v x,(Instr.loadAt t (.pointer (some ⟨b,o,none⟩))).run P w= .ok v w∧R M x v∧K x σ:=by
 obtain⟨h1,h2⟩:=aggT_run ht w
 simp only[Instr.loadAt,Instr.sureAddr,loadVar,Sem.run_bind,Sem.run_pure,Result.andThen_ok,h1]
 cases agg with
 |true=>
  simp only[if_true]at h
  obtain⟨hl,hk⟩:=h
  have:∃ cs:List Value,RL M (xs.take n) cs∧∀ i (hi:i<cs.length),w.cell? ⟨b,o+i,none⟩=some cs[i]:=by
   generalize hys:xs.take n=ys
   have hy:∀ i y,ys[i]? =some y→∃ v,w.cell? ⟨b,o+i,none⟩=some v∧R M y v:=fun i y e=>by
    subst hys
    rw[List.getElem?_take]at e
    split at e
    ·exact hx i y e
    ·simp at e
   clear hys hx hl hk
   induction ys generalizing o with
   |nil=>exact⟨[],RL.nil,fun i hi=>absurd hi (by simp)⟩
   |cons y ys ih=>
    obtain⟨v,hv,hr⟩:=hy 0 y rfl
    obtain⟨cs,hc,hcs⟩:=ih (o:=o+1) (fun i z e=>by have:=hy (i+1) z (by simpa using e);rwa [show o+1+i=o+(i+1)from by omega])
    refine⟨v::cs,RL.cons hr hc,fun i hi=> ?_⟩
    cases i with
    |zero=>exact hv
    |succ i=>have:=hcs i (by simpa using hi);rw[show o+(i+1)=o+1+i from by omega];simpa using this
  obtain⟨cs,hc,hcs⟩:=this
  have hlen:cs.length=n:=by rw[← hc.1];simp;omega
  simp only[if_true,Sem.run_bind,h2,Result.andThen_ok,run_loads b o n cs hlen hcs,Sem.run_pure]
  exact⟨_,_,rfl,R.mk_agg hc,hk⟩
 |false=>
  simp only[Bool.false_eq_true,if_false]at h ⊢
  cases hx0:xs[0]? with
  |none=>simp[hx0]at h
  |some y=>
   simp only[hx0]at h
   obtain⟨v,hv,hr⟩:=hx 0 y hx0
   simp only[Nat.add_zero]at hv
   simp only[run_load,hv]
   exact⟨_,_,rfl,hr,h⟩
theorem s_load{agg:Bool}{n:Nat}{x:Operand}{t:TypeId}{cfg:Nat→Nat}{d:Option Nat}{E:List PanicEntry→Store→Prop}(ht:aggT P t=some (agg,n))(hI:Inv P M w0 σ w)(hR:RegsOK M rg a)
  (h:vcO P cfg d rg σ K E (.load agg n x)):Gives P M w0 K ((Instr.loadAt t (a.eval x)).run P w):=by
 have hx:=hR.ev x
 simp only[vcO]at h
 split at h
 ·rename_i tg b o he
  rw[he]at hx
  rw[hx.of_lp]
  split at h
  ·rename_i b' l hb
   obtain⟨rfl,h⟩:=h
   suffices hs:∃ v x,(Instr.loadAt t (.pointer (some ⟨b,o,none⟩))).run P w= .ok v w∧R M x v∧K x σ by
    obtain⟨v,x,h1,h2,h3⟩:=hs;exact Gives.same hI h2 h3 h1
   refine s_load_cells ht (l.drop o) (fun i y e=> ?_) ?_
   ·rw[List.getElem?_drop]at e
    exact hI.cell hb e
   ·cases agg with
    |true=>
     simp only[if_true]at h ⊢
     refine⟨by simp;omega,h.2⟩
    |false=>
     simp only[Bool.false_eq_true,if_false]at h ⊢
     rw[List.getElem?_drop,Nat.add_zero]
     exact h
  ·exact h.elim
 ·rename_i l he
  rw[he]at hx
  obtain⟨b,off,cs,hv,hM,hRR⟩:=hx.of_pc
  rw[hv]
  suffices hs:∃ v x,(Instr.loadAt t (.pointer (some ⟨b,off,none⟩))).run P w= .ok v w∧R M x v∧K x σ by
   obtain⟨v,x,h1,h2,h3⟩:=hs;exact Gives.same hI h2 h3 h1
  refine s_load_cells ht l (fun i y e=> ?_) h
  obtain⟨hi,rfl⟩:=List.getElem?_eq_some_iff.1 e
  exact⟨cs i,hI.imm _ _ _ (hM i hi),hRR i hi⟩
 ·rename_i g he
  rw[he]at hx
  rw[hx.of_v]
  split at h
  ·rename_i l hl
   obtain⟨b,off,cs,hv,hM,hRR⟩:=(hI.gl g l hl).of_pc
   cases hv
   suffices hs:∃ v x,(Instr.loadAt t (.pointer (some ⟨g,0,none⟩))).run P w= .ok v w∧R M x v∧K x σ by
    obtain⟨v,x,h1,h2,h3⟩:=hs;exact Gives.same hI h2 h3 h1
   refine s_load_cells ht l (fun i y e=> ?_) h
   obtain⟨hi,rfl⟩:=List.getElem?_eq_some_iff.1 e
   exact⟨cs i,hI.imm _ _ _ (hM i hi),hRR i hi⟩
  ·exact h.elim
 ·exact h.elim
theorem run_stores(b o:Nat)(t:TypeId):∀ (vs:List Value) (cs:Array Value) (i:Nat) (w:World),w.heap[b]? =some (.cells cs t (0,0))→o+i+vs.length≤cs.size→vs.all Value.oneCell'=true→
  ∃ w',(storeCells ⟨b,o,none⟩ vs i).run P w= .ok () w'∧w'.heap[b]? =some (.cells (over cs.toList (o+i) vs).toArray t (0,0))∧(∀ k,k≠b→w'.heap[k]? =w.heap[k]?)∧w'.os=w.os∧w'.tape=w.tape∧w'.output=w.output∧w'.heap.size=w.heap.size
 |[],cs,i,w,hh,_,_=>⟨w,rfl,by simpa[over]using hh,fun _ _=>rfl,rfl,rfl,rfl,rfl⟩
 |v::vs,cs,i,w,hh,hl,h1=>by
  simp only[List.length_cons]at hl
  simp only[List.all_cons,Bool.and_eq_true]at h1
  have hlt:o+i<cs.size:=by omega
  have hc:w.cell? ⟨b,o+i,none⟩=some (cs[o+i]):=by simp[World.cell?,hh,hlt]
  have hf:w.frozen? ⟨b,o+i,none⟩=false:=by simp[World.frozen?,hh]
  have hs:(store (Addr.add ⟨b,o,none⟩ i) v).run P w= .ok () (w.setCell ⟨b,o+i,none⟩ v):=by
   rw[Addr.add_lit,run_store _ _ _ _ _ h1.1,hc]
   simp[hf]
  have hh1:(w.setCell ⟨b,o+i,none⟩ v).heap[b]? =some (.cells (cs.setIfInBounds (o+i) v) t (0,0)):=by
   simp[World.setCell,Array.getElem?_modify,hh]
  obtain⟨w',hr,hw',hk,e1,e2,e3,e4⟩:=run_stores b o t vs (cs.setIfInBounds (o+i) v) (i+1) _ hh1 (by simp;omega) h1.2
  refine⟨w',?_,?_,fun k hkb=> ?_,e1,e2,e3,e4.trans (by simp)⟩
  ·simp only[storeCells,Sem.run_bind,hs,Result.andThen_ok]
   exact hr
  ·rw[hw']
   congr 2
   apply Array.ext'
   simp only[over,Array.toList_setIfInBounds]
   have:(cs.toList.set (o+i) v).take (o+(i+1))=cs.toList.take (o+i)++[v]:=by
    rw[show o+(i+1)=o+i+1 from rfl,List.take_succ_eq_append_getElem (by simpa using hlt),List.take_set_of_le (Nat.le_refl _)]
    simp
   rw[this,List.drop_set_of_lt (by omega)]
   simp only[List.length_cons,List.append_assoc,List.cons_append,List.nil_append]
   rw[show o+(i+1)+vs.length=o+i+(vs.length+1)from by omega]
  ·rw[hk k hkb]
   simp only[World.setCell,Array.getElem?_modify]
   rw[if_neg (fun e=>hkb e.symm)]
theorem Inv.upd{P:Program}[Glob P]{M:Mem}{w0 w w':World}{σ:Store}(hI:Inv P M w0 σ w){tg b:Nat}{x y:Blk}(hb:lkt σ tg=some (b,x))(hk:∀ k,k≠b→w'.heap[k]? =w.heap[k]?)(e1:w'.os=w.os)(e2:w'.tape=w.tape)(e3:w'.output=w.output)
  (e4:w'.heap.size=w.heap.size) (hM:∀ o,M b o=none) (hy:BlkOK M w' b y):Inv P M w0 (upt σ tg b y) w':=by
 have hold:w0.heap.size≤b:=(hI.st _ (lkt_mem hb)).1
 obtain⟨pre,post,h1,h2⟩:=upt_split hb
 have hnd:=hI.nd
 rw[h1]at hnd
 simp only[List.map_append,List.map_cons]at hnd
 refine⟨e1.trans hI.os,e2.trans hI.tape,e3.trans hI.output,by rw[e4];exact hI.size,fun k hk'=> ?_,fun b' o v hv=> ?_,fun e he=> ?_,?_,hI.gl,hI.gw⟩
 ·rw[hk k (by omega)];exact hI.old k hk'
 ·have hne:b'≠b:=fun e=>by rw[e,hM]at hv;cases hv
  have:=hI.imm b' o v hv
  rw[← this]
  simp only[World.cell?,hk b' hne]
 ·rw[h2]at he
  have hmem:e=(tg,b,y)∨(e∈σ∧e.2.1≠b):=by
   rw[List.nodup_append]at hnd
   rcases List.mem_append.1 he with he|he
   ·refine .inr ⟨by rw[h1];exact List.mem_append_left _ he,fun eb=> ?_⟩
    exact hnd.2.2 e.2.1 (List.mem_map_of_mem he) b List.mem_cons_self eb
   ·rcases List.mem_cons.1 he with rfl|he
    ·exact .inl rfl
    ·refine .inr ⟨by rw[h1];exact List.mem_append_right _ (List.mem_cons_of_mem _ he),fun eb=> ?_⟩
     have:=(List.nodup_cons.1 hnd.2.1).1
     exact this (by rw[← eb];exact List.mem_map_of_mem (f:=fun e:Nat×Nat×Blk=>e.2.1) he)
  rcases hmem with rfl|⟨he,hne⟩
  ·exact⟨hold,hy⟩
  ·exact⟨(hI.st e he).1,(hI.st e he).2.heap (hk _ hne)⟩
 ·rw[h2]
  simp only[List.map_append,List.map_cons]
  exact hnd
theorem RL.all_one{xs:List AV}{cs:List Value}(h:RL M xs cs)(ha:xs.all AV.one=true):cs.all Value.oneCell'=true:=by
 rw[List.all_eq_true]at *
 intro v hv
 obtain⟨i,hi,rfl⟩:=List.mem_iff_getElem.1 hv
 have h1:i<xs.length:=h.1 ▸ hi
 exact(h.2 i h1 hi).one (ha _ (List.getElem_mem h1))
theorem s_store{n:Nat}{x y:Operand}{t:TypeId}{g:Bool}{cfg:Nat→Nat}{d:Option Nat}{E:List PanicEntry→Store→Prop}(ht:aggT P t=some (g,n))(hI:Inv P M w0 σ w)(hR:RegsOK M rg a)
  (h:vcO P cfg d rg σ K E (.store n x y)):∃ w' σ',(Instr.storeAt t (a.eval x) (a.eval y)).run P w= .ok () w'∧Inv P M w0 σ' w'∧K (.v undef) σ':=by
 have hx:=hR.ev x
 have hy:=hR.ev y
 simp only[vcO]at h
 split at h
 ·rename_i tg b o l' he hl'
  rw[he]at hx
  rw[hx.of_lp]
  split at h
  ·rename_i b' l hb
   obtain⟨rfl,hn,ho,hlt,hk⟩:=h
   have hc:=hy.cells hl'
   obtain⟨_,hM,cs,t',hh,hl⟩:=hI.st _ (lkt_mem hb)
   have e1:(a.eval y).cells.size=l'.length:=by rw[hc.1,Array.length_toList]
   obtain⟨w',hr,hw',hk',a1,a2,a3,a4⟩:=run_stores (P:=P) b o t' (a.eval y).cells.toList cs 0 w hh (by have:=hl.1;simp at this ⊢;omega) (hc.all_one ho)
   refine⟨w',_,?_,hI.upd (y:= .cells (over l o l')) hb hk' a1 a2 a3 a4 hM ⟨hM,_,t',hw',?_⟩,hk⟩
   ·simp only[Instr.storeAt,Instr.sureAddr,Sem.run_bind,Sem.run_pure,Result.andThen_ok,storeVar,(aggT_run ht w).2,e1,hn]
    simpa using hr
   ·simpa using hl.over hc o
  ·exact h.elim
 ·exact h.elim
end
theorem flatten_len{α:Type}{esz:Nat}:∀ (rows:List (List α)),(∀ i (h:i<rows.length),rows[i].length=esz)→rows.flatten.length=rows.length * esz
 |[],_=>by simp
 |r::rows,h=>by
  have h0:=h 0 (by simp)
  simp only[List.getElem_cons_zero]at h0
  have:=flatten_len rows (fun i hi=>h (i+1) (by simpa using hi))
  simp only[List.flatten_cons,List.length_append,List.length_cons,this,h0,Nat.succ_mul]
  omega
theorem flatten_get{α:Type}{esz:Nat}:∀ (rows:List (List α)),(∀ i (h:i<rows.length),rows[i].length=esz)→∀ i j,j<esz→(hi:i<rows.length)→rows.flatten[i * esz+j]? =rows[i][j]?
 |[],_,i,j,_,hi=>absurd hi (by simp)
 |r::rows,h,i,j,hj,hi=>by
  have h0:=h 0 (by simp)
  simp only[List.getElem_cons_zero]at h0
  cases i with
  |zero=>simp[List.getElem?_append,h0,hj]
  |succ i=>
   have:=flatten_get rows (fun i hi=>h (i+1) (by simpa using hi)) i j hj (by simpa using hi)
   simp only[List.flatten_cons,List.getElem_cons_succ,← this]
   rw[List.getElem?_append_right (by rw[h0,Nat.succ_mul];omega)]
   congr 1
   rw[h0,Nat.succ_mul];omega
theorem Rows.of_flat{M:Mem}{b off esz:Nat}{rows:List (List AV)}{L:List Value}(hs:∀ i (h:i<rows.length),rows[i].length=esz)(hL:RL M rows.flatten L)(hM:∀ k v,L[k]? =some v→M b (off+k)=some v):
  Rows M b off esz rows (fun k=>L.getD k undef):=by
 have hlen:=flatten_len rows hs
 refine⟨hs,fun k hk=> ?_,fun i hi j hj=> ?_⟩
 ·have hk':k<L.length:=by rw[← hL.1,hlen];exact hk
  have:=hM k L[k] (List.getElem?_eq_getElem hk')
  simp[List.getElem?_eq_getElem hk',this]
 ·have hj':j<esz:=hs i hi ▸ hj
  have hg:=flatten_get rows hs i j hj' hi
  rw[List.getElem?_eq_getElem hj]at hg
  obtain⟨v,hv,hr⟩:=hL.get hg
  simp[hv,hr]
theorem Rows.flat{M:Mem}{b off esz:Nat}{rows:List (List AV)}{cs:Nat→Value}(h:Rows M b off esz rows cs):RL M rows.flatten ((List.range (rows.length * esz)).map cs):=by
 have hlen:=flatten_len rows h.size
 refine⟨by simp[hlen],fun k h1 h2=> ?_⟩
 rw[hlen]at h1
 have he:0<esz:=by
  rcases Nat.eq_zero_or_pos esz with e|e
  ·subst e;simp at h1
  ·exact e
 have hi:k / esz<rows.length:=Nat.div_lt_of_lt_mul (by rw[Nat.mul_comm];exact h1)
 have hj:k % esz<esz:=Nat.mod_lt _ he
 have hk:k / esz * esz+k % esz=k:=by rw[Nat.mul_comm];exact Nat.div_add_mod k esz
 have hg:=flatten_get rows h.size (k / esz) (k % esz) hj hi
 rw[hk]at hg
 have hj':k % esz<rows[k / esz].length:=by rw[h.size];exact hj
 rw[List.getElem?_eq_getElem hj',List.getElem?_eq_getElem (by rw[hlen];exact h1)]at hg
 simp only[Option.some.injEq]at hg
 rw[hg]
 have:=h.rel (k / esz) hi (k % esz) hj'
 rw[hk]at this
 simpa using this
def Mem.add(M:Mem)(B u:Nat)(cs:List Value):Mem:=fun b o=>if b=B then(if o<u then cs[o]? else none)else M b o
section
variable {P:Program}[Glob P]{M:Mem}{w0 w:World}{σ:Store}{K:AV→Store→Prop}{rg:Regs}{a:Act}
theorem Inv.le_add(hI:Inv P M w0 σ w)(u:Nat)(cs:List Value):M.le (M.add w.heap.size u cs):=fun b o v h=>by
 have hne:b≠w.heap.size:=fun e=>by rw[e,hI.freshM]at h;cases h
 simp[Mem.add,hne,h]
theorem Inv.addMem(hI:Inv P M w0 σ w)(u:Nat)(cs:List Value)(t:TypeId):Inv P (M.add w.heap.size u cs) w0 σ (w.alloc (.cells cs.toArray t)):=by
 have h':=hI.alloc (.cells cs.toArray t)
 refine⟨h'.os,h'.tape,h'.output,h'.size,h'.old,fun b o v hv=> ?_,fun e he=>⟨(h'.st e he).1,?_⟩,h'.nd,fun g l e=>(hI.gl g l e).mono (hI.le_add u cs),hI.gw⟩
 ·simp only[Mem.add]at hv
  split at hv
  ·rename_i e
   subst e
   split at hv
   ·simpa using hv
   ·cases hv
  ·exact h'.imm b o v hv
 ·obtain⟨tg,b,x⟩:=e
  have hk:=(h'.st _ he).2
  have hne:b≠w.heap.size:=by have:=hI.lt_of he;simp at this;omega
  have hle:=hI.le_add u cs
  cases x with
  |cells l=>obtain⟨h1,cs',t',h2,h3⟩:=hk;exact⟨fun o=>by simp[Mem.add,hne,h1 o],cs',t',h2,h3.mono hle⟩
  |tail u' c=>obtain⟨h1,cs',t',h2,h3⟩:=hk;exact⟨fun o ho=>by simp[Mem.add,hne,h1 o ho],cs',t',h2,h3⟩
  |map es k=>obtain⟨h1,l,h2,h3,h4⟩:=hk;exact⟨fun o=>by simp[Mem.add,hne,h1 o],l,h2,h3,h4.mono hle⟩
theorem Inv.addTail(hI:Inv P M w0 σ w)(u:Nat)(cs:List Value)(t:TypeId)(hu:u≤cs.length)(tg:Nat):Inv P (M.add w.heap.size u cs) w0 ((tg,w.heap.size,.tail u cs.length)::σ) (w.alloc (.cells cs.toArray t)):=by
 have h':=hI.addMem u cs t
 refine⟨h'.os,h'.tape,h'.output,h'.size,h'.old,h'.imm,fun e he=> ?_,?_,h'.gl,h'.gw⟩
 ·rcases List.mem_cons.1 he with rfl|he
  ·exact⟨hI.size,fun o ho=>by simp[Mem.add];omega,cs.toArray,t,heap_alloc_new _ _,by simp,hu⟩
  ·exact h'.st e he
 ·simp only[List.map_cons,List.nodup_cons]
  exact⟨hI.fresh,hI.nd⟩
theorem s_box{cfg:Nat→Nat}{d:Option Nat}{E:List PanicEntry→Store→Prop}{x:Operand}{t:TypeId}(hI:Inv P M w0 σ w)(hR:RegsOK M rg a)(h:vcO P cfg d rg σ K E (.box t x)):
  Gives P M w0 K ((Instr.box t (a.eval x)).run P w):=by
 simp only[vcO]at h
 split at h
 ·rename_i l hl
  have hc:=(hR.ev x).cells hl
  refine⟨_,_,M,_,_,?_,Mem.le.refl _,hI.box t hc _,.lp _ _ _,h w.heap.size⟩
  simp[Instr.box,newVar,newRow]
 ·exact h.elim
theorem s_alloc{cfg:Nat→Nat}{d:Option Nat}{E:List PanicEntry→Store→Prop}{t:TypeId}{i:TypeInfo}{z:Value}(hi:P.info? t=some i)(hz:i.zero=some z)(hI:Inv P M w0 σ w)
  (h:vcO P cfg d rg σ K E (.alloc t z)):Gives P M w0 K ((Instr.alloc t true (.tuple #[])).run P w):=by
 simp only[vcO]at h
 refine⟨_,_,M,_,_,?_,Mem.le.refl _,hI.box t (RL.exact z.cells.toList) _,.lp _ _ _,h w.heap.size⟩
 simp[Instr.alloc,run_zero hi hz,newVar,newRow]
theorem evs_RL(hR:RegsOK M rg a):∀ (l:List Operand),RL M (evs rg l) (l.map a.eval)
 |[]=>RL.nil
 |x::l=>RL.cons (hR.ev x) (evs_RL hR l)
theorem fold_set(off:Nat):∀ (l:List Value) (j:Nat) (cs:Array Value),off+j+l.length≤cs.size→
  (l.zipIdx j).foldl (fun cs (c,j)=>cs.setIfInBounds (off+j) c) cs=(over cs.toList (off+j) l).toArray
 |[],j,cs,_=>by simp[over]
 |c::l,j,cs,h=>by
  simp only[List.length_cons]at h
  have hlt:off+j<cs.size:=by omega
  simp only[List.zipIdx_cons,List.foldl_cons]
  rw[fold_set off l (j+1) _ (by simp;omega)]
  apply Array.ext'
  simp only[over,Array.toList_setIfInBounds]
  have:(cs.toList.set (off+j) c).take (off+(j+1))=cs.toList.take (off+j)++[c]:=by
   rw[show off+(j+1)=off+j+1 from rfl,List.take_succ_eq_append_getElem (by simpa using hlt),List.take_set_of_le (Nat.le_refl _)]
   simp
  rw[this,List.drop_set_of_lt (by omega)]
  simp only[List.length_cons,List.append_assoc,List.cons_append,List.nil_append]
  rw[show off+(j+1)+l.length=off+j+(l.length+1)from by omega]
inductive PM(place:Nat→Option (Nat×Nat)):List (Nat×Operand)→List (Nat×Nat×Operand)→Prop
 |nil:PM place [] []
 |cons (i off n:Nat) (x:Operand) (l:List (Nat×Operand)) (ps:List (Nat×Nat×Operand)) (h:place i=some (off,n)) (t:PM place l ps):PM place ((i,x)::l) ((off,n,x)::ps)
theorem s_fill(hR:RegsOK M rg a)(place:Nat→Option (Nat×Nat)):∀ (parts:List (Nat×Operand)) (ps:List (Nat×Nat×Operand)) (cs:Array Value) (l l':List AV),RL M l cs.toList→
  PM place parts ps→fillA l (evp rg ps)=some l'→
  ∃ cs':Array Value,Instr.fill place cs (parts.map fun(i,x)=>(i,a.eval x))=some cs'∧RL M l' cs'.toList
 |[],ps,cs,l,l',hl,hp,hf=>by
  cases hp
  simp only[evp,fillA,Option.some.injEq]at hf
  subst hf
  exact⟨cs,rfl,hl⟩
 |(i,x)::parts,ps,cs,l,l',hl,hp,hf=>by
  cases hp with
  |cons _ off n _ _ ps' hpl h2=>
   simp only[evp,fillA]at hf
   split at hf
   ·rename_i lx hlx
    split at hf
    ·rename_i hc
     have hx:=(hR.ev x).cells hlx
     have e1:(a.eval x).cells.size=n:=by rw[← hc.1,hx.1,Array.length_toList]
     have e2:cs.size=l.length:=by rw[hl.1,Array.length_toList]
     have hov:=fold_set off (a.eval x).cells.toList 0 cs (by simp;omega)
     obtain⟨cs',h3,h4⟩:=s_fill hR place parts ps' (over cs.toList off (a.eval x).cells.toList).toArray (over l off lx) l' (by simpa using hl.over hx off) h2 hf
     refine⟨cs',?_,h4⟩
     simp only[List.map_cons,Instr.fill,hpl]
     rw[if_neg (by simp;omega)]
     rw[← h3]
     congr 1
     rw[← Array.foldl_toList,Array.toList_zipIdx]
     simpa using hov
    ·cases hf
   ·cases hf
theorem placesS_PM(fs:List Field)(place:Nat→Option (Nat×Nat))(hp:∀ i f k,fs[i]? =some f→P.info? f.type=some k→place i=some (f.offset,k.size)):
  ∀ (l:List (Nat×Operand)) (ps:List (Nat×Nat×Operand)),placesS P fs l=some ps→PM place l ps
 |[],ps,h=>by simp[placesS]at h;subst h;exact .nil
 |(i,x)::l,ps,h=>by
  simp only[placesS]at h
  split at h
  ·rename_i f hf
   split at h
   ·rename_i k hk
    rw[Option.map_eq_some_iff]at h
    obtain⟨ps',h1,rfl⟩:=h
    exact .cons _ _ _ _ _ _ (hp i f k hf hk) (placesS_PM fs place hp l ps' h1)
   ·cases h
  ·cases h
theorem run_places(w:World):∀ (fs:List Field),fs.all (fun f=>(P.info? f.type).isSome)=true→
  ∃ pl:List (Nat×Nat),(fs.mapM (fun f:Field=>do pure (f.offset,← sizeOf f.type)):Sem (List (Nat×Nat))).run P w= .ok pl w∧∀ (i:Nat) (f:Field) (k:TypeInfo),fs[i]? =some f→P.info? f.type=some k→pl[i]? =some (f.offset,k.size)
 |[],_=>⟨[],rfl,fun i f k h=>by simp at h⟩
 |f::fs,h=>by
  simp only[List.all_cons,Bool.and_eq_true]at h
  obtain⟨k0,hk0⟩:=Option.isSome_iff_exists.1 h.1
  obtain⟨pl,h1,h2⟩:=run_places w fs h.2
  refine⟨(f.offset,k0.size)::pl,?_,fun i g k hg hk=> ?_⟩
  ·simp only[List.mapM_cons,Sem.run_bind,run_size hk0,Result.andThen_ok,Sem.run_pure,h1]
  ·cases i with
   |zero=>
    simp only[List.getElem?_cons_zero,Option.some.injEq]at hg
    subst hg
    rw[hk0]at hk
    cases hk
    rfl
   |succ i=>simpa using h2 i g k (by simpa using hg) hk
theorem s_build{cfg:Nat→Nat}{d:Option Nat}{E:List PanicEntry→Store→Prop}{t:TypeId}{i:TypeInfo}{z:Value}{fs:Array Field}{parts:Array (Nat×Operand)}{ps:List (Nat×Nat×Operand)}
  (ht:P.underlying t=some (.struct fs)) (hi:P.info? t=some i) (hz:i.zero=some z) (hall:fs.toList.all (fun f=>(P.info? f.type).isSome)=true) (hps:placesS P fs.toList parts.toList=some ps)
  (hI:Inv P M w0 σ w) (hR:RegsOK M rg a) (h:vcO P cfg d rg σ K E (.build z.cells.toList ps)):Gives P M w0 K ((Instr.build t (parts.map fun(i,x)=>(i,a.eval x))).run P w):=by
 simp only[vcO]at h
 split at h
 ·rename_i l hl
  obtain⟨pl,h1,h2⟩:=run_places (P:=P) w fs.toList hall
  obtain⟨cs',h3,h4⟩:=s_fill hR (fun i:Nat=>pl[i]?) parts.toList ps z.cells (z.cells.toList.map .v) l (RL.exact _) (placesS_PM fs.toList _ h2 _ _ hps) hl
  refine Gives.same hI (v:= .agg cs') ?_ h ?_
  ·have:=R.mk_agg h4;simpa using this
  ·have h1':(fs.mapM (fun f:Field=>do pure (f.offset,← sizeOf f.type)):Sem (Array (Nat×Nat))).run P w= .ok pl.toArray w:=by
    rw[Array.mapM_eq_mapM_toList,Sem.run_map,h1]
    rfl
   simp only[Instr.build,Sem.run_bind,run_zero hi hz,Result.andThen_ok,run_under ht,h1',Array.toList_map]
   have e:(fun x:Nat=>pl.toArray[x]?)=(fun i:Nat=>pl[i]?):=by funext i;simp
   simp only[e,h3,Sem.run_pure]
 ·exact h.elim
theorem rowsOf_spec{esz:Nat}:∀ (xs:List AV) (rows:List (List AV)) (vs:List Value),rowsOf esz xs=some rows→RL M xs vs→RL M rows.flatten (vs.flatMap fun v=>v.cells.toList)∧rows.length=xs.length∧
  (∀ i (h:i<rows.length),rows[i].length=esz)∧∀ v∈vs,v.cells.size=esz
 |[],rows,vs,h,k=>by
  simp[rowsOf]at h;subst h
  obtain rfl:=k.unnil
  exact⟨RL.nil,rfl,fun i hi=>absurd hi (by simp),fun v hv=>by cases hv⟩
 |x::xs,rows,vs,h,k=>by
  obtain⟨v,vs',rfl,hx,hxs⟩:=k.uncons
  simp only[rowsOf]at h
  split at h
  ·rename_i r hr
   split at h
   ·rename_i he
    rw[Option.map_eq_some_iff]at h
    obtain⟨rows',h1,rfl⟩:=h
    obtain⟨a1,a2,a3,a4⟩:=rowsOf_spec xs rows' vs' h1 hxs
    have hc:=hx.cells hr
    refine⟨by simpa using RL.append hc a1,by simp[a2],fun i hi=> ?_,fun u hu=> ?_⟩
    ·cases i with
     |zero=>exact he
     |succ i=>exact a3 i (by simpa using hi)
    ·rcases List.mem_cons.1 hu with rfl|hu
     ·rw[← he,hc.1,Array.length_toList]
     ·exact a4 u hu
   ·cases h
  ·cases h
theorem fill_all(esz:Nat):∀ (vs:List Value) (k:Nat) (cs:Array Value),(∀ v∈vs,v.cells.size=esz)→k * esz+vs.length * esz≤cs.size→
  Instr.fill (fun i=>some (i * esz,esz)) cs ((List.range' k vs.length).zip vs)=some (over cs.toList (k * esz) (vs.flatMap fun v=>v.cells.toList)).toArray
 |[],k,cs,_,_=>by simp[Instr.fill,over]
 |v::vs,k,cs,h,hl=>by
  have hv:=h v (by simp)
  have hlen:∀ vs:List Value,(∀ v∈vs,v.cells.size=esz)→(vs.flatMap fun v=>v.cells.toList).length=vs.length * esz:=by
   intro vs
   induction vs with
   |nil=>simp
   |cons u us ih=>intro hh;simp only[List.flatMap_cons,List.length_append,Array.length_toList,hh u (by simp),ih (fun w hw=>hh w (by simp[hw])),List.length_cons,Nat.succ_mul];omega
  simp only[List.length_cons,Nat.succ_mul]at hl
  simp only[List.length_cons,List.range'_succ,List.zip_cons_cons,Instr.fill]
  rw[if_neg (by simp;omega)]
  rw[← Array.foldl_toList,Array.toList_zipIdx,fold_set (k * esz) v.cells.toList 0 cs (by simp;omega)]
  simp only[Nat.add_zero]
  rw[fill_all esz vs (k+1) _ (fun u hu=>h u (by simp[hu])) (by simp[over,hv];rw[Nat.succ_mul];omega)]
  congr 2
  simp only[over,List.flatMap_cons,List.length_append,Array.length_toList,hv,Nat.succ_mul]
  rw[List.take_append_of_le_length (by simp;omega)]
  have e1:(cs.toList.take (k * esz)++v.cells.toList).length=k * esz+esz:=by simp[hv];omega
  rw[List.take_of_length_le (by omega),List.drop_append,List.drop_of_length_le (by omega),e1]
  simp only[List.nil_append,List.append_assoc,List.drop_drop]
  congr 3
  congr 1
  omega
end
section
variable {P:Program}[Glob P]{M:Mem}{w0 w:World}{σ:Store}{K:AV→Store→Prop}{rg:Regs}{a:Act}{cfg:Nat→Nat}{d:Option Nat}{E:List PanicEntry→Store→Prop}
theorem mem_add_self(M:Mem)(B:Nat)(L:List Value)(k:Nat)(v:Value)(h:L[k]? =some v):M.add B L.length L B (0+k)=some v:=by
 have:k<L.length:=(List.getElem?_eq_some_iff.1 h).1
 simp[Mem.add,this]
 obtain⟨_,rfl⟩:=List.getElem?_eq_some_iff.1 h
 simp
theorem s_mksl{t e:TypeId}{n:Nat}{i:TypeInfo}{z:Value}{parts:Array (Nat×Operand)}(ht:P.underlying t=some (.slice e))(hi:P.info? e=some i)(hz:i.zero=some z)(hp:parts.toList.map (·.1)=List.range n)
  (hn:n * i.size≤16777216) (hI:Inv P M w0 σ w) (hR:RegsOK M rg a) (h:vcO P cfg d rg σ K E (.mksl e i.size (parts.toList.map (·.2)))):
  Gives P M w0 K ((Instr.buildSlice t n (parts.map fun(i,x)=>(i,a.eval x))).run P w):=by
 simp only[vcO]at h
 split at h
 ·rename_i rows hrows
  obtain⟨hbig,h⟩:=h
  obtain⟨hL,hlen,hsz,hcells⟩:=rowsOf_spec _ rows _ hrows (evs_RL hR (parts.toList.map (·.2)))
  generalize hvs:((parts.toList.map (·.2)).map a.eval)=vs at hL hcells
  have hvl:vs.length=n:=by
   rw[← hvs]
   have:=congrArg List.length hp
   simpa using this
  have hrl:rows.length=n:=by rw[hlen,← hvl,← hvs];simp[evs_RL hR _ |>.1]
  have hfl:=flatten_len rows hsz
  generalize hLL:(vs.flatMap fun v=>v.cells.toList)=L at hL
  have hLlen:L.length=n * i.size:=by rw[← hL.1,hfl,hrl]
  have hzip:(parts.map fun x=>(x.1,a.eval x.2)).toList=(List.range' 0 vs.length).zip vs:=by
   rw[hvl,← List.range_eq_range',← hp,← hvs]
   simp only[Array.toList_map]
   induction parts.toList with
   |nil=>rfl
   |cons p ps ih=>obtain⟨j,x⟩:=p;simp[ih]
  have hrun:(Instr.buildSlice t n (parts.map fun(i,x)=>(i,a.eval x))).run P w= .ok (.slice (some ⟨w.heap.size,0,none⟩) n n) (w.alloc (.cells L.toArray e)):=by
   have key:∀ zs:Array Value,Sem.run P (match Instr.fill (fun j=>some (j * i.size,i.size)) (Array.map (fun x=>zs[x % zs.size]!) (Array.range (n * i.size))) (parts.map fun x=>(x.1,a.eval x.2)).toList with
     |some cells=>do
      let b ← newRow e cells
      pure (Value.slice (some b) n n)
     |_=>stuck "buildSlice: a part of the wrong size") w=Result.ok (Value.slice (some ⟨w.heap.size,0,none⟩) n n) (w.alloc (.cells L.toArray e)):=by
    intro zs
    rw[hzip,fill_all i.size vs 0 _ hcells (by simp[hvl])]
    simp only[Sem.run_bind,newRow,run_newObj,Result.andThen_ok,Sem.run_pure]
    congr 4
    simp only[over,Nat.zero_mul,List.take_zero,List.nil_append,hLL]
    rw[List.drop_of_length_le (by simp[hLlen]),List.append_nil]
   simp only[Instr.buildSlice,Sem.run_bind,run_under ht,Result.andThen_ok,run_size hi,Sem.run_ite]
   rw[if_neg (by omega)]
   by_cases hc:n * i.size=0
   ·rw[if_pos hc]
    exact key #[]
   ·rw[if_neg hc]
    simp only[run_zero hi hz,Result.andThen_ok,Sem.run_pure]
    exact key _
  rw[hrun]
  have hrows':Rows (M.add w.heap.size L.length L) w.heap.size 0 i.size rows (fun k=>L.getD k undef):=Rows.of_flat hsz (hL.mono (hI.le_add _ _)) (mem_add_self M w.heap.size L)
  have hmax:n≤maxLen:=by unfold maxLen;omega
  split at h
  ·refine⟨_,_,_,_,σ,rfl,hI.le_add L.length L,hI.addMem _ L e,?_,h⟩
   have:=R.mk_sl hrows' (Nat.le_of_eq hrl) hmax true
   rw[hrl]at this
   exact this
  ·obtain⟨hpos,h⟩:=h
   have e1:rows.length * i.size=L.length:=by rw[hrl,hLlen]
   rw[e1]at h
   refine⟨_,_,_,_,_,rfl,hI.le_add L.length L,hI.addTail _ L e (Nat.le_refl _) _,?_,h w.heap.size⟩
   have:=R.mk_own (t:=d.getD 0) (u:=L.length) (c:=L.length) hrows' (Nat.le_of_eq hrl) hmax (.inr ⟨by omega,by omega⟩) hpos
   rw[hrl]at this
   exact this
  ·refine⟨_,_,_,_,σ,rfl,hI.le_add L.length L,hI.addMem _ L e,?_,h⟩
   have:=R.mk_fl hrows' (by rw[hrl];exact hmax)
   rw[hrl]at this
   exact this
  ·refine⟨_,_,M,_,_,rfl,Mem.le.refl _,hI.box e hL _,?_,h w.heap.size⟩
   rw[hrl]
   exact .ms _ _ _ _ _
 ·exact h.elim
theorem binOp_gen(op:BinOp)(t:TypeId)(k k':IntKind)(x y:Int):binOp op t (.int k x) (.int k' y)=
  match op with
  | .shl| .shr=>Op.shift op k x k' y
  | .add| .sub| .mul=>if k≠k' then stuck "BinOp: operands of different kinds" else Op.intArith op k x y
  | .quo| .rem=>if k≠k' then stuck "BinOp: operands of different kinds" else Op.intDiv op k x y
  | .and| .or| .xor| .andNot=>if k≠k' then stuck "BinOp: operands of different kinds" else Op.intBits op k x y
  |_=>if k≠k' then stuck "BinOp: operands of different kinds" else Op.intCmp op x y:=by
 cases op<;>rfl
theorem bytes_eq(x y:ByteArray):(x.toList == y.toList)=decide (x=y):=by
 rw[ByteArray.toList_eq,ByteArray.toList_eq]
 obtain⟨⟨x⟩⟩:=x
 obtain⟨⟨y⟩⟩:=y
 rw[Bool.eq_iff_iff]
 simp
theorem s_bin{op:BinOp}{t:TypeId}{x y:Operand}(hI:Inv P M w0 σ w)(hR:RegsOK M rg a)
  (h:vcO P cfg d rg σ K E (.bin op x y)):Gives P M w0 K ((do eqGuard op t x y (a.eval x) (a.eval y);binOp op t (a.eval x) (a.eval y):Sem Value).run P w):=by
 have hx:=hR.ev x
 have hy:=hR.ev y
 simp only[vcO]at h
 split at h
 ·rename_i u v hu hv
  rw[hu]at hx
  rw[hv]at hy
  rw[hx.of_v,hy.of_v]
  unfold vcBin at h
  split at h
  ·rename_i k p k' q
   rw[eqGuard_at_int,binOp_gen]
   simp only[Sem.run_bind,Sem.run_pure,Result.andThen_ok]
   cases op<;>simp only at h ⊢
   case add=>obtain⟨rfl,h⟩:=h;exact Gives.same hI (.v _) h (by simp[Op.intArith])
   case sub=>obtain⟨rfl,h⟩:=h;exact Gives.same hI (.v _) h (by simp[Op.intArith])
   case mul=>obtain⟨rfl,h⟩:=h;exact Gives.same hI (.v _) h (by simp[Op.intArith])
   case quo=>obtain⟨rfl,h0,h⟩:=h;exact Gives.same hI (.v _) h (by simp[Op.intDiv,h0])
   case rem=>obtain⟨rfl,h0,h⟩:=h;exact Gives.same hI (.v _) h (by simp[Op.intDiv,h0])
   case and=>obtain⟨rfl,h⟩:=h;exact Gives.same hI (.v _) h (by simp[intBits_and])
   case or=>obtain⟨rfl,h⟩:=h;exact Gives.same hI (.v _) h (by simp[intBits_or])
   case xor=>obtain⟨rfl,h⟩:=h;exact Gives.same hI (.v _) h (by simp[intBits_xor])
   case andNot=>obtain⟨rfl,h⟩:=h;exact Gives.same hI (.v _) h (by simp[intBits_andNot])
   case shl=>obtain⟨h0,h1,h⟩:=h;exact Gives.same hI (.v _) h (by rw[shift_shl _ _ _ _ h0 h1];rfl)
   case shr=>obtain⟨h0,h1,h⟩:=h;exact Gives.same hI (.v _) h (by rw[shift_shr _ _ _ _ h0 h1];rfl)
   case eql=>obtain⟨rfl,h⟩:=h;exact Gives.same hI (.v _) h (by simp[Op.intCmp];rfl)
   case neq=>obtain⟨rfl,h⟩:=h;exact Gives.same hI (.v _) h (by simp[Op.intCmp,bne];rfl)
   case lss=>obtain⟨rfl,h⟩:=h;exact Gives.same hI (.v _) h (by simp[Op.intCmp])
   case leq=>obtain⟨rfl,h⟩:=h;exact Gives.same hI (.v _) h (by simp[Op.intCmp])
   case gtr=>obtain⟨rfl,h⟩:=h;exact Gives.same hI (.v _) h (by simp[Op.intCmp])
   case geq=>obtain⟨rfl,h⟩:=h;exact Gives.same hI (.v _) h (by simp[Op.intCmp])
  ·rename_i p q
   rw[eqGuard_at_string]
   simp only[Sem.run_bind,Sem.run_pure,Result.andThen_ok]
   have hb:∀ op,op≠.shl→op≠.shr→binOp op t (.string p) (.string q)=Op.stringOp op p q:=by intro op h1 h2;cases op<;>first|rfl|exact(h1 rfl).elim|exact(h2 rfl).elim
   cases op<;>simp only at h ⊢
   case add=>
    obtain⟨hs,h⟩:=h
    refine Gives.same hI (.v _) h ?_
    rw[hb _ (by simp) (by simp)]
    simp only[Op.stringOp,IntKind.max_i64,Sem.run_ite]
    rw[if_neg (by omega)]
    rfl
   case eql=>exact Gives.same hI (.v _) h (by rw[hb _ (by simp) (by simp)];simp only[Op.stringOp,bytes_eq];rfl)
   case neq=>exact Gives.same hI (.v _) h (by rw[hb _ (by simp) (by simp)];simp only[Op.stringOp,bytes_eq];rfl)
   case lss=>exact Gives.same hI (.v _) h (by rw[hb _ (by simp) (by simp)];simp only[Op.stringOp];rfl)
   case leq=>exact Gives.same hI (.v _) h (by rw[hb _ (by simp) (by simp)];simp only[Op.stringOp,bytes_eq];rfl)
   case gtr=>exact Gives.same hI (.v _) h (by rw[hb _ (by simp) (by simp)];simp only[Op.stringOp,bytes_eq];rfl)
   case geq=>exact Gives.same hI (.v _) h (by rw[hb _ (by simp) (by simp)];simp only[Op.stringOp];rfl)
   all_goals exact h.elim
  ·exact h.elim
 ·exact h.elim
theorem s_un{op:UnOp}{x:Operand}(hI:Inv P M w0 σ w)(hR:RegsOK M rg a)(h:vcO P cfg d rg σ K E (.un op x)):Gives P M w0 K ((Op.unary op (a.eval x)).run P w):=by
 have hx:=hR.ev x
 simp only[vcO]at h
 split at h
 ·rename_i u hu
  rw[hu]at hx
  rw[hx.of_v]
  split at h
  ·rename_i r hr
   refine Gives.same hI (.v _) h ?_
   unfold unV at hr
   split at hr
   ·simp only[Option.some.injEq]at hr;subst hr;simp[Op.unary,Op.intArith]
   ·simp only[Option.some.injEq]at hr;subst hr;simp[Op.unary]
   ·cases hr
  ·exact h.elim
 ·exact h.elim
theorem s_cvint{src dst:TypeId}{k k':IntKind}{x:Operand}(hs:P.underlying src=some (.int k'))(hd:P.underlying dst=some (.int k))(hI:Inv P M w0 σ w)(hR:RegsOK M rg a)(h:vcO P cfg d rg σ K E (.cvint k x)):
  Gives P M w0 K ((convert src dst (a.eval x)).run P w):=by
 have hx:=hR.ev x
 simp only[vcO]at h
 split at h
 ·rename_i k2 n hu
  rw[hu]at hx
  rw[hx.of_v]
  exact Gives.same hI (.v _) h (by simp[convert,run_under hs,run_under hd,Conv.intToInt])
 ·exact h.elim
theorem s_faddr{t:TypeId}{fs:Array Field}{i:Nat}{f:Field}{k:TypeInfo}{x:Operand}(ht:P.underlying t=some (.struct fs))(hf:fs[i]? =some f)(hk:P.info? f.type=some k)(h0:k.size≠0)(hI:Inv P M w0 σ w)(hR:RegsOK M rg a)
  (h:vcO P cfg d rg σ K E (.faddr f.offset x)):Gives P M w0 K ((Instr.fieldAt t (a.eval x) i).run P w):=by
 have hx:=hR.ev x
 simp only[vcO]at h
 split at h
 ·rename_i tg b o hu
  rw[hu]at hx
  rw[hx.of_lp]
  refine Gives.same hI (.lp _ _ _) h ?_
  simp[Instr.fieldAt,run_under ht,hf,Instr.sureAddr,fieldPlace,run_size hk,h0,Addr.add_lit]
 ·rename_i l hu
  rw[hu]at hx
  obtain⟨b,o,cs,hv,h1,h2⟩:=hx.of_pc
  rw[hv]
  refine Gives.same hI (v:= .pointer (some ⟨b,o+f.offset,none⟩)) ?_ h ?_
  ·refine .pc _ b _ (fun k=>cs (f.offset+k)) (fun k hk=> ?_) (fun k hk=> ?_)
   ·rw[Nat.add_assoc];exact h1 _ (by simp at hk;omega)
   ·simp only[List.getElem_drop];exact h2 _ _
  ·simp[Instr.fieldAt,run_under ht,hf,Instr.sureAddr,fieldPlace,run_size hk,h0,Addr.add_lit]
 ·exact h.elim
theorem aggT_part{t:TypeId}{g:Bool}{n off:Nat}(ht:aggT P t=some (g,n)){l:List AV}{cs:Array Value}(hl:RL M l cs.toList)(hI:Inv P M w0 σ w)
  (h:off+n≤l.length∧if g then K (.agg ((l.drop off).take n)) σ else match l[off]? with
   |some y=>K y σ
   |none=>False):Gives P M w0 K ((part t cs off).run P w):=by
 obtain⟨h1,h2⟩:=aggT_run ht w
 obtain⟨hlt,h⟩:=h
 simp only[part,Sem.run_bind,h1,Result.andThen_ok]
 cases g with
 |true=>
  simp only[if_true,Sem.run_bind,h2,Result.andThen_ok,Sem.run_pure]at h ⊢
  refine Gives.same hI (v:= .agg (cs.extract off (off+n))) ?_ h rfl
  have:=R.mk_agg ((hl.drop off).take n)
  have e:((cs.toList.drop off).take n).toArray=cs.extract off (off+n):=by
   apply Array.ext'
   simp
  rw[e]at this
  exact this
 |false=>
  simp only[Bool.false_eq_true,if_false]at h ⊢
  split at h
  ·rename_i y hy
   obtain⟨v,hv,hr⟩:=hl.get hy
   have:cs[off]? =some v:=by simpa using hv
   simp only[this,Sem.run_pure]
   exact Gives.same hI hr h rfl
  ·exact h.elim
theorem s_field{t:TypeId}{fs:Array Field}{i n:Nat}{f:Field}{g:Bool}{x:Operand}(ht:P.underlying t=some (.struct fs))(hf:fs[i]? =some f)(hg:aggT P f.type=some (g,n))(hI:Inv P M w0 σ w)(hR:RegsOK M rg a)
  (h:vcO P cfg d rg σ K E (.field g f.offset n x)):Gives P M w0 K ((Instr.field t (a.eval x) i).run P w):=by
 simp only[vcO]at h
 split at h
 ·rename_i l hl
  obtain⟨cs,hcs,hc⟩:=(hR.ev x).acells hl
  rw[hcs]
  have:=aggT_part hg hc hI h
  simpa[Instr.field,run_under ht,hf,asAgg]using this
 ·exact h.elim
theorem leafEq_int{x y:AV}{c:Bool}(h:leafEq .int x y=some c):∃ k a b,x= .v (.int k a)∧y= .v (.int k b)∧c=decide (a=b):=by
 unfold leafEq at h
 split at h
 ·rename_i k a k' b _
  split at h
  ·rename_i e;subst e;simp only[Option.some.injEq]at h;exact⟨k,a,b,rfl,rfl,h.symm⟩
  ·cases h
 ·rename_i e;cases e
 ·rename_i e;cases e
 ·cases h
theorem leafEq_str{x y:AV}{c:Bool}(h:leafEq .str x y=some c):∃ a b,x= .v (.string a)∧y= .v (.string b)∧c=decide (a=b):=by
 unfold leafEq at h
 split at h
 ·rename_i e;cases e
 ·rename_i a b _;simp only[Option.some.injEq]at h;exact⟨a,b,rfl,rfl,h.symm⟩
 ·rename_i e;cases e
 ·cases h
theorem leafEq_bool{x y:AV}{c:Bool}(h:leafEq .bool x y=some c):∃ a b,x= .v (.bool a)∧y= .v (.bool b)∧c=(a == b):=by
 unfold leafEq at h
 split at h
 ·rename_i e;cases e
 ·rename_i e;cases e
 ·rename_i a b _;simp only[Option.some.injEq]at h;exact⟨a,b,rfl,rfl,h.symm⟩
 ·cases h
theorem leafKs_eq(d:Nat):∀ (fs:List Field) (n:Nat) (ks:List LeafK) (xs ys:List AV) (us vs:Array Value) (b:Bool),leafKs P n fs=some ks→eqCells ks xs ys=some b→
  RL M xs (us.toList.drop n)→RL M ys (vs.toList.drop n)→(Op.eqFields (d+1) us vs fs).run P w= .ok b w
 |[],n,ks,xs,ys,us,vs,b,hk,he,hx,hy=>by
  simp only[leafKs,Option.some.injEq]at hk
  subst hk
  cases xs<;>cases ys<;>simp[eqCells]at he
  subst he
  rfl
 |f::fs,n,ks,xs,ys,us,vs,b,hk,he,hx,hy=>by
  simp only[leafKs]at hk
  split at hk
  ·rename_i hc
   obtain⟨k,ks',rfl,hks',hkf⟩:∃ k ks',ks=k::ks'∧leafKs P (n+1) fs=some ks'∧((k= .int∧∃ q,P.underlying f.type=some (.int q))∨(k= .str∧P.underlying f.type=some .string)∨(k= .bool∧P.underlying f.type=some .bool)):=by
    split at hk
    ·rename_i q hu;obtain⟨ks',h1,rfl⟩:=Option.map_eq_some_iff.1 hk;exact⟨_,ks',rfl,h1,.inl ⟨rfl,q,hu⟩⟩
    ·rename_i hu;obtain⟨ks',h1,rfl⟩:=Option.map_eq_some_iff.1 hk;exact⟨_,ks',rfl,h1,.inr (.inl ⟨rfl,hu⟩)⟩
    ·rename_i hu;obtain⟨ks',h1,rfl⟩:=Option.map_eq_some_iff.1 hk;exact⟨_,ks',rfl,h1,.inr (.inr ⟨rfl,hu⟩)⟩
    ·cases hk
   match xs,ys,he with
   |x::xs,y::ys,he=>
    obtain⟨u,us',hus,hxu,hxs⟩:=hx.uncons
    obtain⟨v,vs',hvs,hyv,hys⟩:=hy.uncons
    have hu0:us[n]? =some u:=by
     have:=congrArg (·[0]?) hus
     simpa using this
    have hv0:vs[n]? =some v:=by
     have:=congrArg (·[0]?) hvs
     simpa using this
    have hu1:us.toList.drop (n+1)=us':=by
     rw[← List.drop_drop,hus];rfl
    have hv1:vs.toList.drop (n+1)=vs':=by
     rw[← List.drop_drop,hvs];rfl
    simp only[eqCells]at he
    split at he
    ·rename_i c hleaf
     obtain⟨b',hb',rfl⟩:=Option.map_eq_some_iff.1 he
     have ih:=leafKs_eq d fs (n+1) ks' xs ys us vs b' hks' hb' (by rw[hu1];exact hxs) (by rw[hv1];exact hys)
     have hpu:(part f.type us f.offset).run P w= .ok u w∧(part f.type vs f.offset).run P w= .ok v w:=by
      rcases hkf with⟨_,q,hu⟩|⟨_,hu⟩|⟨_,hu⟩<;>simp[part,isAgg,run_under hu,hc.2,hu0,hv0]
     have heq:(Op.equalIn (d+1) f.type u v).run P w= .ok c w:=by
      rcases hkf with⟨rfl,q,hu⟩|⟨rfl,hu⟩|⟨rfl,hu⟩
      ·obtain⟨k,p,q',rfl,rfl,rfl⟩:=leafEq_int hleaf
       rw[hxu.of_v,hyv.of_v,run_equalIn_int (w:=w) _ _ _ q _ _ hu]
       rfl
      ·obtain⟨p,q',rfl,rfl,rfl⟩:=leafEq_str hleaf
       rw[hxu.of_v,hyv.of_v,run_equalIn_string (w:=w) _ _ _ _ hu,bytes_eq]
      ·obtain⟨p,q',rfl,rfl,rfl⟩:=leafEq_bool hleaf
       rw[hxu.of_v,hyv.of_v,run_equalIn_bool' (w:=w) _ _ _ _ hu]
     simp only[Op.eqFields,hc.1,ne_eq,not_false_eq_true,if_true,Sem.run_bind,hpu.1,hpu.2,Result.andThen_ok,heq,Sem.run_ite]
     cases c
     ·simp
     ·simp[ih]
    ·cases he
   |[],ys,he=>simp[eqCells]at he
   |x::xs,[],he=>simp[eqCells]at he
  ·cases hk
theorem s_eqs{neg:Bool}{t:TypeId}{fs:Array Field}{ks:List LeafK}{x y:Operand}(ht:P.underlying t=some (.struct fs))(h1:P.stoodInHeld t=false)(h2:P.eqGuardType P.depth t=false)(hk:leafKs P 0 fs.toList=some ks)(hI:Inv P M w0 σ w)(hR:RegsOK M rg a)
  (h:vcO P cfg d rg σ K E (.eqs neg ks x y)):Gives P M w0 K ((do eqGuard (if neg then .neq else .eql) t x y (a.eval x) (a.eval y);binOp (if neg then .neq else .eql) t (a.eval x) (a.eval y):Sem Value).run P w):=by
 simp only[vcO]at h
 split at h
 ·rename_i xs ys hxs hys
  obtain⟨us,hu,hxr⟩:=(hR.ev x).acells hxs
  obtain⟨vs,hv,hyr⟩:=(hR.ev y).acells hys
  rw[hu,hv]
  split at h
  ·rename_i b hb
   have he:=leafKs_eq (P:=P) (M:=M) (w:=w) 9998 fs.toList 0 ks xs ys us vs b hk hb (by simpa using hxr) (by simpa using hyr)
   have ht':P.underlying t=some (.struct (P.fieldsOf t)):=by simp[Program.fieldsOf,ht]
   have hf:P.fieldsOf t=fs:=by simp[Program.fieldsOf,ht]
   have hin:=run_equalIn_struct w 9999 t us vs ht' h1
   rw[hf,he]at hin
   refine Gives.same hI (.v _) h ?_
   rw[Sem.run_bind,run_eqGuard_agg w _ t x y us vs h2]
   cases neg
   ·simp only[Result.andThen_ok,Bool.false_eq_true,if_false,run_eql_struct,hin,Bool.xor_false]
   ·simp only[Result.andThen_ok,if_true,run_neq_struct,hin,Bool.xor_true]
  ·exact h.elim
 ·exact h.elim
end
section
variable {P:Program}[Glob P]{M:Mem}{w0 w:World}{σ:Store}{K:AV→Store→Prop}{rg:Regs}{a:Act}{cfg:Nat→Nat}{d:Option Nat}{E:List PanicEntry→Store→Prop}
def eqkT(P:Program)[Glob P](t:TypeId):EqK→Prop
 | .bool=>P.underlying t=some .bool
 | .slice=>∃ e,P.underlying t=some (.slice e)
 | .map=>∃ k e,P.underlying t=some (.map k e)
 | .func=>∃ p r v,P.underlying t=some (.func p r v)
 | .ptr=>∃ e,P.underlying t=some (.pointer e)
theorem eq_help{t:TypeId}{u v:Value}{b:Bool}(hg:∀ (op:BinOp) (p q:Operand),eqGuard op t p q u v=pure ())(h1:binOp .eql t u v=(do pure (.bool (← Op.equal t u v))))(h2:binOp .neq t u v=(do pure (.bool (!(← Op.equal t u v)))))
  (he:∀ d:Nat,(Op.equalIn (d+1) t u v).run P w= .ok b w) (op:BinOp) (p q:Operand):eqGuard op t p q u v=pure ()∧(op= .eql→(binOp op t u v).run P w= .ok (.bool b) w)∧(op= .neq→(binOp op t u v).run P w= .ok (.bool (!b)) w):=by
 have he':(Op.equal t u v).run P w= .ok b w:=he 9999
 refine⟨hg op p q,?_,?_⟩
 ·rintro rfl
  rw[h1,Sem.run_bind,he']
  rfl
 ·rintro rfl
  rw[h2,Sem.run_bind,he']
  rfl
set_option maxHeartbeats 2000000 in
theorem eqV_run{k:EqK}{t:TypeId}{x y:AV}{u v:Value}{b:Bool}(ht:eqkT P t k)(hx:R M x u)(hy:R M y v)(h:eqV k x y=some b)(op:BinOp)(p q:Operand):
  eqGuard op t p q u v=pure ()∧(op= .eql→(binOp op t u v).run P w= .ok (.bool b) w)∧(op= .neq→(binOp op t u v).run P w= .ok (.bool (!b)) w):=by
 have sl:∀ {nn ez rows},R M (.sl true ez rows) nn→∃ b n c,nn= .slice (some b) n c:=by
  intro nn ez rows h
  rcases h.of_sl with⟨a,h,_,hv⟩|⟨b,off,cap,cs,hv,_⟩
  ·obtain⟨a,rfl⟩:=Option.isSome_iff_exists.1 (h rfl)
   exact⟨_,_,_,hv⟩
  ·exact⟨_,_,_,hv⟩
 have ow:∀ {nn ez tg b u c rows},R M (.own ez tg b u c rows) nn→∃ b n c,nn= .slice (some b) n c:=by
  intro nn ez tg b u c rows h
  obtain⟨off,cap,cs,hv,_⟩:=h.of_own
  exact⟨_,_,_,hv⟩
 unfold eqV at h
 split at h<;>simp only[Option.some.injEq,reduceCtorEq]at h<;>subst h
 case h_1=>rw[hx.of_v,hy.of_v];exact eq_help (fun op p q=>by cases op<;>rfl) rfl rfl (fun d=>by simp[Op.equalIn,run_under ht]) op p q
 case h_2=>obtain⟨e,ht⟩:=ht;obtain⟨b,n,c,rfl⟩:=sl hx;rw[hy.of_v];exact eq_help (fun op p q=>by cases op<;>rfl) rfl rfl (fun d=>by simp[Op.equalIn,run_under ht]) op p q
 case h_3=>obtain⟨e,ht⟩:=ht;obtain⟨b,n,c,rfl⟩:=sl hy;rw[hx.of_v];exact eq_help (fun op p q=>by cases op<;>rfl) rfl rfl (fun d=>by simp[Op.equalIn,run_under ht]) op p q
 case h_4=>obtain⟨e,ht⟩:=ht;obtain⟨b,n,c,rfl⟩:=ow hx;rw[hy.of_v];exact eq_help (fun op p q=>by cases op<;>rfl) rfl rfl (fun d=>by simp[Op.equalIn,run_under ht]) op p q
 case h_5=>obtain⟨e,ht⟩:=ht;obtain⟨b,n,c,rfl⟩:=ow hy;rw[hx.of_v];exact eq_help (fun op p q=>by cases op<;>rfl) rfl rfl (fun d=>by simp[Op.equalIn,run_under ht]) op p q
 case h_6=>obtain⟨e,ht⟩:=ht;rw[hx.of_ms,hy.of_v];exact eq_help (fun op p q=>by cases op<;>rfl) rfl rfl (fun d=>by simp[Op.equalIn,run_under ht]) op p q
 case h_7=>obtain⟨e,ht⟩:=ht;rw[hx.of_v,hy.of_ms];exact eq_help (fun op p q=>by cases op<;>rfl) rfl rfl (fun d=>by simp[Op.equalIn,run_under ht]) op p q
 case h_8=>obtain⟨e,ht⟩:=ht;rw[hx.of_v,hy.of_v];exact eq_help (fun op p q=>by cases op<;>rfl) rfl rfl (fun d=>by simp[Op.equalIn,run_under ht]) op p q
 case h_9=>obtain⟨e,ht⟩:=ht;rw[hx.of_v,hy.of_v];exact eq_help (fun op p q=>by cases op<;>rfl) rfl rfl (fun d=>by simp[Op.equalIn,run_under ht]) op p q
 case h_10=>obtain⟨e,ht⟩:=ht;rw[hx.of_v,hy.of_v];exact eq_help (fun op p q=>by cases op<;>rfl) rfl rfl (fun d=>by simp[Op.equalIn,run_under ht]) op p q
 case h_11=>obtain⟨k,e,ht⟩:=ht;rw[hx.of_v,hy.of_v];exact eq_help (fun op p q=>by cases op<;>rfl) rfl rfl (fun d=>by simp[Op.equalIn,run_under ht]) op p q
 case h_12=>obtain⟨k,e,ht⟩:=ht;rw[hx.of_v,hy.of_v];exact eq_help (fun op p q=>by cases op<;>rfl) rfl rfl (fun d=>by simp[Op.equalIn,run_under ht]) op p q
 case h_13=>obtain⟨k,e,ht⟩:=ht;rw[hx.of_v,hy.of_v];exact eq_help (fun op p q=>by cases op<;>rfl) rfl rfl (fun d=>by simp[Op.equalIn,run_under ht]) op p q
 case h_14=>obtain⟨fp,fr,fv,ht⟩:=ht;rw[hx.of_v,hy.of_v];exact eq_help (fun op p q=>by cases op<;>rfl) rfl rfl (fun d=>by simp[Op.equalIn,run_under ht]) op p q
 case h_15=>obtain⟨fp,fr,fv,ht⟩:=ht;rw[hx.of_v,hy.of_v];exact eq_help (fun op p q=>by cases op<;>rfl) rfl rfl (fun d=>by simp[Op.equalIn,run_under ht]) op p q
 case h_16=>obtain⟨fp,fr,fv,ht⟩:=ht;rw[hx.of_v,hy.of_v];exact eq_help (fun op p q=>by cases op<;>rfl) rfl rfl (fun d=>by simp[Op.equalIn,run_under ht]) op p q
 case h_17=>obtain⟨e,ht⟩:=ht;rw[hx.of_lp,hy.of_v];exact eq_help (fun op p q=>by cases op<;>rfl) rfl rfl (fun d=>by simp[Op.equalIn,run_under ht]) op p q
 case h_18=>obtain⟨e,ht⟩:=ht;rw[hx.of_v,hy.of_lp];exact eq_help (fun op p q=>by cases op<;>rfl) rfl rfl (fun d=>by simp[Op.equalIn,run_under ht]) op p q
 case h_19=>obtain⟨e,ht⟩:=ht;rw[hx.of_v,hy.of_v];exact eq_help (fun op p q=>by cases op<;>rfl) rfl rfl (fun d=>by simp[Op.equalIn,run_under ht]) op p q
 case h_20=>obtain⟨e,ht⟩:=ht;rw[hx.of_v,hy.of_v];exact eq_help (fun op p q=>by cases op<;>rfl) rfl rfl (fun d=>by simp[Op.equalIn,run_under ht]) op p q
 case h_21=>obtain⟨e,ht⟩:=ht;rw[hx.of_v,hy.of_v];exact eq_help (fun op p q=>by cases op<;>rfl) rfl rfl (fun d=>by simp[Op.equalIn,run_under ht]) op p q
theorem s_eqb{neg:Bool}{k:EqK}{t:TypeId}{x y:Operand}(ht:eqkT P t k)(hI:Inv P M w0 σ w)(hR:RegsOK M rg a)
  (h:vcO P cfg d rg σ K E (.eqb neg k x y)):Gives P M w0 K ((do eqGuard (if neg then .neq else .eql) t x y (a.eval x) (a.eval y);binOp (if neg then .neq else .eql) t (a.eval x) (a.eval y):Sem Value).run P w):=by
 simp only[vcO]at h
 split at h
 ·rename_i b hb'
  obtain⟨h1,h2,h3⟩:=eqV_run (w:=w) ht (hR.ev x) (hR.ev y) hb' (if neg then .neq else .eql) x y
  refine Gives.same hI (.v _) h ?_
  rw[Sem.run_bind,h1]
  simp only[Sem.run_pure,Result.andThen_ok]
  cases neg
  ·simpa using h2 rfl
  ·simpa using h3 rfl
 ·exact h.elim
theorem s_mv{x:Operand}(hI:Inv P M w0 σ w)(hR:RegsOK M rg a)(h:vcO P cfg d rg σ K E (.mv x)):Gives P M w0 K ((pure (a.eval x):Sem Value).run P w):=
 Gives.same hI (hR.ev x) h rfl
theorem s_pick{c x y:Operand}(hI:Inv P M w0 σ w)(hR:RegsOK M rg a)(h:vcO P cfg d rg σ K E (.pick c x y)):Gives P M w0 K ((do pure (if ← asBool (a.eval c)then a.eval x else a.eval y):Sem Value).run P w):=by
 have hc:=hR.ev c
 simp only[vcO]at h
 split at h
 ·rename_i t he
  rw[he]at hc
  rw[hc.of_v]
  refine Gives.same hI (x:=if t then ev rg x else ev rg y) ?_ h rfl
  cases t
  ·exact hR.ev y
  ·exact hR.ev x
 ·exact h.elim
theorem s_extract{x:Operand}{i:Nat}(hI:Inv P M w0 σ w)(hR:RegsOK M rg a)(h:vcO P cfg d rg σ K E (.extract x i)):Gives P M w0 K ((Instr.extract (a.eval x) i).run P w):=by
 have hx:=hR.ev x
 simp only[vcO]at h
 split at h
 ·rename_i xs he
  rw[he]at hx
  obtain⟨cs,hv,hl⟩:=hx.of_tup
  rw[hv]
  split at h
  ·rename_i y hy
   obtain⟨v,hv',hr⟩:=hl.get hy
   exact Gives.same hI hr h (by simp[Instr.extract,hv'])
  ·exact h.elim
 ·rename_i vs he
  rw[he]at hx
  rw[hx.of_v]
  split at h
  ·rename_i y hy
   exact Gives.same hI (.v _) h (by simp[Instr.extract,hy])
  ·exact h.elim
 ·exact h.elim
theorem s_iaddr{t e:TypeId}{k:TypeInfo}{x i:Operand}(ht:P.underlying t=some (.slice e))(hk:P.info? e=some k)(hI:Inv P M w0 σ w)(hR:RegsOK M rg a)(h:vcO P cfg d rg σ K E (.iaddr k.size x i)):
  Gives P M w0 K ((Instr.indexAt t (a.eval x) (a.eval i)).run P w):=by
 have hx:=hR.ev x
 have hi:=hR.ev i
 simp only[vcO]at h
 have run:∀ (b o n cap:Nat) (kd:IntKind) (j:Int),0≤j→j<n→(Instr.indexAt t (.slice (some ⟨b,o,none⟩) n cap) (.int kd j)).run P w= .ok (.pointer (some ⟨b,o+j.toNat * k.size,none⟩)) w:=by
  intro b o n cap kd j h0 h1
  simp[Instr.indexAt,run_under ht,asIntOf,h0,h1,run_size hk,Addr.add_lit]
 split at h
 ·rename_i kd j he
  rw[he]at hi
  rw[hi.of_v]
  split at h
  ·rename_i nn ez rows hxe
   rw[hxe]at hx
   obtain⟨rfl,h0,h1,h⟩:=h
   rcases hx.of_sl with⟨_,_,rfl,_⟩|⟨b,off,cap,cs,hv,hr,_,_⟩
   ·simp at h1;omega
   ·rw[hv]
    exact Gives.same hI (hr.pc j.toNat (by omega)) h (run b off _ cap kd j h0 h1)
  ·rename_i ez tg b u c rows hxe
   rw[hxe]at hx
   obtain⟨rfl,h0,h1,h⟩:=h
   obtain⟨off,cap,cs,hv,hr,_⟩:=hx.of_own
   rw[hv]
   exact Gives.same hI (hr.pc j.toNat (by omega)) h (run b off _ cap kd j h0 h1)
  ·rename_i tg b o n cap hxe
   rw[hxe]at hx
   rw[hx.of_ms]
   obtain⟨h0,h1,h⟩:=h
   exact Gives.same hI (.lp _ _ _) h (run b o n cap kd j h0 h1)
  ·exact h.elim
 ·exact h.elim
theorem s_iaddrA{t e:TypeId}{n:Nat}{k:TypeInfo}{x i:Operand}(ht:P.underlying t=some (.array n e))(hk:P.info? e=some k)(hI:Inv P M w0 σ w)(hR:RegsOK M rg a)(h:vcO P cfg d rg σ K E (.iaddrA n k.size x i)):
  Gives P M w0 K ((Instr.indexAt t (a.eval x) (a.eval i)).run P w):=by
 have hx:=hR.ev x
 have hi:=hR.ev i
 simp only[vcO]at h
 have run:∀ (b o:Nat) (kd:IntKind) (j:Int),0≤j→j<n→(Instr.indexAt t (.pointer (some ⟨b,o,none⟩)) (.int kd j)).run P w= .ok (.pointer (some ⟨b,o+j.toNat * k.size,none⟩)) w:=by
  intro b o kd j h0 h1
  simp[Instr.indexAt,run_under ht,asIntOf,Instr.sureAddr,h0,h1,run_size hk,Addr.add_lit]
 split at h
 ·rename_i kd j he
  rw[he]at hi
  rw[hi.of_v]
  split at h
  ·rename_i tg b o hxe
   rw[hxe]at hx
   rw[hx.of_lp]
   obtain⟨h0,h1,h⟩:=h
   exact Gives.same hI (.lp _ _ _) h (run b o kd j h0 h1)
  ·rename_i l hxe
   rw[hxe]at hx
   obtain⟨h0,h1,h⟩:=h
   obtain⟨b,o,cs,hv,h2,h3⟩:=hx.of_pc
   rw[hv]
   refine Gives.same hI ?_ h (run b o kd j h0 h1)
   refine .pc _ b _ (fun m=>cs (j.toNat * k.size+m)) (fun m hm=> ?_) (fun m hm=> ?_)
   ·rw[Nat.add_assoc];exact h2 _ (by simp at hm;omega)
   ·simp only[List.getElem_drop];exact h3 _ _
  ·exact h.elim
 ·exact h.elim
theorem s_idxs{t:TypeId}{x i:Operand}(ht:P.underlying t=some .string)(hI:Inv P M w0 σ w)(hR:RegsOK M rg a)(h:vcO P cfg d rg σ K E (.idxs x i)):
  Gives P M w0 K ((Instr.index t (a.eval x) (a.eval i)).run P w):=by
 have hx:=hR.ev x
 have hi:=hR.ev i
 simp only[vcO]at h
 split at h
 ·rename_i kd j s hi' hx'
  rw[hi']at hi
  rw[hx']at hx
  rw[hi.of_v,hx.of_v]
  obtain⟨⟨h0,h1⟩,h⟩:=h
  refine Gives.same hI (.v _) h ?_
  have:s[j.toNat]? =some (s[j.toNat]'(by omega)):=by
   rw[getElem?_pos]
  simp[Instr.index,asIntOf,run_under ht,h0,this]
 ·exact h.elim
theorem s_lens{t:TypeId}{x:Operand}{ty:TypeId}(ht:P.underlying t=some .string)(hI:Inv P M w0 σ w)(hR:RegsOK M rg a)(h:vcO P cfg d rg σ K E (.len true x)):Gives P M w0 K ((Builtin.len_ #[t] ty #[a.eval x]).run P w):=by
 have hx:=hR.ev x
 simp only[vcO]at h
 split at h
 ·rename_i s he
  rw[he]at hx
  rw[hx.of_v]
  exact Gives.same hI (.v _) h (by simp[Builtin.len_,run_under ht,goInt])
 ·exact h.elim
theorem s_len{t e:TypeId}{x:Operand}{ty:TypeId}(ht:P.underlying t=some (.slice e))(hI:Inv P M w0 σ w)(hR:RegsOK M rg a)(h:vcO P cfg d rg σ K E (.len false x)):Gives P M w0 K ((Builtin.len_ #[t] ty #[a.eval x]).run P w):=by
 have hx:=hR.ev x
 simp only[vcO]at h
 have run:∀ b n c,a.eval x= .slice b n c→(Builtin.len_ #[t] ty #[a.eval x]).run P w= .ok (.int .i64 n) w:=by
  intro b n c e
  rw[e]
  simp[Builtin.len_,run_under ht,goInt]
 split at h
 ·rename_i b n c he
  rw[he]at hx
  exact Gives.same hI (.v _) h (run b n c hx.of_v)
 ·rename_i tg b o n c he
  rw[he]at hx
  exact Gives.same hI (.v _) h (run _ n c hx.of_ms)
 ·rename_i nn ez rows he
  rw[he]at hx
  rcases hx.of_sl with⟨_,_,rfl,hv⟩|⟨b,off,cap,cs,hv,hr,h1,h2⟩
  ·exact Gives.same hI (.v _) (h (by simp)) (run _ _ _ hv)
  ·exact Gives.same hI (.v _) (h (by omega)) (run _ _ _ hv)
 ·rename_i ez tg b u c rows he
  rw[he]at hx
  obtain⟨off,cap,cs,hv,hr,h1,h2,_⟩:=hx.of_own
  exact Gives.same hI (.v _) (h (by omega)) (run _ _ _ hv)
 ·exact h.elim
theorem s_max{x y:Operand}{ts:Array TypeId}{ty:TypeId}(hI:Inv P M w0 σ w)(hR:RegsOK M rg a)(h:vcO P cfg d rg σ K E (.max2 x y)):Gives P M w0 K ((Builtin.max_ ts ty #[a.eval x,a.eval y]).run P w):=by
 have hx:=hR.ev x
 have hy:=hR.ev y
 simp only[vcO]at h
 split at h
 ·rename_i u v hu hv
  rw[hu]at hx
  rw[hv]at hy
  rw[hx.of_v,hy.of_v]
  split at h
  ·rename_i r hr
   refine Gives.same hI (.v _) h ?_
   unfold maxV at hr
   split at hr
   ·split at hr
    ·rename_i e;subst e
     simp only[Bool.false_eq_true,if_false,Option.some.injEq]at hr
     subst hr
     simp[Builtin.max_,Builtin.max2]
    ·cases hr
   ·cases hr
  ·exact h.elim
 ·exact h.elim
theorem s_min{x y:Operand}{ts:Array TypeId}{ty:TypeId}(hI:Inv P M w0 σ w)(hR:RegsOK M rg a)(h:vcO P cfg d rg σ K E (.min2 x y)):Gives P M w0 K ((Builtin.min_ ts ty #[a.eval x,a.eval y]).run P w):=by
 have hx:=hR.ev x
 have hy:=hR.ev y
 simp only[vcO]at h
 split at h
 ·rename_i u v hu hv
  rw[hu]at hx
  rw[hv]at hy
  rw[hx.of_v,hy.of_v]
  split at h
  ·rename_i r hr
   refine Gives.same hI (.v _) h ?_
   unfold maxV at hr
   split at hr
   ·split at hr
    ·rename_i e;subst e
     simp only[if_true,Option.some.injEq]at hr
     subst hr
     simp[Builtin.min_,Builtin.min2]
    ·cases hr
   ·cases hr
  ·exact h.elim
 ·exact h.elim
theorem idx_spec{M:Mem}{rg:Regs}{a:Act}(hR:RegsOK M rg a){o:Option Operand}{r:Option Int}(h:idx? (o.map (ev rg))=some r):(o=none∧r=none)∨∃ k i,o.map a.eval=some (.int k i)∧r=some i:=by
 cases o with
 |none=>simp[idx?]at h;exact .inl ⟨rfl,h.symm⟩
 |some x=>
  have hx:=hR.ev x
  simp only[Option.map_some]at h
  unfold idx? at h
  split at h
  ·rename_i e;cases e
  ·rename_i k i e
   simp only[Option.some.injEq]at e h
   rw[e]at hx
   exact .inr ⟨k,i,by simp[hx.of_v],h.symm⟩
  ·cases h
theorem run_bounds{rlo rhi:Option Int}{vlo vhi:Option Value}(h1:(vlo=none∧rlo=none)∨∃ k i,vlo=some (.int k i)∧rlo=some i)(h2:(vhi=none∧rhi=none)∨∃ k i,vhi=some (.int k i)∧rhi=some i)
  (n c:Nat) (a1:0≤rlo.getD 0) (a2:rlo.getD 0≤rhi.getD n) (a3:rhi.getD n≤c):
  (Instr.sliceBounds true n c vlo vhi none).run P w= .ok ((rlo.getD 0).toNat,(rhi.getD n).toNat,c) w:=by
 have sb:∀ (k:IntKind) (i:Int) (y:Nat) (code:BoundsCode),0≤i→i≤y→(Instr.sliceBound (.int k i) y code).run P w= .ok i.toNat w:=by
  intro k i y code h0 h1
  simp[Instr.sliceBound,asIntOf,h0,h1]
 rcases h1 with⟨rfl,rfl⟩|⟨k,i,rfl,rfl⟩<;>rcases h2 with⟨rfl,rfl⟩|⟨k',i',rfl,rfl⟩<;>simp only[Option.getD_none,Option.getD_some]at a1 a2 a3 ⊢
 ·simp[Instr.sliceBounds]
 ·simp[Instr.sliceBounds,sb k' i' c _ (by omega) (by omega)]
 ·simp[Instr.sliceBounds,sb k i n _ (by omega) (by omega)]
 ·simp[Instr.sliceBounds,sb k' i' c _ (by omega) (by omega),sb k i i'.toNat _ (by omega) (by omega)]
theorem s_slice{t e:TypeId}{k:TypeInfo}{x:Operand}{lo hi:Option Operand}(ht:P.underlying t=some (.slice e))(hk:P.info? e=some k)(hI:Inv P M w0 σ w)(hR:RegsOK M rg a)(h:vcO P cfg d rg σ K E (.slice k.size x lo hi)):
  Gives P M w0 K ((Instr.sliceAt t (a.eval x) (lo.map a.eval) (hi.map a.eval) none).run P w):=by
 have hx:=hR.ev x
 simp only[vcO]at h
 split at h
 ·rename_i rlo rhi hlo hhi
  have h1:(lo.map a.eval=none∧rlo=none)∨∃ k i,lo.map a.eval=some (.int k i)∧rlo=some i:=by
   rcases idx_spec hR hlo with⟨rfl,rfl⟩|h
   ·exact .inl ⟨rfl,rfl⟩
   ·exact .inr h
  have h2:(hi.map a.eval=none∧rhi=none)∨∃ k i,hi.map a.eval=some (.int k i)∧rhi=some i:=by
   rcases idx_spec hR hhi with⟨rfl,rfl⟩|h
   ·exact .inl ⟨rfl,rfl⟩
   ·exact .inr h
  have run:∀ (base:Option Addr) (n c:Nat),0≤rlo.getD 0→rlo.getD 0≤rhi.getD n→rhi.getD n≤c→
    (Instr.sliceAt t (.slice base n c) (lo.map a.eval) (hi.map a.eval) none).run P w=
     .ok (.slice (if c=(rlo.getD 0).toNat then base else base.map (·.add ((rlo.getD 0).toNat * k.size))) ((rhi.getD n).toNat-(rlo.getD 0).toNat) (c-(rlo.getD 0).toNat)) w:=by
   intro base n c a1 a2 a3
   simp[Instr.sliceAt,run_under ht,Instr.slice,run_bounds h1 h2 n c a1 a2 a3,run_size hk]
  split at h
  ·rename_i nn ez rows hxe
   rw[hxe]at hx
   obtain⟨rfl,a1,a2,a3,h⟩:=h
   rcases hx.of_sl with⟨ba,hba,rfl,hv⟩|⟨b,off,cap,cs,hv,hr,h4,h5⟩
   ·rw[hv]
    simp only[List.length_nil,Int.natCast_zero]at a1 a2 a3 h
    have e1:(rlo.getD 0).toNat=0:=by omega
    have e2:(rhi.getD 0).toNat=0:=by omega
    refine Gives.same hI (v:= .slice ba 0 0) ?_ h ?_
    ·simp;exact .nil _ _ _ hba
    ·rw[run ba 0 0 a1 a2 a3]
     simp[e1]
     simpa using e2
   ·rw[hv]
    have hl:=hr.sub (rlo.getD 0).toNat (rhi.getD rows.length).toNat (by omega) (by omega)
    have hlen:((rows.take (rhi.getD rows.length).toNat).drop (rlo.getD 0).toNat).length=(rhi.getD rows.length).toNat-(rlo.getD 0).toNat:=by simp;omega
    by_cases hc:cap=(rlo.getD 0).toNat
    ·refine Gives.same hI (v:= .slice (some ⟨b,off,none⟩) ((rhi.getD rows.length).toNat-(rlo.getD 0).toNat) (cap-(rlo.getD 0).toNat)) ?_ h ?_
     ·have hz:(rows.take (rhi.getD rows.length).toNat).drop (rlo.getD 0).toNat=[]:=by
       apply List.eq_nil_of_length_eq_zero;rw[hlen];omega
      have hz':(rhi.getD rows.length).toNat-(rlo.getD 0).toNat=0:=by rw[← hlen,hz];rfl
      rw[hz,hz']
      exact R.mk_sl (rows:=[]) (cs:=cs) ⟨fun i hi=>absurd hi (by simp),fun k hk=>absurd hk (by simp),fun i hi=>absurd hi (by simp)⟩ (Nat.zero_le _) (by omega) nn
     ·rw[run _ _ _ a1 a2 (by omega),if_pos hc]
    ·refine Gives.same hI (v:= .slice (some ⟨b,off+(rlo.getD 0).toNat * k.size,none⟩) ((rhi.getD rows.length).toNat-(rlo.getD 0).toNat) (cap-(rlo.getD 0).toNat)) ?_ h ?_
     ·have:=R.mk_sl hl (cap:=cap-(rlo.getD 0).toNat) (by rw[hlen];omega) (by omega) nn
      rw[hlen]at this
      exact this
     ·rw[run _ _ _ a1 a2 (by omega),if_neg hc]
      simp[Addr.add_lit]
  ·rename_i ez tg b u c rows hxe
   rw[hxe]at hx
   obtain⟨rfl,a1,a2,a3,h⟩:=h
   obtain⟨off,cap,cs,hv,hr,h4,h5,h6,h8⟩:=hx.of_own
   rw[hv]
   have hl:=hr.sub (rlo.getD 0).toNat (rhi.getD rows.length).toNat (by omega) (by omega)
   have hlen:((rows.take (rhi.getD rows.length).toNat).drop (rlo.getD 0).toNat).length=(rhi.getD rows.length).toNat-(rlo.getD 0).toNat:=by simp;omega
   have hlo':(rlo.getD 0).toNat≤rows.length:=by omega
   by_cases hc:cap=(rlo.getD 0).toNat
   ·refine Gives.same hI (v:= .slice (some ⟨b,off,none⟩) ((rhi.getD rows.length).toNat-(rlo.getD 0).toNat) (cap-(rlo.getD 0).toNat)) ?_ h ?_
    ·have hz:(rows.take (rhi.getD rows.length).toNat).drop (rlo.getD 0).toNat=[]:=by
      apply List.eq_nil_of_length_eq_zero;rw[hlen];omega
     have hz':(rhi.getD rows.length).toNat-(rlo.getD 0).toNat=0:=by rw[← hlen,hz];rfl
     have hsl:=R.mk_sl (M:=M) (b:=b) (off:=off) (esz:=k.size) (cs:=cs) (cap:=cap-(rlo.getD 0).toNat) (rows:=[]) ⟨fun i hi=>absurd hi (by simp),fun k hk=>absurd hk (by simp),fun i hi=>absurd hi (by simp)⟩ (Nat.zero_le _) (by omega) true
     cases hrhi:rhi with
     |none=>
      simp only[hrhi,Option.isNone_none,if_true,Option.getD_none]at hz' ⊢
      have hz2:rows.drop (rlo.getD 0).toNat=[]:=by apply List.eq_nil_of_length_eq_zero;simp;omega
      rw[hz2,hz']
      exact R.mk_own (M:=M) (b:=b) (off:=off) (esz:=k.size) (cs:=cs) (rows:=[]) ⟨fun i hi=>absurd hi (by simp),fun k hk=>absurd hk (by simp),fun i hi=>absurd hi (by simp)⟩ (Nat.zero_le _) (by omega) (.inl (by omega)) h8
     |some j=>
      simp only[hrhi,Option.isNone_some,Bool.false_eq_true,if_false,Option.getD_some]at hz hz' ⊢
      rw[hz,hz']
      exact hsl
    ·rw[run _ _ _ a1 a2 (by omega),if_pos hc]
   ·refine Gives.same hI (v:= .slice (some ⟨b,off+(rlo.getD 0).toNat * k.size,none⟩) ((rhi.getD rows.length).toNat-(rlo.getD 0).toNat) (cap-(rlo.getD 0).toNat)) ?_ h ?_
    ·cases hrhi:rhi with
     |none=>
      simp only[hrhi,Option.isNone_none,if_true,Option.getD_none,Int.toNat_natCast,List.take_length]at hl hlen ⊢
      have e1:(rows.length-(rlo.getD 0).toNat) * k.size+(rlo.getD 0).toNat * k.size=rows.length * k.size:=by rw[← Nat.add_mul];congr 1;omega
      have e2:(cap-(rlo.getD 0).toNat) * k.size+(rlo.getD 0).toNat * k.size=cap * k.size:=by rw[← Nat.add_mul];congr 1;omega
      have:=R.mk_own (t:=tg) (u:=u) (c:=c) hl (cap:=cap-(rlo.getD 0).toNat) (by rw[hlen];omega) (by omega) (by rcases h6 with h6|h6;exact .inl (by omega);exact .inr ⟨by rw[hlen];omega,by omega⟩) h8
      rw[hlen]at this
      exact this
     |some j=>
      simp only[hrhi,Option.isNone_some,Bool.false_eq_true,if_false,Option.getD_some]at hl hlen a2 a3 ⊢
      have:=R.mk_sl hl (cap:=cap-(rlo.getD 0).toNat) (by rw[hlen];omega) (by omega) true
      rw[hlen]at this
      exact this
    ·rw[run _ _ _ a1 a2 (by omega),if_neg hc]
     simp[Addr.add_lit]
  ·rename_i hxe
   rw[hxe]at hx
   rw[hx.of_v]
   obtain⟨a1,a2,h⟩:=h
   refine Gives.same hI (.v _) h ?_
   rw[run none 0 0 (by omega) (by simp;omega) (by simp;omega)]
   simp[a1,a2]
  ·exact h.elim
 ·exact h.elim
end
section
variable {P:Program}[Glob P]{M:Mem}{w0 w:World}{σ:Store}{K:AV→Store→Prop}{rg:Regs}{a:Act}{cfg:Nat→Nat}{d:Option Nat}{E:List PanicEntry→Store→Prop}
theorem rowsV_cells{esz:Nat}{x:AV}{v:Value}{rows:List (List AV)}(hI:Inv P M w0 σ w)(hx:R M x v)(h:rowsV esz x=some rows)(hns:¬∃ s,x= .v (.string s)):
  ∃ (base:Option Addr) (cap:Nat) (L:List Value),v= .slice base rows.length cap∧RL M rows.flatten L∧(∀ i (h:i<rows.length),rows[i].length=esz)∧
   (Builtin.firstCells esz rows.length v).run P w= .ok L.toArray w:=by
 have go:∀ b off cap (cs:Nat→Value),Rows M b off esz rows cs→∃ L:List Value,RL M rows.flatten L∧(Builtin.firstCells esz rows.length (.slice (some ⟨b,off,none⟩) rows.length cap)).run P w= .ok L.toArray w:=by
  intro b off cap cs hr
  refine⟨_,hr.flat,?_⟩
  simp only[Builtin.firstCells]
  refine run_loads b off _ _ (by simp) (fun i hi=> ?_)
  simp only[List.length_map,List.length_range]at hi
  have:=hI.imm _ _ _ (hr.mem i hi)
  simpa using this
 unfold rowsV at h
 split at h
 ·rename_i nn e rows'
  split at h
  ·rename_i e';subst e'
   simp only[Option.some.injEq]at h
   subst h
   rcases hx.of_sl with⟨ba,_,rfl,hv⟩|⟨b,off,cap,cs,hv,hr,h1,h2⟩
   ·subst hv
    exact⟨ba,0,[],rfl,RL.nil,fun i hi=>absurd hi (by simp),by cases ba<;>simp[Builtin.firstCells,loadCells,loadCellsFrom]⟩
   ·obtain⟨L,hL,hrun⟩:=go b off cap cs hr
    exact⟨_,cap,L,hv,hL,hr.size,by rw[hv];exact hrun⟩
  ·cases h
 ·rename_i e tg b u c rows'
  split at h
  ·rename_i e';subst e'
   simp only[Option.some.injEq]at h
   subst h
   obtain⟨off,cap,cs,hv,hr,_⟩:=hx.of_own
   obtain⟨L,hL,hrun⟩:=go b off cap cs hr
   exact⟨_,cap,L,hv,hL,hr.size,by rw[hv];exact hrun⟩
  ·cases h
 ·simp only[Option.some.injEq]at h
  subst h
  rw[hx.of_v]
  exact⟨none,0,[],rfl,RL.nil,fun i hi=>absurd hi (by simp),by simp[Builtin.firstCells]⟩
 ·exact absurd ⟨_,rfl⟩ hns
 ·cases h
theorem rowsV_src{esz:Nat}{x:AV}{v:Value}{rows:List (List AV)}(hI:Inv P M w0 σ w)(hx:R M x v)(h:rowsV esz x=some rows):
  ∃ L:List Value,(∀ w':World,(Builtin.lenOf v).run P w'= .ok rows.length w')∧RL M rows.flatten L∧(∀ i (h:i<rows.length),rows[i].length=esz)∧
   (Builtin.firstCells esz rows.length v).run P w= .ok L.toArray w:=by
 by_cases hs:∃ s,x= .v (.string s)
 ·obtain⟨s,rfl⟩:=hs
  simp only[rowsV]at h
  split at h
  case isFalse=>cases h
  rename_i e1
  subst e1
  cases h
  rw[hx.of_v]
  refine⟨s.data.toList.map fun b=> .int .u8 b.toNat,fun w'=>by simp only[Builtin.lenOf,Sem.run_pure,List.length_map,Array.length_toList];rfl,?_,fun i hi=>by simp[byteRow],?_⟩
  ·have:∀ l:List UInt8,RL M (l.map byteRow).flatten (l.map fun b=>Value.int .u8 b.toNat):=by
    intro l
    induction l with
    |nil=>exact RL.nil
    |cons b l ih=>exact RL.cons (.v _) ih
   exact this _
  ·simp only[Builtin.firstCells,List.length_map,Sem.run_pure]
   congr 1
   apply Array.ext'
   have:s.extract 0 s.data.toList.length=s:=by
    have e:s.data.toList.length=s.size:=rfl
    rw[e,ByteArray.extract_zero_size]
   rw[this]
   simp
 ·obtain⟨base,cap,L,hv,h1,h2,h3⟩:=rowsV_cells (P:=P) (rows:=rows) hI hx h hs
  exact⟨L,fun w'=>by rw[hv];rfl,h1,h2,h3⟩
def Mem.ext(M:Mem)(B u:Nat)(vs:List Value):Mem:=fun b o=>if b=B∧u≤o∧o<u+vs.length then vs[o-u]? else M b o
theorem Inv.ext_le{tg b u c:Nat}(hI:Inv P M w0 σ w)(hb:lkt σ tg=some (b,.tail u c))(vs:List Value):M.le (M.ext b u vs):=fun b' o v h=>by
 obtain⟨_,hM,_⟩:=hI.st _ (lkt_mem hb)
 have:¬(b'=b∧u≤o∧o<u+vs.length):=fun⟨e,h1,_⟩=>by subst e;rw[hM o h1]at h;cases h
 simp[Mem.ext,this,h]
theorem Inv.tailWrite{tg b u c:Nat}(hI:Inv P M w0 σ w)(hb:lkt σ tg=some (b,.tail u c))(vs:List Value)(hc:u+vs.length≤c)(h1:vs.all Value.oneCell'=true):
  ∃ w',(storeCells ⟨b,u,none⟩ vs).run P w= .ok () w'∧Inv P (M.ext b u vs) w0 (upt σ tg b (.tail (u+vs.length) c)) w':=by
 obtain⟨hold,hM,cs,t,hh,hsz,_⟩:=hI.st _ (lkt_mem hb)
 simp only at hold hM hh hsz
 obtain⟨w',hr,hw',hk,e1,e2,e3,e4⟩:=run_stores (P:=P) b u t vs cs 0 w hh (by omega) h1
 have hle:=hI.ext_le hb vs
 obtain⟨pre,post,hs1,hs2⟩:=upt_split hb
 have hnd:=hI.nd
 rw[hs1]at hnd
 simp only[List.map_append,List.map_cons]at hnd
 refine⟨w',hr,e1.trans hI.os,e2.trans hI.tape,e3.trans hI.output,by rw[e4];exact hI.size,fun k hk'=> ?_,fun b' o v hv=> ?_,fun e he=> ?_,?_,fun g l e=>(hI.gl g l e).mono (hI.ext_le hb vs),hI.gw⟩
 ·rw[hk k (by omega)];exact hI.old k hk'
 ·simp only[Mem.ext]at hv
  split at hv
  ·rename_i hc'
   obtain⟨rfl,h2,h3⟩:=hc'
   simp only[World.cell?,hw',Option.isSome_none,Bool.false_eq_true,if_false,over,Nat.add_zero]
   simp only[List.getElem?_toArray,List.append_assoc]
   rw[List.getElem?_append_right (by simp;omega)]
   rw[List.getElem?_append_left (by simp;omega)]
   rw[← hv]
   congr 1
   simp;omega
  ·by_cases e:b'=b
   ·subst e
    rename_i hc'
    have hu:o<u:=by
     rcases Nat.lt_or_ge o u with h|h
     ·exact h
     ·rw[hM o h]at hv;cases hv
    have:=hI.imm b' o v hv
    simp only[World.cell?,hh,Option.isSome_none,Bool.false_eq_true,if_false]at this
    simp only[World.cell?,hw',Option.isSome_none,Bool.false_eq_true,if_false,over,Nat.add_zero]
    simp only[List.getElem?_toArray,List.append_assoc]
    rw[List.getElem?_append_left (by simp;omega),List.getElem?_take,if_pos hu]
    simpa using this
   ·have:=hI.imm b' o v hv
    rw[← this]
    simp only[World.cell?,hk b' e]
 ·rw[hs2]at he
  have hmem:e=(tg,b,.tail (u+vs.length) c)∨(e∈σ∧e.2.1≠b):=by
   rw[List.nodup_append]at hnd
   rcases List.mem_append.1 he with he|he
   ·refine .inr ⟨by rw[hs1];exact List.mem_append_left _ he,fun eb=> ?_⟩
    exact hnd.2.2 e.2.1 (List.mem_map_of_mem he) b List.mem_cons_self eb
   ·rcases List.mem_cons.1 he with rfl|he
    ·exact .inl rfl
    ·refine .inr ⟨by rw[hs1];exact List.mem_append_right _ (List.mem_cons_of_mem _ he),fun eb=> ?_⟩
     have:=(List.nodup_cons.1 hnd.2.1).1
     exact this (by rw[← eb];exact List.mem_map_of_mem (f:=fun e:Nat×Nat×Blk=>e.2.1) he)
  rcases hmem with rfl|⟨he,hne⟩
  ·refine⟨hold,fun o ho=> ?_,_,t,hw',?_,hc⟩
   ·simp[Mem.ext]
    rw[if_neg (by omega)]
    exact hM o (by omega)
   ·simp[over];omega
  ·refine⟨(hI.st e he).1,?_⟩
   have hkk:=(hI.st e he).2
   obtain⟨tg',b',x⟩:=e
   simp only at hne hkk ⊢
   cases x with
   |cells l=>obtain⟨a1,cs',t',a2,a3⟩:=hkk;exact⟨fun o=>by simp[Mem.ext,hne,a1 o],cs',t',(hk b' hne).trans a2,a3.mono hle⟩
   |tail u' c'=>obtain⟨a1,cs',t',a2,a3⟩:=hkk;exact⟨fun o ho=>by simp[Mem.ext,hne,a1 o ho],cs',t',(hk b' hne).trans a2,a3⟩
   |map es k=>obtain⟨a1,l,a2,a3,a4⟩:=hkk;exact⟨fun o=>by simp[Mem.ext,hne,a1 o],l,(hk b' hne).trans a2,a3,a4.mono hle⟩
 ·rw[hs2]
  simp only[List.map_append,List.map_cons]
  exact hnd
theorem Inv.moveTail{tg b:Nat}{x:Blk}(hI:Inv P M w0 σ w)(hb:lkt σ tg=some (b,x))(u:Nat)(cs:List Value)(t:TypeId)(hu:u≤cs.length):
  Inv P (M.add w.heap.size u cs) w0 (upt σ tg w.heap.size (.tail u cs.length)) (w.alloc (.cells cs.toArray t)):=by
 have h':=hI.addTail u cs t hu tg
 obtain⟨pre,post,hs1,hs2⟩:=upt_split hb
 refine⟨h'.os,h'.tape,h'.output,h'.size,h'.old,h'.imm,fun e he=> ?_,?_,h'.gl,h'.gw⟩
 ·rw[hs2]at he
  refine h'.st e ?_
  rcases List.mem_append.1 he with he|he
  ·exact List.mem_cons_of_mem _ (by rw[hs1];exact List.mem_append_left _ he)
  ·rcases List.mem_cons.1 he with rfl|he
   ·exact List.mem_cons_self
   ·exact List.mem_cons_of_mem _ (by rw[hs1];exact List.mem_append_right _ (List.mem_cons_of_mem _ he))
 ·have hnd:=hI.nd
  have hf:=hI.fresh
  rw[hs1]at hnd hf
  rw[hs2]
  simp only[List.map_append,List.map_cons]at hnd hf ⊢
  rw[List.nodup_append]at hnd ⊢
  simp only[List.mem_append,List.mem_cons,not_or]at hf
  refine⟨hnd.1,?_,fun a ha b' hb'=> ?_⟩
  ·rw[List.nodup_cons]at hnd ⊢
   exact⟨hf.2.2,hnd.2.1.2⟩
  ·rcases List.mem_cons.1 hb' with rfl|hb'
   ·intro e;subst e;exact hf.1 ha
   ·exact hnd.2.2 a ha b' (List.mem_cons_of_mem _ hb')
theorem growBy_le(n:Nat):∀ (r c:Nat),c<n→256≤c→Builtin.growBy n r c≤2 * n
 |0,c,h,_=>by simp[Builtin.growBy];omega
 |r+1,c,h,h2=>by
  simp only[Builtin.growBy]
  rw[if_neg (by omega)]
  by_cases h3:c+(c+768) / 4<n
  ·exact growBy_le n r _ h3 (by omega)
  ·cases r with
   |zero=>simp[Builtin.growBy];omega
   |succ r=>simp only[Builtin.growBy];rw[if_pos (by omega)];omega
theorem nextcap_le(n c:Nat)(h:c<n):Builtin.nextslicecap n c≤2 * n:=by
 unfold Builtin.nextslicecap
 split
 ·omega
 ·split
  ·omega
  ·exact growBy_le n 4 c h (by omega)
theorem wrap_map{rows rows':List (List AV)}{esz:Nat}(h:∀ i (h:i<rows.length),rows[i].length=esz)(h':∀ i (h:i<rows'.length),rows'[i].length=esz):
  ∀ i (h:i<(rows++rows').length),(rows++rows')[i].length=esz:=by
 intro i hi
 rw[List.getElem_append]
 split
 ·exact h _ _
 ·exact h' _ _
theorem Rows.join{b off esz:Nat}{rows rows':List (List AV)}{L L':List Value}{M':Mem}(h:∀ i (h:i<rows.length),rows[i].length=esz)(h':∀ i (h:i<rows'.length),rows'[i].length=esz)
  (hL:RL M' rows.flatten L) (hL':RL M' rows'.flatten L') (hM:∀ k v,(L++L')[k]? =some v→M' b (off+k)=some v):∃ cs,Rows M' b off esz (rows++rows') cs:=
 ⟨_,Rows.of_flat (wrap_map h h') (by rw[List.flatten_append];exact RL.append hL hL') hM⟩
theorem run_append_new{t e u ty:TypeId}{i:TypeInfo}{z:Value}{s x:Value}{base:Option Addr}{n c n':Nat}{L L':List Value}(ht:P.underlying t=some (.slice e))(hu:(∃ e',P.underlying u=some (.slice e'))∨P.underlying u=some .string)(hi:P.info? e=some i)(hz:i.zero=some z)(hb:0<i.bytes)
  (hs:s= .slice base n c) (hx:∀ w':World,(Builtin.lenOf x).run P w'= .ok n' w') (hlt:c<n+n') (hbig:(n+n') * i.bytes≤35184372088832)
  (h1:(Builtin.firstCells i.size n s).run P w.drew= .ok L.toArray w.drew) (h2:(Builtin.firstCells i.size n' x).run P w.drew= .ok L'.toArray w.drew):
  ∃ (cap:Nat) (rest:List Value),n+n'≤cap∧cap≤maxLen∧rest.length=(cap-(n+n')) * z.cells.size∧
   (Builtin.append_ #[t,u] ty #[s,x]).run P w= .ok (.slice (some ⟨w.heap.size,0,none⟩) (n+n') cap) (w.drew.alloc (.cells (L++L'++rest).toArray e)):=by
 subst hs
 have hnext:=nextcap_le (n+n') c hlt
 have hn1:Builtin.nextslicecap (n+n') c * i.bytes≤281474976710656:=by
  have:=Nat.mul_le_mul_right i.bytes hnext
  rw[Nat.mul_assoc]at this
  omega
 have hmax:n+n'≤35184372088832:=Nat.le_trans (Nat.le_mul_of_pos_right _ hb) hbig
 have hcap:(Question.appendCap (n+n') c e).cut (w.tape w.drawn (.appendCap (n+n') c e))=n+n'+(w.tape w.drawn (.appendCap (n+n') c e)) % (2 ^ 63-(n+n')):=rfl
 have hmod:(w.tape w.drawn (.appendCap (n+n') c e)) % (2 ^ 63-(n+n'))<2 ^ 63-(n+n'):=Nat.mod_lt _ (by omega)
 refine⟨(Question.appendCap (n+n') c e).cut (w.tape w.drawn (.appendCap (n+n') c e)),(Builtin.zeroCells z.cells ((Question.appendCap (n+n') c e).cut (w.tape w.drawn (.appendCap (n+n') c e))-(n+n'))).toList,?_,?_,?_,?_⟩
 ·rw[hcap];omega
 ·rw[hcap];unfold maxLen;omega
 ·simp[Builtin.zeroCells]
 ·have hgo:¬n+n'≤c:=by omega
  have hbig2:¬Builtin.nextslicecap (n+n') c * i.bytes>281474976710656:=by omega
  have hb0:i.bytes≠0:=by omega
  rcases hu with⟨e',hu⟩|hu
  all_goals(simp[Builtin.append_,run_under ht,run_under hu,run_size hi,hx,hgo,run_info hi,hb0,hbig2,Question.forced,h1,h2,run_zero hi hz,newRow])
  all_goals congr 2
  all_goals apply Array.ext'
  all_goals simp
theorem Inv.drew'(hI:Inv P M w0 σ w):Inv P M w0 σ w.drew:=⟨hI.os,hI.tape,hI.output,hI.size,hI.old,hI.imm,hI.st,hI.nd,hI.gl,hI.gw⟩
theorem rows_all_one{rows:List (List AV)}(h:rows.all (fun r=>r.all AV.one)=true):rows.flatten.all AV.one=true:=by
 rw[List.all_eq_true]at *
 intro x hx
 obtain⟨r,hr,hxr⟩:=List.mem_flatten.1 hx
 exact List.all_eq_true.1 (h r hr) x hxr
theorem s_append{t e u ty:TypeId}{i:TypeInfo}{z:Value}{x y:Operand}(ht:P.underlying t=some (.slice e))(hu:(∃ e',P.underlying u=some (.slice e'))∨P.underlying u=some .string)(hi:P.info? e=some i)(hz:i.zero=some z)(hp:0<i.size)(hb:0<i.bytes)(hzc:z.cells.size=i.size)
  (hI:Inv P M w0 σ w) (hR:RegsOK M rg a) (h:vcO P cfg d rg σ K E (.append e i.size i.bytes z.cells.toList x y)):Gives P M w0 K ((Builtin.append_ #[t,u] ty #[a.eval x,a.eval y]).run P w):=by
 have hx:=hR.ev x
 have hy:=hR.ev y
 simp only[vcO]at h
 split at h
 ·rename_i rows' hxe hye
  rw[hxe]at hx
  obtain⟨L',hv2,hL',hsz',hrun2⟩:=rowsV_src (P:=P) hI.drew' hy hye
  obtain⟨hbig,hnil,hcons⟩:=h
  rw[hx.of_v]
  by_cases hz0:rows'=[]
  ·subst hz0
   refine Gives.same hI (.v _) (hnil rfl) ?_
   obtain⟨L2,hv2',hL2,hsz2,hrun2'⟩:=rowsV_src (P:=P) hI hy hye
   have hL0:L2=[]:=by have:=hL2.1;simp at this;exact List.eq_nil_of_length_eq_zero this.symm
   subst hL0
   simp only[List.length_nil]at hrun2' hv2'
   rcases hu with⟨e',hu⟩|hu
   all_goals simp[Builtin.append_,run_under ht,run_under hu,run_size hi,hv2',hrun2']
  ·have hpos:0<rows'.length:=List.length_pos_iff.2 hz0
   obtain⟨cap,rest,hc1,hc2,hrest,hrun⟩:=run_append_new (P:=P) (ty:=ty) (s:= .slice none 0 0) (x:=a.eval y) (L:=[]) (L':=L') (n:=0) (c:=0) (n':=rows'.length) ht hu hi hz hb rfl hv2 (by omega) (by simpa using hbig) (by simp[Builtin.firstCells]) hrun2
   rw[hrun]
   simp only[Nat.zero_add,List.nil_append]at hc1 ⊢
   have hlen:L'.length=rows'.length * i.size:=by rw[← hL'.1,flatten_len _ hsz']
   refine⟨_,_,M.add w.drew.heap.size L'.length (L'++rest),_,_,rfl,hI.drew'.le_add _ _,hI.drew'.addTail _ _ e (by simp) _,?_,hcons hz0 _ L'.length _⟩
   have hr:Rows (M.add w.drew.heap.size L'.length (L'++rest)) w.drew.heap.size 0 i.size rows' (fun k=>L'.getD k undef):=
    Rows.of_flat hsz' (hL'.mono (hI.drew'.le_add _ _)) (fun k v hk=>by
     have hk':k<L'.length:=(List.getElem?_eq_some_iff.1 hk).1
     have:M.add w.drew.heap.size L'.length (L'++rest) w.drew.heap.size (0+k)=(L'++rest)[k]? :=by simp[Mem.add,hk']
     rw[this,List.getElem?_append_left hk',hk])
   have hzs:(L'++rest).length=cap * i.size:=by
    rw[List.length_append,hrest,hlen,hzc,Nat.zero_add,← Nat.add_mul];congr 1;omega
   exact R.mk_own hr hc1 hc2 (.inr ⟨by omega,by omega⟩) hp
 ·rename_i ez tg b u' c rows rows' hxe hye
  rw[hxe]at hx
  obtain⟨rfl,hbt,hbig,hone,h⟩:=h
  obtain⟨off,cap,cs,hv,hr,h4,h5,h6,h8⟩:=hx.of_own
  obtain⟨base1,cap1,L,hv1,hL,hsz,hrun1⟩:=rowsV_cells (P:=P) (rows:=rows) (esz:=i.size) hI.drew' hx (by simp[rowsV]) (fun⟨s,h⟩=>by cases h)
  obtain⟨L',hv2,hL',hsz',hrun2⟩:=rowsV_src (P:=P) hI.drew' hy hye
  have hlen:L.length=rows.length * i.size:=by rw[← hL.1,flatten_len _ hsz]
  have hlen':L'.length=rows'.length * i.size:=by rw[← hL'.1,flatten_len _ hsz']
  by_cases hfit:rows.length+rows'.length≤cap
  ·
   obtain⟨L2,hv2',hL2,hsz2,hrun2'⟩:=rowsV_src (P:=P) hI hy hye
   have hlen2:L2.length=rows'.length * i.size:=by rw[← hL2.1,flatten_len _ hsz2]
   have hall:L2.all Value.oneCell'=true:=hL2.all_one (rows_all_one hone)
   have hrunA:∀ w',(storeCells ⟨b,off+rows.length * i.size,none⟩ L2).run P w= .ok () w'→(Builtin.append_ #[t,u] ty #[a.eval x,a.eval y]).run P w= .ok (.slice (some ⟨b,off,none⟩) (rows.length+rows'.length) cap) w':=by
    intro w' hs
    rw[hv]at *
    rcases hu with⟨e',hu⟩|hu
    all_goals simp[Builtin.append_,run_under ht,run_under hu,run_size hi,hv2',hfit,hrun2',Addr.add_lit,hs]
   rcases h6 with h6|⟨h6,h7⟩
   ·have e1:rows=[]:=List.eq_nil_of_length_eq_zero (by omega)
    have e2:rows'=[]:=List.eq_nil_of_length_eq_zero (by omega)
    subst e1 e2
    have e3:L2=[]:=List.eq_nil_of_length_eq_zero (by simpa using hlen2)
    subst e3
    refine⟨_,w,M,_,_,hrunA w rfl,Mem.le.refl _,?_,?_,h b u' c⟩
    ·obtain⟨pre,post,hs1,hs2⟩:=upt_split hbt
     rw[hs2,← hs1]
     exact hI
    ·exact R.mk_own (rows:=[]++[]) (cs:=cs) ⟨fun i hi=>absurd hi (by simp),fun k hk=>absurd hk (by simp),fun i hi=>absurd hi (by simp)⟩ (by simp) h5 (.inl h6) h8
   ·have hcap:(rows.length+rows'.length) * i.size≤cap * i.size:=Nat.mul_le_mul_right _ hfit
    rw[Nat.add_mul]at hcap
    obtain⟨w',hs,hI'⟩:=Inv.tailWrite (P:=P) hI hbt L2 (by omega) hall
    rw[← h6]at hs
    have hle:=hI.ext_le hbt L2
    refine⟨_,w',_,_,_,hrunA w' hs,hle,hI',?_,h b (u'+L2.length) c⟩
    obtain⟨L0,hL0,hLm⟩:∃ L0:List Value,RL M rows.flatten L0∧∀ k v,L0[k]? =some v→M b (off+k)=some v:=⟨_,hr.flat,fun k v hk=>by
     obtain⟨hk1,hk2⟩:=List.getElem?_eq_some_iff.1 hk
     simp at hk1 hk2
     rw[← hk2]
     exact hr.mem k hk1⟩
    have hlen0:L0.length=rows.length * i.size:=by rw[← hL0.1,flatten_len _ hsz]
    obtain⟨cs2,hj⟩:=Rows.join (M':=M.ext b u' L2) (b:=b) (off:=off) hsz hsz2 (hL0.mono hle) (hL2.mono hle) (fun k v hk=>by
     by_cases hlt:k<L0.length
     ·rw[List.getElem?_append_left hlt]at hk
      exact hle _ _ _ (hLm k v hk)
     ·rw[List.getElem?_append_right (by omega)]at hk
      have hk':=(List.getElem?_eq_some_iff.1 hk).1
      simp only[Mem.ext]
      rw[if_pos ⟨trivial,by omega,by omega⟩,← hk]
      congr 1
      omega)
    have:=R.mk_own (t:=tg) (u:=u'+L2.length) (c:=c) hj (cap:=cap) (by simpa using hfit) h5 (.inr ⟨by rw[List.length_append,Nat.add_mul];omega,h7⟩) h8
    rw[List.length_append]at this
    exact this
  ·obtain⟨cap',rest,hc1,hc2,hrest,hrun⟩:=run_append_new (P:=P) (ty:=ty) (s:=a.eval x) (x:=a.eval y) (L:=L) (L':=L') (n:=rows.length) (c:=cap) (n':=rows'.length) ht hu hi hz hb hv hv2 (by omega) hbig hrun1 hrun2
   rw[hrun]
   have hId:=hI.drew'
   have hle:=hId.le_add (L++L').length (L++L'++rest)
   refine⟨_,_,M.add w.drew.heap.size (L++L').length (L++L'++rest),_,_,rfl,hle,hId.moveTail hbt _ _ e (by simp),?_,h _ _ _⟩
   obtain⟨cs2,hj⟩:=Rows.join (M':=M.add w.drew.heap.size (L++L').length (L++L'++rest)) (b:=w.drew.heap.size) (off:=0) hsz hsz' (hL.mono hle) (hL'.mono hle) (fun k v hk=>by
    have hk':k<(L++L').length:=(List.getElem?_eq_some_iff.1 hk).1
    have:M.add w.drew.heap.size (L++L').length (L++L'++rest) w.drew.heap.size (0+k)=(L++L'++rest)[k]? :=by unfold Mem.add;rw[if_pos rfl,if_pos (by omega),Nat.zero_add]
    rw[this,List.getElem?_append_left hk',hk])
   have hzs:(L++L'++rest).length=cap' * i.size:=by
    rw[List.length_append,List.length_append,hrest,hlen,hlen',hzc,← Nat.add_mul,← Nat.add_mul];congr 1;omega
   have hll:(L++L').length=(rows++rows').length * i.size:=by
    rw[List.length_append,hlen,hlen',List.length_append,Nat.add_mul]
   have:=R.mk_own (t:=tg) (u:=(L++L').length) (c:=(L++L'++rest).length) hj (cap:=cap') (by simpa using hc1) hc2 (.inr ⟨by omega,by omega⟩) hp
   rw[List.length_append (as:=rows)]at this
   exact this
 ·rename_i ez rows rows' hxe hye
  rw[hxe]at hx
  obtain⟨rfl,hbig,hnil,h⟩:=h
  obtain⟨b0,off,cs,hv,hr,h5⟩:=hx.of_fl
  by_cases hne:rows'=[]
  ·subst hne
   refine Gives.same hI hx (hnil rfl) ?_
   obtain⟨L2,hv2',hL2,hsz2,hrun2'⟩:=rowsV_src (P:=P) hI hy hye
   have hL0:L2=[]:=by have:=hL2.1;simp at this;exact List.eq_nil_of_length_eq_zero this.symm
   subst hL0
   simp only[List.length_nil]at hrun2' hv2'
   rw[hv]
   rcases hu with⟨e',hu⟩|hu
   all_goals simp[Builtin.append_,run_under ht,run_under hu,run_size hi,hv2',hrun2',Addr.add_lit,storeCells]
  have h:=h hne
  have hpos:0<rows'.length:=List.length_pos_iff.2 hne
  obtain⟨base1,cap1,L,hv1,hL,hsz,hrun1⟩:=rowsV_cells (P:=P) (rows:=rows) (esz:=i.size) hI.drew' (hx.fl_sl true) (by simp[rowsV]) (fun⟨s,h⟩=>by cases h)
  obtain⟨L',hv2,hL',hsz',hrun2⟩:=rowsV_src (P:=P) hI.drew' hy hye
  have hlen:L.length=rows.length * i.size:=by rw[← hL.1,flatten_len _ hsz]
  have hlen':L'.length=rows'.length * i.size:=by rw[← hL'.1,flatten_len _ hsz']
  obtain⟨cap',rest,hc1,hc2,hrest,hrun⟩:=run_append_new (P:=P) (ty:=ty) (s:=a.eval x) (x:=a.eval y) (L:=L) (L':=L') (n:=rows.length) (c:=rows.length) (n':=rows'.length) ht hu hi hz hb hv hv2 (by omega) hbig hrun1 hrun2
  rw[hrun]
  have hId:=hI.drew'
  have hle:=hId.le_add (L++L').length (L++L'++rest)
  refine⟨_,_,M.add w.drew.heap.size (L++L').length (L++L'++rest),_,_,rfl,hle,hId.addTail _ _ e (by simp) _,?_,h _ _ _⟩
  obtain⟨cs2,hj⟩:=Rows.join (M':=M.add w.drew.heap.size (L++L').length (L++L'++rest)) (b:=w.drew.heap.size) (off:=0) hsz hsz' (hL.mono hle) (hL'.mono hle) (fun k v hk=>by
   have hk':k<(L++L').length:=(List.getElem?_eq_some_iff.1 hk).1
   have:M.add w.drew.heap.size (L++L').length (L++L'++rest) w.drew.heap.size (0+k)=(L++L'++rest)[k]? :=by unfold Mem.add;rw[if_pos rfl,if_pos (by omega),Nat.zero_add]
   rw[this,List.getElem?_append_left hk',hk])
  have hzs:(L++L'++rest).length=cap' * i.size:=by
   rw[List.length_append,List.length_append,hrest,hlen,hlen',hzc,← Nat.add_mul,← Nat.add_mul];congr 1;omega
  have hll:(L++L').length=(rows++rows').length * i.size:=by
   rw[List.length_append,hlen,hlen',List.length_append,Nat.add_mul]
  have:=R.mk_own (t:=d.getD 0) (u:=(L++L').length) (c:=(L++L'++rest).length) hj (cap:=cap') (by simpa using hc1) hc2 (.inr ⟨by omega,by omega⟩) hp
  rw[List.length_append (as:=rows)]at this
  exact this
 ·exact h.elim
end
end Go.Sx
