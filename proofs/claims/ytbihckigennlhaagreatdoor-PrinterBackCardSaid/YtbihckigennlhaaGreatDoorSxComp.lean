/-
  The layer Sx, third part: how operations are compiled, and that their conditions are sound.
-/
import Derived.Test.YtbihckigennlhaaGreatDoorSxOps
set_option linter.unusedVariables false
set_option linter.unusedSimpArgs false
set_option linter.unusedSectionVars false
namespace Go.Sx
open Go.RowKit
def aggT(P:Program)[Glob P](t:TypeId):Option (Bool×Nat):=
 match P.underlying t,P.info? t with
 |some (.struct _),some i|some (.array _ _),some i=>some (true,i.size)
 |some _,some i=>some (false,i.size)
 |_,_=>none
def placesS(P:Program)[Glob P](fs:List Field):List (Nat×Operand)→Option (List (Nat×Nat×Operand))
 |[]=>some []
 |(i,x)::l=>match fs[i]? with
  |some f=>match P.info? f.type with
   |some k=>(placesS P fs l).map ((f.offset,k.size,x)::·)
   |none=>none
  |none=>none
def leafKs(P:Program)[Glob P](n:Nat):List Field→Option (List LeafK)
 |[]=>some []
 |f::fs=>if f.name≠ "_" ∧f.offset=n then
   match P.underlying f.type with
   |some (.int _)=>(leafKs P (n+1) fs).map (.int::·)
   |some .string=>(leafKs P (n+1) fs).map (.str::·)
   |some .bool=>(leafKs P (n+1) fs).map (.bool::·)
   |_=>none
  else none
def compEq(P:Program)[Glob P](neg:Bool)(t:TypeId)(x y:Operand):Option IOp:=
 match P.underlying t with
 |some (.int _)|some .string=>some (.bin (if neg then .neq else .eql) x y)
 |some (.struct fs)=>if P.stoodInHeld t=false∧P.eqGuardType P.depth t=false then(leafKs P 0 fs.toList).map fun ks=> .eqs neg ks x y else none
 |some .bool=>some (.eqb neg .bool x y)
 |some (.slice _)=>some (.eqb neg .slice x y)
 |some (.map _ _)=>some (.eqb neg .map x y)
 |some (.func _ _ _)=>some (.eqb neg .func x y)
 |some (.pointer _)=>some (.eqb neg .ptr x y)
 |_=>none
def compCall(P:Program)[Glob P](c:Call):Option IOp:=
 match c.callee with
 | .value (.func f)=>if callable P f then some (.call f c.args.toList)else none
 | .value f=>some (.callv f c.args.toList)
 | .builtin .len=>match c.args.toList,c.argTypes.toList with
  |[x],[t]=>match P.underlying t with
   |some .string=>some (.len true x)
   |some (.slice _)=>some (.len false x)
   |_=>none
  |_,_=>none
 | .builtin .append=>match c.args.toList,c.argTypes.toList with
  |[x,y],[t,u]=>match P.underlying t,P.underlying u with
   |some (.slice e),some (.slice _)=>match P.info? e with
    |some i=>match i.zero with
     |some z=>if 0<i.size∧0<i.bytes∧z.cells.size=i.size then some (.append e i.size i.bytes z.cells.toList x y)else none
     |none=>none
    |none=>none
   |some (.slice e),some .string=>match P.info? e with
    |some i=>match i.zero with
     |some z=>if 0<i.size∧0<i.bytes∧z.cells.size=i.size then some (.append e i.size i.bytes z.cells.toList x y)else none
     |none=>none
    |none=>none
   |_,_=>none
  |_,_=>none
 | .builtin .max=>match c.args.toList with
  |[x,y]=>some (.max2 x y)
  |_=>none
 | .builtin .min=>match c.args.toList with
  |[x,y]=>some (.min2 x y)
  |_=>none
 |_=>none
def compO(P:Program)[Glob P](o:Oper):Option IOp:=
 match o.op with
 | .move x| .assign x=>some (.mv x)
 | .pick c a b=>some (.pick c a b)
 | .alloc e=>match P.info? e with
  |some i=>i.zero.map (.alloc e ·)
  |none=>none
 | .box e x=>some (.box e x)
 | .build t parts=>match P.underlying t,P.info? t with
  |some (.struct fs),some i=>if fs.toList.all (fun f=>(P.info? f.type).isSome)then
    match i.zero,placesS P fs.toList parts.toList with
    |some z,some ps=>some (.build z.cells.toList ps)
    |_,_=>none
   else none
  |_,_=>none
 | .buildSlice t n parts=>match P.underlying t with
  |some (.slice e)=>match P.info? e with
   |some i=>match i.zero with
    |some z=>if parts.toList.map (·.1)=List.range n∧n * i.size≤16777216∧z.cells.size=i.size then some (.mksl e i.size (parts.toList.map (·.2)))else none
    |none=>none
   |none=>none
  |_=>none
 | .load t x=>(aggT P t).map fun(g,n)=> .load g n x
 | .store t x v=>(aggT P t).map fun(_,n)=> .store n x v
 | .nilCheck x=>some (.nilck x)
 | .binOp .eql t x y z=>match compEq P false t x y with
  |some i=>some i
  |none=>some (.extq (.binOp .eql t x y z) o.type (opInfo P o.op) [x,y])
 | .binOp .neq t x y z=>match compEq P true t x y with
  |some i=>some i
  |none=>some (.extq (.binOp .neq t x y z) o.type (opInfo P o.op) [x,y])
 | .binOp op _ x y _=>some (.bin op x y)
 | .unOp op _ x=>some (.un op x)
 | .convert src dst x=>match P.underlying src,P.underlying dst with
  |some (.int _),some (.int k)=>some (.cvint k x)
  |some .string,some .string=>some (.cvstr x)
  |_,_=>some (.extq (.convert src dst x) o.type (opInfo P o.op) [x])
 | .makeInterface t x=>match P.underlying t with
  |some (.interface _)=>none
  |some _=>some (.mkifc t x)
  |none=>none
 | .makeFunc fn first captured=>some (.mkfn fn first.toList captured.toList)
 | .slice t x lo hi none=>match P.underlying t with
  |some (.slice e)=>match P.info? e with
   |some i=>some (.slice i.size x lo hi)
   |none=>none
  |_=>some (.extq (.slice t x lo hi none) o.type (opInfo P o.op) (x::(lo.toList++hi.toList)))
 | .fieldAddr t x i=>match P.underlying t with
  |some (.struct fs)=>match fs[i]? with
   |some f=>match P.info? f.type with
    |some k=>if k.size≠0 then some (.faddr f.offset x)else none
    |none=>none
   |none=>none
  |_=>none
 | .field t x i=>match P.underlying t with
  |some (.struct fs)=>match fs[i]? with
   |some f=>(aggT P f.type).map fun(g,n)=> .field g f.offset n x
   |none=>none
  |_=>none
 | .indexAddr t x i=>match P.underlying t with
  |some (.slice e)=>match P.info? e with
   |some k=>some (.iaddr k.size x i)
   |none=>none
  |some (.array n e)=>match P.info? e with
   |some k=>some (.iaddrA n k.size x i)
   |none=>none
  |_=>none
 | .index t x i=>match P.underlying t with
  |some .string=>some (.idxs x i)
  |_=>some (.extq (.index t x i) o.type (opInfo P o.op) [x,i])
 | .makeMap t none=>some (.exts (.makeMap t none) o.type (opInfo P o.op) [])
 | .insert t m k x=>some (.exts (.insert t m k x) o.type (opInfo P o.op) [m,k,x])
 | .mapUpdate t m k x=>some (.exts (.mapUpdate t m k x) o.type (opInfo P o.op) [m,k,x])
 | .mapEntry t m k=>some (.exts (.mapEntry t m k) o.type (opInfo P o.op) [m,k])
 | .entryStore t m s x=>some (.exts (.entryStore t m s x) o.type (opInfo P o.op) [m,s,x])
 | .lookup t m k ok=>some (.extq (.lookup t m k ok) o.type (opInfo P o.op) [m,k])
 | .makeSlice t n c=>some (.exts (.makeSlice t n c) o.type (opInfo P o.op) [n,c])
 | .extract x i=>some (.extract x i)
 | .panic x=>some (.panic x)
 | .call c=>match compCall P c with
  |some i=>some i
  |none=>match c.callee with
   | .builtin _=>some (.exts (.call c) o.type (opInfo P o.op) c.args.toList)
   |_=>none
 |_=>none
def Gives(P:Program)[Glob P](M:Mem)(w0:Base)(K:AV→Store→Prop)(r:Result Value):Prop:=
 ∃ v w' M' x σ',r= .ok v w'∧M.le M'∧Inv P M' w0 σ' w'∧R M' x v∧K x σ'
section
variable {P:Program}[Glob P]{M:Mem}{w0:Base}{w:World}{σ:Store}{K:AV→Store→Prop}{rg:Regs}{a:Act}
theorem Gives.same(hI:Inv P M w0 σ w){x:AV}{v:Value}(hr:R M x v)(hk:K x σ){r:Result Value}(e:r= .ok v w):Gives P M w0 K r:=
 ⟨v,w,M,x,σ,e,Mem.le.refl _,hI,hr,hk⟩
theorem run_under{t:TypeId}{d:TypeDesc}(h:P.underlying t=some d)(w:World):(underlying t).run P w= .ok d w:=run_underlying h w
theorem run_info{t:TypeId}{i:TypeInfo}(h:P.info? t=some i)(w:World):(typeInfo t).run P w= .ok i w:=by simp[typeInfo,h]
theorem run_size{t:TypeId}{i:TypeInfo}(h:P.info? t=some i)(w:World):(sizeOf t).run P w= .ok i.size w:=by simp[sizeOf,run_info h]
theorem run_zero{t:TypeId}{i:TypeInfo}{z:Value}(h:P.info? t=some i)(hz:i.zero=some z)(w:World):(zeroValue t).run P w= .ok z w:=by simp[zeroValue,run_info h,hz]
theorem aggT_run{t:TypeId}{g:Bool}{n:Nat}(h:aggT P t=some (g,n))(w:World):(isAgg t).run P w= .ok g w∧(sizeOf t).run P w= .ok n w:=by
 unfold aggT at h
 split at h
 ·rename_i fs i h1 h2
  simp only[Option.some.injEq,Prod.mk.injEq]at h
  obtain⟨rfl,rfl⟩:=h
  exact⟨by simp[isAgg,run_under h1],run_size h2 w⟩
 ·rename_i m e i h1 h2
  simp only[Option.some.injEq,Prod.mk.injEq]at h
  obtain⟨rfl,rfl⟩:=h
  exact⟨by simp[isAgg,run_under h1],run_size h2 w⟩
 ·rename_i d i h3 h4 h1 h2
  simp only[Option.some.injEq,Prod.mk.injEq]at h
  obtain⟨rfl,rfl⟩:=h
  refine⟨?_,run_size h2 w⟩
  cases d<;>simp[isAgg,run_under h1]<;>first|exact(h3 _ rfl).elim|exact(h4 _ _ rfl).elim
 ·simp at h
theorem Inv.cell{tg b:Nat}{l:List AV}(hI:Inv P M w0 σ w)(hb:lkt σ tg=some (b,.cells l)){o:Nat}{y:AV}(hy:l[o]? =some y):
  ∃ v,w.cell? ⟨b,o,none⟩=some v∧R M y v:=by
 obtain⟨_,_,cs,t,hh,hl⟩:=hI.st _ (lkt_mem hb)
 obtain⟨v,hv,hr⟩:=hl.get hy
 exact⟨v,by simp[World.cell?,hh];simpa using hv,hr⟩
theorem run_loads(b o n:Nat)(cs:List Value)(hn:cs.length=n)(h:∀ i (hi:i<cs.length),w.cell? ⟨b,o+i,none⟩=some cs[i]):(loadCells ⟨b,o,none⟩ n).run P w= .ok cs.toArray w:=by
 subst hn
 have:=run_loadCells_list (P:=P) (w:=w) ⟨b,o,none⟩ cs (fun j v hv=>by
  obtain⟨hj,rfl⟩:=List.getElem?_eq_some_iff.1 hv
  rw[Addr.add_lit];exact h j hj)
 simpa using this
theorem s_load_cells{agg:Bool}{n b o:Nat}{t:TypeId}(ht:aggT P t=some (agg,n))(xs:List AV)(hx:∀ i y,xs[i]? =some y→∃ v,w.cell? ⟨b,o+i,none⟩=some v∧R M y v)
  (h:if agg then n≤xs.length∧K (.agg (xs.take n)) σ else match xs[0]? with
    |some y=>K y σ
    |none=>False):∃ v x,(Instr.loadAt t (.pointer (some ⟨b,o,none⟩))).run P w= .ok v w∧R M x v∧K x σ:=by
 obtain⟨h1,h2⟩:=aggT_run ht w
 simp only[Instr.loadAt,Instr.sureAddr,loadVar,Sem.run_bind,Sem.run_pure,Result.andThen_ok,h1]
 cases agg with
 |true=>
  simp only[if_true]at h
  obtain⟨hl,hk⟩:=h
  have:∃ cs:List Value,RL M (xs.take n) cs∧∀ i (hi:i<cs.length),w.cell? ⟨b,o+i,none⟩=some cs[i]:=by
   generalize hys:xs.take n=ys
   have hy:∀ i y,ys[i]? =some y→∃ v,w.cell? ⟨b,o+i,none⟩=some v∧R M y v:=fun i y e=>by
    subst hys
    rw[List.getElem?_take]at e
    split at e
    ·exact hx i y e
    ·simp at e
   clear hys hx hl hk
   induction ys generalizing o with
   |nil=>exact⟨[],RL.nil,fun i hi=>absurd hi (by simp)⟩
   |cons y ys ih=>
    obtain⟨v,hv,hr⟩:=hy 0 y rfl
    obtain⟨cs,hc,hcs⟩:=ih (o:=o+1) (fun i z e=>by have:=hy (i+1) z (by simpa using e);rwa [show o+1+i=o+(i+1)from by omega])
    refine⟨v::cs,RL.cons hr hc,fun i hi=> ?_⟩
    cases i with
    |zero=>exact hv
    |succ i=>have:=hcs i (by simpa using hi);rw[show o+(i+1)=o+1+i from by omega];simpa using this
  obtain⟨cs,hc,hcs⟩:=this
  have hlen:cs.length=n:=by rw[← hc.1];simp;omega
  simp only[if_true,Sem.run_bind,h2,Result.andThen_ok,run_loads b o n cs hlen hcs,Sem.run_pure]
  exact⟨_,_,rfl,R.mk_agg hc,hk⟩
 |false=>
  simp only[Bool.false_eq_true,if_false]at h ⊢
  cases hx0:xs[0]? with
  |none=>simp[hx0]at h
  |some y=>
   simp only[hx0]at h
   obtain⟨v,hv,hr⟩:=hx 0 y hx0
   simp only[Nat.add_zero]at hv
   simp only[run_load,hv]
   exact⟨_,_,rfl,hr,h⟩
theorem s_load{agg:Bool}{n:Nat}{x:Operand}{t:TypeId}{cfg:Nat→Nat}{d:Option Nat}{E:List PanicEntry→Store→Prop}(ht:aggT P t=some (agg,n))(hI:Inv P M w0 σ w)(hR:RegsOK M rg a)
  (h:vcO P cfg d rg σ K E (.load agg n x)):Gives P M w0 K ((Instr.loadAt t (a.eval x)).run P w):=by
 have hx:=hR.ev x
 simp only[vcO]at h
 split at h
 ·rename_i tg b o he
  rw[he]at hx
  rw[hx.of_lp]
  split at h
  ·rename_i b' l hb
   obtain⟨rfl,h⟩:=h
   suffices hs:∃ v x,(Instr.loadAt t (.pointer (some ⟨b,o,none⟩))).run P w= .ok v w∧R M x v∧K x σ by
    obtain⟨v,x,h1,h2,h3⟩:=hs;exact Gives.same hI h2 h3 h1
   refine s_load_cells ht (l.drop o) (fun i y e=> ?_) ?_
   ·rw[List.getElem?_drop]at e
    exact hI.cell hb e
   ·cases agg with
    |true=>
     simp only[if_true]at h ⊢
     refine⟨by simp;omega,h.2⟩
    |false=>
     simp only[Bool.false_eq_true,if_false]at h ⊢
     rw[List.getElem?_drop,Nat.add_zero]
     exact h
  ·exact h.elim
 ·rename_i l he
  rw[he]at hx
  obtain⟨b,off,cs,hv,hM,hRR⟩:=hx.of_pc
  rw[hv]
  suffices hs:∃ v x,(Instr.loadAt t (.pointer (some ⟨b,off,none⟩))).run P w= .ok v w∧R M x v∧K x σ by
   obtain⟨v,x,h1,h2,h3⟩:=hs;exact Gives.same hI h2 h3 h1
  refine s_load_cells ht l (fun i y e=> ?_) h
  obtain⟨hi,rfl⟩:=List.getElem?_eq_some_iff.1 e
  exact⟨cs i,hI.imm _ _ _ (hM i hi),hRR i hi⟩
 ·rename_i g he
  rw[he]at hx
  rw[hx.of_v]
  split at h
  ·rename_i l hl
   obtain⟨b,off,cs,hv,hM,hRR⟩:=(hI.gl g l hl).of_pc
   cases hv
   suffices hs:∃ v x,(Instr.loadAt t (.pointer (some ⟨g,0,none⟩))).run P w= .ok v w∧R M x v∧K x σ by
    obtain⟨v,x,h1,h2,h3⟩:=hs;exact Gives.same hI h2 h3 h1
   refine s_load_cells ht l (fun i y e=> ?_) h
   obtain⟨hi,rfl⟩:=List.getElem?_eq_some_iff.1 e
   exact⟨cs i,hI.imm _ _ _ (hM i hi),hRR i hi⟩
  ·exact h.elim
 ·exact h.elim
theorem run_stores(b o:Nat)(t:TypeId):∀ (vs:List Value) (cs:Array Value) (i:Nat) (w:World),w.heap[b]? =some (.cells cs t (0,0))→o+i+vs.length≤cs.size→vs.all Value.oneCell'=true→
  ∃ w',(storeCells ⟨b,o,none⟩ vs i).run P w= .ok () w'∧w'.heap[b]? =some (.cells (over cs.toList (o+i) vs).toArray t (0,0))∧(∀ k,k≠b→w'.heap[k]? =w.heap[k]?)∧w'.os=w.os∧w'.tape=w.tape∧w'.output=w.output∧w'.heap.size=w.heap.size
 |[],cs,i,w,hh,_,_=>⟨w,rfl,by simpa[over]using hh,fun _ _=>rfl,rfl,rfl,rfl,rfl⟩
 |v::vs,cs,i,w,hh,hl,h1=>by
  simp only[List.length_cons]at hl
  simp only[List.all_cons,Bool.and_eq_true]at h1
  have hlt:o+i<cs.size:=by omega
  have hc:w.cell? ⟨b,o+i,none⟩=some (cs[o+i]):=by simp[World.cell?,hh,hlt]
  have hf:w.frozen? ⟨b,o+i,none⟩=false:=by simp[World.frozen?,hh]
  have hs:(store (Addr.add ⟨b,o,none⟩ i) v).run P w= .ok () (w.setCell ⟨b,o+i,none⟩ v):=by
   rw[Addr.add_lit,run_store _ _ _ _ _ h1.1,hc]
   simp[hf]
  have hh1:(w.setCell ⟨b,o+i,none⟩ v).heap[b]? =some (.cells (cs.setIfInBounds (o+i) v) t (0,0)):=by
   simp[World.setCell,Array.getElem?_modify,hh]
  obtain⟨w',hr,hw',hk,e1,e2,e3,e4⟩:=run_stores b o t vs (cs.setIfInBounds (o+i) v) (i+1) _ hh1 (by simp;omega) h1.2
  refine⟨w',?_,?_,fun k hkb=> ?_,e1,e2,e3,e4.trans (by simp)⟩
  ·simp only[storeCells,Sem.run_bind,hs,Result.andThen_ok]
   exact hr
  ·rw[hw']
   congr 2
   apply Array.ext'
   simp only[over,Array.toList_setIfInBounds]
   have:(cs.toList.set (o+i) v).take (o+(i+1))=cs.toList.take (o+i)++[v]:=by
    rw[show o+(i+1)=o+i+1 from rfl,List.take_succ_eq_append_getElem (by simpa using hlt),List.take_set_of_le (Nat.le_refl _)]
    simp
   rw[this,List.drop_set_of_lt (by omega)]
   simp only[List.length_cons,List.append_assoc,List.cons_append,List.nil_append]
   rw[show o+(i+1)+vs.length=o+i+(vs.length+1)from by omega]
  ·rw[hk k hkb]
   simp only[World.setCell,Array.getElem?_modify]
   rw[if_neg (fun e=>hkb e.symm)]
theorem Inv.upd{P:Program}[Glob P]{M:Mem}{w0:Base}{w w':World}{σ:Store}(hI:Inv P M w0 σ w){tg b:Nat}{x y:Blk}(hb:lkt σ tg=some (b,x))(hk:∀ k,k≠b→w'.heap[k]? =w.heap[k]?)(e1:w'.os=w.os)(e2:w'.tape=w.tape)(e3:w'.output=w.output)
  (e4:w'.heap.size=w.heap.size) (hM:∀ o,M b o=none) (hy:BlkOK M w' b y):Inv P M w0 (upt σ tg b y) w':=by
 have hold:w0.heap.size≤b:=(hI.st _ (lkt_mem hb)).1
 obtain⟨pre,post,h1,h2⟩:=upt_split hb
 have hnd:=hI.nd
 rw[h1]at hnd
 simp only[List.map_append,List.map_cons]at hnd
 refine⟨e1.trans hI.os,e2.trans hI.tape,e3.trans hI.output,by rw[e4];exact hI.size,fun k hk'=> ?_,fun b' o v hv=> ?_,fun e he=> ?_,?_,hI.gl,hI.gw,hI.bm⟩
 ·rw[hk k (by omega)];exact hI.old k hk'
 ·have hne:b'≠b:=fun e=>by rw[e,hM]at hv;cases hv
  have:=hI.imm b' o v hv
  rw[← this]
  simp only[World.cell?,hk b' hne]
 ·rw[h2]at he
  have hmem:e=(tg,b,y)∨(e∈σ∧e.2.1≠b):=by
   rw[List.nodup_append]at hnd
   rcases List.mem_append.1 he with he|he
   ·refine .inr ⟨by rw[h1];exact List.mem_append_left _ he,fun eb=> ?_⟩
    exact hnd.2.2 e.2.1 (List.mem_map_of_mem he) b List.mem_cons_self eb
   ·rcases List.mem_cons.1 he with rfl|he
    ·exact .inl rfl
    ·refine .inr ⟨by rw[h1];exact List.mem_append_right _ (List.mem_cons_of_mem _ he),fun eb=> ?_⟩
     have:=(List.nodup_cons.1 hnd.2.1).1
     exact this (by rw[← eb];exact List.mem_map_of_mem (f:=fun e:Nat×Nat×Blk=>e.2.1) he)
  rcases hmem with rfl|⟨he,hne⟩
  ·exact⟨hold,hy⟩
  ·exact⟨(hI.st e he).1,(hI.st e he).2.heap (hk _ hne)⟩
 ·rw[h2]
  simp only[List.map_append,List.map_cons]
  exact hnd
theorem RL.all_one{xs:List AV}{cs:List Value}(h:RL M xs cs)(ha:xs.all AV.one=true):cs.all Value.oneCell'=true:=by
 rw[List.all_eq_true]at *
 intro v hv
 obtain⟨i,hi,rfl⟩:=List.mem_iff_getElem.1 hv
 have h1:i<xs.length:=h.1 ▸ hi
 exact(h.2 i h1 hi).one (ha _ (List.getElem_mem h1))
theorem s_store{n:Nat}{x y:Operand}{t:TypeId}{g:Bool}{cfg:Nat→Nat}{d:Option Nat}{E:List PanicEntry→Store→Prop}(ht:aggT P t=some (g,n))(hI:Inv P M w0 σ w)(hR:RegsOK M rg a)
  (h:vcO P cfg d rg σ K E (.store n x y)):∃ w' σ',(Instr.storeAt t (a.eval x) (a.eval y)).run P w= .ok () w'∧Inv P M w0 σ' w'∧K (.v undef) σ':=by
 have hx:=hR.ev x
 have hy:=hR.ev y
 simp only[vcO]at h
 split at h
 ·rename_i tg b o l' he hl'
  rw[he]at hx
  rw[hx.of_lp]
  split at h
  ·rename_i b' l hb
   obtain⟨rfl,hn,ho,hlt,hk⟩:=h
   have hc:=hy.cells hl'
   obtain⟨_,hM,cs,t',hh,hl⟩:=hI.st _ (lkt_mem hb)
   have e1:(a.eval y).cells.size=l'.length:=by rw[hc.1,Array.length_toList]
   obtain⟨w',hr,hw',hk',a1,a2,a3,a4⟩:=run_stores (P:=P) b o t' (a.eval y).cells.toList cs 0 w hh (by have:=hl.1;simp at this ⊢;omega) (hc.all_one ho)
   refine⟨w',_,?_,hI.upd (y:= .cells (over l o l')) hb hk' a1 a2 a3 a4 hM ⟨hM,_,t',hw',?_⟩,hk⟩
   ·simp only[Instr.storeAt,Instr.sureAddr,Sem.run_bind,Sem.run_pure,Result.andThen_ok,storeVar,(aggT_run ht w).2,e1,hn]
    simpa using hr
   ·simpa using hl.over hc o
  ·exact h.elim
 ·exact h.elim
end
theorem flatten_len{α:Type}{esz:Nat}:∀ (rows:List (List α)),(∀ i (h:i<rows.length),rows[i].length=esz)→rows.flatten.length=rows.length * esz
 |[],_=>by simp
 |r::rows,h=>by
  have h0:=h 0 (by simp)
  simp only[List.getElem_cons_zero]at h0
  have:=flatten_len rows (fun i hi=>h (i+1) (by simpa using hi))
  simp only[List.flatten_cons,List.length_append,List.length_cons,this,h0,Nat.succ_mul]
  omega
theorem flatten_get{α:Type}{esz:Nat}:∀ (rows:List (List α)),(∀ i (h:i<rows.length),rows[i].length=esz)→∀ i j,j<esz→(hi:i<rows.length)→rows.flatten[i * esz+j]? =rows[i][j]?
 |[],_,i,j,_,hi=>absurd hi (by simp)
 |r::rows,h,i,j,hj,hi=>by
  have h0:=h 0 (by simp)
  simp only[List.getElem_cons_zero]at h0
  cases i with
  |zero=>simp[List.getElem?_append,h0,hj]
  |succ i=>
   have:=flatten_get rows (fun i hi=>h (i+1) (by simpa using hi)) i j hj (by simpa using hi)
   simp only[List.flatten_cons,List.getElem_cons_succ,← this]
   rw[List.getElem?_append_right (by rw[h0,Nat.succ_mul];omega)]
   congr 1
   rw[h0,Nat.succ_mul];omega
theorem Rows.of_flat{M:Mem}{b off esz:Nat}{rows:List (List AV)}{L:List Value}(hs:∀ i (h:i<rows.length),rows[i].length=esz)(hL:RL M rows.flatten L)(hM:∀ k v,L[k]? =some v→M b (off+k)=some v):
  Rows M b off esz rows (fun k=>L.getD k undef):=by
 have hlen:=flatten_len rows hs
 refine⟨hs,fun k hk=> ?_,fun i hi j hj=> ?_⟩
 ·have hk':k<L.length:=by rw[← hL.1,hlen];exact hk
  have:=hM k L[k] (List.getElem?_eq_getElem hk')
  simp[List.getElem?_eq_getElem hk',this]
 ·have hj':j<esz:=hs i hi ▸ hj
  have hg:=flatten_get rows hs i j hj' hi
  rw[List.getElem?_eq_getElem hj]at hg
  obtain⟨v,hv,hr⟩:=hL.get hg
  simp[hv,hr]
theorem Rows.flat{M:Mem}{b off esz:Nat}{rows:List (List AV)}{cs:Nat→Value}(h:Rows M b off esz rows cs):RL M rows.flatten ((List.range (rows.length * esz)).map cs):=by
 have hlen:=flatten_len rows h.size
 refine⟨by simp[hlen],fun k h1 h2=> ?_⟩
 rw[hlen]at h1
 have he:0<esz:=by
  rcases Nat.eq_zero_or_pos esz with e|e
  ·subst e;simp at h1
  ·exact e
 have hi:k / esz<rows.length:=Nat.div_lt_of_lt_mul (by rw[Nat.mul_comm];exact h1)
 have hj:k % esz<esz:=Nat.mod_lt _ he
 have hk:k / esz * esz+k % esz=k:=by rw[Nat.mul_comm];exact Nat.div_add_mod k esz
 have hg:=flatten_get rows h.size (k / esz) (k % esz) hj hi
 rw[hk]at hg
 have hj':k % esz<rows[k / esz].length:=by rw[h.size];exact hj
 rw[List.getElem?_eq_getElem hj',List.getElem?_eq_getElem (by rw[hlen];exact h1)]at hg
 simp only[Option.some.injEq]at hg
 rw[hg]
 have:=h.rel (k / esz) hi (k % esz) hj'
 rw[hk]at this
 simpa using this
def Mem.add(M:Mem)(B u:Nat)(cs:List Value):Mem:=fun b o=>if b=B then(if o<u then cs[o]? else none)else M b o
section
variable {P:Program}[Glob P]{M:Mem}{w0:Base}{w:World}{σ:Store}{K:AV→Store→Prop}{rg:Regs}{a:Act}
theorem Inv.le_add(hI:Inv P M w0 σ w)(u:Nat)(cs:List Value):M.le (M.add w.heap.size u cs):=fun b o v h=>by
 have hne:b≠w.heap.size:=fun e=>by rw[e,hI.freshM]at h;cases h
 simp[Mem.add,hne,h]
theorem Inv.addMem(hI:Inv P M w0 σ w)(u:Nat)(cs:List Value)(t:TypeId):Inv P (M.add w.heap.size u cs) w0 σ (w.alloc (.cells cs.toArray t)):=by
 have h':=hI.alloc (.cells cs.toArray t)
 refine⟨h'.os,h'.tape,h'.output,h'.size,h'.old,fun b o v hv=> ?_,fun e he=>⟨(h'.st e he).1,?_⟩,h'.nd,fun g l e=>(hI.gl g l e).mono (hI.le_add u cs),hI.gw,fun b o v hv hlt=>hI.bm b o v (by simp only[Mem.add]at hv;rwa [if_neg (by have:=hI.size;omega)]at hv) hlt⟩
 ·simp only[Mem.add]at hv
  split at hv
  ·rename_i e
   subst e
   split at hv
   ·simpa using hv
   ·cases hv
  ·exact h'.imm b o v hv
 ·obtain⟨tg,b,x⟩:=e
  have hk:=(h'.st _ he).2
  have hne:b≠w.heap.size:=by have:=hI.lt_of he;simp at this;omega
  have hle:=hI.le_add u cs
  cases x with
  |cells l=>obtain⟨h1,cs',t',h2,h3⟩:=hk;exact⟨fun o=>by simp[Mem.add,hne,h1 o],cs',t',h2,h3.mono hle⟩
  |tail u' c=>obtain⟨h1,cs',t',h2,h3⟩:=hk;exact⟨fun o ho=>by simp[Mem.add,hne,h1 o ho],cs',t',h2,h3⟩
  |map es k=>obtain⟨h1,l,h2,h3,h4⟩:=hk;exact⟨fun o=>by simp[Mem.add,hne,h1 o],l,h2,h3,h4.mono hle⟩
theorem Inv.addTail(hI:Inv P M w0 σ w)(u:Nat)(cs:List Value)(t:TypeId)(hu:u≤cs.length)(tg:Nat):Inv P (M.add w.heap.size u cs) w0 ((tg,w.heap.size,.tail u cs.length)::σ) (w.alloc (.cells cs.toArray t)):=by
 have h':=hI.addMem u cs t
 refine⟨h'.os,h'.tape,h'.output,h'.size,h'.old,h'.imm,fun e he=> ?_,?_,h'.gl,h'.gw,h'.bm⟩
 ·rcases List.mem_cons.1 he with rfl|he
  ·exact⟨hI.size,fun o ho=>by simp[Mem.add];omega,cs.toArray,t,heap_alloc_new _ _,by simp,hu⟩
  ·exact h'.st e he
 ·simp only[List.map_cons,List.nodup_cons]
  exact⟨hI.fresh,hI.nd⟩
theorem s_box{cfg:Nat→Nat}{d:Option Nat}{E:List PanicEntry→Store→Prop}{x:Operand}{t:TypeId}(hI:Inv P M w0 σ w)(hR:RegsOK M rg a)(h:vcO P cfg d rg σ K E (.box t x)):
  Gives P M w0 K ((Instr.box t (a.eval x)).run P w):=by
 simp only[vcO]at h
 split at h
 ·rename_i l hl
  have hc:=(hR.ev x).cells hl
  refine⟨_,_,M,_,_,?_,Mem.le.refl _,hI.box t hc _,.lp _ _ _,h w.heap.size⟩
  simp[Instr.box,newVar,newRow]
 ·exact h.elim
theorem s_alloc{cfg:Nat→Nat}{d:Option Nat}{E:List PanicEntry→Store→Prop}{t:TypeId}{i:TypeInfo}{z:Value}(hi:P.info? t=some i)(hz:i.zero=some z)(hI:Inv P M w0 σ w)
  (h:vcO P cfg d rg σ K E (.alloc t z)):Gives P M w0 K ((Instr.alloc t true (.tuple #[])).run P w):=by
 simp only[vcO]at h
 refine⟨_,_,M,_,_,?_,Mem.le.refl _,hI.box t (RL.exact z.cells.toList) _,.lp _ _ _,h w.heap.size⟩
 simp[Instr.alloc,run_zero hi hz,newVar,newRow]
theorem evs_RL(hR:RegsOK M rg a):∀ (l:List Operand),RL M (evs rg l) (l.map a.eval)
 |[]=>RL.nil
 |x::l=>RL.cons (hR.ev x) (evs_RL hR l)
theorem fold_set(off:Nat):∀ (l:List Value) (j:Nat) (cs:Array Value),off+j+l.length≤cs.size→
  (l.zipIdx j).foldl (fun cs (c,j)=>cs.setIfInBounds (off+j) c) cs=(over cs.toList (off+j) l).toArray
 |[],j,cs,_=>by simp[over]
 |c::l,j,cs,h=>by
  simp only[List.length_cons]at h
  have hlt:off+j<cs.size:=by omega
  simp only[List.zipIdx_cons,List.foldl_cons]
  rw[fold_set off l (j+1) _ (by simp;omega)]
  apply Array.ext'
  simp only[over,Array.toList_setIfInBounds]
  have:(cs.toList.set (off+j) c).take (off+(j+1))=cs.toList.take (off+j)++[c]:=by
   rw[show off+(j+1)=off+j+1 from rfl,List.take_succ_eq_append_getElem (by simpa using hlt),List.take_set_of_le (Nat.le_refl _)]
   simp
  rw[this,List.drop_set_of_lt (by omega)]
  simp only[List.length_cons,List.append_assoc,List.cons_append,List.nil_append]
  rw[show off+(j+1)+l.length=off+j+(l.length+1)from by omega]
inductive PM(place:Nat→Option (Nat×Nat)):List (Nat×Operand)→List (Nat×Nat×Operand)→Prop
 |nil:PM place [] []
 |cons (i off n:Nat) (x:Operand) (l:List (Nat×Operand)) (ps:List (Nat×Nat×Operand)) (h:place i=some (off,n)) (t:PM place l ps):PM place ((i,x)::l) ((off,n,x)::ps)
theorem s_fill(hR:RegsOK M rg a)(place:Nat→Option (Nat×Nat)):∀ (parts:List (Nat×Operand)) (ps:List (Nat×Nat×Operand)) (cs:Array Value) (l l':List AV),RL M l cs.toList→
  PM place parts ps→fillA l (evp rg ps)=some l'→
  ∃ cs':Array Value,Instr.fill place cs (parts.map fun(i,x)=>(i,a.eval x))=some cs'∧RL M l' cs'.toList
 |[],ps,cs,l,l',hl,hp,hf=>by
  cases hp
  simp only[evp,fillA,Option.some.injEq]at hf
  subst hf
  exact⟨cs,rfl,hl⟩
 |(i,x)::parts,ps,cs,l,l',hl,hp,hf=>by
  cases hp with
  |cons _ off n _ _ ps' hpl h2=>
   simp only[evp,fillA]at hf
   split at hf
   ·rename_i lx hlx
    split at hf
    ·rename_i hc
     have hx:=(hR.ev x).cells hlx
     have e1:(a.eval x).cells.size=n:=by rw[← hc.1,hx.1,Array.length_toList]
     have e2:cs.size=l.length:=by rw[hl.1,Array.length_toList]
     have hov:=fold_set off (a.eval x).cells.toList 0 cs (by simp;omega)
     obtain⟨cs',h3,h4⟩:=s_fill hR place parts ps' (over cs.toList off (a.eval x).cells.toList).toArray (over l off lx) l' (by simpa using hl.over hx off) h2 hf
     refine⟨cs',?_,h4⟩
     simp only[List.map_cons,Instr.fill,hpl]
     rw[if_neg (by simp;omega)]
     rw[← h3]
     congr 1
     rw[← Array.foldl_toList,Array.toList_zipIdx]
     simpa using hov
    ·cases hf
   ·cases hf
theorem placesS_PM(fs:List Field)(place:Nat→Option (Nat×Nat))(hp:∀ i f k,fs[i]? =some f→P.info? f.type=some k→place i=some (f.offset,k.size)):
  ∀ (l:List (Nat×Operand)) (ps:List (Nat×Nat×Operand)),placesS P fs l=some ps→PM place l ps
 |[],ps,h=>by simp[placesS]at h;subst h;exact .nil
 |(i,x)::l,ps,h=>by
  simp only[placesS]at h
  split at h
  ·rename_i f hf
   split at h
   ·rename_i k hk
    rw[Option.map_eq_some_iff]at h
    obtain⟨ps',h1,rfl⟩:=h
    exact .cons _ _ _ _ _ _ (hp i f k hf hk) (placesS_PM fs place hp l ps' h1)
   ·cases h
  ·cases h
theorem run_places(w:World):∀ (fs:List Field),fs.all (fun f=>(P.info? f.type).isSome)=true→
  ∃ pl:List (Nat×Nat),(fs.mapM (fun f:Field=>do pure (f.offset,← sizeOf f.type)):Sem (List (Nat×Nat))).run P w= .ok pl w∧∀ (i:Nat) (f:Field) (k:TypeInfo),fs[i]? =some f→P.info? f.type=some k→pl[i]? =some (f.offset,k.size)
 |[],_=>⟨[],rfl,fun i f k h=>by simp at h⟩
 |f::fs,h=>by
  simp only[List.all_cons,Bool.and_eq_true]at h
  obtain⟨k0,hk0⟩:=Option.isSome_iff_exists.1 h.1
  obtain⟨pl,h1,h2⟩:=run_places w fs h.2
  refine⟨(f.offset,k0.size)::pl,?_,fun i g k hg hk=> ?_⟩
  ·simp only[List.mapM_cons,Sem.run_bind,run_size hk0,Result.andThen_ok,Sem.run_pure,h1]
  ·cases i with
   |zero=>
    simp only[List.getElem?_cons_zero,Option.some.injEq]at hg
    subst hg
    rw[hk0]at hk
    cases hk
    rfl
   |succ i=>simpa using h2 i g k (by simpa using hg) hk
theorem s_build{cfg:Nat→Nat}{d:Option Nat}{E:List PanicEntry→Store→Prop}{t:TypeId}{i:TypeInfo}{z:Value}{fs:Array Field}{parts:Array (Nat×Operand)}{ps:List (Nat×Nat×Operand)}
  (ht:P.underlying t=some (.struct fs)) (hi:P.info? t=some i) (hz:i.zero=some z) (hall:fs.toList.all (fun f=>(P.info? f.type).isSome)=true) (hps:placesS P fs.toList parts.toList=some ps)
  (hI:Inv P M w0 σ w) (hR:RegsOK M rg a) (h:vcO P cfg d rg σ K E (.build z.cells.toList ps)):Gives P M w0 K ((Instr.build t (parts.map fun(i,x)=>(i,a.eval x))).run P w):=by
 simp only[vcO]at h
 split at h
 ·rename_i l hl
  obtain⟨pl,h1,h2⟩:=run_places (P:=P) w fs.toList hall
  obtain⟨cs',h3,h4⟩:=s_fill hR (fun i:Nat=>pl[i]?) parts.toList ps z.cells (z.cells.toList.map .v) l (RL.exact _) (placesS_PM fs.toList _ h2 _ _ hps) hl
  refine Gives.same hI (v:= .agg cs') ?_ h ?_
  ·have:=R.mk_agg h4;simpa using this
  ·have h1':(fs.mapM (fun f:Field=>do pure (f.offset,← sizeOf f.type)):Sem (Array (Nat×Nat))).run P w= .ok pl.toArray w:=by
    rw[Array.mapM_eq_mapM_toList,Sem.run_map,h1]
    rfl
   simp only[Instr.build,Sem.run_bind,run_zero hi hz,Result.andThen_ok,run_under ht,h1',Array.toList_map]
   have e:(fun x:Nat=>pl.toArray[x]?)=(fun i:Nat=>pl[i]?):=by funext i;simp
   simp only[e,h3,Sem.run_pure]
 ·exact h.elim
theorem rowsOf_spec{esz:Nat}:∀ (xs:List AV) (rows:List (List AV)) (vs:List Value),rowsOf esz xs=some rows→RL M xs vs→RL M rows.flatten (vs.flatMap fun v=>v.cells.toList)∧rows.length=xs.length∧
  (∀ i (h:i<rows.length),rows[i].length=esz)∧∀ v∈vs,v.cells.size=esz
 |[],rows,vs,h,k=>by
  simp[rowsOf]at h;subst h
  obtain rfl:=k.unnil
  exact⟨RL.nil,rfl,fun i hi=>absurd hi (by simp),fun v hv=>by cases hv⟩
 |x::xs,rows,vs,h,k=>by
  obtain⟨v,vs',rfl,hx,hxs⟩:=k.uncons
  simp only[rowsOf]at h
  split at h
  ·rename_i r hr
   split at h
   ·rename_i he
    rw[Option.map_eq_some_iff]at h
    obtain⟨rows',h1,rfl⟩:=h
    obtain⟨a1,a2,a3,a4⟩:=rowsOf_spec xs rows' vs' h1 hxs
    have hc:=hx.cells hr
    refine⟨by simpa using RL.append hc a1,by simp[a2],fun i hi=> ?_,fun u hu=> ?_⟩
    ·cases i with
     |zero=>exact he
     |succ i=>exact a3 i (by simpa using hi)
    ·rcases List.mem_cons.1 hu with rfl|hu
     ·rw[← he,hc.1,Array.length_toList]
     ·exact a4 u hu
   ·cases h
  ·cases h
theorem fill_all(esz:Nat):∀ (vs:List Value) (k:Nat) (cs:Array Value),(∀ v∈vs,v.cells.size=esz)→k * esz+vs.length * esz≤cs.size→
  Instr.fill (fun i=>some (i * esz,esz)) cs ((List.range' k vs.length).zip vs)=some (over cs.toList (k * esz) (vs.flatMap fun v=>v.cells.toList)).toArray
 |[],k,cs,_,_=>by simp[Instr.fill,over]
 |v::vs,k,cs,h,hl=>by
  have hv:=h v (by simp)
  have hlen:∀ vs:List Value,(∀ v∈vs,v.cells.size=esz)→(vs.flatMap fun v=>v.cells.toList).length=vs.length * esz:=by
   intro vs
   induction vs with
   |nil=>simp
   |cons u us ih=>intro hh;simp only[List.flatMap_cons,List.length_append,Array.length_toList,hh u (by simp),ih (fun w hw=>hh w (by simp[hw])),List.length_cons,Nat.succ_mul];omega
  simp only[List.length_cons,Nat.succ_mul]at hl
  simp only[List.length_cons,List.range'_succ,List.zip_cons_cons,Instr.fill]
  rw[if_neg (by simp;omega)]
  rw[← Array.foldl_toList,Array.toList_zipIdx,fold_set (k * esz) v.cells.toList 0 cs (by simp;omega)]
  simp only[Nat.add_zero]
  rw[fill_all esz vs (k+1) _ (fun u hu=>h u (by simp[hu])) (by simp[over,hv];rw[Nat.succ_mul];omega)]
  congr 2
  simp only[over,List.flatMap_cons,List.length_append,Array.length_toList,hv,Nat.succ_mul]
  rw[List.take_append_of_le_length (by simp;omega)]
  have e1:(cs.toList.take (k * esz)++v.cells.toList).length=k * esz+esz:=by simp[hv];omega
  rw[List.take_of_length_le (by omega),List.drop_append,List.drop_of_length_le (by omega),e1]
  simp only[List.nil_append,List.append_assoc,List.drop_drop]
  congr 3
  congr 1
  omega
end
end Go.Sx
