/-
  The layer Sx, third part: how operations are compiled, and that their conditions are sound.
-/
import Derived.Test.YthdeaajdmdmfnaaGreatDoorSxCore
set_option linter.unusedVariables false
set_option linter.unusedSimpArgs false
set_option linter.unusedSectionVars false
namespace Go.Sx
open Go.RowKit
def eH(P:Program)[Glob P](t:TypeId):Option (Bool×Nat):=
 match P.underlying t,P.info? t with
 |some (.struct _),some i|some (.array _ _),some i=>some (true,i.size)
 |some _,some i=>some (false,i.size)
 |_,_=>none
def yb(P:Program)[Glob P](fs:List Field):List (Nat×Operand)→Option (List (Nat×Nat×Operand))
 |[]=>some []
 |(i,x)::l=>match fs[i]? with
  |some f=>match P.info? f.type with
   |some k=>(yb P fs l).map ((f.offset,k.size,x)::·)
   |none=>none
  |none=>none
def qM(P:Program)[Glob P](n:Nat):List Field→Option (List rH)
 |[]=>some []
 |f::fs=>if f.name≠ "_" ∧f.offset=n then
   match P.underlying f.type with
   |some (.int _)=>(qM P (n+1) fs).map (.int::·)
   |some .string=>(qM P (n+1) fs).map (.str::·)
   |some .bool=>(qM P (n+1) fs).map (.bool::·)
   |_=>none
  else none
def Cg(P:Program)[Glob P](neg:Bool)(t:TypeId)(x y:Operand):Option ax:=
 match P.underlying t with
 |some (.int _)|some .string=>some (.bin (if neg then .neq else .eql) x y)
 |some (.struct fs)=>if P.stoodInHeld t=false∧P.eqGuardType P.depth t=false then(qM P 0 fs.toList).map fun ks=> .eqs neg ks x y else none
 |some .bool=>some (.ji neg .bool x y)
 |some (.slice _)=>some (.ji neg .slice x y)
 |some (.map _ _)=>some (.ji neg .map x y)
 |some (.func _ _ _)=>some (.ji neg .func x y)
 |some (.pointer _)=>some (.ji neg .ptr x y)
 |_=>none
def Mw(P:Program)[Glob P](c:Call):Option ax:=
 match c.callee with
 | .value (.func f)=>if gR P f then some (.call f c.args.toList)else none
 | .value f=>some (.fD f c.args.toList)
 | .builtin .len=>match c.args.toList,c.argTypes.toList with
  |[x],[t]=>match P.underlying t with
   |some .string=>some (.len true x)
   |some (.slice _)=>some (.len false x)
   |_=>none
  |_,_=>none
 | .builtin .append=>match c.args.toList,c.argTypes.toList with
  |[x,y],[t,u]=>match P.underlying t,P.underlying u with
   |some (.slice e),some (.slice _)=>match P.info? e with
    |some i=>match i.zero with
     |some z=>if 0<i.size∧0<i.bytes∧z.cells.size=i.size then some (.append e i.size i.bytes z.cells.toList x y)else none
     |none=>none
    |none=>none
   |some (.slice e),some .string=>match P.info? e with
    |some i=>match i.zero with
     |some z=>if 0<i.size∧0<i.bytes∧z.cells.size=i.size then some (.append e i.size i.bytes z.cells.toList x y)else none
     |none=>none
    |none=>none
   |_,_=>none
  |_,_=>none
 | .builtin .max=>match c.args.toList with
  |[x,y]=>some (.max2 x y)
  |_=>none
 | .builtin .min=>match c.args.toList with
  |[x,y]=>some (.min2 x y)
  |_=>none
 |_=>none
def Ci(P:Program)[Glob P](o:Oper):Option ax:=
 match o.op with
 | .move x| .assign x=>some (.mv x)
 | .pick c a b=>some (.pick c a b)
 | .alloc e=>match P.info? e with
  |some i=>i.zero.map (.alloc e ·)
  |none=>none
 | .box e x=>some (.box e x)
 | .build t parts=>match P.underlying t,P.info? t with
  |some (.struct fs),some i=>if fs.toList.all (fun f=>(P.info? f.type).isSome)then
    match i.zero,yb P fs.toList parts.toList with
    |some z,some ps=>some (.build z.cells.toList ps)
    |_,_=>none
   else none
  |_,_=>none
 | .buildSlice t n parts=>match P.underlying t with
  |some (.slice e)=>match P.info? e with
   |some i=>match i.zero with
    |some z=>if parts.toList.map (·.1)=List.range n∧n * i.size≤16777216∧z.cells.size=i.size then some (.dF e i.size (parts.toList.map (·.2)))else none
    |none=>none
   |none=>none
  |_=>none
 | .load t x=>(eH P t).map fun(g,n)=> .load g n x
 | .store t x v=>(eH P t).map fun(_,n)=> .store n x v
 | .nilCheck x=>some (.mo x)
 | .binOp .eql t x y z=>match Cg P false t x y with
  |some i=>some i
  |none=>some (.cu (.binOp .eql t x y z) o.type (ei P o.op) [x,y])
 | .binOp .neq t x y z=>match Cg P true t x y with
  |some i=>some i
  |none=>some (.cu (.binOp .neq t x y z) o.type (ei P o.op) [x,y])
 | .binOp op _ x y _=>some (.bin op x y)
 | .unOp op _ x=>some (.un op x)
 | .convert src dst x=>match P.underlying src,P.underlying dst with
  |some (.int _),some (.int k)=>some (.lM k x)
  |some .string,some .string=>some (.mG x)
  |_,_=>some (.cu (.convert src dst x) o.type (ei P o.op) [x])
 | .makeInterface t x=>match P.underlying t with
  |some (.interface _)=>none
  |some _=>some (.nh t x)
  |none=>none
 | .makeFunc fn first captured=>some (.ng fn first.toList captured.toList)
 | .slice t x lo hi none=>match P.underlying t with
  |some (.slice e)=>match P.info? e with
   |some i=>some (.slice i.size x lo hi)
   |none=>none
  |_=>some (.cu (.slice t x lo hi none) o.type (ei P o.op) (x::(lo.toList++hi.toList)))
 | .slice t x lo (some hi) (some mx)=>some (.cu (.slice t x lo (some hi) (some mx)) o.type (ei P o.op) (x::(lo.toList++[hi,mx])))
 | .fieldAddr t x i=>match P.underlying t with
  |some (.struct fs)=>match fs[i]? with
   |some f=>match P.info? f.type with
    |some k=>if k.size≠0 then some (.aY f.offset x)else none
    |none=>none
   |none=>none
  |_=>none
 | .field t x i=>match P.underlying t with
  |some (.struct fs)=>match fs[i]? with
   |some f=>(eH P f.type).map fun(g,n)=> .field g f.offset n x
   |none=>none
  |_=>none
 | .indexAddr t x i=>match P.underlying t with
  |some (.slice e)=>match P.info? e with
   |some k=>some (.fe k.size x i)
   |none=>none
  |some (.array n e)=>match P.info? e with
   |some k=>some (.me n k.size x i)
   |none=>none
  |_=>none
 | .index t x i=>match P.underlying t with
  |some .string=>some (.idxs x i)
  |_=>some (.cu (.index t x i) o.type (ei P o.op) [x,i])
 | .makeMap t none=>some (.exts (.makeMap t none) o.type (ei P o.op) [])
 | .insert t m k x=>some (.exts (.insert t m k x) o.type (ei P o.op) [m,k,x])
 | .mapUpdate t m k x=>some (.exts (.mapUpdate t m k x) o.type (ei P o.op) [m,k,x])
 | .mapEntry t m k=>some (.exts (.mapEntry t m k) o.type (ei P o.op) [m,k])
 | .entryStore t m s x=>some (.exts (.entryStore t m s x) o.type (ei P o.op) [m,s,x])
 | .lookup t m k ok=>some (.cu (.lookup t m k ok) o.type (ei P o.op) [m,k])
 | .makeSlice t n c=>some (.exts (.makeSlice t n c) o.type (ei P o.op) [n,c])
 | .extract x i=>some (.extract x i)
 | .panic x=>some (.panic x)
 | .call c=>match Mw P c with
  |some i=>some i
  |none=>match c.callee with
   | .builtin _=>some (.exts (.call c) o.type (ei P o.op) c.args.toList)
   |_=>none
 |_=>none
def aO(P:Program)[Glob P](M:Mem)(w0:Base)(K:AV→Store→Prop)(r:Result Value):Prop:=
 ∃ v w' M' x σ',r= .ok v w'∧M.le M'∧Inv P M' w0 σ' w'∧R M' x v∧K x σ'
section
variable {P:Program}[Glob P]{M:Mem}{w0:Base}{w:World}{σ:Store}{K:AV→Store→Prop}{rg:ag}{a:Act}
theorem aO.same(hI:Inv P M w0 σ w){x:AV}{v:Value}(hr:R M x v)(hk:K x σ){r:Result Value}(e:r= .ok v w):aO P M w0 K r:=
 ⟨v,w,M,x,σ,e,Mem.le.refl _,hI,hr,hk⟩
theorem aW{t:TypeId}{d:TypeDesc}(h:P.underlying t=some d)(w:World):(underlying t).run P w= .ok d w:=run_underlying h w
theorem Kd{t:TypeId}{i:TypeInfo}(h:P.info? t=some i)(w:World):(typeInfo t).run P w= .ok i w:=by simp[typeInfo,h]
theorem ly{t:TypeId}{i:TypeInfo}(h:P.info? t=some i)(w:World):(sizeOf t).run P w= .ok i.size w:=by simp[sizeOf,Kd h]
theorem Er{t:TypeId}{i:TypeInfo}{z:Value}(h:P.info? t=some i)(hz:i.zero=some z)(w:World):(zeroValue t).run P w= .ok z w:=by simp[zeroValue,Kd h,hz]
theorem wM{t:TypeId}{g:Bool}{n:Nat}(h:eH P t=some (g,n))(w:World):(isAgg t).run P w= .ok g w∧(sizeOf t).run P w= .ok n w:=by
 unfold eH at h
 split at h
 ·rename_i fs i h1 h2
  obtain⟨rfl,rfl⟩:=h
  exact⟨by simp[isAgg,aW h1],ly h2 w⟩
 ·rename_i m e i h1 h2
  obtain⟨rfl,rfl⟩:=h
  exact⟨by simp[isAgg,aW h1],ly h2 w⟩
 ·rename_i d i h3 h4 h1 h2
  obtain⟨rfl,rfl⟩:=h
  refine⟨?_,ly h2 w⟩
  cases d<;>simp[isAgg,aW h1]<;>first|grind|grind
 grind
theorem Inv.cell{tg b:Nat}{l:List AV}(hI:Inv P M w0 σ w)(hb:aV σ tg=some (b,.cells l)){o:Nat}{y:AV}(hy:l[o]? =some y):
  ∃ v,w.cell? ⟨b,o,none⟩=some v∧R M y v:=by
 obtain⟨_,_,cs,t,hh,hl⟩:=hI.st _ (s8 hb)
 obtain⟨v,hv,hr⟩:=hl.get hy
 exact⟨v,by simp[World.cell?,hh];grind,hr⟩
theorem Be(b o n:Nat)(cs:List Value)(hn:cs.length=n)(h:∀ i (hi:i<cs.length),w.cell? ⟨b,o+i,none⟩=some cs[i]):(loadCells ⟨b,o,none⟩ n).run P w= .ok cs.toArray w:=by
 have:=run_loadCells_list (P:=P) (w:=w) ⟨b,o,none⟩ cs (fun j v hv=>by
  rw[Addr.add_lit];grind)
 grind
theorem Eu{agg:Bool}{n b o:Nat}{t:TypeId}(ht:eH P t=some (agg,n))(xs:List AV)(hx:∀ i y,xs[i]? =some y→∃ v,w.cell? ⟨b,o+i,none⟩=some v∧R M y v)
  (h:if agg then n≤xs.length∧K (.agg (xs.take n)) σ else match xs[0]? with
    |some y=>K y σ
    |none=>False):∃ v x,(Instr.loadAt t (.pointer (some ⟨b,o,none⟩))).run P w= .ok v w∧R M x v∧K x σ:=by
 obtain⟨h1,h2⟩:=wM ht w
 simp only[Instr.loadAt,Instr.sureAddr,loadVar,Sem.run_bind,Sem.run_pure,Result.andThen_ok,h1]
 cases agg with
 |true=>
  obtain⟨hl,hk⟩:=h
  have:∃ cs:List Value,RL M (xs.take n) cs∧∀ i (hi:i<cs.length),w.cell? ⟨b,o+i,none⟩=some cs[i]:=by
   generalize AD:xs.take n=ys
   have hy:∀ i y,ys[i]? =some y→∃ v,w.cell? ⟨b,o+i,none⟩=some v∧R M y v:=fun i y e=>by
    grind
   clear AD hx hl hk
   induction ys generalizing o with
   |nil=>exact⟨[],RL.nil,fun i hi=>absurd hi (by simp)⟩
   |cons y ys ih=>
    obtain⟨v,hv,hr⟩:=hy 0 y rfl
    obtain⟨cs,hc,bK⟩:=ih (o:=o+1) (fun i z e=>by have:=hy (i+1) z (by grind);grind)
    refine⟨v::cs,RL.cons hr hc,fun i hi=> ?_⟩
    grind
  obtain⟨cs,hc,bK⟩:=this
  have hlen:cs.length=n:=by rw[← hc.1];grind
  simp only[YX,Sem.run_bind,h2,Result.andThen_ok,Be b o n cs hlen bK,Sem.run_pure]
  exact⟨_,_,rfl,R.oF hc,hk⟩
 |false=>
  simp only[ZU,YV]at h ⊢
  cases sV:xs[0]? with
  |none=>grind
  |some y=>
   simp only[sV]at h
   obtain⟨v,hv,hr⟩:=hx 0 y sV
   simp only[Ym]at hv
   simp only[run_load,hv]
   grind
theorem ah0{agg:Bool}{n:Nat}{x:Operand}{t:TypeId}{cfg:Nat→Nat}{d:Option Nat}{E:List PanicEntry→Store→Prop}(ht:eH P t=some (agg,n))(hI:Inv P M w0 σ w)(hR:bQ M rg a)
  (h:aj P cfg d rg σ K E (.load agg n x)):aO P M w0 K ((Instr.loadAt t (a.eval x)).run P w):=by
 have hx:=hR.ev x
 simp only[aj]at h
 split at h
 ·rename_i tg b o he
  rw[he]at hx
  rw[hx.oH]
  split at h
  ·rename_i b' l hb
   obtain⟨rfl,h⟩:=h
   suffices hs:∃ v x,(Instr.loadAt t (.pointer (some ⟨b,o,none⟩))).run P w= .ok v w∧R M x v∧K x σ by
    obtain⟨v,x,h1,h2,h3⟩:=hs;exact aO.same hI h2 h3 h1
   refine Eu ht (l.drop o) (fun i y e=> ?_) ?_
   ·rw[Yz]at e
    exact hI.cell hb e
   grind
  grind
 ·rename_i l he
  rw[he]at hx
  obtain⟨b,off,cs,hv,hM,Ht⟩:=hx.tq
  rw[hv]
  suffices hs:∃ v x,(Instr.loadAt t (.pointer (some ⟨b,off,none⟩))).run P w= .ok v w∧R M x v∧K x σ by
   obtain⟨v,x,h1,h2,h3⟩:=hs;exact aO.same hI h2 h3 h1
  refine Eu ht l (fun i y e=> ?_) h
  obtain⟨hi,rfl⟩:=ZE.1 e
  exact⟨cs i,hI.bL _ _ _ (hM i hi),Ht i hi⟩
 ·rename_i g he
  rw[he]at hx
  rw[hx.ay]
  split at h
  ·rename_i l hl
   obtain⟨b,off,cs,hv,hM,Ht⟩:=(hI.gl g l hl).tq
   cases hv
   suffices hs:∃ v x,(Instr.loadAt t (.pointer (some ⟨g,0,none⟩))).run P w= .ok v w∧R M x v∧K x σ by
    obtain⟨v,x,h1,h2,h3⟩:=hs;exact aO.same hI h2 h3 h1
   refine Eu ht l (fun i y e=> ?_) h
   obtain⟨hi,rfl⟩:=ZE.1 e
   exact⟨cs i,hI.bL _ _ _ (hM i hi),Ht i hi⟩
  grind
 grind
theorem Ke(b o:Nat)(t:TypeId):∀ (vs:List Value) (cs:Array Value) (i:Nat) (w:World),w.heap[b]? =some (.cells cs t (0,0))→o+i+vs.length≤cs.size→vs.all Value.oneCell'=true→
  ∃ w',(storeCells ⟨b,o,none⟩ vs i).run P w= .ok () w'∧w'.heap[b]? =some (.cells (over cs.toList (o+i) vs).toArray t (0,0))∧(∀ k,k≠b→w'.heap[k]? =w.heap[k]?)∧w'.os=w.os∧w'.tape=w.tape∧w'.output=w.output∧w'.heap.size=w.heap.size
 |[],cs,i,w,hh,_,_=>⟨w,rfl,by simpa[over]using hh,fun _ _=>rfl,rfl,rfl,rfl,rfl⟩
 |v::vs,cs,i,w,hh,hl,h1=>by
  simp only[ZS]at hl
  simp only[List.all_cons,Z8]at h1
  have aw:o+i<cs.size:=by omega
  have hc:w.cell? ⟨b,o+i,none⟩=some (cs[o+i]):=by simp[World.cell?,hh,aw]
  have hf:w.frozen? ⟨b,o+i,none⟩=false:=by simp[World.frozen?,hh]
  have hs:(store (Addr.add ⟨b,o,none⟩ i) v).run P w= .ok () (w.setCell ⟨b,o+i,none⟩ v):=by
   rw[Addr.add_lit,run_store _ _ _ _ _ h1.1,hc]
   grind
  have hh1:(w.setCell ⟨b,o+i,none⟩ v).heap[b]? =some (.cells (cs.setIfInBounds (o+i) v) t (0,0)):=by
   simp[World.setCell,X6,hh]
  obtain⟨w',hr,pH,hk,e1,e2,e3,e4⟩:=Ke b o t vs (cs.setIfInBounds (o+i) v) (i+1) _ hh1 (by grind) h1.2
  refine⟨w',?_,?_,fun k hkb=> ?_,e1,e2,e3,e4.trans (by simp)⟩
  ·simp only[storeCells,Sem.run_bind,hs,Result.andThen_ok]
   grind
  ·rw[pH]
   congr 2
   apply Yw
   simp only[over,Array.toList_setIfInBounds]
   have:(cs.toList.set (o+i) v).take (o+(i+1))=cs.toList.take (o+i)++[v]:=by
    rw[show o+(i+1)=o+i+1 from rfl,ZC (by grind),List.take_set_of_le (ZX _)]
    simp
   rw[this,List.drop_set_of_lt (by omega)]
   grind
  ·rw[hk k hkb]
   simp only[World.setCell,X6]
   grind
theorem Inv.yA{P:Program}[Glob P]{M:Mem}{w0:Base}{w w':World}{σ:Store}(hI:Inv P M w0 σ w){tg b:Nat}{x y:aZ}(hb:aV σ tg=some (b,x))(hk:∀ k,k≠b→w'.heap[k]? =w.heap[k]?)(e1:w'.os=w.os)(e2:w'.tape=w.tape)(e3:w'.output=w.output)
  (e4:w'.heap.size=w.heap.size) (hM:∀ o,M b o=none) (hy:BlkOK M w' b y):Inv P M w0 (du σ tg b y) w':=by
 have hold:w0.heap.size≤b:=(hI.st _ (s8 hb)).1
 obtain⟨pre,post,h1,h2⟩:=wg hb
 have hnd:=hI.nd
 rw[h1]at hnd
 simp at hnd
 refine⟨e1.trans hI.os,e2.trans hI.tape,e3.trans hI.output,by rw[e4];exact hI.size,fun k di=> ?_,fun b' o v hv=> ?_,fun e he=> ?_,?_,hI.gl,hI.gw,hI.bm⟩
 ·rw[hk k (by omega)];exact hI.old k di
 ·have aE:b'≠b:=fun e=>by grind
  have:=hI.bL b' o v hv
  rw[← this]
  simp only[World.cell?,hk b' aE]
 ·have fK:e=(tg,b,y)∨(e∈σ∧e.2.1≠b):=by
   grind
  rcases fK with rfl|⟨he,aE⟩
  ·grind
  ·exact⟨(hI.st e he).1,(hI.st e he).2.heap (hk _ aE)⟩
 grind
theorem RL.iK{xs:List AV}{cs:List Value}(h:RL M xs cs)(ha:xs.all AV.one=true):cs.all Value.oneCell'=true:=by
 rw[Zz]at *
 intro v hv
 obtain⟨i,hi,rfl⟩:=YR.1 hv
 have h1:i<xs.length:=h.1 ▸ hi
 exact(h.2 i h1 hi).one (ha _ (Zf h1))
theorem ah6{n:Nat}{x y:Operand}{t:TypeId}{g:Bool}{cfg:Nat→Nat}{d:Option Nat}{E:List PanicEntry→Store→Prop}(ht:eH P t=some (g,n))(hI:Inv P M w0 σ w)(hR:bQ M rg a)
  (h:aj P cfg d rg σ K E (.store n x y)):∃ w' σ',(Instr.storeAt t (a.eval x) (a.eval y)).run P w= .ok () w'∧Inv P M w0 σ' w'∧K (.v undef) σ':=by
 have hx:=hR.ev x
 have hy:=hR.ev y
 simp only[aj]at h
 split at h
 ·rename_i tg b o l' he fq
  rw[he]at hx
  rw[hx.oH]
  split at h
  ·rename_i b' l hb
   obtain⟨rfl,hn,ho,aw,hk⟩:=h
   have hc:=hy.cells fq
   obtain⟨_,hM,cs,t',hh,hl⟩:=hI.st _ (s8 hb)
   have e1:(a.eval y).cells.size=l'.length:=by rw[hc.1,ZQ]
   obtain⟨w',hr,pH,di,a1,a2,a3,a4⟩:=Ke (P:=P) b o t' (a.eval y).cells.toList cs 0 w hh (by have:=hl.1;grind) (hc.iK ho)
   refine⟨w',_,?_,hI.yA (y:= .cells (over l o l')) hb di a1 a2 a3 a4 hM ⟨hM,_,t',pH,?_⟩,hk⟩
   ·simp only[Instr.storeAt,Instr.sureAddr,Sem.run_bind,Sem.run_pure,Result.andThen_ok,storeVar,(wM ht w).2,e1,hn]
    grind
   ·simpa using hl.over hc o
  grind
 grind
end
theorem mL{α:Type}{ah:Nat}:∀ (rows:List (List α)),(∀ i (h:i<rows.length),rows[i].length=ah)→rows.flatten.length=rows.length * ah
 |[],_=>by simp
 |r::rows,h=>by
  have h0:=h 0 (by simp)
  have:=mL rows (fun i hi=>h (i+1) (by grind))
  grind
theorem GF{α:Type}{ah:Nat}:∀ (rows:List (List α)),(∀ i (h:i<rows.length),rows[i].length=ah)→∀ i j,j<ah→(hi:i<rows.length)→rows.flatten[i * ah+j]? =rows[i][j]?
 |[],_,i,j,_,hi=>absurd hi (by simp)
 |r::rows,h,i,j,hj,hi=>by
  have h0:=h 0 (by simp)
  cases i with
  |zero=>grind
  |succ i=>
   have:=GF rows (fun i hi=>h (i+1) (by grind)) i j hj (by grind)
   grind
theorem Rows.of_flat{M:Mem}{b off ah:Nat}{rows:List (List AV)}{L:List Value}(hs:∀ i (h:i<rows.length),rows[i].length=ah)(hL:RL M rows.flatten L)(hM:∀ k v,L[k]? =some v→M b (off+k)=some v):
  Rows M b off ah rows (fun k=>L.getD k undef):=by
 have hlen:=mL rows hs
 refine⟨hs,fun k hk=> ?_,fun i hi j hj=> ?_⟩
 ·have di:k<L.length:=by rw[← hL.1,hlen];grind
  grind
 ·have dK:j<ah:=hs i hi ▸ hj
  have hg:=GF rows hs i j dK hi
  rw[Z1 hj]at hg
  obtain⟨v,hv,hr⟩:=hL.get hg
  grind
theorem Rows.flat{M:Mem}{b off ah:Nat}{rows:List (List AV)}{cs:Nat→Value}(h:Rows M b off ah rows cs):RL M rows.flatten ((List.range (rows.length * ah)).map cs):=by
 have hlen:=mL rows h.size
 refine⟨by grind,fun k h1 h2=> ?_⟩
 have he:0<ah:=by
  grind
 have hi:k / ah<rows.length:=Nat.div_lt_of_lt_mul (by grind)
 have hj:k % ah<ah:=Nat.mod_lt _ he
 have hk:k / ah * ah+k % ah=k:=by rw[Xp];exact Nat.div_add_mod k ah
 have hg:=GF rows h.size (k / ah) (k % ah) hj hi
 have dK:k % ah<rows[k / ah].length:=by grind
 have:=h.rel (k / ah) hi (k % ah) dK
 grind
def Mem.add(M:Mem)(B u:Nat)(cs:List Value):Mem:=fun b o=>if b=B then(if o<u then cs[o]? else none)else M b o
section
variable {P:Program}[Glob P]{M:Mem}{w0:Base}{w:World}{σ:Store}{K:AV→Store→Prop}{rg:ag}{a:Act}
theorem Inv.mZ(hI:Inv P M w0 σ w)(u:Nat)(cs:List Value):M.le (M.add w.heap.size u cs):=fun b o v h=>by
 have aE:b≠w.heap.size:=fun e=>by rw[e,hI.GL]at h;grind
 simp[Mem.add,aE,h]
theorem Inv.FH(hI:Inv P M w0 σ w)(u:Nat)(cs:List Value)(t:TypeId):Inv P (M.add w.heap.size u cs) w0 σ (w.alloc (.cells cs.toArray t)):=by
 have h':=hI.alloc (.cells cs.toArray t)
 refine⟨h'.os,h'.tape,h'.output,h'.size,h'.old,fun b o v hv=> ?_,fun e he=>⟨(h'.st e he).1,?_⟩,h'.nd,fun g l e=>(hI.gl g l e).mono (hI.mZ u cs),hI.gw,fun b o v hv aw=>hI.bm b o v (by simp only[Mem.add]at hv;rwa [Z7 (by have:=hI.size;omega)]at hv) aw⟩
 ·simp only[Mem.add]at hv
  split at hv
  ·simp_all
  ·exact h'.bL b o v hv
 ·obtain⟨tg,b,x⟩:=e
  have hk:=(h'.st _ he).2
  have aE:b≠w.heap.size:=by have:=hI.pM he;grind
  have hle:=hI.mZ u cs
  cases x with
  |cells l=>obtain⟨h1,bO,t',h2,h3⟩:=hk;exact⟨fun o=>by simp[Mem.add,aE,h1 o],bO,t',h2,h3.mono hle⟩
  |tail u' c=>obtain⟨h1,bO,t',h2,h3⟩:=hk;exact⟨fun o ho=>by simp[Mem.add,aE,h1 o ho],bO,t',h2,h3⟩
  |map es k=>obtain⟨h1,l,h2,h3,h4⟩:=hk;exact⟨fun o=>by simp[Mem.add,aE,h1 o],l,h2,h3,h4.mono hle⟩
theorem Inv.BX(hI:Inv P M w0 σ w)(u:Nat)(cs:List Value)(t:TypeId)(hu:u≤cs.length)(tg:Nat):Inv P (M.add w.heap.size u cs) w0 ((tg,w.heap.size,.tail u cs.length)::σ) (w.alloc (.cells cs.toArray t)):=by
 have h':=hI.FH u cs t
 refine⟨h'.os,h'.tape,h'.output,h'.size,h'.old,h'.bL,fun e he=> ?_,?_,h'.gl,h'.gw,h'.bm⟩
 ·rcases ZK.1 he with rfl|he
  ·exact⟨hI.size,fun o ho=>by simp[Mem.add];omega,cs.toArray,t,heap_alloc_new _ _,by simp,hu⟩
  ·exact h'.st e he
 ·simp only[Zv,Yy]
  exact⟨hI.fresh,hI.nd⟩
theorem ahO{cfg:Nat→Nat}{d:Option Nat}{E:List PanicEntry→Store→Prop}{x:Operand}{t:TypeId}(hI:Inv P M w0 σ w)(hR:bQ M rg a)(h:aj P cfg d rg σ K E (.box t x)):
  aO P M w0 K ((Instr.box t (a.eval x)).run P w):=by
 simp only[aj]at h
 split at h
 ·rename_i l hl
  have hc:=(hR.ev x).cells hl
  refine⟨_,_,M,_,_,?_,Mem.le.refl _,hI.box t hc _,.lp _ _ _,h w.heap.size⟩
  simp[Instr.box,newVar,newRow]
 grind
theorem ahN{cfg:Nat→Nat}{d:Option Nat}{E:List PanicEntry→Store→Prop}{t:TypeId}{i:TypeInfo}{z:Value}(hi:P.info? t=some i)(hz:i.zero=some z)(hI:Inv P M w0 σ w)
  (h:aj P cfg d rg σ K E (.alloc t z)):aO P M w0 K ((Instr.alloc t true (.tuple #[])).run P w):=by
 refine⟨_,_,M,_,_,?_,Mem.le.refl _,hI.box t (RL.exact z.cells.toList) _,.lp _ _ _,h w.heap.size⟩
 simp[Instr.alloc,Er hi hz,newVar,newRow]
theorem fF(hR:bQ M rg a):∀ (l:List Operand),RL M (aL rg l) (l.map a.eval)
 |[]=>RL.nil
 |x::l=>RL.cons (hR.ev x) (fF hR l)
theorem GK(off:Nat):∀ (l:List Value) (j:Nat) (cs:Array Value),off+j+l.length≤cs.size→
  (l.zipIdx j).foldl (fun cs (c,j)=>cs.setIfInBounds (off+j) c) cs=(over cs.toList (off+j) l).toArray
 |[],j,cs,_=>by simp[over]
 |c::l,j,cs,h=>by
  simp
  rw[GK off l (j+1) _ (by grind)]
  apply Yw
  simp only[over,Array.toList_setIfInBounds]
  have:(cs.toList.set (off+j) c).take (off+(j+1))=cs.toList.take (off+j)++[c]:=by
   rw[show off+(j+1)=off+j+1 from rfl,ZC (by grind),List.take_set_of_le (ZX _)]
   simp
  rw[this,List.drop_set_of_lt (by omega)]
  grind
inductive PM(place:Nat→Option (Nat×Nat)):List (Nat×Operand)→List (Nat×Nat×Operand)→Prop
 |nil:PM place [] []
 |cons (i off n:Nat) (x:Operand) (l:List (Nat×Operand)) (ps:List (Nat×Nat×Operand)) (h:place i=some (off,n)) (t:PM place l ps):PM place ((i,x)::l) ((off,n,x)::ps)
theorem R6(hR:bQ M rg a)(place:Nat→Option (Nat×Nat)):∀ (parts:List (Nat×Operand)) (ps:List (Nat×Nat×Operand)) (cs:Array Value) (l l':List AV),RL M l cs.toList→
  PM place parts ps→pg l (lO rg ps)=some l'→
  ∃ bO:Array Value,Instr.fill place cs (parts.map fun(i,x)=>(i,a.eval x))=some bO∧RL M l' bO.toList
 |[],ps,cs,l,l',hl,hp,hf=>by
  cases hp
  simp only[lO,pg,ZY]at hf
  subst hf
  exact⟨cs,rfl,hl⟩
 |(i,x)::parts,ps,cs,l,l',hl,hp,hf=>by
  cases hp with
  |cons _ off n _ _ bE xJ h2=>
   simp only[lO,pg]at hf
   split at hf
   ·rename_i lx hlx
    split at hf
    ·rename_i hc
     have hx:=(hR.ev x).cells hlx
     have e1:(a.eval x).cells.size=n:=by rw[← hc.1,hx.1,ZQ]
     have e2:cs.size=l.length:=by rw[hl.1,ZQ]
     have Dk:=GK off (a.eval x).cells.toList 0 cs (by grind)
     obtain⟨bO,h3,h4⟩:=R6 hR place parts bE (over cs.toList off (a.eval x).cells.toList).toArray (over l off lx) l' (by simpa using hl.over hx off) h2 hf
     simp only[Zv,Instr.fill,xJ]
     rw[← Array.foldl_toList,Array.toList_zipIdx]
     grind
    grind
   grind
theorem Rh(fs:List Field)(place:Nat→Option (Nat×Nat))(hp:∀ i f k,fs[i]? =some f→P.info? f.type=some k→place i=some (f.offset,k.size)):
  ∀ (l:List (Nat×Operand)) (ps:List (Nat×Nat×Operand)),yb P fs l=some ps→PM place l ps
 |[],ps,h=>by simp[yb]at h;subst h;exact .nil
 |(i,x)::l,ps,h=>by
  simp only[yb]at h
  split at h
  ·rename_i f hf
   split at h
   ·rename_i k hk
    rw[Z9]at h
    obtain⟨bE,h1,rfl⟩:=h
    exact .cons _ _ _ _ _ _ (hp i f k hf hk) (Rh fs place hp l bE h1)
   grind
  grind
theorem run_places(w:World):∀ (fs:List Field),fs.all (fun f=>(P.info? f.type).isSome)=true→
  ∃ pl:List (Nat×Nat),(fs.mapM (fun f:Field=>do pure (f.offset,← sizeOf f.type)):Sem (List (Nat×Nat))).run P w= .ok pl w∧∀ (i:Nat) (f:Field) (k:TypeInfo),fs[i]? =some f→P.info? f.type=some k→pl[i]? =some (f.offset,k.size)
 |[],_=>⟨[],rfl,fun i f k h=>by grind⟩
 |f::fs,h=>by
  simp only[List.all_cons,Z8]at h
  obtain⟨k0,Af⟩:=X0.1 h.1
  obtain⟨pl,h1,h2⟩:=run_places w fs h.2
  refine⟨(f.offset,k0.size)::pl,?_,fun i g k hg hk=> ?_⟩
  ·simp only[List.mapM_cons,Sem.run_bind,ly Af,Result.andThen_ok,Sem.run_pure,h1]
  grind
theorem ahP{cfg:Nat→Nat}{d:Option Nat}{E:List PanicEntry→Store→Prop}{t:TypeId}{i:TypeInfo}{z:Value}{fs:Array Field}{parts:Array (Nat×Operand)}{ps:List (Nat×Nat×Operand)}
  (ht:P.underlying t=some (.struct fs)) (hi:P.info? t=some i) (hz:i.zero=some z) (cV:fs.toList.all (fun f=>(P.info? f.type).isSome)=true) (hps:yb P fs.toList parts.toList=some ps)
  (hI:Inv P M w0 σ w) (hR:bQ M rg a) (h:aj P cfg d rg σ K E (.build z.cells.toList ps)):aO P M w0 K ((Instr.build t (parts.map fun(i,x)=>(i,a.eval x))).run P w):=by
 simp only[aj]at h
 split at h
 ·rename_i l hl
  obtain⟨pl,h1,h2⟩:=run_places (P:=P) w fs.toList cV
  obtain⟨bO,h3,h4⟩:=R6 hR (fun i:Nat=>pl[i]?) parts.toList ps z.cells (z.cells.toList.map .v) l (RL.exact _) (Rh fs.toList _ h2 _ _ hps) hl
  refine aO.same hI (v:= .agg bO) ?_ h ?_
  ·have:=R.oF h4;simp_all
  ·have h1':(fs.mapM (fun f:Field=>do pure (f.offset,← sizeOf f.type)):Sem (Array (Nat×Nat))).run P w= .ok pl.toArray w:=by
    rw[Array.mapM_eq_mapM_toList,Sem.run_map,h1]
    rfl
   simp only[Instr.build,Sem.run_bind,Er hi hz,Result.andThen_ok,aW ht,h1',Array.toList_map]
   simp_all
 grind
theorem RZ{ah:Nat}:∀ (xs:List AV) (rows:List (List AV)) (vs:List Value),rowsOf ah xs=some rows→RL M xs vs→RL M rows.flatten (vs.flatMap fun v=>v.cells.toList)∧rows.length=xs.length∧
  (∀ i (h:i<rows.length),rows[i].length=ah)∧∀ v∈vs,v.cells.size=ah
 |[],rows,vs,h,k=>by
  simp[rowsOf]at h;obtain rfl:=k.pX
  grind
 |x::xs,rows,vs,h,k=>by
  obtain⟨v,vs',rfl,hx,c9⟩:=k.aX
  simp only[rowsOf]at h
  split at h
  ·rename_i r hr
   split at h
   ·rename_i he
    rw[Z9]at h
    obtain⟨rows',h1,rfl⟩:=h
    obtain⟨a1,a2,a3,a4⟩:=RZ xs rows' vs' h1 c9
    have hc:=hx.cells hr
    refine⟨by simpa using RL.append hc a1,by simp[a2],fun i hi=> ?_,fun u hu=> ?_⟩
    ·grind
    ·rcases ZK.1 hu with rfl|hu
     ·rw[← he,hc.1,ZQ]
     grind
   grind
  grind
theorem Nq(ah:Nat):∀ (vs:List Value) (k:Nat) (cs:Array Value),(∀ v∈vs,v.cells.size=ah)→k * ah+vs.length * ah≤cs.size→
  Instr.fill (fun i=>some (i * ah,ah)) cs ((List.range' k vs.length).zip vs)=some (over cs.toList (k * ah) (vs.flatMap fun v=>v.cells.toList)).toArray
 |[],k,cs,_,_=>by simp[Instr.fill,over]
 |v::vs,k,cs,h,hl=>by
  have hv:=h v (by simp)
  simp only[ZS,Nat.succ_mul]at hl
  simp only[ZS,List.range'_succ,List.zip_cons_cons,Instr.fill]
  rw[← Array.foldl_toList,Array.toList_zipIdx,GK (k * ah) v.cells.toList 0 cs (by grind)]
  simp only[Ym]
  rw[Nq ah vs (k+1) _ (fun u hu=>h u (by simp[hu])) (by simp[over,hv];grind)]
  simp only[over,List.flatMap_cons,Z4,ZQ,hv,Nat.succ_mul]
  rw[Za (by simp;omega)]
  have e1:(cs.toList.take (k * ah)++v.cells.toList).length=k * ah+ah:=by simp[hv];omega
  rw[Zq (by omega),List.drop_append,Xl (by omega),e1]
  simp only[Zl,Zb,List.drop_drop]
  grind
end
section
variable {P:Program}[Glob P]{M:Mem}{w0:Base}{w:World}{σ:Store}{K:AV→Store→Prop}{rg:ag}{a:Act}{cfg:Nat→Nat}{d:Option Nat}{E:List PanicEntry→Store→Prop}
theorem aeU(M:Mem)(B:Nat)(L:List Value)(k:Nat)(v:Value)(h:L[k]? =some v):M.add B L.length L B (0+k)=some v:=by
 have:k<L.length:=(ZE.1 h).1
 simp[Mem.add,this]
 grind
theorem ah3{t e:TypeId}{n:Nat}{i:TypeInfo}{z:Value}{parts:Array (Nat×Operand)}(ht:P.underlying t=some (.slice e))(hi:P.info? e=some i)(hz:i.zero=some z)(hp:parts.toList.map (·.1)=List.range n)
  (hn:n * i.size≤16777216) (hI:Inv P M w0 σ w) (hR:bQ M rg a) (h:aj P cfg d rg σ K E (.dF e i.size (parts.toList.map (·.2)))):
  aO P M w0 K ((Instr.buildSlice t n (parts.map fun(i,x)=>(i,a.eval x))).run P w):=by
 simp only[aj]at h
 split at h
 ·rename_i rows acu
  obtain⟨mQ,h⟩:=h
  obtain⟨hL,hlen,bg,uM⟩:=RZ _ rows _ acu (fF hR (parts.toList.map (·.2)))
  generalize vn:((parts.toList.map (·.2)).map a.eval)=vs at hL uM
  have fL:vs.length=n:=by
   rw[← vn]
   have:=Zd List.length hp
   grind
  have kW:rows.length=n:=by rw[hlen,← fL,← vn];simp[fF hR _ |>.1]
  have eu:=mL rows bg
  generalize hLL:(vs.flatMap fun v=>v.cells.toList)=L at hL
  have abO:L.length=n * i.size:=by rw[← hL.1,eu,kW]
  have acJ:(parts.map fun x=>(x.1,a.eval x.2)).toList=(List.range' 0 vs.length).zip vs:=by
   rw[fL,← XF,← hp,← vn]
   simp only[Array.toList_map]
   grind
  have cP:(Instr.buildSlice t n (parts.map fun(i,x)=>(i,a.eval x))).run P w= .ok (.slice (some ⟨w.heap.size,0,none⟩) n n) (w.alloc (.cells L.toArray e)):=by
   have key:∀ zs:Array Value,Sem.run P (match Instr.fill (fun j=>some (j * i.size,i.size)) (Array.map (fun x=>zs[x % zs.size]!) (Array.range (n * i.size))) (parts.map fun x=>(x.1,a.eval x.2)).toList with
     |some cells=>do
      let b ← newRow e cells
      pure (Value.slice (some b) n n)
     |_=>stuck "buildSlice: a part of the wrong size") w=Result.ok (Value.slice (some ⟨w.heap.size,0,none⟩) n n) (w.alloc (.cells L.toArray e)):=by
    intro zs
    rw[acJ,Nq i.size vs 0 _ uM (by grind)]
    simp only[Sem.run_bind,newRow,run_newObj,Result.andThen_ok,Sem.run_pure]
    congr 4
    simp only[over,Nat.zero_mul,List.take_zero,Zl,hLL]
    grind
   simp only[Instr.buildSlice,Sem.run_bind,aW ht,Result.andThen_ok,ly hi,Sem.run_ite]
   rw[Z7 (by omega)]
   by_cases hc:n * i.size=0
   ·rw[ZV hc]
    exact key #[]
   ·rw[Z7 hc]
    simp only[Er hi hz,Result.andThen_ok,Sem.run_pure]
    exact key _
  rw[cP]
  have IV:Rows (M.add w.heap.size L.length L) w.heap.size 0 i.size rows (fun k=>L.getD k undef):=Rows.of_flat bg (hL.mono (hI.mZ _ _)) (aeU M w.heap.size L)
  have qA:n≤maxLen:=by unfold maxLen;omega
  split at h
  ·refine⟨_,_,_,_,σ,rfl,hI.mZ L.length L,hI.FH _ L e,?_,h⟩
   have:=R.nc IV (Nat.le_of_eq kW) qA true
   rw[kW]at this
   exact this
  ·obtain⟨uX,h⟩:=h
   have e1:rows.length * i.size=L.length:=by rw[kW,abO]
   rw[e1]at h
   refine⟨_,_,_,_,_,rfl,hI.mZ L.length L,hI.BX _ L e (ZX _) _,?_,h w.heap.size⟩
   have:=R.qN (t:=d.getD 0) (u:=L.length) (c:=L.length) IV (Nat.le_of_eq kW) qA (.inr ⟨by omega,by omega⟩) uX
   rw[kW]at this
   exact this
  ·refine⟨_,_,_,_,σ,rfl,hI.mZ L.length L,hI.FH _ L e,?_,h⟩
   have:=R.aeY IV (by rw[kW];exact qA)
   rw[kW]at this
   exact this
  ·refine⟨_,_,M,_,_,rfl,Mem.le.refl _,hI.box e hL _,?_,h w.heap.size⟩
   rw[kW]
   exact .ms _ _ _ _ _
 grind
theorem Wg(op:BinOp)(t:TypeId)(k k':IntKind)(x y:Int):binOp op t (.int k x) (.int k' y)=
  match op with
  | .shl| .shr=>Op.shift op k x k' y
  | .add| .sub| .mul=>if k≠k' then stuck "BinOp: operands of different kinds" else Op.intArith op k x y
  | .quo| .rem=>if k≠k' then stuck "BinOp: operands of different kinds" else Op.intDiv op k x y
  | .and| .or| .xor| .andNot=>if k≠k' then stuck "BinOp: operands of different kinds" else Op.intBits op k x y
  |_=>if k≠k' then stuck "BinOp: operands of different kinds" else Op.intCmp op x y:=by
 cases op<;>rfl
theorem oX(x y:ByteArray):(x.toList == y.toList)=decide (x=y):=by
 rw[ByteArray.toList_eq,ByteArray.toList_eq]
 obtain⟨⟨x⟩⟩:=x
 obtain⟨⟨y⟩⟩:=y
 grind
theorem Kh{op:BinOp}{t:TypeId}{x y:Operand}(hI:Inv P M w0 σ w)(hR:bQ M rg a)
  (h:aj P cfg d rg σ K E (.bin op x y)):aO P M w0 K ((do eqGuard op t x y (a.eval x) (a.eval y);binOp op t (a.eval x) (a.eval y):Sem Value).run P w):=by
 have hx:=hR.ev x
 have hy:=hR.ev y
 simp only[aj]at h
 split at h
 ·rename_i u v hu hv
  rw[hu]at hx
  rw[hv]at hy
  rw[hx.ay,hy.ay]
  unfold lE at h
  split at h
  ·rename_i k p k' q
   rw[eqGuard_at_int,Wg]
   simp only[Sem.run_bind,Sem.run_pure,Result.andThen_ok]
   cases op<;>simp only at h ⊢
   case add=>obtain⟨rfl,h⟩:=h;exact aO.same hI (.v _) h (by simp[Op.intArith])
   case sub=>obtain⟨rfl,h⟩:=h;exact aO.same hI (.v _) h (by simp[Op.intArith])
   case mul=>obtain⟨rfl,h⟩:=h;exact aO.same hI (.v _) h (by simp[Op.intArith])
   case quo=>obtain⟨rfl,h0,h⟩:=h;exact aO.same hI (.v _) h (by simp[Op.intDiv,h0])
   case rem=>obtain⟨rfl,h0,h⟩:=h;exact aO.same hI (.v _) h (by simp[Op.intDiv,h0])
   case and=>obtain⟨rfl,h⟩:=h;exact aO.same hI (.v _) h (by simp[intBits_and])
   case or=>obtain⟨rfl,h⟩:=h;exact aO.same hI (.v _) h (by simp[intBits_or])
   case xor=>obtain⟨rfl,h⟩:=h;exact aO.same hI (.v _) h (by simp[intBits_xor])
   case andNot=>obtain⟨rfl,h⟩:=h;exact aO.same hI (.v _) h (by simp[intBits_andNot])
   case shl=>obtain⟨h0,h1,h⟩:=h;exact aO.same hI (.v _) h (by rw[shift_shl _ _ _ _ h0 h1];rfl)
   case shr=>obtain⟨h0,h1,h⟩:=h;exact aO.same hI (.v _) h (by rw[shift_shr _ _ _ _ h0 h1];rfl)
   case eql=>obtain⟨rfl,h⟩:=h;exact aO.same hI (.v _) h (by simp[Op.intCmp];rfl)
   case neq=>obtain⟨rfl,h⟩:=h;exact aO.same hI (.v _) h (by simp[Op.intCmp,bne];rfl)
   case lss=>obtain⟨rfl,h⟩:=h;exact aO.same hI (.v _) h (by simp[Op.intCmp])
   case leq=>obtain⟨rfl,h⟩:=h;exact aO.same hI (.v _) h (by simp[Op.intCmp])
   case gtr=>obtain⟨rfl,h⟩:=h;exact aO.same hI (.v _) h (by simp[Op.intCmp])
   case geq=>obtain⟨rfl,h⟩:=h;exact aO.same hI (.v _) h (by simp[Op.intCmp])
  ·rename_i p q
   rw[eqGuard_at_string]
   simp only[Sem.run_bind,Sem.run_pure,Result.andThen_ok]
   have hb:∀ op,op≠.shl→op≠.shr→binOp op t (.string p) (.string q)=Op.stringOp op p q:=by intro op h1 h2;cases op<;>first|rfl|exact(h1 rfl).elim|exact(h2 rfl).elim
   cases op<;>simp only at h ⊢
   case add=>
    obtain⟨hs,h⟩:=h
    refine aO.same hI (.v _) h ?_
    rw[hb _ (by simp) (by simp)]
    simp only[Op.stringOp,IntKind.max_i64,Sem.run_ite]
    rw[Z7 (by omega)]
    rfl
   case eql=>exact aO.same hI (.v _) h (by rw[hb _ (by simp) (by simp)];simp only[Op.stringOp,oX];rfl)
   case neq=>exact aO.same hI (.v _) h (by rw[hb _ (by simp) (by simp)];simp only[Op.stringOp,oX];rfl)
   case lss=>exact aO.same hI (.v _) h (by rw[hb _ (by simp) (by simp)];simp only[Op.stringOp];rfl)
   case leq=>exact aO.same hI (.v _) h (by rw[hb _ (by simp) (by simp)];simp only[Op.stringOp,oX];rfl)
   case gtr=>exact aO.same hI (.v _) h (by rw[hb _ (by simp) (by simp)];simp only[Op.stringOp,oX];rfl)
   case geq=>exact aO.same hI (.v _) h (by rw[hb _ (by simp) (by simp)];simp only[Op.stringOp];rfl)
   all_goals exact h.elim
  grind
 grind
theorem ah7{op:UnOp}{x:Operand}(hI:Inv P M w0 σ w)(hR:bQ M rg a)(h:aj P cfg d rg σ K E (.un op x)):aO P M w0 K ((Op.unary op (a.eval x)).run P w):=by
 have hx:=hR.ev x
 simp only[aj]at h
 split at h
 ·rename_i u hu
  rw[hu]at hx
  rw[hx.ay]
  split at h
  ·rename_i r hr
   refine aO.same hI (.v _) h ?_
   unfold EP at hr
   split at hr
   ·simp at hr;subst hr;simp[Op.unary,Op.intArith]
   ·simp at hr;subst hr;simp[Op.unary]
   grind
  grind
 grind
theorem ahQ{src dst:TypeId}{k k':IntKind}{x:Operand}(hs:P.underlying src=some (.int k'))(hd:P.underlying dst=some (.int k))(hI:Inv P M w0 σ w)(hR:bQ M rg a)(h:aj P cfg d rg σ K E (.lM k x)):
  aO P M w0 K ((convert src dst (a.eval x)).run P w):=by
 have hx:=hR.ev x
 simp only[aj]at h
 split at h
 ·rename_i k2 n hu
  rw[hu]at hx
  rw[hx.ay]
  exact aO.same hI (.v _) h (by simp[convert,aW hs,aW hd,Conv.intToInt])
 grind
theorem ahT{t:TypeId}{fs:Array Field}{i:Nat}{f:Field}{k:TypeInfo}{x:Operand}(ht:P.underlying t=some (.struct fs))(hf:fs[i]? =some f)(hk:P.info? f.type=some k)(h0:k.size≠0)(hI:Inv P M w0 σ w)(hR:bQ M rg a)
  (h:aj P cfg d rg σ K E (.aY f.offset x)):aO P M w0 K ((Instr.fieldAt t (a.eval x) i).run P w):=by
 have hx:=hR.ev x
 simp only[aj]at h
 split at h
 ·rename_i tg b o hu
  rw[hu]at hx
  rw[hx.oH]
  refine aO.same hI (.lp _ _ _) h ?_
  simp[Instr.fieldAt,aW ht,hf,Instr.sureAddr,fieldPlace,ly hk,h0,Addr.add_lit]
 ·rename_i l hu
  rw[hu]at hx
  obtain⟨b,o,cs,hv,h1,h2⟩:=hx.tq
  rw[hv]
  refine aO.same hI (v:= .pointer (some ⟨b,o+f.offset,none⟩)) ?_ h ?_
  ·refine .pc _ b _ (fun k=>cs (f.offset+k)) (fun k hk=> ?_) (fun k hk=> ?_)
   ·grind
   grind
  ·simp[Instr.fieldAt,aW ht,hf,Instr.sureAddr,fieldPlace,ly hk,h0,Addr.add_lit]
 grind
theorem VF{t:TypeId}{g:Bool}{n off:Nat}(ht:eH P t=some (g,n)){l:List AV}{cs:Array Value}(hl:RL M l cs.toList)(hI:Inv P M w0 σ w)
  (h:off+n≤l.length∧if g then K (.agg ((l.drop off).take n)) σ else match l[off]? with
   |some y=>K y σ
   |none=>False):aO P M w0 K ((part t cs off).run P w):=by
 obtain⟨h1,h2⟩:=wM ht w
 obtain⟨aw,h⟩:=h
 simp only[part,Sem.run_bind,h1,Result.andThen_ok]
 cases g with
 |true=>
  simp only[YX,Sem.run_bind,h2,Result.andThen_ok,Sem.run_pure]at h ⊢
  refine aO.same hI (v:= .agg (cs.extract off (off+n))) ?_ h rfl
  have:=R.oF ((hl.drop off).take n)
  have e:((cs.toList.drop off).take n).toArray=cs.extract off (off+n):=by
   grind
  grind
 |false=>
  simp at h ⊢
  split at h
  ·rename_i y hy
   obtain⟨v,hv,hr⟩:=hl.get hy
   have:cs[off]? =some v:=by grind
   simp only[this,Sem.run_pure]
   exact aO.same hI hr h rfl
  grind
theorem ahU{t:TypeId}{fs:Array Field}{i n:Nat}{f:Field}{g:Bool}{x:Operand}(ht:P.underlying t=some (.struct fs))(hf:fs[i]? =some f)(hg:eH P f.type=some (g,n))(hI:Inv P M w0 σ w)(hR:bQ M rg a)
  (h:aj P cfg d rg σ K E (.field g f.offset n x)):aO P M w0 K ((Instr.field t (a.eval x) i).run P w):=by
 simp only[aj]at h
 split at h
 ·rename_i l hl
  obtain⟨cs,bK,hc⟩:=(hR.ev x).FG hl
  rw[bK]
  have:=VF hg hc hI h
  simpa[Instr.field,aW ht,hf,asAgg]using this
 grind
theorem aeF{x y:AV}{c:Bool}(h:oB .int x y=some c):∃ k a b,x= .v (.int k a)∧y= .v (.int k b)∧c=decide (a=b):=by
 unfold oB at h
 split at h
 ·split at h
  ·rename_i e;subst e;grind
  grind
 ·grind
 ·grind
 grind
theorem aeH{x y:AV}{c:Bool}(h:oB .str x y=some c):∃ a b,x= .v (.string a)∧y= .v (.string b)∧c=decide (a=b):=by
 unfold oB at h
 split at h
 ·grind
 ·grind
 ·grind
 grind
theorem aeE{x y:AV}{c:Bool}(h:oB .bool x y=some c):∃ a b,x= .v (.bool a)∧y= .v (.bool b)∧c=(a == b):=by
 unfold oB at h
 split at h
 ·grind
 ·grind
 ·grind
 grind
theorem Qj(d:Nat):∀ (fs:List Field) (n:Nat) (ks:List rH) (xs ys:List AV) (us vs:Array Value) (b:Bool),qM P n fs=some ks→mI ks xs ys=some b→
  RL M xs (us.toList.drop n)→RL M ys (vs.toList.drop n)→(Op.eqFields (d+1) us vs fs).run P w= .ok b w
 |[],n,ks,xs,ys,us,vs,b,hk,he,hx,hy=>by
  simp only[qM,ZY]at hk
  subst hk
  cases xs<;>cases ys<;>simp[mI]at he
  subst he
  rfl
 |f::fs,n,ks,xs,ys,us,vs,b,hk,he,hx,hy=>by
  simp only[qM]at hk
  split at hk
  ·rename_i hc
   obtain⟨k,oz,rfl,acf,OA⟩:∃ k oz,ks=k::oz∧qM P (n+1) fs=some oz∧((k= .int∧∃ q,P.underlying f.type=some (.int q))∨(k= .str∧P.underlying f.type=some .string)∨(k= .bool∧P.underlying f.type=some .bool)):=by
    split at hk
    ·rename_i q hu;obtain⟨oz,h1,rfl⟩:=Z9.1 hk;grind
    ·rename_i hu;obtain⟨oz,h1,rfl⟩:=Z9.1 hk;grind
    ·rename_i hu;obtain⟨oz,h1,rfl⟩:=Z9.1 hk;grind
    grind
   match xs,ys,he with
   |x::xs,y::ys,he=>
    obtain⟨u,us',Dy,I8,c9⟩:=hx.aX
    obtain⟨v,vs',vn,I9,AD⟩:=hy.aX
    have hu0:us[n]? =some u:=by
     have:=Zd (·[0]?) Dy
     grind
    have hv0:vs[n]? =some v:=by
     have:=Zd (·[0]?) vn
     grind
    have hu1:us.toList.drop (n+1)=us':=by
     rw[← List.drop_drop,Dy];rfl
    have jS:vs.toList.drop (n+1)=vs':=by
     rw[← List.drop_drop,vn];rfl
    simp only[mI]at he
    split at he
    ·rename_i c Iz
     obtain⟨b',mP,rfl⟩:=Z9.1 he
     have ih:=Qj d fs (n+1) oz xs ys us vs b' acf mP (by rw[hu1];exact c9) (by rw[jS];exact AD)
     have sJ:(part f.type us f.offset).run P w= .ok u w∧(part f.type vs f.offset).run P w= .ok v w:=by
      rcases OA with⟨_,q,hu⟩|⟨_,hu⟩|⟨_,hu⟩<;>simp[part,isAgg,aW hu,hc.2,hu0,hv0]
     have heq:(Op.equalIn (d+1) f.type u v).run P w= .ok c w:=by
      rcases OA with⟨rfl,q,hu⟩|⟨rfl,hu⟩|⟨rfl,hu⟩
      ·obtain⟨k,p,q',rfl,rfl,rfl⟩:=aeF Iz
       rw[I8.ay,I9.ay,run_equalIn_int (w:=w) _ _ _ q _ _ hu]
       rfl
      ·obtain⟨p,q',rfl,rfl,rfl⟩:=aeH Iz
       rw[I8.ay,I9.ay,run_equalIn_string (w:=w) _ _ _ _ hu,oX]
      ·obtain⟨p,q',rfl,rfl,rfl⟩:=aeE Iz
       rw[I8.ay,I9.ay,run_equalIn_bool' (w:=w) _ _ _ _ hu]
     simp only[Op.eqFields,hc.1,ne_eq,not_false_eq_true,YX,Sem.run_bind,sJ.1,sJ.2,Result.andThen_ok,heq,Sem.run_ite]
     cases c
     ·simp
     ·simp[ih]
    grind
   |[],ys,he=>simp[mI]at he
   |x::xs,[],he=>simp[mI]at he
  grind
theorem ahR{neg:Bool}{t:TypeId}{fs:Array Field}{ks:List rH}{x y:Operand}(ht:P.underlying t=some (.struct fs))(h1:P.stoodInHeld t=false)(h2:P.eqGuardType P.depth t=false)(hk:qM P 0 fs.toList=some ks)(hI:Inv P M w0 σ w)(hR:bQ M rg a)
  (h:aj P cfg d rg σ K E (.eqs neg ks x y)):aO P M w0 K ((do eqGuard (if neg then .neq else .eql) t x y (a.eval x) (a.eval y);binOp (if neg then .neq else .eql) t (a.eval x) (a.eval y):Sem Value).run P w):=by
 simp only[aj]at h
 split at h
 ·rename_i xs ys c9 AD
  obtain⟨us,hu,hxr⟩:=(hR.ev x).FG c9
  obtain⟨vs,hv,hyr⟩:=(hR.ev y).FG AD
  rw[hu,hv]
  split at h
  ·rename_i b hb
   have he:=Qj (P:=P) (M:=M) (w:=w) 9998 fs.toList 0 ks xs ys us vs b hk hb (by grind) (by grind)
   have qG:P.underlying t=some (.struct (P.fieldsOf t)):=by simp[Program.fieldsOf,ht]
   have hf:P.fieldsOf t=fs:=by grind
   have de:=run_equalIn_struct w 9999 t us vs qG h1
   rw[hf,he]at de
   refine aO.same hI (.v _) h ?_
   rw[Sem.run_bind,run_eqGuard_agg w _ t x y us vs h2]
   cases neg
   ·simp only[Result.andThen_ok,ZU,YV,run_eql_struct,de,Bool.xor_false]
   ·simp only[Result.andThen_ok,YX,run_neq_struct,de,Bool.xor_true]
  grind
 grind
end
section
variable {P:Program}[Glob P]{M:Mem}{w0:Base}{w:World}{σ:Store}{K:AV→Store→Prop}{rg:ag}{a:Act}{cfg:Nat→Nat}{d:Option Nat}{E:List PanicEntry→Store→Prop}
def MU(P:Program)[Glob P](t:TypeId):wz→Prop
 | .bool=>P.underlying t=some .bool
 | .slice=>∃ e,P.underlying t=some (.slice e)
 | .map=>∃ k e,P.underlying t=some (.map k e)
 | .func=>∃ p r v,P.underlying t=some (.func p r v)
 | .ptr=>∃ e,P.underlying t=some (.pointer e)
theorem gG{t:TypeId}{u v:Value}{b:Bool}(hg:∀ (op:BinOp) (p q:Operand),eqGuard op t p q u v=pure ())(h1:binOp .eql t u v=(do pure (.bool (← Op.equal t u v))))(h2:binOp .neq t u v=(do pure (.bool (!(← Op.equal t u v)))))
  (he:∀ d:Nat,(Op.equalIn (d+1) t u v).run P w= .ok b w) (op:BinOp) (p q:Operand):eqGuard op t p q u v=pure ()∧(op= .eql→(binOp op t u v).run P w= .ok (.bool b) w)∧(op= .neq→(binOp op t u v).run P w= .ok (.bool (!b)) w):=by
 have jO:(Op.equal t u v).run P w= .ok b w:=he 9999
 simp_all
set_option maxHeartbeats 2000000 in
theorem aaO{k:wz}{t:TypeId}{x y:AV}{u v:Value}{b:Bool}(ht:MU P t k)(hx:R M x u)(hy:R M y v)(h:rS k x y=some b)(op:BinOp)(p q:Operand):
  eqGuard op t p q u v=pure ()∧(op= .eql→(binOp op t u v).run P w= .ok (.bool b) w)∧(op= .neq→(binOp op t u v).run P w= .ok (.bool (!b)) w):=by
 have sl:∀ {nn ez rows},R M (.sl true ez rows) nn→∃ b n c,nn= .slice (some b) n c:=by
  intro nn ez rows h
  rcases h.nj with⟨a,h,_,hv⟩|⟨b,off,cap,cs,hv,_⟩
  ·obtain⟨a,rfl⟩:=X0.1 (h rfl)
   exact⟨_,_,_,hv⟩
  ·exact⟨_,_,_,hv⟩
 have ow:∀ {nn ez tg b u c rows},R M (.own ez tg b u c rows) nn→∃ b n c,nn= .slice (some b) n c:=by
  intro nn ez tg b u c rows h
  obtain⟨off,cap,cs,hv,_⟩:=h.pP
  exact⟨_,_,_,hv⟩
 unfold rS at h
 split at h<;>simp only[ZY,reduceCtorEq]at h<;>subst h
 case h_1=>rw[hx.ay,hy.ay];exact gG (fun op p q=>by cases op<;>rfl) rfl rfl (fun d=>by simp[Op.equalIn,aW ht]) op p q
 case h_2=>obtain⟨e,ht⟩:=ht;obtain⟨b,n,c,rfl⟩:=sl hx;rw[hy.ay];exact gG (fun op p q=>by cases op<;>rfl) rfl rfl (fun d=>by simp[Op.equalIn,aW ht]) op p q
 case h_3=>obtain⟨e,ht⟩:=ht;obtain⟨b,n,c,rfl⟩:=sl hy;rw[hx.ay];exact gG (fun op p q=>by cases op<;>rfl) rfl rfl (fun d=>by simp[Op.equalIn,aW ht]) op p q
 case h_4=>obtain⟨e,ht⟩:=ht;obtain⟨b,n,c,rfl⟩:=ow hx;rw[hy.ay];exact gG (fun op p q=>by cases op<;>rfl) rfl rfl (fun d=>by simp[Op.equalIn,aW ht]) op p q
 case h_5=>obtain⟨e,ht⟩:=ht;obtain⟨b,n,c,rfl⟩:=ow hy;rw[hx.ay];exact gG (fun op p q=>by cases op<;>rfl) rfl rfl (fun d=>by simp[Op.equalIn,aW ht]) op p q
 case h_6=>obtain⟨e,ht⟩:=ht;rw[hx.pO,hy.ay];exact gG (fun op p q=>by cases op<;>rfl) rfl rfl (fun d=>by simp[Op.equalIn,aW ht]) op p q
 case h_7=>obtain⟨e,ht⟩:=ht;rw[hx.ay,hy.pO];exact gG (fun op p q=>by cases op<;>rfl) rfl rfl (fun d=>by simp[Op.equalIn,aW ht]) op p q
 case h_8=>obtain⟨e,ht⟩:=ht;rw[hx.ay,hy.ay];exact gG (fun op p q=>by cases op<;>rfl) rfl rfl (fun d=>by simp[Op.equalIn,aW ht]) op p q
 case h_9=>obtain⟨e,ht⟩:=ht;rw[hx.ay,hy.ay];exact gG (fun op p q=>by cases op<;>rfl) rfl rfl (fun d=>by simp[Op.equalIn,aW ht]) op p q
 case h_10=>obtain⟨e,ht⟩:=ht;rw[hx.ay,hy.ay];exact gG (fun op p q=>by cases op<;>rfl) rfl rfl (fun d=>by simp[Op.equalIn,aW ht]) op p q
 case h_11=>obtain⟨k,e,ht⟩:=ht;rw[hx.ay,hy.ay];exact gG (fun op p q=>by cases op<;>rfl) rfl rfl (fun d=>by simp[Op.equalIn,aW ht]) op p q
 case h_12=>obtain⟨k,e,ht⟩:=ht;rw[hx.ay,hy.ay];exact gG (fun op p q=>by cases op<;>rfl) rfl rfl (fun d=>by simp[Op.equalIn,aW ht]) op p q
 case h_13=>obtain⟨k,e,ht⟩:=ht;rw[hx.ay,hy.ay];exact gG (fun op p q=>by cases op<;>rfl) rfl rfl (fun d=>by simp[Op.equalIn,aW ht]) op p q
 case h_14=>obtain⟨fp,fr,fv,ht⟩:=ht;rw[hx.ay,hy.ay];exact gG (fun op p q=>by cases op<;>rfl) rfl rfl (fun d=>by simp[Op.equalIn,aW ht]) op p q
 case h_15=>obtain⟨fp,fr,fv,ht⟩:=ht;rw[hx.ay,hy.ay];exact gG (fun op p q=>by cases op<;>rfl) rfl rfl (fun d=>by simp[Op.equalIn,aW ht]) op p q
 case h_16=>obtain⟨fp,fr,fv,ht⟩:=ht;rw[hx.ay,hy.ay];exact gG (fun op p q=>by cases op<;>rfl) rfl rfl (fun d=>by simp[Op.equalIn,aW ht]) op p q
 case h_17=>obtain⟨e,ht⟩:=ht;rw[hx.oH,hy.ay];exact gG (fun op p q=>by cases op<;>rfl) rfl rfl (fun d=>by simp[Op.equalIn,aW ht]) op p q
 case h_18=>obtain⟨e,ht⟩:=ht;rw[hx.ay,hy.oH];exact gG (fun op p q=>by cases op<;>rfl) rfl rfl (fun d=>by simp[Op.equalIn,aW ht]) op p q
 case h_19=>obtain⟨e,ht⟩:=ht;rw[hx.ay,hy.ay];exact gG (fun op p q=>by cases op<;>rfl) rfl rfl (fun d=>by simp[Op.equalIn,aW ht]) op p q
 case h_20=>obtain⟨e,ht⟩:=ht;rw[hx.ay,hy.ay];exact gG (fun op p q=>by cases op<;>rfl) rfl rfl (fun d=>by simp[Op.equalIn,aW ht]) op p q
 case h_21=>obtain⟨e,ht⟩:=ht;rw[hx.ay,hy.ay];exact gG (fun op p q=>by cases op<;>rfl) rfl rfl (fun d=>by simp[Op.equalIn,aW ht]) op p q
theorem Bi{neg:Bool}{k:wz}{t:TypeId}{x y:Operand}(ht:MU P t k)(hI:Inv P M w0 σ w)(hR:bQ M rg a)
  (h:aj P cfg d rg σ K E (.ji neg k x y)):aO P M w0 K ((do eqGuard (if neg then .neq else .eql) t x y (a.eval x) (a.eval y);binOp (if neg then .neq else .eql) t (a.eval x) (a.eval y):Sem Value).run P w):=by
 simp only[aj]at h
 split at h
 ·rename_i b mP
  obtain⟨h1,h2,h3⟩:=aaO (w:=w) ht (hR.ev x) (hR.ev y) mP (if neg then .neq else .eql) x y
  refine aO.same hI (.v _) h ?_
  cases neg
  ·simp_all
  simp_all
 grind
theorem R7{x:Operand}(hI:Inv P M w0 σ w)(hR:bQ M rg a)(h:aj P cfg d rg σ K E (.mv x)):aO P M w0 K ((pure (a.eval x):Sem Value).run P w):=
 aO.same hI (hR.ev x) h rfl
theorem ah4{c x y:Operand}(hI:Inv P M w0 σ w)(hR:bQ M rg a)(h:aj P cfg d rg σ K E (.pick c x y)):aO P M w0 K ((do pure (if ← asBool (a.eval c)then a.eval x else a.eval y):Sem Value).run P w):=by
 have hc:=hR.ev c
 simp only[aj]at h
 split at h
 ·rename_i t he
  rw[he]at hc
  rw[hc.ay]
  refine aO.same hI (x:=if t then ev rg x else ev rg y) ?_ h rfl
  cases t
  ·exact hR.ev y
  ·exact hR.ev x
 grind
theorem ahS{x:Operand}{i:Nat}(hI:Inv P M w0 σ w)(hR:bQ M rg a)(h:aj P cfg d rg σ K E (.extract x i)):aO P M w0 K ((Instr.extract (a.eval x) i).run P w):=by
 have hx:=hR.ev x
 simp only[aj]at h
 split at h
 ·rename_i xs he
  rw[he]at hx
  obtain⟨cs,hv,hl⟩:=hx.QX
  rw[hv]
  split at h
  ·rename_i y hy
   obtain⟨v,Dz,hr⟩:=hl.get hy
   exact aO.same hI hr h (by simp[Instr.extract,Dz])
  grind
 ·rename_i vs he
  rw[he]at hx
  rw[hx.ay]
  split at h
  ·rename_i y hy
   exact aO.same hI (.v _) h (by simp[Instr.extract,hy])
  grind
 grind
theorem ahV{t e:TypeId}{k:TypeInfo}{x i:Operand}(ht:P.underlying t=some (.slice e))(hk:P.info? e=some k)(hI:Inv P M w0 σ w)(hR:bQ M rg a)(h:aj P cfg d rg σ K E (.fe k.size x i)):
  aO P M w0 K ((Instr.indexAt t (a.eval x) (a.eval i)).run P w):=by
 have hx:=hR.ev x
 have hi:=hR.ev i
 simp only[aj]at h
 have run:∀ (b o n cap:Nat) (kd:IntKind) (j:Int),0≤j→j<n→(Instr.indexAt t (.slice (some ⟨b,o,none⟩) n cap) (.int kd j)).run P w= .ok (.pointer (some ⟨b,o+j.toNat * k.size,none⟩)) w:=by
  intro b o n cap kd j h0 h1
  simp[Instr.indexAt,aW ht,asIntOf,h0,h1,ly hk,Addr.add_lit]
 split at h
 ·rename_i kd j he
  rw[he]at hi
  rw[hi.ay]
  split at h
  ·rename_i nn ez rows gg
   rw[gg]at hx
   obtain⟨rfl,h0,h1,h⟩:=h
   rcases hx.nj with⟨_,_,rfl,_⟩|⟨b,off,cap,cs,hv,hr,_,_⟩
   ·grind
   ·rw[hv]
    exact aO.same hI (hr.pc j.toNat (by omega)) h (run b off _ cap kd j h0 h1)
  ·rename_i ez tg b u c rows gg
   rw[gg]at hx
   obtain⟨rfl,h0,h1,h⟩:=h
   obtain⟨off,cap,cs,hv,hr,_⟩:=hx.pP
   rw[hv]
   exact aO.same hI (hr.pc j.toNat (by omega)) h (run b off _ cap kd j h0 h1)
  ·rename_i tg b o n cap gg
   rw[gg]at hx
   rw[hx.pO]
   obtain⟨h0,h1,h⟩:=h
   exact aO.same hI (.lp _ _ _) h (run b o n cap kd j h0 h1)
  grind
 grind
theorem ahW{t e:TypeId}{n:Nat}{k:TypeInfo}{x i:Operand}(ht:P.underlying t=some (.array n e))(hk:P.info? e=some k)(hI:Inv P M w0 σ w)(hR:bQ M rg a)(h:aj P cfg d rg σ K E (.me n k.size x i)):
  aO P M w0 K ((Instr.indexAt t (a.eval x) (a.eval i)).run P w):=by
 have hx:=hR.ev x
 have hi:=hR.ev i
 simp only[aj]at h
 have run:∀ (b o:Nat) (kd:IntKind) (j:Int),0≤j→j<n→(Instr.indexAt t (.pointer (some ⟨b,o,none⟩)) (.int kd j)).run P w= .ok (.pointer (some ⟨b,o+j.toNat * k.size,none⟩)) w:=by
  intro b o kd j h0 h1
  simp[Instr.indexAt,aW ht,asIntOf,Instr.sureAddr,h0,h1,ly hk,Addr.add_lit]
 split at h
 ·rename_i kd j he
  rw[he]at hi
  rw[hi.ay]
  split at h
  ·rename_i tg b o gg
   rw[gg]at hx
   rw[hx.oH]
   obtain⟨h0,h1,h⟩:=h
   exact aO.same hI (.lp _ _ _) h (run b o kd j h0 h1)
  ·rename_i l gg
   rw[gg]at hx
   obtain⟨h0,h1,h⟩:=h
   obtain⟨b,o,cs,hv,h2,h3⟩:=hx.tq
   rw[hv]
   refine aO.same hI ?_ h (run b o kd j h0 h1)
   refine .pc _ b _ (fun m=>cs (j.toNat * k.size+m)) (fun m hm=> ?_) (fun m hm=> ?_)
   ·grind
   grind
  ·rename_i g o gg
   rw[gg]at hx
   obtain⟨l,ha,ho,h0,h1,h⟩:=h
   subst ho
   rw[hx.ay]
   obtain⟨b,o,cs,hv,h2,h3⟩:=(hI.gl g l ha).tq
   cases hv
   refine aO.same hI ?_ h (run _ _ kd j h0 h1)
   refine .pc _ g _ (fun m=>cs (j.toNat * k.size+m)) (fun m hm=> ?_) (fun m hm=> ?_)
   ·grind
   grind
  grind
 grind
theorem ahX{t:TypeId}{x i:Operand}(ht:P.underlying t=some .string)(hI:Inv P M w0 σ w)(hR:bQ M rg a)(h:aj P cfg d rg σ K E (.idxs x i)):
  aO P M w0 K ((Instr.index t (a.eval x) (a.eval i)).run P w):=by
 have hx:=hR.ev x
 have hi:=hR.ev i
 simp only[aj]at h
 split at h
 ·rename_i kd j s cD sR
  rw[cD]at hi
  rw[sR]at hx
  rw[hi.ay,hx.ay]
  obtain⟨⟨h0,h1⟩,h⟩:=h
  refine aO.same hI (.v _) h ?_
  have:s[j.toNat]? =some (s[j.toNat]'(by omega)):=by
   grind
  simp[Instr.index,asIntOf,aW ht,h0,this]
 grind
theorem ahZ{t:TypeId}{x:Operand}{ty:TypeId}(ht:P.underlying t=some .string)(hI:Inv P M w0 σ w)(hR:bQ M rg a)(h:aj P cfg d rg σ K E (.len true x)):aO P M w0 K ((Builtin.len_ #[t] ty #[a.eval x]).run P w):=by
 have hx:=hR.ev x
 simp only[aj]at h
 split at h
 ·rename_i s he
  rw[he]at hx
  rw[hx.ay]
  exact aO.same hI (.v _) h (by simp[Builtin.len_,aW ht,goInt])
 grind
theorem ahY{t e:TypeId}{x:Operand}{ty:TypeId}(ht:P.underlying t=some (.slice e))(hI:Inv P M w0 σ w)(hR:bQ M rg a)(h:aj P cfg d rg σ K E (.len false x)):aO P M w0 K ((Builtin.len_ #[t] ty #[a.eval x]).run P w):=by
 have hx:=hR.ev x
 simp only[aj]at h
 have run:∀ b n c,a.eval x= .slice b n c→(Builtin.len_ #[t] ty #[a.eval x]).run P w= .ok (.int .i64 n) w:=by
  intro b n c e
  rw[e]
  simp[Builtin.len_,aW ht,goInt]
 split at h
 ·rename_i b n c he
  rw[he]at hx
  exact aO.same hI (.v _) h (run b n c hx.ay)
 ·rename_i tg b o n c he
  rw[he]at hx
  exact aO.same hI (.v _) h (run _ n c hx.pO)
 ·rename_i nn ez rows he
  rw[he]at hx
  rcases hx.nj with⟨_,_,rfl,hv⟩|⟨b,off,cap,cs,hv,hr,h1,h2⟩
  ·exact aO.same hI (.v _) (h (by simp)) (run _ _ _ hv)
  ·exact aO.same hI (.v _) (h (by omega)) (run _ _ _ hv)
 ·rename_i ez tg b u c rows he
  rw[he]at hx
  obtain⟨off,cap,cs,hv,hr,h1,h2,_⟩:=hx.pP
  exact aO.same hI (.v _) (h (by omega)) (run _ _ _ hv)
 grind
theorem ah1{x y:Operand}{ts:Array TypeId}{ty:TypeId}(hI:Inv P M w0 σ w)(hR:bQ M rg a)(h:aj P cfg d rg σ K E (.max2 x y)):aO P M w0 K ((Builtin.max_ ts ty #[a.eval x,a.eval y]).run P w):=by
 have hx:=hR.ev x
 have hy:=hR.ev y
 simp only[aj]at h
 split at h
 ·rename_i u v hu hv
  rw[hu]at hx
  rw[hv]at hy
  rw[hx.ay,hy.ay]
  split at h
  ·rename_i r hr
   refine aO.same hI (.v _) h ?_
   unfold s9 at hr
   split at hr
   ·split at hr
    ·simp at hr
     subst hr
     simp[Builtin.max_,Builtin.max2]
    grind
   grind
  grind
 grind
theorem ah2{x y:Operand}{ts:Array TypeId}{ty:TypeId}(hI:Inv P M w0 σ w)(hR:bQ M rg a)(h:aj P cfg d rg σ K E (.min2 x y)):aO P M w0 K ((Builtin.min_ ts ty #[a.eval x,a.eval y]).run P w):=by
 have hx:=hR.ev x
 have hy:=hR.ev y
 simp only[aj]at h
 split at h
 ·rename_i u v hu hv
  rw[hu]at hx
  rw[hv]at hy
  rw[hx.ay,hy.ay]
  split at h
  ·rename_i r hr
   refine aO.same hI (.v _) h ?_
   unfold s9 at hr
   split at hr
   ·split at hr
    ·simp at hr
     subst hr
     simp[Builtin.min_,Builtin.min2]
    grind
   grind
  grind
 grind
theorem Pl{M:Mem}{rg:ag}{a:Act}(hR:bQ M rg a){o:Option Operand}{r:Option Int}(h:iy (o.map (ev rg))=some r):(o=none∧r=none)∨∃ k i,o.map a.eval=some (.int k i)∧r=some i:=by
 cases o with
 |none=>simp[iy]at h;grind
 |some x=>
  have hx:=hR.ev x
  simp at h
  unfold iy at h
  split at h
  ·grind
  ·rename_i k i e
   simp at e h
   rw[e]at hx
   exact .inr ⟨k,i,by simp[hx.ay],h.symm⟩
  grind
theorem agt{ck ek:Option Int}{K1 K0:Option Value}(h1:(K1=none∧ck=none)∨∃ k i,K1=some (.int k i)∧ck=some i)(h2:(K0=none∧ek=none)∨∃ k i,K0=some (.int k i)∧ek=some i)
  (n c:Nat) (a1:0≤ck.getD 0) (a2:ck.getD 0≤ek.getD n) (a3:ek.getD n≤c):
  (Instr.sliceBounds true n c K1 K0 none).run P w= .ok ((ck.getD 0).toNat,(ek.getD n).toNat,c) w:=by
 have sb:∀ (k:IntKind) (i:Int) (y:Nat) (code:BoundsCode),0≤i→i≤y→(Instr.sliceBound (.int k i) y code).run P w= .ok i.toNat w:=by
  intro k i y code h0 h1
  simp[Instr.sliceBound,asIntOf,h0,h1]
 rcases h1 with⟨rfl,rfl⟩|⟨k,i,rfl,rfl⟩<;>rcases h2 with⟨rfl,rfl⟩|⟨k',i',rfl,rfl⟩<;>simp only[XA,Zp]at a1 a2 a3 ⊢
 ·simp[Instr.sliceBounds]
 ·simp[Instr.sliceBounds,sb k' i' c _ (by omega) (by omega)]
 ·simp[Instr.sliceBounds,sb k i n _ (by omega) (by omega)]
 ·simp[Instr.sliceBounds,sb k' i' c _ (by omega) (by omega),sb k i i'.toNat _ (by omega) (by omega)]
theorem ah5{t e:TypeId}{k:TypeInfo}{x:Operand}{lo hi:Option Operand}(ht:P.underlying t=some (.slice e))(hk:P.info? e=some k)(hI:Inv P M w0 σ w)(hR:bQ M rg a)(h:aj P cfg d rg σ K E (.slice k.size x lo hi)):
  aO P M w0 K ((Instr.sliceAt t (a.eval x) (lo.map a.eval) (hi.map a.eval) none).run P w):=by
 have hx:=hR.ev x
 simp only[aj]at h
 split at h
 ·rename_i ck ek xE Iq
  have h1:(lo.map a.eval=none∧ck=none)∨∃ k i,lo.map a.eval=some (.int k i)∧ck=some i:=by
   rcases Pl hR xE with⟨rfl,rfl⟩|h
   ·exact .inl ⟨rfl,rfl⟩
   ·exact .inr h
  have h2:(hi.map a.eval=none∧ek=none)∨∃ k i,hi.map a.eval=some (.int k i)∧ek=some i:=by
   rcases Pl hR Iq with⟨rfl,rfl⟩|h
   ·exact .inl ⟨rfl,rfl⟩
   ·exact .inr h
  have run:∀ (base:Option Addr) (n c:Nat),0≤ck.getD 0→ck.getD 0≤ek.getD n→ek.getD n≤c→
    (Instr.sliceAt t (.slice base n c) (lo.map a.eval) (hi.map a.eval) none).run P w=
     .ok (.slice (if c=(ck.getD 0).toNat then base else base.map (·.add ((ck.getD 0).toNat * k.size))) ((ek.getD n).toNat-(ck.getD 0).toNat) (c-(ck.getD 0).toNat)) w:=by
   intro base n c a1 a2 a3
   simp[Instr.sliceAt,aW ht,Instr.slice,agt h1 h2 n c a1 a2 a3,ly hk]
  split at h
  ·rename_i nn ez rows gg
   rw[gg]at hx
   obtain⟨rfl,a1,a2,a3,h⟩:=h
   rcases hx.nj with⟨ba,hba,rfl,hv⟩|⟨b,off,cap,cs,hv,hr,h4,h5⟩
   ·rw[hv]
    simp only[ZA,Int.natCast_zero]at a1 a2 a3 h
    have e1:(ck.getD 0).toNat=0:=by omega
    have e2:(ek.getD 0).toNat=0:=by omega
    refine aO.same hI (v:= .slice ba 0 0) ?_ h ?_
    ·simp;exact .nil _ _ _ hba
    ·rw[run ba 0 0 a1 a2 a3]
     simp[e1]
     simpa using e2
   ·rw[hv]
    have hl:=hr.sub (ck.getD 0).toNat (ek.getD rows.length).toNat (by omega) (by omega)
    have hlen:((rows.take (ek.getD rows.length).toNat).drop (ck.getD 0).toNat).length=(ek.getD rows.length).toNat-(ck.getD 0).toNat:=by simp;omega
    by_cases hc:cap=(ck.getD 0).toNat
    ·refine aO.same hI (v:= .slice (some ⟨b,off,none⟩) ((ek.getD rows.length).toNat-(ck.getD 0).toNat) (cap-(ck.getD 0).toNat)) ?_ h ?_
     ·have hz:(rows.take (ek.getD rows.length).toNat).drop (ck.getD 0).toNat=[]:=by
       apply Zt;rw[hlen];omega
      have pI:(ek.getD rows.length).toNat-(ck.getD 0).toNat=0:=by rw[← hlen,hz];rfl
      rw[hz,pI]
      exact R.nc (rows:=[]) (cs:=cs) ⟨fun i hi=>absurd hi (by simp),fun k hk=>absurd hk (by simp),fun i hi=>absurd hi (by simp)⟩ (ZM _) (by omega) nn
     ·rw[run _ _ _ a1 a2 (by omega),ZV hc]
    ·refine aO.same hI (v:= .slice (some ⟨b,off+(ck.getD 0).toNat * k.size,none⟩) ((ek.getD rows.length).toNat-(ck.getD 0).toNat) (cap-(ck.getD 0).toNat)) ?_ h ?_
     ·have:=R.nc hl (cap:=cap-(ck.getD 0).toNat) (by rw[hlen];omega) (by omega) nn
      rw[hlen]at this
      exact this
     ·rw[run _ _ _ a1 a2 (by omega),Z7 hc]
      simp[Addr.add_lit]
  ·rename_i ez tg b u c rows gg
   rw[gg]at hx
   obtain⟨rfl,a1,a2,a3,h⟩:=h
   obtain⟨off,cap,cs,hv,hr,h4,h5,h6,h8⟩:=hx.pP
   rw[hv]
   have hl:=hr.sub (ck.getD 0).toNat (ek.getD rows.length).toNat (by omega) (by omega)
   have hlen:((rows.take (ek.getD rows.length).toNat).drop (ck.getD 0).toNat).length=(ek.getD rows.length).toNat-(ck.getD 0).toNat:=by simp;omega
   have aj9:(ck.getD 0).toNat≤rows.length:=by omega
   by_cases hc:cap=(ck.getD 0).toNat
   ·refine aO.same hI (v:= .slice (some ⟨b,off,none⟩) ((ek.getD rows.length).toNat-(ck.getD 0).toNat) (cap-(ck.getD 0).toNat)) ?_ h ?_
    ·have hz:(rows.take (ek.getD rows.length).toNat).drop (ck.getD 0).toNat=[]:=by
      apply Zt;rw[hlen];omega
     have pI:(ek.getD rows.length).toNat-(ck.getD 0).toNat=0:=by rw[← hlen,hz];rfl
     have Av:=R.nc (M:=M) (b:=b) (off:=off) (ah:=k.size) (cs:=cs) (cap:=cap-(ck.getD 0).toNat) (rows:=[]) ⟨fun i hi=>absurd hi (by simp),fun k hk=>absurd hk (by simp),fun i hi=>absurd hi (by simp)⟩ (ZM _) (by omega) true
     cases Ap:ek with
     |none=>
      simp only[Ap,Option.isNone_none,YX,XA]at pI ⊢
      have gy:rows.drop (ck.getD 0).toNat=[]:=by apply Zt;simp;omega
      rw[gy,pI]
      exact R.qN (M:=M) (b:=b) (off:=off) (ah:=k.size) (cs:=cs) (rows:=[]) ⟨fun i hi=>absurd hi (by simp),fun k hk=>absurd hk (by simp),fun i hi=>absurd hi (by simp)⟩ (ZM _) (by omega) (.inl (by omega)) h8
     |some j=>
      simp only[Ap,Option.isNone_some,ZU,YV,Zp]at hz pI ⊢
      rw[hz,pI]
      exact Av
    ·rw[run _ _ _ a1 a2 (by omega),ZV hc]
   ·refine aO.same hI (v:= .slice (some ⟨b,off+(ck.getD 0).toNat * k.size,none⟩) ((ek.getD rows.length).toNat-(ck.getD 0).toNat) (cap-(ck.getD 0).toNat)) ?_ h ?_
    ·cases Ap:ek with
     |none=>
      simp only[Ap,Option.isNone_none,YX,XA,XI,Yr]at hl hlen ⊢
      have e1:(rows.length-(ck.getD 0).toNat) * k.size+(ck.getD 0).toNat * k.size=rows.length * k.size:=by rw[← YI];congr 1;omega
      have e2:(cap-(ck.getD 0).toNat) * k.size+(ck.getD 0).toNat * k.size=cap * k.size:=by rw[← YI];congr 1;omega
      have:=R.qN (t:=tg) (u:=u) (c:=c) hl (cap:=cap-(ck.getD 0).toNat) (by rw[hlen];omega) (by omega) (by rcases h6 with h6|h6;exact .inl (by omega);exact .inr ⟨by rw[hlen];omega,by omega⟩) h8
      rw[hlen]at this
      exact this
     |some j=>
      simp only[Ap,Option.isNone_some,ZU,YV,Zp]at hl hlen a2 a3 ⊢
      have:=R.nc hl (cap:=cap-(ck.getD 0).toNat) (by rw[hlen];omega) (by omega) true
      rw[hlen]at this
      exact this
    ·rw[run _ _ _ a1 a2 (by omega),Z7 hc]
     simp[Addr.add_lit]
  ·rename_i gg
   rw[gg]at hx
   rw[hx.ay]
   obtain⟨a1,a2,h⟩:=h
   refine aO.same hI (.v _) h ?_
   rw[run none 0 0 (by omega) (by simp;omega) (by simp;omega)]
   simp[a1,a2]
  ·exact h.elim
 ·exact h.elim
end
section
variable {P:Program}[Glob P]{M:Mem}{w0:Base}{w:World}{σ:Store}{K:AV→Store→Prop}{rg:ag}{a:Act}{cfg:Nat→Nat}{d:Option Nat}{E:List PanicEntry→Store→Prop}
theorem En{ah:Nat}{x:AV}{v:Value}{rows:List (List AV)}(hI:Inv P M w0 σ w)(hx:R M x v)(h:dG ah x=some rows)(qC:¬∃ s,x= .v (.string s)):
  ∃ (base:Option Addr) (cap:Nat) (L:List Value),v= .slice base rows.length cap∧RL M rows.flatten L∧(∀ i (h:i<rows.length),rows[i].length=ah)∧
   (Builtin.firstCells ah rows.length v).run P w= .ok L.toArray w:=by
 have go:∀ b off cap (cs:Nat→Value),Rows M b off ah rows cs→∃ L:List Value,RL M rows.flatten L∧(Builtin.firstCells ah rows.length (.slice (some ⟨b,off,none⟩) rows.length cap)).run P w= .ok L.toArray w:=by
  intro b off cap cs hr
  refine⟨_,hr.flat,?_⟩
  refine Be b off _ _ (by simp) (fun i hi=> ?_)
  simp at hi
  have:=hI.bL _ _ _ (hr.mem i hi)
  grind
 unfold dG at h
 split at h
 ·split at h
  ·rename_i e';subst e'
   simp at h
   subst h
   rcases hx.nj with⟨ba,_,rfl,hv⟩|⟨b,off,cap,cs,hv,hr,h1,h2⟩
   ·subst hv
    exact⟨ba,0,[],rfl,RL.nil,fun i hi=>absurd hi (by simp),by cases ba<;>simp[Builtin.firstCells,loadCells,loadCellsFrom]⟩
   ·obtain⟨L,hL,cP⟩:=go b off cap cs hr
    exact⟨_,cap,L,hv,hL,hr.size,by grind⟩
  grind
 ·rename_i e tg b u c rows'
  split at h
  ·rename_i e';subst e'
   simp at h
   subst h
   obtain⟨off,cap,cs,hv,hr,_⟩:=hx.pP
   obtain⟨L,hL,cP⟩:=go b off cap cs hr
   exact⟨_,cap,L,hv,hL,hr.size,by grind⟩
  grind
 ·simp at h
  subst h
  rw[hx.ay]
  exact⟨none,0,[],rfl,RL.nil,fun i hi=>absurd hi (by simp),by rfl⟩
 ·grind
 grind
theorem yj{ah:Nat}{x:AV}{v:Value}{rows:List (List AV)}(hI:Inv P M w0 σ w)(hx:R M x v)(h:dG ah x=some rows):
  ∃ L:List Value,(∀ w':World,(Builtin.lenOf v).run P w'= .ok rows.length w')∧RL M rows.flatten L∧(∀ i (h:i<rows.length),rows[i].length=ah)∧
   (Builtin.firstCells ah rows.length v).run P w= .ok L.toArray w:=by
 by_cases hs:∃ s,x= .v (.string s)
 ·obtain⟨s,rfl⟩:=hs
  simp only[dG]at h
  split at h
  case isFalse=>cases h
  rename_i e1
  subst e1
  cases h
  rw[hx.ay]
  refine⟨s.data.toList.map fun b=> .int .u8 b.toNat,fun w'=>by simp;rfl,?_,fun i hi=>by simp[dD],?_⟩
  ·have:∀ l:List UInt8,RL M (l.map dD).flatten (l.map fun b=>Value.int .u8 b.toNat):=by
    intro l
    induction l with
    |nil=>exact RL.nil
    |cons b l ih=>exact RL.cons (.v _) ih
   grind
  ·simp only[Builtin.firstCells,ZW,Sem.run_pure]
   congr 1
   apply Yw
   simp_all
 ·obtain⟨base,cap,L,hv,h1,h2,h3⟩:=En (P:=P) (rows:=rows) hI hx h hs
  exact⟨L,fun w'=>by rw[hv];rfl,h1,h2,h3⟩
def Mem.ext(M:Mem)(B u:Nat)(vs:List Value):Mem:=fun b o=>if b=B∧u≤o∧o<u+vs.length then vs[o-u]? else M b o
theorem Inv.Gp{tg b u c:Nat}(hI:Inv P M w0 σ w)(hb:aV σ tg=some (b,.tail u c))(vs:List Value):M.le (M.ext b u vs):=fun b' o v h=>by
 obtain⟨_,hM,_⟩:=hI.st _ (s8 hb)
 have:¬(b'=b∧u≤o∧o<u+vs.length):=fun⟨e,h1,_⟩=>by grind
 simp[Mem.ext,this,h]
theorem Inv.aiS{tg b u c:Nat}(hI:Inv P M w0 σ w)(hb:aV σ tg=some (b,.tail u c))(vs:List Value)(hc:u+vs.length≤c)(h1:vs.all Value.oneCell'=true):
  ∃ w',(storeCells ⟨b,u,none⟩ vs).run P w= .ok () w'∧Inv P (M.ext b u vs) w0 (du σ tg b (.tail (u+vs.length) c)) w':=by
 obtain⟨hold,hM,cs,t,hh,bg,_⟩:=hI.st _ (s8 hb)
 simp only at hold hM hh bg
 obtain⟨w',hr,pH,hk,e1,e2,e3,e4⟩:=Ke (P:=P) b u t vs cs 0 w hh (by omega) h1
 have hle:=hI.Gp hb vs
 obtain⟨pre,post,gT,eL⟩:=wg hb
 have hnd:=hI.nd
 rw[gT]at hnd
 simp only[YZ,Zv]at hnd
 refine⟨w',hr,e1.trans hI.os,e2.trans hI.tape,e3.trans hI.output,by rw[e4];exact hI.size,fun k di=> ?_,fun b' o v hv=> ?_,fun e he=> ?_,?_,fun g l e=>(hI.gl g l e).mono (hI.Gp hb vs),hI.gw,fun b' o v hv aw=>hI.bm b' o v (by simp only[Mem.ext]at hv;rwa [Z7 (fun e=>by have:=(hI.st _ (s8 hb)).1;simp only at this;omega)]at hv) aw⟩
 ·rw[hk k (by omega)];exact hI.old k di
 ·simp only[Mem.ext]at hv
  split at hv
  ·rename_i gb
   obtain⟨rfl,h2,h3⟩:=gb
   simp only[World.cell?,pH,Option.isSome_none,ZU,YV,over,Ym]
   simp only[XL,Zb]
   rw[List.getElem?_append_right (by simp;omega)]
   rw[YL (by simp;omega)]
   rw[← hv]
   congr 1
   simp;omega
  ·by_cases e:b'=b
   ·subst e
    rename_i gb
    have hu:o<u:=by
     rcases YU o u with h|h
     ·exact h
     ·rw[hM o h]at hv;cases hv
    have:=hI.bL b' o v hv
    simp only[World.cell?,hh,Option.isSome_none,ZU,YV]at this
    simp only[World.cell?,pH,Option.isSome_none,ZU,YV,over,Ym]
    simp only[XL,Zb]
    rw[YL (by simp;omega),Y4,ZV hu]
    simpa using this
   ·have:=hI.bL b' o v hv
    rw[← this]
    simp only[World.cell?,hk b' e]
 ·rw[eL]at he
  have fK:e=(tg,b,.tail (u+vs.length) c)∨(e∈σ∧e.2.1≠b):=by
   rw[XJ]at hnd
   rcases Zy.1 he with he|he
   ·refine .inr ⟨by rw[gT];exact Zm _ he,fun eb=> ?_⟩
    exact hnd.2.2 e.2.1 (Yk he) b ZD eb
   ·rcases ZK.1 he with rfl|he
    ·exact .inl rfl
    ·refine .inr ⟨by rw[gT];exact Y6 _ (ZL _ he),fun eb=> ?_⟩
     have:=(Yy.1 hnd.2.1).1
     exact this (by rw[← eb];exact Yk (f:=fun e:Nat×Nat×aZ=>e.2.1) he)
  rcases fK with rfl|⟨he,aE⟩
  ·refine⟨hold,fun o ho=> ?_,_,t,pH,?_,hc⟩
   ·simp[Mem.ext]
    rw[Z7 (by omega)]
    exact hM o (by omega)
   ·simp[over];omega
  ·refine⟨(hI.st e he).1,?_⟩
   have mU:=(hI.st e he).2
   obtain⟨tg',b',x⟩:=e
   simp only at aE mU ⊢
   cases x with
   |cells l=>obtain⟨a1,bO,t',a2,a3⟩:=mU;exact⟨fun o=>by simp[Mem.ext,aE,a1 o],bO,t',(hk b' aE).trans a2,a3.mono hle⟩
   |tail u' c'=>obtain⟨a1,bO,t',a2,a3⟩:=mU;exact⟨fun o ho=>by simp[Mem.ext,aE,a1 o ho],bO,t',(hk b' aE).trans a2,a3⟩
   |map es k=>obtain⟨a1,l,a2,a3,a4⟩:=mU;exact⟨fun o=>by simp[Mem.ext,aE,a1 o],l,(hk b' aE).trans a2,a3,a4.mono hle⟩
 ·rw[eL]
  simp only[YZ,Zv]
  exact hnd
theorem Inv.ae0{tg b:Nat}{x:aZ}(hI:Inv P M w0 σ w)(hb:aV σ tg=some (b,x))(u:Nat)(cs:List Value)(t:TypeId)(hu:u≤cs.length):
  Inv P (M.add w.heap.size u cs) w0 (du σ tg w.heap.size (.tail u cs.length)) (w.alloc (.cells cs.toArray t)):=by
 have h':=hI.BX u cs t hu tg
 obtain⟨pre,post,gT,eL⟩:=wg hb
 refine⟨h'.os,h'.tape,h'.output,h'.size,h'.old,h'.bL,fun e he=> ?_,?_,h'.gl,h'.gw,h'.bm⟩
 ·refine h'.st e ?_
  grind
 ·have hnd:=hI.nd
  have hf:=hI.fresh
  rw[gT]at hnd hf
  rw[eL]
  simp only[YZ,Zv]at hnd hf ⊢
  grind
theorem NJ(n:Nat):∀ (r c:Nat),c<n→256≤c→Builtin.growBy n r c≤2 * n
 |0,c,h,_=>by simp[Builtin.growBy];omega
 |r+1,c,h,h2=>by
  simp only[Builtin.growBy]
  rw[Z7 (by omega)]
  by_cases h3:c+(c+768) / 4<n
  ·exact NJ n r _ h3 (by omega)
  ·cases r with
   |zero=>simp[Builtin.growBy];omega
   |succ r=>simp only[Builtin.growBy];grind
theorem afe(n c:Nat)(h:c<n):Builtin.nextslicecap n c≤2 * n:=by
 unfold Builtin.nextslicecap
 split
 ·omega
 ·split
  ·omega
  ·exact NJ n 4 c h (by omega)
theorem ajF{rows rows':List (List AV)}{ah:Nat}(h:∀ i (h:i<rows.length),rows[i].length=ah)(h':∀ i (h:i<rows'.length),rows'[i].length=ah):
  ∀ i (h:i<(rows++rows').length),(rows++rows')[i].length=ah:=by
 grind
theorem Rows.join{b off ah:Nat}{rows rows':List (List AV)}{L L':List Value}{M':Mem}(h:∀ i (h:i<rows.length),rows[i].length=ah)(h':∀ i (h:i<rows'.length),rows'[i].length=ah)
  (hL:RL M' rows.flatten L) (fZ:RL M' rows'.flatten L') (hM:∀ k v,(L++L')[k]? =some v→M' b (off+k)=some v):∃ cs,Rows M' b off ah (rows++rows') cs:=
 ⟨_,Rows.of_flat (ajF h h') (by rw[List.flatten_append];exact RL.append hL fZ) hM⟩
theorem Ka{t e u ty:TypeId}{i:TypeInfo}{z:Value}{s x:Value}{base:Option Addr}{n c n':Nat}{L L':List Value}(ht:P.underlying t=some (.slice e))(hu:(∃ e',P.underlying u=some (.slice e'))∨P.underlying u=some .string)(hi:P.info? e=some i)(hz:i.zero=some z)(hb:0<i.bytes)
  (hs:s= .slice base n c) (hx:∀ w':World,(Builtin.lenOf x).run P w'= .ok n' w') (aw:c<n+n') (mQ:(n+n') * i.bytes≤35184372088832)
  (h1:(Builtin.firstCells i.size n s).run P w.drew= .ok L.toArray w.drew) (h2:(Builtin.firstCells i.size n' x).run P w.drew= .ok L'.toArray w.drew):
  ∃ (cap:Nat) (rest:List Value),n+n'≤cap∧cap≤maxLen∧rest.length=(cap-(n+n')) * z.cells.size∧
   (Builtin.append_ #[t,u] ty #[s,x]).run P w= .ok (.slice (some ⟨w.heap.size,0,none⟩) (n+n') cap) (w.drew.alloc (.cells (L++L'++rest).toArray e)):=by
 subst hs
 have acp:=afe (n+n') c aw
 have im:Builtin.nextslicecap (n+n') c * i.bytes≤281474976710656:=by
  have:=Y9 i.bytes acp
  grind
 have qA:n+n'≤35184372088832:=ZI (Nat.le_mul_of_pos_right _ hb) mQ
 have sB:(Question.appendCap (n+n') c e).cut (w.tape w.drawn (.appendCap (n+n') c e))=n+n'+(w.tape w.drawn (.appendCap (n+n') c e)) % (2 ^ 63-(n+n')):=rfl
 have acn:(w.tape w.drawn (.appendCap (n+n') c e)) % (2 ^ 63-(n+n'))<2 ^ 63-(n+n'):=Nat.mod_lt _ (by omega)
 refine⟨(Question.appendCap (n+n') c e).cut (w.tape w.drawn (.appendCap (n+n') c e)),(Builtin.zeroCells z.cells ((Question.appendCap (n+n') c e).cut (w.tape w.drawn (.appendCap (n+n') c e))-(n+n'))).toList,?_,?_,?_,?_⟩
 ·grind
 ·rw[sB];unfold maxLen;omega
 ·simp[Builtin.zeroCells]
 ·have hgo:¬n+n'≤c:=by omega
  have abS:¬Builtin.nextslicecap (n+n') c * i.bytes>281474976710656:=by omega
  have uI:i.bytes≠0:=by omega
  rcases hu with⟨e',hu⟩|hu
  all_goals(simp[Builtin.append_,aW ht,aW hu,ly hi,hx,hgo,Kd hi,uI,abS,Question.forced,h1,h2,Er hi hz,newRow])
  all_goals congr 2
  all_goals grind
  all_goals simp
theorem Inv.eI(hI:Inv P M w0 σ w):Inv P M w0 σ w.drew:=⟨hI.os,hI.tape,hI.output,hI.size,hI.old,hI.bL,hI.st,hI.nd,hI.gl,hI.gw,hI.bm⟩
theorem ago{rows:List (List AV)}(h:rows.all (fun r=>r.all AV.one)=true):rows.flatten.all AV.one=true:=by
 grind
theorem R5{t e u ty:TypeId}{i:TypeInfo}{z:Value}{x y:Operand}(ht:P.underlying t=some (.slice e))(hu:(∃ e',P.underlying u=some (.slice e'))∨P.underlying u=some .string)(hi:P.info? e=some i)(hz:i.zero=some z)(hp:0<i.size)(hb:0<i.bytes)(AE:z.cells.size=i.size)
  (hI:Inv P M w0 σ w) (hR:bQ M rg a) (h:aj P cfg d rg σ K E (.append e i.size i.bytes z.cells.toList x y)):aO P M w0 K ((Builtin.append_ #[t,u] ty #[a.eval x,a.eval y]).run P w):=by
 have hx:=hR.ev x
 have hy:=hR.ev y
 simp only[aj]at h
 split at h
 ·rename_i rows' gg sW
  rw[gg]at hx
  obtain⟨L',gU,fZ,sO,sK⟩:=yj (P:=P) hI.eI hy sW
  obtain⟨mQ,iq,zX⟩:=h
  rw[hx.ay]
  by_cases dR:rows'=[]
  ·subst dR
   refine aO.same hI (.v _) (iq rfl) ?_
   obtain⟨L2,vm,uB,Ax,vf⟩:=yj (P:=P) hI hy sW
   have xl:L2=[]:=by have:=uB.1;simp at this;exact Zt this.symm
   subst xl
   simp only[ZA]at vf vm
   rcases hu with⟨e',hu⟩|hu
   all_goals simp[Builtin.append_,aW ht,aW hu,ly hi,vm,vf]
  ·have uX:0<rows'.length:=XZ.2 dR
   obtain⟨cap,rest,bV,cG,jR,cP⟩:=Ka (P:=P) (ty:=ty) (s:= .slice none 0 0) (x:=a.eval y) (L:=[]) (L':=L') (n:=0) (c:=0) (n':=rows'.length) ht hu hi hz hb rfl gU (by omega) (by simpa using mQ) (by simp[Builtin.firstCells]) sK
   rw[cP]
   simp only[ZH,Zl]at bV ⊢
   have hlen:L'.length=rows'.length * i.size:=by rw[← fZ.1,mL _ sO]
   refine⟨_,_,M.add w.drew.heap.size L'.length (L'++rest),_,_,rfl,hI.eI.mZ _ _,hI.eI.BX _ _ e (by simp) _,?_,zX dR _ L'.length _ hlen⟩
   have hr:Rows (M.add w.drew.heap.size L'.length (L'++rest)) w.drew.heap.size 0 i.size rows' (fun k=>L'.getD k undef):=
    Rows.of_flat sO (fZ.mono (hI.eI.mZ _ _)) (fun k v hk=>by
     have di:k<L'.length:=(ZE.1 hk).1
     have:M.add w.drew.heap.size L'.length (L'++rest) w.drew.heap.size (0+k)=(L'++rest)[k]? :=by simp[Mem.add,di]
     rw[this,YL di,hk])
   have fu:(L'++rest).length=cap * i.size:=by
    rw[Z4,jR,hlen,AE,ZH,← YI];congr 1;omega
   exact R.qN hr bV cG (.inr ⟨by omega,by omega⟩) hp
 ·rename_i ez tg b u' c rows rows' gg sW
  rw[gg]at hx
  obtain⟨rfl,uK,mQ,qD,h⟩:=h
  obtain⟨off,cap,cs,hv,hr,h4,h5,h6,h8⟩:=hx.pP
  obtain⟨We,WC,L,jS,hL,bg,IW⟩:=En (P:=P) (rows:=rows) (ah:=i.size) hI.eI hx (by simp[dG]) (fun⟨s,h⟩=>by cases h)
  obtain⟨L',gU,fZ,sO,sK⟩:=yj (P:=P) hI.eI hy sW
  have hlen:L.length=rows.length * i.size:=by rw[← hL.1,mL _ bg]
  have sI:L'.length=rows'.length * i.size:=by rw[← fZ.1,mL _ sO]
  by_cases Ij:rows.length+rows'.length≤cap
  ·
   obtain⟨L2,vm,uB,Ax,vf⟩:=yj (P:=P) hI hy sW
   have py:L2.length=rows'.length * i.size:=by rw[← uB.1,mL _ Ax]
   have cV:L2.all Value.oneCell'=true:=uB.iK (ago qD)
   have OX:∀ w',(storeCells ⟨b,off+rows.length * i.size,none⟩ L2).run P w= .ok () w'→(Builtin.append_ #[t,u] ty #[a.eval x,a.eval y]).run P w= .ok (.slice (some ⟨b,off,none⟩) (rows.length+rows'.length) cap) w':=by
    intro w' hs
    rw[hv]at *
    rcases hu with⟨e',hu⟩|hu
    all_goals simp[Builtin.append_,aW ht,aW hu,ly hi,vm,Ij,vf,Addr.add_lit,hs]
   rcases h6 with h6|⟨h6,h7⟩
   ·have e1:rows=[]:=Zt (by omega)
    have e2:rows'=[]:=Zt (by omega)
    subst e1 e2
    have e3:L2=[]:=Zt (by simpa using py)
    subst e3
    refine⟨_,w,M,_,_,OX w rfl,Mem.le.refl _,?_,?_,h b u' c (fun e=>by simpa using e)⟩
    ·obtain⟨pre,post,gT,eL⟩:=wg uK
     rw[eL,← gT]
     exact hI
    ·exact R.qN (rows:=[]++[]) (cs:=cs) ⟨fun i hi=>absurd hi (by simp),fun k hk=>absurd hk (by simp),fun i hi=>absurd hi (by simp)⟩ (by simp) h5 (.inl h6) h8
   ·have sB:(rows.length+rows'.length) * i.size≤cap * i.size:=Y9 _ Ij
    rw[YI]at sB
    obtain⟨w',hs,bp⟩:=Inv.aiS (P:=P) hI uK L2 (by omega) cV
    rw[← h6]at hs
    have hle:=hI.Gp uK L2
    refine⟨_,w',_,_,_,OX w' hs,hle,bp,?_,h b (u'+L2.length) c (fun e=>by rw[e,py,YI])⟩
    obtain⟨L0,xl,hLm⟩:∃ L0:List Value,RL M rows.flatten L0∧∀ k v,L0[k]? =some v→M b (off+k)=some v:=⟨_,hr.flat,fun k v hk=>by
     obtain⟨ku,eZ⟩:=ZE.1 hk
     simp at ku eZ
     rw[← eZ]
     exact hr.mem k ku⟩
    have aj7:L0.length=rows.length * i.size:=by rw[← xl.1,mL _ bg]
    obtain⟨wX,hj⟩:=Rows.join (M':=M.ext b u' L2) (b:=b) (off:=off) bg Ax (xl.mono hle) (uB.mono hle) (fun k v hk=>by
     by_cases aw:k<L0.length
     ·rw[YL aw]at hk
      exact hle _ _ _ (hLm k v hk)
     ·rw[List.getElem?_append_right (by omega)]at hk
      have di:=(ZE.1 hk).1
      simp only[Mem.ext]
      rw[ZV ⟨trivial,by omega,by omega⟩,← hk]
      congr 1
      omega)
    have:=R.qN (t:=tg) (u:=u'+L2.length) (c:=c) hj (cap:=cap) (by simpa using Ij) h5 (.inr ⟨by rw[Z4,YI];omega,h7⟩) h8
    rw[Z4]at this
    exact this
  ·obtain⟨mF,rest,bV,cG,jR,cP⟩:=Ka (P:=P) (ty:=ty) (s:=a.eval x) (x:=a.eval y) (L:=L) (L':=L') (n:=rows.length) (c:=cap) (n':=rows'.length) ht hu hi hz hb hv gU (by omega) mQ IW sK
   rw[cP]
   have gH:=hI.eI
   have hle:=gH.mZ (L++L').length (L++L'++rest)
   refine⟨_,_,M.add w.drew.heap.size (L++L').length (L++L'++rest),_,_,rfl,hle,gH.ae0 uK _ _ e (by simp),?_,h _ (L++L').length _ (fun _=>by rw[Z4,hlen,sI,YI])⟩
   obtain⟨wX,hj⟩:=Rows.join (M':=M.add w.drew.heap.size (L++L').length (L++L'++rest)) (b:=w.drew.heap.size) (off:=0) bg sO (hL.mono hle) (fZ.mono hle) (fun k v hk=>by
    have di:k<(L++L').length:=(ZE.1 hk).1
    have:M.add w.drew.heap.size (L++L').length (L++L'++rest) w.drew.heap.size (0+k)=(L++L'++rest)[k]? :=by unfold Mem.add;rw[ZV rfl,ZV (by omega),ZH]
    rw[this,YL di,hk])
   have fu:(L++L'++rest).length=mF * i.size:=by
    rw[Z4,Z4,jR,hlen,sI,AE,← YI,← YI];congr 1;omega
   have pz:(L++L').length=(rows++rows').length * i.size:=by
    rw[Z4,hlen,sI,Z4,YI]
   have:=R.qN (t:=tg) (u:=(L++L').length) (c:=(L++L'++rest).length) hj (cap:=mF) (by simpa using bV) cG (.inr ⟨by omega,by omega⟩) hp
   rw[Z4 (as:=rows)]at this
   exact this
 ·rename_i ez rows rows' gg sW
  rw[gg]at hx
  obtain⟨rfl,mQ,iq,h⟩:=h
  obtain⟨b0,off,cs,hv,hr,h5⟩:=hx.QS
  by_cases aE:rows'=[]
  ·subst aE
   refine aO.same hI hx (iq rfl) ?_
   obtain⟨L2,vm,uB,Ax,vf⟩:=yj (P:=P) hI hy sW
   have xl:L2=[]:=by have:=uB.1;simp at this;exact Zt this.symm
   subst xl
   simp only[ZA]at vf vm
   rw[hv]
   rcases hu with⟨e',hu⟩|hu
   all_goals simp[Builtin.append_,aW ht,aW hu,ly hi,vm,vf,Addr.add_lit,storeCells]
  have h:=h aE
  have uX:0<rows'.length:=XZ.2 aE
  obtain⟨We,WC,L,jS,hL,bg,IW⟩:=En (P:=P) (rows:=rows) (ah:=i.size) hI.eI (hx.GD true) (by simp[dG]) (fun⟨s,h⟩=>by cases h)
  obtain⟨L',gU,fZ,sO,sK⟩:=yj (P:=P) hI.eI hy sW
  have hlen:L.length=rows.length * i.size:=by rw[← hL.1,mL _ bg]
  have sI:L'.length=rows'.length * i.size:=by rw[← fZ.1,mL _ sO]
  obtain⟨mF,rest,bV,cG,jR,cP⟩:=Ka (P:=P) (ty:=ty) (s:=a.eval x) (x:=a.eval y) (L:=L) (L':=L') (n:=rows.length) (c:=rows.length) (n':=rows'.length) ht hu hi hz hb hv gU (by omega) mQ IW sK
  rw[cP]
  have gH:=hI.eI
  have hle:=gH.mZ (L++L').length (L++L'++rest)
  refine⟨_,_,M.add w.drew.heap.size (L++L').length (L++L'++rest),_,_,rfl,hle,gH.BX _ _ e (by simp) _,?_,h _ _ _⟩
  obtain⟨wX,hj⟩:=Rows.join (M':=M.add w.drew.heap.size (L++L').length (L++L'++rest)) (b:=w.drew.heap.size) (off:=0) bg sO (hL.mono hle) (fZ.mono hle) (fun k v hk=>by
   have di:k<(L++L').length:=(ZE.1 hk).1
   have:M.add w.drew.heap.size (L++L').length (L++L'++rest) w.drew.heap.size (0+k)=(L++L'++rest)[k]? :=by unfold Mem.add;rw[ZV rfl,ZV (by omega),ZH]
   rw[this,YL di,hk])
  have fu:(L++L'++rest).length=mF * i.size:=by
   rw[Z4,Z4,jR,hlen,sI,AE,← YI,← YI];congr 1;omega
  have pz:(L++L').length=(rows++rows').length * i.size:=by
   rw[Z4,hlen,sI,Z4,YI]
  have:=R.qN (t:=d.getD 0) (u:=(L++L').length) (c:=(L++L'++rest).length) hj (cap:=mF) (by simpa using bV) cG (.inr ⟨by omega,by omega⟩) hp
  rw[Z4 (as:=rows)]at this
  exact this
 ·exact h.elim
end
end Go.Sx
