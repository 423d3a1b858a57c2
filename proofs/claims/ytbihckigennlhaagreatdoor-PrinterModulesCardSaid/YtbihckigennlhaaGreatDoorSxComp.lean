/-
  The layer Sx, third part: how operations are compiled, and that their conditions are sound.
-/
import Derived.Test.YtbihckigennlhaaGreatDoorSxCore
set_option linter.unusedVariables false
set_option linter.unusedSimpArgs false
set_option linter.unusedSectionVars false
namespace Go.Sx
open Go.RowKit
def gq(P:Program)[Glob P](t:TypeId):Option (Bool×Nat):=
 match P.underlying t,P.info? t with
 |some (.struct _),some i|some (.array _ _),some i=>some (true,i.size)
 |some _,some i=>some (false,i.size)
 |_,_=>none
def vY(P:Program)[Glob P](fs:List Field):List (Nat×Operand)→Option (List (Nat×Nat×Operand))
 |[]=>some []
 |(i,x)::l=>match fs[i]? with
  |some f=>match P.info? f.type with
   |some k=>(vY P fs l).map ((f.offset,k.size,x)::·)
   |none=>none
  |none=>none
def pz(P:Program)[Glob P](n:Nat):List Field→Option (List uz)
 |[]=>some []
 |f::fs=>if f.name≠ "_" ∧f.offset=n then
   match P.underlying f.type with
   |some (.int _)=>(pz P (n+1) fs).map (.int::·)
   |some .string=>(pz P (n+1) fs).map (.str::·)
   |some .bool=>(pz P (n+1) fs).map (.bool::·)
   |_=>none
  else none
def Ay(P:Program)[Glob P](neg:Bool)(t:TypeId)(x y:Operand):Option aw:=
 match P.underlying t with
 |some (.int _)|some .string=>some (.bin (if neg then .neq else .eql) x y)
 |some (.struct fs)=>if P.stoodInHeld t=false∧P.eqGuardType P.depth t=false then(pz P 0 fs.toList).map fun ks=> .eqs neg ks x y else none
 |some .bool=>some (.gZ neg .bool x y)
 |some (.slice _)=>some (.gZ neg .slice x y)
 |some (.map _ _)=>some (.gZ neg .map x y)
 |some (.func _ _ _)=>some (.gZ neg .func x y)
 |some (.pointer _)=>some (.gZ neg .ptr x y)
 |_=>none
def Ju(P:Program)[Glob P](c:Call):Option aw:=
 match c.callee with
 | .value (.func f)=>if gV P f then some (.call f c.args.toList)else none
 | .value f=>some (.dA f c.args.toList)
 | .builtin .len=>match c.args.toList,c.argTypes.toList with
  |[x],[t]=>match P.underlying t with
   |some .string=>some (.len true x)
   |some (.slice _)=>some (.len false x)
   |_=>none
  |_,_=>none
 | .builtin .append=>match c.args.toList,c.argTypes.toList with
  |[x,y],[t,u]=>match P.underlying t,P.underlying u with
   |some (.slice e),some (.slice _)=>match P.info? e with
    |some i=>match i.zero with
     |some z=>if 0<i.size∧0<i.bytes∧z.cells.size=i.size then some (.append e i.size i.bytes z.cells.toList x y)else none
     |none=>none
    |none=>none
   |some (.slice e),some .string=>match P.info? e with
    |some i=>match i.zero with
     |some z=>if 0<i.size∧0<i.bytes∧z.cells.size=i.size then some (.append e i.size i.bytes z.cells.toList x y)else none
     |none=>none
    |none=>none
   |_,_=>none
  |_,_=>none
 | .builtin .max=>match c.args.toList with
  |[x,y]=>some (.max2 x y)
  |_=>none
 | .builtin .min=>match c.args.toList with
  |[x,y]=>some (.min2 x y)
  |_=>none
 |_=>none
def AA(P:Program)[Glob P](o:Oper):Option aw:=
 match o.op with
 | .move x| .assign x=>some (.mv x)
 | .pick c a b=>some (.pick c a b)
 | .alloc e=>match P.info? e with
  |some i=>i.zero.map (.alloc e ·)
  |none=>none
 | .box e x=>some (.box e x)
 | .build t parts=>match P.underlying t,P.info? t with
  |some (.struct fs),some i=>if fs.toList.all (fun f=>(P.info? f.type).isSome)then
    match i.zero,vY P fs.toList parts.toList with
    |some z,some ps=>some (.build z.cells.toList ps)
    |_,_=>none
   else none
  |_,_=>none
 | .buildSlice t n parts=>match P.underlying t with
  |some (.slice e)=>match P.info? e with
   |some i=>match i.zero with
    |some z=>if parts.toList.map (·.1)=List.range n∧n * i.size≤16777216∧z.cells.size=i.size then some (.aZ e i.size (parts.toList.map (·.2)))else none
    |none=>none
   |none=>none
  |_=>none
 | .load t x=>(gq P t).map fun(g,n)=> .load g n x
 | .store t x v=>(gq P t).map fun(_,n)=> .store n x v
 | .nilCheck x=>some (.j6 x)
 | .binOp .eql t x y z=>match Ay P false t x y with
  |some i=>some i
  |none=>some (.cp (.binOp .eql t x y z) o.type (fW P o.op) [x,y])
 | .binOp .neq t x y z=>match Ay P true t x y with
  |some i=>some i
  |none=>some (.cp (.binOp .neq t x y z) o.type (fW P o.op) [x,y])
 | .binOp op _ x y _=>some (.bin op x y)
 | .unOp op _ x=>some (.un op x)
 | .convert src dst x=>match P.underlying src,P.underlying dst with
  |some (.int _),some (.int k)=>some (.ly k x)
  |some .string,some .string=>some (.oU x)
  |_,_=>some (.cp (.convert src dst x) o.type (fW P o.op) [x])
 | .makeInterface t x=>match P.underlying t with
  |some (.interface _)=>none
  |some _=>some (.lT t x)
  |none=>none
 | .makeFunc fn first captured=>some (.gi fn first.toList captured.toList)
 | .slice t x lo hi none=>match P.underlying t with
  |some (.slice e)=>match P.info? e with
   |some i=>some (.slice i.size x lo hi)
   |none=>none
  |_=>some (.cp (.slice t x lo hi none) o.type (fW P o.op) (x::(lo.toList++hi.toList)))
 | .fieldAddr t x i=>match P.underlying t with
  |some (.struct fs)=>match fs[i]? with
   |some f=>match P.info? f.type with
    |some k=>if k.size≠0 then some (.iS f.offset x)else none
    |none=>none
   |none=>none
  |_=>none
 | .field t x i=>match P.underlying t with
  |some (.struct fs)=>match fs[i]? with
   |some f=>(gq P f.type).map fun(g,n)=> .field g f.offset n x
   |none=>none
  |_=>none
 | .indexAddr t x i=>match P.underlying t with
  |some (.slice e)=>match P.info? e with
   |some k=>some (.eH k.size x i)
   |none=>none
  |some (.array n e)=>match P.info? e with
   |some k=>some (.iH n k.size x i)
   |none=>none
  |_=>none
 | .index t x i=>match P.underlying t with
  |some .string=>some (.idxs x i)
  |_=>some (.cp (.index t x i) o.type (fW P o.op) [x,i])
 | .makeMap t none=>some (.exts (.makeMap t none) o.type (fW P o.op) [])
 | .insert t m k x=>some (.exts (.insert t m k x) o.type (fW P o.op) [m,k,x])
 | .mapUpdate t m k x=>some (.exts (.mapUpdate t m k x) o.type (fW P o.op) [m,k,x])
 | .mapEntry t m k=>some (.exts (.mapEntry t m k) o.type (fW P o.op) [m,k])
 | .entryStore t m s x=>some (.exts (.entryStore t m s x) o.type (fW P o.op) [m,s,x])
 | .lookup t m k ok=>some (.cp (.lookup t m k ok) o.type (fW P o.op) [m,k])
 | .makeSlice t n c=>some (.exts (.makeSlice t n c) o.type (fW P o.op) [n,c])
 | .extract x i=>some (.extract x i)
 | .panic x=>some (.panic x)
 | .call c=>match Ju P c with
  |some i=>some i
  |none=>match c.callee with
   | .builtin _=>some (.exts (.call c) o.type (fW P o.op) c.args.toList)
   |_=>none
 |_=>none
def aE(P:Program)[Glob P](M:Mem)(w0:Base)(K:AV→Store→Prop)(r:Result Value):Prop:=
 ∃ v w' M' x σ',r= .ok v w'∧M.le M'∧Inv P M' w0 σ' w'∧R M' x v∧K x σ'
section
variable {P:Program}[Glob P]{M:Mem}{w0:Base}{w:World}{σ:Store}{K:AV→Store→Prop}{rg:ae}{a:Act}
theorem aE.same(hI:Inv P M w0 σ w){x:AV}{v:Value}(hr:R M x v)(hk:K x σ){r:Result Value}(e:r= .ok v w):aE P M w0 K r:=
 ⟨v,w,M,x,σ,e,Mem.le.refl _,hI,hr,hk⟩
theorem aY{t:TypeId}{d:TypeDesc}(h:P.underlying t=some d)(w:World):(underlying t).run P w= .ok d w:=run_underlying h w
theorem Gk{t:TypeId}{i:TypeInfo}(h:P.info? t=some i)(w:World):(typeInfo t).run P w= .ok i w:=by simp[typeInfo,h]
theorem ka{t:TypeId}{i:TypeInfo}(h:P.info? t=some i)(w:World):(sizeOf t).run P w= .ok i.size w:=by simp[sizeOf,Gk h]
theorem B0{t:TypeId}{i:TypeInfo}{z:Value}(h:P.info? t=some i)(hz:i.zero=some z)(w:World):(zeroValue t).run P w= .ok z w:=by simp[zeroValue,Gk h,hz]
theorem Df{t:TypeId}{g:Bool}{n:Nat}(h:gq P t=some (g,n))(w:World):(isAgg t).run P w= .ok g w∧(sizeOf t).run P w= .ok n w:=by
 unfold gq at h
 split at h
 ·rename_i fs i h1 h2
  obtain⟨rfl,rfl⟩:=h
  exact⟨by simp[isAgg,aY h1],ka h2 w⟩
 ·rename_i m e i h1 h2
  obtain⟨rfl,rfl⟩:=h
  exact⟨by simp[isAgg,aY h1],ka h2 w⟩
 ·rename_i d i h3 h4 h1 h2
  obtain⟨rfl,rfl⟩:=h
  refine⟨?_,ka h2 w⟩
  cases d<;>simp[isAgg,aY h1]<;>first|grind|grind
 grind
theorem Inv.cell{tg b:Nat}{l:List AV}(hI:Inv P M w0 σ w)(hb:aN σ tg=some (b,.cells l)){o:Nat}{y:AV}(hy:l[o]? =some y):
  ∃ v,w.cell? ⟨b,o,none⟩=some v∧R M y v:=by
 obtain⟨_,_,cs,t,hh,hl⟩:=hI.st _ (qW hb)
 obtain⟨v,hv,hr⟩:=hl.get hy
 exact⟨v,by simp[World.cell?,hh];grind,hr⟩
theorem Ot(b o n:Nat)(cs:List Value)(hn:cs.length=n)(h:∀ i (hi:i<cs.length),w.cell? ⟨b,o+i,none⟩=some cs[i]):(loadCells ⟨b,o,none⟩ n).run P w= .ok cs.toArray w:=by
 have:=run_loadCells_list (P:=P) (w:=w) ⟨b,o,none⟩ cs (fun j v hv=>by
  rw[Addr.add_lit];grind)
 grind
theorem B6{agg:Bool}{n b o:Nat}{t:TypeId}(ht:gq P t=some (agg,n))(xs:List AV)(hx:∀ i y,xs[i]? =some y→∃ v,w.cell? ⟨b,o+i,none⟩=some v∧R M y v)
  (h:if agg then n≤xs.length∧K (.agg (xs.take n)) σ else match xs[0]? with
    |some y=>K y σ
    |none=>False):∃ v x,(Instr.loadAt t (.pointer (some ⟨b,o,none⟩))).run P w= .ok v w∧R M x v∧K x σ:=by
 obtain⟨h1,h2⟩:=Df ht w
 simp only[Instr.loadAt,Instr.sureAddr,loadVar,Sem.run_bind,Sem.run_pure,Result.andThen_ok,h1]
 cases agg with
 |true=>
  obtain⟨hl,hk⟩:=h
  have:∃ cs:List Value,RL M (xs.take n) cs∧∀ i (hi:i<cs.length),w.cell? ⟨b,o+i,none⟩=some cs[i]:=by
   generalize vA:xs.take n=ys
   have hy:∀ i y,ys[i]? =some y→∃ v,w.cell? ⟨b,o+i,none⟩=some v∧R M y v:=fun i y e=>by
    grind
   clear vA hx hl hk
   induction ys generalizing o with
   |nil=>exact⟨[],RL.nil,fun i hi=>absurd hi (by simp)⟩
   |cons y ys ih=>
    obtain⟨v,hv,hr⟩:=hy 0 y rfl
    obtain⟨cs,hc,ku⟩:=ih (o:=o+1) (fun i z e=>by have:=hy (i+1) z (by grind);grind)
    refine⟨v::cs,RL.cons hr hc,fun i hi=> ?_⟩
    grind
  obtain⟨cs,hc,ku⟩:=this
  have hlen:cs.length=n:=by rw[← hc.1];grind
  simp only[Y7,Sem.run_bind,h2,Result.andThen_ok,Ot b o n cs hlen ku,Sem.run_pure]
  exact⟨_,_,rfl,R.tA hc,hk⟩
 |false=>
  simp only[ZS,Zt]at h ⊢
  cases yu:xs[0]? with
  |none=>grind
  |some y=>
   simp only[yu]at h
   obtain⟨v,hv,hr⟩:=hx 0 y yu
   simp only[YN]at hv
   simp only[run_load,hv]
   grind
theorem axH{agg:Bool}{n:Nat}{x:Operand}{t:TypeId}{cfg:Nat→Nat}{d:Option Nat}{E:List PanicEntry→Store→Prop}(ht:gq P t=some (agg,n))(hI:Inv P M w0 σ w)(hR:bE M rg a)
  (h:aj P cfg d rg σ K E (.load agg n x)):aE P M w0 K ((Instr.loadAt t (a.eval x)).run P w):=by
 have hx:=hR.ev x
 simp only[aj]at h
 split at h
 ·rename_i tg b o he
  rw[he]at hx
  rw[hx.mQ]
  split at h
  ·rename_i b' l hb
   obtain⟨rfl,h⟩:=h
   suffices hs:∃ v x,(Instr.loadAt t (.pointer (some ⟨b,o,none⟩))).run P w= .ok v w∧R M x v∧K x σ by
    obtain⟨v,x,h1,h2,h3⟩:=hs;exact aE.same hI h2 h3 h1
   refine B6 ht (l.drop o) (fun i y e=> ?_) ?_
   ·rw[Ys]at e
    exact hI.cell hb e
   grind
  grind
 ·rename_i l he
  rw[he]at hx
  obtain⟨b,off,cs,hv,hM,Ed⟩:=hx.ot
  rw[hv]
  suffices hs:∃ v x,(Instr.loadAt t (.pointer (some ⟨b,off,none⟩))).run P w= .ok v w∧R M x v∧K x σ by
   obtain⟨v,x,h1,h2,h3⟩:=hs;exact aE.same hI h2 h3 h1
  refine B6 ht l (fun i y e=> ?_) h
  obtain⟨hi,rfl⟩:=ZN.1 e
  exact⟨cs i,hI.dB _ _ _ (hM i hi),Ed i hi⟩
 ·rename_i g he
  rw[he]at hx
  rw[hx.az]
  split at h
  ·rename_i l hl
   obtain⟨b,off,cs,hv,hM,Ed⟩:=(hI.gl g l hl).ot
   cases hv
   suffices hs:∃ v x,(Instr.loadAt t (.pointer (some ⟨g,0,none⟩))).run P w= .ok v w∧R M x v∧K x σ by
    obtain⟨v,x,h1,h2,h3⟩:=hs;exact aE.same hI h2 h3 h1
   refine B6 ht l (fun i y e=> ?_) h
   obtain⟨hi,rfl⟩:=ZN.1 e
   exact⟨cs i,hI.dB _ _ _ (hM i hi),Ed i hi⟩
  grind
 grind
theorem Gl(b o:Nat)(t:TypeId):∀ (vs:List Value) (cs:Array Value) (i:Nat) (w:World),w.heap[b]? =some (.cells cs t (0,0))→o+i+vs.length≤cs.size→vs.all Value.oneCell'=true→
  ∃ w',(storeCells ⟨b,o,none⟩ vs i).run P w= .ok () w'∧w'.heap[b]? =some (.cells (over cs.toList (o+i) vs).toArray t (0,0))∧(∀ k,k≠b→w'.heap[k]? =w.heap[k]?)∧w'.os=w.os∧w'.tape=w.tape∧w'.output=w.output∧w'.heap.size=w.heap.size
 |[],cs,i,w,hh,_,_=>⟨w,rfl,by simpa[over]using hh,fun _ _=>rfl,rfl,rfl,rfl,rfl⟩
 |v::vs,cs,i,w,hh,hl,h1=>by
  simp only[Z9]at hl
  simp only[List.all_cons,Z0]at h1
  have aH:o+i<cs.size:=by omega
  have hc:w.cell? ⟨b,o+i,none⟩=some (cs[o+i]):=by simp[World.cell?,hh,aH]
  have hf:w.frozen? ⟨b,o+i,none⟩=false:=by simp[World.frozen?,hh]
  have hs:(store (Addr.add ⟨b,o,none⟩ i) v).run P w= .ok () (w.setCell ⟨b,o+i,none⟩ v):=by
   rw[Addr.add_lit,run_store _ _ _ _ _ h1.1,hc]
   grind
  have hh1:(w.setCell ⟨b,o+i,none⟩ v).heap[b]? =some (.cells (cs.setIfInBounds (o+i) v) t (0,0)):=by
   simp[World.setCell,Yq,hh]
  obtain⟨w',hr,hw',hk,e1,e2,e3,e4⟩:=Gl b o t vs (cs.setIfInBounds (o+i) v) (i+1) _ hh1 (by grind) h1.2
  refine⟨w',?_,?_,fun k Lk=> ?_,e1,e2,e3,e4.trans (by simp)⟩
  ·simp only[storeCells,Sem.run_bind,hs,Result.andThen_ok]
   grind
  ·rw[hw']
   congr 2
   apply YP
   simp only[over,Array.toList_setIfInBounds]
   have:(cs.toList.set (o+i) v).take (o+(i+1))=cs.toList.take (o+i)++[v]:=by
    rw[show o+(i+1)=o+i+1 from rfl,Zv (by grind),List.take_set_of_le (ZI _)]
    simp
   rw[this,List.drop_set_of_lt (by omega)]
   grind
  ·rw[hk k Lk]
   simp only[World.setCell,Yq]
   grind
theorem Inv.zM{P:Program}[Glob P]{M:Mem}{w0:Base}{w w':World}{σ:Store}(hI:Inv P M w0 σ w){tg b:Nat}{x y:bN}(hb:aN σ tg=some (b,x))(hk:∀ k,k≠b→w'.heap[k]? =w.heap[k]?)(e1:w'.os=w.os)(e2:w'.tape=w.tape)(e3:w'.output=w.output)
  (e4:w'.heap.size=w.heap.size) (hM:∀ o,M b o=none) (hy:BlkOK M w' b y):Inv P M w0 (ct σ tg b y) w':=by
 have hold:w0.heap.size≤b:=(hI.st _ (qW hb)).1
 obtain⟨pre,post,h1,h2⟩:=rH hb
 have hnd:=hI.nd
 rw[h1]at hnd
 simp at hnd
 refine⟨e1.trans hI.os,e2.trans hI.tape,e3.trans hI.output,by rw[e4];exact hI.size,fun k bY=> ?_,fun b' o v hv=> ?_,fun e he=> ?_,?_,hI.gl,hI.gw,hI.bm⟩
 ·rw[hk k (by omega)];exact hI.old k bY
 ·have aQ:b'≠b:=fun e=>by grind
  have:=hI.dB b' o v hv
  rw[← this]
  simp only[World.cell?,hk b' aQ]
 ·have fg:e=(tg,b,y)∨(e∈σ∧e.2.1≠b):=by
   grind
  rcases fg with rfl|⟨he,aQ⟩
  ·grind
  ·exact⟨(hI.st e he).1,(hI.st e he).2.heap (hk _ aQ)⟩
 grind
theorem RL.IH{xs:List AV}{cs:List Value}(h:RL M xs cs)(ha:xs.all AV.one=true):cs.all Value.oneCell'=true:=by
 rw[ZF]at *
 intro v hv
 obtain⟨i,hi,rfl⟩:=Zd.1 hv
 have h1:i<xs.length:=h.1 ▸ hi
 exact(h.2 i h1 hi).one (ha _ (Y0 h1))
theorem axN{n:Nat}{x y:Operand}{t:TypeId}{g:Bool}{cfg:Nat→Nat}{d:Option Nat}{E:List PanicEntry→Store→Prop}(ht:gq P t=some (g,n))(hI:Inv P M w0 σ w)(hR:bE M rg a)
  (h:aj P cfg d rg σ K E (.store n x y)):∃ w' σ',(Instr.storeAt t (a.eval x) (a.eval y)).run P w= .ok () w'∧Inv P M w0 σ' w'∧K (.v undef) σ':=by
 have hx:=hR.ev x
 have hy:=hR.ev y
 simp only[aj]at h
 split at h
 ·rename_i tg b o l' he gd
  rw[he]at hx
  rw[hx.mQ]
  split at h
  ·rename_i b' l hb
   obtain⟨rfl,hn,ho,aH,hk⟩:=h
   have hc:=hy.cells gd
   obtain⟨_,hM,cs,t',hh,hl⟩:=hI.st _ (qW hb)
   have e1:(a.eval y).cells.size=l'.length:=by rw[hc.1,YH]
   obtain⟨w',hr,hw',bY,a1,a2,a3,a4⟩:=Gl (P:=P) b o t' (a.eval y).cells.toList cs 0 w hh (by have:=hl.1;grind) (hc.IH ho)
   refine⟨w',_,?_,hI.zM (y:= .cells (over l o l')) hb bY a1 a2 a3 a4 hM ⟨hM,_,t',hw',?_⟩,hk⟩
   ·simp only[Instr.storeAt,Instr.sureAddr,Sem.run_bind,Sem.run_pure,Result.andThen_ok,storeVar,(Df ht w).2,e1,hn]
    grind
   ·simpa using hl.over hc o
  grind
 grind
end
theorem mu{α:Type}{ag:Nat}:∀ (rows:List (List α)),(∀ i (h:i<rows.length),rows[i].length=ag)→rows.flatten.length=rows.length * ag
 |[],_=>by simp
 |r::rows,h=>by
  have h0:=h 0 (by simp)
  have:=mu rows (fun i hi=>h (i+1) (by grind))
  grind
theorem DS{α:Type}{ag:Nat}:∀ (rows:List (List α)),(∀ i (h:i<rows.length),rows[i].length=ag)→∀ i j,j<ag→(hi:i<rows.length)→rows.flatten[i * ag+j]? =rows[i][j]?
 |[],_,i,j,_,hi=>absurd hi (by simp)
 |r::rows,h,i,j,hj,hi=>by
  have h0:=h 0 (by simp)
  cases i with
  |zero=>grind
  |succ i=>
   have:=DS rows (fun i hi=>h (i+1) (by grind)) i j hj (by grind)
   grind
theorem Rows.of_flat{M:Mem}{b off ag:Nat}{rows:List (List AV)}{L:List Value}(hs:∀ i (h:i<rows.length),rows[i].length=ag)(hL:RL M rows.flatten L)(hM:∀ k v,L[k]? =some v→M b (off+k)=some v):
  Rows M b off ag rows (fun k=>L.getD k undef):=by
 have hlen:=mu rows hs
 refine⟨hs,fun k hk=> ?_,fun i hi j hj=> ?_⟩
 ·have bY:k<L.length:=by rw[← hL.1,hlen];grind
  grind
 ·have ef:j<ag:=hs i hi ▸ hj
  have hg:=DS rows hs i j ef hi
  rw[Z6 hj]at hg
  obtain⟨v,hv,hr⟩:=hL.get hg
  grind
theorem Rows.flat{M:Mem}{b off ag:Nat}{rows:List (List AV)}{cs:Nat→Value}(h:Rows M b off ag rows cs):RL M rows.flatten ((List.range (rows.length * ag)).map cs):=by
 have hlen:=mu rows h.size
 refine⟨by grind,fun k h1 h2=> ?_⟩
 have he:0<ag:=by
  grind
 have hi:k / ag<rows.length:=Nat.div_lt_of_lt_mul (by grind)
 have hj:k % ag<ag:=Nat.mod_lt _ he
 have hk:k / ag * ag+k % ag=k:=by rw[YC];exact Nat.div_add_mod k ag
 have hg:=DS rows h.size (k / ag) (k % ag) hj hi
 have ef:k % ag<rows[k / ag].length:=by grind
 have:=h.rel (k / ag) hi (k % ag) ef
 grind
def Mem.add(M:Mem)(B u:Nat)(cs:List Value):Mem:=fun b o=>if b=B then(if o<u then cs[o]? else none)else M b o
section
variable {P:Program}[Glob P]{M:Mem}{w0:Base}{w:World}{σ:Store}{K:AV→Store→Prop}{rg:ae}{a:Act}
theorem Inv.lO(hI:Inv P M w0 σ w)(u:Nat)(cs:List Value):M.le (M.add w.heap.size u cs):=fun b o v h=>by
 have aQ:b≠w.heap.size:=fun e=>by rw[e,hI.DV]at h;grind
 simp[Mem.add,aQ,h]
theorem Inv.Dd(hI:Inv P M w0 σ w)(u:Nat)(cs:List Value)(t:TypeId):Inv P (M.add w.heap.size u cs) w0 σ (w.alloc (.cells cs.toArray t)):=by
 have h':=hI.alloc (.cells cs.toArray t)
 refine⟨h'.os,h'.tape,h'.output,h'.size,h'.old,fun b o v hv=> ?_,fun e he=>⟨(h'.st e he).1,?_⟩,h'.nd,fun g l e=>(hI.gl g l e).mono (hI.lO u cs),hI.gw,fun b o v hv aH=>hI.bm b o v (by simp only[Mem.add]at hv;rwa [if_neg (by have:=hI.size;omega)]at hv) aH⟩
 ·simp only[Mem.add]at hv
  split at hv
  ·simp_all
  ·exact h'.dB b o v hv
 ·obtain⟨tg,b,x⟩:=e
  have hk:=(h'.st _ he).2
  have aQ:b≠w.heap.size:=by have:=hI.BA he;grind
  have hle:=hI.lO u cs
  cases x with
  |cells l=>obtain⟨h1,cs',t',h2,h3⟩:=hk;exact⟨fun o=>by simp[Mem.add,aQ,h1 o],cs',t',h2,h3.mono hle⟩
  |tail u' c=>obtain⟨h1,cs',t',h2,h3⟩:=hk;exact⟨fun o ho=>by simp[Mem.add,aQ,h1 o ho],cs',t',h2,h3⟩
  |map es k=>obtain⟨h1,l,h2,h3,h4⟩:=hk;exact⟨fun o=>by simp[Mem.add,aQ,h1 o],l,h2,h3,h4.mono hle⟩
theorem Inv.Ak(hI:Inv P M w0 σ w)(u:Nat)(cs:List Value)(t:TypeId)(hu:u≤cs.length)(tg:Nat):Inv P (M.add w.heap.size u cs) w0 ((tg,w.heap.size,.tail u cs.length)::σ) (w.alloc (.cells cs.toArray t)):=by
 have h':=hI.Dd u cs t
 refine⟨h'.os,h'.tape,h'.output,h'.size,h'.old,h'.dB,fun e he=> ?_,?_,h'.gl,h'.gw,h'.bm⟩
 ·rcases ZV.1 he with rfl|he
  ·exact⟨hI.size,fun o ho=>by simp[Mem.add];omega,cs.toArray,t,heap_alloc_new _ _,by simp,hu⟩
  ·exact h'.st e he
 ·simp only[ZH,YF]
  exact⟨hI.fresh,hI.nd⟩
theorem axv{cfg:Nat→Nat}{d:Option Nat}{E:List PanicEntry→Store→Prop}{x:Operand}{t:TypeId}(hI:Inv P M w0 σ w)(hR:bE M rg a)(h:aj P cfg d rg σ K E (.box t x)):
  aE P M w0 K ((Instr.box t (a.eval x)).run P w):=by
 simp only[aj]at h
 split at h
 ·rename_i l hl
  have hc:=(hR.ev x).cells hl
  refine⟨_,_,M,_,_,?_,Mem.le.refl _,hI.box t hc _,.lp _ _ _,h w.heap.size⟩
  simp[Instr.box,newVar,newRow]
 grind
theorem axu{cfg:Nat→Nat}{d:Option Nat}{E:List PanicEntry→Store→Prop}{t:TypeId}{i:TypeInfo}{z:Value}(hi:P.info? t=some i)(hz:i.zero=some z)(hI:Inv P M w0 σ w)
  (h:aj P cfg d rg σ K E (.alloc t z)):aE P M w0 K ((Instr.alloc t true (.tuple #[])).run P w):=by
 refine⟨_,_,M,_,_,?_,Mem.le.refl _,hI.box t (RL.exact z.cells.toList) _,.lp _ _ _,h w.heap.size⟩
 simp[Instr.alloc,B0 hi hz,newVar,newRow]
theorem fw(hR:bE M rg a):∀ (l:List Operand),RL M (aU rg l) (l.map a.eval)
 |[]=>RL.nil
 |x::l=>RL.cons (hR.ev x) (fw hR l)
theorem DU(off:Nat):∀ (l:List Value) (j:Nat) (cs:Array Value),off+j+l.length≤cs.size→
  (l.zipIdx j).foldl (fun cs (c,j)=>cs.setIfInBounds (off+j) c) cs=(over cs.toList (off+j) l).toArray
 |[],j,cs,_=>by simp[over]
 |c::l,j,cs,h=>by
  simp
  rw[DU off l (j+1) _ (by grind)]
  apply YP
  simp only[over,Array.toList_setIfInBounds]
  have:(cs.toList.set (off+j) c).take (off+(j+1))=cs.toList.take (off+j)++[c]:=by
   rw[show off+(j+1)=off+j+1 from rfl,Zv (by grind),List.take_set_of_le (ZI _)]
   simp
  rw[this,List.drop_set_of_lt (by omega)]
  grind
inductive PM(place:Nat→Option (Nat×Nat)):List (Nat×Operand)→List (Nat×Nat×Operand)→Prop
 |nil:PM place [] []
 |cons (i off n:Nat) (x:Operand) (l:List (Nat×Operand)) (ps:List (Nat×Nat×Operand)) (h:place i=some (off,n)) (t:PM place l ps):PM place ((i,x)::l) ((off,n,x)::ps)
theorem OE(hR:bE M rg a)(place:Nat→Option (Nat×Nat)):∀ (parts:List (Nat×Operand)) (ps:List (Nat×Nat×Operand)) (cs:Array Value) (l l':List AV),RL M l cs.toList→
  PM place parts ps→uX l (oY rg ps)=some l'→
  ∃ cs':Array Value,Instr.fill place cs (parts.map fun(i,x)=>(i,a.eval x))=some cs'∧RL M l' cs'.toList
 |[],ps,cs,l,l',hl,hp,hf=>by
  cases hp
  simp only[oY,uX,Z5]at hf
  subst hf
  exact⟨cs,rfl,hl⟩
 |(i,x)::parts,ps,cs,l,l',hl,hp,hf=>by
  cases hp with
  |cons _ off n _ _ bg qJ h2=>
   simp only[oY,uX]at hf
   split at hf
   ·rename_i lx hlx
    split at hf
    ·rename_i hc
     have hx:=(hR.ev x).cells hlx
     have e1:(a.eval x).cells.size=n:=by rw[← hc.1,hx.1,YH]
     have e2:cs.size=l.length:=by rw[hl.1,YH]
     have hov:=DU off (a.eval x).cells.toList 0 cs (by grind)
     obtain⟨cs',h3,h4⟩:=OE hR place parts bg (over cs.toList off (a.eval x).cells.toList).toArray (over l off lx) l' (by simpa using hl.over hx off) h2 hf
     simp only[ZH,Instr.fill,qJ]
     rw[← Array.foldl_toList,Array.toList_zipIdx]
     grind
    grind
   grind
theorem NP(fs:List Field)(place:Nat→Option (Nat×Nat))(hp:∀ i f k,fs[i]? =some f→P.info? f.type=some k→place i=some (f.offset,k.size)):
  ∀ (l:List (Nat×Operand)) (ps:List (Nat×Nat×Operand)),vY P fs l=some ps→PM place l ps
 |[],ps,h=>by simp[vY]at h;subst h;exact .nil
 |(i,x)::l,ps,h=>by
  simp only[vY]at h
  split at h
  ·rename_i f hf
   split at h
   ·rename_i k hk
    rw[ZR]at h
    obtain⟨bg,h1,rfl⟩:=h
    exact .cons _ _ _ _ _ _ (hp i f k hf hk) (NP fs place hp l bg h1)
   grind
  grind
theorem run_places(w:World):∀ (fs:List Field),fs.all (fun f=>(P.info? f.type).isSome)=true→
  ∃ pl:List (Nat×Nat),(fs.mapM (fun f:Field=>do pure (f.offset,← sizeOf f.type)):Sem (List (Nat×Nat))).run P w= .ok pl w∧∀ (i:Nat) (f:Field) (k:TypeInfo),fs[i]? =some f→P.info? f.type=some k→pl[i]? =some (f.offset,k.size)
 |[],_=>⟨[],rfl,fun i f k h=>by grind⟩
 |f::fs,h=>by
  simp only[List.all_cons,Z0]at h
  obtain⟨k0,o7⟩:=Ym.1 h.1
  obtain⟨pl,h1,h2⟩:=run_places w fs h.2
  refine⟨(f.offset,k0.size)::pl,?_,fun i g k hg hk=> ?_⟩
  ·simp only[List.mapM_cons,Sem.run_bind,ka o7,Result.andThen_ok,Sem.run_pure,h1]
  grind
theorem axw{cfg:Nat→Nat}{d:Option Nat}{E:List PanicEntry→Store→Prop}{t:TypeId}{i:TypeInfo}{z:Value}{fs:Array Field}{parts:Array (Nat×Operand)}{ps:List (Nat×Nat×Operand)}
  (ht:P.underlying t=some (.struct fs)) (hi:P.info? t=some i) (hz:i.zero=some z) (aJb:fs.toList.all (fun f=>(P.info? f.type).isSome)=true) (al:vY P fs.toList parts.toList=some ps)
  (hI:Inv P M w0 σ w) (hR:bE M rg a) (h:aj P cfg d rg σ K E (.build z.cells.toList ps)):aE P M w0 K ((Instr.build t (parts.map fun(i,x)=>(i,a.eval x))).run P w):=by
 simp only[aj]at h
 split at h
 ·rename_i l hl
  obtain⟨pl,h1,h2⟩:=run_places (P:=P) w fs.toList aJb
  obtain⟨cs',h3,h4⟩:=OE hR (fun i:Nat=>pl[i]?) parts.toList ps z.cells (z.cells.toList.map .v) l (RL.exact _) (NP fs.toList _ h2 _ _ al) hl
  refine aE.same hI (v:= .agg cs') ?_ h ?_
  ·have:=R.tA h4;simp_all
  ·have WY:(fs.mapM (fun f:Field=>do pure (f.offset,← sizeOf f.type)):Sem (Array (Nat×Nat))).run P w= .ok pl.toArray w:=by
    rw[Array.mapM_eq_mapM_toList,Sem.run_map,h1]
    rfl
   simp only[Instr.build,Sem.run_bind,B0 hi hz,Result.andThen_ok,aY ht,WY,Array.toList_map]
   simp_all
 grind
theorem Om{ag:Nat}:∀ (xs:List AV) (rows:List (List AV)) (vs:List Value),rowsOf ag xs=some rows→RL M xs vs→RL M rows.flatten (vs.flatMap fun v=>v.cells.toList)∧rows.length=xs.length∧
  (∀ i (h:i<rows.length),rows[i].length=ag)∧∀ v∈vs,v.cells.size=ag
 |[],rows,vs,h,k=>by
  simp[rowsOf]at h;obtain rfl:=k.ub
  grind
 |x::xs,rows,vs,h,k=>by
  obtain⟨v,iu,rfl,hx,fa⟩:=k.cN
  simp only[rowsOf]at h
  split at h
  ·rename_i r hr
   split at h
   ·rename_i he
    rw[ZR]at h
    obtain⟨rows',h1,rfl⟩:=h
    obtain⟨a1,a2,a3,a4⟩:=Om xs rows' iu h1 fa
    have hc:=hx.cells hr
    refine⟨by simpa using RL.append hc a1,by simp[a2],fun i hi=> ?_,fun u hu=> ?_⟩
    ·grind
    ·rcases ZV.1 hu with rfl|hu
     ·rw[← he,hc.1,YH]
     grind
   grind
  grind
theorem Ko(ag:Nat):∀ (vs:List Value) (k:Nat) (cs:Array Value),(∀ v∈vs,v.cells.size=ag)→k * ag+vs.length * ag≤cs.size→
  Instr.fill (fun i=>some (i * ag,ag)) cs ((List.range' k vs.length).zip vs)=some (over cs.toList (k * ag) (vs.flatMap fun v=>v.cells.toList)).toArray
 |[],k,cs,_,_=>by simp[Instr.fill,over]
 |v::vs,k,cs,h,hl=>by
  have hv:=h v (by simp)
  simp only[Z9,Yx]at hl
  simp only[Z9,List.range'_succ,List.zip_cons_cons,Instr.fill]
  rw[← Array.foldl_toList,Array.toList_zipIdx,DU (k * ag) v.cells.toList 0 cs (by grind)]
  simp only[YN]
  rw[Ko ag vs (k+1) _ (fun u hu=>h u (by simp[hu])) (by simp[over,hv];grind)]
  simp only[over,List.flatMap_cons,Z7,YH,hv,Yx]
  rw[YQ (by simp;omega)]
  have e1:(cs.toList.take (k * ag)++v.cells.toList).length=k * ag+ag:=by simp[hv];omega
  rw[ZC (by omega),List.drop_append,Yc (by omega),e1]
  simp only[Ze,ZA,YK]
  grind
end
section
variable {P:Program}[Glob P]{M:Mem}{w0:Base}{w:World}{σ:Store}{K:AV→Store→Prop}{rg:ae}{a:Act}{cfg:Nat→Nat}{d:Option Nat}{E:List PanicEntry→Store→Prop}
theorem acJ(M:Mem)(B:Nat)(L:List Value)(k:Nat)(v:Value)(h:L[k]? =some v):M.add B L.length L B (0+k)=some v:=by
 have:k<L.length:=(ZN.1 h).1
 simp[Mem.add,this]
 obtain⟨_,rfl⟩:=ZN.1 h
 simp
theorem axK{t e:TypeId}{n:Nat}{i:TypeInfo}{z:Value}{parts:Array (Nat×Operand)}(ht:P.underlying t=some (.slice e))(hi:P.info? e=some i)(hz:i.zero=some z)(hp:parts.toList.map (·.1)=List.range n)
  (hn:n * i.size≤16777216) (hI:Inv P M w0 σ w) (hR:bE M rg a) (h:aj P cfg d rg σ K E (.aZ e i.size (parts.toList.map (·.2)))):
  aE P M w0 K ((Instr.buildSlice t n (parts.map fun(i,x)=>(i,a.eval x))).run P w):=by
 simp only[aj]at h
 split at h
 ·rename_i rows aaC
  obtain⟨nH,h⟩:=h
  obtain⟨hL,hlen,hsz,sR⟩:=Om _ rows _ aaC (fw hR (parts.toList.map (·.2)))
  generalize nY:((parts.toList.map (·.2)).map a.eval)=vs at hL sR
  have E8:vs.length=n:=by
   rw[← nY]
   have:=congrArg List.length hp
   simpa using this
  have jD:rows.length=n:=by rw[hlen,← E8,← nY];simp[fw hR _ |>.1]
  have La:=mu rows hsz
  generalize Xe:(vs.flatMap fun v=>v.cells.toList)=L at hL
  have KQ:L.length=n * i.size:=by rw[← hL.1,La,jD]
  have aaO:(parts.map fun x=>(x.1,a.eval x.2)).toList=(List.range' 0 vs.length).zip vs:=by
   rw[E8,← X5,← hp,← nY]
   simp only[Array.toList_map]
   induction parts.toList with
   |nil=>rfl
   |cons p ps ih=>obtain⟨j,x⟩:=p;simp[ih]
  have fO:(Instr.buildSlice t n (parts.map fun(i,x)=>(i,a.eval x))).run P w= .ok (.slice (some ⟨w.heap.size,0,none⟩) n n) (w.alloc (.cells L.toArray e)):=by
   have key:∀ zs:Array Value,Sem.run P (match Instr.fill (fun j=>some (j * i.size,i.size)) (Array.map (fun x=>zs[x % zs.size]!) (Array.range (n * i.size))) (parts.map fun x=>(x.1,a.eval x.2)).toList with
     |some cells=>do
      let b ← newRow e cells
      pure (Value.slice (some b) n n)
     |_=>stuck "buildSlice: a part of the wrong size") w=Result.ok (Value.slice (some ⟨w.heap.size,0,none⟩) n n) (w.alloc (.cells L.toArray e)):=by
    intro zs
    rw[aaO,Ko i.size vs 0 _ sR (by simp[E8])]
    simp only[Sem.run_bind,newRow,run_newObj,Result.andThen_ok,Sem.run_pure]
    congr 4
    simp only[over,Nat.zero_mul,List.take_zero,Ze,Xe]
    rw[Yc (by simp[KQ]),Zn]
   simp only[Instr.buildSlice,Sem.run_bind,aY ht,Result.andThen_ok,ka hi,Sem.run_ite]
   rw[if_neg (by omega)]
   by_cases hc:n * i.size=0
   ·rw[if_pos hc]
    exact key #[]
   ·rw[if_neg hc]
    simp only[B0 hi hz,Result.andThen_ok,Sem.run_pure]
    exact key _
  rw[fO]
  have EZ:Rows (M.add w.heap.size L.length L) w.heap.size 0 i.size rows (fun k=>L.getD k undef):=Rows.of_flat hsz (hL.mono (hI.lO _ _)) (acJ M w.heap.size L)
  have nQ:n≤maxLen:=by unfold maxLen;omega
  split at h
  ·refine⟨_,_,_,_,σ,rfl,hI.lO L.length L,hI.Dd _ L e,?_,h⟩
   have:=R.lS EZ (Nat.le_of_eq jD) nQ true
   rw[jD]at this
   exact this
  ·obtain⟨nW,h⟩:=h
   have e1:rows.length * i.size=L.length:=by rw[jD,KQ]
   rw[e1]at h
   refine⟨_,_,_,_,_,rfl,hI.lO L.length L,hI.Ak _ L e (ZI _) _,?_,h w.heap.size⟩
   have:=R.pC (t:=d.getD 0) (u:=L.length) (c:=L.length) EZ (Nat.le_of_eq jD) nQ (.inr ⟨by omega,by omega⟩) nW
   rw[jD]at this
   exact this
  ·refine⟨_,_,_,_,σ,rfl,hI.lO L.length L,hI.Dd _ L e,?_,h⟩
   have:=R.acL EZ (by rw[jD];exact nQ)
   rw[jD]at this
   exact this
  ·refine⟨_,_,M,_,_,rfl,Mem.le.refl _,hI.box e hL _,?_,h w.heap.size⟩
   rw[jD]
   exact .ms _ _ _ _ _
 ·exact h.elim
theorem TT(op:BinOp)(t:TypeId)(k k':IntKind)(x y:Int):binOp op t (.int k x) (.int k' y)=
  match op with
  | .shl| .shr=>Op.shift op k x k' y
  | .add| .sub| .mul=>if k≠k' then stuck "BinOp: operands of different kinds" else Op.intArith op k x y
  | .quo| .rem=>if k≠k' then stuck "BinOp: operands of different kinds" else Op.intDiv op k x y
  | .and| .or| .xor| .andNot=>if k≠k' then stuck "BinOp: operands of different kinds" else Op.intBits op k x y
  |_=>if k≠k' then stuck "BinOp: operands of different kinds" else Op.intCmp op x y:=by
 cases op<;>rfl
theorem xq(x y:ByteArray):(x.toList == y.toList)=decide (x=y):=by
 rw[ByteArray.toList_eq,ByteArray.toList_eq]
 obtain⟨⟨x⟩⟩:=x
 obtain⟨⟨y⟩⟩:=y
 rw[YD]
 simp
theorem Gn{op:BinOp}{t:TypeId}{x y:Operand}(hI:Inv P M w0 σ w)(hR:bE M rg a)
  (h:aj P cfg d rg σ K E (.bin op x y)):aE P M w0 K ((do eqGuard op t x y (a.eval x) (a.eval y);binOp op t (a.eval x) (a.eval y):Sem Value).run P w):=by
 have hx:=hR.ev x
 have hy:=hR.ev y
 simp only[aj]at h
 split at h
 ·rename_i u v hu hv
  rw[hu]at hx
  rw[hv]at hy
  rw[hx.az,hy.az]
  unfold mW at h
  split at h
  ·rename_i k p k' q
   rw[eqGuard_at_int,TT]
   simp only[Sem.run_bind,Sem.run_pure,Result.andThen_ok]
   cases op<;>simp only at h ⊢
   case add=>obtain⟨rfl,h⟩:=h;exact aE.same hI (.v _) h (by simp[Op.intArith])
   case sub=>obtain⟨rfl,h⟩:=h;exact aE.same hI (.v _) h (by simp[Op.intArith])
   case mul=>obtain⟨rfl,h⟩:=h;exact aE.same hI (.v _) h (by simp[Op.intArith])
   case quo=>obtain⟨rfl,h0,h⟩:=h;exact aE.same hI (.v _) h (by simp[Op.intDiv,h0])
   case rem=>obtain⟨rfl,h0,h⟩:=h;exact aE.same hI (.v _) h (by simp[Op.intDiv,h0])
   case and=>obtain⟨rfl,h⟩:=h;exact aE.same hI (.v _) h (by simp[intBits_and])
   case or=>obtain⟨rfl,h⟩:=h;exact aE.same hI (.v _) h (by simp[intBits_or])
   case xor=>obtain⟨rfl,h⟩:=h;exact aE.same hI (.v _) h (by simp[intBits_xor])
   case andNot=>obtain⟨rfl,h⟩:=h;exact aE.same hI (.v _) h (by simp[intBits_andNot])
   case shl=>obtain⟨h0,h1,h⟩:=h;exact aE.same hI (.v _) h (by rw[shift_shl _ _ _ _ h0 h1];rfl)
   case shr=>obtain⟨h0,h1,h⟩:=h;exact aE.same hI (.v _) h (by rw[shift_shr _ _ _ _ h0 h1];rfl)
   case eql=>obtain⟨rfl,h⟩:=h;exact aE.same hI (.v _) h (by simp[Op.intCmp];rfl)
   case neq=>obtain⟨rfl,h⟩:=h;exact aE.same hI (.v _) h (by simp[Op.intCmp,bne];rfl)
   case lss=>obtain⟨rfl,h⟩:=h;exact aE.same hI (.v _) h (by simp[Op.intCmp])
   case leq=>obtain⟨rfl,h⟩:=h;exact aE.same hI (.v _) h (by simp[Op.intCmp])
   case gtr=>obtain⟨rfl,h⟩:=h;exact aE.same hI (.v _) h (by simp[Op.intCmp])
   case geq=>obtain⟨rfl,h⟩:=h;exact aE.same hI (.v _) h (by simp[Op.intCmp])
  ·rename_i p q
   rw[eqGuard_at_string]
   simp only[Sem.run_bind,Sem.run_pure,Result.andThen_ok]
   have hb:∀ op,op≠.shl→op≠.shr→binOp op t (.string p) (.string q)=Op.stringOp op p q:=by intro op h1 h2;cases op<;>first|rfl|exact(h1 rfl).elim|exact(h2 rfl).elim
   cases op<;>simp only at h ⊢
   case add=>
    obtain⟨hs,h⟩:=h
    refine aE.same hI (.v _) h ?_
    rw[hb _ (by simp) (by simp)]
    simp only[Op.stringOp,IntKind.max_i64,Sem.run_ite]
    rw[if_neg (by omega)]
    rfl
   case eql=>exact aE.same hI (.v _) h (by rw[hb _ (by simp) (by simp)];simp only[Op.stringOp,xq];rfl)
   case neq=>exact aE.same hI (.v _) h (by rw[hb _ (by simp) (by simp)];simp only[Op.stringOp,xq];rfl)
   case lss=>exact aE.same hI (.v _) h (by rw[hb _ (by simp) (by simp)];simp only[Op.stringOp];rfl)
   case leq=>exact aE.same hI (.v _) h (by rw[hb _ (by simp) (by simp)];simp only[Op.stringOp,xq];rfl)
   case gtr=>exact aE.same hI (.v _) h (by rw[hb _ (by simp) (by simp)];simp only[Op.stringOp,xq];rfl)
   case geq=>exact aE.same hI (.v _) h (by rw[hb _ (by simp) (by simp)];simp only[Op.stringOp];rfl)
   all_goals exact h.elim
  ·exact h.elim
 ·exact h.elim
theorem axO{op:UnOp}{x:Operand}(hI:Inv P M w0 σ w)(hR:bE M rg a)(h:aj P cfg d rg σ K E (.un op x)):aE P M w0 K ((Op.unary op (a.eval x)).run P w):=by
 have hx:=hR.ev x
 simp only[aj]at h
 split at h
 ·rename_i u hu
  rw[hu]at hx
  rw[hx.az]
  split at h
  ·rename_i r hr
   refine aE.same hI (.v _) h ?_
   unfold GU at hr
   split at hr
   ·simp only[Z5]at hr;subst hr;simp[Op.unary,Op.intArith]
   ·simp only[Z5]at hr;subst hr;simp[Op.unary]
   ·cases hr
  ·exact h.elim
 ·exact h.elim
theorem axx{src dst:TypeId}{k k':IntKind}{x:Operand}(hs:P.underlying src=some (.int k'))(hd:P.underlying dst=some (.int k))(hI:Inv P M w0 σ w)(hR:bE M rg a)(h:aj P cfg d rg σ K E (.ly k x)):
  aE P M w0 K ((convert src dst (a.eval x)).run P w):=by
 have hx:=hR.ev x
 simp only[aj]at h
 split at h
 ·rename_i k2 n hu
  rw[hu]at hx
  rw[hx.az]
  exact aE.same hI (.v _) h (by simp[convert,aY hs,aY hd,Conv.intToInt])
 ·exact h.elim
theorem axA{t:TypeId}{fs:Array Field}{i:Nat}{f:Field}{k:TypeInfo}{x:Operand}(ht:P.underlying t=some (.struct fs))(hf:fs[i]? =some f)(hk:P.info? f.type=some k)(h0:k.size≠0)(hI:Inv P M w0 σ w)(hR:bE M rg a)
  (h:aj P cfg d rg σ K E (.iS f.offset x)):aE P M w0 K ((Instr.fieldAt t (a.eval x) i).run P w):=by
 have hx:=hR.ev x
 simp only[aj]at h
 split at h
 ·rename_i tg b o hu
  rw[hu]at hx
  rw[hx.mQ]
  refine aE.same hI (.lp _ _ _) h ?_
  simp[Instr.fieldAt,aY ht,hf,Instr.sureAddr,fieldPlace,ka hk,h0,Addr.add_lit]
 ·rename_i l hu
  rw[hu]at hx
  obtain⟨b,o,cs,hv,h1,h2⟩:=hx.ot
  rw[hv]
  refine aE.same hI (v:= .pointer (some ⟨b,o+f.offset,none⟩)) ?_ h ?_
  ·refine .pc _ b _ (fun k=>cs (f.offset+k)) (fun k hk=> ?_) (fun k hk=> ?_)
   ·rw[Nat.add_assoc];exact h1 _ (by simp at hk;omega)
   ·simp only[YA];exact h2 _ _
  ·simp[Instr.fieldAt,aY ht,hf,Instr.sureAddr,fieldPlace,ka hk,h0,Addr.add_lit]
 ·exact h.elim
theorem Tk{t:TypeId}{g:Bool}{n off:Nat}(ht:gq P t=some (g,n)){l:List AV}{cs:Array Value}(hl:RL M l cs.toList)(hI:Inv P M w0 σ w)
  (h:off+n≤l.length∧if g then K (.agg ((l.drop off).take n)) σ else match l[off]? with
   |some y=>K y σ
   |none=>False):aE P M w0 K ((part t cs off).run P w):=by
 obtain⟨h1,h2⟩:=Df ht w
 obtain⟨aH,h⟩:=h
 simp only[part,Sem.run_bind,h1,Result.andThen_ok]
 cases g with
 |true=>
  simp only[Y7,Sem.run_bind,h2,Result.andThen_ok,Sem.run_pure]at h ⊢
  refine aE.same hI (v:= .agg (cs.extract off (off+n))) ?_ h rfl
  have:=R.tA ((hl.drop off).take n)
  have e:((cs.toList.drop off).take n).toArray=cs.extract off (off+n):=by
   apply YP
   simp
  rw[e]at this
  exact this
 |false=>
  simp only[ZS,Zt]at h ⊢
  split at h
  ·rename_i y hy
   obtain⟨v,hv,hr⟩:=hl.get hy
   have:cs[off]? =some v:=by simpa using hv
   simp only[this,Sem.run_pure]
   exact aE.same hI hr h rfl
  ·exact h.elim
theorem axB{t:TypeId}{fs:Array Field}{i n:Nat}{f:Field}{g:Bool}{x:Operand}(ht:P.underlying t=some (.struct fs))(hf:fs[i]? =some f)(hg:gq P f.type=some (g,n))(hI:Inv P M w0 σ w)(hR:bE M rg a)
  (h:aj P cfg d rg σ K E (.field g f.offset n x)):aE P M w0 K ((Instr.field t (a.eval x) i).run P w):=by
 simp only[aj]at h
 split at h
 ·rename_i l hl
  obtain⟨cs,ku,hc⟩:=(hR.ev x).Dc hl
  rw[ku]
  have:=Tk hg hc hI h
  simpa[Instr.field,aY ht,hf,asAgg]using this
 ·exact h.elim
theorem aco{x y:AV}{c:Bool}(h:tv .int x y=some c):∃ k a b,x= .v (.int k a)∧y= .v (.int k b)∧c=decide (a=b):=by
 unfold tv at h
 split at h
 ·rename_i k a k' b _
  split at h
  ·rename_i e;subst e;simp only[Z5]at h;exact⟨k,a,b,rfl,rfl,h.symm⟩
  ·cases h
 ·rename_i e;cases e
 ·rename_i e;cases e
 ·cases h
theorem acp{x y:AV}{c:Bool}(h:tv .str x y=some c):∃ a b,x= .v (.string a)∧y= .v (.string b)∧c=decide (a=b):=by
 unfold tv at h
 split at h
 ·rename_i e;cases e
 ·rename_i a b _;simp only[Z5]at h;exact⟨a,b,rfl,rfl,h.symm⟩
 ·rename_i e;cases e
 ·cases h
theorem acn{x y:AV}{c:Bool}(h:tv .bool x y=some c):∃ a b,x= .v (.bool a)∧y= .v (.bool b)∧c=(a == b):=by
 unfold tv at h
 split at h
 ·rename_i e;cases e
 ·rename_i e;cases e
 ·rename_i a b _;simp only[Z5]at h;exact⟨a,b,rfl,rfl,h.symm⟩
 ·cases h
theorem ME(d:Nat):∀ (fs:List Field) (n:Nat) (ks:List uz) (xs ys:List AV) (us vs:Array Value) (b:Bool),pz P n fs=some ks→qq ks xs ys=some b→
  RL M xs (us.toList.drop n)→RL M ys (vs.toList.drop n)→(Op.eqFields (d+1) us vs fs).run P w= .ok b w
 |[],n,ks,xs,ys,us,vs,b,hk,he,hx,hy=>by
  simp only[pz,Z5]at hk
  subst hk
  cases xs<;>cases ys<;>simp[qq]at he
  subst he
  rfl
 |f::fs,n,ks,xs,ys,us,vs,b,hk,he,hx,hy=>by
  simp only[pz]at hk
  split at hk
  ·rename_i hc
   obtain⟨k,ks',rfl,aan,Lm⟩:∃ k ks',ks=k::ks'∧pz P (n+1) fs=some ks'∧((k= .int∧∃ q,P.underlying f.type=some (.int q))∨(k= .str∧P.underlying f.type=some .string)∨(k= .bool∧P.underlying f.type=some .bool)):=by
    split at hk
    ·rename_i q hu;obtain⟨ks',h1,rfl⟩:=ZR.1 hk;exact⟨_,ks',rfl,h1,.inl ⟨rfl,q,hu⟩⟩
    ·rename_i hu;obtain⟨ks',h1,rfl⟩:=ZR.1 hk;exact⟨_,ks',rfl,h1,.inr (.inl ⟨rfl,hu⟩)⟩
    ·rename_i hu;obtain⟨ks',h1,rfl⟩:=ZR.1 hk;exact⟨_,ks',rfl,h1,.inr (.inr ⟨rfl,hu⟩)⟩
    ·cases hk
   match xs,ys,he with
   |x::xs,y::ys,he=>
    obtain⟨u,us',vy,Fb,fa⟩:=hx.cN
    obtain⟨v,iu,nY,Fc,vA⟩:=hy.cN
    have Bl:us[n]? =some u:=by
     have:=congrArg (·[0]?) vy
     simpa using this
    have hv0:vs[n]? =some v:=by
     have:=congrArg (·[0]?) nY
     simpa using this
    have Bm:us.toList.drop (n+1)=us':=by
     rw[← YK,vy];rfl
    have yt:vs.toList.drop (n+1)=iu:=by
     rw[← YK,nY];rfl
    simp only[qq]at he
    split at he
    ·rename_i c EJ
     obtain⟨b',gr,rfl⟩:=ZR.1 he
     have ih:=ME d fs (n+1) ks' xs ys us vs b' aan gr (by rw[Bm];exact fa) (by rw[yt];exact vA)
     have LD:(part f.type us f.offset).run P w= .ok u w∧(part f.type vs f.offset).run P w= .ok v w:=by
      rcases Lm with⟨_,q,hu⟩|⟨_,hu⟩|⟨_,hu⟩<;>simp[part,isAgg,aY hu,hc.2,Bl,hv0]
     have heq:(Op.equalIn (d+1) f.type u v).run P w= .ok c w:=by
      rcases Lm with⟨rfl,q,hu⟩|⟨rfl,hu⟩|⟨rfl,hu⟩
      ·obtain⟨k,p,q',rfl,rfl,rfl⟩:=aco EJ
       rw[Fb.az,Fc.az,run_equalIn_int (w:=w) _ _ _ q _ _ hu]
       rfl
      ·obtain⟨p,q',rfl,rfl,rfl⟩:=acp EJ
       rw[Fb.az,Fc.az,run_equalIn_string (w:=w) _ _ _ _ hu,xq]
      ·obtain⟨p,q',rfl,rfl,rfl⟩:=acn EJ
       rw[Fb.az,Fc.az,run_equalIn_bool' (w:=w) _ _ _ _ hu]
     simp only[Op.eqFields,hc.1,ne_eq,not_false_eq_true,Y7,Sem.run_bind,LD.1,LD.2,Result.andThen_ok,heq,Sem.run_ite]
     cases c
     ·simp
     ·simp[ih]
    ·cases he
   |[],ys,he=>simp[qq]at he
   |x::xs,[],he=>simp[qq]at he
  ·cases hk
theorem axy{neg:Bool}{t:TypeId}{fs:Array Field}{ks:List uz}{x y:Operand}(ht:P.underlying t=some (.struct fs))(h1:P.stoodInHeld t=false)(h2:P.eqGuardType P.depth t=false)(hk:pz P 0 fs.toList=some ks)(hI:Inv P M w0 σ w)(hR:bE M rg a)
  (h:aj P cfg d rg σ K E (.eqs neg ks x y)):aE P M w0 K ((do eqGuard (if neg then .neq else .eql) t x y (a.eval x) (a.eval y);binOp (if neg then .neq else .eql) t (a.eval x) (a.eval y):Sem Value).run P w):=by
 simp only[aj]at h
 split at h
 ·rename_i xs ys fa vA
  obtain⟨us,hu,Fa⟩:=(hR.ev x).Dc fa
  obtain⟨vs,hv,hyr⟩:=(hR.ev y).Dc vA
  rw[hu,hv]
  split at h
  ·rename_i b hb
   have he:=ME (P:=P) (M:=M) (w:=w) 9998 fs.toList 0 ks xs ys us vs b hk hb (by simpa using Fa) (by simpa using hyr)
   have pk:P.underlying t=some (.struct (P.fieldsOf t)):=by simp[Program.fieldsOf,ht]
   have hf:P.fieldsOf t=fs:=by simp[Program.fieldsOf,ht]
   have EF:=run_equalIn_struct w 9999 t us vs pk h1
   rw[hf,he]at EF
   refine aE.same hI (.v _) h ?_
   rw[Sem.run_bind,run_eqGuard_agg w _ t x y us vs h2]
   cases neg
   ·simp only[Result.andThen_ok,ZS,Zt,run_eql_struct,EF,Bool.xor_false]
   ·simp only[Result.andThen_ok,Y7,run_neq_struct,EF,Bool.xor_true]
  ·exact h.elim
 ·exact h.elim
end
section
variable {P:Program}[Glob P]{M:Mem}{w0:Base}{w:World}{σ:Store}{K:AV→Store→Prop}{rg:ae}{a:Act}{cfg:Nat→Nat}{d:Option Nat}{E:List PanicEntry→Store→Prop}
def JS(P:Program)[Glob P](t:TypeId):wW→Prop
 | .bool=>P.underlying t=some .bool
 | .slice=>∃ e,P.underlying t=some (.slice e)
 | .map=>∃ k e,P.underlying t=some (.map k e)
 | .func=>∃ p r v,P.underlying t=some (.func p r v)
 | .ptr=>∃ e,P.underlying t=some (.pointer e)
theorem gb{t:TypeId}{u v:Value}{b:Bool}(hg:∀ (op:BinOp) (p q:Operand),eqGuard op t p q u v=pure ())(h1:binOp .eql t u v=(do pure (.bool (← Op.equal t u v))))(h2:binOp .neq t u v=(do pure (.bool (!(← Op.equal t u v)))))
  (he:∀ d:Nat,(Op.equalIn (d+1) t u v).run P w= .ok b w) (op:BinOp) (p q:Operand):eqGuard op t p q u v=pure ()∧(op= .eql→(binOp op t u v).run P w= .ok (.bool b) w)∧(op= .neq→(binOp op t u v).run P w= .ok (.bool (!b)) w):=by
 have vi:(Op.equal t u v).run P w= .ok b w:=he 9999
 refine⟨hg op p q,?_,?_⟩
 ·rintro rfl
  rw[h1,Sem.run_bind,vi]
  rfl
 ·rintro rfl
  rw[h2,Sem.run_bind,vi]
  rfl
set_option maxHeartbeats 2000000 in
theorem VA{k:wW}{t:TypeId}{x y:AV}{u v:Value}{b:Bool}(ht:JS P t k)(hx:R M x u)(hy:R M y v)(h:AH k x y=some b)(op:BinOp)(p q:Operand):
  eqGuard op t p q u v=pure ()∧(op= .eql→(binOp op t u v).run P w= .ok (.bool b) w)∧(op= .neq→(binOp op t u v).run P w= .ok (.bool (!b)) w):=by
 have sl:∀ {nn ez rows},R M (.sl true ez rows) nn→∃ b n c,nn= .slice (some b) n c:=by
  intro nn ez rows h
  rcases h.pD with⟨a,h,_,hv⟩|⟨b,off,cap,cs,hv,_⟩
  ·obtain⟨a,rfl⟩:=Ym.1 (h rfl)
   exact⟨_,_,_,hv⟩
  ·exact⟨_,_,_,hv⟩
 have ow:∀ {nn ez tg b u c rows},R M (.own ez tg b u c rows) nn→∃ b n c,nn= .slice (some b) n c:=by
  intro nn ez tg b u c rows h
  obtain⟨off,cap,cs,hv,_⟩:=h.qZ
  exact⟨_,_,_,hv⟩
 unfold AH at h
 split at h<;>simp only[Z5,reduceCtorEq]at h<;>subst h
 case h_1=>rw[hx.az,hy.az];exact gb (fun op p q=>by cases op<;>rfl) rfl rfl (fun d=>by simp[Op.equalIn,aY ht]) op p q
 case h_2=>obtain⟨e,ht⟩:=ht;obtain⟨b,n,c,rfl⟩:=sl hx;rw[hy.az];exact gb (fun op p q=>by cases op<;>rfl) rfl rfl (fun d=>by simp[Op.equalIn,aY ht]) op p q
 case h_3=>obtain⟨e,ht⟩:=ht;obtain⟨b,n,c,rfl⟩:=sl hy;rw[hx.az];exact gb (fun op p q=>by cases op<;>rfl) rfl rfl (fun d=>by simp[Op.equalIn,aY ht]) op p q
 case h_4=>obtain⟨e,ht⟩:=ht;obtain⟨b,n,c,rfl⟩:=ow hx;rw[hy.az];exact gb (fun op p q=>by cases op<;>rfl) rfl rfl (fun d=>by simp[Op.equalIn,aY ht]) op p q
 case h_5=>obtain⟨e,ht⟩:=ht;obtain⟨b,n,c,rfl⟩:=ow hy;rw[hx.az];exact gb (fun op p q=>by cases op<;>rfl) rfl rfl (fun d=>by simp[Op.equalIn,aY ht]) op p q
 case h_6=>obtain⟨e,ht⟩:=ht;rw[hx.yK,hy.az];exact gb (fun op p q=>by cases op<;>rfl) rfl rfl (fun d=>by simp[Op.equalIn,aY ht]) op p q
 case h_7=>obtain⟨e,ht⟩:=ht;rw[hx.az,hy.yK];exact gb (fun op p q=>by cases op<;>rfl) rfl rfl (fun d=>by simp[Op.equalIn,aY ht]) op p q
 case h_8=>obtain⟨e,ht⟩:=ht;rw[hx.az,hy.az];exact gb (fun op p q=>by cases op<;>rfl) rfl rfl (fun d=>by simp[Op.equalIn,aY ht]) op p q
 case h_9=>obtain⟨e,ht⟩:=ht;rw[hx.az,hy.az];exact gb (fun op p q=>by cases op<;>rfl) rfl rfl (fun d=>by simp[Op.equalIn,aY ht]) op p q
 case h_10=>obtain⟨e,ht⟩:=ht;rw[hx.az,hy.az];exact gb (fun op p q=>by cases op<;>rfl) rfl rfl (fun d=>by simp[Op.equalIn,aY ht]) op p q
 case h_11=>obtain⟨k,e,ht⟩:=ht;rw[hx.az,hy.az];exact gb (fun op p q=>by cases op<;>rfl) rfl rfl (fun d=>by simp[Op.equalIn,aY ht]) op p q
 case h_12=>obtain⟨k,e,ht⟩:=ht;rw[hx.az,hy.az];exact gb (fun op p q=>by cases op<;>rfl) rfl rfl (fun d=>by simp[Op.equalIn,aY ht]) op p q
 case h_13=>obtain⟨k,e,ht⟩:=ht;rw[hx.az,hy.az];exact gb (fun op p q=>by cases op<;>rfl) rfl rfl (fun d=>by simp[Op.equalIn,aY ht]) op p q
 case h_14=>obtain⟨fp,fr,fv,ht⟩:=ht;rw[hx.az,hy.az];exact gb (fun op p q=>by cases op<;>rfl) rfl rfl (fun d=>by simp[Op.equalIn,aY ht]) op p q
 case h_15=>obtain⟨fp,fr,fv,ht⟩:=ht;rw[hx.az,hy.az];exact gb (fun op p q=>by cases op<;>rfl) rfl rfl (fun d=>by simp[Op.equalIn,aY ht]) op p q
 case h_16=>obtain⟨fp,fr,fv,ht⟩:=ht;rw[hx.az,hy.az];exact gb (fun op p q=>by cases op<;>rfl) rfl rfl (fun d=>by simp[Op.equalIn,aY ht]) op p q
 case h_17=>obtain⟨e,ht⟩:=ht;rw[hx.mQ,hy.az];exact gb (fun op p q=>by cases op<;>rfl) rfl rfl (fun d=>by simp[Op.equalIn,aY ht]) op p q
 case h_18=>obtain⟨e,ht⟩:=ht;rw[hx.az,hy.mQ];exact gb (fun op p q=>by cases op<;>rfl) rfl rfl (fun d=>by simp[Op.equalIn,aY ht]) op p q
 case h_19=>obtain⟨e,ht⟩:=ht;rw[hx.az,hy.az];exact gb (fun op p q=>by cases op<;>rfl) rfl rfl (fun d=>by simp[Op.equalIn,aY ht]) op p q
 case h_20=>obtain⟨e,ht⟩:=ht;rw[hx.az,hy.az];exact gb (fun op p q=>by cases op<;>rfl) rfl rfl (fun d=>by simp[Op.equalIn,aY ht]) op p q
 case h_21=>obtain⟨e,ht⟩:=ht;rw[hx.az,hy.az];exact gb (fun op p q=>by cases op<;>rfl) rfl rfl (fun d=>by simp[Op.equalIn,aY ht]) op p q
theorem y7{neg:Bool}{k:wW}{t:TypeId}{x y:Operand}(ht:JS P t k)(hI:Inv P M w0 σ w)(hR:bE M rg a)
  (h:aj P cfg d rg σ K E (.gZ neg k x y)):aE P M w0 K ((do eqGuard (if neg then .neq else .eql) t x y (a.eval x) (a.eval y);binOp (if neg then .neq else .eql) t (a.eval x) (a.eval y):Sem Value).run P w):=by
 simp only[aj]at h
 split at h
 ·rename_i b gr
  obtain⟨h1,h2,h3⟩:=VA (w:=w) ht (hR.ev x) (hR.ev y) gr (if neg then .neq else .eql) x y
  refine aE.same hI (.v _) h ?_
  rw[Sem.run_bind,h1]
  simp only[Sem.run_pure,Result.andThen_ok]
  cases neg
  ·simpa using h2 rfl
  ·simpa using h3 rfl
 ·exact h.elim
theorem OG{x:Operand}(hI:Inv P M w0 σ w)(hR:bE M rg a)(h:aj P cfg d rg σ K E (.mv x)):aE P M w0 K ((pure (a.eval x):Sem Value).run P w):=
 aE.same hI (hR.ev x) h rfl
theorem axL{c x y:Operand}(hI:Inv P M w0 σ w)(hR:bE M rg a)(h:aj P cfg d rg σ K E (.pick c x y)):aE P M w0 K ((do pure (if ← asBool (a.eval c)then a.eval x else a.eval y):Sem Value).run P w):=by
 have hc:=hR.ev c
 simp only[aj]at h
 split at h
 ·rename_i t he
  rw[he]at hc
  rw[hc.az]
  refine aE.same hI (x:=if t then ev rg x else ev rg y) ?_ h rfl
  cases t
  ·exact hR.ev y
  ·exact hR.ev x
 ·exact h.elim
theorem axz{x:Operand}{i:Nat}(hI:Inv P M w0 σ w)(hR:bE M rg a)(h:aj P cfg d rg σ K E (.extract x i)):aE P M w0 K ((Instr.extract (a.eval x) i).run P w):=by
 have hx:=hR.ev x
 simp only[aj]at h
 split at h
 ·rename_i xs he
  rw[he]at hx
  obtain⟨cs,hv,hl⟩:=hx.BI
  rw[hv]
  split at h
  ·rename_i y hy
   obtain⟨v,hv',hr⟩:=hl.get hy
   exact aE.same hI hr h (by simp[Instr.extract,hv'])
  ·exact h.elim
 ·rename_i vs he
  rw[he]at hx
  rw[hx.az]
  split at h
  ·rename_i y hy
   exact aE.same hI (.v _) h (by simp[Instr.extract,hy])
  ·exact h.elim
 ·exact h.elim
theorem axC{t e:TypeId}{k:TypeInfo}{x i:Operand}(ht:P.underlying t=some (.slice e))(hk:P.info? e=some k)(hI:Inv P M w0 σ w)(hR:bE M rg a)(h:aj P cfg d rg σ K E (.eH k.size x i)):
  aE P M w0 K ((Instr.indexAt t (a.eval x) (a.eval i)).run P w):=by
 have hx:=hR.ev x
 have hi:=hR.ev i
 simp only[aj]at h
 have run:∀ (b o n cap:Nat) (kd:IntKind) (j:Int),0≤j→j<n→(Instr.indexAt t (.slice (some ⟨b,o,none⟩) n cap) (.int kd j)).run P w= .ok (.pointer (some ⟨b,o+j.toNat * k.size,none⟩)) w:=by
  intro b o n cap kd j h0 h1
  simp[Instr.indexAt,aY ht,asIntOf,h0,h1,ka hk,Addr.add_lit]
 split at h
 ·rename_i kd j he
  rw[he]at hi
  rw[hi.az]
  split at h
  ·rename_i nn ez rows fB
   rw[fB]at hx
   obtain⟨rfl,h0,h1,h⟩:=h
   rcases hx.pD with⟨_,_,rfl,_⟩|⟨b,off,cap,cs,hv,hr,_,_⟩
   ·simp at h1;omega
   ·rw[hv]
    exact aE.same hI (hr.pc j.toNat (by omega)) h (run b off _ cap kd j h0 h1)
  ·rename_i ez tg b u c rows fB
   rw[fB]at hx
   obtain⟨rfl,h0,h1,h⟩:=h
   obtain⟨off,cap,cs,hv,hr,_⟩:=hx.qZ
   rw[hv]
   exact aE.same hI (hr.pc j.toNat (by omega)) h (run b off _ cap kd j h0 h1)
  ·rename_i tg b o n cap fB
   rw[fB]at hx
   rw[hx.yK]
   obtain⟨h0,h1,h⟩:=h
   exact aE.same hI (.lp _ _ _) h (run b o n cap kd j h0 h1)
  ·exact h.elim
 ·exact h.elim
theorem axD{t e:TypeId}{n:Nat}{k:TypeInfo}{x i:Operand}(ht:P.underlying t=some (.array n e))(hk:P.info? e=some k)(hI:Inv P M w0 σ w)(hR:bE M rg a)(h:aj P cfg d rg σ K E (.iH n k.size x i)):
  aE P M w0 K ((Instr.indexAt t (a.eval x) (a.eval i)).run P w):=by
 have hx:=hR.ev x
 have hi:=hR.ev i
 simp only[aj]at h
 have run:∀ (b o:Nat) (kd:IntKind) (j:Int),0≤j→j<n→(Instr.indexAt t (.pointer (some ⟨b,o,none⟩)) (.int kd j)).run P w= .ok (.pointer (some ⟨b,o+j.toNat * k.size,none⟩)) w:=by
  intro b o kd j h0 h1
  simp[Instr.indexAt,aY ht,asIntOf,Instr.sureAddr,h0,h1,ka hk,Addr.add_lit]
 split at h
 ·rename_i kd j he
  rw[he]at hi
  rw[hi.az]
  split at h
  ·rename_i tg b o fB
   rw[fB]at hx
   rw[hx.mQ]
   obtain⟨h0,h1,h⟩:=h
   exact aE.same hI (.lp _ _ _) h (run b o kd j h0 h1)
  ·rename_i l fB
   rw[fB]at hx
   obtain⟨h0,h1,h⟩:=h
   obtain⟨b,o,cs,hv,h2,h3⟩:=hx.ot
   rw[hv]
   refine aE.same hI ?_ h (run b o kd j h0 h1)
   refine .pc _ b _ (fun m=>cs (j.toNat * k.size+m)) (fun m hm=> ?_) (fun m hm=> ?_)
   ·rw[Nat.add_assoc];exact h2 _ (by simp at hm;omega)
   ·simp only[YA];exact h3 _ _
  ·rename_i g o fB
   rw[fB]at hx
   obtain⟨l,ha,ho,h0,h1,h⟩:=h
   subst ho
   rw[hx.az]
   obtain⟨b,o,cs,hv,h2,h3⟩:=(hI.gl g l ha).ot
   cases hv
   refine aE.same hI ?_ h (run _ _ kd j h0 h1)
   refine .pc _ g _ (fun m=>cs (j.toNat * k.size+m)) (fun m hm=> ?_) (fun m hm=> ?_)
   ·rw[Nat.add_assoc];exact h2 _ (by simp at hm;omega)
   ·simp only[YA];exact h3 _ _
  ·exact h.elim
 ·exact h.elim
theorem axE{t:TypeId}{x i:Operand}(ht:P.underlying t=some .string)(hI:Inv P M w0 σ w)(hR:bE M rg a)(h:aj P cfg d rg σ K E (.idxs x i)):
  aE P M w0 K ((Instr.index t (a.eval x) (a.eval i)).run P w):=by
 have hx:=hR.ev x
 have hi:=hR.ev i
 simp only[aj]at h
 split at h
 ·rename_i kd j s cH vz
  rw[cH]at hi
  rw[vz]at hx
  rw[hi.az,hx.az]
  obtain⟨⟨h0,h1⟩,h⟩:=h
  refine aE.same hI (.v _) h ?_
  have:s[j.toNat]? =some (s[j.toNat]'(by omega)):=by
   rw[getElem?_pos]
  simp[Instr.index,asIntOf,aY ht,h0,this]
 ·exact h.elim
theorem axG{t:TypeId}{x:Operand}{ty:TypeId}(ht:P.underlying t=some .string)(hI:Inv P M w0 σ w)(hR:bE M rg a)(h:aj P cfg d rg σ K E (.len true x)):aE P M w0 K ((Builtin.len_ #[t] ty #[a.eval x]).run P w):=by
 have hx:=hR.ev x
 simp only[aj]at h
 split at h
 ·rename_i s he
  rw[he]at hx
  rw[hx.az]
  exact aE.same hI (.v _) h (by simp[Builtin.len_,aY ht,goInt])
 ·exact h.elim
theorem axF{t e:TypeId}{x:Operand}{ty:TypeId}(ht:P.underlying t=some (.slice e))(hI:Inv P M w0 σ w)(hR:bE M rg a)(h:aj P cfg d rg σ K E (.len false x)):aE P M w0 K ((Builtin.len_ #[t] ty #[a.eval x]).run P w):=by
 have hx:=hR.ev x
 simp only[aj]at h
 have run:∀ b n c,a.eval x= .slice b n c→(Builtin.len_ #[t] ty #[a.eval x]).run P w= .ok (.int .i64 n) w:=by
  intro b n c e
  rw[e]
  simp[Builtin.len_,aY ht,goInt]
 split at h
 ·rename_i b n c he
  rw[he]at hx
  exact aE.same hI (.v _) h (run b n c hx.az)
 ·rename_i tg b o n c he
  rw[he]at hx
  exact aE.same hI (.v _) h (run _ n c hx.yK)
 ·rename_i nn ez rows he
  rw[he]at hx
  rcases hx.pD with⟨_,_,rfl,hv⟩|⟨b,off,cap,cs,hv,hr,h1,h2⟩
  ·exact aE.same hI (.v _) (h (by simp)) (run _ _ _ hv)
  ·exact aE.same hI (.v _) (h (by omega)) (run _ _ _ hv)
 ·rename_i ez tg b u c rows he
  rw[he]at hx
  obtain⟨off,cap,cs,hv,hr,h1,h2,_⟩:=hx.qZ
  exact aE.same hI (.v _) (h (by omega)) (run _ _ _ hv)
 ·exact h.elim
theorem axI{x y:Operand}{ts:Array TypeId}{ty:TypeId}(hI:Inv P M w0 σ w)(hR:bE M rg a)(h:aj P cfg d rg σ K E (.max2 x y)):aE P M w0 K ((Builtin.max_ ts ty #[a.eval x,a.eval y]).run P w):=by
 have hx:=hR.ev x
 have hy:=hR.ev y
 simp only[aj]at h
 split at h
 ·rename_i u v hu hv
  rw[hu]at hx
  rw[hv]at hy
  rw[hx.az,hy.az]
  split at h
  ·rename_i r hr
   refine aE.same hI (.v _) h ?_
   unfold vN at hr
   split at hr
   ·split at hr
    ·rename_i e;subst e
     simp only[ZS,Zt,Z5]at hr
     subst hr
     simp[Builtin.max_,Builtin.max2]
    ·cases hr
   ·cases hr
  ·exact h.elim
 ·exact h.elim
theorem axJ{x y:Operand}{ts:Array TypeId}{ty:TypeId}(hI:Inv P M w0 σ w)(hR:bE M rg a)(h:aj P cfg d rg σ K E (.min2 x y)):aE P M w0 K ((Builtin.min_ ts ty #[a.eval x,a.eval y]).run P w):=by
 have hx:=hR.ev x
 have hy:=hR.ev y
 simp only[aj]at h
 split at h
 ·rename_i u v hu hv
  rw[hu]at hx
  rw[hv]at hy
  rw[hx.az,hy.az]
  split at h
  ·rename_i r hr
   refine aE.same hI (.v _) h ?_
   unfold vN at hr
   split at hr
   ·split at hr
    ·rename_i e;subst e
     simp only[Y7,Z5]at hr
     subst hr
     simp[Builtin.min_,Builtin.min2]
    ·cases hr
   ·cases hr
  ·exact h.elim
 ·exact h.elim
theorem Md{M:Mem}{rg:ae}{a:Act}(hR:bE M rg a){o:Option Operand}{r:Option Int}(h:oe (o.map (ev rg))=some r):(o=none∧r=none)∨∃ k i,o.map a.eval=some (.int k i)∧r=some i:=by
 cases o with
 |none=>simp[oe]at h;exact .inl ⟨rfl,h.symm⟩
 |some x=>
  have hx:=hR.ev x
  simp only[Zu]at h
  unfold oe at h
  split at h
  ·rename_i e;cases e
  ·rename_i k i e
   simp only[Z5]at e h
   rw[e]at hx
   exact .inr ⟨k,i,by simp[hx.az],h.symm⟩
  ·cases h
theorem aeg{bW dU:Option Int}{G5 G4:Option Value}(h1:(G5=none∧bW=none)∨∃ k i,G5=some (.int k i)∧bW=some i)(h2:(G4=none∧dU=none)∨∃ k i,G4=some (.int k i)∧dU=some i)
  (n c:Nat) (a1:0≤bW.getD 0) (a2:bW.getD 0≤dU.getD n) (a3:dU.getD n≤c):
  (Instr.sliceBounds true n c G5 G4 none).run P w= .ok ((bW.getD 0).toNat,(dU.getD n).toNat,c) w:=by
 have sb:∀ (k:IntKind) (i:Int) (y:Nat) (code:BoundsCode),0≤i→i≤y→(Instr.sliceBound (.int k i) y code).run P w= .ok i.toNat w:=by
  intro k i y code h0 h1
  simp[Instr.sliceBound,asIntOf,h0,h1]
 rcases h1 with⟨rfl,rfl⟩|⟨k,i,rfl,rfl⟩<;>rcases h2 with⟨rfl,rfl⟩|⟨k',i',rfl,rfl⟩<;>simp only[Option.getD_none,ZE]at a1 a2 a3 ⊢
 ·simp[Instr.sliceBounds]
 ·simp[Instr.sliceBounds,sb k' i' c _ (by omega) (by omega)]
 ·simp[Instr.sliceBounds,sb k i n _ (by omega) (by omega)]
 ·simp[Instr.sliceBounds,sb k' i' c _ (by omega) (by omega),sb k i i'.toNat _ (by omega) (by omega)]
theorem axM{t e:TypeId}{k:TypeInfo}{x:Operand}{lo hi:Option Operand}(ht:P.underlying t=some (.slice e))(hk:P.info? e=some k)(hI:Inv P M w0 σ w)(hR:bE M rg a)(h:aj P cfg d rg σ K E (.slice k.size x lo hi)):
  aE P M w0 K ((Instr.sliceAt t (a.eval x) (lo.map a.eval) (hi.map a.eval) none).run P w):=by
 have hx:=hR.ev x
 simp only[aj]at h
 split at h
 ·rename_i bW dU Lu EC
  have h1:(lo.map a.eval=none∧bW=none)∨∃ k i,lo.map a.eval=some (.int k i)∧bW=some i:=by
   rcases Md hR Lu with⟨rfl,rfl⟩|h
   ·exact .inl ⟨rfl,rfl⟩
   ·exact .inr h
  have h2:(hi.map a.eval=none∧dU=none)∨∃ k i,hi.map a.eval=some (.int k i)∧dU=some i:=by
   rcases Md hR EC with⟨rfl,rfl⟩|h
   ·exact .inl ⟨rfl,rfl⟩
   ·exact .inr h
  have run:∀ (base:Option Addr) (n c:Nat),0≤bW.getD 0→bW.getD 0≤dU.getD n→dU.getD n≤c→
    (Instr.sliceAt t (.slice base n c) (lo.map a.eval) (hi.map a.eval) none).run P w=
     .ok (.slice (if c=(bW.getD 0).toNat then base else base.map (·.add ((bW.getD 0).toNat * k.size))) ((dU.getD n).toNat-(bW.getD 0).toNat) (c-(bW.getD 0).toNat)) w:=by
   intro base n c a1 a2 a3
   simp[Instr.sliceAt,aY ht,Instr.slice,aeg h1 h2 n c a1 a2 a3,ka hk]
  split at h
  ·rename_i nn ez rows fB
   rw[fB]at hx
   obtain⟨rfl,a1,a2,a3,h⟩:=h
   rcases hx.pD with⟨ba,Xx,rfl,hv⟩|⟨b,off,cap,cs,hv,hr,h4,h5⟩
   ·rw[hv]
    simp only[Z4,Int.natCast_zero]at a1 a2 a3 h
    have e1:(bW.getD 0).toNat=0:=by omega
    have e2:(dU.getD 0).toNat=0:=by omega
    refine aE.same hI (v:= .slice ba 0 0) ?_ h ?_
    ·simp;exact .nil _ _ _ Xx
    ·rw[run ba 0 0 a1 a2 a3]
     simp[e1]
     simpa using e2
   ·rw[hv]
    have hl:=hr.sub (bW.getD 0).toNat (dU.getD rows.length).toNat (by omega) (by omega)
    have hlen:((rows.take (dU.getD rows.length).toNat).drop (bW.getD 0).toNat).length=(dU.getD rows.length).toNat-(bW.getD 0).toNat:=by simp;omega
    by_cases hc:cap=(bW.getD 0).toNat
    ·refine aE.same hI (v:= .slice (some ⟨b,off,none⟩) ((dU.getD rows.length).toNat-(bW.getD 0).toNat) (cap-(bW.getD 0).toNat)) ?_ h ?_
     ·have hz:(rows.take (dU.getD rows.length).toNat).drop (bW.getD 0).toNat=[]:=by
       apply ZO;rw[hlen];omega
      have ob:(dU.getD rows.length).toNat-(bW.getD 0).toNat=0:=by rw[← hlen,hz];rfl
      rw[hz,ob]
      exact R.lS (rows:=[]) (cs:=cs) ⟨fun i hi=>absurd hi (by simp),fun k hk=>absurd hk (by simp),fun i hi=>absurd hi (by simp)⟩ (ZK _) (by omega) nn
     ·rw[run _ _ _ a1 a2 (by omega),if_pos hc]
    ·refine aE.same hI (v:= .slice (some ⟨b,off+(bW.getD 0).toNat * k.size,none⟩) ((dU.getD rows.length).toNat-(bW.getD 0).toNat) (cap-(bW.getD 0).toNat)) ?_ h ?_
     ·have:=R.lS hl (cap:=cap-(bW.getD 0).toNat) (by rw[hlen];omega) (by omega) nn
      rw[hlen]at this
      exact this
     ·rw[run _ _ _ a1 a2 (by omega),if_neg hc]
      simp[Addr.add_lit]
  ·rename_i ez tg b u c rows fB
   rw[fB]at hx
   obtain⟨rfl,a1,a2,a3,h⟩:=h
   obtain⟨off,cap,cs,hv,hr,h4,h5,h6,h8⟩:=hx.qZ
   rw[hv]
   have hl:=hr.sub (bW.getD 0).toNat (dU.getD rows.length).toNat (by omega) (by omega)
   have hlen:((rows.take (dU.getD rows.length).toNat).drop (bW.getD 0).toNat).length=(dU.getD rows.length).toNat-(bW.getD 0).toNat:=by simp;omega
   have azR:(bW.getD 0).toNat≤rows.length:=by omega
   by_cases hc:cap=(bW.getD 0).toNat
   ·refine aE.same hI (v:= .slice (some ⟨b,off,none⟩) ((dU.getD rows.length).toNat-(bW.getD 0).toNat) (cap-(bW.getD 0).toNat)) ?_ h ?_
    ·have hz:(rows.take (dU.getD rows.length).toNat).drop (bW.getD 0).toNat=[]:=by
      apply ZO;rw[hlen];omega
     have ob:(dU.getD rows.length).toNat-(bW.getD 0).toNat=0:=by rw[← hlen,hz];rfl
     have hsl:=R.lS (M:=M) (b:=b) (off:=off) (ag:=k.size) (cs:=cs) (cap:=cap-(bW.getD 0).toNat) (rows:=[]) ⟨fun i hi=>absurd hi (by simp),fun k hk=>absurd hk (by simp),fun i hi=>absurd hi (by simp)⟩ (ZK _) (by omega) true
     cases yl:dU with
     |none=>
      simp only[yl,Option.isNone_none,Y7,Option.getD_none]at ob ⊢
      have tc:rows.drop (bW.getD 0).toNat=[]:=by apply ZO;simp;omega
      rw[tc,ob]
      exact R.pC (M:=M) (b:=b) (off:=off) (ag:=k.size) (cs:=cs) (rows:=[]) ⟨fun i hi=>absurd hi (by simp),fun k hk=>absurd hk (by simp),fun i hi=>absurd hi (by simp)⟩ (ZK _) (by omega) (.inl (by omega)) h8
     |some j=>
      simp only[yl,Option.isNone_some,ZS,Zt,ZE]at hz ob ⊢
      rw[hz,ob]
      exact hsl
    ·rw[run _ _ _ a1 a2 (by omega),if_pos hc]
   ·refine aE.same hI (v:= .slice (some ⟨b,off+(bW.getD 0).toNat * k.size,none⟩) ((dU.getD rows.length).toNat-(bW.getD 0).toNat) (cap-(bW.getD 0).toNat)) ?_ h ?_
    ·cases yl:dU with
     |none=>
      simp only[yl,Option.isNone_none,Y7,Option.getD_none,Y8,List.take_length]at hl hlen ⊢
      have e1:(rows.length-(bW.getD 0).toNat) * k.size+(bW.getD 0).toNat * k.size=rows.length * k.size:=by rw[← YL];congr 1;omega
      have e2:(cap-(bW.getD 0).toNat) * k.size+(bW.getD 0).toNat * k.size=cap * k.size:=by rw[← YL];congr 1;omega
      have:=R.pC (t:=tg) (u:=u) (c:=c) hl (cap:=cap-(bW.getD 0).toNat) (by rw[hlen];omega) (by omega) (by rcases h6 with h6|h6;exact .inl (by omega);exact .inr ⟨by rw[hlen];omega,by omega⟩) h8
      rw[hlen]at this
      exact this
     |some j=>
      simp only[yl,Option.isNone_some,ZS,Zt,ZE]at hl hlen a2 a3 ⊢
      have:=R.lS hl (cap:=cap-(bW.getD 0).toNat) (by rw[hlen];omega) (by omega) true
      rw[hlen]at this
      exact this
    ·rw[run _ _ _ a1 a2 (by omega),if_neg hc]
     simp[Addr.add_lit]
  ·rename_i fB
   rw[fB]at hx
   rw[hx.az]
   obtain⟨a1,a2,h⟩:=h
   refine aE.same hI (.v _) h ?_
   rw[run none 0 0 (by omega) (by simp;omega) (by simp;omega)]
   simp[a1,a2]
  ·exact h.elim
 ·exact h.elim
end
section
variable {P:Program}[Glob P]{M:Mem}{w0:Base}{w:World}{σ:Store}{K:AV→Store→Prop}{rg:ae}{a:Act}{cfg:Nat→Nat}{d:Option Nat}{E:List PanicEntry→Store→Prop}
theorem BZ{ag:Nat}{x:AV}{v:Value}{rows:List (List AV)}(hI:Inv P M w0 σ w)(hx:R M x v)(h:eQ ag x=some rows)(vo:¬∃ s,x= .v (.string s)):
  ∃ (base:Option Addr) (cap:Nat) (L:List Value),v= .slice base rows.length cap∧RL M rows.flatten L∧(∀ i (h:i<rows.length),rows[i].length=ag)∧
   (Builtin.firstCells ag rows.length v).run P w= .ok L.toArray w:=by
 have go:∀ b off cap (cs:Nat→Value),Rows M b off ag rows cs→∃ L:List Value,RL M rows.flatten L∧(Builtin.firstCells ag rows.length (.slice (some ⟨b,off,none⟩) rows.length cap)).run P w= .ok L.toArray w:=by
  intro b off cap cs hr
  refine⟨_,hr.flat,?_⟩
  simp only[Builtin.firstCells]
  refine Ot b off _ _ (by simp) (fun i hi=> ?_)
  simp only[Z3,List.length_range]at hi
  have:=hI.dB _ _ _ (hr.mem i hi)
  simpa using this
 unfold eQ at h
 split at h
 ·rename_i nn e rows'
  split at h
  ·rename_i e';subst e'
   simp only[Z5]at h
   subst h
   rcases hx.pD with⟨ba,_,rfl,hv⟩|⟨b,off,cap,cs,hv,hr,h1,h2⟩
   ·subst hv
    exact⟨ba,0,[],rfl,RL.nil,fun i hi=>absurd hi (by simp),by cases ba<;>simp[Builtin.firstCells,loadCells,loadCellsFrom]⟩
   ·obtain⟨L,hL,fO⟩:=go b off cap cs hr
    exact⟨_,cap,L,hv,hL,hr.size,by rw[hv];exact fO⟩
  ·cases h
 ·rename_i e tg b u c rows'
  split at h
  ·rename_i e';subst e'
   simp only[Z5]at h
   subst h
   obtain⟨off,cap,cs,hv,hr,_⟩:=hx.qZ
   obtain⟨L,hL,fO⟩:=go b off cap cs hr
   exact⟨_,cap,L,hv,hL,hr.size,by rw[hv];exact fO⟩
  ·cases h
 ·simp only[Z5]at h
  subst h
  rw[hx.az]
  exact⟨none,0,[],rfl,RL.nil,fun i hi=>absurd hi (by simp),by simp[Builtin.firstCells]⟩
 ·exact absurd ⟨_,rfl⟩ vo
 ·cases h
theorem wm{ag:Nat}{x:AV}{v:Value}{rows:List (List AV)}(hI:Inv P M w0 σ w)(hx:R M x v)(h:eQ ag x=some rows):
  ∃ L:List Value,(∀ w':World,(Builtin.lenOf v).run P w'= .ok rows.length w')∧RL M rows.flatten L∧(∀ i (h:i<rows.length),rows[i].length=ag)∧
   (Builtin.firstCells ag rows.length v).run P w= .ok L.toArray w:=by
 by_cases hs:∃ s,x= .v (.string s)
 ·obtain⟨s,rfl⟩:=hs
  simp only[eQ]at h
  split at h
  case isFalse=>cases h
  rename_i e1
  subst e1
  cases h
  rw[hx.az]
  refine⟨s.data.toList.map fun b=> .int .u8 b.toNat,fun w'=>by simp only[Builtin.lenOf,Sem.run_pure,Z3,YH];rfl,?_,fun i hi=>by simp[bn],?_⟩
  ·have:∀ l:List UInt8,RL M (l.map bn).flatten (l.map fun b=>Value.int .u8 b.toNat):=by
    intro l
    induction l with
    |nil=>exact RL.nil
    |cons b l ih=>exact RL.cons (.v _) ih
   exact this _
  ·simp only[Builtin.firstCells,Z3,Sem.run_pure]
   congr 1
   apply YP
   have:s.extract 0 s.data.toList.length=s:=by
    have e:s.data.toList.length=s.size:=rfl
    rw[e,ByteArray.extract_zero_size]
   rw[this]
   simp
 ·obtain⟨base,cap,L,hv,h1,h2,h3⟩:=BZ (P:=P) (rows:=rows) hI hx h hs
  exact⟨L,fun w'=>by rw[hv];rfl,h1,h2,h3⟩
def Mem.ext(M:Mem)(B u:Nat)(vs:List Value):Mem:=fun b o=>if b=B∧u≤o∧o<u+vs.length then vs[o-u]? else M b o
theorem Inv.DN{tg b u c:Nat}(hI:Inv P M w0 σ w)(hb:aN σ tg=some (b,.tail u c))(vs:List Value):M.le (M.ext b u vs):=fun b' o v h=>by
 obtain⟨_,hM,_⟩:=hI.st _ (qW hb)
 have:¬(b'=b∧u≤o∧o<u+vs.length):=fun⟨e,h1,_⟩=>by subst e;rw[hM o h1]at h;cases h
 simp[Mem.ext,this,h]
theorem Inv.ayv{tg b u c:Nat}(hI:Inv P M w0 σ w)(hb:aN σ tg=some (b,.tail u c))(vs:List Value)(hc:u+vs.length≤c)(h1:vs.all Value.oneCell'=true):
  ∃ w',(storeCells ⟨b,u,none⟩ vs).run P w= .ok () w'∧Inv P (M.ext b u vs) w0 (ct σ tg b (.tail (u+vs.length) c)) w':=by
 obtain⟨hold,hM,cs,t,hh,hsz,_⟩:=hI.st _ (qW hb)
 simp only at hold hM hh hsz
 obtain⟨w',hr,hw',hk,e1,e2,e3,e4⟩:=Gl (P:=P) b u t vs cs 0 w hh (by omega) h1
 have hle:=hI.DN hb vs
 obtain⟨pre,post,jd,ew⟩:=rH hb
 have hnd:=hI.nd
 rw[jd]at hnd
 simp only[Y2,ZH]at hnd
 refine⟨w',hr,e1.trans hI.os,e2.trans hI.tape,e3.trans hI.output,by rw[e4];exact hI.size,fun k bY=> ?_,fun b' o v hv=> ?_,fun e he=> ?_,?_,fun g l e=>(hI.gl g l e).mono (hI.DN hb vs),hI.gw,fun b' o v hv aH=>hI.bm b' o v (by simp only[Mem.ext]at hv;rwa [if_neg (fun e=>by have:=(hI.st _ (qW hb)).1;simp only at this;omega)]at hv) aH⟩
 ·rw[hk k (by omega)];exact hI.old k bY
 ·simp only[Mem.ext]at hv
  split at hv
  ·rename_i iX
   obtain⟨rfl,h2,h3⟩:=iX
   simp only[World.cell?,hw',Option.isSome_none,ZS,Zt,over,YN]
   simp only[XN,ZA]
   rw[YR (by simp;omega)]
   rw[Zk (by simp;omega)]
   rw[← hv]
   congr 1
   simp;omega
  ·by_cases e:b'=b
   ·subst e
    rename_i iX
    have hu:o<u:=by
     rcases Nat.lt_or_ge o u with h|h
     ·exact h
     ·rw[hM o h]at hv;cases hv
    have:=hI.dB b' o v hv
    simp only[World.cell?,hh,Option.isSome_none,ZS,Zt]at this
    simp only[World.cell?,hw',Option.isSome_none,ZS,Zt,over,YN]
    simp only[XN,ZA]
    rw[Zk (by simp;omega),List.getElem?_take,if_pos hu]
    simpa using this
   ·have:=hI.dB b' o v hv
    rw[← this]
    simp only[World.cell?,hk b' e]
 ·rw[ew]at he
  have fg:e=(tg,b,.tail (u+vs.length) c)∨(e∈σ∧e.2.1≠b):=by
   rw[XT]at hnd
   rcases Zm.1 he with he|he
   ·refine .inr ⟨by rw[jd];exact Zy _ he,fun eb=> ?_⟩
    exact hnd.2.2 e.2.1 (YT he) b ZU eb
   ·rcases ZV.1 he with rfl|he
    ·exact .inl rfl
    ·refine .inr ⟨by rw[jd];exact Zj _ (ZX _ he),fun eb=> ?_⟩
     have:=(YF.1 hnd.2.1).1
     exact this (by rw[← eb];exact YT (f:=fun e:Nat×Nat×bN=>e.2.1) he)
  rcases fg with rfl|⟨he,aQ⟩
  ·refine⟨hold,fun o ho=> ?_,_,t,hw',?_,hc⟩
   ·simp[Mem.ext]
    rw[if_neg (by omega)]
    exact hM o (by omega)
   ·simp[over];omega
  ·refine⟨(hI.st e he).1,?_⟩
   have vl:=(hI.st e he).2
   obtain⟨tg',b',x⟩:=e
   simp only at aQ vl ⊢
   cases x with
   |cells l=>obtain⟨a1,cs',t',a2,a3⟩:=vl;exact⟨fun o=>by simp[Mem.ext,aQ,a1 o],cs',t',(hk b' aQ).trans a2,a3.mono hle⟩
   |tail u' c'=>obtain⟨a1,cs',t',a2,a3⟩:=vl;exact⟨fun o ho=>by simp[Mem.ext,aQ,a1 o ho],cs',t',(hk b' aQ).trans a2,a3⟩
   |map es k=>obtain⟨a1,l,a2,a3,a4⟩:=vl;exact⟨fun o=>by simp[Mem.ext,aQ,a1 o],l,(hk b' aQ).trans a2,a3,a4.mono hle⟩
 ·rw[ew]
  simp only[Y2,ZH]
  exact hnd
theorem Inv.acM{tg b:Nat}{x:bN}(hI:Inv P M w0 σ w)(hb:aN σ tg=some (b,x))(u:Nat)(cs:List Value)(t:TypeId)(hu:u≤cs.length):
  Inv P (M.add w.heap.size u cs) w0 (ct σ tg w.heap.size (.tail u cs.length)) (w.alloc (.cells cs.toArray t)):=by
 have h':=hI.Ak u cs t hu tg
 obtain⟨pre,post,jd,ew⟩:=rH hb
 refine⟨h'.os,h'.tape,h'.output,h'.size,h'.old,h'.dB,fun e he=> ?_,?_,h'.gl,h'.gw,h'.bm⟩
 ·rw[ew]at he
  refine h'.st e ?_
  rcases Zm.1 he with he|he
  ·exact ZX _ (by rw[jd];exact Zy _ he)
  ·rcases ZV.1 he with rfl|he
   ·exact ZU
   ·exact ZX _ (by rw[jd];exact Zj _ (ZX _ he))
 ·have hnd:=hI.nd
  have hf:=hI.fresh
  rw[jd]at hnd hf
  rw[ew]
  simp only[Y2,ZH]at hnd hf ⊢
  rw[XT]at hnd ⊢
  simp only[Zm,ZV,not_or]at hf
  refine⟨hnd.1,?_,fun a ha b' gr=> ?_⟩
  ·rw[YF]at hnd ⊢
   exact⟨hf.2.2,hnd.2.1.2⟩
  ·rcases ZV.1 gr with rfl|gr
   ·intro e;subst e;exact hf.1 ha
   ·exact hnd.2.2 a ha b' (ZX _ gr)
theorem KA(n:Nat):∀ (r c:Nat),c<n→256≤c→Builtin.growBy n r c≤2 * n
 |0,c,h,_=>by simp[Builtin.growBy];omega
 |r+1,c,h,h2=>by
  simp only[Builtin.growBy]
  rw[if_neg (by omega)]
  by_cases h3:c+(c+768) / 4<n
  ·exact KA n r _ h3 (by omega)
  ·cases r with
   |zero=>simp[Builtin.growBy];omega
   |succ r=>simp only[Builtin.growBy];rw[if_pos (by omega)];omega
theorem acW(n c:Nat)(h:c<n):Builtin.nextslicecap n c≤2 * n:=by
 unfold Builtin.nextslicecap
 split
 ·omega
 ·split
  ·omega
  ·exact KA n 4 c h (by omega)
theorem azB{rows rows':List (List AV)}{ag:Nat}(h:∀ i (h:i<rows.length),rows[i].length=ag)(h':∀ i (h:i<rows'.length),rows'[i].length=ag):
  ∀ i (h:i<(rows++rows').length),(rows++rows')[i].length=ag:=by
 intro i hi
 rw[List.getElem_append]
 split
 ·exact h _ _
 ·exact h' _ _
theorem Rows.join{b off ag:Nat}{rows rows':List (List AV)}{L L':List Value}{M':Mem}(h:∀ i (h:i<rows.length),rows[i].length=ag)(h':∀ i (h:i<rows'.length),rows'[i].length=ag)
  (hL:RL M' rows.flatten L) (dq:RL M' rows'.flatten L') (hM:∀ k v,(L++L')[k]? =some v→M' b (off+k)=some v):∃ cs,Rows M' b off ag (rows++rows') cs:=
 ⟨_,Rows.of_flat (azB h h') (by rw[List.flatten_append];exact RL.append hL dq) hM⟩
theorem Gi{t e u ty:TypeId}{i:TypeInfo}{z:Value}{s x:Value}{base:Option Addr}{n c n':Nat}{L L':List Value}(ht:P.underlying t=some (.slice e))(hu:(∃ e',P.underlying u=some (.slice e'))∨P.underlying u=some .string)(hi:P.info? e=some i)(hz:i.zero=some z)(hb:0<i.bytes)
  (hs:s= .slice base n c) (hx:∀ w':World,(Builtin.lenOf x).run P w'= .ok n' w') (aH:c<n+n') (nH:(n+n') * i.bytes≤35184372088832)
  (h1:(Builtin.firstCells i.size n s).run P w.drew= .ok L.toArray w.drew) (h2:(Builtin.firstCells i.size n' x).run P w.drew= .ok L'.toArray w.drew):
  ∃ (cap:Nat) (rest:List Value),n+n'≤cap∧cap≤maxLen∧rest.length=(cap-(n+n')) * z.cells.size∧
   (Builtin.append_ #[t,u] ty #[s,x]).run P w= .ok (.slice (some ⟨w.heap.size,0,none⟩) (n+n') cap) (w.drew.alloc (.cells (L++L'++rest).toArray e)):=by
 subst hs
 have aaw:=acW (n+n') c aH
 have nR:Builtin.nextslicecap (n+n') c * i.bytes≤281474976710656:=by
  have:=Nat.mul_le_mul_right i.bytes aaw
  rw[Nat.mul_assoc]at this
  omega
 have nQ:n+n'≤35184372088832:=YG (Nat.le_mul_of_pos_right _ hb) nH
 have lE:(Question.appendCap (n+n') c e).cut (w.tape w.drawn (.appendCap (n+n') c e))=n+n'+(w.tape w.drawn (.appendCap (n+n') c e)) % (2 ^ 63-(n+n')):=rfl
 have aau:(w.tape w.drawn (.appendCap (n+n') c e)) % (2 ^ 63-(n+n'))<2 ^ 63-(n+n'):=Nat.mod_lt _ (by omega)
 refine⟨(Question.appendCap (n+n') c e).cut (w.tape w.drawn (.appendCap (n+n') c e)),(Builtin.zeroCells z.cells ((Question.appendCap (n+n') c e).cut (w.tape w.drawn (.appendCap (n+n') c e))-(n+n'))).toList,?_,?_,?_,?_⟩
 ·rw[lE];omega
 ·rw[lE];unfold maxLen;omega
 ·simp[Builtin.zeroCells]
 ·have Bc:¬n+n'≤c:=by omega
  have Xz:¬Builtin.nextslicecap (n+n') c * i.bytes>281474976710656:=by omega
  have qC:i.bytes≠0:=by omega
  rcases hu with⟨e',hu⟩|hu
  all_goals(simp[Builtin.append_,aY ht,aY hu,ka hi,hx,Bc,Gk hi,qC,Xz,Question.forced,h1,h2,B0 hi hz,newRow])
  all_goals congr 2
  all_goals apply YP
  all_goals simp
theorem Inv.kq(hI:Inv P M w0 σ w):Inv P M w0 σ w.drew:=⟨hI.os,hI.tape,hI.output,hI.size,hI.old,hI.dB,hI.st,hI.nd,hI.gl,hI.gw,hI.bm⟩
theorem aed{rows:List (List AV)}(h:rows.all (fun r=>r.all AV.one)=true):rows.flatten.all AV.one=true:=by
 rw[ZF]at *
 intro x hx
 obtain⟨r,hr,Fa⟩:=List.mem_flatten.1 hx
 exact ZF.1 (h r hr) x Fa
theorem OD{t e u ty:TypeId}{i:TypeInfo}{z:Value}{x y:Operand}(ht:P.underlying t=some (.slice e))(hu:(∃ e',P.underlying u=some (.slice e'))∨P.underlying u=some .string)(hi:P.info? e=some i)(hz:i.zero=some z)(hp:0<i.size)(hb:0<i.bytes)(Ff:z.cells.size=i.size)
  (hI:Inv P M w0 σ w) (hR:bE M rg a) (h:aj P cfg d rg σ K E (.append e i.size i.bytes z.cells.toList x y)):aE P M w0 K ((Builtin.append_ #[t,u] ty #[a.eval x,a.eval y]).run P w):=by
 have hx:=hR.ev x
 have hy:=hR.ev y
 simp only[aj]at h
 split at h
 ·rename_i rows' fB qR
  rw[fB]at hx
  obtain⟨L',kG,dq,qO,qM⟩:=wm (P:=P) hI.kq hy qR
  obtain⟨nH,yf,sS⟩:=h
  rw[hx.az]
  by_cases hz0:rows'=[]
  ·subst hz0
   refine aE.same hI (.v _) (yf rfl) ?_
   obtain⟨L2,s8,cy,yr,s4⟩:=wm (P:=P) hI hy qR
   have u0:L2=[]:=by have:=cy.1;simp at this;exact ZO this.symm
   subst u0
   simp only[Z4]at s4 s8
   rcases hu with⟨e',hu⟩|hu
   all_goals simp[Builtin.append_,aY ht,aY hu,ka hi,s8,s4]
  ·have nW:0<rows'.length:=Y1.2 hz0
   obtain⟨cap,rest,ia,sP,kE,fO⟩:=Gi (P:=P) (ty:=ty) (s:= .slice none 0 0) (x:=a.eval y) (L:=[]) (L':=L') (n:=0) (c:=0) (n':=rows'.length) ht hu hi hz hb rfl kG (by omega) (by simpa using nH) (by simp[Builtin.firstCells]) qM
   rw[fO]
   simp only[Zh,Ze]at ia ⊢
   have hlen:L'.length=rows'.length * i.size:=by rw[← dq.1,mu _ qO]
   refine⟨_,_,M.add w.drew.heap.size L'.length (L'++rest),_,_,rfl,hI.kq.lO _ _,hI.kq.Ak _ _ e (by simp) _,?_,sS hz0 _ L'.length _ hlen⟩
   have hr:Rows (M.add w.drew.heap.size L'.length (L'++rest)) w.drew.heap.size 0 i.size rows' (fun k=>L'.getD k undef):=
    Rows.of_flat qO (dq.mono (hI.kq.lO _ _)) (fun k v hk=>by
     have bY:k<L'.length:=(ZN.1 hk).1
     have:M.add w.drew.heap.size L'.length (L'++rest) w.drew.heap.size (0+k)=(L'++rest)[k]? :=by simp[Mem.add,bY]
     rw[this,Zk bY,hk])
   have yv:(L'++rest).length=cap * i.size:=by
    rw[Z7,kE,hlen,Ff,Zh,← YL];congr 1;omega
   exact R.pC hr ia sP (.inr ⟨by omega,by omega⟩) hp
 ·rename_i ez tg b u' c rows rows' fB qR
  rw[fB]at hx
  obtain⟨rfl,A5,nH,vp,h⟩:=h
  obtain⟨off,cap,cs,hv,hr,h4,h5,h6,h8⟩:=hx.qZ
  obtain⟨TP,Ub,L,yt,hL,hsz,E0⟩:=BZ (P:=P) (rows:=rows) (ag:=i.size) hI.kq hx (by simp[eQ]) (fun⟨s,h⟩=>by cases h)
  obtain⟨L',kG,dq,qO,qM⟩:=wm (P:=P) hI.kq hy qR
  have hlen:L.length=rows.length * i.size:=by rw[← hL.1,mu _ hsz]
  have qH:L'.length=rows'.length * i.size:=by rw[← dq.1,mu _ qO]
  by_cases Ez:rows.length+rows'.length≤cap
  ·
   obtain⟨L2,s8,cy,yr,s4⟩:=wm (P:=P) hI hy qR
   have nP:L2.length=rows'.length * i.size:=by rw[← cy.1,mu _ yr]
   have aJb:L2.all Value.oneCell'=true:=cy.IH (aed vp)
   have LM:∀ w',(storeCells ⟨b,off+rows.length * i.size,none⟩ L2).run P w= .ok () w'→(Builtin.append_ #[t,u] ty #[a.eval x,a.eval y]).run P w= .ok (.slice (some ⟨b,off,none⟩) (rows.length+rows'.length) cap) w':=by
    intro w' hs
    rw[hv]at *
    rcases hu with⟨e',hu⟩|hu
    all_goals simp[Builtin.append_,aY ht,aY hu,ka hi,s8,Ez,s4,Addr.add_lit,hs]
   rcases h6 with h6|⟨h6,h7⟩
   ·have e1:rows=[]:=ZO (by omega)
    have e2:rows'=[]:=ZO (by omega)
    subst e1 e2
    have e3:L2=[]:=ZO (by simpa using nP)
    subst e3
    refine⟨_,w,M,_,_,LM w rfl,Mem.le.refl _,?_,?_,h b u' c (fun e=>by simpa using e)⟩
    ·obtain⟨pre,post,jd,ew⟩:=rH A5
     rw[ew,← jd]
     exact hI
    ·exact R.pC (rows:=[]++[]) (cs:=cs) ⟨fun i hi=>absurd hi (by simp),fun k hk=>absurd hk (by simp),fun i hi=>absurd hi (by simp)⟩ (by simp) h5 (.inl h6) h8
   ·have lE:(rows.length+rows'.length) * i.size≤cap * i.size:=Nat.mul_le_mul_right _ Ez
    rw[YL]at lE
    obtain⟨w',hs,hI'⟩:=Inv.ayv (P:=P) hI A5 L2 (by omega) aJb
    rw[← h6]at hs
    have hle:=hI.DN A5 L2
    refine⟨_,w',_,_,_,LM w' hs,hle,hI',?_,h b (u'+L2.length) c (fun e=>by rw[e,nP,YL])⟩
    obtain⟨L0,u0,Xf⟩:∃ L0:List Value,RL M rows.flatten L0∧∀ k v,L0[k]? =some v→M b (off+k)=some v:=⟨_,hr.flat,fun k v hk=>by
     obtain⟨gL,j1⟩:=ZN.1 hk
     simp at gL j1
     rw[← j1]
     exact hr.mem k gL⟩
    have azQ:L0.length=rows.length * i.size:=by rw[← u0.1,mu _ hsz]
    obtain⟨Jx,hj⟩:=Rows.join (M':=M.ext b u' L2) (b:=b) (off:=off) hsz yr (u0.mono hle) (cy.mono hle) (fun k v hk=>by
     by_cases aH:k<L0.length
     ·rw[Zk aH]at hk
      exact hle _ _ _ (Xf k v hk)
     ·rw[YR (by omega)]at hk
      have bY:=(ZN.1 hk).1
      simp only[Mem.ext]
      rw[if_pos ⟨trivial,by omega,by omega⟩,← hk]
      congr 1
      omega)
    have:=R.pC (t:=tg) (u:=u'+L2.length) (c:=c) hj (cap:=cap) (by simpa using Ez) h5 (.inr ⟨by rw[Z7,YL];omega,h7⟩) h8
    rw[Z7]at this
    exact this
  ·obtain⟨xt,rest,ia,sP,kE,fO⟩:=Gi (P:=P) (ty:=ty) (s:=a.eval x) (x:=a.eval y) (L:=L) (L':=L') (n:=rows.length) (c:=cap) (n':=rows'.length) ht hu hi hz hb hv kG (by omega) nH E0 qM
   rw[fO]
   have xM:=hI.kq
   have hle:=xM.lO (L++L').length (L++L'++rest)
   refine⟨_,_,M.add w.drew.heap.size (L++L').length (L++L'++rest),_,_,rfl,hle,xM.acM A5 _ _ e (by simp),?_,h _ (L++L').length _ (fun _=>by rw[Z7,hlen,qH,YL])⟩
   obtain⟨Jx,hj⟩:=Rows.join (M':=M.add w.drew.heap.size (L++L').length (L++L'++rest)) (b:=w.drew.heap.size) (off:=0) hsz qO (hL.mono hle) (dq.mono hle) (fun k v hk=>by
    have bY:k<(L++L').length:=(ZN.1 hk).1
    have:M.add w.drew.heap.size (L++L').length (L++L'++rest) w.drew.heap.size (0+k)=(L++L'++rest)[k]? :=by unfold Mem.add;rw[if_pos rfl,if_pos (by omega),Zh]
    rw[this,Zk bY,hk])
   have yv:(L++L'++rest).length=xt * i.size:=by
    rw[Z7,Z7,kE,hlen,qH,Ff,← YL,← YL];congr 1;omega
   have o9:(L++L').length=(rows++rows').length * i.size:=by
    rw[Z7,hlen,qH,Z7,YL]
   have:=R.pC (t:=tg) (u:=(L++L').length) (c:=(L++L'++rest).length) hj (cap:=xt) (by simpa using ia) sP (.inr ⟨by omega,by omega⟩) hp
   rw[Z7 (as:=rows)]at this
   exact this
 ·rename_i ez rows rows' fB qR
  rw[fB]at hx
  obtain⟨rfl,nH,yf,h⟩:=h
  obtain⟨b0,off,cs,hv,hr,h5⟩:=hx.Nq
  by_cases aQ:rows'=[]
  ·subst aQ
   refine aE.same hI hx (yf rfl) ?_
   obtain⟨L2,s8,cy,yr,s4⟩:=wm (P:=P) hI hy qR
   have u0:L2=[]:=by have:=cy.1;simp at this;exact ZO this.symm
   subst u0
   simp only[Z4]at s4 s8
   rw[hv]
   rcases hu with⟨e',hu⟩|hu
   all_goals simp[Builtin.append_,aY ht,aY hu,ka hi,s8,s4,Addr.add_lit,storeCells]
  have h:=h aQ
  have nW:0<rows'.length:=Y1.2 aQ
  obtain⟨TP,Ub,L,yt,hL,hsz,E0⟩:=BZ (P:=P) (rows:=rows) (ag:=i.size) hI.kq (hx.Wx true) (by simp[eQ]) (fun⟨s,h⟩=>by cases h)
  obtain⟨L',kG,dq,qO,qM⟩:=wm (P:=P) hI.kq hy qR
  have hlen:L.length=rows.length * i.size:=by rw[← hL.1,mu _ hsz]
  have qH:L'.length=rows'.length * i.size:=by rw[← dq.1,mu _ qO]
  obtain⟨xt,rest,ia,sP,kE,fO⟩:=Gi (P:=P) (ty:=ty) (s:=a.eval x) (x:=a.eval y) (L:=L) (L':=L') (n:=rows.length) (c:=rows.length) (n':=rows'.length) ht hu hi hz hb hv kG (by omega) nH E0 qM
  rw[fO]
  have xM:=hI.kq
  have hle:=xM.lO (L++L').length (L++L'++rest)
  refine⟨_,_,M.add w.drew.heap.size (L++L').length (L++L'++rest),_,_,rfl,hle,xM.Ak _ _ e (by simp) _,?_,h _ _ _⟩
  obtain⟨Jx,hj⟩:=Rows.join (M':=M.add w.drew.heap.size (L++L').length (L++L'++rest)) (b:=w.drew.heap.size) (off:=0) hsz qO (hL.mono hle) (dq.mono hle) (fun k v hk=>by
   have bY:k<(L++L').length:=(ZN.1 hk).1
   have:M.add w.drew.heap.size (L++L').length (L++L'++rest) w.drew.heap.size (0+k)=(L++L'++rest)[k]? :=by unfold Mem.add;rw[if_pos rfl,if_pos (by omega),Zh]
   rw[this,Zk bY,hk])
  have yv:(L++L'++rest).length=xt * i.size:=by
   rw[Z7,Z7,kE,hlen,qH,Ff,← YL,← YL];congr 1;omega
  have o9:(L++L').length=(rows++rows').length * i.size:=by
   rw[Z7,hlen,qH,Z7,YL]
  have:=R.pC (t:=d.getD 0) (u:=(L++L').length) (c:=(L++L'++rest).length) hj (cap:=xt) (by simpa using ia) sP (.inr ⟨by omega,by omega⟩) hp
  rw[Z7 (as:=rows)]at this
  exact this
 ·exact h.elim
end
end Go.Sx
