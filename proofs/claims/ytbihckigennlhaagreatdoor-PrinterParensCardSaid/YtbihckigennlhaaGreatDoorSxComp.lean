/-
  The layer Sx, third part: how operations are compiled, and that their conditions are sound.
-/
import Derived.Test.YtbihckigennlhaaGreatDoorSxOps
set_option linter.unusedVariables false
set_option linter.unusedSimpArgs false
set_option linter.unusedSectionVars false
namespace Go.Sx
open Go.RowKit
def gq(P:Program)[Glob P](t:TypeId):Option (Bool×Nat):=
 match P.underlying t,P.info? t with
 |some (.struct _),some i|some (.array _ _),some i=>some (true,i.size)
 |some _,some i=>some (false,i.size)
 |_,_=>none
def vY(P:Program)[Glob P](fs:List Field):List (Nat×Operand)→Option (List (Nat×Nat×Operand))
 |[]=>some []
 |(i,x)::l=>match fs[i]? with
  |some f=>match P.info? f.type with
   |some k=>(vY P fs l).map ((f.offset,k.size,x)::·)
   |none=>none
  |none=>none
def pz(P:Program)[Glob P](n:Nat):List Field→Option (List uz)
 |[]=>some []
 |f::fs=>if f.name≠ "_" ∧f.offset=n then
   match P.underlying f.type with
   |some (.int _)=>(pz P (n+1) fs).map (.int::·)
   |some .string=>(pz P (n+1) fs).map (.str::·)
   |some .bool=>(pz P (n+1) fs).map (.bool::·)
   |_=>none
  else none
def Ay(P:Program)[Glob P](neg:Bool)(t:TypeId)(x y:Operand):Option aw:=
 match P.underlying t with
 |some (.int _)|some .string=>some (.bin (if neg then .neq else .eql) x y)
 |some (.struct fs)=>if P.stoodInHeld t=false∧P.eqGuardType P.depth t=false then(pz P 0 fs.toList).map fun ks=> .eqs neg ks x y else none
 |some .bool=>some (.gZ neg .bool x y)
 |some (.slice _)=>some (.gZ neg .slice x y)
 |some (.map _ _)=>some (.gZ neg .map x y)
 |some (.func _ _ _)=>some (.gZ neg .func x y)
 |some (.pointer _)=>some (.gZ neg .ptr x y)
 |_=>none
def Ju(P:Program)[Glob P](c:Call):Option aw:=
 match c.callee with
 | .value (.func f)=>if gV P f then some (.call f c.args.toList)else none
 | .value f=>some (.dA f c.args.toList)
 | .builtin .len=>match c.args.toList,c.argTypes.toList with
  |[x],[t]=>match P.underlying t with
   |some .string=>some (.len true x)
   |some (.slice _)=>some (.len false x)
   |_=>none
  |_,_=>none
 | .builtin .append=>match c.args.toList,c.argTypes.toList with
  |[x,y],[t,u]=>match P.underlying t,P.underlying u with
   |some (.slice e),some (.slice _)=>match P.info? e with
    |some i=>match i.zero with
     |some z=>if 0<i.size∧0<i.bytes∧z.cells.size=i.size then some (.append e i.size i.bytes z.cells.toList x y)else none
     |none=>none
    |none=>none
   |some (.slice e),some .string=>match P.info? e with
    |some i=>match i.zero with
     |some z=>if 0<i.size∧0<i.bytes∧z.cells.size=i.size then some (.append e i.size i.bytes z.cells.toList x y)else none
     |none=>none
    |none=>none
   |_,_=>none
  |_,_=>none
 | .builtin .max=>match c.args.toList with
  |[x,y]=>some (.max2 x y)
  |_=>none
 | .builtin .min=>match c.args.toList with
  |[x,y]=>some (.min2 x y)
  |_=>none
 |_=>none
def AA(P:Program)[Glob P](o:Oper):Option aw:=
 match o.op with
 | .move x| .assign x=>some (.mv x)
 | .pick c a b=>some (.pick c a b)
 | .alloc e=>match P.info? e with
  |some i=>i.zero.map (.alloc e ·)
  |none=>none
 | .box e x=>some (.box e x)
 | .build t parts=>match P.underlying t,P.info? t with
  |some (.struct fs),some i=>if fs.toList.all (fun f=>(P.info? f.type).isSome)then
    match i.zero,vY P fs.toList parts.toList with
    |some z,some ps=>some (.build z.cells.toList ps)
    |_,_=>none
   else none
  |_,_=>none
 | .buildSlice t n parts=>match P.underlying t with
  |some (.slice e)=>match P.info? e with
   |some i=>match i.zero with
    |some z=>if parts.toList.map (·.1)=List.range n∧n * i.size≤16777216∧z.cells.size=i.size then some (.aZ e i.size (parts.toList.map (·.2)))else none
    |none=>none
   |none=>none
  |_=>none
 | .load t x=>(gq P t).map fun(g,n)=> .load g n x
 | .store t x v=>(gq P t).map fun(_,n)=> .store n x v
 | .nilCheck x=>some (.j6 x)
 | .binOp .eql t x y z=>match Ay P false t x y with
  |some i=>some i
  |none=>some (.cp (.binOp .eql t x y z) o.type (fW P o.op) [x,y])
 | .binOp .neq t x y z=>match Ay P true t x y with
  |some i=>some i
  |none=>some (.cp (.binOp .neq t x y z) o.type (fW P o.op) [x,y])
 | .binOp op _ x y _=>some (.bin op x y)
 | .unOp op _ x=>some (.un op x)
 | .convert src dst x=>match P.underlying src,P.underlying dst with
  |some (.int _),some (.int k)=>some (.ly k x)
  |some .string,some .string=>some (.oU x)
  |_,_=>some (.cp (.convert src dst x) o.type (fW P o.op) [x])
 | .makeInterface t x=>match P.underlying t with
  |some (.interface _)=>none
  |some _=>some (.lT t x)
  |none=>none
 | .makeFunc fn first captured=>some (.gi fn first.toList captured.toList)
 | .slice t x lo hi none=>match P.underlying t with
  |some (.slice e)=>match P.info? e with
   |some i=>some (.slice i.size x lo hi)
   |none=>none
  |_=>some (.cp (.slice t x lo hi none) o.type (fW P o.op) (x::(lo.toList++hi.toList)))
 | .fieldAddr t x i=>match P.underlying t with
  |some (.struct fs)=>match fs[i]? with
   |some f=>match P.info? f.type with
    |some k=>if k.size≠0 then some (.iS f.offset x)else none
    |none=>none
   |none=>none
  |_=>none
 | .field t x i=>match P.underlying t with
  |some (.struct fs)=>match fs[i]? with
   |some f=>(gq P f.type).map fun(g,n)=> .field g f.offset n x
   |none=>none
  |_=>none
 | .indexAddr t x i=>match P.underlying t with
  |some (.slice e)=>match P.info? e with
   |some k=>some (.eH k.size x i)
   |none=>none
  |some (.array n e)=>match P.info? e with
   |some k=>some (.iH n k.size x i)
   |none=>none
  |_=>none
 | .index t x i=>match P.underlying t with
  |some .string=>some (.idxs x i)
  |_=>some (.cp (.index t x i) o.type (fW P o.op) [x,i])
 | .makeMap t none=>some (.exts (.makeMap t none) o.type (fW P o.op) [])
 | .insert t m k x=>some (.exts (.insert t m k x) o.type (fW P o.op) [m,k,x])
 | .mapUpdate t m k x=>some (.exts (.mapUpdate t m k x) o.type (fW P o.op) [m,k,x])
 | .mapEntry t m k=>some (.exts (.mapEntry t m k) o.type (fW P o.op) [m,k])
 | .entryStore t m s x=>some (.exts (.entryStore t m s x) o.type (fW P o.op) [m,s,x])
 | .lookup t m k ok=>some (.cp (.lookup t m k ok) o.type (fW P o.op) [m,k])
 | .makeSlice t n c=>some (.exts (.makeSlice t n c) o.type (fW P o.op) [n,c])
 | .extract x i=>some (.extract x i)
 | .panic x=>some (.panic x)
 | .call c=>match Ju P c with
  |some i=>some i
  |none=>match c.callee with
   | .builtin _=>some (.exts (.call c) o.type (fW P o.op) c.args.toList)
   |_=>none
 |_=>none
def aE(P:Program)[Glob P](M:Mem)(w0:Base)(K:AV→Store→Prop)(r:Result Value):Prop:=
 ∃ v w' M' x σ',r= .ok v w'∧M.le M'∧Inv P M' w0 σ' w'∧R M' x v∧K x σ'
section
variable {P:Program}[Glob P]{M:Mem}{w0:Base}{w:World}{σ:Store}{K:AV→Store→Prop}{rg:ae}{a:Act}
theorem aE.same(hI:Inv P M w0 σ w){x:AV}{v:Value}(hr:R M x v)(hk:K x σ){r:Result Value}(e:r= .ok v w):aE P M w0 K r:=
 ⟨v,w,M,x,σ,e,Mem.le.refl _,hI,hr,hk⟩
theorem aY{t:TypeId}{d:TypeDesc}(h:P.underlying t=some d)(w:World):(underlying t).run P w= .ok d w:=run_underlying h w
theorem Gk{t:TypeId}{i:TypeInfo}(h:P.info? t=some i)(w:World):(typeInfo t).run P w= .ok i w:=by simp[typeInfo,h]
theorem ka{t:TypeId}{i:TypeInfo}(h:P.info? t=some i)(w:World):(sizeOf t).run P w= .ok i.size w:=by simp[sizeOf,Gk h]
theorem B0{t:TypeId}{i:TypeInfo}{z:Value}(h:P.info? t=some i)(hz:i.zero=some z)(w:World):(zeroValue t).run P w= .ok z w:=by simp[zeroValue,Gk h,hz]
theorem Df{t:TypeId}{g:Bool}{n:Nat}(h:gq P t=some (g,n))(w:World):(isAgg t).run P w= .ok g w∧(sizeOf t).run P w= .ok n w:=by
 unfold gq at h
 split at h
 ·rename_i fs i h1 h2
  simp only[Z5,Y6]at h
  obtain⟨rfl,rfl⟩:=h
  exact⟨by simp[isAgg,aY h1],ka h2 w⟩
 ·rename_i m e i h1 h2
  simp only[Z5,Y6]at h
  obtain⟨rfl,rfl⟩:=h
  exact⟨by simp[isAgg,aY h1],ka h2 w⟩
 ·rename_i d i h3 h4 h1 h2
  simp only[Z5,Y6]at h
  obtain⟨rfl,rfl⟩:=h
  refine⟨?_,ka h2 w⟩
  cases d<;>simp[isAgg,aY h1]<;>first|exact(h3 _ rfl).elim|exact(h4 _ _ rfl).elim
 ·simp at h
theorem Inv.cell{tg b:Nat}{l:List AV}(hI:Inv P M w0 σ w)(hb:aN σ tg=some (b,.cells l)){o:Nat}{y:AV}(hy:l[o]? =some y):
  ∃ v,w.cell? ⟨b,o,none⟩=some v∧R M y v:=by
 obtain⟨_,_,cs,t,hh,hl⟩:=hI.st _ (qW hb)
 obtain⟨v,hv,hr⟩:=hl.get hy
 exact⟨v,by simp[World.cell?,hh];simpa using hv,hr⟩
theorem Ot(b o n:Nat)(cs:List Value)(hn:cs.length=n)(h:∀ i (hi:i<cs.length),w.cell? ⟨b,o+i,none⟩=some cs[i]):(loadCells ⟨b,o,none⟩ n).run P w= .ok cs.toArray w:=by
 subst hn
 have:=run_loadCells_list (P:=P) (w:=w) ⟨b,o,none⟩ cs (fun j v hv=>by
  obtain⟨hj,rfl⟩:=ZN.1 hv
  rw[Addr.add_lit];exact h j hj)
 simpa using this
theorem B6{agg:Bool}{n b o:Nat}{t:TypeId}(ht:gq P t=some (agg,n))(xs:List AV)(hx:∀ i y,xs[i]? =some y→∃ v,w.cell? ⟨b,o+i,none⟩=some v∧R M y v)
  (h:if agg then n≤xs.length∧K (.agg (xs.take n)) σ else match xs[0]? with
    |some y=>K y σ
    |none=>False):∃ v x,(Instr.loadAt t (.pointer (some ⟨b,o,none⟩))).run P w= .ok v w∧R M x v∧K x σ:=by
 obtain⟨h1,h2⟩:=Df ht w
 simp only[Instr.loadAt,Instr.sureAddr,loadVar,Sem.run_bind,Sem.run_pure,Result.andThen_ok,h1]
 cases agg with
 |true=>
  simp only[Y7]at h
  obtain⟨hl,hk⟩:=h
  have:∃ cs:List Value,RL M (xs.take n) cs∧∀ i (hi:i<cs.length),w.cell? ⟨b,o+i,none⟩=some cs[i]:=by
   generalize vA:xs.take n=ys
   have hy:∀ i y,ys[i]? =some y→∃ v,w.cell? ⟨b,o+i,none⟩=some v∧R M y v:=fun i y e=>by
    subst vA
    rw[List.getElem?_take]at e
    split at e
    ·exact hx i y e
    ·simp at e
   clear vA hx hl hk
   induction ys generalizing o with
   |nil=>exact⟨[],RL.nil,fun i hi=>absurd hi (by simp)⟩
   |cons y ys ih=>
    obtain⟨v,hv,hr⟩:=hy 0 y rfl
    obtain⟨cs,hc,ku⟩:=ih (o:=o+1) (fun i z e=>by have:=hy (i+1) z (by simpa using e);rwa [show o+1+i=o+(i+1)from by omega])
    refine⟨v::cs,RL.cons hr hc,fun i hi=> ?_⟩
    cases i with
    |zero=>exact hv
    |succ i=>have:=ku i (by simpa using hi);rw[show o+(i+1)=o+1+i from by omega];simpa using this
  obtain⟨cs,hc,ku⟩:=this
  have hlen:cs.length=n:=by rw[← hc.1];simp;omega
  simp only[Y7,Sem.run_bind,h2,Result.andThen_ok,Ot b o n cs hlen ku,Sem.run_pure]
  exact⟨_,_,rfl,R.tA hc,hk⟩
 |false=>
  simp only[ZS,Zt]at h ⊢
  cases yu:xs[0]? with
  |none=>simp[yu]at h
  |some y=>
   simp only[yu]at h
   obtain⟨v,hv,hr⟩:=hx 0 y yu
   simp only[YN]at hv
   simp only[run_load,hv]
   exact⟨_,_,rfl,hr,h⟩
theorem axH{agg:Bool}{n:Nat}{x:Operand}{t:TypeId}{cfg:Nat→Nat}{d:Option Nat}{E:List PanicEntry→Store→Prop}(ht:gq P t=some (agg,n))(hI:Inv P M w0 σ w)(hR:bE M rg a)
  (h:aj P cfg d rg σ K E (.load agg n x)):aE P M w0 K ((Instr.loadAt t (a.eval x)).run P w):=by
 have hx:=hR.ev x
 simp only[aj]at h
 split at h
 ·rename_i tg b o he
  rw[he]at hx
  rw[hx.mQ]
  split at h
  ·rename_i b' l hb
   obtain⟨rfl,h⟩:=h
   suffices hs:∃ v x,(Instr.loadAt t (.pointer (some ⟨b,o,none⟩))).run P w= .ok v w∧R M x v∧K x σ by
    obtain⟨v,x,h1,h2,h3⟩:=hs;exact aE.same hI h2 h3 h1
   refine B6 ht (l.drop o) (fun i y e=> ?_) ?_
   ·rw[Ys]at e
    exact hI.cell hb e
   ·cases agg with
    |true=>
     simp only[Y7]at h ⊢
     refine⟨by simp;omega,h.2⟩
    |false=>
     simp only[ZS,Zt]at h ⊢
     rw[Ys,YN]
     exact h
  ·exact h.elim
 ·rename_i l he
  rw[he]at hx
  obtain⟨b,off,cs,hv,hM,Ed⟩:=hx.ot
  rw[hv]
  suffices hs:∃ v x,(Instr.loadAt t (.pointer (some ⟨b,off,none⟩))).run P w= .ok v w∧R M x v∧K x σ by
   obtain⟨v,x,h1,h2,h3⟩:=hs;exact aE.same hI h2 h3 h1
  refine B6 ht l (fun i y e=> ?_) h
  obtain⟨hi,rfl⟩:=ZN.1 e
  exact⟨cs i,hI.dB _ _ _ (hM i hi),Ed i hi⟩
 ·rename_i g he
  rw[he]at hx
  rw[hx.az]
  split at h
  ·rename_i l hl
   obtain⟨b,off,cs,hv,hM,Ed⟩:=(hI.gl g l hl).ot
   cases hv
   suffices hs:∃ v x,(Instr.loadAt t (.pointer (some ⟨g,0,none⟩))).run P w= .ok v w∧R M x v∧K x σ by
    obtain⟨v,x,h1,h2,h3⟩:=hs;exact aE.same hI h2 h3 h1
   refine B6 ht l (fun i y e=> ?_) h
   obtain⟨hi,rfl⟩:=ZN.1 e
   exact⟨cs i,hI.dB _ _ _ (hM i hi),Ed i hi⟩
  ·exact h.elim
 ·exact h.elim
theorem Gl(b o:Nat)(t:TypeId):∀ (vs:List Value) (cs:Array Value) (i:Nat) (w:World),w.heap[b]? =some (.cells cs t (0,0))→o+i+vs.length≤cs.size→vs.all Value.oneCell'=true→
  ∃ w',(storeCells ⟨b,o,none⟩ vs i).run P w= .ok () w'∧w'.heap[b]? =some (.cells (over cs.toList (o+i) vs).toArray t (0,0))∧(∀ k,k≠b→w'.heap[k]? =w.heap[k]?)∧w'.os=w.os∧w'.tape=w.tape∧w'.output=w.output∧w'.heap.size=w.heap.size
 |[],cs,i,w,hh,_,_=>⟨w,rfl,by simpa[over]using hh,fun _ _=>rfl,rfl,rfl,rfl,rfl⟩
 |v::vs,cs,i,w,hh,hl,h1=>by
  simp only[Z9]at hl
  simp only[List.all_cons,Z0]at h1
  have aH:o+i<cs.size:=by omega
  have hc:w.cell? ⟨b,o+i,none⟩=some (cs[o+i]):=by simp[World.cell?,hh,aH]
  have hf:w.frozen? ⟨b,o+i,none⟩=false:=by simp[World.frozen?,hh]
  have hs:(store (Addr.add ⟨b,o,none⟩ i) v).run P w= .ok () (w.setCell ⟨b,o+i,none⟩ v):=by
   rw[Addr.add_lit,run_store _ _ _ _ _ h1.1,hc]
   simp[hf]
  have hh1:(w.setCell ⟨b,o+i,none⟩ v).heap[b]? =some (.cells (cs.setIfInBounds (o+i) v) t (0,0)):=by
   simp[World.setCell,Yq,hh]
  obtain⟨w',hr,hw',hk,e1,e2,e3,e4⟩:=Gl b o t vs (cs.setIfInBounds (o+i) v) (i+1) _ hh1 (by simp;omega) h1.2
  refine⟨w',?_,?_,fun k Lk=> ?_,e1,e2,e3,e4.trans (by simp)⟩
  ·simp only[storeCells,Sem.run_bind,hs,Result.andThen_ok]
   exact hr
  ·rw[hw']
   congr 2
   apply YP
   simp only[over,Array.toList_setIfInBounds]
   have:(cs.toList.set (o+i) v).take (o+(i+1))=cs.toList.take (o+i)++[v]:=by
    rw[show o+(i+1)=o+i+1 from rfl,Zv (by simpa using aH),List.take_set_of_le (ZI _)]
    simp
   rw[this,List.drop_set_of_lt (by omega)]
   simp only[Z9,ZA,ZD,Ze]
   rw[show o+(i+1)+vs.length=o+i+(vs.length+1)from by omega]
  ·rw[hk k Lk]
   simp only[World.setCell,Yq]
   rw[if_neg (fun e=>Lk e.symm)]
theorem Inv.zM{P:Program}[Glob P]{M:Mem}{w0:Base}{w w':World}{σ:Store}(hI:Inv P M w0 σ w){tg b:Nat}{x y:bN}(hb:aN σ tg=some (b,x))(hk:∀ k,k≠b→w'.heap[k]? =w.heap[k]?)(e1:w'.os=w.os)(e2:w'.tape=w.tape)(e3:w'.output=w.output)
  (e4:w'.heap.size=w.heap.size) (hM:∀ o,M b o=none) (hy:BlkOK M w' b y):Inv P M w0 (ct σ tg b y) w':=by
 have hold:w0.heap.size≤b:=(hI.st _ (qW hb)).1
 obtain⟨pre,post,h1,h2⟩:=rH hb
 have hnd:=hI.nd
 rw[h1]at hnd
 simp only[Y2,ZH]at hnd
 refine⟨e1.trans hI.os,e2.trans hI.tape,e3.trans hI.output,by rw[e4];exact hI.size,fun k bY=> ?_,fun b' o v hv=> ?_,fun e he=> ?_,?_,hI.gl,hI.gw,hI.bm⟩
 ·rw[hk k (by omega)];exact hI.old k bY
 ·have aQ:b'≠b:=fun e=>by rw[e,hM]at hv;cases hv
  have:=hI.dB b' o v hv
  rw[← this]
  simp only[World.cell?,hk b' aQ]
 ·rw[h2]at he
  have fg:e=(tg,b,y)∨(e∈σ∧e.2.1≠b):=by
   rw[XT]at hnd
   rcases Zm.1 he with he|he
   ·refine .inr ⟨by rw[h1];exact Zy _ he,fun eb=> ?_⟩
    exact hnd.2.2 e.2.1 (YT he) b ZU eb
   ·rcases ZV.1 he with rfl|he
    ·exact .inl rfl
    ·refine .inr ⟨by rw[h1];exact Zj _ (ZX _ he),fun eb=> ?_⟩
     have:=(YF.1 hnd.2.1).1
     exact this (by rw[← eb];exact YT (f:=fun e:Nat×Nat×bN=>e.2.1) he)
  rcases fg with rfl|⟨he,aQ⟩
  ·exact⟨hold,hy⟩
  ·exact⟨(hI.st e he).1,(hI.st e he).2.heap (hk _ aQ)⟩
 ·rw[h2]
  simp only[Y2,ZH]
  exact hnd
theorem RL.IH{xs:List AV}{cs:List Value}(h:RL M xs cs)(ha:xs.all AV.one=true):cs.all Value.oneCell'=true:=by
 rw[ZF]at *
 intro v hv
 obtain⟨i,hi,rfl⟩:=Zd.1 hv
 have h1:i<xs.length:=h.1 ▸ hi
 exact(h.2 i h1 hi).one (ha _ (Y0 h1))
theorem axN{n:Nat}{x y:Operand}{t:TypeId}{g:Bool}{cfg:Nat→Nat}{d:Option Nat}{E:List PanicEntry→Store→Prop}(ht:gq P t=some (g,n))(hI:Inv P M w0 σ w)(hR:bE M rg a)
  (h:aj P cfg d rg σ K E (.store n x y)):∃ w' σ',(Instr.storeAt t (a.eval x) (a.eval y)).run P w= .ok () w'∧Inv P M w0 σ' w'∧K (.v undef) σ':=by
 have hx:=hR.ev x
 have hy:=hR.ev y
 simp only[aj]at h
 split at h
 ·rename_i tg b o l' he gd
  rw[he]at hx
  rw[hx.mQ]
  split at h
  ·rename_i b' l hb
   obtain⟨rfl,hn,ho,aH,hk⟩:=h
   have hc:=hy.cells gd
   obtain⟨_,hM,cs,t',hh,hl⟩:=hI.st _ (qW hb)
   have e1:(a.eval y).cells.size=l'.length:=by rw[hc.1,YH]
   obtain⟨w',hr,hw',bY,a1,a2,a3,a4⟩:=Gl (P:=P) b o t' (a.eval y).cells.toList cs 0 w hh (by have:=hl.1;simp at this ⊢;omega) (hc.IH ho)
   refine⟨w',_,?_,hI.zM (y:= .cells (over l o l')) hb bY a1 a2 a3 a4 hM ⟨hM,_,t',hw',?_⟩,hk⟩
   ·simp only[Instr.storeAt,Instr.sureAddr,Sem.run_bind,Sem.run_pure,Result.andThen_ok,storeVar,(Df ht w).2,e1,hn]
    simpa using hr
   ·simpa using hl.over hc o
  ·exact h.elim
 ·exact h.elim
end
theorem mu{α:Type}{ag:Nat}:∀ (rows:List (List α)),(∀ i (h:i<rows.length),rows[i].length=ag)→rows.flatten.length=rows.length * ag
 |[],_=>by simp
 |r::rows,h=>by
  have h0:=h 0 (by simp)
  simp only[YI]at h0
  have:=mu rows (fun i hi=>h (i+1) (by simpa using hi))
  simp only[Yn,Z7,Z9,this,h0,Yx]
  omega
theorem DS{α:Type}{ag:Nat}:∀ (rows:List (List α)),(∀ i (h:i<rows.length),rows[i].length=ag)→∀ i j,j<ag→(hi:i<rows.length)→rows.flatten[i * ag+j]? =rows[i][j]?
 |[],_,i,j,_,hi=>absurd hi (by simp)
 |r::rows,h,i,j,hj,hi=>by
  have h0:=h 0 (by simp)
  simp only[YI]at h0
  cases i with
  |zero=>simp[List.getElem?_append,h0,hj]
  |succ i=>
   have:=DS rows (fun i hi=>h (i+1) (by simpa using hi)) i j hj (by simpa using hi)
   simp only[Yn,XQ,← this]
   rw[YR (by rw[h0,Yx];omega)]
   congr 1
   rw[h0,Yx];omega
theorem Rows.of_flat{M:Mem}{b off ag:Nat}{rows:List (List AV)}{L:List Value}(hs:∀ i (h:i<rows.length),rows[i].length=ag)(hL:RL M rows.flatten L)(hM:∀ k v,L[k]? =some v→M b (off+k)=some v):
  Rows M b off ag rows (fun k=>L.getD k undef):=by
 have hlen:=mu rows hs
 refine⟨hs,fun k hk=> ?_,fun i hi j hj=> ?_⟩
 ·have bY:k<L.length:=by rw[← hL.1,hlen];exact hk
  have:=hM k L[k] (Z6 bY)
  simp[Z6 bY,this]
 ·have ef:j<ag:=hs i hi ▸ hj
  have hg:=DS rows hs i j ef hi
  rw[Z6 hj]at hg
  obtain⟨v,hv,hr⟩:=hL.get hg
  simp[hv,hr]
theorem Rows.flat{M:Mem}{b off ag:Nat}{rows:List (List AV)}{cs:Nat→Value}(h:Rows M b off ag rows cs):RL M rows.flatten ((List.range (rows.length * ag)).map cs):=by
 have hlen:=mu rows h.size
 refine⟨by simp[hlen],fun k h1 h2=> ?_⟩
 rw[hlen]at h1
 have he:0<ag:=by
  rcases Nat.eq_zero_or_pos ag with e|e
  ·subst e;simp at h1
  ·exact e
 have hi:k / ag<rows.length:=Nat.div_lt_of_lt_mul (by rw[YC];exact h1)
 have hj:k % ag<ag:=Nat.mod_lt _ he
 have hk:k / ag * ag+k % ag=k:=by rw[YC];exact Nat.div_add_mod k ag
 have hg:=DS rows h.size (k / ag) (k % ag) hj hi
 rw[hk]at hg
 have ef:k % ag<rows[k / ag].length:=by rw[h.size];exact hj
 rw[Z6 ef,Z6 (by rw[hlen];exact h1)]at hg
 simp only[Z5]at hg
 rw[hg]
 have:=h.rel (k / ag) hi (k % ag) ef
 rw[hk]at this
 simpa using this
def Mem.add(M:Mem)(B u:Nat)(cs:List Value):Mem:=fun b o=>if b=B then(if o<u then cs[o]? else none)else M b o
section
variable {P:Program}[Glob P]{M:Mem}{w0:Base}{w:World}{σ:Store}{K:AV→Store→Prop}{rg:ae}{a:Act}
theorem Inv.lO(hI:Inv P M w0 σ w)(u:Nat)(cs:List Value):M.le (M.add w.heap.size u cs):=fun b o v h=>by
 have aQ:b≠w.heap.size:=fun e=>by rw[e,hI.DV]at h;cases h
 simp[Mem.add,aQ,h]
theorem Inv.Dd(hI:Inv P M w0 σ w)(u:Nat)(cs:List Value)(t:TypeId):Inv P (M.add w.heap.size u cs) w0 σ (w.alloc (.cells cs.toArray t)):=by
 have h':=hI.alloc (.cells cs.toArray t)
 refine⟨h'.os,h'.tape,h'.output,h'.size,h'.old,fun b o v hv=> ?_,fun e he=>⟨(h'.st e he).1,?_⟩,h'.nd,fun g l e=>(hI.gl g l e).mono (hI.lO u cs),hI.gw,fun b o v hv aH=>hI.bm b o v (by simp only[Mem.add]at hv;rwa [if_neg (by have:=hI.size;omega)]at hv) aH⟩
 ·simp only[Mem.add]at hv
  split at hv
  ·rename_i e
   subst e
   split at hv
   ·simpa using hv
   ·cases hv
  ·exact h'.dB b o v hv
 ·obtain⟨tg,b,x⟩:=e
  have hk:=(h'.st _ he).2
  have aQ:b≠w.heap.size:=by have:=hI.BA he;simp at this;omega
  have hle:=hI.lO u cs
  cases x with
  |cells l=>obtain⟨h1,cs',t',h2,h3⟩:=hk;exact⟨fun o=>by simp[Mem.add,aQ,h1 o],cs',t',h2,h3.mono hle⟩
  |tail u' c=>obtain⟨h1,cs',t',h2,h3⟩:=hk;exact⟨fun o ho=>by simp[Mem.add,aQ,h1 o ho],cs',t',h2,h3⟩
  |map es k=>obtain⟨h1,l,h2,h3,h4⟩:=hk;exact⟨fun o=>by simp[Mem.add,aQ,h1 o],l,h2,h3,h4.mono hle⟩
theorem Inv.Ak(hI:Inv P M w0 σ w)(u:Nat)(cs:List Value)(t:TypeId)(hu:u≤cs.length)(tg:Nat):Inv P (M.add w.heap.size u cs) w0 ((tg,w.heap.size,.tail u cs.length)::σ) (w.alloc (.cells cs.toArray t)):=by
 have h':=hI.Dd u cs t
 refine⟨h'.os,h'.tape,h'.output,h'.size,h'.old,h'.dB,fun e he=> ?_,?_,h'.gl,h'.gw,h'.bm⟩
 ·rcases ZV.1 he with rfl|he
  ·exact⟨hI.size,fun o ho=>by simp[Mem.add];omega,cs.toArray,t,heap_alloc_new _ _,by simp,hu⟩
  ·exact h'.st e he
 ·simp only[ZH,YF]
  exact⟨hI.fresh,hI.nd⟩
theorem axv{cfg:Nat→Nat}{d:Option Nat}{E:List PanicEntry→Store→Prop}{x:Operand}{t:TypeId}(hI:Inv P M w0 σ w)(hR:bE M rg a)(h:aj P cfg d rg σ K E (.box t x)):
  aE P M w0 K ((Instr.box t (a.eval x)).run P w):=by
 simp only[aj]at h
 split at h
 ·rename_i l hl
  have hc:=(hR.ev x).cells hl
  refine⟨_,_,M,_,_,?_,Mem.le.refl _,hI.box t hc _,.lp _ _ _,h w.heap.size⟩
  simp[Instr.box,newVar,newRow]
 ·exact h.elim
theorem axu{cfg:Nat→Nat}{d:Option Nat}{E:List PanicEntry→Store→Prop}{t:TypeId}{i:TypeInfo}{z:Value}(hi:P.info? t=some i)(hz:i.zero=some z)(hI:Inv P M w0 σ w)
  (h:aj P cfg d rg σ K E (.alloc t z)):aE P M w0 K ((Instr.alloc t true (.tuple #[])).run P w):=by
 simp only[aj]at h
 refine⟨_,_,M,_,_,?_,Mem.le.refl _,hI.box t (RL.exact z.cells.toList) _,.lp _ _ _,h w.heap.size⟩
 simp[Instr.alloc,B0 hi hz,newVar,newRow]
theorem fw(hR:bE M rg a):∀ (l:List Operand),RL M (aU rg l) (l.map a.eval)
 |[]=>RL.nil
 |x::l=>RL.cons (hR.ev x) (fw hR l)
theorem DU(off:Nat):∀ (l:List Value) (j:Nat) (cs:Array Value),off+j+l.length≤cs.size→
  (l.zipIdx j).foldl (fun cs (c,j)=>cs.setIfInBounds (off+j) c) cs=(over cs.toList (off+j) l).toArray
 |[],j,cs,_=>by simp[over]
 |c::l,j,cs,h=>by
  simp only[Z9]at h
  have aH:off+j<cs.size:=by omega
  simp only[List.zipIdx_cons,List.foldl_cons]
  rw[DU off l (j+1) _ (by simp;omega)]
  apply YP
  simp only[over,Array.toList_setIfInBounds]
  have:(cs.toList.set (off+j) c).take (off+(j+1))=cs.toList.take (off+j)++[c]:=by
   rw[show off+(j+1)=off+j+1 from rfl,Zv (by simpa using aH),List.take_set_of_le (ZI _)]
   simp
  rw[this,List.drop_set_of_lt (by omega)]
  simp only[Z9,ZA,ZD,Ze]
  rw[show off+(j+1)+l.length=off+j+(l.length+1)from by omega]
inductive PM(place:Nat→Option (Nat×Nat)):List (Nat×Operand)→List (Nat×Nat×Operand)→Prop
 |nil:PM place [] []
 |cons (i off n:Nat) (x:Operand) (l:List (Nat×Operand)) (ps:List (Nat×Nat×Operand)) (h:place i=some (off,n)) (t:PM place l ps):PM place ((i,x)::l) ((off,n,x)::ps)
theorem OE(hR:bE M rg a)(place:Nat→Option (Nat×Nat)):∀ (parts:List (Nat×Operand)) (ps:List (Nat×Nat×Operand)) (cs:Array Value) (l l':List AV),RL M l cs.toList→
  PM place parts ps→uX l (oY rg ps)=some l'→
  ∃ cs':Array Value,Instr.fill place cs (parts.map fun(i,x)=>(i,a.eval x))=some cs'∧RL M l' cs'.toList
 |[],ps,cs,l,l',hl,hp,hf=>by
  cases hp
  simp only[oY,uX,Z5]at hf
  subst hf
  exact⟨cs,rfl,hl⟩
 |(i,x)::parts,ps,cs,l,l',hl,hp,hf=>by
  cases hp with
  |cons _ off n _ _ bg qJ h2=>
   simp only[oY,uX]at hf
   split at hf
   ·rename_i lx hlx
    split at hf
    ·rename_i hc
     have hx:=(hR.ev x).cells hlx
     have e1:(a.eval x).cells.size=n:=by rw[← hc.1,hx.1,YH]
     have e2:cs.size=l.length:=by rw[hl.1,YH]
     have hov:=DU off (a.eval x).cells.toList 0 cs (by simp;omega)
     obtain⟨cs',h3,h4⟩:=OE hR place parts bg (over cs.toList off (a.eval x).cells.toList).toArray (over l off lx) l' (by simpa using hl.over hx off) h2 hf
     refine⟨cs',?_,h4⟩
     simp only[ZH,Instr.fill,qJ]
     rw[if_neg (by simp;omega)]
     rw[← h3]
     congr 1
     rw[← Array.foldl_toList,Array.toList_zipIdx]
     simpa using hov
    ·cases hf
   ·cases hf
theorem NP(fs:List Field)(place:Nat→Option (Nat×Nat))(hp:∀ i f k,fs[i]? =some f→P.info? f.type=some k→place i=some (f.offset,k.size)):
  ∀ (l:List (Nat×Operand)) (ps:List (Nat×Nat×Operand)),vY P fs l=some ps→PM place l ps
 |[],ps,h=>by simp[vY]at h;subst h;exact .nil
 |(i,x)::l,ps,h=>by
  simp only[vY]at h
  split at h
  ·rename_i f hf
   split at h
   ·rename_i k hk
    rw[ZR]at h
    obtain⟨bg,h1,rfl⟩:=h
    exact .cons _ _ _ _ _ _ (hp i f k hf hk) (NP fs place hp l bg h1)
   ·cases h
  ·cases h
theorem run_places(w:World):∀ (fs:List Field),fs.all (fun f=>(P.info? f.type).isSome)=true→
  ∃ pl:List (Nat×Nat),(fs.mapM (fun f:Field=>do pure (f.offset,← sizeOf f.type)):Sem (List (Nat×Nat))).run P w= .ok pl w∧∀ (i:Nat) (f:Field) (k:TypeInfo),fs[i]? =some f→P.info? f.type=some k→pl[i]? =some (f.offset,k.size)
 |[],_=>⟨[],rfl,fun i f k h=>by simp at h⟩
 |f::fs,h=>by
  simp only[List.all_cons,Z0]at h
  obtain⟨k0,o7⟩:=Ym.1 h.1
  obtain⟨pl,h1,h2⟩:=run_places w fs h.2
  refine⟨(f.offset,k0.size)::pl,?_,fun i g k hg hk=> ?_⟩
  ·simp only[List.mapM_cons,Sem.run_bind,ka o7,Result.andThen_ok,Sem.run_pure,h1]
  ·cases i with
   |zero=>
    simp only[List.getElem?_cons_zero,Z5]at hg
    subst hg
    rw[o7]at hk
    cases hk
    rfl
   |succ i=>simpa using h2 i g k (by simpa using hg) hk
theorem axw{cfg:Nat→Nat}{d:Option Nat}{E:List PanicEntry→Store→Prop}{t:TypeId}{i:TypeInfo}{z:Value}{fs:Array Field}{parts:Array (Nat×Operand)}{ps:List (Nat×Nat×Operand)}
  (ht:P.underlying t=some (.struct fs)) (hi:P.info? t=some i) (hz:i.zero=some z) (azY:fs.toList.all (fun f=>(P.info? f.type).isSome)=true) (al:vY P fs.toList parts.toList=some ps)
  (hI:Inv P M w0 σ w) (hR:bE M rg a) (h:aj P cfg d rg σ K E (.build z.cells.toList ps)):aE P M w0 K ((Instr.build t (parts.map fun(i,x)=>(i,a.eval x))).run P w):=by
 simp only[aj]at h
 split at h
 ·rename_i l hl
  obtain⟨pl,h1,h2⟩:=run_places (P:=P) w fs.toList azY
  obtain⟨cs',h3,h4⟩:=OE hR (fun i:Nat=>pl[i]?) parts.toList ps z.cells (z.cells.toList.map .v) l (RL.exact _) (NP fs.toList _ h2 _ _ al) hl
  refine aE.same hI (v:= .agg cs') ?_ h ?_
  ·have:=R.tA h4;simpa using this
  ·have WY:(fs.mapM (fun f:Field=>do pure (f.offset,← sizeOf f.type)):Sem (Array (Nat×Nat))).run P w= .ok pl.toArray w:=by
    rw[Array.mapM_eq_mapM_toList,Sem.run_map,h1]
    rfl
   simp only[Instr.build,Sem.run_bind,B0 hi hz,Result.andThen_ok,aY ht,WY,Array.toList_map]
   have e:(fun x:Nat=>pl.toArray[x]?)=(fun i:Nat=>pl[i]?):=by funext i;simp
   simp only[e,h3,Sem.run_pure]
 ·exact h.elim
theorem Om{ag:Nat}:∀ (xs:List AV) (rows:List (List AV)) (vs:List Value),rowsOf ag xs=some rows→RL M xs vs→RL M rows.flatten (vs.flatMap fun v=>v.cells.toList)∧rows.length=xs.length∧
  (∀ i (h:i<rows.length),rows[i].length=ag)∧∀ v∈vs,v.cells.size=ag
 |[],rows,vs,h,k=>by
  simp[rowsOf]at h;subst h
  obtain rfl:=k.ub
  exact⟨RL.nil,rfl,fun i hi=>absurd hi (by simp),fun v hv=>by cases hv⟩
 |x::xs,rows,vs,h,k=>by
  obtain⟨v,iu,rfl,hx,fa⟩:=k.cN
  simp only[rowsOf]at h
  split at h
  ·rename_i r hr
   split at h
   ·rename_i he
    rw[ZR]at h
    obtain⟨rows',h1,rfl⟩:=h
    obtain⟨a1,a2,a3,a4⟩:=Om xs rows' iu h1 fa
    have hc:=hx.cells hr
    refine⟨by simpa using RL.append hc a1,by simp[a2],fun i hi=> ?_,fun u hu=> ?_⟩
    ·cases i with
     |zero=>exact he
     |succ i=>exact a3 i (by simpa using hi)
    ·rcases ZV.1 hu with rfl|hu
     ·rw[← he,hc.1,YH]
     ·exact a4 u hu
   ·cases h
  ·cases h
theorem Ko(ag:Nat):∀ (vs:List Value) (k:Nat) (cs:Array Value),(∀ v∈vs,v.cells.size=ag)→k * ag+vs.length * ag≤cs.size→
  Instr.fill (fun i=>some (i * ag,ag)) cs ((List.range' k vs.length).zip vs)=some (over cs.toList (k * ag) (vs.flatMap fun v=>v.cells.toList)).toArray
 |[],k,cs,_,_=>by simp[Instr.fill,over]
 |v::vs,k,cs,h,hl=>by
  have hv:=h v (by simp)
  have hlen:∀ vs:List Value,(∀ v∈vs,v.cells.size=ag)→(vs.flatMap fun v=>v.cells.toList).length=vs.length * ag:=by
   intro vs
   induction vs with
   |nil=>simp
   |cons u us ih=>intro hh;simp only[List.flatMap_cons,Z7,YH,hh u (by simp),ih (fun w hw=>hh w (by simp[hw])),Z9,Yx];omega
  simp only[Z9,Yx]at hl
  simp only[Z9,List.range'_succ,List.zip_cons_cons,Instr.fill]
  rw[if_neg (by simp;omega)]
  rw[← Array.foldl_toList,Array.toList_zipIdx,DU (k * ag) v.cells.toList 0 cs (by simp;omega)]
  simp only[YN]
  rw[Ko ag vs (k+1) _ (fun u hu=>h u (by simp[hu])) (by simp[over,hv];rw[Yx];omega)]
  congr 2
  simp only[over,List.flatMap_cons,Z7,YH,hv,Yx]
  rw[YQ (by simp;omega)]
  have e1:(cs.toList.take (k * ag)++v.cells.toList).length=k * ag+ag:=by simp[hv];omega
  rw[ZC (by omega),List.drop_append,Yc (by omega),e1]
  simp only[Ze,ZA,YK]
  congr 3
  congr 1
  omega
end
end Go.Sx
