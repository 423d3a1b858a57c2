/-
  The layer Sx, third part: how operations are compiled, and that their conditions are sound.
-/
import Derived.Test.YtbihckigennlhaaGreatDoorSxOps
set_option linter.unusedVariables false
set_option linter.unusedSimpArgs false
set_option linter.unusedSectionVars false
namespace Go.Sx
open Go.RowKit
def fR(P:Program)[Glob P](t:TypeId):Option (Bool×Nat):=
 match P.underlying t,P.info? t with
 |some (.struct _),some i|some (.array _ _),some i=>some (true,i.size)
 |some _,some i=>some (false,i.size)
 |_,_=>none
def uX(P:Program)[Glob P](fs:List Field):List (Nat×Operand)→Option (List (Nat×Nat×Operand))
 |[]=>some []
 |(i,x)::l=>match fs[i]? with
  |some f=>match P.info? f.type with
   |some k=>(uX P fs l).map ((f.offset,k.size,x)::·)
   |none=>none
  |none=>none
def oz(P:Program)[Glob P](n:Nat):List Field→Option (List sZ)
 |[]=>some []
 |f::fs=>if f.name≠ "_" ∧f.offset=n then
   match P.underlying f.type with
   |some (.int _)=>(oz P (n+1) fs).map (.int::·)
   |some .string=>(oz P (n+1) fs).map (.str::·)
   |some .bool=>(oz P (n+1) fs).map (.bool::·)
   |_=>none
  else none
def yG(P:Program)[Glob P](neg:Bool)(t:TypeId)(x y:Operand):Option au:=
 match P.underlying t with
 |some (.int _)|some .string=>some (.bin (if neg then .neq else .eql) x y)
 |some (.struct fs)=>if P.stoodInHeld t=false∧P.eqGuardType P.depth t=false then(oz P 0 fs.toList).map fun ks=> .eqs neg ks x y else none
 |some .bool=>some (.gz neg .bool x y)
 |some (.slice _)=>some (.gz neg .slice x y)
 |some (.map _ _)=>some (.gz neg .map x y)
 |some (.func _ _ _)=>some (.gz neg .func x y)
 |some (.pointer _)=>some (.gz neg .ptr x y)
 |_=>none
def HA(P:Program)[Glob P](c:Call):Option au:=
 match c.callee with
 | .value (.func f)=>if gx P f then some (.call f c.args.toList)else none
 | .value f=>some (.dp f c.args.toList)
 | .builtin .len=>match c.args.toList,c.argTypes.toList with
  |[x],[t]=>match P.underlying t with
   |some .string=>some (.len true x)
   |some (.slice _)=>some (.len false x)
   |_=>none
  |_,_=>none
 | .builtin .append=>match c.args.toList,c.argTypes.toList with
  |[x,y],[t,u]=>match P.underlying t,P.underlying u with
   |some (.slice e),some (.slice _)=>match P.info? e with
    |some i=>match i.zero with
     |some z=>if 0<i.size∧0<i.bytes∧z.cells.size=i.size then some (.append e i.size i.bytes z.cells.toList x y)else none
     |none=>none
    |none=>none
   |some (.slice e),some .string=>match P.info? e with
    |some i=>match i.zero with
     |some z=>if 0<i.size∧0<i.bytes∧z.cells.size=i.size then some (.append e i.size i.bytes z.cells.toList x y)else none
     |none=>none
    |none=>none
   |_,_=>none
  |_,_=>none
 | .builtin .max=>match c.args.toList with
  |[x,y]=>some (.max2 x y)
  |_=>none
 | .builtin .min=>match c.args.toList with
  |[x,y]=>some (.min2 x y)
  |_=>none
 |_=>none
def yI(P:Program)[Glob P](o:Oper):Option au:=
 match o.op with
 | .move x| .assign x=>some (.mv x)
 | .pick c a b=>some (.pick c a b)
 | .alloc e=>match P.info? e with
  |some i=>i.zero.map (.alloc e ·)
  |none=>none
 | .box e x=>some (.box e x)
 | .build t parts=>match P.underlying t,P.info? t with
  |some (.struct fs),some i=>if fs.toList.all (fun f=>(P.info? f.type).isSome)then
    match i.zero,uX P fs.toList parts.toList with
    |some z,some ps=>some (.build z.cells.toList ps)
    |_,_=>none
   else none
  |_,_=>none
 | .buildSlice t n parts=>match P.underlying t with
  |some (.slice e)=>match P.info? e with
   |some i=>match i.zero with
    |some z=>if parts.toList.map (·.1)=List.range n∧n * i.size≤16777216∧z.cells.size=i.size then some (.bh e i.size (parts.toList.map (·.2)))else none
    |none=>none
   |none=>none
  |_=>none
 | .load t x=>(fR P t).map fun(g,n)=> .load g n x
 | .store t x v=>(fR P t).map fun(_,n)=> .store n x v
 | .nilCheck x=>some (.jw x)
 | .binOp .eql t x y z=>match yG P false t x y with
  |some i=>some i
  |none=>some (.b8 (.binOp .eql t x y z) o.type (fz P o.op) [x,y])
 | .binOp .neq t x y z=>match yG P true t x y with
  |some i=>some i
  |none=>some (.b8 (.binOp .neq t x y z) o.type (fz P o.op) [x,y])
 | .binOp op _ x y _=>some (.bin op x y)
 | .unOp op _ x=>some (.un op x)
 | .convert src dst x=>match P.underlying src,P.underlying dst with
  |some (.int _),some (.int k)=>some (.kj k x)
  |some .string,some .string=>some (.nU x)
  |_,_=>some (.b8 (.convert src dst x) o.type (fz P o.op) [x])
 | .makeInterface t x=>match P.underlying t with
  |some (.interface _)=>none
  |some _=>some (.kK t x)
  |none=>none
 | .makeFunc fn first captured=>some (.fI fn first.toList captured.toList)
 | .slice t x lo hi none=>match P.underlying t with
  |some (.slice e)=>match P.info? e with
   |some i=>some (.slice i.size x lo hi)
   |none=>none
  |_=>some (.b8 (.slice t x lo hi none) o.type (fz P o.op) (x::(lo.toList++hi.toList)))
 | .fieldAddr t x i=>match P.underlying t with
  |some (.struct fs)=>match fs[i]? with
   |some f=>match P.info? f.type with
    |some k=>if k.size≠0 then some (.ig f.offset x)else none
    |none=>none
   |none=>none
  |_=>none
 | .field t x i=>match P.underlying t with
  |some (.struct fs)=>match fs[i]? with
   |some f=>(fR P f.type).map fun(g,n)=> .field g f.offset n x
   |none=>none
  |_=>none
 | .indexAddr t x i=>match P.underlying t with
  |some (.slice e)=>match P.info? e with
   |some k=>some (.er k.size x i)
   |none=>none
  |some (.array n e)=>match P.info? e with
   |some k=>some (.gV n k.size x i)
   |none=>none
  |_=>none
 | .index t x i=>match P.underlying t with
  |some .string=>some (.idxs x i)
  |_=>some (.b8 (.index t x i) o.type (fz P o.op) [x,i])
 | .makeMap t none=>some (.exts (.makeMap t none) o.type (fz P o.op) [])
 | .insert t m k x=>some (.exts (.insert t m k x) o.type (fz P o.op) [m,k,x])
 | .mapUpdate t m k x=>some (.exts (.mapUpdate t m k x) o.type (fz P o.op) [m,k,x])
 | .mapEntry t m k=>some (.exts (.mapEntry t m k) o.type (fz P o.op) [m,k])
 | .entryStore t m s x=>some (.exts (.entryStore t m s x) o.type (fz P o.op) [m,s,x])
 | .lookup t m k ok=>some (.b8 (.lookup t m k ok) o.type (fz P o.op) [m,k])
 | .makeSlice t n c=>some (.exts (.makeSlice t n c) o.type (fz P o.op) [n,c])
 | .extract x i=>some (.extract x i)
 | .panic x=>some (.panic x)
 | .call c=>match HA P c with
  |some i=>some i
  |none=>match c.callee with
   | .builtin _=>some (.exts (.call c) o.type (fz P o.op) c.args.toList)
   |_=>none
 |_=>none
def aA(P:Program)[Glob P](M:Mem)(w0:Base)(K:AV→Store→Prop)(r:Result Value):Prop:=
 ∃ v w' M' x σ',r= .ok v w'∧M.le M'∧Inv P M' w0 σ' w'∧R M' x v∧K x σ'
section
variable {P:Program}[Glob P]{M:Mem}{w0:Base}{w:World}{σ:Store}{K:AV→Store→Prop}{rg:ae}{a:Act}
theorem aA.same(hI:Inv P M w0 σ w){x:AV}{v:Value}(hr:R M x v)(hk:K x σ){r:Result Value}(e:r= .ok v w):aA P M w0 K r:=
 ⟨v,w,M,x,σ,e,Mem.le.refl _,hI,hr,hk⟩
theorem aV{t:TypeId}{d:TypeDesc}(h:P.underlying t=some d)(w:World):(underlying t).run P w= .ok d w:=run_underlying h w
theorem Ey{t:TypeId}{i:TypeInfo}(h:P.info? t=some i)(w:World):(typeInfo t).run P w= .ok i w:=by simp[typeInfo,h]
theorem jA{t:TypeId}{i:TypeInfo}(h:P.info? t=some i)(w:World):(sizeOf t).run P w= .ok i.size w:=by simp[sizeOf,Ey h]
theorem Ax{t:TypeId}{i:TypeInfo}{z:Value}(h:P.info? t=some i)(hz:i.zero=some z)(w:World):(zeroValue t).run P w= .ok z w:=by simp[zeroValue,Ey h,hz]
theorem BP{t:TypeId}{g:Bool}{n:Nat}(h:fR P t=some (g,n))(w:World):(isAgg t).run P w= .ok g w∧(sizeOf t).run P w= .ok n w:=by
 unfold fR at h
 split at h
 ·rename_i fs i h1 h2
  simp only[Z6,Y5]at h
  obtain⟨rfl,rfl⟩:=h
  exact⟨by simp[isAgg,aV h1],jA h2 w⟩
 ·rename_i m e i h1 h2
  simp only[Z6,Y5]at h
  obtain⟨rfl,rfl⟩:=h
  exact⟨by simp[isAgg,aV h1],jA h2 w⟩
 ·rename_i d i h3 h4 h1 h2
  simp only[Z6,Y5]at h
  obtain⟨rfl,rfl⟩:=h
  refine⟨?_,jA h2 w⟩
  cases d<;>simp[isAgg,aV h1]<;>first|exact(h3 _ rfl).elim|exact(h4 _ _ rfl).elim
 ·simp at h
theorem Inv.cell{tg b:Nat}{l:List AV}(hI:Inv P M w0 σ w)(hb:aK σ tg=some (b,.cells l)){o:Nat}{y:AV}(hy:l[o]? =some y):
  ∃ v,w.cell? ⟨b,o,none⟩=some v∧R M y v:=by
 obtain⟨_,_,cs,t,hh,hl⟩:=hI.st _ (pV hb)
 obtain⟨v,hv,hr⟩:=hl.get hy
 exact⟨v,by simp[World.cell?,hh];simpa using hv,hr⟩
theorem Mf(b o n:Nat)(cs:List Value)(hn:cs.length=n)(h:∀ i (hi:i<cs.length),w.cell? ⟨b,o+i,none⟩=some cs[i]):(loadCells ⟨b,o,none⟩ n).run P w= .ok cs.toArray w:=by
 subst hn
 have:=run_loadCells_list (P:=P) (w:=w) ⟨b,o,none⟩ cs (fun j v hv=>by
  obtain⟨hj,rfl⟩:=ZP.1 hv
  rw[Addr.add_lit];exact h j hj)
 simpa using this
theorem AD{agg:Bool}{n b o:Nat}{t:TypeId}(ht:fR P t=some (agg,n))(xs:List AV)(hx:∀ i y,xs[i]? =some y→∃ v,w.cell? ⟨b,o+i,none⟩=some v∧R M y v)
  (h:if agg then n≤xs.length∧K (.agg (xs.take n)) σ else match xs[0]? with
    |some y=>K y σ
    |none=>False):∃ v x,(Instr.loadAt t (.pointer (some ⟨b,o,none⟩))).run P w= .ok v w∧R M x v∧K x σ:=by
 obtain⟨h1,h2⟩:=BP ht w
 simp only[Instr.loadAt,Instr.sureAddr,loadVar,Sem.run_bind,Sem.run_pure,Result.andThen_ok,h1]
 cases agg with
 |true=>
  simp only[Ze]at h
  obtain⟨hl,hk⟩:=h
  have:∃ cs:List Value,RL M (xs.take n) cs∧∀ i (hi:i<cs.length),w.cell? ⟨b,o+i,none⟩=some cs[i]:=by
   generalize uz:xs.take n=ys
   have hy:∀ i y,ys[i]? =some y→∃ v,w.cell? ⟨b,o+i,none⟩=some v∧R M y v:=fun i y e=>by
    subst uz
    rw[List.getElem?_take]at e
    split at e
    ·exact hx i y e
    ·simp at e
   clear uz hx hl hk
   induction ys generalizing o with
   |nil=>exact⟨[],RL.nil,fun i hi=>absurd hi (by simp)⟩
   |cons y ys ih=>
    obtain⟨v,hv,hr⟩:=hy 0 y rfl
    obtain⟨cs,hc,jL⟩:=ih (o:=o+1) (fun i z e=>by have:=hy (i+1) z (by simpa using e);rwa [show o+1+i=o+(i+1)from by omega])
    refine⟨v::cs,RL.cons hr hc,fun i hi=> ?_⟩
    cases i with
    |zero=>exact hv
    |succ i=>have:=jL i (by simpa using hi);rw[show o+(i+1)=o+1+i from by omega];simpa using this
  obtain⟨cs,hc,jL⟩:=this
  have hlen:cs.length=n:=by rw[← hc.1];simp;omega
  simp only[Ze,Sem.run_bind,h2,Result.andThen_ok,Mf b o n cs hlen jL,Sem.run_pure]
  exact⟨_,_,rfl,R.uL hc,hk⟩
 |false=>
  simp only[ZT,ZA]at h ⊢
  cases xk:xs[0]? with
  |none=>simp[xk]at h
  |some y=>
   simp only[xk]at h
   obtain⟨v,hv,hr⟩:=hx 0 y xk
   simp only[YT]at hv
   simp only[run_load,hv]
   exact⟨_,_,rfl,hr,h⟩
theorem arR{agg:Bool}{n:Nat}{x:Operand}{t:TypeId}{cfg:Nat→Nat}{d:Option Nat}{E:List PanicEntry→Store→Prop}(ht:fR P t=some (agg,n))(hI:Inv P M w0 σ w)(hR:bB M rg a)
  (h:aj P cfg d rg σ K E (.load agg n x)):aA P M w0 K ((Instr.loadAt t (a.eval x)).run P w):=by
 have hx:=hR.ev x
 simp only[aj]at h
 split at h
 ·rename_i tg b o he
  rw[he]at hx
  rw[hx.lX]
  split at h
  ·rename_i b' l hb
   obtain⟨rfl,h⟩:=h
   suffices hs:∃ v x,(Instr.loadAt t (.pointer (some ⟨b,o,none⟩))).run P w= .ok v w∧R M x v∧K x σ by
    obtain⟨v,x,h1,h2,h3⟩:=hs;exact aA.same hI h2 h3 h1
   refine AD ht (l.drop o) (fun i y e=> ?_) ?_
   ·rw[Yj]at e
    exact hI.cell hb e
   ·cases agg with
    |true=>
     simp only[Ze]at h ⊢
     refine⟨by simp;omega,h.2⟩
    |false=>
     simp only[ZT,ZA]at h ⊢
     rw[Yj,YT]
     exact h
  ·exact h.elim
 ·rename_i l he
  rw[he]at hx
  obtain⟨b,off,cs,hv,hM,CL⟩:=hx.nw
  rw[hv]
  suffices hs:∃ v x,(Instr.loadAt t (.pointer (some ⟨b,off,none⟩))).run P w= .ok v w∧R M x v∧K x σ by
   obtain⟨v,x,h1,h2,h3⟩:=hs;exact aA.same hI h2 h3 h1
  refine AD ht l (fun i y e=> ?_) h
  obtain⟨hi,rfl⟩:=ZP.1 e
  exact⟨cs i,hI.dr _ _ _ (hM i hi),CL i hi⟩
 ·rename_i g he
  rw[he]at hx
  rw[hx.ax]
  split at h
  ·rename_i l hl
   obtain⟨b,off,cs,hv,hM,CL⟩:=(hI.gl g l hl).nw
   cases hv
   suffices hs:∃ v x,(Instr.loadAt t (.pointer (some ⟨g,0,none⟩))).run P w= .ok v w∧R M x v∧K x σ by
    obtain⟨v,x,h1,h2,h3⟩:=hs;exact aA.same hI h2 h3 h1
   refine AD ht l (fun i y e=> ?_) h
   obtain⟨hi,rfl⟩:=ZP.1 e
   exact⟨cs i,hI.dr _ _ _ (hM i hi),CL i hi⟩
  ·exact h.elim
 ·exact h.elim
theorem Ez(b o:Nat)(t:TypeId):∀ (vs:List Value) (cs:Array Value) (i:Nat) (w:World),w.heap[b]? =some (.cells cs t (0,0))→o+i+vs.length≤cs.size→vs.all Value.oneCell'=true→
  ∃ w',(storeCells ⟨b,o,none⟩ vs i).run P w= .ok () w'∧w'.heap[b]? =some (.cells (over cs.toList (o+i) vs).toArray t (0,0))∧(∀ k,k≠b→w'.heap[k]? =w.heap[k]?)∧w'.os=w.os∧w'.tape=w.tape∧w'.output=w.output∧w'.heap.size=w.heap.size
 |[],cs,i,w,hh,_,_=>⟨w,rfl,by simpa[over]using hh,fun _ _=>rfl,rfl,rfl,rfl,rfl⟩
 |v::vs,cs,i,w,hh,hl,h1=>by
  simp only[Z8]at hl
  simp only[List.all_cons,Z3]at h1
  have aE:o+i<cs.size:=by omega
  have hc:w.cell? ⟨b,o+i,none⟩=some (cs[o+i]):=by simp[World.cell?,hh,aE]
  have hf:w.frozen? ⟨b,o+i,none⟩=false:=by simp[World.frozen?,hh]
  have hs:(store (Addr.add ⟨b,o,none⟩ i) v).run P w= .ok () (w.setCell ⟨b,o+i,none⟩ v):=by
   rw[Addr.add_lit,run_store _ _ _ _ _ h1.1,hc]
   simp[hf]
  have Vb:(w.setCell ⟨b,o+i,none⟩ v).heap[b]? =some (.cells (cs.setIfInBounds (o+i) v) t (0,0)):=by
   simp[World.setCell,Yy,hh]
  obtain⟨w',hr,ou,hk,e1,e2,e3,e4⟩:=Ez b o t vs (cs.setIfInBounds (o+i) v) (i+1) _ Vb (by simp;omega) h1.2
  refine⟨w',?_,?_,fun k JC=> ?_,e1,e2,e3,e4.trans (by simp)⟩
  ·simp only[storeCells,Sem.run_bind,hs,Result.andThen_ok]
   exact hr
  ·rw[ou]
   congr 2
   apply YX
   simp only[over,Array.toList_setIfInBounds]
   have:(cs.toList.set (o+i) v).take (o+(i+1))=cs.toList.take (o+i)++[v]:=by
    rw[show o+(i+1)=o+i+1 from rfl,Zt (by simpa using aE),List.take_set_of_le (ZK _)]
    simp
   rw[this,List.drop_set_of_lt (by omega)]
   simp only[Z8,Zv,ZH,Zh]
   rw[show o+(i+1)+vs.length=o+i+(vs.length+1)from by omega]
  ·rw[hk k JC]
   simp only[World.setCell,Yy]
   rw[if_neg (fun e=>JC e.symm)]
theorem Inv.ya{P:Program}[Glob P]{M:Mem}{w0:Base}{w w':World}{σ:Store}(hI:Inv P M w0 σ w){tg b:Nat}{x y:cp}(hb:aK σ tg=some (b,x))(hk:∀ k,k≠b→w'.heap[k]? =w.heap[k]?)(e1:w'.os=w.os)(e2:w'.tape=w.tape)(e3:w'.output=w.output)
  (e4:w'.heap.size=w.heap.size) (hM:∀ o,M b o=none) (hy:BlkOK M w' b y):Inv P M w0 (ck σ tg b y) w':=by
 have hold:w0.heap.size≤b:=(hI.st _ (pV hb)).1
 obtain⟨pre,post,h1,h2⟩:=qq hb
 have hnd:=hI.nd
 rw[h1]at hnd
 simp only[Y2,ZL]at hnd
 refine⟨e1.trans hI.os,e2.trans hI.tape,e3.trans hI.output,by rw[e4];exact hI.size,fun k bU=> ?_,fun b' o v hv=> ?_,fun e he=> ?_,?_,hI.gl,hI.gw,hI.bm⟩
 ·rw[hk k (by omega)];exact hI.old k bU
 ·have aR:b'≠b:=fun e=>by rw[e,hM]at hv;cases hv
  have:=hI.dr b' o v hv
  rw[← this]
  simp only[World.cell?,hk b' aR]
 ·rw[h2]at he
  have iy:e=(tg,b,y)∨(e∈σ∧e.2.1≠b):=by
   rw[X7]at hnd
   rcases Zl.1 he with he|he
   ·refine .inr ⟨by rw[h1];exact ZC _ he,fun eb=> ?_⟩
    exact hnd.2.2 e.2.1 (YW he) b ZR eb
   ·rcases ZU.1 he with rfl|he
    ·exact .inl rfl
    ·refine .inr ⟨by rw[h1];exact Zp _ (ZX _ he),fun eb=> ?_⟩
     have:=(YL.1 hnd.2.1).1
     exact this (by rw[← eb];exact YW (f:=fun e:Nat×Nat×cp=>e.2.1) he)
  rcases iy with rfl|⟨he,aR⟩
  ·exact⟨hold,hy⟩
  ·exact⟨(hI.st e he).1,(hI.st e he).2.heap (hk _ aR)⟩
 ·rw[h2]
  simp only[Y2,ZL]
  exact hnd
theorem RL.GQ{xs:List AV}{cs:List Value}(h:RL M xs cs)(ha:xs.all AV.one=true):cs.all Value.oneCell'=true:=by
 rw[ZJ]at *
 intro v hv
 obtain⟨i,hi,rfl⟩:=Zf.1 hv
 have h1:i<xs.length:=h.1 ▸ hi
 exact(h.2 i h1 hi).one (ha _ (Za h1))
theorem arX{n:Nat}{x y:Operand}{t:TypeId}{g:Bool}{cfg:Nat→Nat}{d:Option Nat}{E:List PanicEntry→Store→Prop}(ht:fR P t=some (g,n))(hI:Inv P M w0 σ w)(hR:bB M rg a)
  (h:aj P cfg d rg σ K E (.store n x y)):∃ w' σ',(Instr.storeAt t (a.eval x) (a.eval y)).run P w= .ok () w'∧Inv P M w0 σ' w'∧K (.v undef) σ':=by
 have hx:=hR.ev x
 have hy:=hR.ev y
 simp only[aj]at h
 split at h
 ·rename_i tg b o l' he fF
  rw[he]at hx
  rw[hx.lX]
  split at h
  ·rename_i b' l hb
   obtain⟨rfl,hn,ho,aE,hk⟩:=h
   have hc:=hy.cells fF
   obtain⟨_,hM,cs,t',hh,hl⟩:=hI.st _ (pV hb)
   have e1:(a.eval y).cells.size=l'.length:=by rw[hc.1,YM]
   obtain⟨w',hr,ou,bU,a1,a2,a3,a4⟩:=Ez (P:=P) b o t' (a.eval y).cells.toList cs 0 w hh (by have:=hl.1;simp at this ⊢;omega) (hc.GQ ho)
   refine⟨w',_,?_,hI.ya (y:= .cells (over l o l')) hb bU a1 a2 a3 a4 hM ⟨hM,_,t',ou,?_⟩,hk⟩
   ·simp only[Instr.storeAt,Instr.sureAddr,Sem.run_bind,Sem.run_pure,Result.andThen_ok,storeVar,(BP ht w).2,e1,hn]
    simpa using hr
   ·simpa using hl.over hc o
  ·exact h.elim
 ·exact h.elim
end
theorem lz{α:Type}{af:Nat}:∀ (rows:List (List α)),(∀ i (h:i<rows.length),rows[i].length=af)→rows.flatten.length=rows.length * af
 |[],_=>by simp
 |r::rows,h=>by
  have h0:=h 0 (by simp)
  simp only[YN]at h0
  have:=lz rows (fun i hi=>h (i+1) (by simpa using hi))
  simp only[Yt,Z7,Z8,this,h0,YC]
  omega
theorem Co{α:Type}{af:Nat}:∀ (rows:List (List α)),(∀ i (h:i<rows.length),rows[i].length=af)→∀ i j,j<af→(hi:i<rows.length)→rows.flatten[i * af+j]? =rows[i][j]?
 |[],_,i,j,_,hi=>absurd hi (by simp)
 |r::rows,h,i,j,hj,hi=>by
  have h0:=h 0 (by simp)
  simp only[YN]at h0
  cases i with
  |zero=>simp[List.getElem?_append,h0,hj]
  |succ i=>
   have:=Co rows (fun i hi=>h (i+1) (by simpa using hi)) i j hj (by simpa using hi)
   simp only[Yt,X6,← this]
   rw[YI (by rw[h0,YC];omega)]
   congr 1
   rw[h0,YC];omega
theorem Rows.of_flat{M:Mem}{b off af:Nat}{rows:List (List AV)}{L:List Value}(hs:∀ i (h:i<rows.length),rows[i].length=af)(hL:RL M rows.flatten L)(hM:∀ k v,L[k]? =some v→M b (off+k)=some v):
  Rows M b off af rows (fun k=>L.getD k undef):=by
 have hlen:=lz rows hs
 refine⟨hs,fun k hk=> ?_,fun i hi j hj=> ?_⟩
 ·have bU:k<L.length:=by rw[← hL.1,hlen];exact hk
  have:=hM k L[k] (Z1 bU)
  simp[Z1 bU,this]
 ·have dS:j<af:=hs i hi ▸ hj
  have hg:=Co rows hs i j dS hi
  rw[Z1 hj]at hg
  obtain⟨v,hv,hr⟩:=hL.get hg
  simp[hv,hr]
theorem Rows.flat{M:Mem}{b off af:Nat}{rows:List (List AV)}{cs:Nat→Value}(h:Rows M b off af rows cs):RL M rows.flatten ((List.range (rows.length * af)).map cs):=by
 have hlen:=lz rows h.size
 refine⟨by simp[hlen],fun k h1 h2=> ?_⟩
 rw[hlen]at h1
 have he:0<af:=by
  rcases Nat.eq_zero_or_pos af with e|e
  ·subst e;simp at h1
  ·exact e
 have hi:k / af<rows.length:=Nat.div_lt_of_lt_mul (by rw[YG];exact h1)
 have hj:k % af<af:=Nat.mod_lt _ he
 have hk:k / af * af+k % af=k:=by rw[YG];exact Nat.div_add_mod k af
 have hg:=Co rows h.size (k / af) (k % af) hj hi
 rw[hk]at hg
 have dS:k % af<rows[k / af].length:=by rw[h.size];exact hj
 rw[Z1 dS,Z1 (by rw[hlen];exact h1)]at hg
 simp only[Z6]at hg
 rw[hg]
 have:=h.rel (k / af) hi (k % af) dS
 rw[hk]at this
 simpa using this
def Mem.add(M:Mem)(B u:Nat)(cs:List Value):Mem:=fun b o=>if b=B then(if o<u then cs[o]? else none)else M b o
section
variable {P:Program}[Glob P]{M:Mem}{w0:Base}{w:World}{σ:Store}{K:AV→Store→Prop}{rg:ae}{a:Act}
theorem Inv.kH(hI:Inv P M w0 σ w)(u:Nat)(cs:List Value):M.le (M.add w.heap.size u cs):=fun b o v h=>by
 have aR:b≠w.heap.size:=fun e=>by rw[e,hI.Cr]at h;cases h
 simp[Mem.add,aR,h]
theorem Inv.BM(hI:Inv P M w0 σ w)(u:Nat)(cs:List Value)(t:TypeId):Inv P (M.add w.heap.size u cs) w0 σ (w.alloc (.cells cs.toArray t)):=by
 have h':=hI.alloc (.cells cs.toArray t)
 refine⟨h'.os,h'.tape,h'.output,h'.size,h'.old,fun b o v hv=> ?_,fun e he=>⟨(h'.st e he).1,?_⟩,h'.nd,fun g l e=>(hI.gl g l e).mono (hI.kH u cs),hI.gw,fun b o v hv aE=>hI.bm b o v (by simp only[Mem.add]at hv;rwa [if_neg (by have:=hI.size;omega)]at hv) aE⟩
 ·simp only[Mem.add]at hv
  split at hv
  ·rename_i e
   subst e
   split at hv
   ·simpa using hv
   ·cases hv
  ·exact h'.dr b o v hv
 ·obtain⟨tg,b,x⟩:=e
  have hk:=(h'.st _ he).2
  have aR:b≠w.heap.size:=by have:=hI.z8 he;simp at this;omega
  have hle:=hI.kH u cs
  cases x with
  |cells l=>obtain⟨h1,cs',t',h2,h3⟩:=hk;exact⟨fun o=>by simp[Mem.add,aR,h1 o],cs',t',h2,h3.mono hle⟩
  |tail u' c=>obtain⟨h1,cs',t',h2,h3⟩:=hk;exact⟨fun o ho=>by simp[Mem.add,aR,h1 o ho],cs',t',h2,h3⟩
  |map es k=>obtain⟨h1,l,h2,h3,h4⟩:=hk;exact⟨fun o=>by simp[Mem.add,aR,h1 o],l,h2,h3,h4.mono hle⟩
theorem Inv.yA(hI:Inv P M w0 σ w)(u:Nat)(cs:List Value)(t:TypeId)(hu:u≤cs.length)(tg:Nat):Inv P (M.add w.heap.size u cs) w0 ((tg,w.heap.size,.tail u cs.length)::σ) (w.alloc (.cells cs.toArray t)):=by
 have h':=hI.BM u cs t
 refine⟨h'.os,h'.tape,h'.output,h'.size,h'.old,h'.dr,fun e he=> ?_,?_,h'.gl,h'.gw,h'.bm⟩
 ·rcases ZU.1 he with rfl|he
  ·exact⟨hI.size,fun o ho=>by simp[Mem.add];omega,cs.toArray,t,heap_alloc_new _ _,by simp,hu⟩
  ·exact h'.st e he
 ·simp only[ZL,YL]
  exact⟨hI.fresh,hI.nd⟩
theorem arF{cfg:Nat→Nat}{d:Option Nat}{E:List PanicEntry→Store→Prop}{x:Operand}{t:TypeId}(hI:Inv P M w0 σ w)(hR:bB M rg a)(h:aj P cfg d rg σ K E (.box t x)):
  aA P M w0 K ((Instr.box t (a.eval x)).run P w):=by
 simp only[aj]at h
 split at h
 ·rename_i l hl
  have hc:=(hR.ev x).cells hl
  refine⟨_,_,M,_,_,?_,Mem.le.refl _,hI.box t hc _,.lp _ _ _,h w.heap.size⟩
  simp[Instr.box,newVar,newRow]
 ·exact h.elim
theorem arE{cfg:Nat→Nat}{d:Option Nat}{E:List PanicEntry→Store→Prop}{t:TypeId}{i:TypeInfo}{z:Value}(hi:P.info? t=some i)(hz:i.zero=some z)(hI:Inv P M w0 σ w)
  (h:aj P cfg d rg σ K E (.alloc t z)):aA P M w0 K ((Instr.alloc t true (.tuple #[])).run P w):=by
 simp only[aj]at h
 refine⟨_,_,M,_,_,?_,Mem.le.refl _,hI.box t (RL.exact z.cells.toList) _,.lp _ _ _,h w.heap.size⟩
 simp[Instr.alloc,Ax hi hz,newVar,newRow]
theorem eV(hR:bB M rg a):∀ (l:List Operand),RL M (aQ rg l) (l.map a.eval)
 |[]=>RL.nil
 |x::l=>RL.cons (hR.ev x) (eV hR l)
theorem Cq(off:Nat):∀ (l:List Value) (j:Nat) (cs:Array Value),off+j+l.length≤cs.size→
  (l.zipIdx j).foldl (fun cs (c,j)=>cs.setIfInBounds (off+j) c) cs=(over cs.toList (off+j) l).toArray
 |[],j,cs,_=>by simp[over]
 |c::l,j,cs,h=>by
  simp only[Z8]at h
  have aE:off+j<cs.size:=by omega
  simp only[List.zipIdx_cons,List.foldl_cons]
  rw[Cq off l (j+1) _ (by simp;omega)]
  apply YX
  simp only[over,Array.toList_setIfInBounds]
  have:(cs.toList.set (off+j) c).take (off+(j+1))=cs.toList.take (off+j)++[c]:=by
   rw[show off+(j+1)=off+j+1 from rfl,Zt (by simpa using aE),List.take_set_of_le (ZK _)]
   simp
  rw[this,List.drop_set_of_lt (by omega)]
  simp only[Z8,Zv,ZH,Zh]
  rw[show off+(j+1)+l.length=off+j+(l.length+1)from by omega]
inductive PM(place:Nat→Option (Nat×Nat)):List (Nat×Operand)→List (Nat×Nat×Operand)→Prop
 |nil:PM place [] []
 |cons (i off n:Nat) (x:Operand) (l:List (Nat×Operand)) (ps:List (Nat×Nat×Operand)) (h:place i=some (off,n)) (t:PM place l ps):PM place ((i,x)::l) ((off,n,x)::ps)
theorem Mp(hR:bB M rg a)(place:Nat→Option (Nat×Nat)):∀ (parts:List (Nat×Operand)) (ps:List (Nat×Nat×Operand)) (cs:Array Value) (l l':List AV),RL M l cs.toList→
  PM place parts ps→tH l (nY rg ps)=some l'→
  ∃ cs':Array Value,Instr.fill place cs (parts.map fun(i,x)=>(i,a.eval x))=some cs'∧RL M l' cs'.toList
 |[],ps,cs,l,l',hl,hp,hf=>by
  cases hp
  simp only[nY,tH,Z6]at hf
  subst hf
  exact⟨cs,rfl,hl⟩
 |(i,x)::parts,ps,cs,l,l',hl,hp,hf=>by
  cases hp with
  |cons _ off n _ _ aX pI h2=>
   simp only[nY,tH]at hf
   split at hf
   ·rename_i lx Vs
    split at hf
    ·rename_i hc
     have hx:=(hR.ev x).cells Vs
     have e1:(a.eval x).cells.size=n:=by rw[← hc.1,hx.1,YM]
     have e2:cs.size=l.length:=by rw[hl.1,YM]
     have VG:=Cq off (a.eval x).cells.toList 0 cs (by simp;omega)
     obtain⟨cs',h3,h4⟩:=Mp hR place parts aX (over cs.toList off (a.eval x).cells.toList).toArray (over l off lx) l' (by simpa using hl.over hx off) h2 hf
     refine⟨cs',?_,h4⟩
     simp only[ZL,Instr.fill,pI]
     rw[if_neg (by simp;omega)]
     rw[← h3]
     congr 1
     rw[← Array.foldl_toList,Array.toList_zipIdx]
     simpa using VG
    ·cases hf
   ·cases hf
theorem Ly(fs:List Field)(place:Nat→Option (Nat×Nat))(hp:∀ i f k,fs[i]? =some f→P.info? f.type=some k→place i=some (f.offset,k.size)):
  ∀ (l:List (Nat×Operand)) (ps:List (Nat×Nat×Operand)),uX P fs l=some ps→PM place l ps
 |[],ps,h=>by simp[uX]at h;subst h;exact .nil
 |(i,x)::l,ps,h=>by
  simp only[uX]at h
  split at h
  ·rename_i f hf
   split at h
   ·rename_i k hk
    rw[ZS]at h
    obtain⟨aX,h1,rfl⟩:=h
    exact .cons _ _ _ _ _ _ (hp i f k hf hk) (Ly fs place hp l aX h1)
   ·cases h
  ·cases h
theorem run_places(w:World):∀ (fs:List Field),fs.all (fun f=>(P.info? f.type).isSome)=true→
  ∃ pl:List (Nat×Nat),(fs.mapM (fun f:Field=>do pure (f.offset,← sizeOf f.type)):Sem (List (Nat×Nat))).run P w= .ok pl w∧∀ (i:Nat) (f:Field) (k:TypeInfo),fs[i]? =some f→P.info? f.type=some k→pl[i]? =some (f.offset,k.size)
 |[],_=>⟨[],rfl,fun i f k h=>by simp at h⟩
 |f::fs,h=>by
  simp only[List.all_cons,Z3]at h
  obtain⟨k0,od⟩:=Ys.1 h.1
  obtain⟨pl,h1,h2⟩:=run_places w fs h.2
  refine⟨(f.offset,k0.size)::pl,?_,fun i g k hg hk=> ?_⟩
  ·simp only[List.mapM_cons,Sem.run_bind,jA od,Result.andThen_ok,Sem.run_pure,h1]
  ·cases i with
   |zero=>
    simp only[List.getElem?_cons_zero,Z6]at hg
    subst hg
    rw[od]at hk
    cases hk
    rfl
   |succ i=>simpa using h2 i g k (by simpa using hg) hk
theorem arG{cfg:Nat→Nat}{d:Option Nat}{E:List PanicEntry→Store→Prop}{t:TypeId}{i:TypeInfo}{z:Value}{fs:Array Field}{parts:Array (Nat×Operand)}{ps:List (Nat×Nat×Operand)}
  (ht:P.underlying t=some (.struct fs)) (hi:P.info? t=some i) (hz:i.zero=some z) (cw:fs.toList.all (fun f=>(P.info? f.type).isSome)=true) (al:uX P fs.toList parts.toList=some ps)
  (hI:Inv P M w0 σ w) (hR:bB M rg a) (h:aj P cfg d rg σ K E (.build z.cells.toList ps)):aA P M w0 K ((Instr.build t (parts.map fun(i,x)=>(i,a.eval x))).run P w):=by
 simp only[aj]at h
 split at h
 ·rename_i l hl
  obtain⟨pl,h1,h2⟩:=run_places (P:=P) w fs.toList cw
  obtain⟨cs',h3,h4⟩:=Mp hR (fun i:Nat=>pl[i]?) parts.toList ps z.cells (z.cells.toList.map .v) l (RL.exact _) (Ly fs.toList _ h2 _ _ al) hl
  refine aA.same hI (v:= .agg cs') ?_ h ?_
  ·have:=R.uL h4;simpa using this
  ·have T9:(fs.mapM (fun f:Field=>do pure (f.offset,← sizeOf f.type)):Sem (Array (Nat×Nat))).run P w= .ok pl.toArray w:=by
    rw[Array.mapM_eq_mapM_toList,Sem.run_map,h1]
    rfl
   simp only[Instr.build,Sem.run_bind,Ax hi hz,Result.andThen_ok,aV ht,T9,Array.toList_map]
   have e:(fun x:Nat=>pl.toArray[x]?)=(fun i:Nat=>pl[i]?):=by funext i;simp
   simp only[e,h3,Sem.run_pure]
 ·exact h.elim
theorem Ma{af:Nat}:∀ (xs:List AV) (rows:List (List AV)) (vs:List Value),rowsOf af xs=some rows→RL M xs vs→RL M rows.flatten (vs.flatMap fun v=>v.cells.toList)∧rows.length=xs.length∧
  (∀ i (h:i<rows.length),rows[i].length=af)∧∀ v∈vs,v.cells.size=af
 |[],rows,vs,h,k=>by
  simp[rowsOf]at h;subst h
  obtain rfl:=k.sD
  exact⟨RL.nil,rfl,fun i hi=>absurd hi (by simp),fun v hv=>by cases hv⟩
 |x::xs,rows,vs,h,k=>by
  obtain⟨v,gL,rfl,hx,eE⟩:=k.cE
  simp only[rowsOf]at h
  split at h
  ·rename_i r hr
   split at h
   ·rename_i he
    rw[ZS]at h
    obtain⟨rows',h1,rfl⟩:=h
    obtain⟨a1,a2,a3,a4⟩:=Ma xs rows' gL h1 eE
    have hc:=hx.cells hr
    refine⟨by simpa using RL.append hc a1,by simp[a2],fun i hi=> ?_,fun u hu=> ?_⟩
    ·cases i with
     |zero=>exact he
     |succ i=>exact a3 i (by simpa using hi)
    ·rcases ZU.1 hu with rfl|hu
     ·rw[← he,hc.1,YM]
     ·exact a4 u hu
   ·cases h
  ·cases h
theorem ID(af:Nat):∀ (vs:List Value) (k:Nat) (cs:Array Value),(∀ v∈vs,v.cells.size=af)→k * af+vs.length * af≤cs.size→
  Instr.fill (fun i=>some (i * af,af)) cs ((List.range' k vs.length).zip vs)=some (over cs.toList (k * af) (vs.flatMap fun v=>v.cells.toList)).toArray
 |[],k,cs,_,_=>by simp[Instr.fill,over]
 |v::vs,k,cs,h,hl=>by
  have hv:=h v (by simp)
  have hlen:∀ vs:List Value,(∀ v∈vs,v.cells.size=af)→(vs.flatMap fun v=>v.cells.toList).length=vs.length * af:=by
   intro vs
   induction vs with
   |nil=>simp
   |cons u us ih=>intro hh;simp only[List.flatMap_cons,Z7,YM,hh u (by simp),ih (fun w hw=>hh w (by simp[hw])),Z8,YC];omega
  simp only[Z8,YC]at hl
  simp only[Z8,List.range'_succ,List.zip_cons_cons,Instr.fill]
  rw[if_neg (by simp;omega)]
  rw[← Array.foldl_toList,Array.toList_zipIdx,Cq (k * af) v.cells.toList 0 cs (by simp;omega)]
  simp only[YT]
  rw[ID af vs (k+1) _ (fun u hu=>h u (by simp[hu])) (by simp[over,hv];rw[YC];omega)]
  congr 2
  simp only[over,List.flatMap_cons,Z7,YM,hv,YC]
  rw[Y1 (by simp;omega)]
  have e1:(cs.toList.take (k * af)++v.cells.toList).length=k * af+af:=by simp[hv];omega
  rw[ZD (by omega),List.drop_append,Yi (by omega),e1]
  simp only[Zh,Zv,YP]
  congr 3
  congr 1
  omega
end
end Go.Sx
