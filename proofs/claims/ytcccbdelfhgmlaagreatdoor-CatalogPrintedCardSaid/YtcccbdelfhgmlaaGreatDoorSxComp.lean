/-
  The layer Sx, third part: how operations are compiled, and that their conditions are sound.
-/
import Derived.Test.YtcccbdelfhgmlaaGreatDoorSxCore
set_option linter.unusedVariables false
set_option linter.unusedSimpArgs false
set_option linter.unusedSectionVars false
namespace Go.Sx
open Go.RowKit
def eV(P:Program)[Glob P](t:TypeId):Option (Bool×Nat):=
 match P.underlying t,P.info? t with
 |some (.struct _),some i|some (.array _ _),some i=>some (true,i.size)
 |some _,some i=>some (false,i.size)
 |_,_=>none
def yQ(P:Program)[Glob P](fs:List Field):List (Nat×Operand)→Option (List (Nat×Nat×Operand))
 |[]=>some []
 |(i,x)::l=>match fs[i]? with
  |some f=>match P.info? f.type with
   |some k=>(yQ P fs l).map ((f.offset,k.size,x)::·)
   |none=>none
  |none=>none
def rD(P:Program)[Glob P](n:Nat):List Field→Option (List wY)
 |[]=>some []
 |f::fs=>if f.name≠ "_" ∧f.offset=n then
   match P.underlying f.type with
   |some (.int _)=>(rD P (n+1) fs).map (.int::·)
   |some .string=>(rD P (n+1) fs).map (.str::·)
   |some .bool=>(rD P (n+1) fs).map (.bool::·)
   |_=>none
  else none
def Dm(P:Program)[Glob P](neg:Bool)(t:TypeId)(x y:Operand):Option aw:=
 match P.underlying t with
 |some (.int _)|some .string=>some (.bin (if neg then .neq else .eql) x y)
 |some (.struct fs)=>if P.stoodInHeld t=false∧P.eqGuardType P.depth t=false then(rD P 0 fs.toList).map fun ks=> .eqs neg ks x y else none
 |some .bool=>some (.iX neg .bool x y)
 |some (.slice _)=>some (.iX neg .slice x y)
 |some (.map _ _)=>some (.iX neg .map x y)
 |some (.func _ _ _)=>some (.iX neg .func x y)
 |some (.pointer _)=>some (.iX neg .ptr x y)
 |_=>none
def Ol(P:Program)[Glob P](c:Call):Option aw:=
 match c.callee with
 | .value (.func f)=>if iU P f then some (.call f c.args.toList)else none
 | .value f=>some (.dY f c.args.toList)
 | .builtin .len=>match c.args.toList,c.argTypes.toList with
  |[x],[t]=>match P.underlying t with
   |some .string=>some (.len true x)
   |some (.slice _)=>some (.len false x)
   |_=>none
  |_,_=>none
 | .builtin .append=>match c.args.toList,c.argTypes.toList with
  |[x,y],[t,u]=>match P.underlying t,P.underlying u with
   |some (.slice e),some (.slice _)=>match P.info? e with
    |some i=>match i.zero with
     |some z=>if 0<i.size∧0<i.bytes∧z.cells.size=i.size then some (.append e i.size i.bytes z.cells.toList x y)else none
     |none=>none
    |none=>none
   |some (.slice e),some .string=>match P.info? e with
    |some i=>match i.zero with
     |some z=>if 0<i.size∧0<i.bytes∧z.cells.size=i.size then some (.append e i.size i.bytes z.cells.toList x y)else none
     |none=>none
    |none=>none
   |_,_=>none
  |_,_=>none
 | .builtin .max=>match c.args.toList with
  |[x,y]=>some (.max2 x y)
  |_=>none
 | .builtin .min=>match c.args.toList with
  |[x,y]=>some (.min2 x y)
  |_=>none
 |_=>none
def Dp(P:Program)[Glob P](o:Oper):Option aw:=
 match o.op with
 | .move x| .assign x=>some (.mv x)
 | .pick c a b=>some (.pick c a b)
 | .alloc e=>match P.info? e with
  |some i=>i.zero.map (.alloc e ·)
  |none=>none
 | .box e x=>some (.box e x)
 | .build t parts=>match P.underlying t,P.info? t with
  |some (.struct fs),some i=>if fs.toList.all (fun f=>(P.info? f.type).isSome)then
    match i.zero,yQ P fs.toList parts.toList with
    |some z,some ps=>some (.build z.cells.toList ps)
    |_,_=>none
   else none
  |_,_=>none
 | .buildSlice t n parts=>match P.underlying t with
  |some (.slice e)=>match P.info? e with
   |some i=>match i.zero with
    |some z=>if parts.toList.map (·.1)=List.range n∧n * i.size≤16777216∧z.cells.size=i.size then some (.bM e i.size (parts.toList.map (·.2)))else none
    |none=>none
   |none=>none
  |_=>none
 | .load t x=>(eV P t).map fun(g,n)=> .load g n x
 | .store t x v=>(eV P t).map fun(_,n)=> .store n x v
 | .nilCheck x=>some (.kZ x)
 | .binOp .eql t x y z=>match Dm P false t x y with
  |some i=>some i
  |none=>some (.cH (.binOp .eql t x y z) o.type (gJ P o.op) [x,y])
 | .binOp .neq t x y z=>match Dm P true t x y with
  |some i=>some i
  |none=>some (.cH (.binOp .neq t x y z) o.type (gJ P o.op) [x,y])
 | .binOp op _ x y _=>some (.bin op x y)
 | .unOp op _ x=>some (.un op x)
 | .convert src dst x=>match P.underlying src,P.underlying dst with
  |some (.int _),some (.int k)=>some (.mO k x)
  |some .string,some .string=>some (.qN x)
  |_,_=>some (.cH (.convert src dst x) o.type (gJ P o.op) [x])
 | .makeInterface t x=>match P.underlying t with
  |some (.interface _)=>none
  |some _=>some (.nA t x)
  |none=>none
 | .makeFunc fn first captured=>some (.gG fn first.toList captured.toList)
 | .slice t x lo hi none=>match P.underlying t with
  |some (.slice e)=>match P.info? e with
   |some i=>some (.slice i.size x lo hi)
   |none=>none
  |_=>some (.cH (.slice t x lo hi none) o.type (gJ P o.op) (x::(lo.toList++hi.toList)))
 | .fieldAddr t x i=>match P.underlying t with
  |some (.struct fs)=>match fs[i]? with
   |some f=>match P.info? f.type with
    |some k=>if k.size≠0 then some (.jI f.offset x)else none
    |none=>none
   |none=>none
  |_=>none
 | .field t x i=>match P.underlying t with
  |some (.struct fs)=>match fs[i]? with
   |some f=>(eV P f.type).map fun(g,n)=> .field g f.offset n x
   |none=>none
  |_=>none
 | .indexAddr t x i=>match P.underlying t with
  |some (.slice e)=>match P.info? e with
   |some k=>some (.gE k.size x i)
   |none=>none
  |some (.array n e)=>match P.info? e with
   |some k=>some (.jt n k.size x i)
   |none=>none
  |_=>none
 | .index t x i=>match P.underlying t with
  |some .string=>some (.idxs x i)
  |_=>some (.cH (.index t x i) o.type (gJ P o.op) [x,i])
 | .makeMap t none=>some (.exts (.makeMap t none) o.type (gJ P o.op) [])
 | .insert t m k x=>some (.exts (.insert t m k x) o.type (gJ P o.op) [m,k,x])
 | .mapUpdate t m k x=>some (.exts (.mapUpdate t m k x) o.type (gJ P o.op) [m,k,x])
 | .mapEntry t m k=>some (.exts (.mapEntry t m k) o.type (gJ P o.op) [m,k])
 | .entryStore t m s x=>some (.exts (.entryStore t m s x) o.type (gJ P o.op) [m,s,x])
 | .lookup t m k ok=>some (.cH (.lookup t m k ok) o.type (gJ P o.op) [m,k])
 | .makeSlice t n c=>some (.exts (.makeSlice t n c) o.type (gJ P o.op) [n,c])
 | .extract x i=>some (.extract x i)
 | .panic x=>some (.panic x)
 | .call c=>match Ol P c with
  |some i=>some i
  |none=>match c.callee with
   | .builtin _=>some (.exts (.call c) o.type (gJ P o.op) c.args.toList)
   |_=>none
 |_=>none
def aD(P:Program)[Glob P](M:Mem)(w0:Base)(K:AV→Store→Prop)(r:Result Value):Prop:=
 ∃ v w' M' x σ',r= .ok v w'∧M.le M'∧Inv P M' w0 σ' w'∧R M' x v∧K x σ'
section
variable {P:Program}[Glob P]{M:Mem}{w0:Base}{w:World}{σ:Store}{K:AV→Store→Prop}{rg:ag}{a:Act}
theorem aD.same(hI:Inv P M w0 σ w){x:AV}{v:Value}(hr:R M x v)(hk:K x σ){r:Result Value}(e:r= .ok v w):aD P M w0 K r:=
 ⟨v,w,M,x,σ,e,Mem.le.refl _,hI,hr,hk⟩
theorem bw{t:TypeId}{d:TypeDesc}(h:P.underlying t=some d)(w:World):(underlying t).run P w= .ok d w:=run_underlying h w
theorem KN{t:TypeId}{i:TypeInfo}(h:P.info? t=some i)(w:World):(typeInfo t).run P w= .ok i w:=by simp[typeInfo,h]
theorem lh{t:TypeId}{i:TypeInfo}(h:P.info? t=some i)(w:World):(sizeOf t).run P w= .ok i.size w:=by simp[sizeOf,KN h]
theorem Ff{t:TypeId}{i:TypeInfo}{z:Value}(h:P.info? t=some i)(hz:i.zero=some z)(w:World):(zeroValue t).run P w= .ok z w:=by simp[zeroValue,KN h,hz]
theorem Dd{t:TypeId}{g:Bool}{n:Nat}(h:eV P t=some (g,n))(w:World):(isAgg t).run P w= .ok g w∧(sizeOf t).run P w= .ok n w:=by
 unfold eV at h
 split at h
 ·rename_i fs i h1 h2
  obtain⟨rfl,rfl⟩:=h
  exact⟨by simp[isAgg,bw h1],lh h2 w⟩
 ·rename_i m e i h1 h2
  obtain⟨rfl,rfl⟩:=h
  exact⟨by simp[isAgg,bw h1],lh h2 w⟩
 ·rename_i d i h3 h4 h1 h2
  obtain⟨rfl,rfl⟩:=h
  refine⟨?_,lh h2 w⟩
  cases d<;>simp[isAgg,bw h1]<;>first|grind|grind
 grind
theorem Inv.cell{tg b:Nat}{l:List AV}(hI:Inv P M w0 σ w)(hb:aR σ tg=some (b,.cells l)){o:Nat}{y:AV}(hy:l[o]? =some y):
  ∃ v,w.cell? ⟨b,o,none⟩=some v∧R M y v:=by
 obtain⟨_,_,cs,t,hh,hl⟩:=hI.st _ (tK hb)
 obtain⟨v,hv,hr⟩:=hl.get hy
 exact⟨v,by simp[World.cell?,hh];grind,hr⟩
theorem KO(b o n:Nat)(cs:List Value)(hn:cs.length=n)(h:∀ i (hi:i<cs.length),w.cell? ⟨b,o+i,none⟩=some cs[i]):(loadCells ⟨b,o,none⟩ n).run P w= .ok cs.toArray w:=by
 have:=run_loadCells_list (P:=P) (w:=w) ⟨b,o,none⟩ cs (fun j v hv=>by
  rw[Addr.add_lit];grind)
 grind
theorem Fp{agg:Bool}{n b o:Nat}{t:TypeId}(ht:eV P t=some (agg,n))(xs:List AV)(hx:∀ i y,xs[i]? =some y→∃ v,w.cell? ⟨b,o+i,none⟩=some v∧R M y v)
  (h:if agg then n≤xs.length∧K (.agg (xs.take n)) σ else match xs[0]? with
    |some y=>K y σ
    |none=>False):∃ v x,(Instr.loadAt t (.pointer (some ⟨b,o,none⟩))).run P w= .ok v w∧R M x v∧K x σ:=by
 obtain⟨h1,h2⟩:=Dd ht w
 simp only[Instr.loadAt,Instr.sureAddr,loadVar,Sem.run_bind,Sem.run_pure,Result.andThen_ok,h1]
 cases agg with
 |true=>
  obtain⟨hl,hk⟩:=h
  have:∃ cs:List Value,RL M (xs.take n) cs∧∀ i (hi:i<cs.length),w.cell? ⟨b,o+i,none⟩=some cs[i]:=by
   generalize BP:xs.take n=ys
   have hy:∀ i y,ys[i]? =some y→∃ v,w.cell? ⟨b,o+i,none⟩=some v∧R M y v:=fun i y e=>by
    grind
   clear BP hx hl hk
   induction ys generalizing o with
   |nil=>exact⟨[],RL.nil,fun i hi=>absurd hi (by simp)⟩
   |cons y ys ih=>
    obtain⟨v,hv,hr⟩:=hy 0 y rfl
    obtain⟨cs,hc,mV⟩:=ih (o:=o+1) (fun i z e=>by have:=hy (i+1) z (by grind);grind)
    refine⟨v::cs,RL.cons hr hc,fun i hi=> ?_⟩
    grind
  obtain⟨cs,hc,mV⟩:=this
  have hlen:cs.length=n:=by rw[← hc.1];grind
  simp only[Y4,Sem.run_bind,h2,Result.andThen_ok,KO b o n cs hlen mV,Sem.run_pure]
  exact⟨_,_,rfl,R.tM hc,hk⟩
 |false=>
  simp only[ZM,Zf]at h ⊢
  cases Em:xs[0]? with
  |none=>grind
  |some y=>
   simp only[Em]at h
   obtain⟨v,hv,hr⟩:=hx 0 y Em
   simp only[YP]at hv
   simp only[run_load,hv]
   grind
theorem awa{agg:Bool}{n:Nat}{x:Operand}{t:TypeId}{cfg:Nat→Nat}{d:Option Nat}{E:List PanicEntry→Store→Prop}(ht:eV P t=some (agg,n))(hI:Inv P M w0 σ w)(hR:bQ M rg a)
  (h:aj P cfg d rg σ K E (.load agg n x)):aD P M w0 K ((Instr.loadAt t (a.eval x)).run P w):=by
 have hx:=hR.ev x
 simp only[aj]at h
 split at h
 ·rename_i tg b o he
  rw[he]at hx
  rw[hx.oJ]
  split at h
  ·rename_i b' l hb
   obtain⟨rfl,h⟩:=h
   suffices hs:∃ v x,(Instr.loadAt t (.pointer (some ⟨b,o,none⟩))).run P w= .ok v w∧R M x v∧K x σ by
    obtain⟨v,x,h1,h2,h3⟩:=hs;exact aD.same hI h2 h3 h1
   refine Fp ht (l.drop o) (fun i y e=> ?_) ?_
   ·rw[XK]at e
    exact hI.cell hb e
   grind
  grind
 ·rename_i l he
  rw[he]at hx
  obtain⟨b,off,cs,hv,hM,It⟩:=hx.qf
  rw[hv]
  suffices hs:∃ v x,(Instr.loadAt t (.pointer (some ⟨b,off,none⟩))).run P w= .ok v w∧R M x v∧K x σ by
   obtain⟨v,x,h1,h2,h3⟩:=hs;exact aD.same hI h2 h3 h1
  refine Fp ht l (fun i y e=> ?_) h
  obtain⟨hi,rfl⟩:=ZP.1 e
  exact⟨cs i,hI.dA _ _ _ (hM i hi),It i hi⟩
 ·rename_i g he
  rw[he]at hx
  rw[hx.ay]
  split at h
  ·rename_i l hl
   obtain⟨b,off,cs,hv,hM,It⟩:=(hI.gl g l hl).qf
   cases hv
   suffices hs:∃ v x,(Instr.loadAt t (.pointer (some ⟨g,0,none⟩))).run P w= .ok v w∧R M x v∧K x σ by
    obtain⟨v,x,h1,h2,h3⟩:=hs;exact aD.same hI h2 h3 h1
   refine Fp ht l (fun i y e=> ?_) h
   obtain⟨hi,rfl⟩:=ZP.1 e
   exact⟨cs i,hI.dA _ _ _ (hM i hi),It i hi⟩
  grind
 grind
theorem KP(b o:Nat)(t:TypeId):∀ (vs:List Value) (cs:Array Value) (i:Nat) (w:World),w.heap[b]? =some (.cells cs t (0,0))→o+i+vs.length≤cs.size→vs.all Value.oneCell'=true→
  ∃ w',(storeCells ⟨b,o,none⟩ vs i).run P w= .ok () w'∧w'.heap[b]? =some (.cells (over cs.toList (o+i) vs).toArray t (0,0))∧(∀ k,k≠b→w'.heap[k]? =w.heap[k]?)∧w'.os=w.os∧w'.tape=w.tape∧w'.output=w.output∧w'.heap.size=w.heap.size
 |[],cs,i,w,hh,_,_=>⟨w,rfl,by simpa[over]using hh,fun _ _=>rfl,rfl,rfl,rfl,rfl⟩
 |v::vs,cs,i,w,hh,hl,h1=>by
  simp only[Z6]at hl
  simp only[List.all_cons,Z0]at h1
  have ax:o+i<cs.size:=by omega
  have hc:w.cell? ⟨b,o+i,none⟩=some (cs[o+i]):=by simp[World.cell?,hh,ax]
  have hf:w.frozen? ⟨b,o+i,none⟩=false:=by simp[World.frozen?,hh]
  have hs:(store (Addr.add ⟨b,o,none⟩ i) v).run P w= .ok () (w.setCell ⟨b,o+i,none⟩ v):=by
   rw[Addr.add_lit,run_store _ _ _ _ _ h1.1,hc]
   grind
  have hh1:(w.setCell ⟨b,o+i,none⟩ v).heap[b]? =some (.cells (cs.setIfInBounds (o+i) v) t (0,0)):=by
   simp[World.setCell,Yk,hh]
  obtain⟨w',hr,ru,hk,e1,e2,e3,e4⟩:=KP b o t vs (cs.setIfInBounds (o+i) v) (i+1) _ hh1 (by grind) h1.2
  refine⟨w',?_,?_,fun k hkb=> ?_,e1,e2,e3,e4.trans (by simp)⟩
  ·simp only[storeCells,Sem.run_bind,hs,Result.andThen_ok]
   grind
  ·rw[ru]
   congr 2
   apply YJ
   simp only[over,Array.toList_setIfInBounds]
   have:(cs.toList.set (o+i) v).take (o+(i+1))=cs.toList.take (o+i)++[v]:=by
    rw[show o+(i+1)=o+i+1 from rfl,ZF (by grind),List.take_set_of_le (ZR _)]
    simp
   rw[this,List.drop_set_of_lt (by omega)]
   grind
  ·rw[hk k hkb]
   simp only[World.setCell,Yk]
   grind
theorem Inv.CJ{P:Program}[Glob P]{M:Mem}{w0:Base}{w w':World}{σ:Store}(hI:Inv P M w0 σ w){tg b:Nat}{x y:cG}(hb:aR σ tg=some (b,x))(hk:∀ k,k≠b→w'.heap[k]? =w.heap[k]?)(e1:w'.os=w.os)(e2:w'.tape=w.tape)(e3:w'.output=w.output)
  (e4:w'.heap.size=w.heap.size) (hM:∀ o,M b o=none) (hy:BlkOK M w' b y):Inv P M w0 (cM σ tg b y) w':=by
 have hold:w0.heap.size≤b:=(hI.st _ (tK hb)).1
 obtain⟨pre,post,h1,h2⟩:=uk hb
 have hnd:=hI.nd
 rw[h1]at hnd
 simp at hnd
 refine⟨e1.trans hI.os,e2.trans hI.tape,e3.trans hI.output,by rw[e4];exact hI.size,fun k cC=> ?_,fun b' o v hv=> ?_,fun e he=> ?_,?_,hI.gl,hI.gw,hI.bm⟩
 ·rw[hk k (by omega)];exact hI.old k cC
 ·have aJ:b'≠b:=fun e=>by grind
  have:=hI.dA b' o v hv
  rw[← this]
  simp only[World.cell?,hk b' aJ]
 ·have ef:e=(tg,b,y)∨(e∈σ∧e.2.1≠b):=by
   grind
  rcases ef with rfl|⟨he,aJ⟩
  ·grind
  ·exact⟨(hI.st e he).1,(hI.st e he).2.heap (hk _ aJ)⟩
 grind
theorem RL.Av{xs:List AV}{cs:List Value}(h:RL M xs cs)(ha:xs.all AV.one=true):cs.all Value.oneCell'=true:=by
 rw[ZA]at *
 intro v hv
 obtain⟨i,hi,rfl⟩:=Y5.1 hv
 have h1:i<xs.length:=h.1 ▸ hi
 exact(h.2 i h1 hi).one (ha _ (Zp h1))
theorem awg{n:Nat}{x y:Operand}{t:TypeId}{g:Bool}{cfg:Nat→Nat}{d:Option Nat}{E:List PanicEntry→Store→Prop}(ht:eV P t=some (g,n))(hI:Inv P M w0 σ w)(hR:bQ M rg a)
  (h:aj P cfg d rg σ K E (.store n x y)):∃ w' σ',(Instr.storeAt t (a.eval x) (a.eval y)).run P w= .ok () w'∧Inv P M w0 σ' w'∧K (.v undef) σ':=by
 have hx:=hR.ev x
 have hy:=hR.ev y
 simp only[aj]at h
 split at h
 ·rename_i tg b o l' he gg
  rw[he]at hx
  rw[hx.oJ]
  split at h
  ·rename_i b' l hb
   obtain⟨rfl,hn,ho,ax,hk⟩:=h
   have hc:=hy.cells gg
   obtain⟨_,hM,cs,t',hh,hl⟩:=hI.st _ (tK hb)
   have e1:(a.eval y).cells.size=l'.length:=by rw[hc.1,Zb]
   obtain⟨w',hr,ru,cC,a1,a2,a3,a4⟩:=KP (P:=P) b o t' (a.eval y).cells.toList cs 0 w hh (by have:=hl.1;grind) (hc.Av ho)
   refine⟨w',_,?_,hI.CJ (y:= .cells (over l o l')) hb cC a1 a2 a3 a4 hM ⟨hM,_,t',ru,?_⟩,hk⟩
   ·simp only[Instr.storeAt,Instr.sureAddr,Sem.run_bind,Sem.run_pure,Result.andThen_ok,storeVar,(Dd ht w).2,e1,hn]
    grind
   ·simpa using hl.over hc o
  grind
 grind
end
theorem nX{α:Type}{af:Nat}:∀ (rows:List (List α)),(∀ i (h:i<rows.length),rows[i].length=af)→rows.flatten.length=rows.length * af
 |[],_=>by simp
 |r::rows,h=>by
  have h0:=h 0 (by simp)
  have:=nX rows (fun i hi=>h (i+1) (by grind))
  grind
theorem HW{α:Type}{af:Nat}:∀ (rows:List (List α)),(∀ i (h:i<rows.length),rows[i].length=af)→∀ i j,j<af→(hi:i<rows.length)→rows.flatten[i * af+j]? =rows[i][j]?
 |[],_,i,j,_,hi=>absurd hi (by simp)
 |r::rows,h,i,j,hj,hi=>by
  have h0:=h 0 (by simp)
  cases i with
  |zero=>grind
  |succ i=>
   have:=HW rows (fun i hi=>h (i+1) (by grind)) i j hj (by grind)
   grind
theorem Rows.of_flat{M:Mem}{b off af:Nat}{rows:List (List AV)}{L:List Value}(hs:∀ i (h:i<rows.length),rows[i].length=af)(hL:RL M rows.flatten L)(hM:∀ k v,L[k]? =some v→M b (off+k)=some v):
  Rows M b off af rows (fun k=>L.getD k undef):=by
 have hlen:=nX rows hs
 refine⟨hs,fun k hk=> ?_,fun i hi j hj=> ?_⟩
 ·have cC:k<L.length:=by rw[← hL.1,hlen];grind
  grind
 ·have eo:j<af:=hs i hi ▸ hj
  have hg:=HW rows hs i j eo hi
  rw[Z4 hj]at hg
  obtain⟨v,hv,hr⟩:=hL.get hg
  grind
theorem Rows.flat{M:Mem}{b off af:Nat}{rows:List (List AV)}{cs:Nat→Value}(h:Rows M b off af rows cs):RL M rows.flatten ((List.range (rows.length * af)).map cs):=by
 have hlen:=nX rows h.size
 refine⟨by grind,fun k h1 h2=> ?_⟩
 have he:0<af:=by
  grind
 have hi:k / af<rows.length:=Nat.div_lt_of_lt_mul (by grind)
 have hj:k % af<af:=Nat.mod_lt _ he
 have hk:k / af * af+k % af=k:=by rw[Yp];exact Nat.div_add_mod k af
 have hg:=HW rows h.size (k / af) (k % af) hj hi
 have eo:k % af<rows[k / af].length:=by grind
 have:=h.rel (k / af) hi (k % af) eo
 grind
def Mem.add(M:Mem)(B u:Nat)(cs:List Value):Mem:=fun b o=>if b=B then(if o<u then cs[o]? else none)else M b o
section
variable {P:Program}[Glob P]{M:Mem}{w0:Base}{w:World}{σ:Store}{K:AV→Store→Prop}{rg:ag}{a:Act}
theorem Inv.nw(hI:Inv P M w0 σ w)(u:Nat)(cs:List Value):M.le (M.add w.heap.size u cs):=fun b o v h=>by
 have aJ:b≠w.heap.size:=fun e=>by rw[e,hI.H6]at h;grind
 simp[Mem.add,aJ,h]
theorem Inv.GF(hI:Inv P M w0 σ w)(u:Nat)(cs:List Value)(t:TypeId):Inv P (M.add w.heap.size u cs) w0 σ (w.alloc (.cells cs.toArray t)):=by
 have h':=hI.alloc (.cells cs.toArray t)
 refine⟨h'.os,h'.tape,h'.output,h'.size,h'.old,fun b o v hv=> ?_,fun e he=>⟨(h'.st e he).1,?_⟩,h'.nd,fun g l e=>(hI.gl g l e).mono (hI.nw u cs),hI.gw,fun b o v hv ax=>hI.bm b o v (by simp only[Mem.add]at hv;rwa [Z9 (by have:=hI.size;omega)]at hv) ax⟩
 ·simp only[Mem.add]at hv
  split at hv
  ·simp_all
  ·exact h'.dA b o v hv
 ·obtain⟨tg,b,x⟩:=e
  have hk:=(h'.st _ he).2
  have aJ:b≠w.heap.size:=by have:=hI.EC he;grind
  have hle:=hI.nw u cs
  cases x with
  |cells l=>obtain⟨h1,cs',t',h2,h3⟩:=hk;exact⟨fun o=>by simp[Mem.add,aJ,h1 o],cs',t',h2,h3.mono hle⟩
  |tail u' c=>obtain⟨h1,cs',t',h2,h3⟩:=hk;exact⟨fun o ho=>by simp[Mem.add,aJ,h1 o ho],cs',t',h2,h3⟩
  |map es k=>obtain⟨h1,l,h2,h3,h4⟩:=hk;exact⟨fun o=>by simp[Mem.add,aJ,h1 o],l,h2,h3,h4.mono hle⟩
theorem Inv.Db(hI:Inv P M w0 σ w)(u:Nat)(cs:List Value)(t:TypeId)(hu:u≤cs.length)(tg:Nat):Inv P (M.add w.heap.size u cs) w0 ((tg,w.heap.size,.tail u cs.length)::σ) (w.alloc (.cells cs.toArray t)):=by
 have h':=hI.GF u cs t
 refine⟨h'.os,h'.tape,h'.output,h'.size,h'.old,h'.dA,fun e he=> ?_,?_,h'.gl,h'.gw,h'.bm⟩
 ·rcases ZV.1 he with rfl|he
  ·exact⟨hI.size,fun o ho=>by simp[Mem.add];omega,cs.toArray,t,heap_alloc_new _ _,by simp,hu⟩
  ·exact h'.st e he
 ·simp only[Zu,YG]
  exact⟨hI.fresh,hI.nd⟩
theorem avY{cfg:Nat→Nat}{d:Option Nat}{E:List PanicEntry→Store→Prop}{x:Operand}{t:TypeId}(hI:Inv P M w0 σ w)(hR:bQ M rg a)(h:aj P cfg d rg σ K E (.box t x)):
  aD P M w0 K ((Instr.box t (a.eval x)).run P w):=by
 simp only[aj]at h
 split at h
 ·rename_i l hl
  have hc:=(hR.ev x).cells hl
  refine⟨_,_,M,_,_,?_,Mem.le.refl _,hI.box t hc _,.lp _ _ _,h w.heap.size⟩
  simp[Instr.box,newVar,newRow]
 grind
theorem avX{cfg:Nat→Nat}{d:Option Nat}{E:List PanicEntry→Store→Prop}{t:TypeId}{i:TypeInfo}{z:Value}(hi:P.info? t=some i)(hz:i.zero=some z)(hI:Inv P M w0 σ w)
  (h:aj P cfg d rg σ K E (.alloc t z)):aD P M w0 K ((Instr.alloc t true (.tuple #[])).run P w):=by
 refine⟨_,_,M,_,_,?_,Mem.le.refl _,hI.box t (RL.exact z.cells.toList) _,.lp _ _ _,h w.heap.size⟩
 simp[Instr.alloc,Ff hi hz,newVar,newRow]
theorem ga(hR:bQ M rg a):∀ (l:List Operand),RL M (bo rg l) (l.map a.eval)
 |[]=>RL.nil
 |x::l=>RL.cons (hR.ev x) (ga hR l)
theorem HZ(off:Nat):∀ (l:List Value) (j:Nat) (cs:Array Value),off+j+l.length≤cs.size→
  (l.zipIdx j).foldl (fun cs (c,j)=>cs.setIfInBounds (off+j) c) cs=(over cs.toList (off+j) l).toArray
 |[],j,cs,_=>by simp[over]
 |c::l,j,cs,h=>by
  simp
  rw[HZ off l (j+1) _ (by grind)]
  apply YJ
  simp only[over,Array.toList_setIfInBounds]
  have:(cs.toList.set (off+j) c).take (off+(j+1))=cs.toList.take (off+j)++[c]:=by
   rw[show off+(j+1)=off+j+1 from rfl,ZF (by grind),List.take_set_of_le (ZR _)]
   simp
  rw[this,List.drop_set_of_lt (by omega)]
  grind
inductive PM(place:Nat→Option (Nat×Nat)):List (Nat×Operand)→List (Nat×Nat×Operand)→Prop
 |nil:PM place [] []
 |cons (i off n:Nat) (x:Operand) (l:List (Nat×Operand)) (ps:List (Nat×Nat×Operand)) (h:place i=some (off,n)) (t:PM place l ps):PM place ((i,x)::l) ((off,n,x)::ps)
theorem Ug(hR:bQ M rg a)(place:Nat→Option (Nat×Nat)):∀ (parts:List (Nat×Operand)) (ps:List (Nat×Nat×Operand)) (cs:Array Value) (l l':List AV),RL M l cs.toList→
  PM place parts ps→xD l (qQ rg ps)=some l'→
  ∃ cs':Array Value,Instr.fill place cs (parts.map fun(i,x)=>(i,a.eval x))=some cs'∧RL M l' cs'.toList
 |[],ps,cs,l,l',hl,hp,hf=>by
  cases hp
  simp only[qQ,xD,Z1]at hf
  subst hf
  exact⟨cs,rfl,hl⟩
 |(i,x)::parts,ps,cs,l,l',hl,hp,hf=>by
  cases hp with
  |cons _ off n _ _ bC tp h2=>
   simp only[qQ,xD]at hf
   split at hf
   ·rename_i lx hlx
    split at hf
    ·rename_i hc
     have hx:=(hR.ev x).cells hlx
     have e1:(a.eval x).cells.size=n:=by rw[← hc.1,hx.1,Zb]
     have e2:cs.size=l.length:=by rw[hl.1,Zb]
     have hov:=HZ off (a.eval x).cells.toList 0 cs (by grind)
     obtain⟨cs',h3,h4⟩:=Ug hR place parts bC (over cs.toList off (a.eval x).cells.toList).toArray (over l off lx) l' (by simpa using hl.over hx off) h2 hf
     simp only[Zu,Instr.fill,tp]
     rw[← Array.foldl_toList,Array.toList_zipIdx]
     grind
    grind
   grind
theorem Tp(fs:List Field)(place:Nat→Option (Nat×Nat))(hp:∀ i f k,fs[i]? =some f→P.info? f.type=some k→place i=some (f.offset,k.size)):
  ∀ (l:List (Nat×Operand)) (ps:List (Nat×Nat×Operand)),yQ P fs l=some ps→PM place l ps
 |[],ps,h=>by simp[yQ]at h;subst h;exact .nil
 |(i,x)::l,ps,h=>by
  simp only[yQ]at h
  split at h
  ·rename_i f hf
   split at h
   ·rename_i k hk
    rw[ZQ]at h
    obtain⟨bC,h1,rfl⟩:=h
    exact .cons _ _ _ _ _ _ (hp i f k hf hk) (Tp fs place hp l bC h1)
   grind
  grind
theorem run_places(w:World):∀ (fs:List Field),fs.all (fun f=>(P.info? f.type).isSome)=true→
  ∃ pl:List (Nat×Nat),(fs.mapM (fun f:Field=>do pure (f.offset,← sizeOf f.type)):Sem (List (Nat×Nat))).run P w= .ok pl w∧∀ (i:Nat) (f:Field) (k:TypeInfo),fs[i]? =some f→P.info? f.type=some k→pl[i]? =some (f.offset,k.size)
 |[],_=>⟨[],rfl,fun i f k h=>by grind⟩
 |f::fs,h=>by
  simp only[List.all_cons,Z0]at h
  obtain⟨k0,tc⟩:=Ye.1 h.1
  obtain⟨pl,h1,h2⟩:=run_places w fs h.2
  refine⟨(f.offset,k0.size)::pl,?_,fun i g k hg hk=> ?_⟩
  ·simp only[List.mapM_cons,Sem.run_bind,lh tc,Result.andThen_ok,Sem.run_pure,h1]
  grind
theorem avZ{cfg:Nat→Nat}{d:Option Nat}{E:List PanicEntry→Store→Prop}{t:TypeId}{i:TypeInfo}{z:Value}{fs:Array Field}{parts:Array (Nat×Operand)}{ps:List (Nat×Nat×Operand)}
  (ht:P.underlying t=some (.struct fs)) (hi:P.info? t=some i) (hz:i.zero=some z) (cV:fs.toList.all (fun f=>(P.info? f.type).isSome)=true) (ak:yQ P fs.toList parts.toList=some ps)
  (hI:Inv P M w0 σ w) (hR:bQ M rg a) (h:aj P cfg d rg σ K E (.build z.cells.toList ps)):aD P M w0 K ((Instr.build t (parts.map fun(i,x)=>(i,a.eval x))).run P w):=by
 simp only[aj]at h
 split at h
 ·rename_i l hl
  obtain⟨pl,h1,h2⟩:=run_places (P:=P) w fs.toList cV
  obtain⟨cs',h3,h4⟩:=Ug hR (fun i:Nat=>pl[i]?) parts.toList ps z.cells (z.cells.toList.map .v) l (RL.exact _) (Tp fs.toList _ h2 _ _ ak) hl
  refine aD.same hI (v:= .agg cs') ?_ h ?_
  ·have:=R.tM h4;simp_all
  ·have h1':(fs.mapM (fun f:Field=>do pure (f.offset,← sizeOf f.type)):Sem (Array (Nat×Nat))).run P w= .ok pl.toArray w:=by
    rw[Array.mapM_eq_mapM_toList,Sem.run_map,h1]
    rfl
   simp only[Instr.build,Sem.run_bind,Ff hi hz,Result.andThen_ok,bw ht,h1',Array.toList_map]
   simp_all
 grind
theorem T3{af:Nat}:∀ (xs:List AV) (rows:List (List AV)) (vs:List Value),rowsOf af xs=some rows→RL M xs vs→RL M rows.flatten (vs.flatMap fun v=>v.cells.toList)∧rows.length=xs.length∧
  (∀ i (h:i<rows.length),rows[i].length=af)∧∀ v∈vs,v.cells.size=af
 |[],rows,vs,h,k=>by
  simp[rowsOf]at h;obtain rfl:=k.rR
  grind
 |x::xs,rows,vs,h,k=>by
  obtain⟨v,jh,rfl,hx,fK⟩:=k.bS
  simp only[rowsOf]at h
  split at h
  ·rename_i r hr
   split at h
   ·rename_i he
    rw[ZQ]at h
    obtain⟨rows',h1,rfl⟩:=h
    obtain⟨a1,a2,a3,a4⟩:=T3 xs rows' jh h1 fK
    have hc:=hx.cells hr
    refine⟨by simpa using RL.append hc a1,by simp[a2],fun i hi=> ?_,fun u hu=> ?_⟩
    ·grind
    ·rcases ZV.1 hu with rfl|hu
     ·rw[← he,hc.1,Zb]
     grind
   grind
  grind
theorem Pw(af:Nat):∀ (vs:List Value) (k:Nat) (cs:Array Value),(∀ v∈vs,v.cells.size=af)→k * af+vs.length * af≤cs.size→
  Instr.fill (fun i=>some (i * af,af)) cs ((List.range' k vs.length).zip vs)=some (over cs.toList (k * af) (vs.flatMap fun v=>v.cells.toList)).toArray
 |[],k,cs,_,_=>by simp[Instr.fill,over]
 |v::vs,k,cs,h,hl=>by
  have hv:=h v (by simp)
  simp only[Z6,Nat.succ_mul]at hl
  simp only[Z6,List.range'_succ,List.zip_cons_cons,Instr.fill]
  rw[← Array.foldl_toList,Array.toList_zipIdx,HZ (k * af) v.cells.toList 0 cs (by grind)]
  simp only[YP]
  rw[Pw af vs (k+1) _ (fun u hu=>h u (by simp[hu])) (by simp[over,hv];grind)]
  simp only[over,List.flatMap_cons,Z5,Zb,hv,Nat.succ_mul]
  rw[Y0 (by simp;omega)]
  have e1:(cs.toList.take (k * af)++v.cells.toList).length=k * af+af:=by simp[hv];omega
  rw[ZD (by omega),List.drop_append,X3 (by omega),e1]
  simp only[Za,Zz,YL]
  grind
end
section
variable {P:Program}[Glob P]{M:Mem}{w0:Base}{w:World}{σ:Store}{K:AV→Store→Prop}{rg:ag}{a:Act}{cfg:Nat→Nat}{d:Option Nat}{E:List PanicEntry→Store→Prop}
theorem agq(M:Mem)(B:Nat)(L:List Value)(k:Nat)(v:Value)(h:L[k]? =some v):M.add B L.length L B (0+k)=some v:=by
 have:k<L.length:=(ZP.1 h).1
 simp[Mem.add,this]
 obtain⟨_,rfl⟩:=ZP.1 h
 simp
theorem awd{t e:TypeId}{n:Nat}{i:TypeInfo}{z:Value}{parts:Array (Nat×Operand)}(ht:P.underlying t=some (.slice e))(hi:P.info? e=some i)(hz:i.zero=some z)(hp:parts.toList.map (·.1)=List.range n)
  (hn:n * i.size≤16777216) (hI:Inv P M w0 σ w) (hR:bQ M rg a) (h:aj P cfg d rg σ K E (.bM e i.size (parts.toList.map (·.2)))):
  aD P M w0 K ((Instr.buildSlice t n (parts.map fun(i,x)=>(i,a.eval x))).run P w):=by
 simp only[aj]at h
 split at h
 ·rename_i rows afa
  obtain⟨pE,h⟩:=h
  obtain⟨hL,hlen,aQ,vk⟩:=T3 _ rows _ afa (ga hR (parts.toList.map (·.2)))
  generalize pR:((parts.toList.map (·.2)).map a.eval)=vs at hL vk
  have JE:vs.length=n:=by
   rw[← pR]
   have:=Zy List.length hp
   simpa using this
  have j9:rows.length=n:=by rw[hlen,← JE,← pR];simp[ga hR _ |>.1]
  have Qz:=nX rows aQ
  generalize hLL:(vs.flatMap fun v=>v.cells.toList)=L at hL
  have Qa:L.length=n * i.size:=by rw[← hL.1,Qz,j9]
  have afo:(parts.map fun x=>(x.1,a.eval x.2)).toList=(List.range' 0 vs.length).zip vs:=by
   rw[JE,← X0,← hp,← pR]
   simp only[Array.toList_map]
   induction parts.toList with
   |nil=>rfl
   |cons p ps ih=>obtain⟨j,x⟩:=p;simp[ih]
  have eY:(Instr.buildSlice t n (parts.map fun(i,x)=>(i,a.eval x))).run P w= .ok (.slice (some ⟨w.heap.size,0,none⟩) n n) (w.alloc (.cells L.toArray e)):=by
   have key:∀ zs:Array Value,Sem.run P (match Instr.fill (fun j=>some (j * i.size,i.size)) (Array.map (fun x=>zs[x % zs.size]!) (Array.range (n * i.size))) (parts.map fun x=>(x.1,a.eval x.2)).toList with
     |some cells=>do
      let b ← newRow e cells
      pure (Value.slice (some b) n n)
     |_=>stuck "buildSlice: a part of the wrong size") w=Result.ok (Value.slice (some ⟨w.heap.size,0,none⟩) n n) (w.alloc (.cells L.toArray e)):=by
    intro zs
    rw[afo,Pw i.size vs 0 _ vk (by simp[JE])]
    simp only[Sem.run_bind,newRow,run_newObj,Result.andThen_ok,Sem.run_pure]
    congr 4
    simp only[over,Nat.zero_mul,List.take_zero,Za,hLL]
    rw[X3 (by simp[Qa]),Zg]
   simp only[Instr.buildSlice,Sem.run_bind,bw ht,Result.andThen_ok,lh hi,Sem.run_ite]
   rw[Z9 (by omega)]
   by_cases hc:n * i.size=0
   ·rw[Z8 hc]
    exact key #[]
   ·rw[Z9 hc]
    simp only[Ff hi hz,Result.andThen_ok,Sem.run_pure]
    exact key _
  rw[eY]
  have Js:Rows (M.add w.heap.size L.length L) w.heap.size 0 i.size rows (fun k=>L.getD k undef):=Rows.of_flat aQ (hL.mono (hI.nw _ _)) (agq M w.heap.size L)
  have kV:n≤maxLen:=by unfold maxLen;omega
  split at h
  ·refine⟨_,_,_,_,σ,rfl,hI.nw L.length L,hI.GF _ L e,?_,h⟩
   have:=R.nz Js (Nat.le_of_eq j9) kV true
   rw[j9]at this
   exact this
  ·obtain⟨pN,h⟩:=h
   have e1:rows.length * i.size=L.length:=by rw[j9,Qa]
   rw[e1]at h
   refine⟨_,_,_,_,_,rfl,hI.nw L.length L,hI.Db _ L e (ZR _) _,?_,h w.heap.size⟩
   have:=R.rG (t:=d.getD 0) (u:=L.length) (c:=L.length) Js (Nat.le_of_eq j9) kV (.inr ⟨by omega,by omega⟩) pN
   rw[j9]at this
   exact this
  ·refine⟨_,_,_,_,σ,rfl,hI.nw L.length L,hI.GF _ L e,?_,h⟩
   have:=R.agt Js (by rw[j9];exact kV)
   rw[j9]at this
   exact this
  ·refine⟨_,_,M,_,_,rfl,Mem.le.refl _,hI.box e hL _,?_,h w.heap.size⟩
   rw[j9]
   exact .ms _ _ _ _ _
 ·exact h.elim
theorem abn(op:BinOp)(t:TypeId)(k k':IntKind)(x y:Int):binOp op t (.int k x) (.int k' y)=
  match op with
  | .shl| .shr=>Op.shift op k x k' y
  | .add| .sub| .mul=>if k≠k' then stuck "BinOp: operands of different kinds" else Op.intArith op k x y
  | .quo| .rem=>if k≠k' then stuck "BinOp: operands of different kinds" else Op.intDiv op k x y
  | .and| .or| .xor| .andNot=>if k≠k' then stuck "BinOp: operands of different kinds" else Op.intBits op k x y
  |_=>if k≠k' then stuck "BinOp: operands of different kinds" else Op.intCmp op x y:=by
 cases op<;>rfl
theorem Ay(x y:ByteArray):(x.toList == y.toList)=decide (x=y):=by
 rw[ByteArray.toList_eq,ByteArray.toList_eq]
 obtain⟨⟨x⟩⟩:=x
 obtain⟨⟨y⟩⟩:=y
 rw[YF]
 simp
theorem KS{op:BinOp}{t:TypeId}{x y:Operand}(hI:Inv P M w0 σ w)(hR:bQ M rg a)
  (h:aj P cfg d rg σ K E (.bin op x y)):aD P M w0 K ((do eqGuard op t x y (a.eval x) (a.eval y);binOp op t (a.eval x) (a.eval y):Sem Value).run P w):=by
 have hx:=hR.ev x
 have hy:=hR.ev y
 simp only[aj]at h
 split at h
 ·rename_i u v hu hv
  rw[hu]at hx
  rw[hv]at hy
  rw[hx.ay,hy.ay]
  unfold oR at h
  split at h
  ·rename_i k p k' q
   rw[eqGuard_at_int,abn]
   simp only[Sem.run_bind,Sem.run_pure,Result.andThen_ok]
   cases op<;>simp only at h ⊢
   case add=>obtain⟨rfl,h⟩:=h;exact aD.same hI (.v _) h (by simp[Op.intArith])
   case sub=>obtain⟨rfl,h⟩:=h;exact aD.same hI (.v _) h (by simp[Op.intArith])
   case mul=>obtain⟨rfl,h⟩:=h;exact aD.same hI (.v _) h (by simp[Op.intArith])
   case quo=>obtain⟨rfl,h0,h⟩:=h;exact aD.same hI (.v _) h (by simp[Op.intDiv,h0])
   case rem=>obtain⟨rfl,h0,h⟩:=h;exact aD.same hI (.v _) h (by simp[Op.intDiv,h0])
   case and=>obtain⟨rfl,h⟩:=h;exact aD.same hI (.v _) h (by simp[intBits_and])
   case or=>obtain⟨rfl,h⟩:=h;exact aD.same hI (.v _) h (by simp[intBits_or])
   case xor=>obtain⟨rfl,h⟩:=h;exact aD.same hI (.v _) h (by simp[intBits_xor])
   case andNot=>obtain⟨rfl,h⟩:=h;exact aD.same hI (.v _) h (by simp[intBits_andNot])
   case shl=>obtain⟨h0,h1,h⟩:=h;exact aD.same hI (.v _) h (by rw[shift_shl _ _ _ _ h0 h1];rfl)
   case shr=>obtain⟨h0,h1,h⟩:=h;exact aD.same hI (.v _) h (by rw[shift_shr _ _ _ _ h0 h1];rfl)
   case eql=>obtain⟨rfl,h⟩:=h;exact aD.same hI (.v _) h (by simp[Op.intCmp];rfl)
   case neq=>obtain⟨rfl,h⟩:=h;exact aD.same hI (.v _) h (by simp[Op.intCmp,bne];rfl)
   case lss=>obtain⟨rfl,h⟩:=h;exact aD.same hI (.v _) h (by simp[Op.intCmp])
   case leq=>obtain⟨rfl,h⟩:=h;exact aD.same hI (.v _) h (by simp[Op.intCmp])
   case gtr=>obtain⟨rfl,h⟩:=h;exact aD.same hI (.v _) h (by simp[Op.intCmp])
   case geq=>obtain⟨rfl,h⟩:=h;exact aD.same hI (.v _) h (by simp[Op.intCmp])
  ·rename_i p q
   rw[eqGuard_at_string]
   simp only[Sem.run_bind,Sem.run_pure,Result.andThen_ok]
   have hb:∀ op,op≠.shl→op≠.shr→binOp op t (.string p) (.string q)=Op.stringOp op p q:=by intro op h1 h2;cases op<;>first|rfl|exact(h1 rfl).elim|exact(h2 rfl).elim
   cases op<;>simp only at h ⊢
   case add=>
    obtain⟨hs,h⟩:=h
    refine aD.same hI (.v _) h ?_
    rw[hb _ (by simp) (by simp)]
    simp only[Op.stringOp,IntKind.max_i64,Sem.run_ite]
    rw[Z9 (by omega)]
    rfl
   case eql=>exact aD.same hI (.v _) h (by rw[hb _ (by simp) (by simp)];simp only[Op.stringOp,Ay];rfl)
   case neq=>exact aD.same hI (.v _) h (by rw[hb _ (by simp) (by simp)];simp only[Op.stringOp,Ay];rfl)
   case lss=>exact aD.same hI (.v _) h (by rw[hb _ (by simp) (by simp)];simp only[Op.stringOp];rfl)
   case leq=>exact aD.same hI (.v _) h (by rw[hb _ (by simp) (by simp)];simp only[Op.stringOp,Ay];rfl)
   case gtr=>exact aD.same hI (.v _) h (by rw[hb _ (by simp) (by simp)];simp only[Op.stringOp,Ay];rfl)
   case geq=>exact aD.same hI (.v _) h (by rw[hb _ (by simp) (by simp)];simp only[Op.stringOp];rfl)
   all_goals exact h.elim
  ·exact h.elim
 ·exact h.elim
theorem awh{op:UnOp}{x:Operand}(hI:Inv P M w0 σ w)(hR:bQ M rg a)(h:aj P cfg d rg σ K E (.un op x)):aD P M w0 K ((Op.unary op (a.eval x)).run P w):=by
 have hx:=hR.ev x
 simp only[aj]at h
 split at h
 ·rename_i u hu
  rw[hu]at hx
  rw[hx.ay]
  split at h
  ·rename_i r hr
   refine aD.same hI (.v _) h ?_
   unfold Li at hr
   split at hr
   ·simp only[Z1]at hr;subst hr;simp[Op.unary,Op.intArith]
   ·simp only[Z1]at hr;subst hr;simp[Op.unary]
   ·cases hr
  ·exact h.elim
 ·exact h.elim
theorem av0{src dst:TypeId}{k k':IntKind}{x:Operand}(hs:P.underlying src=some (.int k'))(hd:P.underlying dst=some (.int k))(hI:Inv P M w0 σ w)(hR:bQ M rg a)(h:aj P cfg d rg σ K E (.mO k x)):
  aD P M w0 K ((convert src dst (a.eval x)).run P w):=by
 have hx:=hR.ev x
 simp only[aj]at h
 split at h
 ·rename_i k2 n hu
  rw[hu]at hx
  rw[hx.ay]
  exact aD.same hI (.v _) h (by simp[convert,bw hs,bw hd,Conv.intToInt])
 ·exact h.elim
theorem av3{t:TypeId}{fs:Array Field}{i:Nat}{f:Field}{k:TypeInfo}{x:Operand}(ht:P.underlying t=some (.struct fs))(hf:fs[i]? =some f)(hk:P.info? f.type=some k)(h0:k.size≠0)(hI:Inv P M w0 σ w)(hR:bQ M rg a)
  (h:aj P cfg d rg σ K E (.jI f.offset x)):aD P M w0 K ((Instr.fieldAt t (a.eval x) i).run P w):=by
 have hx:=hR.ev x
 simp only[aj]at h
 split at h
 ·rename_i tg b o hu
  rw[hu]at hx
  rw[hx.oJ]
  refine aD.same hI (.lp _ _ _) h ?_
  simp[Instr.fieldAt,bw ht,hf,Instr.sureAddr,fieldPlace,lh hk,h0,Addr.add_lit]
 ·rename_i l hu
  rw[hu]at hx
  obtain⟨b,o,cs,hv,h1,h2⟩:=hx.qf
  rw[hv]
  refine aD.same hI (v:= .pointer (some ⟨b,o+f.offset,none⟩)) ?_ h ?_
  ·refine .pc _ b _ (fun k=>cs (f.offset+k)) (fun k hk=> ?_) (fun k hk=> ?_)
   ·rw[XN];exact h1 _ (by simp at hk;omega)
   ·simp only[XI];exact h2 _ _
  ·simp[Instr.fieldAt,bw ht,hf,Instr.sureAddr,fieldPlace,lh hk,h0,Addr.add_lit]
 ·exact h.elim
theorem aaW{t:TypeId}{g:Bool}{n off:Nat}(ht:eV P t=some (g,n)){l:List AV}{cs:Array Value}(hl:RL M l cs.toList)(hI:Inv P M w0 σ w)
  (h:off+n≤l.length∧if g then K (.agg ((l.drop off).take n)) σ else match l[off]? with
   |some y=>K y σ
   |none=>False):aD P M w0 K ((part t cs off).run P w):=by
 obtain⟨h1,h2⟩:=Dd ht w
 obtain⟨ax,h⟩:=h
 simp only[part,Sem.run_bind,h1,Result.andThen_ok]
 cases g with
 |true=>
  simp only[Y4,Sem.run_bind,h2,Result.andThen_ok,Sem.run_pure]at h ⊢
  refine aD.same hI (v:= .agg (cs.extract off (off+n))) ?_ h rfl
  have:=R.tM ((hl.drop off).take n)
  have e:((cs.toList.drop off).take n).toArray=cs.extract off (off+n):=by
   apply YJ
   simp
  rw[e]at this
  exact this
 |false=>
  simp only[ZM,Zf]at h ⊢
  split at h
  ·rename_i y hy
   obtain⟨v,hv,hr⟩:=hl.get hy
   have:cs[off]? =some v:=by simpa using hv
   simp only[this,Sem.run_pure]
   exact aD.same hI hr h rfl
  ·exact h.elim
theorem av4{t:TypeId}{fs:Array Field}{i n:Nat}{f:Field}{g:Bool}{x:Operand}(ht:P.underlying t=some (.struct fs))(hf:fs[i]? =some f)(hg:eV P f.type=some (g,n))(hI:Inv P M w0 σ w)(hR:bQ M rg a)
  (h:aj P cfg d rg σ K E (.field g f.offset n x)):aD P M w0 K ((Instr.field t (a.eval x) i).run P w):=by
 simp only[aj]at h
 split at h
 ·rename_i l hl
  obtain⟨cs,mV,hc⟩:=(hR.ev x).GD hl
  rw[mV]
  have:=aaW hg hc hI h
  simpa[Instr.field,bw ht,hf,asAgg]using this
 ·exact h.elim
theorem af4{x y:AV}{c:Bool}(h:vK .int x y=some c):∃ k a b,x= .v (.int k a)∧y= .v (.int k b)∧c=decide (a=b):=by
 unfold vK at h
 split at h
 ·rename_i k a k' b _
  split at h
  ·rename_i e;subst e;simp only[Z1]at h;exact⟨k,a,b,rfl,rfl,h.symm⟩
  ·cases h
 ·rename_i e;cases e
 ·rename_i e;cases e
 ·cases h
theorem af5{x y:AV}{c:Bool}(h:vK .str x y=some c):∃ a b,x= .v (.string a)∧y= .v (.string b)∧c=decide (a=b):=by
 unfold vK at h
 split at h
 ·rename_i e;cases e
 ·rename_i a b _;simp only[Z1]at h;exact⟨a,b,rfl,rfl,h.symm⟩
 ·rename_i e;cases e
 ·cases h
theorem af3{x y:AV}{c:Bool}(h:vK .bool x y=some c):∃ a b,x= .v (.bool a)∧y= .v (.bool b)∧c=(a == b):=by
 unfold vK at h
 split at h
 ·rename_i e;cases e
 ·rename_i e;cases e
 ·rename_i a b _;simp only[Z1]at h;exact⟨a,b,rfl,rfl,h.symm⟩
 ·cases h
theorem Sb(d:Nat):∀ (fs:List Field) (n:Nat) (ks:List wY) (xs ys:List AV) (us vs:Array Value) (b:Bool),rD P n fs=some ks→sP ks xs ys=some b→
  RL M xs (us.toList.drop n)→RL M ys (vs.toList.drop n)→(Op.eqFields (d+1) us vs fs).run P w= .ok b w
 |[],n,ks,xs,ys,us,vs,b,hk,he,hx,hy=>by
  simp only[rD,Z1]at hk
  subst hk
  cases xs<;>cases ys<;>simp[sP]at he
  subst he
  rfl
 |f::fs,n,ks,xs,ys,us,vs,b,hk,he,hx,hy=>by
  simp only[rD]at hk
  split at hk
  ·rename_i hc
   obtain⟨k,ks',rfl,aeT,QH⟩:∃ k ks',ks=k::ks'∧rD P (n+1) fs=some ks'∧((k= .int∧∃ q,P.underlying f.type=some (.int q))∨(k= .str∧P.underlying f.type=some .string)∨(k= .bool∧P.underlying f.type=some .bool)):=by
    split at hk
    ·rename_i q hu;obtain⟨ks',h1,rfl⟩:=ZQ.1 hk;exact⟨_,ks',rfl,h1,.inl ⟨rfl,q,hu⟩⟩
    ·rename_i hu;obtain⟨ks',h1,rfl⟩:=ZQ.1 hk;exact⟨_,ks',rfl,h1,.inr (.inl ⟨rfl,hu⟩)⟩
    ·rename_i hu;obtain⟨ks',h1,rfl⟩:=ZQ.1 hk;exact⟨_,ks',rfl,h1,.inr (.inr ⟨rfl,hu⟩)⟩
    ·cases hk
   match xs,ys,he with
   |x::xs,y::ys,he=>
    obtain⟨u,us',yl,JI,fK⟩:=hx.bS
    obtain⟨v,jh,pR,JJ,BP⟩:=hy.bS
    have Eg:us[n]? =some u:=by
     have:=Zy (·[0]?) yl
     simpa using this
    have JD:vs[n]? =some v:=by
     have:=Zy (·[0]?) pR
     simpa using this
    have Eh:us.toList.drop (n+1)=us':=by
     rw[← YL,yl];rfl
    have Ej:vs.toList.drop (n+1)=jh:=by
     rw[← YL,pR];rfl
    simp only[sP]at he
    split at he
    ·rename_i c Jc
     obtain⟨b',iG,rfl⟩:=ZQ.1 he
     have ih:=Sb d fs (n+1) ks' xs ys us vs b' aeT iG (by rw[Eh];exact fK) (by rw[Ej];exact BP)
     have Q8:(part f.type us f.offset).run P w= .ok u w∧(part f.type vs f.offset).run P w= .ok v w:=by
      rcases QH with⟨_,q,hu⟩|⟨_,hu⟩|⟨_,hu⟩<;>simp[part,isAgg,bw hu,hc.2,Eg,JD]
     have heq:(Op.equalIn (d+1) f.type u v).run P w= .ok c w:=by
      rcases QH with⟨rfl,q,hu⟩|⟨rfl,hu⟩|⟨rfl,hu⟩
      ·obtain⟨k,p,q',rfl,rfl,rfl⟩:=af4 Jc
       rw[JI.ay,JJ.ay,run_equalIn_int (w:=w) _ _ _ q _ _ hu]
       rfl
      ·obtain⟨p,q',rfl,rfl,rfl⟩:=af5 Jc
       rw[JI.ay,JJ.ay,run_equalIn_string (w:=w) _ _ _ _ hu,Ay]
      ·obtain⟨p,q',rfl,rfl,rfl⟩:=af3 Jc
       rw[JI.ay,JJ.ay,run_equalIn_bool' (w:=w) _ _ _ _ hu]
     simp only[Op.eqFields,hc.1,ne_eq,not_false_eq_true,Y4,Sem.run_bind,Q8.1,Q8.2,Result.andThen_ok,heq,Sem.run_ite]
     cases c
     ·simp
     ·simp[ih]
    ·cases he
   |[],ys,he=>simp[sP]at he
   |x::xs,[],he=>simp[sP]at he
  ·cases hk
theorem av1{neg:Bool}{t:TypeId}{fs:Array Field}{ks:List wY}{x y:Operand}(ht:P.underlying t=some (.struct fs))(h1:P.stoodInHeld t=false)(h2:P.eqGuardType P.depth t=false)(hk:rD P 0 fs.toList=some ks)(hI:Inv P M w0 σ w)(hR:bQ M rg a)
  (h:aj P cfg d rg σ K E (.eqs neg ks x y)):aD P M w0 K ((do eqGuard (if neg then .neq else .eql) t x y (a.eval x) (a.eval y);binOp (if neg then .neq else .eql) t (a.eval x) (a.eval y):Sem Value).run P w):=by
 simp only[aj]at h
 split at h
 ·rename_i xs ys fK BP
  obtain⟨us,hu,JH⟩:=(hR.ev x).GD fK
  obtain⟨vs,hv,hyr⟩:=(hR.ev y).GD BP
  rw[hu,hv]
  split at h
  ·rename_i b hb
   have he:=Sb (P:=P) (M:=M) (w:=w) 9998 fs.toList 0 ks xs ys us vs b hk hb (by simpa using JH) (by simpa using hyr)
   have rq:P.underlying t=some (.struct (P.fieldsOf t)):=by simp[Program.fieldsOf,ht]
   have hf:P.fieldsOf t=fs:=by simp[Program.fieldsOf,ht]
   have fI:=run_equalIn_struct w 9999 t us vs rq h1
   rw[hf,he]at fI
   refine aD.same hI (.v _) h ?_
   rw[Sem.run_bind,run_eqGuard_agg w _ t x y us vs h2]
   cases neg
   ·simp only[Result.andThen_ok,ZM,Zf,run_eql_struct,fI,Bool.xor_false]
   ·simp only[Result.andThen_ok,Y4,run_neq_struct,fI,Bool.xor_true]
  ·exact h.elim
 ·exact h.elim
end
section
variable {P:Program}[Glob P]{M:Mem}{w0:Base}{w:World}{σ:Store}{K:AV→Store→Prop}{rg:ag}{a:Act}{cfg:Nat→Nat}{d:Option Nat}{E:List PanicEntry→Store→Prop}
def OU(P:Program)[Glob P](t:TypeId):zX→Prop
 | .bool=>P.underlying t=some .bool
 | .slice=>∃ e,P.underlying t=some (.slice e)
 | .map=>∃ k e,P.underlying t=some (.map k e)
 | .func=>∃ p r v,P.underlying t=some (.func p r v)
 | .ptr=>∃ e,P.underlying t=some (.pointer e)
theorem gM{t:TypeId}{u v:Value}{b:Bool}(hg:∀ (op:BinOp) (p q:Operand),eqGuard op t p q u v=pure ())(h1:binOp .eql t u v=(do pure (.bool (← Op.equal t u v))))(h2:binOp .neq t u v=(do pure (.bool (!(← Op.equal t u v)))))
  (he:∀ d:Nat,(Op.equalIn (d+1) t u v).run P w= .ok b w) (op:BinOp) (p q:Operand):eqGuard op t p q u v=pure ()∧(op= .eql→(binOp op t u v).run P w= .ok (.bool b) w)∧(op= .neq→(binOp op t u v).run P w= .ok (.bool (!b)) w):=by
 have x5:(Op.equal t u v).run P w= .ok b w:=he 9999
 refine⟨hg op p q,?_,?_⟩
 ·rintro rfl
  rw[h1,Sem.run_bind,x5]
  rfl
 ·rintro rfl
  rw[h2,Sem.run_bind,x5]
  rfl
set_option maxHeartbeats 2000000 in
theorem ac5{k:zX}{t:TypeId}{x y:AV}{u v:Value}{b:Bool}(ht:OU P t k)(hx:R M x u)(hy:R M y v)(h:Dz k x y=some b)(op:BinOp)(p q:Operand):
  eqGuard op t p q u v=pure ()∧(op= .eql→(binOp op t u v).run P w= .ok (.bool b) w)∧(op= .neq→(binOp op t u v).run P w= .ok (.bool (!b)) w):=by
 have sl:∀ {nn ez rows},R M (.sl true ez rows) nn→∃ b n c,nn= .slice (some b) n c:=by
  intro nn ez rows h
  rcases h.qg with⟨a,h,_,hv⟩|⟨b,off,cap,cs,hv,_⟩
  ·obtain⟨a,rfl⟩:=Ye.1 (h rfl)
   exact⟨_,_,_,hv⟩
  ·exact⟨_,_,_,hv⟩
 have ow:∀ {nn ez tg b u c rows},R M (.own ez tg b u c rows) nn→∃ b n c,nn= .slice (some b) n c:=by
  intro nn ez tg b u c rows h
  obtain⟨off,cap,cs,hv,_⟩:=h.qe
  exact⟨_,_,_,hv⟩
 unfold Dz at h
 split at h<;>simp only[Z1,reduceCtorEq]at h<;>subst h
 case h_1=>rw[hx.ay,hy.ay];exact gM (fun op p q=>by cases op<;>rfl) rfl rfl (fun d=>by simp[Op.equalIn,bw ht]) op p q
 case h_2=>obtain⟨e,ht⟩:=ht;obtain⟨b,n,c,rfl⟩:=sl hx;rw[hy.ay];exact gM (fun op p q=>by cases op<;>rfl) rfl rfl (fun d=>by simp[Op.equalIn,bw ht]) op p q
 case h_3=>obtain⟨e,ht⟩:=ht;obtain⟨b,n,c,rfl⟩:=sl hy;rw[hx.ay];exact gM (fun op p q=>by cases op<;>rfl) rfl rfl (fun d=>by simp[Op.equalIn,bw ht]) op p q
 case h_4=>obtain⟨e,ht⟩:=ht;obtain⟨b,n,c,rfl⟩:=ow hx;rw[hy.ay];exact gM (fun op p q=>by cases op<;>rfl) rfl rfl (fun d=>by simp[Op.equalIn,bw ht]) op p q
 case h_5=>obtain⟨e,ht⟩:=ht;obtain⟨b,n,c,rfl⟩:=ow hy;rw[hx.ay];exact gM (fun op p q=>by cases op<;>rfl) rfl rfl (fun d=>by simp[Op.equalIn,bw ht]) op p q
 case h_6=>obtain⟨e,ht⟩:=ht;rw[hx.B6,hy.ay];exact gM (fun op p q=>by cases op<;>rfl) rfl rfl (fun d=>by simp[Op.equalIn,bw ht]) op p q
 case h_7=>obtain⟨e,ht⟩:=ht;rw[hx.ay,hy.B6];exact gM (fun op p q=>by cases op<;>rfl) rfl rfl (fun d=>by simp[Op.equalIn,bw ht]) op p q
 case h_8=>obtain⟨e,ht⟩:=ht;rw[hx.ay,hy.ay];exact gM (fun op p q=>by cases op<;>rfl) rfl rfl (fun d=>by simp[Op.equalIn,bw ht]) op p q
 case h_9=>obtain⟨e,ht⟩:=ht;rw[hx.ay,hy.ay];exact gM (fun op p q=>by cases op<;>rfl) rfl rfl (fun d=>by simp[Op.equalIn,bw ht]) op p q
 case h_10=>obtain⟨e,ht⟩:=ht;rw[hx.ay,hy.ay];exact gM (fun op p q=>by cases op<;>rfl) rfl rfl (fun d=>by simp[Op.equalIn,bw ht]) op p q
 case h_11=>obtain⟨k,e,ht⟩:=ht;rw[hx.ay,hy.ay];exact gM (fun op p q=>by cases op<;>rfl) rfl rfl (fun d=>by simp[Op.equalIn,bw ht]) op p q
 case h_12=>obtain⟨k,e,ht⟩:=ht;rw[hx.ay,hy.ay];exact gM (fun op p q=>by cases op<;>rfl) rfl rfl (fun d=>by simp[Op.equalIn,bw ht]) op p q
 case h_13=>obtain⟨k,e,ht⟩:=ht;rw[hx.ay,hy.ay];exact gM (fun op p q=>by cases op<;>rfl) rfl rfl (fun d=>by simp[Op.equalIn,bw ht]) op p q
 case h_14=>obtain⟨fp,fr,fv,ht⟩:=ht;rw[hx.ay,hy.ay];exact gM (fun op p q=>by cases op<;>rfl) rfl rfl (fun d=>by simp[Op.equalIn,bw ht]) op p q
 case h_15=>obtain⟨fp,fr,fv,ht⟩:=ht;rw[hx.ay,hy.ay];exact gM (fun op p q=>by cases op<;>rfl) rfl rfl (fun d=>by simp[Op.equalIn,bw ht]) op p q
 case h_16=>obtain⟨fp,fr,fv,ht⟩:=ht;rw[hx.ay,hy.ay];exact gM (fun op p q=>by cases op<;>rfl) rfl rfl (fun d=>by simp[Op.equalIn,bw ht]) op p q
 case h_17=>obtain⟨e,ht⟩:=ht;rw[hx.oJ,hy.ay];exact gM (fun op p q=>by cases op<;>rfl) rfl rfl (fun d=>by simp[Op.equalIn,bw ht]) op p q
 case h_18=>obtain⟨e,ht⟩:=ht;rw[hx.ay,hy.oJ];exact gM (fun op p q=>by cases op<;>rfl) rfl rfl (fun d=>by simp[Op.equalIn,bw ht]) op p q
 case h_19=>obtain⟨e,ht⟩:=ht;rw[hx.ay,hy.ay];exact gM (fun op p q=>by cases op<;>rfl) rfl rfl (fun d=>by simp[Op.equalIn,bw ht]) op p q
 case h_20=>obtain⟨e,ht⟩:=ht;rw[hx.ay,hy.ay];exact gM (fun op p q=>by cases op<;>rfl) rfl rfl (fun d=>by simp[Op.equalIn,bw ht]) op p q
 case h_21=>obtain⟨e,ht⟩:=ht;rw[hx.ay,hy.ay];exact gM (fun op p q=>by cases op<;>rfl) rfl rfl (fun d=>by simp[Op.equalIn,bw ht]) op p q
theorem Cq{neg:Bool}{k:zX}{t:TypeId}{x y:Operand}(ht:OU P t k)(hI:Inv P M w0 σ w)(hR:bQ M rg a)
  (h:aj P cfg d rg σ K E (.iX neg k x y)):aD P M w0 K ((do eqGuard (if neg then .neq else .eql) t x y (a.eval x) (a.eval y);binOp (if neg then .neq else .eql) t (a.eval x) (a.eval y):Sem Value).run P w):=by
 simp only[aj]at h
 split at h
 ·rename_i b iG
  obtain⟨h1,h2,h3⟩:=ac5 (w:=w) ht (hR.ev x) (hR.ev y) iG (if neg then .neq else .eql) x y
  refine aD.same hI (.v _) h ?_
  rw[Sem.run_bind,h1]
  simp only[Sem.run_pure,Result.andThen_ok]
  cases neg
  ·simpa using h2 rfl
  ·simpa using h3 rfl
 ·exact h.elim
theorem Uh{x:Operand}(hI:Inv P M w0 σ w)(hR:bQ M rg a)(h:aj P cfg d rg σ K E (.mv x)):aD P M w0 K ((pure (a.eval x):Sem Value).run P w):=
 aD.same hI (hR.ev x) h rfl
theorem awe{c x y:Operand}(hI:Inv P M w0 σ w)(hR:bQ M rg a)(h:aj P cfg d rg σ K E (.pick c x y)):aD P M w0 K ((do pure (if ← asBool (a.eval c)then a.eval x else a.eval y):Sem Value).run P w):=by
 have hc:=hR.ev c
 simp only[aj]at h
 split at h
 ·rename_i t he
  rw[he]at hc
  rw[hc.ay]
  refine aD.same hI (x:=if t then ev rg x else ev rg y) ?_ h rfl
  cases t
  ·exact hR.ev y
  ·exact hR.ev x
 ·exact h.elim
theorem av2{x:Operand}{i:Nat}(hI:Inv P M w0 σ w)(hR:bQ M rg a)(h:aj P cfg d rg σ K E (.extract x i)):aD P M w0 K ((Instr.extract (a.eval x) i).run P w):=by
 have hx:=hR.ev x
 simp only[aj]at h
 split at h
 ·rename_i xs he
  rw[he]at hx
  obtain⟨cs,hv,hl⟩:=hx.EU
  rw[hv]
  split at h
  ·rename_i y hy
   obtain⟨v,hv',hr⟩:=hl.get hy
   exact aD.same hI hr h (by simp[Instr.extract,hv'])
  ·exact h.elim
 ·rename_i vs he
  rw[he]at hx
  rw[hx.ay]
  split at h
  ·rename_i y hy
   exact aD.same hI (.v _) h (by simp[Instr.extract,hy])
  ·exact h.elim
 ·exact h.elim
theorem av5{t e:TypeId}{k:TypeInfo}{x i:Operand}(ht:P.underlying t=some (.slice e))(hk:P.info? e=some k)(hI:Inv P M w0 σ w)(hR:bQ M rg a)(h:aj P cfg d rg σ K E (.gE k.size x i)):
  aD P M w0 K ((Instr.indexAt t (a.eval x) (a.eval i)).run P w):=by
 have hx:=hR.ev x
 have hi:=hR.ev i
 simp only[aj]at h
 have run:∀ (b o n cap:Nat) (kd:IntKind) (j:Int),0≤j→j<n→(Instr.indexAt t (.slice (some ⟨b,o,none⟩) n cap) (.int kd j)).run P w= .ok (.pointer (some ⟨b,o+j.toNat * k.size,none⟩)) w:=by
  intro b o n cap kd j h0 h1
  simp[Instr.indexAt,bw ht,asIntOf,h0,h1,lh hk,Addr.add_lit]
 split at h
 ·rename_i kd j he
  rw[he]at hi
  rw[hi.ay]
  split at h
  ·rename_i nn ez rows gi
   rw[gi]at hx
   obtain⟨rfl,h0,h1,h⟩:=h
   rcases hx.qg with⟨_,_,rfl,_⟩|⟨b,off,cap,cs,hv,hr,_,_⟩
   ·simp at h1;omega
   ·rw[hv]
    exact aD.same hI (hr.pc j.toNat (by omega)) h (run b off _ cap kd j h0 h1)
  ·rename_i ez tg b u c rows gi
   rw[gi]at hx
   obtain⟨rfl,h0,h1,h⟩:=h
   obtain⟨off,cap,cs,hv,hr,_⟩:=hx.qe
   rw[hv]
   exact aD.same hI (hr.pc j.toNat (by omega)) h (run b off _ cap kd j h0 h1)
  ·rename_i tg b o n cap gi
   rw[gi]at hx
   rw[hx.B6]
   obtain⟨h0,h1,h⟩:=h
   exact aD.same hI (.lp _ _ _) h (run b o n cap kd j h0 h1)
  ·exact h.elim
 ·exact h.elim
theorem av6{t e:TypeId}{n:Nat}{k:TypeInfo}{x i:Operand}(ht:P.underlying t=some (.array n e))(hk:P.info? e=some k)(hI:Inv P M w0 σ w)(hR:bQ M rg a)(h:aj P cfg d rg σ K E (.jt n k.size x i)):
  aD P M w0 K ((Instr.indexAt t (a.eval x) (a.eval i)).run P w):=by
 have hx:=hR.ev x
 have hi:=hR.ev i
 simp only[aj]at h
 have run:∀ (b o:Nat) (kd:IntKind) (j:Int),0≤j→j<n→(Instr.indexAt t (.pointer (some ⟨b,o,none⟩)) (.int kd j)).run P w= .ok (.pointer (some ⟨b,o+j.toNat * k.size,none⟩)) w:=by
  intro b o kd j h0 h1
  simp[Instr.indexAt,bw ht,asIntOf,Instr.sureAddr,h0,h1,lh hk,Addr.add_lit]
 split at h
 ·rename_i kd j he
  rw[he]at hi
  rw[hi.ay]
  split at h
  ·rename_i tg b o gi
   rw[gi]at hx
   rw[hx.oJ]
   obtain⟨h0,h1,h⟩:=h
   exact aD.same hI (.lp _ _ _) h (run b o kd j h0 h1)
  ·rename_i l gi
   rw[gi]at hx
   obtain⟨h0,h1,h⟩:=h
   obtain⟨b,o,cs,hv,h2,h3⟩:=hx.qf
   rw[hv]
   refine aD.same hI ?_ h (run b o kd j h0 h1)
   refine .pc _ b _ (fun m=>cs (j.toNat * k.size+m)) (fun m hm=> ?_) (fun m hm=> ?_)
   ·rw[XN];exact h2 _ (by simp at hm;omega)
   ·simp only[XI];exact h3 _ _
  ·rename_i g o gi
   rw[gi]at hx
   obtain⟨l,ha,ho,h0,h1,h⟩:=h
   subst ho
   rw[hx.ay]
   obtain⟨b,o,cs,hv,h2,h3⟩:=(hI.gl g l ha).qf
   cases hv
   refine aD.same hI ?_ h (run _ _ kd j h0 h1)
   refine .pc _ g _ (fun m=>cs (j.toNat * k.size+m)) (fun m hm=> ?_) (fun m hm=> ?_)
   ·rw[XN];exact h2 _ (by simp at hm;omega)
   ·simp only[XI];exact h3 _ _
  ·exact h.elim
 ·exact h.elim
theorem av7{t:TypeId}{x i:Operand}(ht:P.underlying t=some .string)(hI:Inv P M w0 σ w)(hR:bQ M rg a)(h:aj P cfg d rg σ K E (.idxs x i)):
  aD P M w0 K ((Instr.index t (a.eval x) (a.eval i)).run P w):=by
 have hx:=hR.ev x
 have hi:=hR.ev i
 simp only[aj]at h
 split at h
 ·rename_i kd j s dk mj
  rw[dk]at hi
  rw[mj]at hx
  rw[hi.ay,hx.ay]
  obtain⟨⟨h0,h1⟩,h⟩:=h
  refine aD.same hI (.v _) h ?_
  have:s[j.toNat]? =some (s[j.toNat]'(by omega)):=by
   rw[getElem?_pos]
  simp[Instr.index,asIntOf,bw ht,h0,this]
 ·exact h.elim
theorem av9{t:TypeId}{x:Operand}{ty:TypeId}(ht:P.underlying t=some .string)(hI:Inv P M w0 σ w)(hR:bQ M rg a)(h:aj P cfg d rg σ K E (.len true x)):aD P M w0 K ((Builtin.len_ #[t] ty #[a.eval x]).run P w):=by
 have hx:=hR.ev x
 simp only[aj]at h
 split at h
 ·rename_i s he
  rw[he]at hx
  rw[hx.ay]
  exact aD.same hI (.v _) h (by simp[Builtin.len_,bw ht,goInt])
 ·exact h.elim
theorem av8{t e:TypeId}{x:Operand}{ty:TypeId}(ht:P.underlying t=some (.slice e))(hI:Inv P M w0 σ w)(hR:bQ M rg a)(h:aj P cfg d rg σ K E (.len false x)):aD P M w0 K ((Builtin.len_ #[t] ty #[a.eval x]).run P w):=by
 have hx:=hR.ev x
 simp only[aj]at h
 have run:∀ b n c,a.eval x= .slice b n c→(Builtin.len_ #[t] ty #[a.eval x]).run P w= .ok (.int .i64 n) w:=by
  intro b n c e
  rw[e]
  simp[Builtin.len_,bw ht,goInt]
 split at h
 ·rename_i b n c he
  rw[he]at hx
  exact aD.same hI (.v _) h (run b n c hx.ay)
 ·rename_i tg b o n c he
  rw[he]at hx
  exact aD.same hI (.v _) h (run _ n c hx.B6)
 ·rename_i nn ez rows he
  rw[he]at hx
  rcases hx.qg with⟨_,_,rfl,hv⟩|⟨b,off,cap,cs,hv,hr,h1,h2⟩
  ·exact aD.same hI (.v _) (h (by simp)) (run _ _ _ hv)
  ·exact aD.same hI (.v _) (h (by omega)) (run _ _ _ hv)
 ·rename_i ez tg b u c rows he
  rw[he]at hx
  obtain⟨off,cap,cs,hv,hr,h1,h2,_⟩:=hx.qe
  exact aD.same hI (.v _) (h (by omega)) (run _ _ _ hv)
 ·exact h.elim
theorem awb{x y:Operand}{ts:Array TypeId}{ty:TypeId}(hI:Inv P M w0 σ w)(hR:bQ M rg a)(h:aj P cfg d rg σ K E (.max2 x y)):aD P M w0 K ((Builtin.max_ ts ty #[a.eval x,a.eval y]).run P w):=by
 have hx:=hR.ev x
 have hy:=hR.ev y
 simp only[aj]at h
 split at h
 ·rename_i u v hu hv
  rw[hu]at hx
  rw[hv]at hy
  rw[hx.ay,hy.ay]
  split at h
  ·rename_i r hr
   refine aD.same hI (.v _) h ?_
   unfold yE at hr
   split at hr
   ·split at hr
    ·rename_i e;subst e
     simp only[ZM,Zf,Z1]at hr
     subst hr
     simp[Builtin.max_,Builtin.max2]
    ·cases hr
   ·cases hr
  ·exact h.elim
 ·exact h.elim
theorem awc{x y:Operand}{ts:Array TypeId}{ty:TypeId}(hI:Inv P M w0 σ w)(hR:bQ M rg a)(h:aj P cfg d rg σ K E (.min2 x y)):aD P M w0 K ((Builtin.min_ ts ty #[a.eval x,a.eval y]).run P w):=by
 have hx:=hR.ev x
 have hy:=hR.ev y
 simp only[aj]at h
 split at h
 ·rename_i u v hu hv
  rw[hu]at hx
  rw[hv]at hy
  rw[hx.ay,hy.ay]
  split at h
  ·rename_i r hr
   refine aD.same hI (.v _) h ?_
   unfold yE at hr
   split at hr
   ·split at hr
    ·rename_i e;subst e
     simp only[Y4,Z1]at hr
     subst hr
     simp[Builtin.min_,Builtin.min2]
    ·cases hr
   ·cases hr
  ·exact h.elim
 ·exact h.elim
theorem RF{M:Mem}{rg:ag}{a:Act}(hR:bQ M rg a){o:Option Operand}{r:Option Int}(h:oD (o.map (ev rg))=some r):(o=none∧r=none)∨∃ k i,o.map a.eval=some (.int k i)∧r=some i:=by
 cases o with
 |none=>simp[oD]at h;exact .inl ⟨rfl,h.symm⟩
 |some x=>
  have hx:=hR.ev x
  simp only[Zh]at h
  unfold oD at h
  split at h
  ·rename_i e;cases e
  ·rename_i k i e
   simp only[Z1]at e h
   rw[e]at hx
   exact .inr ⟨k,i,by simp[hx.ay],h.symm⟩
  ·cases h
theorem ah9{cx eK:Option Int}{Lu Lt:Option Value}(h1:(Lu=none∧cx=none)∨∃ k i,Lu=some (.int k i)∧cx=some i)(h2:(Lt=none∧eK=none)∨∃ k i,Lt=some (.int k i)∧eK=some i)
  (n c:Nat) (a1:0≤cx.getD 0) (a2:cx.getD 0≤eK.getD n) (a3:eK.getD n≤c):
  (Instr.sliceBounds true n c Lu Lt none).run P w= .ok ((cx.getD 0).toNat,(eK.getD n).toNat,c) w:=by
 have sb:∀ (k:IntKind) (i:Int) (y:Nat) (code:BoundsCode),0≤i→i≤y→(Instr.sliceBound (.int k i) y code).run P w= .ok i.toNat w:=by
  intro k i y code h0 h1
  simp[Instr.sliceBound,asIntOf,h0,h1]
 rcases h1 with⟨rfl,rfl⟩|⟨k,i,rfl,rfl⟩<;>rcases h2 with⟨rfl,rfl⟩|⟨k',i',rfl,rfl⟩<;>simp only[XW,Zx]at a1 a2 a3 ⊢
 ·simp[Instr.sliceBounds]
 ·simp[Instr.sliceBounds,sb k' i' c _ (by omega) (by omega)]
 ·simp[Instr.sliceBounds,sb k i n _ (by omega) (by omega)]
 ·simp[Instr.sliceBounds,sb k' i' c _ (by omega) (by omega),sb k i i'.toNat _ (by omega) (by omega)]
theorem awf{t e:TypeId}{k:TypeInfo}{x:Operand}{lo hi:Option Operand}(ht:P.underlying t=some (.slice e))(hk:P.info? e=some k)(hI:Inv P M w0 σ w)(hR:bQ M rg a)(h:aj P cfg d rg σ K E (.slice k.size x lo hi)):
  aD P M w0 K ((Instr.sliceAt t (a.eval x) (lo.map a.eval) (hi.map a.eval) none).run P w):=by
 have hx:=hR.ev x
 simp only[aj]at h
 split at h
 ·rename_i cx eK Bv I5
  have h1:(lo.map a.eval=none∧cx=none)∨∃ k i,lo.map a.eval=some (.int k i)∧cx=some i:=by
   rcases RF hR Bv with⟨rfl,rfl⟩|h
   ·exact .inl ⟨rfl,rfl⟩
   ·exact .inr h
  have h2:(hi.map a.eval=none∧eK=none)∨∃ k i,hi.map a.eval=some (.int k i)∧eK=some i:=by
   rcases RF hR I5 with⟨rfl,rfl⟩|h
   ·exact .inl ⟨rfl,rfl⟩
   ·exact .inr h
  have run:∀ (base:Option Addr) (n c:Nat),0≤cx.getD 0→cx.getD 0≤eK.getD n→eK.getD n≤c→
    (Instr.sliceAt t (.slice base n c) (lo.map a.eval) (hi.map a.eval) none).run P w=
     .ok (.slice (if c=(cx.getD 0).toNat then base else base.map (·.add ((cx.getD 0).toNat * k.size))) ((eK.getD n).toNat-(cx.getD 0).toNat) (c-(cx.getD 0).toNat)) w:=by
   intro base n c a1 a2 a3
   simp[Instr.sliceAt,bw ht,Instr.slice,ah9 h1 h2 n c a1 a2 a3,lh hk]
  split at h
  ·rename_i nn ez rows gi
   rw[gi]at hx
   obtain⟨rfl,a1,a2,a3,h⟩:=h
   rcases hx.qg with⟨ba,hba,rfl,hv⟩|⟨b,off,cap,cs,hv,hr,h4,h5⟩
   ·rw[hv]
    simp only[ZW,Int.natCast_zero]at a1 a2 a3 h
    have e1:(cx.getD 0).toNat=0:=by omega
    have e2:(eK.getD 0).toNat=0:=by omega
    refine aD.same hI (v:= .slice ba 0 0) ?_ h ?_
    ·simp;exact .nil _ _ _ hba
    ·rw[run ba 0 0 a1 a2 a3]
     simp[e1]
     simpa using e2
   ·rw[hv]
    have hl:=hr.sub (cx.getD 0).toNat (eK.getD rows.length).toNat (by omega) (by omega)
    have hlen:((rows.take (eK.getD rows.length).toNat).drop (cx.getD 0).toNat).length=(eK.getD rows.length).toNat-(cx.getD 0).toNat:=by simp;omega
    by_cases hc:cap=(cx.getD 0).toNat
    ·refine aD.same hI (v:= .slice (some ⟨b,off,none⟩) ((eK.getD rows.length).toNat-(cx.getD 0).toNat) (cap-(cx.getD 0).toNat)) ?_ h ?_
     ·have hz:(rows.take (eK.getD rows.length).toNat).drop (cx.getD 0).toNat=[]:=by
       apply ZO;rw[hlen];omega
      have pT:(eK.getD rows.length).toNat-(cx.getD 0).toNat=0:=by rw[← hlen,hz];rfl
      rw[hz,pT]
      exact R.nz (rows:=[]) (cs:=cs) ⟨fun i hi=>absurd hi (by simp),fun k hk=>absurd hk (by simp),fun i hi=>absurd hi (by simp)⟩ (ZH _) (by omega) nn
     ·rw[run _ _ _ a1 a2 (by omega),Z8 hc]
    ·refine aD.same hI (v:= .slice (some ⟨b,off+(cx.getD 0).toNat * k.size,none⟩) ((eK.getD rows.length).toNat-(cx.getD 0).toNat) (cap-(cx.getD 0).toNat)) ?_ h ?_
     ·have:=R.nz hl (cap:=cap-(cx.getD 0).toNat) (by rw[hlen];omega) (by omega) nn
      rw[hlen]at this
      exact this
     ·rw[run _ _ _ a1 a2 (by omega),Z9 hc]
      simp[Addr.add_lit]
  ·rename_i ez tg b u c rows gi
   rw[gi]at hx
   obtain⟨rfl,a1,a2,a3,h⟩:=h
   obtain⟨off,cap,cs,hv,hr,h4,h5,h6,h8⟩:=hx.qe
   rw[hv]
   have hl:=hr.sub (cx.getD 0).toNat (eK.getD rows.length).toNat (by omega) (by omega)
   have hlen:((rows.take (eK.getD rows.length).toNat).drop (cx.getD 0).toNat).length=(eK.getD rows.length).toNat-(cx.getD 0).toNat:=by simp;omega
   have ayv:(cx.getD 0).toNat≤rows.length:=by omega
   by_cases hc:cap=(cx.getD 0).toNat
   ·refine aD.same hI (v:= .slice (some ⟨b,off,none⟩) ((eK.getD rows.length).toNat-(cx.getD 0).toNat) (cap-(cx.getD 0).toNat)) ?_ h ?_
    ·have hz:(rows.take (eK.getD rows.length).toNat).drop (cx.getD 0).toNat=[]:=by
      apply ZO;rw[hlen];omega
     have pT:(eK.getD rows.length).toNat-(cx.getD 0).toNat=0:=by rw[← hlen,hz];rfl
     have hsl:=R.nz (M:=M) (b:=b) (off:=off) (af:=k.size) (cs:=cs) (cap:=cap-(cx.getD 0).toNat) (rows:=[]) ⟨fun i hi=>absurd hi (by simp),fun k hk=>absurd hk (by simp),fun i hi=>absurd hi (by simp)⟩ (ZH _) (by omega) true
     cases BG:eK with
     |none=>
      simp only[BG,Option.isNone_none,Y4,XW]at pT ⊢
      have np:rows.drop (cx.getD 0).toNat=[]:=by apply ZO;simp;omega
      rw[np,pT]
      exact R.rG (M:=M) (b:=b) (off:=off) (af:=k.size) (cs:=cs) (rows:=[]) ⟨fun i hi=>absurd hi (by simp),fun k hk=>absurd hk (by simp),fun i hi=>absurd hi (by simp)⟩ (ZH _) (by omega) (.inl (by omega)) h8
     |some j=>
      simp only[BG,Option.isNone_some,ZM,Zf,Zx]at hz pT ⊢
      rw[hz,pT]
      exact hsl
    ·rw[run _ _ _ a1 a2 (by omega),Z8 hc]
   ·refine aD.same hI (v:= .slice (some ⟨b,off+(cx.getD 0).toNat * k.size,none⟩) ((eK.getD rows.length).toNat-(cx.getD 0).toNat) (cap-(cx.getD 0).toNat)) ?_ h ?_
    ·cases BG:eK with
     |none=>
      simp only[BG,Option.isNone_none,Y4,XW,YN,XU]at hl hlen ⊢
      have e1:(rows.length-(cx.getD 0).toNat) * k.size+(cx.getD 0).toNat * k.size=rows.length * k.size:=by rw[← YM];congr 1;omega
      have e2:(cap-(cx.getD 0).toNat) * k.size+(cx.getD 0).toNat * k.size=cap * k.size:=by rw[← YM];congr 1;omega
      have:=R.rG (t:=tg) (u:=u) (c:=c) hl (cap:=cap-(cx.getD 0).toNat) (by rw[hlen];omega) (by omega) (by rcases h6 with h6|h6;exact .inl (by omega);exact .inr ⟨by rw[hlen];omega,by omega⟩) h8
      rw[hlen]at this
      exact this
     |some j=>
      simp only[BG,Option.isNone_some,ZM,Zf,Zx]at hl hlen a2 a3 ⊢
      have:=R.nz hl (cap:=cap-(cx.getD 0).toNat) (by rw[hlen];omega) (by omega) true
      rw[hlen]at this
      exact this
    ·rw[run _ _ _ a1 a2 (by omega),Z9 hc]
     simp[Addr.add_lit]
  ·rename_i gi
   rw[gi]at hx
   rw[hx.ay]
   obtain⟨a1,a2,h⟩:=h
   refine aD.same hI (.v _) h ?_
   rw[run none 0 0 (by omega) (by simp;omega) (by simp;omega)]
   simp[a1,a2]
  ·exact h.elim
 ·exact h.elim
end
section
variable {P:Program}[Glob P]{M:Mem}{w0:Base}{w:World}{σ:Store}{K:AV→Store→Prop}{rg:ag}{a:Act}{cfg:Nat→Nat}{d:Option Nat}{E:List PanicEntry→Store→Prop}
theorem Fe{af:Nat}{x:AV}{v:Value}{rows:List (List AV)}(hI:Inv P M w0 σ w)(hx:R M x v)(h:fb af x=some rows)(ye:¬∃ s,x= .v (.string s)):
  ∃ (base:Option Addr) (cap:Nat) (L:List Value),v= .slice base rows.length cap∧RL M rows.flatten L∧(∀ i (h:i<rows.length),rows[i].length=af)∧
   (Builtin.firstCells af rows.length v).run P w= .ok L.toArray w:=by
 have go:∀ b off cap (cs:Nat→Value),Rows M b off af rows cs→∃ L:List Value,RL M rows.flatten L∧(Builtin.firstCells af rows.length (.slice (some ⟨b,off,none⟩) rows.length cap)).run P w= .ok L.toArray w:=by
  intro b off cap cs hr
  refine⟨_,hr.flat,?_⟩
  simp only[Builtin.firstCells]
  refine KO b off _ _ (by simp) (fun i hi=> ?_)
  simp only[Z3,List.length_range]at hi
  have:=hI.dA _ _ _ (hr.mem i hi)
  simpa using this
 unfold fb at h
 split at h
 ·rename_i nn e rows'
  split at h
  ·rename_i e';subst e'
   simp only[Z1]at h
   subst h
   rcases hx.qg with⟨ba,_,rfl,hv⟩|⟨b,off,cap,cs,hv,hr,h1,h2⟩
   ·subst hv
    exact⟨ba,0,[],rfl,RL.nil,fun i hi=>absurd hi (by simp),by cases ba<;>simp[Builtin.firstCells,loadCells,loadCellsFrom]⟩
   ·obtain⟨L,hL,eY⟩:=go b off cap cs hr
    exact⟨_,cap,L,hv,hL,hr.size,by rw[hv];exact eY⟩
  ·cases h
 ·rename_i e tg b u c rows'
  split at h
  ·rename_i e';subst e'
   simp only[Z1]at h
   subst h
   obtain⟨off,cap,cs,hv,hr,_⟩:=hx.qe
   obtain⟨L,hL,eY⟩:=go b off cap cs hr
   exact⟨_,cap,L,hv,hL,hr.size,by rw[hv];exact eY⟩
  ·cases h
 ·simp only[Z1]at h
  subst h
  rw[hx.ay]
  exact⟨none,0,[],rfl,RL.nil,fun i hi=>absurd hi (by simp),by simp[Builtin.firstCells]⟩
 ·exact absurd ⟨_,rfl⟩ ye
 ·cases h
theorem yY{af:Nat}{x:AV}{v:Value}{rows:List (List AV)}(hI:Inv P M w0 σ w)(hx:R M x v)(h:fb af x=some rows):
  ∃ L:List Value,(∀ w':World,(Builtin.lenOf v).run P w'= .ok rows.length w')∧RL M rows.flatten L∧(∀ i (h:i<rows.length),rows[i].length=af)∧
   (Builtin.firstCells af rows.length v).run P w= .ok L.toArray w:=by
 by_cases hs:∃ s,x= .v (.string s)
 ·obtain⟨s,rfl⟩:=hs
  simp only[fb]at h
  split at h
  case isFalse=>cases h
  rename_i e1
  subst e1
  cases h
  rw[hx.ay]
  refine⟨s.data.toList.map fun b=> .int .u8 b.toNat,fun w'=>by simp only[Builtin.lenOf,Sem.run_pure,Z3,Zb];rfl,?_,fun i hi=>by simp[ck],?_⟩
  ·have:∀ l:List UInt8,RL M (l.map ck).flatten (l.map fun b=>Value.int .u8 b.toNat):=by
    intro l
    induction l with
    |nil=>exact RL.nil
    |cons b l ih=>exact RL.cons (.v _) ih
   exact this _
  ·simp only[Builtin.firstCells,Z3,Sem.run_pure]
   congr 1
   apply YJ
   have:s.extract 0 s.data.toList.length=s:=by
    have e:s.data.toList.length=s.size:=rfl
    rw[e,ByteArray.extract_zero_size]
   rw[this]
   simp
 ·obtain⟨base,cap,L,hv,h1,h2,h3⟩:=Fe (P:=P) (rows:=rows) hI hx h hs
  exact⟨L,fun w'=>by rw[hv];rfl,h1,h2,h3⟩
def Mem.ext(M:Mem)(B u:Nat)(vs:List Value):Mem:=fun b o=>if b=B∧u≤o∧o<u+vs.length then vs[o-u]? else M b o
theorem Inv.Hw{tg b u c:Nat}(hI:Inv P M w0 σ w)(hb:aR σ tg=some (b,.tail u c))(vs:List Value):M.le (M.ext b u vs):=fun b' o v h=>by
 obtain⟨_,hM,_⟩:=hI.st _ (tK hb)
 have:¬(b'=b∧u≤o∧o<u+vs.length):=fun⟨e,h1,_⟩=>by subst e;rw[hM o h1]at h;cases h
 simp[Mem.ext,this,h]
theorem Inv.aw3{tg b u c:Nat}(hI:Inv P M w0 σ w)(hb:aR σ tg=some (b,.tail u c))(vs:List Value)(hc:u+vs.length≤c)(h1:vs.all Value.oneCell'=true):
  ∃ w',(storeCells ⟨b,u,none⟩ vs).run P w= .ok () w'∧Inv P (M.ext b u vs) w0 (cM σ tg b (.tail (u+vs.length) c)) w':=by
 obtain⟨hold,hM,cs,t,hh,aQ,_⟩:=hI.st _ (tK hb)
 simp only at hold hM hh aQ
 obtain⟨w',hr,ru,hk,e1,e2,e3,e4⟩:=KP (P:=P) b u t vs cs 0 w hh (by omega) h1
 have hle:=hI.Hw hb vs
 obtain⟨pre,post,iI,cI⟩:=uk hb
 have hnd:=hI.nd
 rw[iI]at hnd
 simp only[YS,Zu]at hnd
 refine⟨w',hr,e1.trans hI.os,e2.trans hI.tape,e3.trans hI.output,by rw[e4];exact hI.size,fun k cC=> ?_,fun b' o v hv=> ?_,fun e he=> ?_,?_,fun g l e=>(hI.gl g l e).mono (hI.Hw hb vs),hI.gw,fun b' o v hv ax=>hI.bm b' o v (by simp only[Mem.ext]at hv;rwa [Z9 (fun e=>by have:=(hI.st _ (tK hb)).1;simp only at this;omega)]at hv) ax⟩
 ·rw[hk k (by omega)];exact hI.old k cC
 ·simp only[Mem.ext]at hv
  split at hv
  ·rename_i gO
   obtain⟨rfl,h2,h3⟩:=gO
   simp only[World.cell?,ru,Option.isSome_none,ZM,Zf,over,YP]
   simp only[Ym,Zz]
   rw[Yz (by simp;omega)]
   rw[Y9 (by simp;omega)]
   rw[← hv]
   congr 1
   simp;omega
  ·by_cases e:b'=b
   ·subst e
    rename_i gO
    have hu:o<u:=by
     rcases X6 o u with h|h
     ·exact h
     ·rw[hM o h]at hv;cases hv
    have:=hI.dA b' o v hv
    simp only[World.cell?,hh,Option.isSome_none,ZM,Zf]at this
    simp only[World.cell?,ru,Option.isSome_none,ZM,Zf,over,YP]
    simp only[Ym,Zz]
    rw[Y9 (by simp;omega),List.getElem?_take,Z8 hu]
    simpa using this
   ·have:=hI.dA b' o v hv
    rw[← this]
    simp only[World.cell?,hk b' e]
 ·rw[cI]at he
  have ef:e=(tg,b,.tail (u+vs.length) c)∨(e∈σ∧e.2.1≠b):=by
   rw[Yh]at hnd
   rcases ZG.1 he with he|he
   ·refine .inr ⟨by rw[iI];exact ZN _ he,fun eb=> ?_⟩
    exact hnd.2.2 e.2.1 (Yq he) b ZJ eb
   ·rcases ZV.1 he with rfl|he
    ·exact .inl rfl
    ·refine .inr ⟨by rw[iI];exact Zt _ (ZU _ he),fun eb=> ?_⟩
     have:=(YG.1 hnd.2.1).1
     exact this (by rw[← eb];exact Yq (f:=fun e:Nat×Nat×cG=>e.2.1) he)
  rcases ef with rfl|⟨he,aJ⟩
  ·refine⟨hold,fun o ho=> ?_,_,t,ru,?_,hc⟩
   ·simp[Mem.ext]
    rw[Z9 (by omega)]
    exact hM o (by omega)
   ·simp[over];omega
  ·refine⟨(hI.st e he).1,?_⟩
   have Br:=(hI.st e he).2
   obtain⟨tg',b',x⟩:=e
   simp only at aJ Br ⊢
   cases x with
   |cells l=>obtain⟨a1,cs',t',a2,a3⟩:=Br;exact⟨fun o=>by simp[Mem.ext,aJ,a1 o],cs',t',(hk b' aJ).trans a2,a3.mono hle⟩
   |tail u' c'=>obtain⟨a1,cs',t',a2,a3⟩:=Br;exact⟨fun o ho=>by simp[Mem.ext,aJ,a1 o ho],cs',t',(hk b' aJ).trans a2,a3⟩
   |map es k=>obtain⟨a1,l,a2,a3,a4⟩:=Br;exact⟨fun o=>by simp[Mem.ext,aJ,a1 o],l,(hk b' aJ).trans a2,a3,a4.mono hle⟩
 ·rw[cI]
  simp only[YS,Zu]
  exact hnd
theorem Inv.agu{tg b:Nat}{x:cG}(hI:Inv P M w0 σ w)(hb:aR σ tg=some (b,x))(u:Nat)(cs:List Value)(t:TypeId)(hu:u≤cs.length):
  Inv P (M.add w.heap.size u cs) w0 (cM σ tg w.heap.size (.tail u cs.length)) (w.alloc (.cells cs.toArray t)):=by
 have h':=hI.Db u cs t hu tg
 obtain⟨pre,post,iI,cI⟩:=uk hb
 refine⟨h'.os,h'.tape,h'.output,h'.size,h'.old,h'.dA,fun e he=> ?_,?_,h'.gl,h'.gw,h'.bm⟩
 ·rw[cI]at he
  refine h'.st e ?_
  rcases ZG.1 he with he|he
  ·exact ZU _ (by rw[iI];exact ZN _ he)
  ·rcases ZV.1 he with rfl|he
   ·exact ZJ
   ·exact ZU _ (by rw[iI];exact Zt _ (ZU _ he))
 ·have hnd:=hI.nd
  have hf:=hI.fresh
  rw[iI]at hnd hf
  rw[cI]
  simp only[YS,Zu]at hnd hf ⊢
  rw[Yh]at hnd ⊢
  simp only[ZG,ZV,not_or]at hf
  refine⟨hnd.1,?_,fun a ha b' iG=> ?_⟩
  ·rw[YG]at hnd ⊢
   exact⟨hf.2.2,hnd.2.1.2⟩
  ·rcases ZV.1 iG with rfl|iG
   ·intro e;subst e;exact hf.1 ha
   ·exact hnd.2.2 a ha b' (ZU _ iG)
theorem PN(n:Nat):∀ (r c:Nat),c<n→256≤c→Builtin.growBy n r c≤2 * n
 |0,c,h,_=>by simp[Builtin.growBy];omega
 |r+1,c,h,h2=>by
  simp only[Builtin.growBy]
  rw[Z9 (by omega)]
  by_cases h3:c+(c+768) / 4<n
  ·exact PN n r _ h3 (by omega)
  ·cases r with
   |zero=>simp[Builtin.growBy];omega
   |succ r=>simp only[Builtin.growBy];rw[Z8 (by omega)];omega
theorem agI(n c:Nat)(h:c<n):Builtin.nextslicecap n c≤2 * n:=by
 unfold Builtin.nextslicecap
 split
 ·omega
 ·split
  ·omega
  ·exact PN n 4 c h (by omega)
theorem aye{rows rows':List (List AV)}{af:Nat}(h:∀ i (h:i<rows.length),rows[i].length=af)(h':∀ i (h:i<rows'.length),rows'[i].length=af):
  ∀ i (h:i<(rows++rows').length),(rows++rows')[i].length=af:=by
 intro i hi
 rw[List.getElem_append]
 split
 ·exact h _ _
 ·exact h' _ _
theorem Rows.join{b off af:Nat}{rows rows':List (List AV)}{L L':List Value}{M':Mem}(h:∀ i (h:i<rows.length),rows[i].length=af)(h':∀ i (h:i<rows'.length),rows'[i].length=af)
  (hL:RL M' rows.flatten L) (dM:RL M' rows'.flatten L') (hM:∀ k v,(L++L')[k]? =some v→M' b (off+k)=some v):∃ cs,Rows M' b off af (rows++rows') cs:=
 ⟨_,Rows.of_flat (aye h h') (by rw[List.flatten_append];exact RL.append hL dM) hM⟩
theorem KL{t e u ty:TypeId}{i:TypeInfo}{z:Value}{s x:Value}{base:Option Addr}{n c n':Nat}{L L':List Value}(ht:P.underlying t=some (.slice e))(hu:(∃ e',P.underlying u=some (.slice e'))∨P.underlying u=some .string)(hi:P.info? e=some i)(hz:i.zero=some z)(hb:0<i.bytes)
  (hs:s= .slice base n c) (hx:∀ w':World,(Builtin.lenOf x).run P w'= .ok n' w') (ax:c<n+n') (pE:(n+n') * i.bytes≤35184372088832)
  (h1:(Builtin.firstCells i.size n s).run P w.drew= .ok L.toArray w.drew) (h2:(Builtin.firstCells i.size n' x).run P w.drew= .ok L'.toArray w.drew):
  ∃ (cap:Nat) (rest:List Value),n+n'≤cap∧cap≤maxLen∧rest.length=(cap-(n+n')) * z.cells.size∧
   (Builtin.append_ #[t,u] ty #[s,x]).run P w= .ok (.slice (some ⟨w.heap.size,0,none⟩) (n+n') cap) (w.drew.alloc (.cells (L++L'++rest).toArray e)):=by
 subst hs
 have ae4:=agI (n+n') c ax
 have oq:Builtin.nextslicecap (n+n') c * i.bytes≤281474976710656:=by
  have:=X1 i.bytes ae4
  rw[Nat.mul_assoc]at this
  omega
 have kV:n+n'≤35184372088832:=Zk (Nat.le_mul_of_pos_right _ hb) pE
 have mU:(Question.appendCap (n+n') c e).cut (w.tape w.drawn (.appendCap (n+n') c e))=n+n'+(w.tape w.drawn (.appendCap (n+n') c e)) % (2 ^ 63-(n+n')):=rfl
 have ae2:(w.tape w.drawn (.appendCap (n+n') c e)) % (2 ^ 63-(n+n'))<2 ^ 63-(n+n'):=Nat.mod_lt _ (by omega)
 refine⟨(Question.appendCap (n+n') c e).cut (w.tape w.drawn (.appendCap (n+n') c e)),(Builtin.zeroCells z.cells ((Question.appendCap (n+n') c e).cut (w.tape w.drawn (.appendCap (n+n') c e))-(n+n'))).toList,?_,?_,?_,?_⟩
 ·rw[mU];omega
 ·rw[mU];unfold maxLen;omega
 ·simp[Builtin.zeroCells]
 ·have hgo:¬n+n'≤c:=by omega
  have aez:¬Builtin.nextslicecap (n+n') c * i.bytes>281474976710656:=by omega
  have kN:i.bytes≠0:=by omega
  rcases hu with⟨e',hu⟩|hu
  all_goals(simp[Builtin.append_,bw ht,bw hu,lh hi,hx,hgo,KN hi,kN,aez,Question.forced,h1,h2,Ff hi hz,newRow])
  all_goals congr 2
  all_goals apply YJ
  all_goals simp
theorem Inv.lK(hI:Inv P M w0 σ w):Inv P M w0 σ w.drew:=⟨hI.os,hI.tape,hI.output,hI.size,hI.old,hI.dA,hI.st,hI.nd,hI.gl,hI.gw,hI.bm⟩
theorem ah6{rows:List (List AV)}(h:rows.all (fun r=>r.all AV.one)=true):rows.flatten.all AV.one=true:=by
 rw[ZA]at *
 intro x hx
 obtain⟨r,hr,JH⟩:=List.mem_flatten.1 hx
 exact ZA.1 (h r hr) x JH
theorem Uf{t e u ty:TypeId}{i:TypeInfo}{z:Value}{x y:Operand}(ht:P.underlying t=some (.slice e))(hu:(∃ e',P.underlying u=some (.slice e'))∨P.underlying u=some .string)(hi:P.info? e=some i)(hz:i.zero=some z)(hp:0<i.size)(hb:0<i.bytes)(JL:z.cells.size=i.size)
  (hI:Inv P M w0 σ w) (hR:bQ M rg a) (h:aj P cfg d rg σ K E (.append e i.size i.bytes z.cells.toList x y)):aD P M w0 K ((Builtin.append_ #[t,u] ty #[a.eval x,a.eval y]).run P w):=by
 have hx:=hR.ev x
 have hy:=hR.ev y
 simp only[aj]at h
 split at h
 ·rename_i rows' gi tE
  rw[gi]at hx
  obtain⟨L',mg,dM,tz,tu⟩:=yY (P:=P) hI.lK hy tE
  obtain⟨pE,vx,vm⟩:=h
  rw[hx.ay]
  by_cases ka:rows'=[]
  ·subst ka
   refine aD.same hI (.v _) (vx rfl) ?_
   obtain⟨L2,vE,cN,BN,vA⟩:=yY (P:=P) hI hy tE
   have xK:L2=[]:=by have:=cN.1;simp at this;exact ZO this.symm
   subst xK
   simp only[ZW]at vA vE
   rcases hu with⟨e',hu⟩|hu
   all_goals simp[Builtin.append_,bw ht,bw hu,lh hi,vE,vA]
  ·have pN:0<rows'.length:=YZ.2 ka
   obtain⟨cap,rest,fy,jL,oy,eY⟩:=KL (P:=P) (ty:=ty) (s:= .slice none 0 0) (x:=a.eval y) (L:=[]) (L':=L') (n:=0) (c:=0) (n':=rows'.length) ht hu hi hz hb rfl mg (by omega) (by simpa using pE) (by simp[Builtin.firstCells]) tu
   rw[eY]
   simp only[Zc,Za]at fy ⊢
   have hlen:L'.length=rows'.length * i.size:=by rw[← dM.1,nX _ tz]
   refine⟨_,_,M.add w.drew.heap.size L'.length (L'++rest),_,_,rfl,hI.lK.nw _ _,hI.lK.Db _ _ e (by simp) _,?_,vm ka _ L'.length _ hlen⟩
   have hr:Rows (M.add w.drew.heap.size L'.length (L'++rest)) w.drew.heap.size 0 i.size rows' (fun k=>L'.getD k undef):=
    Rows.of_flat tz (dM.mono (hI.lK.nw _ _)) (fun k v hk=>by
     have cC:k<L'.length:=(ZP.1 hk).1
     have:M.add w.drew.heap.size L'.length (L'++rest) w.drew.heap.size (0+k)=(L'++rest)[k]? :=by simp[Mem.add,cC]
     rw[this,Y9 cC,hk])
   have pU:(L'++rest).length=cap * i.size:=by
    rw[Z5,oy,hlen,JL,Zc,← YM];congr 1;omega
   exact R.rG hr fy jL (.inr ⟨by omega,by omega⟩) hp
 ·rename_i ez tg b u' c rows rows' gi tE
  rw[gi]at hx
  obtain⟨rfl,DX,pE,tn,h⟩:=h
  obtain⟨off,cap,cs,hv,hr,h4,h5,h6,h8⟩:=hx.qe
  obtain⟨abk,abD,L,Ej,hL,aQ,Jt⟩:=Fe (P:=P) (rows:=rows) (af:=i.size) hI.lK hx (by simp[fb]) (fun⟨s,h⟩=>by cases h)
  obtain⟨L',mg,dM,tz,tu⟩:=yY (P:=P) hI.lK hy tE
  have hlen:L.length=rows.length * i.size:=by rw[← hL.1,nX _ aQ]
  have tf:L'.length=rows'.length * i.size:=by rw[← dM.1,nX _ tz]
  by_cases Bi:rows.length+rows'.length≤cap
  ·
   obtain⟨L2,vE,cN,BN,vA⟩:=yY (P:=P) hI hy tE
   have oj:L2.length=rows'.length * i.size:=by rw[← cN.1,nX _ BN]
   have cV:L2.all Value.oneCell'=true:=cN.Av (ah6 tn)
   have Rg:∀ w',(storeCells ⟨b,off+rows.length * i.size,none⟩ L2).run P w= .ok () w'→(Builtin.append_ #[t,u] ty #[a.eval x,a.eval y]).run P w= .ok (.slice (some ⟨b,off,none⟩) (rows.length+rows'.length) cap) w':=by
    intro w' hs
    rw[hv]at *
    rcases hu with⟨e',hu⟩|hu
    all_goals simp[Builtin.append_,bw ht,bw hu,lh hi,vE,Bi,vA,Addr.add_lit,hs]
   rcases h6 with h6|⟨h6,h7⟩
   ·have e1:rows=[]:=ZO (by omega)
    have e2:rows'=[]:=ZO (by omega)
    subst e1 e2
    have e3:L2=[]:=ZO (by simpa using oj)
    subst e3
    refine⟨_,w,M,_,_,Rg w rfl,Mem.le.refl _,?_,?_,h b u' c (fun e=>by simpa using e)⟩
    ·obtain⟨pre,post,iI,cI⟩:=uk DX
     rw[cI,← iI]
     exact hI
    ·exact R.rG (rows:=[]++[]) (cs:=cs) ⟨fun i hi=>absurd hi (by simp),fun k hk=>absurd hk (by simp),fun i hi=>absurd hi (by simp)⟩ (by simp) h5 (.inl h6) h8
   ·have mU:(rows.length+rows'.length) * i.size≤cap * i.size:=X1 _ Bi
    rw[YM]at mU
    obtain⟨w',hs,aP⟩:=Inv.aw3 (P:=P) hI DX L2 (by omega) cV
    rw[← h6]at hs
    have hle:=hI.Hw DX L2
    refine⟨_,w',_,_,_,Rg w' hs,hle,aP,?_,h b (u'+L2.length) c (fun e=>by rw[e,oj,YM])⟩
    obtain⟨L0,xK,hLm⟩:∃ L0:List Value,RL M rows.flatten L0∧∀ k v,L0[k]? =some v→M b (off+k)=some v:=⟨_,hr.flat,fun k v hk=>by
     obtain⟨js,dt⟩:=ZP.1 hk
     simp at js dt
     rw[← dt]
     exact hr.mem k js⟩
    have ayu:L0.length=rows.length * i.size:=by rw[← xK.1,nX _ aQ]
    obtain⟨G6,hj⟩:=Rows.join (M':=M.ext b u' L2) (b:=b) (off:=off) aQ BN (xK.mono hle) (cN.mono hle) (fun k v hk=>by
     by_cases ax:k<L0.length
     ·rw[Y9 ax]at hk
      exact hle _ _ _ (hLm k v hk)
     ·rw[Yz (by omega)]at hk
      have cC:=(ZP.1 hk).1
      simp only[Mem.ext]
      rw[Z8 ⟨trivial,by omega,by omega⟩,← hk]
      congr 1
      omega)
    have:=R.rG (t:=tg) (u:=u'+L2.length) (c:=c) hj (cap:=cap) (by simpa using Bi) h5 (.inr ⟨by rw[Z5,YM];omega,h7⟩) h8
    rw[Z5]at this
    exact this
  ·obtain⟨xp,rest,fy,jL,oy,eY⟩:=KL (P:=P) (ty:=ty) (s:=a.eval x) (x:=a.eval y) (L:=L) (L':=L') (n:=rows.length) (c:=cap) (n':=rows'.length) ht hu hi hz hb hv mg (by omega) pE Jt tu
   rw[eY]
   have A0:=hI.lK
   have hle:=A0.nw (L++L').length (L++L'++rest)
   refine⟨_,_,M.add w.drew.heap.size (L++L').length (L++L'++rest),_,_,rfl,hle,A0.agu DX _ _ e (by simp),?_,h _ (L++L').length _ (fun _=>by rw[Z5,hlen,tf,YM])⟩
   obtain⟨G6,hj⟩:=Rows.join (M':=M.add w.drew.heap.size (L++L').length (L++L'++rest)) (b:=w.drew.heap.size) (off:=0) aQ tz (hL.mono hle) (dM.mono hle) (fun k v hk=>by
    have cC:k<(L++L').length:=(ZP.1 hk).1
    have:M.add w.drew.heap.size (L++L').length (L++L'++rest) w.drew.heap.size (0+k)=(L++L'++rest)[k]? :=by unfold Mem.add;rw[Z8 rfl,Z8 (by omega),Zc]
    rw[this,Y9 cC,hk])
   have pU:(L++L'++rest).length=xp * i.size:=by
    rw[Z5,Z5,oy,hlen,tf,JL,← YM,← YM];congr 1;omega
   have qX:(L++L').length=(rows++rows').length * i.size:=by
    rw[Z5,hlen,tf,Z5,YM]
   have:=R.rG (t:=tg) (u:=(L++L').length) (c:=(L++L'++rest).length) hj (cap:=xp) (by simpa using fy) jL (.inr ⟨by omega,by omega⟩) hp
   rw[Z5 (as:=rows)]at this
   exact this
 ·rename_i ez rows rows' gi tE
  rw[gi]at hx
  obtain⟨rfl,pE,vx,h⟩:=h
  obtain⟨b0,off,cs,hv,hr,h5⟩:=hx.SR
  by_cases aJ:rows'=[]
  ·subst aJ
   refine aD.same hI hx (vx rfl) ?_
   obtain⟨L2,vE,cN,BN,vA⟩:=yY (P:=P) hI hy tE
   have xK:L2=[]:=by have:=cN.1;simp at this;exact ZO this.symm
   subst xK
   simp only[ZW]at vA vE
   rw[hv]
   rcases hu with⟨e',hu⟩|hu
   all_goals simp[Builtin.append_,bw ht,bw hu,lh hi,vE,vA,Addr.add_lit,storeCells]
  have h:=h aJ
  have pN:0<rows'.length:=YZ.2 aJ
  obtain⟨abk,abD,L,Ej,hL,aQ,Jt⟩:=Fe (P:=P) (rows:=rows) (af:=i.size) hI.lK (hx.PA true) (by simp[fb]) (fun⟨s,h⟩=>by cases h)
  obtain⟨L',mg,dM,tz,tu⟩:=yY (P:=P) hI.lK hy tE
  have hlen:L.length=rows.length * i.size:=by rw[← hL.1,nX _ aQ]
  have tf:L'.length=rows'.length * i.size:=by rw[← dM.1,nX _ tz]
  obtain⟨xp,rest,fy,jL,oy,eY⟩:=KL (P:=P) (ty:=ty) (s:=a.eval x) (x:=a.eval y) (L:=L) (L':=L') (n:=rows.length) (c:=rows.length) (n':=rows'.length) ht hu hi hz hb hv mg (by omega) pE Jt tu
  rw[eY]
  have A0:=hI.lK
  have hle:=A0.nw (L++L').length (L++L'++rest)
  refine⟨_,_,M.add w.drew.heap.size (L++L').length (L++L'++rest),_,_,rfl,hle,A0.Db _ _ e (by simp) _,?_,h _ _ _⟩
  obtain⟨G6,hj⟩:=Rows.join (M':=M.add w.drew.heap.size (L++L').length (L++L'++rest)) (b:=w.drew.heap.size) (off:=0) aQ tz (hL.mono hle) (dM.mono hle) (fun k v hk=>by
   have cC:k<(L++L').length:=(ZP.1 hk).1
   have:M.add w.drew.heap.size (L++L').length (L++L'++rest) w.drew.heap.size (0+k)=(L++L'++rest)[k]? :=by unfold Mem.add;rw[Z8 rfl,Z8 (by omega),Zc]
   rw[this,Y9 cC,hk])
  have pU:(L++L'++rest).length=xp * i.size:=by
   rw[Z5,Z5,oy,hlen,tf,JL,← YM,← YM];congr 1;omega
  have qX:(L++L').length=(rows++rows').length * i.size:=by
   rw[Z5,hlen,tf,Z5,YM]
  have:=R.rG (t:=d.getD 0) (u:=(L++L').length) (c:=(L++L'++rest).length) hj (cap:=xp) (by simpa using fy) jL (.inr ⟨by omega,by omega⟩) hp
  rw[Z5 (as:=rows)]at this
  exact this
 ·exact h.elim
end
end Go.Sx
