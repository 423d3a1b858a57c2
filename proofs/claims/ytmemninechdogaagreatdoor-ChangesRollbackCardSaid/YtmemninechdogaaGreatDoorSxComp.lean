import Derived.Test.YtmemninechdogaaGreatDoorSxCore
set_option linter.all false
namespace Go.Sx
open Go.RowKit
def iH(P:Program)[Glob P](t:TypeId):Option (Bool×Nat):=
 match P.underlying t,P.info? t with
 |some (.struct _),some i|some (.array _ _),some i=>some (true,i.size)|some _,some i=>some (false,i.size)|_,_=>none
def yt(P:Program)[Glob P](fs:List Field):List (Nat×Operand)->Option (List (Nat×Nat×Operand))
 |[]=>some []|(i,x)::l=>match fs[i]? with
  |some f=>match P.info? f.type with
   |some k=>(yt P fs l).map ((f.offset,k.size,x)::·)|none=>none
  |none=>none
def rL(P:Program)[Glob P](n:Nat):List Field->Option (List sO)
 |[]=>some []|f::fs=>if f.name≠ "_" ∧f.offset=n then
   match P.underlying f.type with
   |some (.int _)=>(rL P (n+1) fs).map (.int::·)|some .string=>(rL P (n+1) fs).map (.str::·)|some .bool=>(rL P (n+1) fs).map (.bool::·)|_=>none
  else none
def CK(P:Program)[Glob P](neg:Bool)(t:TypeId)(x y:Operand):Option aB:=
 match P.underlying t with
 |some (.int _)|some .string=>some (.bin (if neg then .neq else .eql) x y)|some (.struct fs)=>if P.stoodInHeld t=false/\P.eqGuardType P.depth t=false then(rL P 0 fs.toList).map fun ks=>.eqs neg ks x y else none
 |some .bool=>some (.jt neg .bool x y)|some (.slice _)=>some (.jt neg .slice x y)|some (.map _ _)=>some (.jt neg .map x y)|some (.func _ _ _)=>some (.jt neg .func x y)|some (.pointer _)=>some (.jt neg .ptr x y)|_=>none
def MZ(P:Program)[Glob P](c:Call):Option aB:=
 match c.callee with
 |.value (.func f)=>if im P f then some (.call f c.args.toList)else none|.value f=>some (.fZ f c.args.toList)|.builtin .len=>match c.args.toList,c.argTypes.toList with
  |[x],[t]=>match P.underlying t with
   |some .string=>some (.len true x)|some (.slice _)=>some (.len false x)|_=>none
  |_,_=>none
 |.builtin .append=>match c.args.toList,c.argTypes.toList with
  |[x,y],[t,u]=>match P.underlying t,P.underlying u with
   |some (.slice e),some (.slice _)=>match P.info? e with
    |some i=>match i.zero with
     |some z=>if 0<i.size/\0<i.bytes/\z.cells.size=i.size then some (.append e i.size i.bytes z.cells.toList x y)else none|none=>none
    |none=>none
   |some (.slice e),some .string=>match P.info? e with
    |some i=>match i.zero with
     |some z=>if 0<i.size/\0<i.bytes/\z.cells.size=i.size then some (.append e i.size i.bytes z.cells.toList x y)else none|none=>none
    |none=>none
   |_,_=>none
  |_,_=>none
 |.builtin .max=>match c.args.toList with
  |[x,y]=>some (.max2 x y)|_=>none
 |.builtin .min=>match c.args.toList with
  |[x,y]=>some (.min2 x y)|_=>none
 |_=>none
def CM(P:Program)[Glob P](o:Oper):Option aB:=
 match o.op with
 |.move x|.assign x=>some (.mv x)|.pick c a b=>some (.pick c a b)|.alloc e=>match P.info? e with
  |some i=>i.zero.map (.alloc e ·)|none=>none
 |.box e x=>some (.box e x)|.build t parts=>match P.underlying t,P.info? t with
  |some (.struct fs),some i=>if fs.toList.all (fun f=>(P.info? f.type).isSome)then
    match i.zero,yt P fs.toList parts.toList with
    |some z,some ps=>some (.build z.cells.toList ps)|_,_=>none
   else none
  |_,_=>none
 |.buildSlice t n parts=>match P.underlying t with
  |some (.slice e)=>match P.info? e with
   |some i=>match i.zero with
    |some z=>if parts.toList.map (·.1)=List.range n/\n*i.size<=16777216/\z.cells.size=i.size then some (.TO e i.size (parts.toList.map (·.2)))else none|none=>none
   |none=>none
  |_=>none
 |.load t x=>(iH P t).map fun(g,n)=>.load g n x
 |.store t x v=>(iH P t).map fun(_,n)=>.store n x v
 |.nilCheck x=>some (.ng x)|.binOp .eql t x y z=>match CK P false t x y with
  |some i=>some i|none=>some (.cL (.binOp .eql t x y z) o.type (ey P o.op) [x,y])
 |.binOp .neq t x y z=>match CK P true t x y with
  |some i=>some i|none=>some (.cL (.binOp .neq t x y z) o.type (ey P o.op) [x,y])
 |.binOp op _ x y _=>some (.bin op x y)|.unOp op _ x=>some (.un op x)|.convert src dst x=>match P.underlying src,P.underlying dst with
  |some (.int _),some (.int k)=>some (.mD k x)|some .string,some .string=>some (.nw x)|_,_=>some (.cL (.convert src dst x) o.type (ey P o.op) [x])
 |.makeInterface t x=>match P.underlying t with
  |some (.interface _)=>none|some _=>some (.nR t x)|none=>none
 |.makeFunc fn first captured=>some (.nQ fn first.toList captured.toList)
 |.slice t x lo hi none=>match P.underlying t with
  |some (.slice e)=>match P.info? e with
   |some i=>some (.slice i.size x lo hi)|none=>none
  |_=>some (.cL (.slice t x lo hi none) o.type (ey P o.op) (x::(lo.toList++hi.toList)))
 |.slice t x lo (some hi) (some mx)=>some (.cL (.slice t x lo (some hi) (some mx)) o.type (ey P o.op) (x::(lo.toList++[hi,mx])))|.fieldAddr t x i=>match P.underlying t with
  |some (.struct fs)=>match fs[i]? with
   |some f=>match P.info? f.type with
    |some k=>if k.size≠0 then some (.cG f.offset x)else none|none=>none
   |none=>none
  |_=>none
 |.field t x i=>match P.underlying t with
  |some (.struct fs)=>match fs[i]? with
   |some f=>(iH P f.type).map fun(g,n)=>.field g f.offset n x
   |none=>none
  |_=>none
 |.indexAddr t x i=>match P.underlying t with
  |some (.slice e)=>match P.info? e with
   |some k=>some (.fh k.size x i)|none=>none
  |some (.array n e)=>match P.info? e with
   |some k=>some (.mV n k.size x i)|none=>none
  |_=>none
 |.index t x i=>match P.underlying t with
  |some .string=>some (.idxs x i)|_=>some (.cL (.index t x i) o.type (ey P o.op) [x,i])
 |.makeMap t none=>some (.exts (.makeMap t none) o.type (ey P o.op) [])|.insert t m k x=>some (.exts (.insert t m k x) o.type (ey P o.op) [m,k,x])|.mapUpdate t m k x=>some (.exts (.mapUpdate t m k x) o.type (ey P o.op) [m,k,x])|.mapEntry t m k=>some (.exts (.mapEntry t m k) o.type (ey P o.op) [m,k])|.entryStore t m s x=>some (.exts (.entryStore t m s x) o.type (ey P o.op) [m,s,x])|.lookup t m k ok=>some (.cL (.lookup t m k ok) o.type (ey P o.op) [m,k])|.makeSlice t n c=>some (.exts (.makeSlice t n c) o.type (ey P o.op) [n,c])|.extract x i=>some (.extract x i)|.panic x=>some (.panic x)|.call c=>match MZ P c with
  |some i=>some i|none=>match c.callee with
   |.builtin _=>some (.exts (.call c) o.type (ey P o.op) c.args.toList)|_=>none
 |_=>none
def aQ(P:Program)[Glob P](M:Mem)(w0:Base)(K:AV->Store->Prop)(r:Result Value):Prop:=
 ∃v w' M' x af,r= .ok v w'/\M.le M'/\Inv P M' w0 af w'/\R M' x v/\K x af
section
variable {P:Program}[Glob P]{M:Mem}{w0:Base}{w:World}{σ:Store}{K:AV->Store->Prop}{rg:ag}{a:Act}
theorem aQ.same(hI:Inv P M w0 σ w){x:AV}{v:Value}(hr:R M x v)(hk:K x σ){r:Result Value}(e:r= .ok v w):aQ P M w0 K r:=
 ⟨v,w,M,x,σ,e,Mem.le.refl _,hI,hr,hk⟩
theorem aX{t:TypeId}{d:TypeDesc}(h:P.underlying t=some d)(w:World):(underlying t).run P w= .ok d w:=run_underlying h w
theorem KO{t:TypeId}{i:TypeInfo}(h:P.info? t=some i)(w:World):(typeInfo t).run P w= .ok i w:=by simp[typeInfo,h]
theorem mh{t:TypeId}{i:TypeInfo}(h:P.info? t=some i)(w:World):(sizeOf t).run P w= .ok i.size w:=by simp[sizeOf,KO h]
theorem E1{t:TypeId}{i:TypeInfo}{z:Value}(h:P.info? t=some i)(hz:i.zero=some z)(w:World):(zeroValue t).run P w= .ok z w:=by simp[zeroValue,KO h,hz]
theorem zn{t:TypeId}{g:Bool}{n:Nat}(h:iH P t=some (g,n))(w:World):(isAgg t).run P w= .ok g w/\(sizeOf t).run P w= .ok n w:=by
 unfold iH at h;split at h
 .rename_i fs i h1 h2;obtain⟨rfl,rfl⟩:=h;exact⟨by simp[isAgg,aX h1],mh h2 w⟩
 .rename_i m e i h1 h2;obtain⟨rfl,rfl⟩:=h;exact⟨by simp[isAgg,aX h1],mh h2 w⟩
 .rename_i d i h3 h4 h1 h2;obtain⟨rfl,rfl⟩:=h;refine⟨?_,mh h2 w⟩;cases d<;>simp[isAgg,aX h1]<;>first|grind|grind
 grind
theorem Inv.cell{tg b:Nat}{l:List AV}(hI:Inv P M w0 σ w)(hb:aV σ tg=some (b,.cells l)){o:Nat}{y:AV}(hy:l[o]? =some y):
  ∃v,w.cell? ⟨b,o,none⟩=some v/\R M y v:=by
 obtain⟨_,_,cs,t,hh,hl⟩:=hI.st _ (ua hb);obtain⟨v,hv,hr⟩:=hl.get hy;exact⟨v,by simp[World.cell?,hh];grind,hr⟩
theorem E0(b o n:Nat)(cs:List Value)(hn:cs.length=n)(h:∀i (hi:i<cs.length),w.cell? ⟨b,o+i,none⟩=some cs[i]):(loadCells ⟨b,o,none⟩ n).run P w= .ok cs.toArray w:=by
 have:=run_loadCells_list (P:=P) (w:=w) ⟨b,o,none⟩ cs (fun j v hv=>by
  rw[Addr.add_lit];grind)
 grind
theorem E5{agg:Bool}{n b o:Nat}{t:TypeId}(ht:iH P t=some (agg,n))(xs:List AV)(hx:∀i y,xs[i]? =some y->∃v,w.cell? ⟨b,o+i,none⟩=some v/\R M y v)
  (h:if agg then n<=xs.length/\K (.agg (xs.take n)) σ else match xs[0]? with
    |some y=>K y σ|none=>False):∃v x,(Instr.loadAt t (.pointer (some ⟨b,o,none⟩))).run P w= .ok v w/\R M x v/\K x σ:=by
 obtain⟨h1,h2⟩:=zn ht w;simp only[Instr.loadAt,Instr.sureAddr,loadVar,Sem.run_bind,Sem.run_pure,Result.andThen_ok,h1];cases agg with
 |true=>
  obtain⟨hl,hk⟩:=h;have:∃cs:List Value,RL M (xs.take n) cs/\∀i (hi:i<cs.length),w.cell? ⟨b,o+i,none⟩=some cs[i]:=by
   generalize AY:xs.take n=ys;have hy:∀i y,ys[i]? =some y->∃v,w.cell? ⟨b,o+i,none⟩=some v/\R M y v:=fun i y e=>by grind
   clear AY hx hl hk
   induction ys generalizing o with
   |nil=>exact⟨[],RL.nil,fun i hi=>absurd hi (by simp)⟩|cons y ys ih=>obtain⟨v,hv,hr⟩:=hy 0 y rfl;obtain⟨cs,hc,bY⟩:=ih (o:=o+1) (fun i z e=>by have:=hy (i+1) z (by grind);grind);refine⟨v::cs,RL.cons hr hc,fun i hi=>?_⟩;grind
  obtain⟨cs,hc,bY⟩:=this;have hlen:cs.length=n:=by rw[← hc.1];grind
  simp only[YK,Sem.run_bind,h2,Result.andThen_ok,E0 b o n cs hlen bY,Sem.run_pure];exact⟨_,_,rfl,R.rM hc,hk⟩
 |false=>
  simp only[ZT,YU]at h|-;cases tS:xs[0]? with
  |none=>grind|some y=>simp only[tS]at h;obtain⟨v,hv,hr⟩:=hx 0 y tS;simp only[Yr]at hv;simp only[run_load,hv];grind
theorem akE{agg:Bool}{n:Nat}{x:Operand}{t:TypeId}{cfg:Nat->Nat}{d:Option Nat}{E:List PanicEntry->Store->Prop}(ht:iH P t=some (agg,n))(hI:Inv P M w0 σ w)(hR:bS M rg a)
  (h:ak P cfg d rg σ K E (.load agg n x)):aQ P M w0 K ((Instr.loadAt t (a.eval x)).run P w):=by
 have hx:=hR.ev x;simp only[ak]at h;split at h
 .rename_i tg b o he;rw[he]at hx;rw[hx.pb];split at h
  .rename_i b' l hb;obtain⟨rfl,h⟩:=h
   suffices hs:∃v x,(Instr.loadAt t (.pointer (some ⟨b,o,none⟩))).run P w= .ok v w/\R M x v/\K x σ by obtain⟨v,x,h1,h2,h3⟩:=hs;exact aQ.same hI h2 h3 h1
   refine E5 ht (l.drop o) (fun i y e=>?_) ?_
   .rw[YE]at e;exact hI.cell hb e
   grind
  grind
 .rename_i l he;rw[he]at hx;obtain⟨b,off,cs,hv,hM,Ix⟩:=hx.uj;rw[hv]
  suffices hs:∃v x,(Instr.loadAt t (.pointer (some ⟨b,off,none⟩))).run P w= .ok v w/\R M x v/\K x σ by obtain⟨v,x,h1,h2,h3⟩:=hs;exact aQ.same hI h2 h3 h1
  refine E5 ht l (fun i y e=>?_) h;obtain⟨hi,rfl⟩:=ZG.1 e;exact⟨cs i,hI.bZ _ _ _ (hM i hi),Ix i hi⟩
 .rename_i g he;rw[he]at hx;rw[hx.aC];split at h
  .rename_i l hl;obtain⟨b,off,cs,hv,hM,Ix⟩:=(hI.gl g l hl).uj;cases hv
   suffices hs:∃v x,(Instr.loadAt t (.pointer (some ⟨g,0,none⟩))).run P w= .ok v w/\R M x v/\K x σ by obtain⟨v,x,h1,h2,h3⟩:=hs;exact aQ.same hI h2 h3 h1
   refine E5 ht l (fun i y e=>?_) h;obtain⟨hi,rfl⟩:=ZG.1 e;exact⟨cs i,hI.bZ _ _ _ (hM i hi),Ix i hi⟩
  grind
 grind
theorem KP(b o:Nat)(t:TypeId):∀(vs:List Value) (cs:Array Value) (i:Nat) (w:World),w.heap[b]? =some (.cells cs t (0,0))->o+i+vs.length<=cs.size->vs.all Value.oneCell'=true->
  ∃w',(storeCells ⟨b,o,none⟩ vs i).run P w= .ok () w'/\w'.heap[b]? =some (.cells (over cs.toList (o+i) vs).toArray t (0,0))/\(∀k,k≠b->w'.heap[k]? =w.heap[k]?)/\w'.os=w.os/\w'.tape=w.tape/\w'.output=w.output/\w'.heap.size=w.heap.size
 |[],cs,i,w,hh,_,_=>⟨w,rfl,by simpa[over]using hh,fun _ _=>rfl,rfl,rfl,rfl,rfl⟩
 |v::vs,cs,i,w,hh,hl,h1=>by
  simp only[ZY]at hl;simp only[List.all_cons,Z6]at h1;have az:o+i<cs.size:=by omega
  have hc:w.cell? ⟨b,o+i,none⟩=some (cs[o+i]):=by simp[World.cell?,hh,az]
  have hf:w.frozen? ⟨b,o+i,none⟩=false:=by simp[World.frozen?,hh]
  have hs:(store (Addr.add ⟨b,o,none⟩ i) v).run P w= .ok () (w.setCell ⟨b,o+i,none⟩ v):=by rw[Addr.add_lit,run_store _ _ _ _ _ h1.1,hc];grind
  have hh1:(w.setCell ⟨b,o+i,none⟩ v).heap[b]? =some (.cells (cs.setIfInBounds (o+i) v) t (0,0)):=by simp[World.setCell,XW,hh]
  obtain⟨w',hr,qj,hk,e1,e2,e3,e4⟩:=KP b o t vs (cs.setIfInBounds (o+i) v) (i+1) _ hh1 (by grind) h1.2;refine⟨w',?_,?_,fun k Aw=>?_,e1,e2,e3,e4.trans (by simp)⟩
  .simp only[storeCells,Sem.run_bind,hs,Result.andThen_ok];grind
  .rw[qj]
   congr 2
   apply Ym;simp only[over,Array.toList_setIfInBounds];have:(cs.toList.set (o+i) v).take (o+(i+1))=cs.toList.take (o+i)++[v]:=by rw[show o+(i+1)=o+i+1 from rfl,ZU (by grind),List.take_set_of_le (ZO _)];simp
   rw[this,List.drop_set_of_lt (by omega)];grind
  .rw[hk k Aw];simp only[World.setCell,XW];grind
theorem Inv.yV{P:Program}[Glob P]{M:Mem}{w0:Base}{w w':World}{σ:Store}(hI:Inv P M w0 σ w){tg b:Nat}{x y:aE}(hb:aV σ tg=some (b,x))(hk:∀k,k≠b->w'.heap[k]? =w.heap[k]?)(e1:w'.os=w.os)(e2:w'.tape=w.tape)(e3:w'.output=w.output)
  (e4:w'.heap.size=w.heap.size) (hM:∀o,M b o=none) (hy:BlkOK M w' b y):Inv P M w0 (du σ tg b y) w':=by
 have hold:w0.heap.size<=b:=(hI.st _ (ua hb)).1;obtain⟨pre,post,h1,h2⟩:=wO hb;have BE:=hI.nd;rw[h1]at BE;simp at BE;refine⟨e1.trans hI.os,e2.trans hI.tape,e3.trans hI.output,by rw[e4];exact hI.size,fun k cN=>?_,fun b' o v hv=>?_,fun e he=>?_,?_,hI.gl,hI.gw,hI.bm⟩
 .rw[hk k (by omega)];exact hI.old k cN
 .have aW:b'≠b:=fun e=>by grind
  have:=hI.bZ b' o v hv;rw[<-this];simp only[World.cell?,hk b' aW]
 .have fx:e=(tg,b,y)\/(e∈σ/\e.2.1≠b):=by grind
  rcases fx with rfl|⟨he,aW⟩
  .grind
  .exact⟨(hI.st e he).1,(hI.st e he).2.heap (hk _ aW)⟩
 grind
theorem RL.ov{xs:List AV}{cs:List Value}(h:RL M xs cs)(ha:xs.all AV.one=true):cs.all Value.oneCell'=true:=by rw[ZA]at*;intro v hv;obtain⟨i,hi,rfl⟩:=YO.1 hv;have h1:i<xs.length:=h.1 ▸ hi;exact(h.2 i h1 hi).one (ha _ (Zb h1))
theorem akK{n:Nat}{x y:Operand}{t:TypeId}{g:Bool}{cfg:Nat->Nat}{d:Option Nat}{E:List PanicEntry->Store->Prop}(ht:iH P t=some (g,n))(hI:Inv P M w0 σ w)(hR:bS M rg a)
  (h:ak P cfg d rg σ K E (.store n x y)):∃w' af,(Instr.storeAt t (a.eval x) (a.eval y)).run P w= .ok () w'/\Inv P M w0 af w'/\K (.v undef) af:=by
 have hx:=hR.ev x;have hy:=hR.ev y;simp only[ak]at h;split at h
 .rename_i tg b o l' he fw;rw[he]at hx;rw[hx.pb];split at h
  .rename_i b' l hb;obtain⟨rfl,hn,ho,az,hk⟩:=h;have hc:=hy.cells fw;obtain⟨_,hM,cs,t',hh,hl⟩:=hI.st _ (ua hb);have e1:(a.eval y).cells.size=l'.length:=by rw[hc.1,Zu]
   obtain⟨w',hr,qj,cN,a1,a2,a3,a4⟩:=KP (P:=P) b o t' (a.eval y).cells.toList cs 0 w hh (by have:=hl.1;grind) (hc.ov ho);refine⟨w',_,?_,hI.yV (y:=.cells (over l o l')) hb cN a1 a2 a3 a4 hM ⟨hM,_,t',qj,?_⟩,hk⟩
   .simp only[Instr.storeAt,Instr.sureAddr,Sem.run_bind,Sem.run_pure,Result.andThen_ok,storeVar,(zn ht w).2,e1,hn];grind
   .simpa using hl.over hc o
  grind
 grind
end
theorem nD{X:Type}{ah:Nat}:∀(rows:List (List X)),(∀i (h:i<rows.length),rows[i].length=ah)->rows.flatten.length=rows.length*ah
 |[],_=>by simp|r::rows,h=>by have h0:=h 0 (by simp);have:=nD rows (fun i hi=>h (i+1) (by grind));grind
theorem HU{X:Type}{ah:Nat}:∀(rows:List (List X)),(∀i (h:i<rows.length),rows[i].length=ah)->∀i j,j<ah->(hi:i<rows.length)->rows.flatten[i*ah+j]? =rows[i][j]?
 |[],_,i,j,_,hi=>absurd hi (by simp)|r::rows,h,i,j,hj,hi=>by
  have h0:=h 0 (by simp);cases i with
  |zero=>grind|succ i=>have:=HU rows (fun i hi=>h (i+1) (by grind)) i j hj (by grind);grind
theorem Rows.of_flat{M:Mem}{b off ah:Nat}{rows:List (List AV)}{L:List Value}(hs:∀i (h:i<rows.length),rows[i].length=ah)(hL:RL M rows.flatten L)(hM:∀k v,L[k]? =some v->M b (off+k)=some v):
  Rows M b off ah rows (fun k=>L.getD k undef):=by
 have hlen:=nD rows hs;refine⟨hs,fun k hk=>?_,fun i hi j hj=>?_⟩
 .have cN:k<L.length:=by rw[← hL.1,hlen];grind
  grind
 .have dU:j<ah:=hs i hi ▸ hj;have hg:=HU rows hs i j dU hi;rw[ZX hj]at hg;obtain⟨v,hv,hr⟩:=hL.get hg;grind
theorem Rows.flat{M:Mem}{b off ah:Nat}{rows:List (List AV)}{cs:Nat->Value}(h:Rows M b off ah rows cs):RL M rows.flatten ((List.range (rows.length*ah)).map cs):=by
 have hlen:=nD rows h.size;refine⟨by grind,fun k h1 h2=>?_⟩;have he:0<ah:=by grind
 have hi:k / ah<rows.length:=Nat.div_lt_of_lt_mul (by grind);have hj:k%ah<ah:=Nat.mod_lt _ he;have hk:k / ah*ah+k%ah=k:=by rw[Xf];exact Nat.div_add_mod k ah
 have hg:=HU rows h.size (k / ah) (k%ah) hj hi;have dU:k%ah<rows[k / ah].length:=by grind
 have:=h.rel (k / ah) hi (k%ah) dU;grind
def Mem.add(M:Mem)(B u:Nat)(cs:List Value):Mem:=fun b o=>if b=B then(if o<u then cs[o]? else none)else M b o
section
variable {P:Program}[Glob P]{M:Mem}{w0:Base}{w:World}{σ:Store}{K:AV->Store->Prop}{rg:ag}{a:Act}
theorem Inv.nN(hI:Inv P M w0 σ w)(u:Nat)(cs:List Value):M.le (M.add w.heap.size u cs):=fun b o v h=>by
 have aW:b≠w.heap.size:=fun e=>by rw[e,hI.Dd]at h;grind
 simp[Mem.add,aW,h]
theorem Inv.Gv(hI:Inv P M w0 σ w)(u:Nat)(cs:List Value)(t:TypeId):Inv P (M.add w.heap.size u cs) w0 σ (w.alloc (.cells cs.toArray t)):=by
 have h':=hI.alloc (.cells cs.toArray t);refine⟨h'.os,h'.tape,h'.output,h'.size,h'.old,fun b o v hv=>?_,fun e he=>⟨(h'.st e he).1,?_⟩,h'.nd,fun g l e=>(hI.gl g l e).mono (hI.nN u cs),hI.gw,fun b o v hv az=>hI.bm b o v (by simp only[Mem.add]at hv;rwa [Z9 (by have:=hI.size;omega)]at hv) az⟩
 .simp only[Mem.add]at hv;split at hv
  .simp_all
  .exact h'.bZ b o v hv
 .obtain⟨tg,b,x⟩:=e;have hk:=(h'.st _ he).2;have aW:b≠w.heap.size:=by have:=hI.ub he;grind
  have hle:=hI.nN u cs;cases x with
  |cells l=>obtain⟨h1,cs',t',h2,h3⟩:=hk;exact⟨fun o=>by simp[Mem.add,aW,h1 o],cs',t',h2,h3.mono hle⟩
  |tail u' c=>obtain⟨h1,cs',t',h2,h3⟩:=hk;exact⟨fun o ho=>by simp[Mem.add,aW,h1 o ho],cs',t',h2,h3⟩
  |map es k=>obtain⟨h1,l,h2,h3,h4⟩:=hk;exact⟨fun o=>by simp[Mem.add,aW,h1 o],l,h2,h3,h4.mono hle⟩
theorem Inv.Cr(hI:Inv P M w0 σ w)(u:Nat)(cs:List Value)(t:TypeId)(hu:u<=cs.length)(tg:Nat):Inv P (M.add w.heap.size u cs) w0 ((tg,w.heap.size,.tail u cs.length)::σ) (w.alloc (.cells cs.toArray t)):=by
 have h':=hI.Gv u cs t;refine⟨h'.os,h'.tape,h'.output,h'.size,h'.old,h'.bZ,fun e he=>?_,?_,h'.gl,h'.gw,h'.bm⟩
 .rcases ZR.1 he with rfl|he
  .exact⟨hI.size,fun o ho=>by simp[Mem.add];omega,cs.toArray,t,heap_alloc_new _ _,by simp,hu⟩
  .exact h'.st e he
 .simp only[Zz,YQ];exact⟨hI.fresh,hI.nd⟩
theorem aks{cfg:Nat->Nat}{d:Option Nat}{E:List PanicEntry->Store->Prop}{x:Operand}{t:TypeId}(hI:Inv P M w0 σ w)(hR:bS M rg a)(h:ak P cfg d rg σ K E (.box t x)):
  aQ P M w0 K ((Instr.box t (a.eval x)).run P w):=by
 simp only[ak]at h;split at h
 .rename_i l hl;have hc:=(hR.ev x).cells hl;refine⟨_,_,M,_,_,?_,Mem.le.refl _,hI.box t hc _,.lp _ _ _,h w.heap.size⟩;simp[Instr.box,newVar,newRow]
 grind
theorem akr{cfg:Nat->Nat}{d:Option Nat}{E:List PanicEntry->Store->Prop}{t:TypeId}{i:TypeInfo}{z:Value}(hi:P.info? t=some i)(hz:i.zero=some z)(hI:Inv P M w0 σ w)
  (h:ak P cfg d rg σ K E (.alloc t z)):aQ P M w0 K ((Instr.alloc t true (.tuple #[])).run P w):=by
 refine⟨_,_,M,_,_,?_,Mem.le.refl _,hI.box t (RL.exact z.cells.toList) _,.lp _ _ _,h w.heap.size⟩;simp[Instr.alloc,E1 hi hz,newVar,newRow]
theorem gd(hR:bS M rg a):∀(l:List Operand),RL M (aL rg l) (l.map a.eval)
 |[]=>RL.nil|x::l=>RL.cons (hR.ev x) (gd hR l)
theorem HX(off:Nat):∀(l:List Value) (j:Nat) (cs:Array Value),off+j+l.length<=cs.size->
  (l.zipIdx j).foldl (fun cs (c,j)=>cs.setIfInBounds (off+j) c) cs=(over cs.toList (off+j) l).toArray
 |[],j,cs,_=>by simp[over]|c::l,j,cs,h=>by
  simp;rw[HX off l (j+1) _ (by grind)];apply Ym;simp only[over,Array.toList_setIfInBounds];have:(cs.toList.set (off+j) c).take (off+(j+1))=cs.toList.take (off+j)++[c]:=by rw[show off+(j+1)=off+j+1 from rfl,ZU (by grind),List.take_set_of_le (ZO _)];simp
  rw[this,List.drop_set_of_lt (by omega)];grind
inductive PM(place:Nat->Option (Nat×Nat)):List (Nat×Operand)->List (Nat×Nat×Operand)->Prop
 |nil:PM place [] []
 |cons (i off n:Nat) (x:Operand) (l:List (Nat×Operand)) (ps:List (Nat×Nat×Operand)) (h:place i=some (off,n)) (t:PM place l ps):PM place ((i,x)::l) ((off,n,x)::ps)
theorem Td(hR:bS M rg a)(place:Nat->Option (Nat×Nat)):∀(parts:List (Nat×Operand)) (ps:List (Nat×Nat×Operand)) (cs:Array Value) (l l':List AV),RL M l cs.toList->
  PM place parts ps->pU l (mG rg ps)=some l'->
  ∃cs':Array Value,Instr.fill place cs (parts.map fun(i,x)=>(i,a.eval x))=some cs'/\RL M l' cs'.toList
 |[],ps,cs,l,l',hl,hp,hf=>by cases hp;simp only[mG,pU,ZV]at hf;subst hf;exact⟨cs,rfl,hl⟩|(i,x)::parts,ps,cs,l,l',hl,hp,hf=>by
  cases hp with
  |cons _ off n _ _ bD vP h2=>
   simp only[mG,pU]at hf;split at hf
   .rename_i lx hlx;split at hf
    .rename_i hc;have hx:=(hR.ev x).cells hlx;have e1:(a.eval x).cells.size=n:=by rw[<-hc.1,hx.1,Zu]
     have e2:cs.size=l.length:=by rw[hl.1,Zu]
     have DR:=HX off (a.eval x).cells.toList 0 cs (by grind);obtain⟨cs',h3,h4⟩:=Td hR place parts bD (over cs.toList off (a.eval x).cells.toList).toArray (over l off lx) l' (by simpa using hl.over hx off) h2 hf;simp only[Zz,Instr.fill,vP];rw[← Array.foldl_toList,Array.toList_zipIdx];grind
    grind
   grind
theorem Sr(fs:List Field)(place:Nat->Option (Nat×Nat))(hp:∀i f k,fs[i]? =some f->P.info? f.type=some k->place i=some (f.offset,k.size)):
  ∀(l:List (Nat×Operand)) (ps:List (Nat×Nat×Operand)),yt P fs l=some ps->PM place l ps
 |[],ps,h=>by simp[yt]at h;subst h;exact .nil|(i,x)::l,ps,h=>by
  simp only[yt]at h;split at h
  .rename_i f hf;split at h
   .rename_i k hk;rw[Z8]at h;obtain⟨bD,h1,rfl⟩:=h;exact .cons _ _ _ _ _ _ (hp i f k hf hk) (Sr fs place hp l bD h1)
   grind
  grind
theorem run_places(w:World):∀(fs:List Field),fs.all (fun f=>(P.info? f.type).isSome)=true->
  ∃pl:List (Nat×Nat),(fs.mapM (fun f:Field=>do pure (f.offset,<-sizeOf f.type)):Sem (List (Nat×Nat))).run P w= .ok pl w/\∀(i:Nat) (f:Field) (k:TypeInfo),fs[i]? =some f->P.info? f.type=some k->pl[i]? =some (f.offset,k.size)
 |[],_=>⟨[],rfl,fun i f k h=>by grind⟩
 |f::fs,h=>by
  simp only[List.all_cons,Z6]at h;obtain⟨k0,vK⟩:=X7.1 h.1;obtain⟨pl,h1,h2⟩:=run_places w fs h.2;refine⟨(f.offset,k0.size)::pl,?_,fun i g k hg hk=>?_⟩
  .simp only[List.mapM_cons,Sem.run_bind,mh vK,Result.andThen_ok,Sem.run_pure,h1]
  grind
theorem akt{cfg:Nat->Nat}{d:Option Nat}{E:List PanicEntry->Store->Prop}{t:TypeId}{i:TypeInfo}{z:Value}{fs:Array Field}{parts:Array (Nat×Operand)}{ps:List (Nat×Nat×Operand)}
  (ht:P.underlying t=some (.struct fs)) (hi:P.info? t=some i) (hz:i.zero=some z) (bW:fs.toList.all (fun f=>(P.info? f.type).isSome)=true) (aw:yt P fs.toList parts.toList=some ps)
  (hI:Inv P M w0 σ w) (hR:bS M rg a) (h:ak P cfg d rg σ K E (.build z.cells.toList ps)):aQ P M w0 K ((Instr.build t (parts.map fun(i,x)=>(i,a.eval x))).run P w):=by
 simp only[ak]at h;split at h
 .rename_i l hl;obtain⟨pl,h1,h2⟩:=run_places (P:=P) w fs.toList bW;obtain⟨cs',h3,h4⟩:=Td hR (fun i:Nat=>pl[i]?) parts.toList ps z.cells (z.cells.toList.map .v) l (RL.exact _) (Sr fs.toList _ h2 _ _ aw) hl;refine aQ.same hI (v:=.agg cs') ?_ h ?_
  .have:=R.rM h4;simp_all
  .have h1':(fs.mapM (fun f:Field=>do pure (f.offset,<-sizeOf f.type)):Sem (Array (Nat×Nat))).run P w= .ok pl.toArray w:=by rw[Array.mapM_eq_mapM_toList,Sem.run_map,h1];rfl
   simp only[Instr.build,Sem.run_bind,E1 hi hz,Result.andThen_ok,aX ht,h1',Array.toList_map];simp_all
 grind
theorem S6{ah:Nat}:∀(xs:List AV) (rows:List (List AV)) (vs:List Value),rowsOf ah xs=some rows->RL M xs vs->RL M rows.flatten (vs.flatMap fun v=>v.cells.toList)/\rows.length=xs.length/\
  (∀i (h:i<rows.length),rows[i].length=ah)/\∀v∈vs,v.cells.size=ah
 |[],rows,vs,h,k=>by simp[rowsOf]at h;obtain rfl:=k.qD;grind
 |x::xs,rows,vs,h,k=>by
  obtain⟨v,vs',rfl,hx,di⟩:=k.aZ;simp only[rowsOf]at h;split at h
  .rename_i r hr;split at h
   .rename_i he;rw[Z8]at h;obtain⟨rows',h1,rfl⟩:=h;obtain⟨a1,a2,a3,a4⟩:=S6 xs rows' vs' h1 di;have hc:=hx.cells hr;refine⟨by simpa using RL.append hc a1,by simp[a2],fun i hi=>?_,fun u hu=>?_⟩
    .grind
    .rcases ZR.1 hu with rfl|hu
     .rw[<-he,hc.1,Zu]
     grind
   grind
  grind
theorem N7(ah:Nat):∀(vs:List Value) (k:Nat) (cs:Array Value),(∀v∈vs,v.cells.size=ah)->k*ah+vs.length*ah<=cs.size->
  Instr.fill (fun i=>some (i*ah,ah)) cs ((List.range' k vs.length).zip vs)=some (over cs.toList (k*ah) (vs.flatMap fun v=>v.cells.toList)).toArray
 |[],k,cs,_,_=>by simp[Instr.fill,over]|v::vs,k,cs,h,hl=>by
  have hv:=h v (by simp);simp only[ZY,Nat.succ_mul]at hl;simp only[ZY,List.range'_succ,List.zip_cons_cons,Instr.fill];rw[← Array.foldl_toList,Array.toList_zipIdx,HX (k*ah) v.cells.toList 0 cs (by grind)];simp only[Yr];rw[N7 ah vs (k+1) _ (fun u hu=>h u (by simp[hu])) (by simp[over,hv];grind)];simp only[over,List.flatMap_cons,Z7,Zu,hv,Nat.succ_mul];rw[Zg (by simp;omega)];have e1:(cs.toList.take (k*ah)++v.cells.toList).length=k*ah+ah:=by simp[hv];omega
  rw[ZM (by omega),List.drop_append,Yy (by omega),e1];simp only[Zf,Zq,List.drop_drop];grind
end
section
variable {P:Program}[Glob P]{M:Mem}{w0:Base}{w:World}{σ:Store}{K:AV->Store->Prop}{rg:ag}{a:Act}{cfg:Nat->Nat}{d:Option Nat}{E:List PanicEntry->Store->Prop}
theorem ahJ(M:Mem)(B:Nat)(L:List Value)(k:Nat)(v:Value)(h:L[k]? =some v):M.add B L.length L B (0+k)=some v:=by have:k<L.length:=(ZG.1 h).1;simp[Mem.add,this];grind
theorem akH{t e:TypeId}{n:Nat}{i:TypeInfo}{z:Value}{parts:Array (Nat×Operand)}(ht:P.underlying t=some (.slice e))(hi:P.info? e=some i)(hz:i.zero=some z)(hp:parts.toList.map (·.1)=List.range n)
  (hn:n*i.size<=16777216) (hI:Inv P M w0 σ w) (hR:bS M rg a) (h:ak P cfg d rg σ K E (.TO e i.size (parts.toList.map (·.2)))):
  aQ P M w0 K ((Instr.buildSlice t n (parts.map fun(i,x)=>(i,a.eval x))).run P w):=by
 simp only[ak]at h;split at h
 .rename_i rows ad8;obtain⟨nF,h⟩:=h;obtain⟨hL,hlen,bl,vy⟩:=S6 _ rows _ ad8 (gd hR (parts.toList.map (·.2)));generalize vY:((parts.toList.map (·.2)).map a.eval)=vs at hL vy;have gm:vs.length=n:=by rw[← vY];have:=Zk List.length hp;grind
  have kR:rows.length=n:=by rw[hlen,<-gm,<-vY];simp[gd hR _ |>.1]
  have eg:=nD rows bl;generalize hLL:(vs.flatMap fun v=>v.cells.toList)=L at hL;have ady:L.length=n*i.size:=by rw[<-hL.1,eg,kR]
  have aem:(parts.map fun x=>(x.1,a.eval x.2)).toList=(List.range' 0 vs.length).zip vs:=by rw[gm,← Xw,← hp,← vY];simp only[Array.toList_map];grind
  have cY:(Instr.buildSlice t n (parts.map fun(i,x)=>(i,a.eval x))).run P w= .ok (.slice (some ⟨w.heap.size,0,none⟩) n n) (w.alloc (.cells L.toArray e)):=by
   have key:∀zs:Array Value,Sem.run P (match Instr.fill (fun j=>some (j*i.size,i.size)) (Array.map (fun x=>zs[x%zs.size]!) (Array.range (n*i.size))) (parts.map fun x=>(x.1,a.eval x.2)).toList with
     |some cells=>do
      let b <-newRow e cells
      pure (Value.slice (some b) n n)
     |_=>stuck "buildSlice: a part of the wrong size") w=Result.ok (Value.slice (some ⟨w.heap.size,0,none⟩) n n) (w.alloc (.cells L.toArray e)):=by
    intro zs;rw[aem,N7 i.size vs 0 _ vy (by grind)];simp only[Sem.run_bind,newRow,run_newObj,Result.andThen_ok,Sem.run_pure]
    congr 4
    simp only[over,Nat.zero_mul,List.take_zero,Zf,hLL];grind
   simp only[Instr.buildSlice,Sem.run_bind,aX ht,Result.andThen_ok,mh hi,Sem.run_ite];rw[Z9 (by omega)];by_cases hc:n*i.size=0
   .rw[Z3 hc];exact key #[]
   .rw[Z9 hc];simp only[E1 hi hz,Result.andThen_ok,Sem.run_pure];exact key _
  rw[cY];have Jq:Rows (M.add w.heap.size L.length L) w.heap.size 0 i.size rows (fun k=>L.getD k undef):=Rows.of_flat bl (hL.mono (hI.nN _ _)) (ahJ M w.heap.size L);have rA:n<=maxLen:=by unfold maxLen;omega
  split at h
  .refine⟨_,_,_,_,σ,rfl,hI.nN L.length L,hI.Gv _ L e,?_,h⟩;have:=R.nP Jq (Nat.le_of_eq kR) rA true;rw[kR]at this;exact this
  .obtain⟨vQ,h⟩:=h;have e1:rows.length*i.size=L.length:=by rw[kR,ady]
   rw[e1]at h;refine⟨_,_,_,_,_,rfl,hI.nN L.length L,hI.Cr _ L e (ZO _) _,?_,h w.heap.size⟩;have:=R.rN (t:=d.getD 0) (u:=L.length) (c:=L.length) Jq (Nat.le_of_eq kR) rA (.inr ⟨by omega,by omega⟩) vQ;rw[kR]at this;exact this
  .refine⟨_,_,_,_,σ,rfl,hI.nN L.length L,hI.Gv _ L e,?_,h⟩;have:=R.ahM Jq (by rw[kR];exact rA);rw[kR]at this;exact this
  .refine⟨_,_,M,_,_,rfl,Mem.le.refl _,hI.box e hL _,?_,h w.heap.size⟩;rw[kR];exact .ms _ _ _ _ _
 grind
theorem aaz(op:BinOp)(t:TypeId)(k k':IntKind)(x y:Int):binOp op t (.int k x) (.int k' y)=
  match op with
  | .shl| .shr=>Op.shift op k x k' y| .add| .sub| .mul=>if k≠k' then stuck "BinOp: operands of different kinds" else Op.intArith op k x y| .quo| .rem=>if k≠k' then stuck "BinOp: operands of different kinds" else Op.intDiv op k x y| .and| .or| .xor| .andNot=>if k≠k' then stuck "BinOp: operands of different kinds" else Op.intBits op k x y|_=>if k≠k' then stuck "BinOp: operands of different kinds" else Op.intCmp op x y:=by
 cases op<;>rfl
theorem sZ(x y:ByteArray):(x.toList == y.toList)=decide (x=y):=by rw[ByteArray.toList_eq,ByteArray.toList_eq];obtain⟨⟨x⟩⟩:=x;obtain⟨⟨y⟩⟩:=y;grind
theorem KS{op:BinOp}{t:TypeId}{x y:Operand}(hI:Inv P M w0 σ w)(hR:bS M rg a)
  (h:ak P cfg d rg σ K E (.bin op x y)):aQ P M w0 K ((do eqGuard op t x y (a.eval x) (a.eval y);binOp op t (a.eval x) (a.eval y):Sem Value).run P w):=by
 have hx:=hR.ev x;have hy:=hR.ev y;simp only[ak]at h;split at h
 .rename_i u v hu hv;rw[hu]at hx;rw[hv]at hy;rw[hx.aC,hy.aC];unfold mo at h;split at h
  .rename_i k p k' q;rw[eqGuard_at_int,aaz];simp only[Sem.run_bind,Sem.run_pure,Result.andThen_ok];cases op<;>simp only at h|-
   case add=>obtain⟨rfl,h⟩:=h;exact aQ.same hI (.v _) h (by simp[Op.intArith])
   case sub=>obtain⟨rfl,h⟩:=h;exact aQ.same hI (.v _) h (by simp[Op.intArith])
   case mul=>obtain⟨rfl,h⟩:=h;exact aQ.same hI (.v _) h (by simp[Op.intArith])
   case quo=>obtain⟨rfl,h0,h⟩:=h;exact aQ.same hI (.v _) h (by simp[Op.intDiv,h0])
   case rem=>obtain⟨rfl,h0,h⟩:=h;exact aQ.same hI (.v _) h (by simp[Op.intDiv,h0])
   case and=>obtain⟨rfl,h⟩:=h;exact aQ.same hI (.v _) h (by simp[intBits_and])
   case or=>obtain⟨rfl,h⟩:=h;exact aQ.same hI (.v _) h (by simp[intBits_or])
   case xor=>obtain⟨rfl,h⟩:=h;exact aQ.same hI (.v _) h (by simp[intBits_xor])
   case andNot=>obtain⟨rfl,h⟩:=h;exact aQ.same hI (.v _) h (by simp[intBits_andNot])
   case shl=>obtain⟨h0,h1,h⟩:=h;exact aQ.same hI (.v _) h (by rw[shift_shl _ _ _ _ h0 h1];rfl)
   case shr=>obtain⟨h0,h1,h⟩:=h;exact aQ.same hI (.v _) h (by rw[shift_shr _ _ _ _ h0 h1];rfl)
   case eql=>obtain⟨rfl,h⟩:=h;exact aQ.same hI (.v _) h (by simp[Op.intCmp];rfl)
   case neq=>obtain⟨rfl,h⟩:=h;exact aQ.same hI (.v _) h (by simp[Op.intCmp,bne];rfl)
   case lss=>obtain⟨rfl,h⟩:=h;exact aQ.same hI (.v _) h (by simp[Op.intCmp])
   case leq=>obtain⟨rfl,h⟩:=h;exact aQ.same hI (.v _) h (by simp[Op.intCmp])
   case gtr=>obtain⟨rfl,h⟩:=h;exact aQ.same hI (.v _) h (by simp[Op.intCmp])
   case geq=>obtain⟨rfl,h⟩:=h;exact aQ.same hI (.v _) h (by simp[Op.intCmp])
  .rename_i p q;rw[eqGuard_at_string];simp only[Sem.run_bind,Sem.run_pure,Result.andThen_ok];have hb:∀op,op≠.shl->op≠.shr->binOp op t (.string p) (.string q)=Op.stringOp op p q:=by intro op h1 h2;cases op<;>first|rfl|exact(h1 rfl).elim|exact(h2 rfl).elim
   cases op<;>simp only at h|-
   case add=>
    obtain⟨hs,h⟩:=h;refine aQ.same hI (.v _) h ?_;rw[hb _ (by simp) (by simp)];simp only[Op.stringOp,IntKind.max_i64,Sem.run_ite];rw[Z9 (by omega)];rfl
   case eql=>exact aQ.same hI (.v _) h (by rw[hb _ (by simp) (by simp)];simp only[Op.stringOp,sZ];rfl)
   case neq=>exact aQ.same hI (.v _) h (by rw[hb _ (by simp) (by simp)];simp only[Op.stringOp,sZ];rfl)
   case lss=>exact aQ.same hI (.v _) h (by rw[hb _ (by simp) (by simp)];simp only[Op.stringOp];rfl)
   case leq=>exact aQ.same hI (.v _) h (by rw[hb _ (by simp) (by simp)];simp only[Op.stringOp,sZ];rfl)
   case gtr=>exact aQ.same hI (.v _) h (by rw[hb _ (by simp) (by simp)];simp only[Op.stringOp,sZ];rfl)
   case geq=>exact aQ.same hI (.v _) h (by rw[hb _ (by simp) (by simp)];simp only[Op.stringOp];rfl)
   all_goals exact h.elim
  grind
 grind
theorem akL{op:UnOp}{x:Operand}(hI:Inv P M w0 σ w)(hR:bS M rg a)(h:ak P cfg d rg σ K E (.un op x)):aQ P M w0 K ((Op.unary op (a.eval x)).run P w):=by
 have hx:=hR.ev x;simp only[ak]at h;split at h
 .rename_i u hu;rw[hu]at hx;rw[hx.aC];split at h
  .rename_i r hr;refine aQ.same hI (.v _) h ?_;unfold FD at hr;split at hr
   .simp at hr;subst hr;simp[Op.unary,Op.intArith]
   .simp at hr;subst hr;simp[Op.unary]
   grind
  grind
 grind
theorem aku{src dst:TypeId}{k k':IntKind}{x:Operand}(hs:P.underlying src=some (.int k'))(hd:P.underlying dst=some (.int k))(hI:Inv P M w0 σ w)(hR:bS M rg a)(h:ak P cfg d rg σ K E (.mD k x)):
  aQ P M w0 K ((convert src dst (a.eval x)).run P w):=by
 have hx:=hR.ev x;simp only[ak]at h;split at h
 .rename_i k2 n hu;rw[hu]at hx;rw[hx.aC];exact aQ.same hI (.v _) h (by simp[convert,aX hs,aX hd,Conv.intToInt])
 grind
theorem akx{t:TypeId}{fs:Array Field}{i:Nat}{f:Field}{k:TypeInfo}{x:Operand}(ht:P.underlying t=some (.struct fs))(hf:fs[i]? =some f)(hk:P.info? f.type=some k)(h0:k.size≠0)(hI:Inv P M w0 σ w)(hR:bS M rg a)
  (h:ak P cfg d rg σ K E (.cG f.offset x)):aQ P M w0 K ((Instr.fieldAt t (a.eval x) i).run P w):=by
 have hx:=hR.ev x;simp only[ak]at h;split at h
 .rename_i tg b o hu;rw[hu]at hx;rw[hx.pb];refine aQ.same hI (.lp _ _ _) h ?_;simp[Instr.fieldAt,aX ht,hf,Instr.sureAddr,fieldPlace,mh hk,h0,Addr.add_lit]
 .rename_i l hu;rw[hu]at hx;obtain⟨b,o,cs,hv,h1,h2⟩:=hx.uj;rw[hv];refine aQ.same hI (v:=.pointer (some ⟨b,o+f.offset,none⟩)) ?_ h ?_
  .refine .pc _ b _ (fun k=>cs (f.offset+k)) (fun k hk=>?_) (fun k hk=>?_)
   .grind
   grind
  .simp[Instr.fieldAt,aX ht,hf,Instr.sureAddr,fieldPlace,mh hk,h0,Addr.add_lit]
 grind
theorem aac{t:TypeId}{g:Bool}{n off:Nat}(ht:iH P t=some (g,n)){l:List AV}{cs:Array Value}(hl:RL M l cs.toList)(hI:Inv P M w0 σ w)
  (h:off+n<=l.length/\if g then K (.agg ((l.drop off).take n)) σ else match l[off]? with
   |some y=>K y σ|none=>False):aQ P M w0 K ((part t cs off).run P w):=by
 obtain⟨h1,h2⟩:=zn ht w;obtain⟨az,h⟩:=h;simp only[part,Sem.run_bind,h1,Result.andThen_ok];cases g with
 |true=>
  simp only[YK,Sem.run_bind,h2,Result.andThen_ok,Sem.run_pure]at h|-;refine aQ.same hI (v:=.agg (cs.extract off (off+n))) ?_ h rfl;have:=R.rM ((hl.drop off).take n);have e:((cs.toList.drop off).take n).toArray=cs.extract off (off+n):=by grind
  grind
 |false=>
  simp at h|-;split at h
  .rename_i y hy;obtain⟨v,hv,hr⟩:=hl.get hy;have:cs[off]? =some v:=by grind
   simp only[this,Sem.run_pure];exact aQ.same hI hr h rfl
  grind
theorem aky{t:TypeId}{fs:Array Field}{i n:Nat}{f:Field}{g:Bool}{x:Operand}(ht:P.underlying t=some (.struct fs))(hf:fs[i]? =some f)(hg:iH P f.type=some (g,n))(hI:Inv P M w0 σ w)(hR:bS M rg a)
  (h:ak P cfg d rg σ K E (.field g f.offset n x)):aQ P M w0 K ((Instr.field t (a.eval x) i).run P w):=by
 simp only[ak]at h;split at h
 .rename_i l hl;obtain⟨cs,bY,hc⟩:=(hR.ev x).Gu hl;rw[bY];have:=aac hg hc hI h;simpa[Instr.field,aX ht,hf,asAgg]using this
 grind
theorem ahr{x y:AV}{c:Bool}(h:o7 .int x y=some c):∃k a b,x= .v (.int k a)/\y= .v (.int k b)/\c=decide (a=b):=by
 unfold o7 at h;split at h
 .split at h
  .rename_i e;subst e;grind
  grind
 .grind
 .grind
 grind
theorem aht{x y:AV}{c:Bool}(h:o7 .str x y=some c):∃a b,x= .v (.string a)/\y= .v (.string b)/\c=decide (a=b):=by
 unfold o7 at h;split at h
 .grind
 .grind
 .grind
 grind
theorem ahq{x y:AV}{c:Bool}(h:o7 .bool x y=some c):∃a b,x= .v (.bool a)/\y= .v (.bool b)/\c=(a == b):=by
 unfold o7 at h;split at h
 .grind
 .grind
 .grind
 grind
theorem Q8(d:Nat):∀(fs:List Field) (n:Nat) (ks:List sO) (xs ys:List AV) (us vs:Array Value) (b:Bool),rL P n fs=some ks->nz ks xs ys=some b->
  RL M xs (us.toList.drop n)->RL M ys (vs.toList.drop n)->(Op.eqFields (d+1) us vs fs).run P w= .ok b w
 |[],n,ks,xs,ys,us,vs,b,hk,he,hx,hy=>by simp only[rL,ZV]at hk;subst hk;cases xs<;>cases ys<;>simp[nz]at he;subst he;rfl|f::fs,n,ks,xs,ys,us,vs,b,hk,he,hx,hy=>by
  simp only[rL]at hk;split at hk
  .rename_i hc;obtain⟨k,o3,rfl,adY,Ps⟩:∃k o3,ks=k::o3/\rL P (n+1) fs=some o3/\((k= .int/\∃q,P.underlying f.type=some (.int q))\/(k= .str/\P.underlying f.type=some .string)\/(k= .bool/\P.underlying f.type=some .bool)):=by
    split at hk
    .rename_i q hu;obtain⟨o3,h1,rfl⟩:=Z8.1 hk;grind
    .rename_i hu;obtain⟨o3,h1,rfl⟩:=Z8.1 hk;grind
    .rename_i hu;obtain⟨o3,h1,rfl⟩:=Z8.1 hk;grind
    grind
   match xs,ys,he with
   |x::xs,y::ys,he=>
    obtain⟨u,us',D5,JE,di⟩:=hx.aZ;obtain⟨v,vs',vY,JF,AY⟩:=hy.aZ;have hu0:us[n]? =some u:=by have:=Zk (·[0]?) D5;grind
    have D6:vs[n]? =some v:=by have:=Zk (·[0]?) vY;grind
    have hu1:us.toList.drop (n+1)=us':=by rw[<-List.drop_drop,D5];rfl
    have jf:vs.toList.drop (n+1)=vs':=by rw[<-List.drop_drop,vY];rfl
    simp only[nz]at he;split at he
    .rename_i c Je;obtain⟨b',jA,rfl⟩:=Z8.1 he;have ih:=Q8 d fs (n+1) o3 xs ys us vs b' adY jA (by rw[hu1];exact di) (by rw[jf];exact AY);have tI:(part f.type us f.offset).run P w= .ok u w/\(part f.type vs f.offset).run P w= .ok v w:=by rcases Ps with⟨_,q,hu⟩|⟨_,hu⟩|⟨_,hu⟩<;>simp[part,isAgg,aX hu,hc.2,hu0,D6]
     have heq:(Op.equalIn (d+1) f.type u v).run P w= .ok c w:=by
      rcases Ps with⟨rfl,q,hu⟩|⟨rfl,hu⟩|⟨rfl,hu⟩
      .obtain⟨k,p,q',rfl,rfl,rfl⟩:=ahr Je;rw[JE.aC,JF.aC,run_equalIn_int (w:=w) _ _ _ q _ _ hu];rfl
      .obtain⟨p,q',rfl,rfl,rfl⟩:=aht Je;rw[JE.aC,JF.aC,run_equalIn_string (w:=w) _ _ _ _ hu,sZ]
      .obtain⟨p,q',rfl,rfl,rfl⟩:=ahq Je;rw[JE.aC,JF.aC,run_equalIn_bool' (w:=w) _ _ _ _ hu]
     simp only[Op.eqFields,hc.1,ne_eq,not_false_eq_true,YK,Sem.run_bind,tI.1,tI.2,Result.andThen_ok,heq,Sem.run_ite];cases c
     .simp
     .simp[ih]
    grind
   |[],ys,he=>simp[nz]at he|x::xs,[],he=>simp[nz]at he
  grind
theorem akv{neg:Bool}{t:TypeId}{fs:Array Field}{ks:List sO}{x y:Operand}(ht:P.underlying t=some (.struct fs))(h1:P.stoodInHeld t=false)(h2:P.eqGuardType P.depth t=false)(hk:rL P 0 fs.toList=some ks)(hI:Inv P M w0 σ w)(hR:bS M rg a)
  (h:ak P cfg d rg σ K E (.eqs neg ks x y)):aQ P M w0 K ((do eqGuard (if neg then .neq else .eql) t x y (a.eval x) (a.eval y);binOp (if neg then .neq else .eql) t (a.eval x) (a.eval y):Sem Value).run P w):=by
 simp only[ak]at h;split at h
 .rename_i xs ys di AY;obtain⟨us,hu,hxr⟩:=(hR.ev x).Gu di;obtain⟨vs,hv,hyr⟩:=(hR.ev y).Gu AY;rw[hu,hv];split at h
  .rename_i b hb;have he:=Q8 (P:=P) (M:=M) (w:=w) 9998 fs.toList 0 ks xs ys us vs b hk hb (by grind) (by grind);have rD:P.underlying t=some (.struct (P.fieldsOf t)):=by simp[Program.fieldsOf,ht]
   have hf:P.fieldsOf t=fs:=by grind
   have dy:=run_equalIn_struct w 9999 t us vs rD h1;rw[hf,he]at dy;refine aQ.same hI (.v _) h ?_;rw[Sem.run_bind,run_eqGuard_agg w _ t x y us vs h2];cases neg
   .simp only[Result.andThen_ok,ZT,YU,run_eql_struct,dy,Bool.xor_false]
   .simp only[Result.andThen_ok,YK,run_neq_struct,dy,Bool.xor_true]
  grind
 grind
end
section
variable {P:Program}[Glob P]{M:Mem}{w0:Base}{w:World}{σ:Store}{K:AV->Store->Prop}{rg:ag}{a:Act}{cfg:Nat->Nat}{d:Option Nat}{E:List PanicEntry->Store->Prop}
def NC(P:Program)[Glob P](t:TypeId):wV->Prop
 |.bool=>P.underlying t=some .bool|.slice=>∃e,P.underlying t=some (.slice e)|.map=>∃k e,P.underlying t=some (.map k e)|.func=>∃p r v,P.underlying t=some (.func p r v)|.ptr=>∃e,P.underlying t=some (.pointer e)
theorem ib{t:TypeId}{u v:Value}{b:Bool}(hg:∀(op:BinOp) (p q:Operand),eqGuard op t p q u v=pure ())(h1:binOp .eql t u v=(do pure (.bool (<-Op.equal t u v))))(h2:binOp .neq t u v=(do pure (.bool (!(<-Op.equal t u v)))))
  (he:∀d:Nat,(Op.equalIn (d+1) t u v).run P w= .ok b w) (op:BinOp) (p q:Operand):eqGuard op t p q u v=pure ()/\(op= .eql->(binOp op t u v).run P w= .ok (.bool b) w)/\(op= .neq->(binOp op t u v).run P w= .ok (.bool (!b)) w):=by
 have j5:(Op.equal t u v).run P w= .ok b w:=he 9999;simp_all
set_option maxHeartbeats 2000000 in
theorem ab9{k:wV}{t:TypeId}{x y:AV}{u v:Value}{b:Bool}(ht:NC P t k)(hx:R M x u)(hy:R M y v)(h:td k x y=some b)(op:BinOp)(p q:Operand):
  eqGuard op t p q u v=pure ()/\(op= .eql->(binOp op t u v).run P w= .ok (.bool b) w)/\(op= .neq->(binOp op t u v).run P w= .ok (.bool (!b)) w):=by
 have sl:∀{nn ez rows},R M (.sl true ez rows) nn->∃b n c,nn= .slice (some b) n c:=by
  intro nn ez rows h;rcases h.nT with⟨a,h,_,hv⟩|⟨b,off,cap,cs,hv,_⟩
  .obtain⟨a,rfl⟩:=X7.1 (h rfl);exact⟨_,_,_,hv⟩
  .exact⟨_,_,_,hv⟩
 have ow:∀{nn ez tg b u c rows},R M (.own ez tg b u c rows) nn->∃b n c,nn= .slice (some b) n c:=by intro nn ez tg b u c rows h;obtain⟨off,cap,cs,hv,_⟩:=h.pe;exact⟨_,_,_,hv⟩
 unfold td at h;split at h<;>simp only[ZV,reduceCtorEq]at h<;>subst h
 case h_1=>rw[hx.aC,hy.aC];exact ib (fun op p q=>by cases op<;>rfl) rfl rfl (fun d=>by simp[Op.equalIn,aX ht]) op p q
 case h_2=>obtain⟨e,ht⟩:=ht;obtain⟨b,n,c,rfl⟩:=sl hx;rw[hy.aC];exact ib (fun op p q=>by cases op<;>rfl) rfl rfl (fun d=>by simp[Op.equalIn,aX ht]) op p q
 case h_3=>obtain⟨e,ht⟩:=ht;obtain⟨b,n,c,rfl⟩:=sl hy;rw[hx.aC];exact ib (fun op p q=>by cases op<;>rfl) rfl rfl (fun d=>by simp[Op.equalIn,aX ht]) op p q
 case h_4=>obtain⟨e,ht⟩:=ht;obtain⟨b,n,c,rfl⟩:=ow hx;rw[hy.aC];exact ib (fun op p q=>by cases op<;>rfl) rfl rfl (fun d=>by simp[Op.equalIn,aX ht]) op p q
 case h_5=>obtain⟨e,ht⟩:=ht;obtain⟨b,n,c,rfl⟩:=ow hy;rw[hx.aC];exact ib (fun op p q=>by cases op<;>rfl) rfl rfl (fun d=>by simp[Op.equalIn,aX ht]) op p q
 case h_6=>obtain⟨e,ht⟩:=ht;rw[hx.pd,hy.aC];exact ib (fun op p q=>by cases op<;>rfl) rfl rfl (fun d=>by simp[Op.equalIn,aX ht]) op p q
 case h_7=>obtain⟨e,ht⟩:=ht;rw[hx.aC,hy.pd];exact ib (fun op p q=>by cases op<;>rfl) rfl rfl (fun d=>by simp[Op.equalIn,aX ht]) op p q
 case h_8=>obtain⟨e,ht⟩:=ht;rw[hx.aC,hy.aC];exact ib (fun op p q=>by cases op<;>rfl) rfl rfl (fun d=>by simp[Op.equalIn,aX ht]) op p q
 case h_9=>obtain⟨e,ht⟩:=ht;rw[hx.aC,hy.aC];exact ib (fun op p q=>by cases op<;>rfl) rfl rfl (fun d=>by simp[Op.equalIn,aX ht]) op p q
 case h_10=>obtain⟨e,ht⟩:=ht;rw[hx.aC,hy.aC];exact ib (fun op p q=>by cases op<;>rfl) rfl rfl (fun d=>by simp[Op.equalIn,aX ht]) op p q
 case h_11=>obtain⟨k,e,ht⟩:=ht;rw[hx.aC,hy.aC];exact ib (fun op p q=>by cases op<;>rfl) rfl rfl (fun d=>by simp[Op.equalIn,aX ht]) op p q
 case h_12=>obtain⟨k,e,ht⟩:=ht;rw[hx.aC,hy.aC];exact ib (fun op p q=>by cases op<;>rfl) rfl rfl (fun d=>by simp[Op.equalIn,aX ht]) op p q
 case h_13=>obtain⟨k,e,ht⟩:=ht;rw[hx.aC,hy.aC];exact ib (fun op p q=>by cases op<;>rfl) rfl rfl (fun d=>by simp[Op.equalIn,aX ht]) op p q
 case h_14=>obtain⟨fp,fr,fv,ht⟩:=ht;rw[hx.aC,hy.aC];exact ib (fun op p q=>by cases op<;>rfl) rfl rfl (fun d=>by simp[Op.equalIn,aX ht]) op p q
 case h_15=>obtain⟨fp,fr,fv,ht⟩:=ht;rw[hx.aC,hy.aC];exact ib (fun op p q=>by cases op<;>rfl) rfl rfl (fun d=>by simp[Op.equalIn,aX ht]) op p q
 case h_16=>obtain⟨fp,fr,fv,ht⟩:=ht;rw[hx.aC,hy.aC];exact ib (fun op p q=>by cases op<;>rfl) rfl rfl (fun d=>by simp[Op.equalIn,aX ht]) op p q
 case h_17=>obtain⟨e,ht⟩:=ht;rw[hx.pb,hy.aC];exact ib (fun op p q=>by cases op<;>rfl) rfl rfl (fun d=>by simp[Op.equalIn,aX ht]) op p q
 case h_18=>obtain⟨e,ht⟩:=ht;rw[hx.aC,hy.pb];exact ib (fun op p q=>by cases op<;>rfl) rfl rfl (fun d=>by simp[Op.equalIn,aX ht]) op p q
 case h_19=>obtain⟨e,ht⟩:=ht;rw[hx.aC,hy.aC];exact ib (fun op p q=>by cases op<;>rfl) rfl rfl (fun d=>by simp[Op.equalIn,aX ht]) op p q
 case h_20=>obtain⟨e,ht⟩:=ht;rw[hx.aC,hy.aC];exact ib (fun op p q=>by cases op<;>rfl) rfl rfl (fun d=>by simp[Op.equalIn,aX ht]) op p q
 case h_21=>obtain⟨e,ht⟩:=ht;rw[hx.aC,hy.aC];exact ib (fun op p q=>by cases op<;>rfl) rfl rfl (fun d=>by simp[Op.equalIn,aX ht]) op p q
theorem BC{neg:Bool}{k:wV}{t:TypeId}{x y:Operand}(ht:NC P t k)(hI:Inv P M w0 σ w)(hR:bS M rg a)
  (h:ak P cfg d rg σ K E (.jt neg k x y)):aQ P M w0 K ((do eqGuard (if neg then .neq else .eql) t x y (a.eval x) (a.eval y);binOp (if neg then .neq else .eql) t (a.eval x) (a.eval y):Sem Value).run P w):=by
 simp only[ak]at h;split at h
 .rename_i b jA;obtain⟨h1,h2,h3⟩:=ab9 (w:=w) ht (hR.ev x) (hR.ev y) jA (if neg then .neq else .eql) x y;refine aQ.same hI (.v _) h ?_;cases neg
  .simp_all
  simp_all
 grind
theorem Te{x:Operand}(hI:Inv P M w0 σ w)(hR:bS M rg a)(h:ak P cfg d rg σ K E (.mv x)):aQ P M w0 K ((pure (a.eval x):Sem Value).run P w):=
 aQ.same hI (hR.ev x) h rfl
theorem akI{c x y:Operand}(hI:Inv P M w0 σ w)(hR:bS M rg a)(h:ak P cfg d rg σ K E (.pick c x y)):aQ P M w0 K ((do pure (if <-asBool (a.eval c)then a.eval x else a.eval y):Sem Value).run P w):=by
 have hc:=hR.ev c;simp only[ak]at h;split at h
 .rename_i t he;rw[he]at hc;rw[hc.aC];refine aQ.same hI (x:=if t then ev rg x else ev rg y) ?_ h rfl;cases t
  .exact hR.ev y
  .exact hR.ev x
 grind
theorem akw{x:Operand}{i:Nat}(hI:Inv P M w0 σ w)(hR:bS M rg a)(h:ak P cfg d rg σ K E (.extract x i)):aQ P M w0 K ((Instr.extract (a.eval x) i).run P w):=by
 have hx:=hR.ev x;simp only[ak]at h;split at h
 .rename_i xs he;rw[he]at hx;obtain⟨cs,hv,hl⟩:=hx.R4;rw[hv];split at h
  .rename_i y hy;obtain⟨v,hv',hr⟩:=hl.get hy;exact aQ.same hI hr h (by simp[Instr.extract,hv'])
  grind
 .rename_i vs he;rw[he]at hx;rw[hx.aC];split at h
  .rename_i y hy;exact aQ.same hI (.v _) h (by simp[Instr.extract,hy])
  grind
 grind
theorem akz{t e:TypeId}{k:TypeInfo}{x i:Operand}(ht:P.underlying t=some (.slice e))(hk:P.info? e=some k)(hI:Inv P M w0 σ w)(hR:bS M rg a)(h:ak P cfg d rg σ K E (.fh k.size x i)):
  aQ P M w0 K ((Instr.indexAt t (a.eval x) (a.eval i)).run P w):=by
 have hx:=hR.ev x;have hi:=hR.ev i;simp only[ak]at h;have run:∀(b o n cap:Nat) (kd:IntKind) (j:Int),0<=j->j<n->(Instr.indexAt t (.slice (some ⟨b,o,none⟩) n cap) (.int kd j)).run P w= .ok (.pointer (some ⟨b,o+j.toNat*k.size,none⟩)) w:=by intro b o n cap kd j h0 h1;simp[Instr.indexAt,aX ht,asIntOf,h0,h1,mh hk,Addr.add_lit]
 split at h
 .rename_i kd j he;rw[he]at hi;rw[hi.aC];split at h
  .rename_i nn ez rows gI;rw[gI]at hx;obtain⟨rfl,h0,h1,h⟩:=h;rcases hx.nT with⟨_,_,rfl,_⟩|⟨b,off,cap,cs,hv,hr,_,_⟩
   .grind
   .rw[hv];exact aQ.same hI (hr.pc j.toNat (by omega)) h (run b off _ cap kd j h0 h1)
  .rename_i ez tg b u c rows gI;rw[gI]at hx;obtain⟨rfl,h0,h1,h⟩:=h;obtain⟨off,cap,cs,hv,hr,_⟩:=hx.pe;rw[hv];exact aQ.same hI (hr.pc j.toNat (by omega)) h (run b off _ cap kd j h0 h1)
  .rename_i tg b o n cap gI;rw[gI]at hx;rw[hx.pd];obtain⟨h0,h1,h⟩:=h;exact aQ.same hI (.lp _ _ _) h (run b o n cap kd j h0 h1)
  grind
 grind
theorem akA{t e:TypeId}{n:Nat}{k:TypeInfo}{x i:Operand}(ht:P.underlying t=some (.array n e))(hk:P.info? e=some k)(hI:Inv P M w0 σ w)(hR:bS M rg a)(h:ak P cfg d rg σ K E (.mV n k.size x i)):
  aQ P M w0 K ((Instr.indexAt t (a.eval x) (a.eval i)).run P w):=by
 have hx:=hR.ev x;have hi:=hR.ev i;simp only[ak]at h;have run:∀(b o:Nat) (kd:IntKind) (j:Int),0<=j->j<n->(Instr.indexAt t (.pointer (some ⟨b,o,none⟩)) (.int kd j)).run P w= .ok (.pointer (some ⟨b,o+j.toNat*k.size,none⟩)) w:=by intro b o kd j h0 h1;simp[Instr.indexAt,aX ht,asIntOf,Instr.sureAddr,h0,h1,mh hk,Addr.add_lit]
 split at h
 .rename_i kd j he;rw[he]at hi;rw[hi.aC];split at h
  .rename_i tg b o gI;rw[gI]at hx;rw[hx.pb];obtain⟨h0,h1,h⟩:=h;exact aQ.same hI (.lp _ _ _) h (run b o kd j h0 h1)
  .rename_i l gI;rw[gI]at hx;obtain⟨h0,h1,h⟩:=h;obtain⟨b,o,cs,hv,h2,h3⟩:=hx.uj;rw[hv];refine aQ.same hI ?_ h (run b o kd j h0 h1);refine .pc _ b _ (fun m=>cs (j.toNat*k.size+m)) (fun m hm=>?_) (fun m hm=>?_)
   .grind
   grind
  .rename_i g o gI;rw[gI]at hx;obtain⟨l,ha,ho,h0,h1,h⟩:=h;subst ho;rw[hx.aC];obtain⟨b,o,cs,hv,h2,h3⟩:=(hI.gl g l ha).uj;cases hv;refine aQ.same hI ?_ h (run _ _ kd j h0 h1);refine .pc _ g _ (fun m=>cs (j.toNat*k.size+m)) (fun m hm=>?_) (fun m hm=>?_)
   .grind
   grind
  grind
 grind
theorem akB{t:TypeId}{x i:Operand}(ht:P.underlying t=some .string)(hI:Inv P M w0 σ w)(hR:bS M rg a)(h:ak P cfg d rg σ K E (.idxs x i)):
  aQ P M w0 K ((Instr.index t (a.eval x) (a.eval i)).run P w):=by
 have hx:=hR.ev x;have hi:=hR.ev i;simp only[ak]at h;split at h
 .rename_i kd j s cJ tR;rw[cJ]at hi;rw[tR]at hx;rw[hi.aC,hx.aC];obtain⟨⟨h0,h1⟩,h⟩:=h;refine aQ.same hI (.v _) h ?_;have:s[j.toNat]? =some (s[j.toNat]'(by omega)):=by grind
  simp[Instr.index,asIntOf,aX ht,h0,this]
 grind
theorem akD{t:TypeId}{x:Operand}{ty:TypeId}(ht:P.underlying t=some .string)(hI:Inv P M w0 σ w)(hR:bS M rg a)(h:ak P cfg d rg σ K E (.len true x)):aQ P M w0 K ((Builtin.len_ #[t] ty #[a.eval x]).run P w):=by
 have hx:=hR.ev x;simp only[ak]at h;split at h
 .rename_i s he;rw[he]at hx;rw[hx.aC];exact aQ.same hI (.v _) h (by simp[Builtin.len_,aX ht,goInt])
 grind
theorem akC{t e:TypeId}{x:Operand}{ty:TypeId}(ht:P.underlying t=some (.slice e))(hI:Inv P M w0 σ w)(hR:bS M rg a)(h:ak P cfg d rg σ K E (.len false x)):aQ P M w0 K ((Builtin.len_ #[t] ty #[a.eval x]).run P w):=by
 have hx:=hR.ev x;simp only[ak]at h;have run:∀b n c,a.eval x= .slice b n c->(Builtin.len_ #[t] ty #[a.eval x]).run P w= .ok (.int .i64 n) w:=by intro b n c e;rw[e];simp[Builtin.len_,aX ht,goInt]
 split at h
 .rename_i b n c he;rw[he]at hx;exact aQ.same hI (.v _) h (run b n c hx.aC)
 .rename_i tg b o n c he;rw[he]at hx;exact aQ.same hI (.v _) h (run _ n c hx.pd)
 .rename_i nn ez rows he;rw[he]at hx;rcases hx.nT with⟨_,_,rfl,hv⟩|⟨b,off,cap,cs,hv,hr,h1,h2⟩
  .exact aQ.same hI (.v _) (h (by simp)) (run _ _ _ hv)
  .exact aQ.same hI (.v _) (h (by omega)) (run _ _ _ hv)
 .rename_i ez tg b u c rows he;rw[he]at hx;obtain⟨off,cap,cs,hv,hr,h1,h2,_⟩:=hx.pe;exact aQ.same hI (.v _) (h (by omega)) (run _ _ _ hv)
 grind
theorem akF{x y:Operand}{ts:Array TypeId}{ty:TypeId}(hI:Inv P M w0 σ w)(hR:bS M rg a)(h:ak P cfg d rg σ K E (.max2 x y)):aQ P M w0 K ((Builtin.max_ ts ty #[a.eval x,a.eval y]).run P w):=by
 have hx:=hR.ev x;have hy:=hR.ev y;simp only[ak]at h;split at h
 .rename_i u v hu hv;rw[hu]at hx;rw[hv]at hy;rw[hx.aC,hy.aC];split at h
  .rename_i r hr;refine aQ.same hI (.v _) h ?_;unfold uc at hr;split at hr
   .split at hr
    .simp at hr;subst hr;simp[Builtin.max_,Builtin.max2]
    grind
   grind
  grind
 grind
theorem akG{x y:Operand}{ts:Array TypeId}{ty:TypeId}(hI:Inv P M w0 σ w)(hR:bS M rg a)(h:ak P cfg d rg σ K E (.min2 x y)):aQ P M w0 K ((Builtin.min_ ts ty #[a.eval x,a.eval y]).run P w):=by
 have hx:=hR.ev x;have hy:=hR.ev y;simp only[ak]at h;split at h
 .rename_i u v hu hv;rw[hu]at hx;rw[hv]at hy;rw[hx.aC,hy.aC];split at h
  .rename_i r hr;refine aQ.same hI (.v _) h ?_;unfold uc at hr;split at hr
   .split at hr
    .simp at hr;subst hr;simp[Builtin.min_,Builtin.min2]
    grind
   grind
  grind
 grind
theorem P2{M:Mem}{rg:ag}{a:Act}(hR:bS M rg a){o:Option Operand}{r:Option Int}(h:iS (o.map (ev rg))=some r):(o=none/\r=none)\/∃k i,o.map a.eval=some (.int k i)/\r=some i:=by
 cases o with
 |none=>simp[iS]at h;grind|some x=>
  have hx:=hR.ev x;simp at h;unfold iS at h;split at h
  .grind
  .rename_i k i e;simp at e h;rw[e]at hx;exact .inr ⟨k,i,by simp[hx.aC],h.symm⟩
  grind
theorem ajr{cw DO:Option Int}{LA Ly:Option Value}(h1:(LA=none/\cw=none)\/∃k i,LA=some (.int k i)/\cw=some i)(h2:(Ly=none/\DO=none)\/∃k i,Ly=some (.int k i)/\DO=some i)
  (n c:Nat) (a1:0<=cw.getD 0) (a2:cw.getD 0<=DO.getD n) (a3:DO.getD n<=c):
  (Instr.sliceBounds true n c LA Ly none).run P w= .ok ((cw.getD 0).toNat,(DO.getD n).toNat,c) w:=by
 have sb:∀(k:IntKind) (i:Int) (y:Nat) (code:BoundsCode),0<=i->i<=y->(Instr.sliceBound (.int k i) y code).run P w= .ok i.toNat w:=by intro k i y code h0 h1;simp[Instr.sliceBound,asIntOf,h0,h1]
 rcases h1 with⟨rfl,rfl⟩|⟨k,i,rfl,rfl⟩<;>rcases h2 with⟨rfl,rfl⟩|⟨k',i',rfl,rfl⟩<;>simp only[Xq,Zm]at a1 a2 a3|-
 .rfl
 .simp[Instr.sliceBounds,sb k' i' c _ (by omega) (by omega)]
 .simp[Instr.sliceBounds,sb k i n _ (by omega) (by omega)]
 .simp[Instr.sliceBounds,sb k' i' c _ (by omega) (by omega),sb k i i'.toNat _ (by omega) (by omega)]
theorem akJ{t e:TypeId}{k:TypeInfo}{x:Operand}{lo hi:Option Operand}(ht:P.underlying t=some (.slice e))(hk:P.info? e=some k)(hI:Inv P M w0 σ w)(hR:bS M rg a)(h:ak P cfg d rg σ K E (.slice k.size x lo hi)):
  aQ P M w0 K ((Instr.sliceAt t (a.eval x) (lo.map a.eval) (hi.map a.eval) none).run P w):=by
 have hx:=hR.ev x;simp only[ak]at h;split at h
 .rename_i cw DO AA Aq;have h1:(lo.map a.eval=none/\cw=none)\/∃k i,lo.map a.eval=some (.int k i)/\cw=some i:=by
   rcases P2 hR AA with⟨rfl,rfl⟩|h
   .grind
   grind
  have h2:(hi.map a.eval=none/\DO=none)\/∃k i,hi.map a.eval=some (.int k i)/\DO=some i:=by
   rcases P2 hR Aq with⟨rfl,rfl⟩|h
   .grind
   grind
  have run:∀(base:Option Addr) (n c:Nat),0<=cw.getD 0->cw.getD 0<=DO.getD n->DO.getD n<=c->
    (Instr.sliceAt t (.slice base n c) (lo.map a.eval) (hi.map a.eval) none).run P w=
     .ok (.slice (if c=(cw.getD 0).toNat then base else base.map (·.add ((cw.getD 0).toNat*k.size))) ((DO.getD n).toNat-(cw.getD 0).toNat) (c-(cw.getD 0).toNat)) w:=by
   intro base n c a1 a2 a3;simp[Instr.sliceAt,aX ht,Instr.slice,ajr h1 h2 n c a1 a2 a3,mh hk]
  split at h
  .rename_i nn ez rows gI;rw[gI]at hx;obtain⟨rfl,a1,a2,a3,h⟩:=h;rcases hx.nT with⟨ba,hba,rfl,hv⟩|⟨b,off,cap,cs,hv,hr,h4,h5⟩
   .rw[hv];simp only[ZP,Int.natCast_zero]at a1 a2 a3 h;have e1:(cw.getD 0).toNat=0:=by omega
    have e2:(DO.getD 0).toNat=0:=by omega
    refine aQ.same hI (v:=.slice ba 0 0) ?_ h ?_
    .simp;exact .nil _ _ _ hba
    .rw[run ba 0 0 a1 a2 a3];simp[e1];simpa using e2
   .rw[hv];have hl:=hr.sub (cw.getD 0).toNat (DO.getD rows.length).toNat (by omega) (by omega);have hlen:((rows.take (DO.getD rows.length).toNat).drop (cw.getD 0).toNat).length=(DO.getD rows.length).toNat-(cw.getD 0).toNat:=by simp;omega
    by_cases hc:cap=(cw.getD 0).toNat
    .refine aQ.same hI (v:=.slice (some ⟨b,off,none⟩) ((DO.getD rows.length).toNat-(cw.getD 0).toNat) (cap-(cw.getD 0).toNat)) ?_ h ?_
     .have hz:(rows.take (DO.getD rows.length).toNat).drop (cw.getD 0).toNat=[]:=by apply Zt;rw[hlen];omega
      have qk:(DO.getD rows.length).toNat-(cw.getD 0).toNat=0:=by rw[<-hlen,hz];rfl
      rw[hz,qk];exact R.nP (rows:=[]) (cs:=cs) ⟨fun i hi=>absurd hi (by simp),fun k hk=>absurd hk (by simp),fun i hi=>absurd hi (by simp)⟩ (Z4 _) (by omega) nn
     .rw[run _ _ _ a1 a2 (by omega),Z3 hc]
    .refine aQ.same hI (v:=.slice (some ⟨b,off+(cw.getD 0).toNat*k.size,none⟩) ((DO.getD rows.length).toNat-(cw.getD 0).toNat) (cap-(cw.getD 0).toNat)) ?_ h ?_
     .have:=R.nP hl (cap:=cap-(cw.getD 0).toNat) (by rw[hlen];omega) (by omega) nn;rw[hlen]at this;exact this
     .rw[run _ _ _ a1 a2 (by omega),Z9 hc];simp[Addr.add_lit]
  .rename_i ez tg b u c rows gI;rw[gI]at hx;obtain⟨rfl,a1,a2,a3,h⟩:=h;obtain⟨off,cap,cs,hv,hr,h4,h5,h6,h8⟩:=hx.pe;rw[hv];have hl:=hr.sub (cw.getD 0).toNat (DO.getD rows.length).toNat (by omega) (by omega);have hlen:((rows.take (DO.getD rows.length).toNat).drop (cw.getD 0).toNat).length=(DO.getD rows.length).toNat-(cw.getD 0).toNat:=by simp;omega
   have amU:(cw.getD 0).toNat<=rows.length:=by omega
   by_cases hc:cap=(cw.getD 0).toNat
   .refine aQ.same hI (v:=.slice (some ⟨b,off,none⟩) ((DO.getD rows.length).toNat-(cw.getD 0).toNat) (cap-(cw.getD 0).toNat)) ?_ h ?_
    .have hz:(rows.take (DO.getD rows.length).toNat).drop (cw.getD 0).toNat=[]:=by apply Zt;rw[hlen];omega
     have qk:(DO.getD rows.length).toNat-(cw.getD 0).toNat=0:=by rw[<-hlen,hz];rfl
     have Jw:=R.nP (M:=M) (b:=b) (off:=off) (ah:=k.size) (cs:=cs) (cap:=cap-(cw.getD 0).toNat) (rows:=[]) ⟨fun i hi=>absurd hi (by simp),fun k hk=>absurd hk (by simp),fun i hi=>absurd hi (by simp)⟩ (Z4 _) (by omega) true;cases AO:DO with
     |none=>
      simp only[AO,Option.isNone_none,YK,Xq]at qk|-;have gV:rows.drop (cw.getD 0).toNat=[]:=by apply Zt;simp;omega
      rw[gV,qk];exact R.rN (M:=M) (b:=b) (off:=off) (ah:=k.size) (cs:=cs) (rows:=[]) ⟨fun i hi=>absurd hi (by simp),fun k hk=>absurd hk (by simp),fun i hi=>absurd hi (by simp)⟩ (Z4 _) (by omega) (.inl (by omega)) h8
     |some j=>simp only[AO,Option.isNone_some,ZT,YU,Zm]at hz qk|-;rw[hz,qk];exact Jw
    .rw[run _ _ _ a1 a2 (by omega),Z3 hc]
   .refine aQ.same hI (v:=.slice (some ⟨b,off+(cw.getD 0).toNat*k.size,none⟩) ((DO.getD rows.length).toNat-(cw.getD 0).toNat) (cap-(cw.getD 0).toNat)) ?_ h ?_
    .cases AO:DO with
     |none=>
      simp only[AO,Option.isNone_none,YK,Xq,Yk,Yb]at hl hlen|-;have e1:(rows.length-(cw.getD 0).toNat)*k.size+(cw.getD 0).toNat*k.size=rows.length*k.size:=by rw[<-YG];congr 1;omega
      have e2:(cap-(cw.getD 0).toNat)*k.size+(cw.getD 0).toNat*k.size=cap*k.size:=by rw[<-YG];congr 1;omega
      have:=R.rN (t:=tg) (u:=u) (c:=c) hl (cap:=cap-(cw.getD 0).toNat) (by rw[hlen];omega) (by omega) (by rcases h6 with h6|h6;exact .inl (by omega);exact .inr ⟨by rw[hlen];omega,by omega⟩) h8;rw[hlen]at this;exact this
     |some j=>simp only[AO,Option.isNone_some,ZT,YU,Zm]at hl hlen a2 a3|-;have:=R.nP hl (cap:=cap-(cw.getD 0).toNat) (by rw[hlen];omega) (by omega) true;rw[hlen]at this;exact this
    .rw[run _ _ _ a1 a2 (by omega),Z9 hc];simp[Addr.add_lit]
  .rename_i gI;rw[gI]at hx;rw[hx.aC];obtain⟨a1,a2,h⟩:=h;refine aQ.same hI (.v _) h ?_;rw[run none 0 0 (by omega) (by simp;omega) (by simp;omega)];simp[a1,a2]
  grind
 grind
end
section
variable {P:Program}[Glob P]{M:Mem}{w0:Base}{w:World}{σ:Store}{K:AV->Store->Prop}{rg:ag}{a:Act}{cfg:Nat->Nat}{d:Option Nat}{E:List PanicEntry->Store->Prop}
theorem EX{ah:Nat}{x:AV}{v:Value}{rows:List (List AV)}(hI:Inv P M w0 σ w)(hx:R M x v)(h:dH ah x=some rows)(rB:¬∃s,x= .v (.string s)):
  ∃(base:Option Addr) (cap:Nat) (L:List Value),v= .slice base rows.length cap/\RL M rows.flatten L/\(∀i (h:i<rows.length),rows[i].length=ah)/\
   (Builtin.firstCells ah rows.length v).run P w= .ok L.toArray w:=by
 have go:∀b off cap (cs:Nat->Value),Rows M b off ah rows cs->∃L:List Value,RL M rows.flatten L/\(Builtin.firstCells ah rows.length (.slice (some ⟨b,off,none⟩) rows.length cap)).run P w= .ok L.toArray w:=by intro b off cap cs hr;refine⟨_,hr.flat,?_⟩;refine E0 b off _ _ (by simp) (fun i hi=>?_);simp at hi;have:=hI.bZ _ _ _ (hr.mem i hi);grind
 unfold dH at h;split at h
 .split at h
  .rename_i e';subst e';simp at h;subst h;rcases hx.nT with⟨ba,_,rfl,hv⟩|⟨b,off,cap,cs,hv,hr,h1,h2⟩
   .subst hv;exact⟨ba,0,[],rfl,RL.nil,fun i hi=>absurd hi (by simp),by cases ba<;>simp[Builtin.firstCells,loadCells,loadCellsFrom]⟩
   .obtain⟨L,hL,cY⟩:=go b off cap cs hr;exact⟨_,cap,L,hv,hL,hr.size,by grind⟩
  grind
 .rename_i e tg b u c rows';split at h
  .rename_i e';subst e';simp at h;subst h;obtain⟨off,cap,cs,hv,hr,_⟩:=hx.pe;obtain⟨L,hL,cY⟩:=go b off cap cs hr;exact⟨_,cap,L,hv,hL,hr.size,by grind⟩
  grind
 .simp at h;subst h;rw[hx.aC];exact⟨none,0,[],rfl,RL.nil,fun i hi=>absurd hi (by simp),by rfl⟩
 .grind
 grind
theorem yD{ah:Nat}{x:AV}{v:Value}{rows:List (List AV)}(hI:Inv P M w0 σ w)(hx:R M x v)(h:dH ah x=some rows):
  ∃L:List Value,(∀w':World,(Builtin.lenOf v).run P w'= .ok rows.length w')/\RL M rows.flatten L/\(∀i (h:i<rows.length),rows[i].length=ah)/\
   (Builtin.firstCells ah rows.length v).run P w= .ok L.toArray w:=by
 by_cases hs:∃s,x= .v (.string s)
 .obtain⟨s,rfl⟩:=hs;simp only[dH]at h;split at h
  case isFalse=>cases h
  rename_i e1;subst e1;cases h;rw[hx.aC];refine⟨s.data.toList.map fun b=>.int .u8 b.toNat,fun w'=>by simp;rfl,?_,fun i hi=>by simp[dB],?_⟩
  .have:∀l:List UInt8,RL M (l.map dB).flatten (l.map fun b=>Value.int .u8 b.toNat):=by
    intro l
    induction l with
    |nil=>exact RL.nil|cons b l ih=>exact RL.cons (.v _) ih
   grind
  .simp only[Builtin.firstCells,Z5,Sem.run_pure]
   congr 1
   apply Ym;simp_all
 .obtain⟨base,cap,L,hv,h1,h2,h3⟩:=EX (P:=P) (rows:=rows) hI hx h hs;exact⟨L,fun w'=>by rw[hv];rfl,h1,h2,h3⟩
def Mem.ext(M:Mem)(B u:Nat)(vs:List Value):Mem:=fun b o=>if b=B/\u<=o/\o<u+vs.length then vs[o-u]? else M b o
theorem Inv.Ho{tg b u c:Nat}(hI:Inv P M w0 σ w)(hb:aV σ tg=some (b,.tail u c))(vs:List Value):M.le (M.ext b u vs):=fun b' o v h=>by
 obtain⟨_,hM,_⟩:=hI.st _ (ua hb);have:¬(b'=b/\u<=o/\o<u+vs.length):=fun⟨e,h1,_⟩=>by grind
 simp[Mem.ext,this,h]
theorem Inv.alG{tg b u c:Nat}(hI:Inv P M w0 σ w)(hb:aV σ tg=some (b,.tail u c))(vs:List Value)(hc:u+vs.length<=c)(h1:vs.all Value.oneCell'=true):
  ∃w',(storeCells ⟨b,u,none⟩ vs).run P w= .ok () w'/\Inv P (M.ext b u vs) w0 (du σ tg b (.tail (u+vs.length) c)) w':=by
 obtain⟨hold,hM,cs,t,hh,bl,_⟩:=hI.st _ (ua hb);simp only at hold hM hh bl;obtain⟨w',hr,qj,hk,e1,e2,e3,e4⟩:=KP (P:=P) b u t vs cs 0 w hh (by omega) h1;have hle:=hI.Ho hb vs;obtain⟨pre,post,kS,fy⟩:=wO hb;have BE:=hI.nd;rw[kS]at BE;simp only[Zl,Zz]at BE;refine⟨w',hr,e1.trans hI.os,e2.trans hI.tape,e3.trans hI.output,by grind,fun k cN=>?_,fun b' o v hv=>?_,fun e he=>?_,?_,fun g l e=>(hI.gl g l e).mono (hI.Ho hb vs),hI.gw,fun b' o v hv az=>hI.bm b' o v (by simp only[Mem.ext]at hv;grind) az⟩
 .rw[hk k (by omega)];exact hI.old k cN
 .simp only[Mem.ext]at hv;split at hv
  .rename_i gG;obtain⟨rfl,h2,h3⟩:=gG;simp only[World.cell?,qj,Xk,ZT,YU,over,Yr];grind
  .by_cases e:b'=b
   .subst e;rename_i gG;have hu:o<u:=by
     rcases YN o u with h|h
     .exact h
     .rw[hM o h]at hv;cases hv
    have:=hI.bZ b' o v hv;simp only[World.cell?,hh,Xk,ZT,YU]at this;simp only[World.cell?,qj,Xk,ZT,YU,over,Yr];simp only[XA,Zq];rw[YR (by simp;omega),YV,Z3 hu];simpa using this
   .have:=hI.bZ b' o v hv;rw[<-this];simp only[World.cell?,hk b' e]
 .rw[fy]at he;have fx:e=(tg,b,.tail (u+vs.length) c)\/(e∈σ/\e.2.1≠b):=by
   rw[Xz]at BE;rcases ZI.1 he with he|he
   .refine .inr ⟨by rw[kS];exact Zy _ he,fun eb=>?_⟩;exact BE.2.2 e.2.1 (Ye he) b ZK eb
   .rcases ZR.1 he with rfl|he
    .exact .inl rfl
    .refine .inr ⟨by rw[kS];exact Y3 _ (ZN _ he),fun eb=>?_⟩;have:=(YQ.1 BE.2.1).1;exact this (by rw[<-eb];exact Ye (f:=fun e:Nat×Nat×aE=>e.2.1) he)
  rcases fx with rfl|⟨he,aW⟩
  .refine⟨hold,fun o ho=>?_,_,t,qj,?_,hc⟩
   .simp[Mem.ext];rw[Z9 (by omega)];exact hM o (by omega)
   .simp[over];omega
  .refine⟨(hI.st e he).1,?_⟩;have jG:=(hI.st e he).2;obtain⟨tg',b',x⟩:=e;simp only at aW jG|-;cases x with
   |cells l=>obtain⟨a1,cs',t',a2,a3⟩:=jG;exact⟨fun o=>by simp[Mem.ext,aW,a1 o],cs',t',(hk b' aW).trans a2,a3.mono hle⟩
   |tail u' c'=>obtain⟨a1,cs',t',a2,a3⟩:=jG;exact⟨fun o ho=>by simp[Mem.ext,aW,a1 o ho],cs',t',(hk b' aW).trans a2,a3⟩
   |map es k=>obtain⟨a1,l,a2,a3,a4⟩:=jG;exact⟨fun o=>by simp[Mem.ext,aW,a1 o],l,(hk b' aW).trans a2,a3,a4.mono hle⟩
 grind
theorem Inv.ahO{tg b:Nat}{x:aE}(hI:Inv P M w0 σ w)(hb:aV σ tg=some (b,x))(u:Nat)(cs:List Value)(t:TypeId)(hu:u<=cs.length):
  Inv P (M.add w.heap.size u cs) w0 (du σ tg w.heap.size (.tail u cs.length)) (w.alloc (.cells cs.toArray t)):=by
 have h':=hI.Cr u cs t hu tg;obtain⟨pre,post,kS,fy⟩:=wO hb;refine⟨h'.os,h'.tape,h'.output,h'.size,h'.old,h'.bZ,fun e he=>?_,?_,h'.gl,h'.gw,h'.bm⟩
 .refine h'.st e ?_;grind
 .have BE:=hI.nd;have hf:=hI.fresh;rw[kS]at BE hf;rw[fy];simp only[Zl,Zz]at BE hf|-;grind
theorem Oz(n:Nat):∀(r c:Nat),c<n->256<=c->Builtin.growBy n r c<=2*n
 |0,c,h,_=>by simp[Builtin.growBy];omega|r+1,c,h,h2=>by
  simp only[Builtin.growBy];rw[Z9 (by omega)];by_cases h3:c+(c+768) / 4<n
  .exact Oz n r _ h3 (by omega)
  .cases r with
   |zero=>simp[Builtin.growBy];omega|succ r=>simp only[Builtin.growBy];grind
theorem ah8(n c:Nat)(h:c<n):Builtin.nextslicecap n c<=2*n:=by
 unfold Builtin.nextslicecap;split
 .omega
 .split
  .omega
  .exact Oz n 4 c h (by omega)
theorem amt{rows rows':List (List AV)}{ah:Nat}(h:∀i (h:i<rows.length),rows[i].length=ah)(h':∀i (h:i<rows'.length),rows'[i].length=ah):
  ∀i (h:i<(rows++rows').length),(rows++rows')[i].length=ah:=by
 grind
theorem Rows.join{b off ah:Nat}{rows rows':List (List AV)}{L L':List Value}{M':Mem}(h:∀i (h:i<rows.length),rows[i].length=ah)(h':∀i (h:i<rows'.length),rows'[i].length=ah)
  (hL:RL M' rows.flatten L) (gE:RL M' rows'.flatten L') (hM:∀k v,(L++L')[k]? =some v->M' b (off+k)=some v):∃cs,Rows M' b off ah (rows++rows') cs:=
 ⟨_,Rows.of_flat (amt h h') (by rw[List.flatten_append];exact RL.append hL gE) hM⟩
theorem KM{t e u ty:TypeId}{i:TypeInfo}{z:Value}{s x:Value}{base:Option Addr}{n c n':Nat}{L L':List Value}(ht:P.underlying t=some (.slice e))(hu:(∃e',P.underlying u=some (.slice e'))\/P.underlying u=some .string)(hi:P.info? e=some i)(hz:i.zero=some z)(hb:0<i.bytes)
  (hs:s= .slice base n c) (hx:∀w':World,(Builtin.lenOf x).run P w'= .ok n' w') (az:c<n+n') (nF:(n+n')*i.bytes<=35184372088832)
  (h1:(Builtin.firstCells i.size n s).run P w.drew= .ok L.toArray w.drew) (h2:(Builtin.firstCells i.size n' x).run P w.drew= .ok L'.toArray w.drew):
  ∃(cap:Nat) (rest:List Value),n+n'<=cap/\cap<=maxLen/\rest.length=(cap-(n+n'))*z.cells.size/\
   (Builtin.append_ #[t,u] ty #[s,x]).run P w= .ok (.slice (some ⟨w.heap.size,0,none⟩) (n+n') cap) (w.drew.alloc (.cells (L++L'++rest).toArray e)):=by
 subst hs;have ad5:=ah8 (n+n') c az;have qc:Builtin.nextslicecap (n+n') c*i.bytes<=281474976710656:=by have:=Y4 i.bytes ad5;grind
 have rA:n+n'<=35184372088832:=ZD (Nat.le_mul_of_pos_right _ hb) nF;have tB:(Question.appendCap (n+n') c e).cut (w.tape w.drawn (.appendCap (n+n') c e))=n+n'+(w.tape w.drawn (.appendCap (n+n') c e))%(2^63-(n+n')):=rfl;have ad3:(w.tape w.drawn (.appendCap (n+n') c e))%(2^63-(n+n'))<2^63-(n+n'):=Nat.mod_lt _ (by omega);refine⟨(Question.appendCap (n+n') c e).cut (w.tape w.drawn (.appendCap (n+n') c e)),(Builtin.zeroCells z.cells ((Question.appendCap (n+n') c e).cut (w.tape w.drawn (.appendCap (n+n') c e))-(n+n'))).toList,?_,?_,?_,?_⟩
 .grind
 .rw[tB];unfold maxLen;omega
 .simp[Builtin.zeroCells]
 .have hgo:¬n+n'<=c:=by omega
  have adD:¬Builtin.nextslicecap (n+n') c*i.bytes>281474976710656:=by omega
  have vw:i.bytes≠0:=by omega
  rcases hu with⟨e',hu⟩|hu;all_goals(simp[Builtin.append_,aX ht,aX hu,mh hi,hx,hgo,KO hi,vw,adD,Question.forced,h1,h2,E1 hi hz,newRow])
  all_goals congr 2
  all_goals grind
  all_goals simp
theorem Inv.ft(hI:Inv P M w0 σ w):Inv P M w0 σ w.drew:=⟨hI.os,hI.tape,hI.output,hI.size,hI.old,hI.bZ,hI.st,hI.nd,hI.gl,hI.gw,hI.bm⟩
theorem ajm{rows:List (List AV)}(h:rows.all (fun r=>r.all AV.one)=true):rows.flatten.all AV.one=true:=by grind
theorem Tc{t e u ty:TypeId}{i:TypeInfo}{z:Value}{x y:Operand}(ht:P.underlying t=some (.slice e))(hu:(∃e',P.underlying u=some (.slice e'))\/P.underlying u=some .string)(hi:P.info? e=some i)(hz:i.zero=some z)(hp:0<i.size)(hb:0<i.bytes)(AZ:z.cells.size=i.size)
  (hI:Inv P M w0 σ w) (hR:bS M rg a) (h:ak P cfg d rg σ K E (.append e i.size i.bytes z.cells.toList x y)):aQ P M w0 K ((Builtin.append_ #[t,u] ty #[a.eval x,a.eval y]).run P w):=by
 have hx:=hR.ev x;have hy:=hR.ev y;simp only[ak]at h;split at h
 .rename_i rows' gI tT;rw[gI]at hx;obtain⟨L',iw,gE,tO,tL⟩:=yD (P:=P) hI.ft hy tT;obtain⟨nF,iQ,Aj⟩:=h;rw[hx.aC];by_cases ew:rows'=[]
  .subst ew;refine aQ.same hI (.v _) (iQ rfl) ?_;obtain⟨L2,vX,vm,AU,vS⟩:=yD (P:=P) hI hy tT;have xI:L2=[]:=by have:=vm.1;simp at this;exact Zt this.symm
   subst xI;simp only[ZP]at vS vX;rcases hu with⟨e',hu⟩|hu
   all_goals simp[Builtin.append_,aX ht,aX hu,mh hi,vX,vS]
  .have vQ:0<rows'.length:=X4.2 ew;obtain⟨cap,rest,bC,bO,j7,cY⟩:=KM (P:=P) (ty:=ty) (s:=.slice none 0 0) (x:=a.eval y) (L:=[]) (L':=L') (n:=0) (c:=0) (n':=rows'.length) ht hu hi hz hb rfl iw (by omega) (by simpa using nF) (by simp[Builtin.firstCells]) tL;rw[cY];simp only[ZH,Zf]at bC|-;have hlen:L'.length=rows'.length*i.size:=by rw[<-gE.1,nD _ tO]
   refine⟨_,_,M.add w.drew.heap.size L'.length (L'++rest),_,_,rfl,hI.ft.nN _ _,hI.ft.Cr _ _ e (by simp) _,?_,Aj ew _ L'.length _ hlen⟩
   have hr:Rows (M.add w.drew.heap.size L'.length (L'++rest)) w.drew.heap.size 0 i.size rows' (fun k=>L'.getD k undef):=
    Rows.of_flat tO (gE.mono (hI.ft.nN _ _)) (fun k v hk=>by
     have cN:k<L'.length:=(ZG.1 hk).1;have:M.add w.drew.heap.size L'.length (L'++rest) w.drew.heap.size (0+k)=(L'++rest)[k]? :=by simp[Mem.add,cN]
     rw[this,YR cN,hk])
   have fS:(L'++rest).length=cap*i.size:=by rw[Z7,j7,hlen,AZ,ZH,<-YG];congr 1;omega
   exact R.rN hr bC bO (.inr ⟨by omega,by omega⟩) hp
 .rename_i ez tg b u' c rows rows' gI tT;rw[gI]at hx;obtain⟨rfl,Dz,nF,vO,h⟩:=h;obtain⟨off,cap,cs,hv,hr,h4,h5,h6,h8⟩:=hx.pe;obtain⟨aav,aaQ,L,jf,hL,bl,Jr⟩:=EX (P:=P) (rows:=rows) (ah:=i.size) hI.ft hx (by simp[dH]) (fun⟨s,h⟩=>by cases h);obtain⟨L',iw,gE,tO,tL⟩:=yD (P:=P) hI.ft hy tT;have hlen:L.length=rows.length*i.size:=by rw[<-hL.1,nD _ bl]
  have tH:L'.length=rows'.length*i.size:=by rw[<-gE.1,nD _ tO]
  by_cases IY:rows.length+rows'.length<=cap
  ·
   obtain⟨L2,vX,vm,AU,vS⟩:=yD (P:=P) hI hy tT;have qb:L2.length=rows'.length*i.size:=by rw[<-vm.1,nD _ AU]
   have bW:L2.all Value.oneCell'=true:=vm.ov (ajm vO);have PO:∀w',(storeCells ⟨b,off+rows.length*i.size,none⟩ L2).run P w= .ok () w'->(Builtin.append_ #[t,u] ty #[a.eval x,a.eval y]).run P w= .ok (.slice (some ⟨b,off,none⟩) (rows.length+rows'.length) cap) w':=by
    intro w' hs;rw[hv]at*;rcases hu with⟨e',hu⟩|hu
    all_goals simp[Builtin.append_,aX ht,aX hu,mh hi,vX,IY,vS,Addr.add_lit,hs]
   rcases h6 with h6|⟨h6,h7⟩
   .have e1:rows=[]:=Zt (by omega);have e2:rows'=[]:=Zt (by omega);subst e1 e2;have e3:L2=[]:=Zt (by simpa using qb);subst e3;refine⟨_,w,M,_,_,PO w rfl,Mem.le.refl _,?_,?_,h b u' c (fun e=>by simpa using e)⟩
    .obtain⟨pre,post,kS,fy⟩:=wO Dz;rw[fy,<-kS];exact hI
    .exact R.rN (rows:=[]++[]) (cs:=cs) ⟨fun i hi=>absurd hi (by simp),fun k hk=>absurd hk (by simp),fun i hi=>absurd hi (by simp)⟩ (by simp) h5 (.inl h6) h8
   .have tB:(rows.length+rows'.length)*i.size<=cap*i.size:=Y4 _ IY;rw[YG]at tB;obtain⟨w',hs,bg⟩:=Inv.alG (P:=P) hI Dz L2 (by omega) bW;rw[<-h6]at hs;have hle:=hI.Ho Dz L2;refine⟨_,w',_,_,_,PO w' hs,hle,bg,?_,h b (u'+L2.length) c (fun e=>by rw[e,qb,YG])⟩;obtain⟨L0,xI,hLm⟩:∃L0:List Value,RL M rows.flatten L0/\∀k v,L0[k]? =some v->M b (off+k)=some v:=⟨_,hr.flat,fun k v hk=>by
     obtain⟨kN,fO⟩:=ZG.1 hk;simp at kN fO;rw[<-fO]
     exact hr.mem k kN⟩
    have amT:L0.length=rows.length*i.size:=by rw[<-xI.1,nD _ bl]
    obtain⟨xj,hj⟩:=Rows.join (M':=M.ext b u' L2) (b:=b) (off:=off) bl AU (xI.mono hle) (vm.mono hle) (fun k v hk=>by
     by_cases az:k<L0.length
     .rw[YR az]at hk;exact hle _ _ _ (hLm k v hk)
     .rw[X1 (by omega)]at hk;have cN:=(ZG.1 hk).1;simp only[Mem.ext];rw[Z3 ⟨trivial,by omega,by omega⟩,<-hk]
      congr 1
      omega)
    have:=R.rN (t:=tg) (u:=u'+L2.length) (c:=c) hj (cap:=cap) (by simpa using IY) h5 (.inr ⟨by rw[Z7,YG];omega,h7⟩) h8;rw[Z7]at this;exact this
  .obtain⟨xh,rest,bC,bO,j7,cY⟩:=KM (P:=P) (ty:=ty) (s:=a.eval x) (x:=a.eval y) (L:=L) (L':=L') (n:=rows.length) (c:=cap) (n':=rows'.length) ht hu hi hz hb hv iw (by omega) nF Jr tL;rw[cY];have pX:=hI.ft;have hle:=pX.nN (L++L').length (L++L'++rest);refine⟨_,_,M.add w.drew.heap.size (L++L').length (L++L'++rest),_,_,rfl,hle,pX.ahO Dz _ _ e (by simp),?_,h _ (L++L').length _ (fun _=>by rw[Z7,hlen,tH,YG])⟩;obtain⟨xj,hj⟩:=Rows.join (M':=M.add w.drew.heap.size (L++L').length (L++L'++rest)) (b:=w.drew.heap.size) (off:=0) bl tO (hL.mono hle) (gE.mono hle) (fun k v hk=>by
    have cN:k<(L++L').length:=(ZG.1 hk).1;have:M.add w.drew.heap.size (L++L').length (L++L'++rest) w.drew.heap.size (0+k)=(L++L'++rest)[k]? :=by unfold Mem.add;rw[Z3 rfl,Z3 (by omega),ZH]
    rw[this,YR cN,hk])
   have fS:(L++L'++rest).length=xh*i.size:=by rw[Z7,Z7,j7,hlen,tH,AZ,<-YG,<-YG];congr 1;omega
   have rz:(L++L').length=(rows++rows').length*i.size:=by rw[Z7,hlen,tH,Z7,YG]
   have:=R.rN (t:=tg) (u:=(L++L').length) (c:=(L++L'++rest).length) hj (cap:=xh) (by simpa using bC) bO (.inr ⟨by omega,by omega⟩) hp;rw[Z7 (as:=rows)]at this;exact this
 .rename_i ez rows rows' gI tT;rw[gI]at hx;obtain⟨rfl,nF,iQ,h⟩:=h;obtain⟨b0,off,cs,hv,hr,h5⟩:=hx.R0;by_cases aW:rows'=[]
  .subst aW;refine aQ.same hI hx (iQ rfl) ?_;obtain⟨L2,vX,vm,AU,vS⟩:=yD (P:=P) hI hy tT;have xI:L2=[]:=by have:=vm.1;simp at this;exact Zt this.symm
   subst xI;simp only[ZP]at vS vX;rw[hv];rcases hu with⟨e',hu⟩|hu
   all_goals simp[Builtin.append_,aX ht,aX hu,mh hi,vX,vS,Addr.add_lit,storeCells]
  have h:=h aW;have vQ:0<rows'.length:=X4.2 aW;obtain⟨aav,aaQ,L,jf,hL,bl,Jr⟩:=EX (P:=P) (rows:=rows) (ah:=i.size) hI.ft (hx.HT true) (by simp[dH]) (fun⟨s,h⟩=>by cases h);obtain⟨L',iw,gE,tO,tL⟩:=yD (P:=P) hI.ft hy tT;have hlen:L.length=rows.length*i.size:=by rw[<-hL.1,nD _ bl]
  have tH:L'.length=rows'.length*i.size:=by rw[<-gE.1,nD _ tO]
  obtain⟨xh,rest,bC,bO,j7,cY⟩:=KM (P:=P) (ty:=ty) (s:=a.eval x) (x:=a.eval y) (L:=L) (L':=L') (n:=rows.length) (c:=rows.length) (n':=rows'.length) ht hu hi hz hb hv iw (by omega) nF Jr tL;rw[cY];have pX:=hI.ft;have hle:=pX.nN (L++L').length (L++L'++rest);refine⟨_,_,M.add w.drew.heap.size (L++L').length (L++L'++rest),_,_,rfl,hle,pX.Cr _ _ e (by simp) _,?_,h _ _ _⟩;obtain⟨xj,hj⟩:=Rows.join (M':=M.add w.drew.heap.size (L++L').length (L++L'++rest)) (b:=w.drew.heap.size) (off:=0) bl tO (hL.mono hle) (gE.mono hle) (fun k v hk=>by
   have cN:k<(L++L').length:=(ZG.1 hk).1;have:M.add w.drew.heap.size (L++L').length (L++L'++rest) w.drew.heap.size (0+k)=(L++L'++rest)[k]? :=by unfold Mem.add;rw[Z3 rfl,Z3 (by omega),ZH]
   rw[this,YR cN,hk])
  have fS:(L++L'++rest).length=xh*i.size:=by rw[Z7,Z7,j7,hlen,tH,AZ,<-YG,<-YG];congr 1;omega
  have rz:(L++L').length=(rows++rows').length*i.size:=by rw[Z7,hlen,tH,Z7,YG]
  have:=R.rN (t:=d.getD 0) (u:=(L++L').length) (c:=(L++L'++rest).length) hj (cap:=xh) (by simpa using bC) bO (.inr ⟨by omega,by omega⟩) hp;rw[Z7 (as:=rows)]at this;exact this
 .exact h.elim
