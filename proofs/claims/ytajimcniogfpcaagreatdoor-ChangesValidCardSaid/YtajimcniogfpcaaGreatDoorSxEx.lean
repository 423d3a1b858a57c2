/-
  The layer Sx, an executor: compiled code run on concrete values. The block of a pointer holds a stamp.
-/
import Derived.Test.YtajimcniogfpcaaGreatDoorSxSt
set_option linter.unusedVariables false
namespace Go.Sx
open Go.RowKit
def fN{α:Type}(n:Nat)(k:Nat→α):α:=match n with
 |0=>k 0
 |m+1=>k (m+1)
def fI{α:Type}(i:Int)(k:Int→α):α:=match i with
 | .ofNat n=>fN n fun n=>k (.ofNat n)
 | .negSucc n=>fN n fun n=>k (.negSucc n)
def fB{α:Type}(b:Bool)(k:Bool→α):α:=match b with
 |true=>k true
 |false=>k false
def fV{α:Type}(x:Value)(k:Value→α):α:=match x with
 | .int t i=>fI i fun i=>k (.int t i)
 | .bool b=>fB b fun b=>k (.bool b)
 |x=>k x
def xJ:List UInt8→List UInt8→Bool
 |[],[]=>true
 |a::x,b::y=>Nat.beq a.toNat b.toNat && xJ x y
 |_,_=>false
def vI(a b:ByteArray):Bool:=xJ a.data.toList b.data.toList
def Mw(a b:ByteArray):ByteArray:=⟨(a.data.toList++b.data.toList).toArray⟩
def po:Int→Int→Bool
 | .ofNat a,.ofNat b=>Nat.blt a b
 | .negSucc _,.ofNat _=>true
 | .ofNat _,.negSucc _=>false
 | .negSucc a,.negSucc b=>Nat.blt b a
def pn:Int→Int→Bool
 | .ofNat a,.ofNat b=>Nat.beq a b
 | .negSucc a,.negSucc b=>Nat.beq a b
 |_,_=>false
def fA(a b:Int):Bool:= !po b a
def Nj(op:BinOp):Value→Value→Option Value
 | .int k a,.int k' b=>match op with
  | .shl=>bif fA 0 b && fA b k.bits then some (.int k (k.wrap (a * 2 ^ b.toNat)))else none
  | .shr=>bif fA 0 b && fA b k.bits then some (.int k (a / 2 ^ b.toNat))else none
  |op=>bif decide (k=k')then match op with
  | .add=>some (.int k (k.wrap (a+b)))
  | .sub=>some (.int k (k.wrap (a-b)))
  | .mul=>some (.int k (k.wrap (a * b)))
  | .quo=>bif pn b 0 then none else some (.int k (k.wrap (a.tdiv b)))
  | .rem=>bif pn b 0 then none else some (.int k (a.tmod b))
  | .eql=>some (.bool (pn a b))
  | .neq=>some (.bool (!pn a b))
  | .lss=>some (.bool (po a b))
  | .leq=>some (.bool (fA a b))
  | .gtr=>some (.bool (po b a))
  | .geq=>some (.bool (fA b a))
  | .and=>some (.int k (bits .and k a b))
  | .or=>some (.int k (bits .or k a b))
  | .xor=>some (.int k (bits .xor k a b))
  | .andNot=>some (.int k (bits .andNot k a b))
  |_=>none
  else none
 | .string a,.string b=>match op with
  | .add=>bif Nat.ble (a.size+b.size) 9223372036854775807 then some (.string (Mw a b))else none
  | .eql=>some (.bool (vI a b))
  | .neq=>some (.bool (!vI a b))
  | .lss=>some (.bool (Op.bytesLess a.data.toList b.data.toList))
  | .leq=>some (.bool (Op.bytesLess a.data.toList b.data.toList || vI a b))
  | .gtr=>some (.bool (!(Op.bytesLess a.data.toList b.data.toList || vI a b)))
  | .geq=>some (.bool (!Op.bytesLess a.data.toList b.data.toList))
  |_=>none
 |_,_=>none
mutual
def bN:AV→Option AV
 | .v x=>some (.v x)
 | .agg xs=>(fw xs).map .agg
 | .aP xs=>(fw xs).map .aP
 | .pc xs=>(fw xs).map .pc
 | .sl nn e rows=>(iO rows).map (.sl nn e)
 | .own e _ _ _ _ rows=>(iO rows).map (.sl true e)
 | .fl e rows=>(iO rows).map (.fl e)
 | .dN t x=>(bN x).map (.dN t)
 |_=>none
def fw:List AV→Option (List AV)
 |[]=>some []
 |x::l=>match bN x,fw l with
  |some y,some m=>some (y::m)
  |_,_=>none
def iO:List (List AV)→Option (List (List AV))
 |[]=>some []
 |x::l=>match fw x,iO l with
  |some y,some m=>some (y::m)
  |_,_=>none
end
abbrev XO:=Option (AV×Store×Nat)
structure XT where
 code:FuncId→Option (Nat×AC×List RC)
 cfg:FuncId→Nat→Nat
 pure:FuncId→List AV→Option AV
 vv:Op→TypeId→List TI→List Operand→List AV→Option AV
 ops:Op→TypeId→List TI→List Operand→List AV→Nat→Nat→Store→XO
 gl:Nat→Option (List AV)
 can:FuncId→Bool
 st:FuncId→Bool
def qa(agg:Bool)(o m:Nat)(l:List AV):Option AV:=
 bif agg then bif Nat.ble (o+m) l.length then some (.agg ((l.drop o).take m))else none else l[o]?
def qY(ag:Nat):AV→Option (List (List AV))
 | .sl _ e rows=>bif Nat.beq e ag then some rows else none
 | .own e _ _ _ _ rows=>bif Nat.beq e ag then some rows else none
 | .v (.slice none 0 0)=>some []
 | .v (.string s)=>bif Nat.beq ag 1 then some (s.data.toList.map du)else none
 |_=>none
section
variable (T:XT)(cfg:Nat→Nat)(rl:Bool)
def xO(d b0 u0 c0:Nat)(rg:af)(σ:Store):aw→Option (AV×Store×Bool)
 | .mv x=>some (ev rg x,σ,false)
 | .pick c a b=>match ev rg c with
  | .v (.bool t)=>some (bif t then ev rg a else ev rg b,σ,false)
  |_=>none
 | .box _ x=>match(ev rg x).cells? with
  |some l=>some (.lp d b0 0,(d,b0,.cells l)::σ,true)
  |none=>none
 | .alloc _ z=>some (.lp d b0 0,(d,b0,.cells (z.cells.toList.map .v))::σ,true)
 | .build z parts=>match qf (z.map .v) (mJ rg parts)with
  |some l=>some (.agg l,σ,false)
  |none=>none
 | .dZ _ ag parts=>match rowsOf ag (aE rg parts)with
  |some rows=>bif Nat.ble rows.length 1000000 then match cfg d with
   |0=>some (.sl true ag rows,σ,false)
   |1=>bif Nat.blt 0 ag then some (.own ag d b0 u0 c0 rows,(d,b0,.tail u0 c0)::σ,true)else none
   |3=>some (.fl ag rows,σ,false)
   |_=>some (.ms d b0 0 rows.length rows.length,(d,b0,.cells rows.flatten)::σ,true)
   else none
  |none=>none
 | .load agg m x=>match ev rg x with
  | .lp t b o=>match aM σ t with
   |some (b',.cells l)=>bif Nat.beq b b' then(qa agg o m l).map fun y=>(y,σ,false)else none
   |_=>none
  | .pc l=>(qa agg 0 m l).map fun y=>(y,σ,false)
  | .v (.pointer (some ⟨g,0,none⟩))=>match T.gl g with
   |some l=>(qa agg 0 m l).map fun y=>(y,σ,false)
   |none=>none
  |_=>none
 | .store m x y=>match ev rg x,(ev rg y).cells? with
  | .lp t b o,some l'=>match aM σ t with
   |some (b',.cells l)=>bif Nat.beq b b' && Nat.beq l'.length m && l'.all AV.one && Nat.ble (o+m) l.length then some (.v undef,dx σ t b (.cells (over l o l')),false)else none
   |_=>none
  |_,_=>none
 | .nk x=>match ev rg x with
  | .v (.pointer (some a))=>some (.v (.pointer (some a)),σ,false)
  | .lp t b o=>some (.lp t b o,σ,false)
  | .pc l=>some (.pc l,σ,false)
  | .v (.func (.func f) a c)=>some (.v (.func (.func f) a c),σ,false)
  | .cl f a c=>some (.cl f a c,σ,false)
  |_=>none
 | .bin op x y=>match ev rg x,ev rg y with
  | .v a,.v b=>match Nj op a b with
   |some r=>fV r fun r=>some (.v r,σ,false)
   |none=>none
  |_,_=>none
 | .jR neg k x y=>match ue k (ev rg x) (ev rg y)with
  |some b=>fB (b ^^ neg) fun b=>some (.v (.bool b),σ,false)
  |none=>none
 | .eqs neg ks x y=>match(ev rg x).ju,(ev rg y).ju with
  |some xs,some ys=>match nI ks xs ys with
   |some b=>fB (b ^^ neg) fun b=>some (.v (.bool b),σ,false)
   |none=>none
  |_,_=>none
 | .un op x=>match ev rg x with
  | .v a=>match GF op a with
   |some r=>fV r fun r=>some (.v r,σ,false)
   |none=>none
  |_=>none
 | .mI k x=>match ev rg x with
  | .v (.int _ i)=>fI (k.wrap i) fun i=>some (.v (.int k i),σ,false)
  |_=>none
 | .nF x=>match ev rg x with
  | .v (.string s)=>some (.v (.string s),σ,false)
  |_=>none
 | .oe t x=>some (.dN t (ev rg x),σ,false)
 | .od fn first captured=>match rl with
  |true=>match bV (aE rg first),bV (aE rg captured)with
   |some a,some c=>some (.v (.func fn a.toArray c.toArray),σ,false)
   |_,_=>match fn with
    | .func f=>some (.cl f (aE rg first) (aE rg captured),σ,false)
    |_=>none
  |false=>match ik (aE rg first),ik (aE rg captured)with
   |some a,some c=>some (.v (.func fn a.toArray c.toArray),σ,false)
   |_,_=>match fn with
    | .func f=>some (.cl f (aE rg first) (aE rg captured),σ,false)
    |_=>none
 | .slice ag x lo hi=>match jl (lo.map (ev rg)),jl (hi.map (ev rg))with
  |some lo,some hi=>match ev rg x with
   | .sl nn e rows=>bif Nat.beq e ag && fA 0 (lo.getD 0) && fA (lo.getD 0) (hi.getD rows.length) && fA (hi.getD rows.length) rows.length then
     some (.sl nn ag ((rows.take (hi.getD rows.length).toNat).drop (lo.getD 0).toNat),σ,false)else none
   | .own e tg b u c rows=>bif Nat.beq e ag && fA 0 (lo.getD 0) && fA (lo.getD 0) (hi.getD rows.length) && fA (hi.getD rows.length) rows.length then
     some (if hi.isNone then .own ag tg b u c (rows.drop (lo.getD 0).toNat)else .sl true ag ((rows.take (hi.getD rows.length).toNat).drop (lo.getD 0).toNat),σ,false)else none
   | .v (.slice none 0 0)=>bif pn (lo.getD 0) 0 && pn (hi.getD 0) 0 then some (.v (.slice none 0 0),σ,false)else none
   |_=>none
  |_,_=>none
 | .dk off x=>match ev rg x with
  | .lp t b o=>some (.lp t b (o+off),σ,false)
  | .pc l=>some (.pc (l.drop off),σ,false)
  |_=>none
 | .field agg off m x=>match(ev rg x).ju with
  |some l=>bif Nat.ble (off+m) l.length then(bif agg then some (.agg ((l.drop off).take m),σ,false)else match l[off]? with
   |some y=>some (y,σ,false)
   |none=>none)else none
  |none=>none
 | .iz ag x i=>match ev rg i with
  | .v (.int _ i)=>match ev rg x with
   | .sl _ e rows=>bif Nat.beq e ag && fA 0 i && po i rows.length then some (.pc (rows.getD i.toNat []),σ,false)else none
   | .own e _ _ _ _ rows=>bif Nat.beq e ag && fA 0 i && po i rows.length then some (.pc (rows.getD i.toNat []),σ,false)else none
   | .ms t b o m _=>bif fA 0 i && po i m then fN (o+i.toNat * ag) fun o=>some (.lp t b o,σ,false)else none
   |_=>none
  |_=>none
 | .mY len ag x i=>match ev rg i with
  | .v (.int _ i)=>match ev rg x with
   | .lp t b o=>bif fA 0 i && po i len then fN (o+i.toNat * ag) fun o=>some (.lp t b o,σ,false)else none
   | .pc l=>bif fA 0 i && po i len then some (.pc (l.drop (i.toNat * ag)),σ,false)else none
   | .v (.pointer (some ⟨g,0,none⟩))=>match T.gl g with
    |some l=>bif fA 0 i && po i len then some (.pc (l.drop (i.toNat * ag)),σ,false)else none
    |none=>none
   |_=>none
  |_=>none
 | .idxs x i=>match ev rg i,ev rg x with
  | .v (.int _ i),.v (.string s)=>bif fA 0 i then match s.data.toList[i.toNat]? with
   |some c=>fN c.toNat fun c=>some (.v (.int .u8 (.ofNat c)),σ,false)
   |none=>none
   else none
  |_,_=>none
 | .extract x i=>match ev rg x with
  | .aP xs=>match xs[i]? with
   |some y=>some (y,σ,false)
   |none=>none
  | .v (.tuple vs)=>match vs.toList[i]? with
   |some y=>some (.v y,σ,false)
   |none=>none
  |_=>none
 | .len true x=>match ev rg x with
  | .v (.string s)=>fN s.data.toList.length fun k=>some (.v (.int .i64 (.ofNat k)),σ,false)
  |_=>none
 | .len false x=>match ev rg x with
  | .v (.slice _ k _)=>some (.v (.int .i64 (.ofNat k)),σ,false)
  | .ms _ _ _ k _=>some (.v (.int .i64 (.ofNat k)),σ,false)
  | .sl _ _ rows=>fN rows.length fun k=>some (.v (.int .i64 (.ofNat k)),σ,false)
  | .own _ _ _ _ _ rows=>fN rows.length fun k=>some (.v (.int .i64 (.ofNat k)),σ,false)
  |_=>none
 | .append _ ag bytes _ x y=>match qY ag (ev rg y)with
  |some rows'=>match ev rg x with
   | .v (.slice none 0 0)=>bif Nat.ble (rows'.length * bytes) 35184372088832 then match rows' with
    |[]=>some (.v (.slice none 0 0),σ,false)
    |_=>some (.own ag d b0 u0 c0 rows',(d,b0,.tail u0 c0)::σ,true)
    else none
   | .own e tg b u c rows=>match aM σ tg with
    |some (b',.tail u' c')=>bif Nat.beq b b' && Nat.beq u u' && Nat.beq c c' && Nat.beq e ag && Nat.ble ((rows.length+rows'.length) * bytes) 35184372088832 && rows'.all (fun r=>r.all AV.one)then
      some (.own ag tg b0 u0 c0 (rows++rows'),dx σ tg b0 (.tail u0 c0),true)else none
    |_=>none
   | .fl e rows=>bif Nat.beq e ag && Nat.ble ((rows.length+rows'.length) * bytes) 35184372088832 then match rows' with
    |[]=>some (.fl ag rows,σ,false)
    |_=>some (.own ag d b0 u0 c0 (rows++rows'),(d,b0,.tail u0 c0)::σ,true)
    else none
   |_=>none
  |none=>none
 | .max2 x y=>match ev rg x,ev rg y with
  | .v a,.v b=>match vf false a b with
   |some r=>fV r fun r=>some (.v r,σ,false)
   |none=>none
  |_,_=>none
 | .min2 x y=>match ev rg x,ev rg y with
  | .v a,.v b=>match vf true a b with
   |some r=>fV r fun r=>some (.v r,σ,false)
   |none=>none
  |_,_=>none
 | .cQ op ty ti args=>match fw (aE rg args)with
  |some as=>match T.vv op ty ti args as with
   |some r=>some (r,σ,false)
   |none=>none
  |none=>none
 |_=>none
def oE(d n:Nat)(rg:af)(σ:Store)(op:aw):XO:=match xO T cfg false d n 0 0 rg σ op with
 |some (x,σ',_)=>some (x,σ',n+1)
 |none=>none
variable (call:FuncId→List AV→Store→Nat→XO)
def xS(d n:Nat)(rg:af)(σ:Store)(op:aw):XO:=match op with
 | .call f args=>call f (aE rg args) σ n
 | .fR f args=>match ev rg f with
  | .v (.func (.func f) a c)=>bif T.can f then call f (a.toList.map .v++aE rg args++c.toList.map .v) σ n else none
  | .cl f a c=>bif T.can f then call f (a++aE rg args++c) σ n else none
  |_=>none
 | .exts op ty ti args=>T.ops op ty ti args (aE rg args) d n σ
 | .cQ op ty ti args=>match oE T cfg d n rg σ (.cQ op ty ti args)with
  |some r=>some r
  |none=>T.ops op ty ti args (aE rg args) d n σ
 |op=>oE T cfg d n rg σ op
def xL:List CI→af→Store→Nat→Option (af×Store×Nat)
 |[],rg,σ,n=>some (rg,σ,n)
 |c::l,rg,σ,n=>match c.g with
  |none=>match xS T cfg call (c.d.getD 0) n rg σ c.op with
   |some (x,σ',n')=>xL l (bj c.d x rg) σ' n'
   |none=>none
  |some (t,want)=>match lk rg t with
   | .v (.bool b)=>match b == want with
    |true=>match xS T cfg call (c.d.getD 0) n ((t,.v (.bool want))::rg) σ c.op with
     |some (x,σ',n')=>xL l (bj c.d x ((t,.v (.bool want))::rg)) σ' n'
     |none=>none
    |false=>xL l (bj c.d (.v undef) ((t,.v (.bool !want))::rg)) σ n
   | .v (.tuple _)=>xL l (bj c.d (.v undef) rg) σ n
   |_=>none
end
mutual
def U3:AV→List Nat→List Nat
 | .agg xs,k| .aP xs,k| .pc xs,k=>sZ xs k
 | .sl _ _ rows,k| .fl _ rows,k=>Mv rows k
 | .own _ _ b _ _ rows,k=>b::Mv rows k
 | .ms _ b _ _ _,k| .lp _ b _,k| .bH _ b,k=>b::k
 | .dN _ x,k=>U3 x k
 | .cl _ a c,k=>sZ a (sZ c k)
 | .v _,k| .any,k| .ai _,k=>k
def sZ:List AV→List Nat→List Nat
 |[],k=>k
 |x::l,k=>U3 x (sZ l k)
def Mv:List (List AV)→List Nat→List Nat
 |[],k=>k
 |r::l,k=>sZ r (Mv l k)
end
mutual
def dV(f:Nat→Nat→Nat):AV→AV
 | .agg xs=> .agg (ka f xs)
 | .aP xs=> .aP (ka f xs)
 | .pc xs=> .pc (ka f xs)
 | .sl nn e rows=> .sl nn e (pH f rows)
 | .fl e rows=> .fl e (pH f rows)
 | .own e t b u c rows=> .own e (f t b) b u c (pH f rows)
 | .ms t b o n c=> .ms (f t b) b o n c
 | .lp t b o=> .lp (f t b) b o
 | .bH t b=> .bH (f t b) b
 | .dN t x=> .dN t (dV f x)
 | .cl g a c=> .cl g (ka f a) (ka f c)
 | .v x=> .v x
 | .any=> .any
 | .ai k=> .ai k
def ka(f:Nat→Nat→Nat):List AV→List AV
 |[]=>[]
 |x::l=>dV f x::ka f l
def pH(f:Nat→Nat→Nat):List (List AV)→List (List AV)
 |[]=>[]
 |r::l=>ka f r::pH f l
end
def stB:aR→List Nat→List Nat
 | .cells l,k=>sZ l k
 | .tail _ _,k=>k
 | .map es _,k=>sZ (es.map (·.2.2)) k
def Au(f:Nat→Nat→Nat):aR→aR
 | .cells l=> .cells (ka f l)
 | .tail u c=> .tail u c
 | .map es k=> .map (es.map fun e=>(e.1,e.2.1,dV f e.2.2)) k
def mn(f:Nat→Nat→Nat):Store→Store
 |[]=>[]
 |(t,b,x)::l=>(f t b,b,Au f x)::mn f l
def Av(f:Nat→Nat→Nat):af→af
 |[]=>[]
 |(i,x)::l=>(i,dV f x)::Av f l
def U5:Store→List Nat
 |[]=>[]
 |(_,_,x)::l=>stB x (U5 l)
def kz(_ b:Nat):Nat:=b+1000000
def uq(n0:Nat)(live:List Nat):Store→Store
 |[]=>[]
 |(t,b,x)::l=>bif Nat.blt b n0 || live.elem b then(t,b,x)::uq n0 live l else uq n0 live l
def gc(n0:Nat)(roots:List AV)(σ:Store):Store:=match σ with
 |[]=>[]
 |σ=>uq n0 (sZ roots (U5 σ)) σ
def Lc{α:Type}:List α→Bool
 |[]=>true
 |_=>false
def Dj(σ:Store)(t b:Nat):Nat:=match σ with
 |[]=>t
 |(t',b',_)::l=>bif Nat.beq b b' then t' else Dj l t b
inductive XE where
 |nrm
 |ret
 |exit (i:Nat)
 |goto (l:Nat)
abbrev XS:=Option (XE×af×Store×Nat)
section
variable (T:XT)(cfg:Nat→Nat)(call:FuncId→List AV→Store→Nat→XO)(ej:FuncId→List AV→Nat→Option AV)
def DA(d n:Nat)(rg:af)(σ:Store)(op:aw):XO:=match op with
 | .dZ t e parts=>match cfg d with
  |0|3=>oE T cfg d n rg σ (.dZ t e parts)
  |_=>none
 | .call f args=>(ej f (aE rg args) n).map fun r=>(r,σ,n)
 | .fR f args=>match ev rg f with
  | .v (.func (.func f) a c)=>bif T.can f then(ej f (a.toList.map .v++aE rg args++c.toList.map .v) n).map fun r=>(r,σ,n)else none
  | .cl f a c=>bif T.can f then(ej f (a++aE rg args++c) n).map fun r=>(r,σ,n)else none
  |_=>none
 |op=>oE T cfg d n rg σ op
def Dz(ah cf:List Nat)(d n:Nat)(rg:af)(σ:Store)(op:aw):XO:=match op.cls with
 |0=>DA T cfg ej d n rg σ op
 |1=>bif kM ah cf rg op then oE T cfg d n rg σ op else none
 |2=>oE T cfg d n rg σ op
 |3=>bif oy ah cf rg op then oE T cfg d n rg σ op else none
 |4=>bif isApp op && ah.elem d then oE T cfg d n rg σ op else none
 |_=>none
def xM(ah:List Nat):List CD→af→Store→Nat→Option (af×Store×Nat)
 |[],rg,σ,n=>some (rg,σ,n)
 |c::l,rg,σ,n=>match c.c.g with
  |none=>match Dz T cfg ej ah c.cf (c.c.d.getD 0) n rg σ c.c.op with
   |some (x,σ',n')=>xM ah l (bj c.c.d x rg) σ' n'
   |none=>none
  |some (t,want)=>match lk rg t with
   | .v (.bool b)=>match b == want with
    |true=>match Dz T cfg ej ah c.cf (c.c.d.getD 0) n rg σ c.c.op with
     |some (x,σ',n')=>xM ah l (bj c.c.d x rg) σ' n'
     |none=>none
    |false=>xM ah l (bj c.c.d (.v undef) rg) σ n
   | .v (.tuple _)=>xM ah l (bj c.c.d (.v undef) rg) σ n
   |_=>none
def wD(st:FuncId→Bool):List CI→Option (List CI×CI×List CI)
 |[]=>none
 |c::l=>match c.op with
  | .call f _=>bif st f then some ([],c,l)else match wD st l with
   |some (a,s,b)=>some (c::a,s,b)
   |none=>none
  |_=>match wD st l with
   |some (a,s,b)=>some (c::a,s,b)
   |none=>none
def FG(c:CI):Bool:=match c.g with
 |none=>true
 |some _=>false
def isNone{α:Type}:Option α→Bool
 |none=>true
 |some _=>false
def Hb(l1:List CI)(s:CI)(l2:List CI)(rg:af)(σ:Store)(n:Nat):Option (af×Store×Nat):=match xM T cfg ej [] (bare l1) rg σ n with
 |some (rg,σ,n)=>match xS T cfg call (s.d.getD 0) n rg σ s.op with
  |some (x,σ,n)=>xM T cfg ej [] (bare l2) (bj s.d x rg) σ n
  |none=>none
 |none=>none
def xD(l:List CI)(rg:af)(σ:Store)(n:Nat):Option (af×Store×Nat):=match wF l with
 |some (l1,s,l2)=>bif ov l l1.length && FG s then Hb T cfg call ej l1 s l2 rg σ n else none
 |none=>match wD T.st l with
  |some (l1,s,l2)=>bif ov l l1.length && FG s && isNone (pC l 0)then Hb T cfg call ej l1 s l2 rg σ n else none
  |none=>xM T cfg ej [] (bare l) rg σ n
def AW:Option (af×Store×Nat)→XS
 |some (rg,σ,n)=>some (.nrm,rg,σ,n)
 |none=>none
def xC(n0:Nat)(again:AC→af→Store→Nat→XS)(jump:AC→Nat→af→Store→Nat→XS):AC→af→Store→Nat→XS
 | .skip,rg,σ,n=>some (.nrm,rg,σ,n)
 | .ck l,rg,σ,n=>AW (xL T cfg call l rg σ n)
 | .dF l,rg,σ,n=>AW (xD T cfg call ej l rg σ n)
 | .eE ah l,rg,σ,n=>AW (xM T cfg ej ah l rg σ n)
 | .seq a b,rg,σ,n=>match xC n0 again jump a rg σ n with
  |some (.nrm,rg,σ,n)=>xC n0 again jump b rg σ n
  |r=>r
 | .cond c t e,rg,σ,n=>match ev rg c with
  | .v (.bool true)=>xC n0 again jump t rg σ n
  | .v (.bool false)=>xC n0 again jump e rg σ n
  |_=>none
 | .block id b,rg,σ,n=>match xC n0 again jump b rg σ n with
  |some (.exit i,rg,σ,n)=>bif Nat.beq i id then some (.nrm,rg,σ,n)else some (.exit i,rg,σ,n)
  |r=>r
 | .loop b,rg,σ,n=>again b rg σ n
 | .exit i,rg,σ,n=>some (.exit i,rg,σ,n)
 | .ret,rg,σ,n=>some (.ret,rg,σ,n)
 | .goto l,rg,σ,n=>some (.goto l,rg,σ,n)
 | .label _,rg,σ,n=>some (.nrm,rg,σ,n)
 | .aQ ks a,rg,σ,n=>match je ks rg with
  |some rg=>xC n0 again jump a (Av kz rg) (gc n0 (rg.map (·.2)) (mn kz σ)) n
  |none=>none
 | .stop a,rg,σ,n=>xC n0 again jump a rg σ n
 | .scope b,rg,σ,n=>match xC n0 again jump b rg σ n with
  |some (.goto l,rg,σ,n)=>jump b l rg σ n
  |r=>r
end
section
variable (T:XT)
structure DQ where
 call:FuncId→List AV→Store→Nat→XO
 turn:FuncId→Nat→AC→af→Store→Nat→XS
 jump:FuncId→Nat→AC→Nat→af→Store→Nat→XS
def pU(call:FuncId→List AV→Store→Nat→XO)(f:FuncId)(as:List AV)(n:Nat):Option AV:=match fw as with
 |none=>none
 |some as=>match call f as [] n with
  |some (x,_,_)=>bN x
  |none=>none
def tz(r:DQ)(f:FuncId)(n0:Nat):AC→af→Store→Nat→XS:=xC T (T.cfg f) r.call (pU r.call) n0 (r.turn f n0) (r.jump f n0)
def Nk(r:DQ)(f:FuncId)(as:List AV)(σ:Store)(n:Nat):XO:=match T.pure f as with
 |some x=>some (x,σ,n)
 |none=>match T.code f with
  |none=>none
  |some (N,a,res)=>bif Nat.ble as.length N then match Lc (sZ as [])with
    |true=>match tz T r f n a (fF 0 as) [] n with
     |some (.nrm,rg,aK,n1)|some (.ret,rg,aK,n1)=>match db rg aK res with
      |some x=>some (dV kz x,gc n [x] (mn kz aK)++σ,n1)
      |none=>none
     |_=>none
    |false=>match tz T r f n a (fF 0 (ka kz as)) (mn kz σ) n with
     |some (.nrm,rg,aK,n1)|some (.ret,rg,aK,n1)=>match db rg aK res with
      |some x=>some (dV (Dj σ) (dV kz x),mn (Dj σ) (gc n [x] (mn kz aK)),n1)
      |none=>none
     |_=>none
   else none
def eN:Nat→DQ
 |0=>⟨fun _ _ _ _=>none,fun _ _ _ _ _ _=>none,fun _ _ _ _ _ _ _=>none⟩
 |k+1=>⟨Nk T (eN k),fun f n0 b rg σ n=>match tz T (eN k) f n0 b rg σ n with
  |some (.nrm,rg,σ,n)=>(eN k).turn f n0 b rg σ n
  |r=>r,fun f n0 b l rg σ n=>match qC b l with
  |none=>none
  |some r=>match tz T (eN k) f n0 r rg σ n with
   |some (.goto l',rg,σ,n)=>(eN k).jump f n0 b l' rg σ n
   |r=>r⟩
end
set_option linter.unusedSimpArgs false
set_option linter.unusedSectionVars false
theorem gQ{α:Type}(n:Nat)(k:Nat→α):fN n k=k n:=by cases n<;>rfl
theorem BC{α:Type}(i:Int)(k:Int→α):fI i k=k i:=by cases i<;>simp[fI,gQ]
theorem uh{α:Type}(b:Bool)(k:Bool→α):fB b k=k b:=by cases b<;>rfl
theorem mK{α:Type}(x:Value)(k:Value→α):fV x k=k x:=by cases x<;>simp[fV,BC,uh]
theorem CK(a b:Int):pn a b=decide (a=b):=by
 rw[YJ,ZN]
 cases a<;>cases b
 ·exact⟨fun h=>Ze Int.ofNat (Z2 h),fun h=>by cases h;exact YL _⟩
 ·exact⟨fun h=>(nomatch h),fun h=>(nomatch h)⟩
 ·exact⟨fun h=>(nomatch h),fun h=>(nomatch h)⟩
 ·exact⟨fun h=>Ze Int.negSucc (Z2 h),fun h=>by cases h;exact YL _⟩
theorem uY(a b:Int):po a b=decide (a<b):=by
 rw[YJ,ZN]
 cases a<;>cases b<;>simp only[po,YC,Int.ofNat_eq_natCast,Int.negSucc_eq]
 ·omega
 ·exact⟨fun h=>(nomatch h),fun h=>by omega⟩
 ·exact⟨fun h=>by omega,fun h=>trivial⟩
 ·omega
theorem nX(a b:Int):fA a b=decide (a≤b):=by
 rw[YJ];simp only[fA,uY,YK,decide_eq_false_iff_not,ZN];omega
theorem SV:∀ (a b:List UInt8),xJ a b=decide (a=b)
 |[],[]=>by simp[xJ]
 |[],_::_=>by simp[xJ]
 |_::_,[]=>by simp[xJ]
 |a::x,b::y=>by
  rw[YJ];simp only[xJ,SV x y,Z6,Nat.beq_eq,ZN,Z3,UInt8.toNat_inj]
theorem Mx(a b:ByteArray):vI a b=decide (a=b):=by
 obtain⟨⟨a⟩⟩:=a;obtain⟨⟨b⟩⟩:=b
 rw[YJ];simp only[vI,SV,ZN,ByteArray.mk.injEq,Array.mk.injEq]
theorem akD(a b:ByteArray):Mw a b=a++b:=by
 obtain⟨⟨a⟩⟩:=a;obtain⟨⟨b⟩⟩:=b
 refine ByteArray.ext ?_
 simp[Mw,ByteArray.data_append]
theorem al6{op:BinOp}{a b r:Value}{K:Value→Prop}(h:Nj op a b=some r)(hk:K r):mB op a b K:=by
 unfold Nj at h
 split at h
 ·rename_i k a k' b
  have same:∀ {y:Option Value},(bif decide (k=k')then y else none)=some r→k=k'∧y=some r:=fun {y} h=>by
   cases hd:decide (k=k')with
   |false=>rw[hd]at h;cases h
   |true=>rw[hd]at h;exact⟨Ye hd,h⟩
  have sh:∀ {y:Value},(bif fA 0 b && fA b k.bits then some y else none)=some r→0≤b∧b≤k.bits∧K y:=fun {y} h=>by
   cases hb:(fA 0 b && fA b k.bits)with
   |false=>rw[hb]at h;cases h
   |true=>
    rw[hb]at h;cases h
    simp only[Z6,nX,ZN]at hb
    exact⟨hb.1,hb.2,hk⟩
  have dv:∀ {y:Value},(bif pn b 0 then none else some y)=some r→b≠0∧K y:=fun {y} h=>by
   cases hb:pn b 0 with
   |true=>rw[hb]at h;cases h
   |false=>
    rw[hb]at h;cases h
    rw[CK]at hb
    exact⟨of_decide_eq_false hb,hk⟩
  cases op
  case shl=>exact sh h
  case shr=>exact sh h
  case quo=>obtain⟨e,h⟩:=same h;exact⟨e,dv h⟩
  case rem=>obtain⟨e,h⟩:=same h;exact⟨e,dv h⟩
  all_goals
   obtain⟨e,h⟩:=same h
   simp only[Z1,CK,uY,nX]at h
   simp only[mB]
   exact⟨e,by subst h;first|exact hk|simpa using hk⟩
 ·rename_i a b
  cases op<;>simp only[Z1,reduceCtorEq,Mx,akD]at h<;>simp only[mB]
  case add=>
   cases hb:Nat.ble (a.size+b.size) 9223372036854775807<;>simp only[hb,Y6,YD,reduceCtorEq,Z1]at h
   subst h;exact⟨ZR hb,hk⟩
  all_goals(subst h;simpa only[ByteArray.toList_eq]using hk)
 ·cases h
theorem Iz{o m:Nat}{l:List AV}{y:AV}(h:qa false o m l=some y):l[o]? =some y:=h
theorem IB{o m:Nat}{l:List AV}{y:AV}(h:qa true o m l=some y):o+m≤l.length∧y= .agg ((l.drop o).take m):=by
 unfold qa at h
 cases hb:Nat.ble (o+m) l.length<;>simp only[hb,Y6,YD,reduceCtorEq,Z1]at h
 exact⟨ZR hb,h.symm⟩
theorem Wh{e:Nat}{x:AV}{r:List (List AV)}(h:qY e x=some r):dR e x=some r:=by
 unfold qY at h
 split at h
 ·rename_i nn e' rows
  cases hb:Nat.beq e' e<;>simp only[hb,Y6,YD,reduceCtorEq,Z1]at h
  simp only[dR,ZW (Z2 hb),h]
 ·rename_i e' _ _ _ _ rows
  cases hb:Nat.beq e' e<;>simp only[hb,Y6,YD,reduceCtorEq,Z1]at h
  simp only[dR,ZW (Z2 hb),h]
 ·cases h;rfl
 ·cases hb:Nat.beq e 1<;>simp only[hb,Y6,YD,reduceCtorEq,Z1]at h
  simp only[dR,ZW (Z2 hb),h]
 ·cases h
set_option linter.unusedSimpArgs false
set_option linter.unusedSectionVars false
theorem bC.get{xs ys:List AV}(h:bC xs ys):xs.length=ys.length∧∀ k (h1:k<xs.length) (h2:k<ys.length),Wk xs[k] ys[k]:=by
 induction h with
 |nil=>exact⟨rfl,fun k h=>absurd h (by simp)⟩
 |cons hx _ ih=>
  refine⟨by simp[ih.1],fun k h1 h2=> ?_⟩
  cases k with
  |zero=>exact hx
  |succ k=>simpa using ih.2 k (by simpa using h1) (by simpa using h2)
theorem Wk.LP{xs ys:List AV}(h:bC xs ys):Wk (.pc xs) (.pc ys):=fun M v k=>by
 obtain⟨b,off,cs,rfl,h1,h2⟩:=k.vu
 obtain⟨e,hp⟩:=h.get
 exact .pc _ b off cs (fun k hk=>h1 k (by omega)) fun k hk=>hp k (by omega) hk _ _ (h2 k (by omega))
def yM(a b:List (List AV)):Prop:=a.length=b.length∧∀ i (h1:i<a.length) (h2:i<b.length),bC a[i] b[i]
theorem Wk.Gj{nn:Bool}{e:Nat}{a b:List (List AV)}(h:yM a b):Wk (.sl nn e a) (.sl nn e b):=fun M v k=>by
 obtain⟨el,h⟩:=h
 cases k with
 |nil _ _ ad hn=>cases b with
  |nil=>exact .nil _ _ _ hn
  |cons _ _=>simp at el
 |sl _ _ _ bb off cap cs h1 h2 h3 h4 h5=>
  rw[el]
  refine .sl _ _ _ bb off cap cs (fun i hi=> ?_) (fun k hk=>h2 k (by rwa [el])) (fun i hi j hj=> ?_) (by omega) h5
  ·rw[← (h i (by omega) hi).get.1];exact h1 i (by omega)
  ·have hg:=(h i (by omega) hi).get
   exact hg.2 j (by omega) hj _ _ (h3 i (by omega) j (by omega))
theorem Wk.Jk{e:Nat}{x y:List (List AV)}(h:yM x y):Wk (.fl e x) (.fl e y):=fun M v k=>by
 obtain⟨el,h⟩:=h
 cases k with
 |fl _ _ b off cs h1 h2 h3 h4=>
  rw[el]
  refine .fl _ _ b off cs (fun i hi=> ?_) (fun k hk=>h2 k (by rwa [el])) (fun i hi j hj=> ?_) (by omega)
  ·rw[← (h i (by omega) hi).get.1];exact h1 i (by omega)
  ·have hg:=(h i (by omega) hi).get
   exact hg.2 j (by omega) hj _ _ (h3 i (by omega) j (by omega))
theorem Wk.Rt{t:TypeId}{x y:AV}(h:Wk x y):Wk (.dN t x) (.dN t y):=fun M v k=>by
 obtain⟨u,rfl,hu⟩:=k.Tq
 exact .dN _ _ _ (h _ _ hu)
theorem Wk.lr{f:FuncId}{a c a' c':List AV}(h:bC a a')(h':bC c c'):Wk (.cl f a c) (.cl f a' c'):=fun M v k=>by
 obtain⟨va,vc,rfl,h1,h2⟩:=k.LG
 have k1:=h.sound h1
 have k2:=h'.sound h2
 exact .cl _ _ _ _ _ k1.1 k2.1 k1.2 k2.2
mutual
theorem Nf:∀ {x y:AV},bN x=some y→Wk x y
 | .v x,y,h=>by simp only[bN,Z1]at h;exact .FM h
 | .agg xs,y,h=>by simp only[bN,Z7]at h;obtain⟨l,h1,rfl⟩:=h;exact .agg (tp h1)
 | .aP xs,y,h=>by simp only[bN,Z7]at h;obtain⟨l,h1,rfl⟩:=h;exact .aP (tp h1)
 | .pc xs,y,h=>by simp only[bN,Z7]at h;obtain⟨l,h1,rfl⟩:=h;exact .LP (tp h1)
 | .sl nn e rows,y,h=>by simp only[bN,Z7]at h;obtain⟨l,h1,rfl⟩:=h;exact .Gj (G4 h1)
 | .own e _ _ _ _ rows,y,h=>by simp only[bN,Z7]at h;obtain⟨l,h1,rfl⟩:=h;exact(Wk.own true).trans (.Gj (G4 h1))
 | .dN t x,y,h=>by simp only[bN,Z7]at h;obtain⟨l,h1,rfl⟩:=h;exact .Rt (Nf h1)
 | .cl ..,_,h=>by simp[bN]at h
 | .any,_,h=>by simp[bN]at h
 | .ms ..,_,h=>by simp[bN]at h
 | .lp ..,_,h=>by simp[bN]at h
 | .bH ..,_,h=>by simp[bN]at h
 | .ai _,_,h=>by simp[bN]at h
 | .fl e rows,y,h=>by simp only[bN,Z7]at h;obtain⟨l,h1,rfl⟩:=h;exact .Jk (G4 h1)
theorem tp:∀ {l m:List AV},fw l=some m→bC l m
 |[],m,h=>by simp only[fw,Z1]at h;subst h;exact .nil
 |x::l,m,h=>by
  simp only[fw]at h
  cases hx:bN x with
  |none=>rw[hx]at h;cases h
  |some y=>cases hl:fw l with
   |none=>rw[hx,hl]at h;cases h
   |some m'=>rw[hx,hl]at h;cases h;exact .cons (Nf hx) (tp hl)
theorem G4:∀ {l m:List (List AV)},iO l=some m→yM l m
 |[],m,h=>by simp only[iO,Z1]at h;subst h;exact⟨rfl,fun i h=>absurd h (by simp)⟩
 |x::l,m,h=>by
  simp only[iO]at h
  cases hx:fw x with
  |none=>rw[hx]at h;cases h
  |some y=>cases hl:iO l with
   |none=>rw[hx,hl]at h;cases h
   |some m'=>
    rw[hx,hl]at h;cases h
    obtain⟨e,k⟩:=G4 hl
    refine⟨by simp[e],fun i h1 h2=> ?_⟩
    cases i with
    |zero=>exact tp hx
    |succ i=>simpa using k i (by simpa using h1) (by simpa using h2)
end
structure XT.OK(P:Program)[Glob P](T:XT):Prop where
 gl:∀ g l,T.gl g=some l→Glob.av P g=some l
 Jw:∀ g l,T.gl g=some l→fw l=some l
 vv:∀ op ty ti args as r,T.vv op ty ti args as=some r→ko P op ty ti args as r∧bN r=some r
 can:∀ f,T.can f=true→ij P f=true
section
variable {P:Program}[Glob P]{T:XT}{cfg:Nat→Nat}{dd:Option Nat}{rg:af}{σ:Store}{K:AV→Store→Prop}{E:List PanicEntry→Store→Prop}
theorem gy{b:Bool}{α:Type}{x y:α}(h:(bif b then some x else none)=some y):b=true∧x=y:=by
 cases b<;>simp only[Y6,YD,reduceCtorEq,Z1]at h
 exact⟨rfl,h⟩
theorem ff{b:Bool}{α:Type}{x:Option α}{y:α}(h:(bif b then x else none)=some y):b=true∧x=some y:=by
 cases b<;>simp only[Y6,YD,reduceCtorEq]at h
 exact⟨rfl,h⟩
theorem Wf(hT:T.OK P){op:aw}(h:∀ b u c,∃ x σ' f,xO T cfg true (dd.getD 0) b u c rg σ op=some (x,σ',f)∧K x σ'):al P cfg dd rg σ K E op:=by
 cases op with
 |mv x=>obtain⟨_,_,_,h1,h2⟩:=h 0 0 0;cases h1;exact h2
 |pick c a b=>(obtain⟨_,_,_,h1,h2⟩:=h 0 0 0;simp only[xO]at h1;simp only[al]);(split at h1<;>first|(cases h1;done)|(rename_i hz;simp only[hz]));cases h1;simpa only[Bool.cond_eq_ite]using h2
 |box t x=>
  simp only[xO]at h;simp only[al]
  cases hx:(ev rg x).cells? with
  |none=>obtain⟨_,_,_,h1,h2⟩:=h 0 0 0;rw[hx]at h1;cases h1
  |some l=>intro b;obtain⟨_,_,_,h1,h2⟩:=h b 0 0;rw[hx]at h1;cases h1;exact h2
 |alloc t z=>intro b;obtain⟨_,_,_,h1,h2⟩:=h b 0 0;cases h1;exact h2
 |build z parts=>(obtain⟨_,_,_,h1,h2⟩:=h 0 0 0;simp only[xO]at h1;simp only[al]);(split at h1<;>first|(cases h1;done)|(rename_i hz;simp only[hz]));cases h1;exact h2
 |dZ t e parts=>
  simp only[xO]at h;simp only[al]
  cases hr:rowsOf e (aE rg parts)with
  |none=>obtain⟨_,_,_,h1,h2⟩:=h 0 0 0;rw[hr]at h1;cases h1
  |some rows=>
   simp only[hr]at h
   obtain⟨_,_,_,h1,h2⟩:=h 0 0 0
   obtain⟨hb,h1⟩:=ff h1
   simp only[hb,Y6]at h
   refine⟨ZR hb,?_⟩
   split
   ·rename_i hc;simp only[hc]at h1;cases h1;exact h2
   ·rename_i hc;simp only[hc]at h
    have h0:0<e:=by
     obtain⟨_,_,_,h1,h2⟩:=h 0 0 0
     have:=(gy h1).1
     simpa using this
    refine⟨h0,fun b=> ?_⟩
    obtain⟨_,_,_,h1,h2⟩:=h b (rows.length * e) (rows.length * e)
    have:=(gy h1).2
    cases this;exact h2
   ·rename_i hc;simp only[hc]at h1;cases h1;exact h2
   ·rename_i gV cq EO
    intro b
    obtain⟨_,_,_,h1,h2⟩:=h b 0 0
    split at h1
    ·rename_i hc;exact absurd hc gV
    ·rename_i hc;exact absurd hc cq
    ·rename_i hc;exact absurd hc EO
    ·cases h1;exact h2
 |load agg m x=>
  (obtain⟨_,_,_,h1,h2⟩:=h 0 0 0;simp only[xO]at h1;simp only[al])
  have key:∀ {l:List AV} {r:AV×Store×Bool},(qa agg 0 m l).map (fun y=>(y,σ,false))=some r→K r.1 r.2.1→(agg=true→m≤l.length∧K (.agg (l.take m)) σ)∧(agg=false→∃ y,l[0]? =some y∧K y σ):=by
   intro l r h1 h2
   obtain⟨y,h3,rfl⟩:=Z7.1 h1
   refine⟨fun e=> ?_,fun e=> ?_⟩<;>subst e
   ·obtain⟨h4,rfl⟩:=IB h3;rw[ZA]at h4;exact⟨h4,h2⟩
   ·exact⟨y,Iz h3,h2⟩
  (split at h1<;>first|(cases h1;done)|(rename_i hz;simp only[hz]))
  ·(split at h1<;>first|(cases h1;done)|(rename_i hz;simp only[hz]))
   obtain⟨hb,h1⟩:=ff h1
   refine⟨Z2 hb,?_⟩
   obtain⟨y,h3,h4⟩:=Z7.1 h1
   cases h4
   cases agg with
   |true=>obtain⟨h4,rfl⟩:=IB h3;rw[ZW rfl];exact⟨h4,h2⟩
   |false=>rw[Z5 (by simp),Iz h3];exact h2
  ·obtain⟨k1,k2⟩:=key h1 h2
   cases agg with
   |true=>rw[ZW rfl];exact k1 rfl
   |false=>obtain⟨y,h3,h4⟩:=k2 rfl;rw[Z5 (by simp),h3];exact h4
  ·split at h1
   ·rename_i hg
    simp only[hT.gl _ _ hg]
    obtain⟨k1,k2⟩:=key h1 h2
    cases agg with
    |true=>rw[ZW rfl];exact k1 rfl
    |false=>obtain⟨y,h3,h4⟩:=k2 rfl;rw[Z5 (by simp)];simp only[h3];exact h4
   ·cases h1
 |store m x y=>
  (obtain⟨_,_,_,h1,h2⟩:=h 0 0 0;simp only[xO]at h1;simp only[al]);(split at h1<;>first|(cases h1;done)|(rename_i hy hz;simp only[hy,hz]))
  (split at h1<;>first|(cases h1;done)|(rename_i hz;simp only[hz]))
  obtain⟨hb,h1⟩:=gy h1
  cases h1
  simp only[Z6]at hb
  obtain⟨⟨⟨h3,h4⟩,h5⟩,h6⟩:=hb
  exact⟨Z2 h3,Z2 h4,h5,ZR h6,h2⟩
 |nk x=>(obtain⟨_,_,_,h1,h2⟩:=h 0 0 0;simp only[xO]at h1;simp only[al]);(split at h1<;>first|(cases h1;done)|(rename_i hz;simp only[hz]))<;>(cases h1;exact h2)
 |bin op x y=>
  (obtain⟨_,_,_,h1,h2⟩:=h 0 0 0;simp only[xO]at h1;simp only[al]);(split at h1<;>first|(cases h1;done)|(rename_i hy hz;simp only[hy,hz]))
  split at h1
  ·rename_i hr
   rw[mK]at h1;cases h1
   exact al6 hr h2
  ·cases h1
 |jR neg k x y=>(obtain⟨_,_,_,h1,h2⟩:=h 0 0 0;simp only[xO]at h1;simp only[al]);(split at h1<;>first|(cases h1;done)|(rename_i hz;simp only[hz]));rw[uh]at h1;cases h1;exact h2
 |eqs neg ks x y=>(obtain⟨_,_,_,h1,h2⟩:=h 0 0 0;simp only[xO]at h1;simp only[al]);(split at h1<;>first|(cases h1;done)|(rename_i hy hz;simp only[hy,hz]));(split at h1<;>first|(cases h1;done)|(rename_i hz;simp only[hz]));rw[uh]at h1;cases h1;exact h2
 |un op x=>(obtain⟨_,_,_,h1,h2⟩:=h 0 0 0;simp only[xO]at h1;simp only[al]);(split at h1<;>first|(cases h1;done)|(rename_i hz;simp only[hz]));(split at h1<;>first|(cases h1;done)|(rename_i hz;simp only[hz]));rw[mK]at h1;cases h1;exact h2
 |mI k x=>(obtain⟨_,_,_,h1,h2⟩:=h 0 0 0;simp only[xO]at h1;simp only[al]);(split at h1<;>first|(cases h1;done)|(rename_i hz;simp only[hz]));rw[BC]at h1;cases h1;exact h2
 |nF x=>(obtain⟨_,_,_,h1,h2⟩:=h 0 0 0;simp only[xO]at h1;simp only[al]);(split at h1<;>first|(cases h1;done)|(rename_i hz;simp only[hz]));cases h1;exact h2
 |oe t x=>(obtain⟨_,_,_,h1,h2⟩:=h 0 0 0;simp only[xO]at h1;simp only[al]);cases h1;exact h2
 |od fn first captured=>
  (obtain⟨_,_,_,h1,h2⟩:=h 0 0 0;simp only[xO]at h1;simp only[al])
  split at h1
  ·rename_i a c ha hc;cases h1
   simp only[ha,hc];exact h2
  ·rename_i hn
   split at h1
   ·cases h1
    split
    ·exact absurd ‹_› (hn _ _ ‹_›)
    ·exact h2
   ·cases h1
 |slice e x lo hi=>
  (obtain⟨_,_,_,h1,h2⟩:=h 0 0 0;simp only[xO]at h1;simp only[al]);(split at h1<;>first|(cases h1;done)|(rename_i hy hz;simp only[hy,hz]));(split at h1<;>first|(cases h1;done)|(rename_i hz;simp only[hz]))
  ·obtain⟨hb,h1⟩:=gy h1
   cases h1
   simp only[Z6,nX,ZN]at hb
   obtain⟨⟨⟨h3,h4⟩,h5⟩,h6⟩:=hb
   exact⟨Z2 h3,h4,h5,h6,h2⟩
  ·obtain⟨hb,h1⟩:=gy h1
   cases h1
   simp only[Z6,nX,ZN]at hb
   obtain⟨⟨⟨h3,h4⟩,h5⟩,h6⟩:=hb
   exact⟨Z2 h3,h4,h5,h6,h2⟩
  ·obtain⟨hb,h1⟩:=gy h1
   cases h1
   simp only[Z6,CK,ZN]at hb
   exact⟨hb.1,hb.2,h2⟩
 |dk off x=>(obtain⟨_,_,_,h1,h2⟩:=h 0 0 0;simp only[xO]at h1;simp only[al]);(split at h1<;>first|(cases h1;done)|(rename_i hz;simp only[hz]))<;>(cases h1;exact h2)
 |field agg off m x=>
  (obtain⟨_,_,_,h1,h2⟩:=h 0 0 0;simp only[xO]at h1;simp only[al]);(split at h1<;>first|(cases h1;done)|(rename_i hz;simp only[hz]))
  obtain⟨hb,h1⟩:=ff h1
  refine⟨ZR hb,?_⟩
  cases agg with
  |true=>cases h1;rw[ZW rfl];exact h2
  |false=>
   rw[Z5 (by simp)]
   simp only[YD]at h1
   (split at h1<;>first|(cases h1;done)|(rename_i hz;simp only[hz]));cases h1;exact h2
 |iz e x i=>
  (obtain⟨_,_,_,h1,h2⟩:=h 0 0 0;simp only[xO]at h1;simp only[al]);(split at h1<;>first|(cases h1;done)|(rename_i hz;simp only[hz]));(split at h1<;>first|(cases h1;done)|(rename_i hz;simp only[hz]))
  ·obtain⟨hb,h1⟩:=gy h1
   cases h1
   simp only[Z6,nX,uY,ZN]at hb
   exact⟨Z2 hb.1.1,hb.1.2,hb.2,h2⟩
  ·obtain⟨hb,h1⟩:=gy h1
   cases h1
   simp only[Z6,nX,uY,ZN]at hb
   exact⟨Z2 hb.1.1,hb.1.2,hb.2,h2⟩
  ·obtain⟨hb,h1⟩:=ff h1
   rw[gQ]at h1
   cases h1
   simp only[Z6,nX,uY,ZN]at hb
   exact⟨hb.1,hb.2,h2⟩
 |mY n e x i=>
  (obtain⟨_,_,_,h1,h2⟩:=h 0 0 0;simp only[xO]at h1;simp only[al]);(split at h1<;>first|(cases h1;done)|(rename_i hz;simp only[hz]));(split at h1<;>first|(cases h1;done)|(rename_i hz;simp only[hz]))
  ·obtain⟨hb,h1⟩:=ff h1
   rw[gQ]at h1
   cases h1
   simp only[Z6,nX,uY,ZN]at hb
   exact⟨hb.1,hb.2,h2⟩
  ·obtain⟨hb,h1⟩:=gy h1
   cases h1
   simp only[Z6,nX,uY,ZN]at hb
   exact⟨hb.1,hb.2,h2⟩
  ·split at h1
   ·rename_i hg
    obtain⟨hb,h1⟩:=gy h1
    cases h1
    simp only[Z6,nX,uY,ZN]at hb
    exact⟨_,hT.gl _ _ hg,trivial,hb.1,hb.2,h2⟩
   ·cases h1
 |idxs x i=>
  (obtain⟨_,_,_,h1,h2⟩:=h 0 0 0;simp only[xO]at h1;simp only[al]);(split at h1<;>first|(cases h1;done)|(rename_i hy hz;simp only[hy,hz]))
  obtain⟨hb,h1⟩:=ff h1
  rw[nX,ZN]at hb
  split at h1
  ·rename_i c hc
   rw[gQ]at h1
   cases h1
   obtain⟨ar,rfl⟩:=ZK.1 hc
   exact⟨⟨hb,by simp only[Zv]at ar;simp only[ByteArray.size];omega⟩,h2⟩
  ·cases h1
 |extract x i=>
  (obtain⟨_,_,_,h1,h2⟩:=h 0 0 0;simp only[xO]at h1;simp only[al]);(split at h1<;>first|(cases h1;done)|(rename_i hz;simp only[hz]))
  ·(split at h1<;>first|(cases h1;done)|(rename_i hz;simp only[hz]));cases h1;exact h2
  ·split at h1
   ·rename_i hz;cases h1
    rw[Za]at hz
    simp only[hz];exact h2
   ·cases h1
 |len str x=>
  cases str with
  |true=>(obtain⟨_,_,_,h1,h2⟩:=h 0 0 0;simp only[xO]at h1;simp only[al]);(split at h1<;>first|(cases h1;done)|(rename_i hz;simp only[hz]));rw[gQ]at h1;cases h1;exact h2
  |false=>
   (obtain⟨_,_,_,h1,h2⟩:=h 0 0 0;simp only[xO]at h1;simp only[al]);(split at h1<;>first|(cases h1;done)|(rename_i hz;simp only[hz]))
   ·cases h1;exact h2
   ·cases h1;exact h2
   ·rw[gQ]at h1;cases h1;exact fun _=>h2
   ·rw[gQ]at h1;cases h1;exact fun _=>h2
 |append t e bytes z x y=>
  simp only[xO]at h;simp only[al]
  cases hr:qY e (ev rg y)with
  |none=>obtain⟨_,_,_,h1,h2⟩:=h 0 0 0;rw[hr]at h1;cases h1
  |some rows'=>
   simp only[hr]at h
   rw[Wh hr]
   obtain⟨_,_,_,h1,h2⟩:=h 0 0 0
   split at h1
   ·rename_i hx
    obtain⟨hb,h1⟩:=ff h1
    simp only[hx,hb,Y6]at h ⊢
    refine⟨ZR hb,fun e0=> ?_,fun e0 b u c _=> ?_⟩
    ·subst e0;cases h1;exact h2
    ·obtain⟨_,_,_,h1,h2⟩:=h b u c
     cases rows' with
     |nil=>exact absurd rfl e0
     |cons r l=>cases h1;exact h2
   ·rename_i hx
    simp only[hx]at h ⊢
    split at h1
    ·rename_i hl
     obtain⟨hb,h1⟩:=gy h1
     simp only[hl]at h
     simp only[hb,Y6]at h
     simp only[Z6]at hb
     obtain⟨⟨⟨⟨⟨h3,h4⟩,h5⟩,h6⟩,h7⟩,h8⟩:=hb
     have h3:=Z2 h3
     have h4:=Z2 h4
     have h5:=Z2 h5
     subst h3 h4 h5
     refine⟨Z2 h6,hl,ZR h7,h8,fun b' u' c' _=> ?_⟩
     obtain⟨_,_,_,h1,h2⟩:=h b' u' c'
     cases h1;exact h2
    ·cases h1
   ·rename_i hx
    obtain⟨hb,h1⟩:=ff h1
    simp only[hx,hb,Y6]at h ⊢
    simp only[Z6]at hb
    refine⟨Z2 hb.1,ZR hb.2,fun e0=> ?_,fun e0 b u c=> ?_⟩
    ·subst e0;cases h1;exact h2
    ·obtain⟨_,_,_,h1,h2⟩:=h b u c
     cases rows' with
     |nil=>exact absurd rfl e0
     |cons r l=>cases h1;exact h2
   ·cases h1
 |max2 x y=>(obtain⟨_,_,_,h1,h2⟩:=h 0 0 0;simp only[xO]at h1;simp only[al]);(split at h1<;>first|(cases h1;done)|(rename_i hy hz;simp only[hy,hz]));(split at h1<;>first|(cases h1;done)|(rename_i hz;simp only[hz]));rw[mK]at h1;cases h1;exact h2
 |min2 x y=>(obtain⟨_,_,_,h1,h2⟩:=h 0 0 0;simp only[xO]at h1;simp only[al]);(split at h1<;>first|(cases h1;done)|(rename_i hy hz;simp only[hy,hz]));(split at h1<;>first|(cases h1;done)|(rename_i hz;simp only[hz]));rw[mK]at h1;cases h1;exact h2
 |cQ op ty ti args=>
  (obtain⟨_,_,_,h1,h2⟩:=h 0 0 0;simp only[xO]at h1;simp only[al])
  split at h1
  ·rename_i as has
   split at h1
   ·rename_i r hr
    cases h1
    have:=((hT.vv _ _ _ _ _ _ hr).1.sp σ).mono (Q':=K) fun x σ' ⟨e1,e2⟩=>by subst e1 e2;exact h2
    exact fun bx M w0 w ρ hI hR=>this bx M w0 w ρ hI ((tp has).sound hR)
   ·cases h1
  ·cases h1
 |call f args=>obtain⟨_,_,_,h1,_⟩:=h 0 0 0;cases h1
 |fR f args=>obtain⟨_,_,_,h1,_⟩:=h 0 0 0;cases h1
 |exts op ty ti args=>obtain⟨_,_,_,h1,_⟩:=h 0 0 0;cases h1
 |panic x=>obtain⟨_,_,_,h1,_⟩:=h 0 0 0;cases h1
end
end Go.Sx
