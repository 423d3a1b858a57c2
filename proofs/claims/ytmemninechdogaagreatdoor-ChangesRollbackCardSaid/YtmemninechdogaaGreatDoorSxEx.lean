import Derived.Test.YtmemninechdogaaGreatDoorSxSt
set_option linter.all false
namespace Go.Sx
open Go.RowKit
def fN{q:Type}(n:Nat)(k:Nat->q):q:=match n with
 |0=>k 0|m+1=>k (m+1)
def fI{q:Type}(i:Int)(k:Int->q):q:=match i with
 |.ofNat n=>fN n fun n=>k (.ofNat n)
 |.negSucc n=>fN n fun n=>k (.negSucc n)
def fB{q:Type}(b:Bool)(k:Bool->q):q:=match b with
 |true=>k true|false=>k false
def fV{q:Type}(x:Value)(k:Value->q):q:=match x with
 |.int t i=>fI i fun i=>k (.int t i)
 |.bool b=>fB b fun b=>k (.bool b)
 |x=>k x
def wq:List UInt8->List UInt8->Bool
 |[],[]=>true|a::x,b::y=>Nat.beq a.toNat b.toNat&&wq x y|_,_=>false
def uy(a b:ByteArray):Bool:=wq a.data.toList b.data.toList
def K6(a b:ByteArray):ByteArray:=⟨(a.data.toList++b.data.toList).toArray⟩
def o0:Int->Int->Bool
 |.ofNat a,.ofNat b=>Nat.blt a b|.negSucc _,.ofNat _=>true|.ofNat _,.negSucc _=>false|.negSucc a,.negSucc b=>Nat.blt b a
def oZ:Int->Int->Bool
 |.ofNat a,.ofNat b=>Nat.beq a b|.negSucc a,.negSucc b=>Nat.beq a b|_,_=>false
def fi(a b:Int):Bool:= !o0 b a
def LO(op:BinOp):Value->Value->Option Value
 |.int k a,.int k' b=>match op with
  |.shl=>bif fi 0 b&&fi b k.bits then some (.int k (k.wrap (a*2^b.toNat)))else none|.shr=>bif fi 0 b&&fi b k.bits then some (.int k (a / 2^b.toNat))else none|op=>bif decide (k=k')then match op with
  |.add=>some (.int k (k.wrap (a+b)))|.sub=>some (.int k (k.wrap (a-b)))|.mul=>some (.int k (k.wrap (a*b)))|.quo=>bif oZ b 0 then none else some (.int k (k.wrap (a.tdiv b)))|.rem=>bif oZ b 0 then none else some (.int k (a.tmod b))|.eql=>some (.bool (oZ a b))|.neq=>some (.bool (!oZ a b))|.lss=>some (.bool (o0 a b))|.leq=>some (.bool (fi a b))|.gtr=>some (.bool (o0 b a))|.geq=>some (.bool (fi b a))|.and=>some (.int k (bits .and k a b))|.or=>some (.int k (bits .or k a b))|.xor=>some (.int k (bits .xor k a b))|.andNot=>some (.int k (bits .andNot k a b))|_=>none
  else none
 |.string a,.string b=>match op with
  |.add=>bif Nat.ble (a.size+b.size) 9223372036854775807 then some (.string (K6 a b))else none|.eql=>some (.bool (uy a b))|.neq=>some (.bool (!uy a b))|.lss=>some (.bool (Op.bytesLess a.data.toList b.data.toList))|.leq=>some (.bool (Op.bytesLess a.data.toList b.data.toList||uy a b))|.gtr=>some (.bool (!(Op.bytesLess a.data.toList b.data.toList||uy a b)))|.geq=>some (.bool (!Op.bytesLess a.data.toList b.data.toList))|_=>none
 |_,_=>none
mutual
def bM:AV->Option AV
 |.v x=>some (.v x)|.agg xs=>(SO xs).map .agg|.aG xs=>(SO xs).map .aG|.pc xs=>(SO xs).map .pc|.sl nn e rows=>(ig rows).map (.sl nn e)|.own e _ _ _ _ rows=>(ig rows).map (.sl true e)|.fl e rows=>(ig rows).map (.fl e)|.dD t x=>(bM x).map (.dD t)|_=>none
def SO:List AV->Option (List AV)
 |[]=>some []|x::l=>match bM x,SO l with
  |some y,some m=>some (y::m)|_,_=>none
def ig:List (List AV)->Option (List (List AV))
 |[]=>some []|x::l=>match SO x,ig l with
  |some y,some m=>some (y::m)|_,_=>none
end
abbrev XO:=Option (AV×Store×Nat)
structure XT where
 code:FuncId->Option (Nat×AC×List RC)
 cfg:FuncId->Nat->Nat
 pure:FuncId->List AV->Option AV
 uk:Op->TypeId->List TI->List Operand->List AV->Option AV
 ops:Op->TypeId->List TI->List Operand->List AV->Nat->Nat->Store->XO
 gl:Nat->Option (List AV)
 can:FuncId->Bool
 st:FuncId->Bool
def pP(agg:Bool)(o m:Nat)(l:List AV):Option AV:=
 bif agg then bif Nat.ble (o+m) l.length then some (.agg ((l.drop o).take m))else none else l[o]?
def qH(ah:Nat):AV->Option (List (List AV))
 |.sl _ e rows=>bif Nat.beq e ah then some rows else none|.own e _ _ _ _ rows=>bif Nat.beq e ah then some rows else none|.v (.slice none 0 0)=>some []|.v (.string s)=>bif Nat.beq ah 1 then some (s.data.toList.map dB)else none|_=>none
section
variable (T:XT)(cfg:Nat->Nat)(rl:Bool)
def xO(d b0 u0 c0:Nat)(rg:ag)(σ:Store):aB->Option (AV×Store×Bool)
 |.mv x=>some (ev rg x,σ,false)|.pick c a b=>match ev rg c with
  |.v (.bool t)=>some (bif t then ev rg a else ev rg b,σ,false)|_=>none
 |.box _ x=>match(ev rg x).cells? with
  |some l=>some (.lp d b0 0,(d,b0,.cells l)::σ,true)|none=>none
 |.alloc _ z=>some (.lp d b0 0,(d,b0,.cells (z.cells.toList.map .v))::σ,true)|.build z parts=>match pU (z.map .v) (mG rg parts)with
  |some l=>some (.agg l,σ,false)|none=>none
 | .TO _ ah parts=>match rowsOf ah (aL rg parts)with
  |some rows=>bif Nat.ble rows.length 1000000 then match cfg d with
   |0=>some (.sl true ah rows,σ,false)|1=>bif Nat.blt 0 ah then some (.own ah d b0 u0 c0 rows,(d,b0,.tail u0 c0)::σ,true)else none|3=>some (.fl ah rows,σ,false)|_=>some (.ms d b0 0 rows.length rows.length,(d,b0,.cells rows.flatten)::σ,true)
   else none
  |none=>none
 |.load agg m x=>match ev rg x with
  |.lp t b o=>match aV σ t with
   |some (b',.cells l)=>bif Nat.beq b b' then(pP agg o m l).map fun y=>(y,σ,false)else none
   |_=>none
  |.pc l=>(pP agg 0 m l).map fun y=>(y,σ,false)
  |.v (.pointer (some ⟨g,0,none⟩))=>match T.gl g with
   |some l=>(pP agg 0 m l).map fun y=>(y,σ,false)
   |none=>none
  |_=>none
 |.store m x y=>match ev rg x,(ev rg y).cells? with
  |.lp t b o,some l'=>match aV σ t with
   |some (b',.cells l)=>bif Nat.beq b b'&&Nat.beq l'.length m&&l'.all AV.one&&Nat.ble (o+m) l.length then some (.v undef,du σ t b (.cells (over l o l')),false)else none|_=>none
  |_,_=>none
 |.ng x=>match ev rg x with
  |.v (.pointer (some a))=>some (.v (.pointer (some a)),σ,false)|.lp t b o=>some (.lp t b o,σ,false)|.pc l=>some (.pc l,σ,false)|.v (.func (.func f) a c)=>some (.v (.func (.func f) a c),σ,false)|.cl f a c=>some (.cl f a c,σ,false)|_=>none
 |.bin op x y=>match ev rg x,ev rg y with
  |.v a,.v b=>match LO op a b with
   |some r=>fV r fun r=>some (.v r,σ,false)
   |none=>none
  |_,_=>none
 |.jt neg k x y=>match td k (ev rg x) (ev rg y)with
  |some b=>fB (b ^^ neg) fun b=>some (.v (.bool b),σ,false)
  |none=>none
 |.eqs neg ks x y=>match(ev rg x).iZ,(ev rg y).iZ with
  |some xs,some ys=>match nz ks xs ys with
   |some b=>fB (b ^^ neg) fun b=>some (.v (.bool b),σ,false)
   |none=>none
  |_,_=>none
 |.un op x=>match ev rg x with
  |.v a=>match FD op a with
   |some r=>fV r fun r=>some (.v r,σ,false)
   |none=>none
  |_=>none
 |.mD k x=>match ev rg x with
  |.v (.int _ i)=>fI (k.wrap i) fun i=>some (.v (.int k i),σ,false)
  |_=>none
 |.nw x=>match ev rg x with
  |.v (.string s)=>some (.v (.string s),σ,false)|_=>none
 |.nR t x=>some (.dD t (ev rg x),σ,false)|.nQ fn first captured=>match rl with
  |true=>match bR (aL rg first),bR (aL rg captured)with
   |some a,some c=>some (.v (.func fn a.toArray c.toArray),σ,false)|_,_=>match fn with
    |.func f=>some (.cl f (aL rg first) (aL rg captured),σ,false)|_=>none
  |false=>match iq (aL rg first),iq (aL rg captured)with
   |some a,some c=>some (.v (.func fn a.toArray c.toArray),σ,false)|_,_=>match fn with
    |.func f=>some (.cl f (aL rg first) (aL rg captured),σ,false)|_=>none
 |.slice ah x lo hi=>match iS (lo.map (ev rg)),iS (hi.map (ev rg))with
  |some lo,some hi=>match ev rg x with
   |.sl nn e rows=>bif Nat.beq e ah&&fi 0 (lo.getD 0)&&fi (lo.getD 0) (hi.getD rows.length)&&fi (hi.getD rows.length) rows.length then
     some (.sl nn ah ((rows.take (hi.getD rows.length).toNat).drop (lo.getD 0).toNat),σ,false)else none
   |.own e tg b u c rows=>bif Nat.beq e ah&&fi 0 (lo.getD 0)&&fi (lo.getD 0) (hi.getD rows.length)&&fi (hi.getD rows.length) rows.length then
     some (if hi.isNone then .own ah tg b u c (rows.drop (lo.getD 0).toNat)else .sl true ah ((rows.take (hi.getD rows.length).toNat).drop (lo.getD 0).toNat),σ,false)else none
   |.v (.slice none 0 0)=>bif oZ (lo.getD 0) 0&&oZ (hi.getD 0) 0 then some (.v (.slice none 0 0),σ,false)else none|_=>none
  |_,_=>none
 |.cG off x=>match ev rg x with
  |.lp t b o=>some (.lp t b (o+off),σ,false)|.pc l=>some (.pc (l.drop off),σ,false)|_=>none
 |.field agg off m x=>match(ev rg x).iZ with
  |some l=>bif Nat.ble (off+m) l.length then(bif agg then some (.agg ((l.drop off).take m),σ,false)else match l[off]? with
   |some y=>some (y,σ,false)|none=>none)else none
  |none=>none
 |.fh ah x i=>match ev rg i with
  |.v (.int _ i)=>match ev rg x with
   |.sl _ e rows=>bif Nat.beq e ah&&fi 0 i&&o0 i rows.length then some (.pc (rows.getD i.toNat []),σ,false)else none|.own e _ _ _ _ rows=>bif Nat.beq e ah&&fi 0 i&&o0 i rows.length then some (.pc (rows.getD i.toNat []),σ,false)else none|.ms t b o m _=>bif fi 0 i&&o0 i m then fN (o+i.toNat*ah) fun o=>some (.lp t b o,σ,false)else none
   |_=>none
  |_=>none
 |.mV len ah x i=>match ev rg i with
  |.v (.int _ i)=>match ev rg x with
   |.lp t b o=>bif fi 0 i&&o0 i len then fN (o+i.toNat*ah) fun o=>some (.lp t b o,σ,false)else none
   |.pc l=>bif fi 0 i&&o0 i len then some (.pc (l.drop (i.toNat*ah)),σ,false)else none|.v (.pointer (some ⟨g,0,none⟩))=>match T.gl g with
    |some l=>bif fi 0 i&&o0 i len then some (.pc (l.drop (i.toNat*ah)),σ,false)else none|none=>none
   |_=>none
  |_=>none
 |.idxs x i=>match ev rg i,ev rg x with
  |.v (.int _ i),.v (.string s)=>bif fi 0 i then match s.data.toList[i.toNat]? with
   |some c=>fN c.toNat fun c=>some (.v (.int .u8 (.ofNat c)),σ,false)
   |none=>none
   else none
  |_,_=>none
 |.extract x i=>match ev rg x with
  |.aG xs=>match xs[i]? with
   |some y=>some (y,σ,false)|none=>none
  |.v (.tuple vs)=>match vs.toList[i]? with
   |some y=>some (.v y,σ,false)|none=>none
  |_=>none
 |.len true x=>match ev rg x with
  |.v (.string s)=>fN s.data.toList.length fun k=>some (.v (.int .i64 (.ofNat k)),σ,false)
  |_=>none
 |.len false x=>match ev rg x with
  |.v (.slice _ k _)=>some (.v (.int .i64 (.ofNat k)),σ,false)|.ms _ _ _ k _=>some (.v (.int .i64 (.ofNat k)),σ,false)|.sl _ _ rows=>fN rows.length fun k=>some (.v (.int .i64 (.ofNat k)),σ,false)
  |.own _ _ _ _ _ rows=>fN rows.length fun k=>some (.v (.int .i64 (.ofNat k)),σ,false)
  |_=>none
 |.append _ ah bytes _ x y=>match qH ah (ev rg y)with
  |some rows'=>match ev rg x with
   |.v (.slice none 0 0)=>bif Nat.ble (rows'.length*bytes) 35184372088832 then match rows' with
    |[]=>some (.v (.slice none 0 0),σ,false)|_=>some (.own ah d b0 u0 c0 rows',(d,b0,.tail u0 c0)::σ,true)
    else none
   |.own e tg b u c rows=>match aV σ tg with
    |some (b',.tail u' c')=>bif Nat.beq b b'&&Nat.beq u u'&&Nat.beq c c'&&Nat.beq e ah&&Nat.ble ((rows.length+rows'.length)*bytes) 35184372088832&&rows'.all (fun r=>r.all AV.one)then
      some (.own ah tg b0 u0 c0 (rows++rows'),du σ tg b0 (.tail u0 c0),true)else none
    |_=>none
   |.fl e rows=>bif Nat.beq e ah&&Nat.ble ((rows.length+rows'.length)*bytes) 35184372088832 then match rows' with
    |[]=>some (.fl ah rows,σ,false)|_=>some (.own ah d b0 u0 c0 (rows++rows'),(d,b0,.tail u0 c0)::σ,true)
    else none
   |_=>none
  |none=>none
 |.max2 x y=>match ev rg x,ev rg y with
  |.v a,.v b=>match uc false a b with
   |some r=>fV r fun r=>some (.v r,σ,false)
   |none=>none
  |_,_=>none
 |.min2 x y=>match ev rg x,ev rg y with
  |.v a,.v b=>match uc true a b with
   |some r=>fV r fun r=>some (.v r,σ,false)
   |none=>none
  |_,_=>none
 |.cL op ty ti args=>match SO (aL rg args)with
  |some as=>match T.uk op ty ti args as with
   |some r=>some (r,σ,false)|none=>none
  |none=>none
 |_=>none
def oe(d n:Nat)(rg:ag)(σ:Store)(op:aB):XO:=match xO T cfg false d n 0 0 rg σ op with
 |some (x,af,_)=>some (x,af,n+1)|none=>none
variable (call:FuncId->List AV->Store->Nat->XO)
def xS(d n:Nat)(rg:ag)(σ:Store)(op:aB):XO:=match op with
 |.call f args=>call f (aL rg args) σ n|.fZ f args=>match ev rg f with
  |.v (.func (.func f) a c)=>bif T.can f then call f (a.toList.map .v++aL rg args++c.toList.map .v) σ n else none|.cl f a c=>bif T.can f then call f (a++aL rg args++c) σ n else none|_=>none
 |.exts op ty ti args=>T.ops op ty ti args (aL rg args) d n σ|.cL op ty ti args=>match oe T cfg d n rg σ (.cL op ty ti args)with
  |some r=>some r|none=>T.ops op ty ti args (aL rg args) d n σ
 |op=>oe T cfg d n rg σ op
def xL:List CI->ag->Store->Nat->Option (ag×Store×Nat)
 |[],rg,σ,n=>some (rg,σ,n)|c::l,rg,σ,n=>match c.g with
  |none=>match xS T cfg call (c.d.getD 0) n rg σ c.op with
   |some (x,af,n')=>xL l (bB c.d x rg) af n'|none=>none
  |some (t,want)=>match lk rg t with
   |.v (.bool b)=>match b == want with
    |true=>match xS T cfg call (c.d.getD 0) n ((t,.v (.bool want))::rg) σ c.op with
     |some (x,af,n')=>xL l (bB c.d x ((t,.v (.bool want))::rg)) af n'|none=>none
    |false=>xL l (bB c.d (.v undef) ((t,.v (.bool !want))::rg)) σ n
   |.v (.tuple _)=>xL l (bB c.d (.v undef) rg) σ n|_=>none
end
mutual
def Tx:AV->List Nat->List Nat
 |.agg xs,k|.aG xs,k|.pc xs,k=>se xs k|.sl _ _ rows,k|.fl _ rows,k=>K4 rows k|.own _ _ b _ _ rows,k=>b::K4 rows k|.ms _ b _ _ _,k|.lp _ b _,k|.bJ _ b,k=>b::k|.dD _ x,k=>Tx x k|.cl _ a c,k=>se a (se c k)|.v _,k|.any,k|.ai _,k=>k
def se:List AV->List Nat->List Nat
 |[],k=>k|x::l,k=>Tx x (se l k)
def K4:List (List AV)->List Nat->List Nat
 |[],k=>k|r::l,k=>se r (K4 l k)
end
mutual
def dI(f:Nat->Nat->Nat):AV->AV
 |.agg xs=>.agg (jO f xs)|.aG xs=>.aG (jO f xs)|.pc xs=>.pc (jO f xs)|.sl nn e rows=>.sl nn e (pn f rows)|.fl e rows=>.fl e (pn f rows)|.own e t b u c rows=>.own e (f t b) b u c (pn f rows)|.ms t b o n c=>.ms (f t b) b o n c|.lp t b o=>.lp (f t b) b o|.bJ t b=>.bJ (f t b) b|.dD t x=>.dD t (dI f x)|.cl g a c=>.cl g (jO f a) (jO f c)|.v x=>.v x|.any=>.any|.ai k=>.ai k
def jO(f:Nat->Nat->Nat):List AV->List AV
 |[]=>[]
 |x::l=>dI f x::jO f l
def pn(f:Nat->Nat->Nat):List (List AV)->List (List AV)
 |[]=>[]
 |r::l=>jO f r::pn f l
end
def stB:aE->List Nat->List Nat
 |.cells l,k=>se l k|.tail _ _,k=>k|.map es _,k=>se (es.map (·.2.2)) k
def yF(f:Nat->Nat->Nat):aE->aE
 |.cells l=>.cells (jO f l)|.tail u c=>.tail u c|.map es k=>.map (es.map fun e=>(e.1,e.2.1,dI f e.2.2)) k
def mg(f:Nat->Nat->Nat):Store->Store
 |[]=>[]
 |(t,b,x)::l=>(f t b,b,yF f x)::mg f l
def yG(f:Nat->Nat->Nat):ag->ag
 |[]=>[]
 |(i,x)::l=>(i,dI f x)::yG f l
def TA:Store->List Nat
 |[]=>[]
 |(_,_,x)::l=>stB x (TA l)
def jZ(_ b:Nat):Nat:=b+1000000
def tq(n0:Nat)(live:List Nat):Store->Store
 |[]=>[]
 |(t,b,x)::l=>bif Nat.blt b n0||live.elem b then(t,b,x)::tq n0 live l else tq n0 live l
def gc(n0:Nat)(roots:List AV)(σ:Store):Store:=match σ with
 |[]=>[]
 |σ=>tq n0 (se roots (TA σ)) σ
def JQ{q:Type}:List q->Bool
 |[]=>true|_=>false
def BK(σ:Store)(t b:Nat):Nat:=match σ with
 |[]=>t|(t',b',_)::l=>bif Nat.beq b b' then t' else BK l t b
inductive XE where
 |nrm
 |ret
 |exit (i:Nat)
 |goto (l:Nat)
abbrev XS:=Option (XE×ag×Store×Nat)
section
variable (T:XT)(cfg:Nat->Nat)(call:FuncId->List AV->Store->Nat->XO)(dR:FuncId->List AV->Nat->Option AV)
def BV(d n:Nat)(rg:ag)(σ:Store)(op:aB):XO:=match op with
 | .TO t e parts=>match cfg d with
  |0|3=>oe T cfg d n rg σ (.TO t e parts)|_=>none
 |.call f args=>(dR f (aL rg args) n).map fun r=>(r,σ,n)
 |.fZ f args=>match ev rg f with
  |.v (.func (.func f) a c)=>bif T.can f then(dR f (a.toList.map .v++aL rg args++c.toList.map .v) n).map fun r=>(r,σ,n)else none
  |.cl f a c=>bif T.can f then(dR f (a++aL rg args++c) n).map fun r=>(r,σ,n)else none
  |_=>none
 |op=>oe T cfg d n rg σ op
def BU(aq cf:List Nat)(d n:Nat)(rg:ag)(σ:Store)(op:aB):XO:=match op.cls with
 |0=>BV T cfg dR d n rg σ op|1=>bif mY aq cf rg op then oe T cfg d n rg σ op else none|2=>oe T cfg d n rg σ op|3=>bif oa aq cf rg op then oe T cfg d n rg σ op else none|4=>bif isApp op&&aq.elem d then oe T cfg d n rg σ op else none|_=>none
def xM(aq:List Nat):List CD->ag->Store->Nat->Option (ag×Store×Nat)
 |[],rg,σ,n=>some (rg,σ,n)|c::l,rg,σ,n=>match c.c.g with
  |none=>match BU T cfg dR aq c.cf (c.c.d.getD 0) n rg σ c.c.op with
   |some (x,af,n')=>xM aq l (bB c.c.d x rg) af n'|none=>none
  |some (t,want)=>match lk rg t with
   |.v (.bool b)=>match b == want with
    |true=>match BU T cfg dR aq c.cf (c.c.d.getD 0) n rg σ c.c.op with
     |some (x,af,n')=>xM aq l (bB c.c.d x rg) af n'|none=>none
    |false=>xM aq l (bB c.c.d (.v undef) rg) σ n
   |.v (.tuple _)=>xM aq l (bB c.c.d (.v undef) rg) σ n|_=>none
def uU(st:FuncId->Bool):List CI->Option (List CI×CI×List CI)
 |[]=>none|c::l=>match c.op with
  |.call f _=>bif st f then some ([],c,l)else match uU st l with
   |some (a,s,b)=>some (c::a,s,b)|none=>none
  |_=>match uU st l with
   |some (a,s,b)=>some (c::a,s,b)|none=>none
def Ev(c:CI):Bool:=match c.g with
 |none=>true|some _=>false
def isNone{q:Type}:Option q->Bool
 |none=>true|some _=>false
def FY(l1:List CI)(s:CI)(l2:List CI)(rg:ag)(σ:Store)(n:Nat):Option (ag×Store×Nat):=match xM T cfg dR [] (bare l1) rg σ n with
 |some (rg,σ,n)=>match xS T cfg call (s.d.getD 0) n rg σ s.op with
  |some (x,σ,n)=>xM T cfg dR [] (bare l2) (bB s.d x rg) σ n|none=>none
 |none=>none
def xD(l:List CI)(rg:ag)(σ:Store)(n:Nat):Option (ag×Store×Nat):=match uV l with
 |some (l1,s,l2)=>bif rZ l l1.length&&Ev s then FY T cfg call dR l1 s l2 rg σ n else none|none=>match uU T.st l with
  |some (l1,s,l2)=>bif rZ l l1.length&&Ev s&&isNone (qt l 0)then FY T cfg call dR l1 s l2 rg σ n else none|none=>xM T cfg dR [] (bare l) rg σ n
def y5:Option (ag×Store×Nat)->XS
 |some (rg,σ,n)=>some (.nrm,rg,σ,n)|none=>none
def xC(n0:Nat)(again:AC->ag->Store->Nat->XS)(jump:AC->Nat->ag->Store->Nat->XS):AC->ag->Store->Nat->XS
 |.skip,rg,σ,n=>some (.nrm,rg,σ,n)|.bh l,rg,σ,n=>y5 (xL T cfg call l rg σ n)|.de l,rg,σ,n=>y5 (xD T cfg call dR l rg σ n)|.eR aq l,rg,σ,n=>y5 (xM T cfg dR aq l rg σ n)|.seq a b,rg,σ,n=>match xC n0 again jump a rg σ n with
  |some (.nrm,rg,σ,n)=>xC n0 again jump b rg σ n|r=>r
 |.cond c t e,rg,σ,n=>match ev rg c with
  |.v (.bool true)=>xC n0 again jump t rg σ n|.v (.bool false)=>xC n0 again jump e rg σ n|_=>none
 |.block id b,rg,σ,n=>match xC n0 again jump b rg σ n with
  |some (.exit i,rg,σ,n)=>bif Nat.beq i id then some (.nrm,rg,σ,n)else some (.exit i,rg,σ,n)|r=>r
 |.loop b,rg,σ,n=>again b rg σ n|.exit i,rg,σ,n=>some (.exit i,rg,σ,n)|.ret,rg,σ,n=>some (.ret,rg,σ,n)|.goto l,rg,σ,n=>some (.goto l,rg,σ,n)|.label _,rg,σ,n=>some (.nrm,rg,σ,n)|.aH ks a,rg,σ,n=>match lL ks rg with
  |some rg=>xC n0 again jump a (yG jZ rg) (gc n0 (rg.map (·.2)) (mg jZ σ)) n|none=>none
 |.stop a,rg,σ,n=>xC n0 again jump a rg σ n|.scope b,rg,σ,n=>match xC n0 again jump b rg σ n with
  |some (.goto l,rg,σ,n)=>jump b l rg σ n|r=>r
end
section
variable (T:XT)
structure Cq where
 call:FuncId->List AV->Store->Nat->XO
 turn:FuncId->Nat->AC->ag->Store->Nat->XS
 jump:FuncId->Nat->AC->Nat->ag->Store->Nat->XS
def pM(call:FuncId->List AV->Store->Nat->XO)(f:FuncId)(as:List AV)(n:Nat):Option AV:=match SO as with
 |none=>none|some as=>match call f as [] n with
  |some (x,_,_)=>bM x|none=>none
def sF(r:Cq)(f:FuncId)(n0:Nat):AC->ag->Store->Nat->XS:=xC T (T.cfg f) r.call (pM r.call) n0 (r.turn f n0) (r.jump f n0)
def LP(r:Cq)(f:FuncId)(as:List AV)(σ:Store)(n:Nat):XO:=match T.pure f as with
 |some x=>some (x,σ,n)|none=>match T.code f with
  |none=>none|some (N,a,res)=>bif Nat.ble as.length N then match JQ (se as [])with
    |true=>match sF T r f n a (fJ 0 as) [] n with
     |some (.nrm,rg,aR,n1)|some (.ret,rg,aR,n1)=>match cZ rg aR res with
      |some x=>some (dI jZ x,gc n [x] (mg jZ aR)++σ,n1)|none=>none
     |_=>none
    |false=>match sF T r f n a (fJ 0 (jO jZ as)) (mg jZ σ) n with
     |some (.nrm,rg,aR,n1)|some (.ret,rg,aR,n1)=>match cZ rg aR res with
      |some x=>some (dI (BK σ) (dI jZ x),mg (BK σ) (gc n [x] (mg jZ aR)),n1)|none=>none
     |_=>none
   else none
def eC:Nat->Cq
 |0=>⟨fun _ _ _ _=>none,fun _ _ _ _ _ _=>none,fun _ _ _ _ _ _ _=>none⟩
 |k+1=>⟨LP T (eC k),fun f n0 b rg σ n=>match sF T (eC k) f n0 b rg σ n with
  |some (.nrm,rg,σ,n)=>(eC k).turn f n0 b rg σ n|r=>r,fun f n0 b l rg σ n=>match rJ b l with
  |none=>none|some r=>match sF T (eC k) f n0 r rg σ n with
   |some (.goto l',rg,σ,n)=>(eC k).jump f n0 b l' rg σ n|r=>r⟩
end
theorem gC{q:Type}(n:Nat)(k:Nat->q):fN n k=k n:=by cases n<;>rfl
theorem zK{q:Type}(i:Int)(k:Int->q):fI i k=k i:=by cases i<;>simp[fI,gC]
theorem tj{q:Type}(b:Bool)(k:Bool->q):fB b k=k b:=by cases b<;>rfl
theorem mI{q:Type}(x:Value)(k:Value->q):fV x k=k x:=by cases x<;>simp[fV,zK,tj]
theorem A3(a b:Int):oZ a b=decide (a=b):=by
 rw[YH,ZQ];cases a<;>cases b
 .exact⟨fun h=>Zk Int.ofNat (Z0 h),fun h=>by cases h;exact Yv _⟩
 .exact⟨fun h=>(nomatch h),fun h=>(nomatch h)⟩
 .exact⟨fun h=>(nomatch h),fun h=>(nomatch h)⟩
 .exact⟨fun h=>Zk Int.negSucc (Z0 h),fun h=>by cases h;exact Yv _⟩
theorem tV(a b:Int):o0 a b=decide (a<b):=by
 rw[YH,ZQ];cases a<;>cases b<;>simp only[o0,Yw,Int.ofNat_eq_natCast,Int.negSucc_eq]
 .omega
 .grind
 .grind
 grind
theorem nM(a b:Int):fi a b=decide (a<=b):=by rw[YH];simp only[fi,tV,YA,decide_eq_false_iff_not,ZQ];omega
theorem Rl:∀(a b:List UInt8),wq a b=decide (a=b)
 |[],[]=>by rfl|[],_::_=>by rfl|_::_,[]=>by rfl|a::x,b::y=>by rw[YH];simp only[wq,Rl x y,Z6,Nat.beq_eq,ZQ,Z2,UInt8.toNat_inj]
theorem K7(a b:ByteArray):uy a b=decide (a=b):=by obtain⟨⟨a⟩⟩:=a;obtain⟨⟨b⟩⟩:=b;simp only[uy,Rl,ZQ,ByteArray.mk.injEq,Array.mk.injEq]
theorem ali(a b:ByteArray):K6 a b=a++b:=by obtain⟨⟨a⟩⟩:=a;obtain⟨⟨b⟩⟩:=b;refine ByteArray.ext ?_;simp[K6,ByteArray.data_append]
theorem amy{op:BinOp}{a b r:Value}{K:Value->Prop}(h:LO op a b=some r)(hk:K r):mo op a b K:=by
 unfold LO at h;split at h
 .rename_i k a k' b;have same:∀{y:Option Value},(bif decide (k=k')then y else none)=some r->k=k'/\y=some r:=fun {y} h=>by grind
  have sh:∀{y:Value},(bif fi 0 b&&fi b k.bits then some y else none)=some r->0<=b/\b<=k.bits/\K y:=fun {y} h=>by
   cases hb:(fi 0 b&&fi b k.bits)with
   |false=>grind|true=>rw[hb]at h;cases h;simp only[Z6,nM,ZQ]at hb;grind
  have dv:∀{y:Value},(bif oZ b 0 then none else some y)=some r->b≠0/\K y:=fun {y} h=>by
   cases hb:oZ b 0 with
   |true=>grind|false=>rw[hb]at h;cases h;rw[A3]at hb;grind
  cases op
  case shl=>exact sh h
  case shr=>exact sh h
  case quo=>obtain⟨e,h⟩:=same h;exact⟨e,dv h⟩
  case rem=>obtain⟨e,h⟩:=same h;exact⟨e,dv h⟩
  all_goals
   obtain⟨e,h⟩:=same h;simp only[ZV,A3,tV,nM]at h;simp only[mo];exact⟨e,by subst h;first|exact hk|simpa using hk⟩
 .rename_i a b;cases op<;>simp only[ZV,reduceCtorEq,K7,ali]at h<;>simp only[mo]
  case add=>
   cases hb:Nat.ble (a.size+b.size) 9223372036854775807<;>simp only[hb,Y8,Yx,reduceCtorEq,ZV]at h;subst h;exact⟨ZE hb,hk⟩
  all_goals(subst h;simpa only[ByteArray.toList_eq]using hk)
 grind
theorem GR{o m:Nat}{l:List AV}{y:AV}(h:pP false o m l=some y):l[o]? =some y:=h
theorem GV{o m:Nat}{l:List AV}{y:AV}(h:pP true o m l=some y):o+m<=l.length/\y= .agg ((l.drop o).take m):=by unfold pP at h;cases hb:Nat.ble (o+m) l.length<;>simp only[hb,Y8,Yx,reduceCtorEq,ZV]at h;simp_all
theorem UU{e:Nat}{x:AV}{r:List (List AV)}(h:qH e x=some r):dH e x=some r:=by
 unfold qH at h;split at h
 .rename_i nn e' rows;cases hb:Nat.beq e' e<;>simp only[hb,Y8,Yx,reduceCtorEq,ZV]at h;simp only[dH,Z3 (Z0 hb),h]
 .rename_i e' _ _ _ _ rows;cases hb:Nat.beq e' e<;>simp only[hb,Y8,Yx,reduceCtorEq,ZV]at h;simp only[dH,Z3 (Z0 hb),h]
 .assumption
 .cases hb:Nat.beq e 1<;>simp only[hb,Y8,Yx,reduceCtorEq,ZV]at h;simp only[dH,Z3 (Z0 hb),h]
 grind
theorem cj.get{xs ys:List AV}(h:cj xs ys):xs.length=ys.length/\∀k (h1:k<xs.length) (h2:k<ys.length),Wk xs[k] ys[k]:=by
 induction h with
 |nil=>grind|cons hx _ ih=>grind
theorem Wk.Km{xs ys:List AV}(h:cj xs ys):Wk (.pc xs) (.pc ys):=fun M v k=>by obtain⟨b,off,cs,rfl,h1,h2⟩:=k.uj;obtain⟨e,hp⟩:=h.get;exact .pc _ b off cs (fun k hk=>h1 k (by omega)) fun k hk=>hp k (by omega) hk _ _ (h2 k (by omega))
def w9(a b:List (List AV)):Prop:=a.length=b.length/\∀i (h1:i<a.length) (h2:i<b.length),cj a[i] b[i]
theorem Wk.E9{nn:Bool}{e:Nat}{a b:List (List AV)}(h:w9 a b):Wk (.sl nn e a) (.sl nn e b):=fun M v k=>by
 obtain⟨el,h⟩:=h;cases k with
 |nil _ _ ad hn=>cases b with
  |nil=>exact .nil _ _ _ hn|cons _ _=>grind
 |sl _ _ _ bb off cap cs h1 h2 h3 h4 h5=>
  rw[el];refine .sl _ _ _ bb off cap cs (fun i hi=>?_) (fun k hk=>h2 k (by rwa [el])) (fun i hi j hj=>?_) (by omega) h5
  .rw[← (h i (by omega) hi).get.1];grind
  .have hg:=(h i (by omega) hi).get;exact hg.2 j (by omega) hj _ _ (h3 i (by omega) j (by omega))
theorem Wk.HQ{e:Nat}{x y:List (List AV)}(h:w9 x y):Wk (.fl e x) (.fl e y):=fun M v k=>by
 obtain⟨el,h⟩:=h;cases k with
 |fl _ _ b off cs h1 h2 h3 h4=>
  rw[el];refine .fl _ _ b off cs (fun i hi=>?_) (fun k hk=>h2 k (by rwa [el])) (fun i hi j hj=>?_) (by omega)
  .rw[← (h i (by omega) hi).get.1];grind
  .have hg:=(h i (by omega) hi).get;exact hg.2 j (by omega) hj _ _ (h3 i (by omega) j (by omega))
theorem Wk.P4{t:TypeId}{x y:AV}(h:Wk x y):Wk (.dD t x) (.dD t y):=fun M v k=>by obtain⟨u,rfl,hu⟩:=k.R1;exact .dD _ _ _ (h _ _ hu)
theorem Wk.clW{f:FuncId}{a c a' c':List AV}(h:cj a a')(h':cj c c'):Wk (.cl f a c) (.cl f a' c'):=fun M v k=>by obtain⟨va,vc,rfl,h1,h2⟩:=k.Kb;have k1:=h.sound h1;have k2:=h'.sound h2;exact .cl _ _ _ _ _ k1.1 k2.1 k1.2 k2.2
mutual
theorem LG:∀{x y:AV},bM x=some y->Wk x y
 |.v x,y,h=>by simp only[bM,ZV]at h;exact .ED h|.agg xs,y,h=>by simp only[bM,Z8]at h;obtain⟨l,h1,rfl⟩:=h;exact .agg (su h1)
 |.aG xs,y,h=>by simp only[bM,Z8]at h;obtain⟨l,h1,rfl⟩:=h;exact .aG (su h1)
 |.pc xs,y,h=>by simp only[bM,Z8]at h;obtain⟨l,h1,rfl⟩:=h;exact .Km (su h1)
 |.sl nn e rows,y,h=>by simp only[bM,Z8]at h;obtain⟨l,h1,rfl⟩:=h;exact .E9 (FR h1)
 |.own e _ _ _ _ rows,y,h=>by simp only[bM,Z8]at h;obtain⟨l,h1,rfl⟩:=h;exact(Wk.own true).trans (.E9 (FR h1))
 |.dD t x,y,h=>by simp only[bM,Z8]at h;obtain⟨l,h1,rfl⟩:=h;exact .P4 (LG h1)
 |.cl ..,_,h=>by simp[bM]at h|.any,_,h=>by simp[bM]at h|.ms ..,_,h=>by simp[bM]at h|.lp ..,_,h=>by simp[bM]at h|.bJ ..,_,h=>by simp[bM]at h|.ai _,_,h=>by simp[bM]at h|.fl e rows,y,h=>by simp only[bM,Z8]at h;obtain⟨l,h1,rfl⟩:=h;exact .HQ (FR h1)
theorem su:∀{l m:List AV},SO l=some m->cj l m
 |[],m,h=>by simp only[SO,ZV]at h;subst h;exact .nil|x::l,m,h=>by
  simp only[SO]at h;cases hx:bM x with
  |none=>rw[hx]at h;cases h|some y=>cases hl:SO l with
   |none=>rw[hx,hl]at h;cases h|some m'=>rw[hx,hl]at h;cases h;exact .cons (LG hx) (su hl)
theorem FR:∀{l m:List (List AV)},ig l=some m->w9 l m
 |[],m,h=>by simp only[ig,ZV]at h;subst h;exact⟨rfl,fun i h=>absurd h (by simp)⟩|x::l,m,h=>by
  simp only[ig]at h;cases hx:SO x with
  |none=>rw[hx]at h;cases h|some y=>cases hl:ig l with
   |none=>rw[hx,hl]at h;cases h|some m'=>
    rw[hx,hl]at h;cases h;obtain⟨e,k⟩:=FR hl;refine⟨by simp[e],fun i h1 h2=>?_⟩;cases i with
    |zero=>exact su hx|succ i=>simpa using k i (by simpa using h1) (by simpa using h2)
end
structure XT.OK(P:Program)[Glob P](T:XT):Prop where
 gl:∀g l,T.gl g=some l->Glob.av P g=some l
 Ic:∀g l,T.gl g=some l->SO l=some l
 uk:∀op ty ti args as r,T.uk op ty ti args as=some r->jU P op ty ti args as r/\bM r=some r
 can:∀f,T.can f=true->im P f=true
section
variable {P:Program}[Glob P]{T:XT}{cfg:Nat->Nat}{dd:Option Nat}{rg:ag}{σ:Store}{K:AV->Store->Prop}{E:List PanicEntry->Store->Prop}
theorem fY{b:Bool}{q:Type}{x y:q}(h:(bif b then some x else none)=some y):b=true/\x=y:=by grind
theorem eW{b:Bool}{q:Type}{x:Option q}{y:q}(h:(bif b then x else none)=some y):b=true/\x=some y:=by grind
theorem US(hT:T.OK P){op:aB}(h:∀b u c,∃x af f,xO T cfg true (dd.getD 0) b u c rg σ op=some (x,af,f)/\K x af):ak P cfg dd rg σ K E op:=by
 cases op with
 |mv x=>obtain⟨_,_,_,h1,h2⟩:=h 0 0 0;cases h1;exact h2
 |pick c a b=>(obtain⟨_,_,_,h1,h2⟩:=h 0 0 0;simp only[xO]at h1;simp only[ak]);(split at h1<;>first|(cases h1;done)|(rename_i hz;simp only[hz]));cases h1;simpa only[Bool.cond_eq_ite]using h2|box t x=>
  simp only[xO]at h;simp only[ak];cases hx:(ev rg x).cells? with
  |none=>obtain⟨_,_,_,h1,h2⟩:=h 0 0 0;rw[hx]at h1;cases h1
  |some l=>intro b;obtain⟨_,_,_,h1,h2⟩:=h b 0 0;rw[hx]at h1;cases h1;exact h2
 |alloc t z=>intro b;obtain⟨_,_,_,h1,h2⟩:=h b 0 0;cases h1;exact h2
 |build z parts=>(obtain⟨_,_,_,h1,h2⟩:=h 0 0 0;simp only[xO]at h1;simp only[ak]);(split at h1<;>first|(cases h1;done)|(rename_i hz;simp only[hz]));cases h1;exact h2|TO t e parts=>
  simp only[xO]at h;simp only[ak];cases hr:rowsOf e (aL rg parts)with
  |none=>obtain⟨_,_,_,h1,h2⟩:=h 0 0 0;rw[hr]at h1;cases h1
  |some rows=>
   simp only[hr]at h;obtain⟨_,_,_,h1,h2⟩:=h 0 0 0;obtain⟨hb,h1⟩:=eW h1;simp only[hb,Y8]at h;refine⟨ZE hb,?_⟩;split
   .rename_i hc;simp only[hc]at h1;cases h1;exact h2
   .rename_i hc;simp only[hc]at h;have h0:0<e:=by obtain⟨_,_,_,h1,h2⟩:=h 0 0 0;have:=(fY h1).1;simpa using this
    refine⟨h0,fun b=>?_⟩;obtain⟨_,_,_,h1,h2⟩:=h b (rows.length*e) (rows.length*e);have:=(fY h1).2;cases this;exact h2
   .rename_i hc;simp only[hc]at h1;cases h1;exact h2
   .rename_i eY bC DA;intro b;obtain⟨_,_,_,h1,h2⟩:=h b 0 0;split at h1
    .rename_i hc;exact absurd hc eY
    .rename_i hc;exact absurd hc bC
    .rename_i hc;exact absurd hc DA
    .cases h1;exact h2
 |load agg m x=>
  (obtain⟨_,_,_,h1,h2⟩:=h 0 0 0;simp only[xO]at h1;simp only[ak])
  have key:∀{l:List AV} {r:AV×Store×Bool},(pP agg 0 m l).map (fun y=>(y,σ,false))=some r->K r.1 r.2.1->(agg=true->m<=l.length/\K (.agg (l.take m)) σ)/\(agg=false->∃y,l[0]? =some y/\K y σ):=by
   intro l r h1 h2;obtain⟨y,h3,rfl⟩:=Z8.1 h1;refine⟨fun e=>?_,fun e=>?_⟩<;>subst e
   .obtain⟨h4,rfl⟩:=GV h3;rw[ZH]at h4;exact⟨h4,h2⟩
   .exact⟨y,GR h3,h2⟩
  (split at h1<;>first|(cases h1;done)|(rename_i hz;simp only[hz]))
  ·(split at h1<;>first|(cases h1;done)|(rename_i hz;simp only[hz]))
   obtain⟨hb,h1⟩:=eW h1;refine⟨Z0 hb,?_⟩;obtain⟨y,h3,h4⟩:=Z8.1 h1;cases h4;cases agg with
   |true=>obtain⟨h4,rfl⟩:=GV h3;rw[Z3 rfl];exact⟨h4,h2⟩
   |false=>rw[Z9 (by simp),GR h3];exact h2
  .obtain⟨k1,k2⟩:=key h1 h2;cases agg with
   |true=>rw[Z3 rfl];exact k1 rfl|false=>obtain⟨y,h3,h4⟩:=k2 rfl;rw[Z9 (by simp),h3];exact h4
  .split at h1
   .rename_i hg;simp only[hT.gl _ _ hg];obtain⟨k1,k2⟩:=key h1 h2;cases agg with
    |true=>rw[Z3 rfl];exact k1 rfl|false=>obtain⟨y,h3,h4⟩:=k2 rfl;rw[Z9 (by simp)];simp only[h3];exact h4
   .cases h1
 |store m x y=>
  (obtain⟨_,_,_,h1,h2⟩:=h 0 0 0;simp only[xO]at h1;simp only[ak]);(split at h1<;>first|(cases h1;done)|(rename_i hy hz;simp only[hy,hz]))
  (split at h1<;>first|(cases h1;done)|(rename_i hz;simp only[hz]))
  obtain⟨hb,h1⟩:=fY h1;cases h1;simp only[Z6]at hb;obtain⟨⟨⟨h3,h4⟩,h5⟩,h6⟩:=hb;exact⟨Z0 h3,Z0 h4,h5,ZE h6,h2⟩
 |ng x=>(obtain⟨_,_,_,h1,h2⟩:=h 0 0 0;simp only[xO]at h1;simp only[ak]);(split at h1<;>first|(cases h1;done)|(rename_i hz;simp only[hz]))<;>(cases h1;exact h2)|bin op x y=>
  (obtain⟨_,_,_,h1,h2⟩:=h 0 0 0;simp only[xO]at h1;simp only[ak]);(split at h1<;>first|(cases h1;done)|(rename_i hy hz;simp only[hy,hz]))
  split at h1
  .rename_i hr;rw[mI]at h1;cases h1;exact amy hr h2
  .cases h1
 |jt neg k x y=>(obtain⟨_,_,_,h1,h2⟩:=h 0 0 0;simp only[xO]at h1;simp only[ak]);(split at h1<;>first|(cases h1;done)|(rename_i hz;simp only[hz]));rw[tj]at h1;cases h1;exact h2|eqs neg ks x y=>(obtain⟨_,_,_,h1,h2⟩:=h 0 0 0;simp only[xO]at h1;simp only[ak]);(split at h1<;>first|(cases h1;done)|(rename_i hy hz;simp only[hy,hz]));(split at h1<;>first|(cases h1;done)|(rename_i hz;simp only[hz]));rw[tj]at h1;cases h1;exact h2|un op x=>(obtain⟨_,_,_,h1,h2⟩:=h 0 0 0;simp only[xO]at h1;simp only[ak]);(split at h1<;>first|(cases h1;done)|(rename_i hz;simp only[hz]));(split at h1<;>first|(cases h1;done)|(rename_i hz;simp only[hz]));rw[mI]at h1;cases h1;exact h2|mD k x=>(obtain⟨_,_,_,h1,h2⟩:=h 0 0 0;simp only[xO]at h1;simp only[ak]);(split at h1<;>first|(cases h1;done)|(rename_i hz;simp only[hz]));rw[zK]at h1;cases h1;exact h2|nw x=>(obtain⟨_,_,_,h1,h2⟩:=h 0 0 0;simp only[xO]at h1;simp only[ak]);(split at h1<;>first|(cases h1;done)|(rename_i hz;simp only[hz]));cases h1;exact h2|nR t x=>(obtain⟨_,_,_,h1,h2⟩:=h 0 0 0;simp only[xO]at h1;simp only[ak]);cases h1;exact h2|nQ fn first captured=>
  (obtain⟨_,_,_,h1,h2⟩:=h 0 0 0;simp only[xO]at h1;simp only[ak])
  split at h1
  .rename_i a c ha hc;cases h1;simp only[ha,hc];exact h2
  .rename_i hn;split at h1
   .cases h1;split
    .exact absurd ‹_› (hn _ _ ‹_›)
    .exact h2
   .cases h1
 |slice e x lo hi=>
  (obtain⟨_,_,_,h1,h2⟩:=h 0 0 0;simp only[xO]at h1;simp only[ak]);(split at h1<;>first|(cases h1;done)|(rename_i hy hz;simp only[hy,hz]));(split at h1<;>first|(cases h1;done)|(rename_i hz;simp only[hz]))
  .obtain⟨hb,h1⟩:=fY h1;cases h1;simp only[Z6,nM,ZQ]at hb;obtain⟨⟨⟨h3,h4⟩,h5⟩,h6⟩:=hb;exact⟨Z0 h3,h4,h5,h6,h2⟩
  .obtain⟨hb,h1⟩:=fY h1;cases h1;simp only[Z6,nM,ZQ]at hb;obtain⟨⟨⟨h3,h4⟩,h5⟩,h6⟩:=hb;exact⟨Z0 h3,h4,h5,h6,h2⟩
  .obtain⟨hb,h1⟩:=fY h1;cases h1;simp only[Z6,A3,ZQ]at hb;exact⟨hb.1,hb.2,h2⟩
 |cG off x=>(obtain⟨_,_,_,h1,h2⟩:=h 0 0 0;simp only[xO]at h1;simp only[ak]);(split at h1<;>first|(cases h1;done)|(rename_i hz;simp only[hz]))<;>(cases h1;exact h2)|field agg off m x=>
  (obtain⟨_,_,_,h1,h2⟩:=h 0 0 0;simp only[xO]at h1;simp only[ak]);(split at h1<;>first|(cases h1;done)|(rename_i hz;simp only[hz]))
  obtain⟨hb,h1⟩:=eW h1;refine⟨ZE hb,?_⟩;cases agg with
  |true=>cases h1;rw[Z3 rfl];exact h2|false=>
   rw[Z9 (by simp)];simp only[Yx]at h1
   (split at h1<;>first|(cases h1;done)|(rename_i hz;simp only[hz]));cases h1;exact h2
 |fh e x i=>
  (obtain⟨_,_,_,h1,h2⟩:=h 0 0 0;simp only[xO]at h1;simp only[ak]);(split at h1<;>first|(cases h1;done)|(rename_i hz;simp only[hz]));(split at h1<;>first|(cases h1;done)|(rename_i hz;simp only[hz]))
  .obtain⟨hb,h1⟩:=fY h1;cases h1;simp only[Z6,nM,tV,ZQ]at hb;exact⟨Z0 hb.1.1,hb.1.2,hb.2,h2⟩
  .obtain⟨hb,h1⟩:=fY h1;cases h1;simp only[Z6,nM,tV,ZQ]at hb;exact⟨Z0 hb.1.1,hb.1.2,hb.2,h2⟩
  .obtain⟨hb,h1⟩:=eW h1;rw[gC]at h1;cases h1;simp only[Z6,nM,tV,ZQ]at hb;exact⟨hb.1,hb.2,h2⟩
 |mV n e x i=>
  (obtain⟨_,_,_,h1,h2⟩:=h 0 0 0;simp only[xO]at h1;simp only[ak]);(split at h1<;>first|(cases h1;done)|(rename_i hz;simp only[hz]));(split at h1<;>first|(cases h1;done)|(rename_i hz;simp only[hz]))
  .obtain⟨hb,h1⟩:=eW h1;rw[gC]at h1;cases h1;simp only[Z6,nM,tV,ZQ]at hb;exact⟨hb.1,hb.2,h2⟩
  .obtain⟨hb,h1⟩:=fY h1;cases h1;simp only[Z6,nM,tV,ZQ]at hb;exact⟨hb.1,hb.2,h2⟩
  .split at h1
   .rename_i hg;obtain⟨hb,h1⟩:=fY h1;cases h1;simp only[Z6,nM,tV,ZQ]at hb;exact⟨_,hT.gl _ _ hg,trivial,hb.1,hb.2,h2⟩
   .cases h1
 |idxs x i=>
  (obtain⟨_,_,_,h1,h2⟩:=h 0 0 0;simp only[xO]at h1;simp only[ak]);(split at h1<;>first|(cases h1;done)|(rename_i hy hz;simp only[hy,hz]))
  obtain⟨hb,h1⟩:=eW h1;rw[nM,ZQ]at hb;split at h1
  .rename_i c hc;rw[gC]at h1;cases h1;obtain⟨az,rfl⟩:=ZG.1 hc;exact⟨⟨hb,by simp only[Zu]at az;simp only[ByteArray.size];omega⟩,h2⟩
  .cases h1
 |extract x i=>
  (obtain⟨_,_,_,h1,h2⟩:=h 0 0 0;simp only[xO]at h1;simp only[ak]);(split at h1<;>first|(cases h1;done)|(rename_i hz;simp only[hz]))
  ·(split at h1<;>first|(cases h1;done)|(rename_i hz;simp only[hz]));cases h1;exact h2
  .split at h1
   .rename_i hz;cases h1;rw[Zi]at hz;simp only[hz];exact h2
   .cases h1
 |len str x=>
  cases str with
  |true=>(obtain⟨_,_,_,h1,h2⟩:=h 0 0 0;simp only[xO]at h1;simp only[ak]);(split at h1<;>first|(cases h1;done)|(rename_i hz;simp only[hz]));rw[gC]at h1;cases h1;exact h2|false=>
   (obtain⟨_,_,_,h1,h2⟩:=h 0 0 0;simp only[xO]at h1;simp only[ak]);(split at h1<;>first|(cases h1;done)|(rename_i hz;simp only[hz]))
   .cases h1;exact h2
   .cases h1;exact h2
   .rw[gC]at h1;cases h1;exact fun _=>h2
   .rw[gC]at h1;cases h1;exact fun _=>h2
 |append t e bytes z x y=>
  simp only[xO]at h;simp only[ak];cases hr:qH e (ev rg y)with
  |none=>obtain⟨_,_,_,h1,h2⟩:=h 0 0 0;rw[hr]at h1;cases h1
  |some rows'=>
   simp only[hr]at h;rw[UU hr];obtain⟨_,_,_,h1,h2⟩:=h 0 0 0;split at h1
   .rename_i hx;obtain⟨hb,h1⟩:=eW h1;simp only[hx,hb,Y8]at h|-;refine⟨ZE hb,fun e0=>?_,fun e0 b u c _=>?_⟩
    .subst e0;cases h1;exact h2
    .obtain⟨_,_,_,h1,h2⟩:=h b u c;cases rows' with
     |nil=>exact absurd rfl e0|cons r l=>cases h1;exact h2
   .rename_i hx;simp only[hx]at h|-;split at h1
    .rename_i hl;obtain⟨hb,h1⟩:=fY h1;simp only[hl]at h;simp only[hb,Y8]at h;simp only[Z6]at hb;obtain⟨⟨⟨⟨⟨h3,h4⟩,h5⟩,h6⟩,h7⟩,h8⟩:=hb;have h3:=Z0 h3;have h4:=Z0 h4;have h5:=Z0 h5;subst h3 h4 h5;refine⟨Z0 h6,hl,ZE h7,h8,fun b' u' c' _=>?_⟩;obtain⟨_,_,_,h1,h2⟩:=h b' u' c';cases h1;exact h2
    .cases h1
   .rename_i hx;obtain⟨hb,h1⟩:=eW h1;simp only[hx,hb,Y8]at h|-;simp only[Z6]at hb;refine⟨Z0 hb.1,ZE hb.2,fun e0=>?_,fun e0 b u c=>?_⟩
    .subst e0;cases h1;exact h2
    .obtain⟨_,_,_,h1,h2⟩:=h b u c;cases rows' with
     |nil=>exact absurd rfl e0|cons r l=>cases h1;exact h2
   .cases h1
 |max2 x y=>(obtain⟨_,_,_,h1,h2⟩:=h 0 0 0;simp only[xO]at h1;simp only[ak]);(split at h1<;>first|(cases h1;done)|(rename_i hy hz;simp only[hy,hz]));(split at h1<;>first|(cases h1;done)|(rename_i hz;simp only[hz]));rw[mI]at h1;cases h1;exact h2|min2 x y=>(obtain⟨_,_,_,h1,h2⟩:=h 0 0 0;simp only[xO]at h1;simp only[ak]);(split at h1<;>first|(cases h1;done)|(rename_i hy hz;simp only[hy,hz]));(split at h1<;>first|(cases h1;done)|(rename_i hz;simp only[hz]));rw[mI]at h1;cases h1;exact h2|cL op ty ti args=>
  (obtain⟨_,_,_,h1,h2⟩:=h 0 0 0;simp only[xO]at h1;simp only[ak])
  split at h1
  .rename_i as has;split at h1
   .rename_i r hr;cases h1;have:=((hT.uk _ _ _ _ _ _ hr).1.sp σ).mono (Q':=K) fun x af ⟨e1,e2⟩=>by subst e1 e2;exact h2
    exact fun bu M w0 w p hI hR=>this bu M w0 w p hI ((su has).sound hR)
   .cases h1
  .cases h1
 |call f args=>obtain⟨_,_,_,h1,_⟩:=h 0 0 0;cases h1
 |fZ f args=>obtain⟨_,_,_,h1,_⟩:=h 0 0 0;cases h1
 |exts op ty ti args=>obtain⟨_,_,_,h1,_⟩:=h 0 0 0;cases h1
 |panic x=>obtain⟨_,_,_,h1,_⟩:=h 0 0 0;cases h1
end
abbrev BM:=Nat->Nat×Nat×Nat
mutual
def au(B:BM):AV->AV
 |.agg xs=>.agg (aI B xs)|.aG xs=>.aG (aI B xs)|.pc xs=>.pc (aI B xs)|.sl nn e rows=>.sl nn e (dF B rows)|.fl e rows=>.fl e (dF B rows)|.own e t b u c rows=>.own e t (B b).1 (B b).2.1 (B b).2.2 (dF B rows)|.ms t b o n c=>.ms t (B b).1 o n c|.lp t b o=>.lp t (B b).1 o|.bJ t b=>.bJ t (B b).1|.dD t x=>.dD t (au B x)|.cl g a c=>match bR (aI B a),bR (aI B c)with
  |some a',some c'=>.v (.func (.func g) a'.toArray c'.toArray)|_,_=>.cl g (aI B a) (aI B c)
 |.v x=>.v x|.any=>.any|.ai k=>.ai k
def aI(B:BM):List AV->List AV
 |[]=>[]
 |x::l=>au B x::aI B l
def dF(B:BM):List (List AV)->List (List AV)
 |[]=>[]
 |r::l=>aI B r::dF B l
end
def fE(B:BM)(b:Nat):aE->aE
 |.cells l=>.cells (aI B l)|.tail _ _=>.tail (B b).2.1 (B b).2.2|.map es k=>.map (es.map fun e=>(e.1,e.2.1,au B e.2.2)) k
def aS(B:BM):Store->Store
 |[]=>[]
 |(t,b,x)::l=>(t,(B b).1,fE B b x)::aS B l
def bP(B:BM):ag->ag
 |[]=>[]
 |(i,x)::l=>(i,au B x)::bP B l
section
variable {B:BM}
theorem jk(g:FuncId)(a c:List AV):(∃a' c',bR (aI B a)=some a'/\bR (aI B c)=some c'/\au B (.cl g a c)= .v (.func (.func g) a'.toArray c'.toArray))\/
  ((∀a' c',bR (aI B a)=some a'->bR (aI B c)=some c'->False)/\au B (.cl g a c)= .cl g (aI B a) (aI B c)):=by
 simp only[au];grind
theorem qv:∀(l:List AV),aI B l=l.map (au B)
 |[]=>rfl|x::l=>by simp[aI,qv l]
theorem rU:∀(l:List (List AV)),dF B l=l.map (List.map (au B))
 |[]=>rfl|x::l=>by simp[dF,rU l,qv x]
theorem yA:∀(l:List Value),aI B (l.map .v)=l.map .v
 |[]=>rfl|x::l=>by simp[aI,au,yA l]
theorem pk(l:List AV):(aI B l).length=l.length:=by simp[qv]
theorem qw(l:List (List AV)):(dF B l).length=l.length:=by simp[rU]
theorem ER(l:List AV)(n:Nat):aI B (l.take n)=(aI B l).take n:=by simp[qv,XJ]
theorem wB(l:List AV)(n:Nat):aI B (l.drop n)=(aI B l).drop n:=by simp[qv,Xn]
theorem S0(l:List (List AV))(n:Nat):dF B (l.take n)=(dF B l).take n:=by simp[rU,XJ]
theorem SY(l:List (List AV))(n:Nat):dF B (l.drop n)=(dF B l).drop n:=by simp[rU,Xn]
theorem jM(a b:List AV):aI B (a++b)=aI B a++aI B b:=by simp[qv]
theorem SX(a b:List (List AV)):dF B (a++b)=dF B a++dF B b:=by simp[rU]
theorem EP(l:List AV)(i:Nat):(aI B l)[i]? =(l[i]?).map (au B):=by simp[qv]
theorem SZ(l:List (List AV))(i:Nat):(dF B l).getD i []=aI B (l.getD i []):=by simp only[rU,Z1,X6];cases l[i]? <;>simp[aI,qv]
theorem SV(l:List AV)(o:Nat)(l':List AV):aI B (over l o l')=over (aI B l) o (aI B l'):=by simp only[over,jM,ER,wB,pk]
theorem aja(l:List (List AV)):aI B l.flatten=(dF B l).flatten:=by simp[qv,rU,List.map_flatten]
theorem mZ:∀(rg:ag) (i:Nat),lk (bP B rg) i=au B (lk rg i)
 |[],_=>rfl|(j,x)::r,i=>by
  simp only[bP,lk];cases Nat.beq j i
  .exact mZ r i
  .rfl
theorem dx(rg:ag)(x:Operand):ev (bP B rg) x=au B (ev rg x):=by
 cases x with
 |tmp t=>exact mZ rg t|_=>rfl
theorem lK(rg:ag):∀(l:List Operand),aL (bP B rg) l=aI B (aL rg l)
 |[]=>rfl|x::l=>by simp only[aL,aI,dx,lK rg l]
theorem anr(d:Option Nat)(x:AV)(rg:ag):bP B (bB d x rg)=bB d (au B x) (bP B rg):=by cases d<;>rfl
theorem CJ(x:AV):(au B x).cells? =(x.cells?).map (aI B):=by
 cases x with
 |v x=>cases x<;>simp[au,AV.cells?,aI,yA]|cl g a c=>rcases jk (B:=B) g a c with⟨a',c',_,_,e⟩|⟨_,e⟩<;>simp only[AV.cells?,ZJ,aI]<;>rw[e]
 |_=>rfl
theorem Mt(x:AV):(au B x).iZ =(x.iZ).map (aI B):=by
 cases x with
 |v x=>cases x<;>simp[au,AV.iZ,yA]|cl g a c=>rcases jk (B:=B) g a c with⟨a',c',_,_,e⟩|⟨_,e⟩<;>rw[e]<;>rfl
 |_=>rfl
theorem N6(rg:ag):∀(ps:List (Nat×Nat×Operand)) (c l:List AV),pU c (mG rg ps)=some l->pU (aI B c) (mG (bP B rg) ps)=some (aI B l)
 |[],c,l,h=>by cases h;rfl|(o,n,x)::ps,c,l,h=>by
  simp only[mG,pU]at h|-;rw[dx,CJ];cases hx:(ev rg x).cells? with
  |none=>grind|some m=>
   rw[hx]at h;simp only[ZJ]at h|-;split at h
   .rename_i hc;rw[pk,pk,Z3 hc,<-SV];exact N6 rg ps _ _ h
   grind
theorem S5(e:Nat):∀(l:List AV) (r:List (List AV)),rowsOf e l=some r->rowsOf e (aI B l)=some (dF B r)
 |[],r,h=>by cases h;rfl|x::l,r,h=>by
  simp only[rowsOf,aI]at h|-;rw[CJ];cases hx:x.cells? with
  |none=>grind|some m=>
   rw[hx]at h;simp only[ZJ]at h|-;split at h
   .rename_i hc;rw[pk,Z3 hc];obtain⟨r',h1,rfl⟩:=Z8.1 h;rw[S5 e l r' h1];rfl
   grind
theorem Hj:∀{l:List AV} {m:List Value},iq l=some m->bR (aI B l)=some m
 |[],_,h=>h|.v x::l,m,h=>by simp only[iq,Z8]at h;obtain⟨m',h1,rfl⟩:=h;simp only[aI,au,bR,Hj h1,ZJ]
theorem amF(e:Nat)(x:AV):qH e (au B x)=(qH e x).map (dF B):=by
 cases x with
 |v x=>
  simp only[au];unfold qH;split<;>try rfl
  .grind
  .grind
  .cases Nat.beq e 1<;>simp[rU,dB,au]
 |sl nn e' rows=>simp only[au,qH];grind|own e' t b u c rows=>simp only[au,qH];grind|cl g a c=>rcases jk (B:=B) g a c with⟨a',c',_,_,e⟩|⟨_,e⟩<;>rw[e]<;>rfl
 |_=>rfl
theorem R7(x:AV):(au B x).one=x.one:=by
 cases x with
 |cl g a c=>rcases jk (B:=B) g a c with⟨a',c',_,_,e⟩|⟨_,e⟩<;>rw[e]<;>rfl
 |_=>rfl
theorem aij(l:List AV):(aI B l).all AV.one=l.all AV.one:=by simp[qv,List.all_map,Function.comp_def,R7]
theorem aik(l:List (List AV)):(dF B l).all (fun r=>r.all AV.one)=l.all (fun r=>r.all AV.one):=by simp[rU,List.all_map,Function.comp_def,R7]
theorem ab8(k:wV)(x y:AV)(b:Bool)(h:td k x y=some b):td k (au B x) (au B y)=some b:=by unfold td at h;split at h<;>first|grind|(assumption)
theorem ahs(k:sO)(x y:AV)(b:Bool)(h:o7 k x y=some b):o7 k (au B x) (au B y)=some b:=by unfold o7 at h;split at h<;>first|grind|exact h
theorem Nz:∀(ks:List sO) (x y:List AV) (b:Bool),nz ks x y=some b->nz ks (aI B x) (aI B y)=some b
 |[],[],[],b,h=>h|k::ks,x::xs,y::ys,b,h=>by
  simp only[nz,aI]at h|-;cases hx:o7 k x y with
  |none=>grind|some c=>rw[hx]at h;rw[ahs _ _ _ _ hx];obtain⟨d,h1,rfl⟩:=Z8.1 h;simp only[Nz ks xs ys d h1,ZJ]
 |[],[],_::_,_,h=>by cases h|[],_::_,_,_,h=>by cases h|_::_,[],_,_,h=>by cases h|_::_,_::_,[],_,h=>by cases h
theorem P1(x:Option AV):iS (x.map (au B))=iS x:=by
 cases x with
 |none=>rfl|some x=>cases x with
  |cl g a c=>simp;rcases jk (B:=B) g a c with⟨a',c',_,_,e⟩|⟨_,e⟩<;>rw[e]<;>rfl
  |_=>rfl
theorem wm{S:Store}:∀(σ:Store) (t b:Nat) (x:aE),aV σ t=some (b,x)->aV (aS B σ++S) t=some ((B b).1,fE B b x)
 |[],_,_,_,h=>by cases h|(i,b',y)::σ,t,b,x,h=>by
  simp only[aV,aS,ZB]at h|-;cases hb:Nat.beq i t with
  |true=>grind|false=>rw[hb]at h;exact wm σ t b x h
theorem BP{S:Store}:∀(σ:Store) (t b:Nat) (x:aE) (b':Nat) (x':aE),aV σ t=some (b',x')->du (aS B σ++S) t (B b).1 (fE B b x)=aS B (du σ t b x)++S
 |[],_,_,_,_,_,h=>by cases h|(i,c,y)::σ,t,b,x,b',x',h=>by
  simp only[aV,aS,du,ZB]at h|-;cases hb:Nat.beq i t with
  |true=>rfl|false=>rw[hb]at h;simp only[Yx,aS,ZB,BP σ t b x b' x' h]
mutual
theorem LD:∀{x y:AV},bM x=some y->bM (au B x)=some y
 |.v _,_,h=>h|.any,_,h|.ms ..,_,h|.lp ..,_,h|.bJ ..,_,h|.ai _,_,h|.cl ..,_,h=>by simp[bM]at h|.fl e rows,y,h=>by simp only[bM,Z8]at h;obtain⟨l,h1,rfl⟩:=h;simp only[au,bM,FQ h1,ZJ]
 |.agg xs,y,h=>by simp only[bM,Z8]at h;obtain⟨l,h1,rfl⟩:=h;simp only[au,bM,uH h1,ZJ]
 |.aG xs,y,h=>by simp only[bM,Z8]at h;obtain⟨l,h1,rfl⟩:=h;simp only[au,bM,uH h1,ZJ]
 |.pc xs,y,h=>by simp only[bM,Z8]at h;obtain⟨l,h1,rfl⟩:=h;simp only[au,bM,uH h1,ZJ]
 |.sl nn e rows,y,h=>by simp only[bM,Z8]at h;obtain⟨l,h1,rfl⟩:=h;simp only[au,bM,FQ h1,ZJ]
 |.own e _ _ _ _ rows,y,h=>by simp only[bM,Z8]at h;obtain⟨l,h1,rfl⟩:=h;simp only[au,bM,FQ h1,ZJ]
 |.dD t x,y,h=>by simp only[bM,Z8]at h;obtain⟨l,h1,rfl⟩:=h;simp only[au,bM,LD h1,ZJ]
theorem uH:∀{l m:List AV},SO l=some m->SO (aI B l)=some m
 |[],_,h=>h|x::l,m,h=>by
  simp only[SO]at h;cases hx:bM x with
  |none=>rw[hx]at h;cases h|some y=>cases hl:SO l with
   |none=>rw[hx,hl]at h;cases h|some m'=>rw[hx,hl]at h;cases h;simp only[aI,SO,LD hx,uH hl]
theorem FQ:∀{l m:List (List AV)},ig l=some m->ig (dF B l)=some m
 |[],_,h=>h|x::l,m,h=>by
  simp only[ig]at h;cases hx:SO x with
  |none=>rw[hx]at h;cases h|some y=>cases hl:ig l with
   |none=>rw[hx,hl]at h;cases h|some m'=>rw[hx,hl]at h;cases h;simp only[dF,ig,uH hx,FQ hl]
end
end
section
variable {B:BM}
mutual
theorem BS:∀{x y:AV},bM x=some y->au B y=y
 |.v x,y,h=>by simp only[bM,ZV]at h;subst h;rfl|.agg xs,y,h=>by simp only[bM,Z8]at h;obtain⟨l,h1,rfl⟩:=h;simp only[au,uG h1]
 |.aG xs,y,h=>by simp only[bM,Z8]at h;obtain⟨l,h1,rfl⟩:=h;simp only[au,uG h1]
 |.pc xs,y,h=>by simp only[bM,Z8]at h;obtain⟨l,h1,rfl⟩:=h;simp only[au,uG h1]
 |.sl nn e rows,y,h=>by simp only[bM,Z8]at h;obtain⟨l,h1,rfl⟩:=h;simp only[au,FP h1]
 |.own e _ _ _ _ rows,y,h=>by simp only[bM,Z8]at h;obtain⟨l,h1,rfl⟩:=h;simp only[au,FP h1]
 |.dD t x,y,h=>by simp only[bM,Z8]at h;obtain⟨l,h1,rfl⟩:=h;simp only[au,BS h1]
 |.cl ..,_,h=>by simp[bM]at h|.any,_,h=>by simp[bM]at h|.ms ..,_,h=>by simp[bM]at h|.lp ..,_,h=>by simp[bM]at h|.bJ ..,_,h=>by simp[bM]at h|.ai _,_,h=>by simp[bM]at h|.fl e rows,y,h=>by simp only[bM,Z8]at h;obtain⟨l,h1,rfl⟩:=h;simp only[au,FP h1]
theorem uG:∀{l m:List AV},SO l=some m->aI B m=m
 |[],m,h=>by simp only[SO,ZV]at h;subst h;rfl|x::l,m,h=>by
  simp only[SO]at h;cases hx:bM x with
  |none=>rw[hx]at h;cases h|some y=>cases hl:SO l with
   |none=>rw[hx,hl]at h;cases h|some m'=>rw[hx,hl]at h;cases h;simp only[aI,BS hx,uG hl]
theorem FP:∀{l m:List (List AV)},ig l=some m->dF B m=m
 |[],m,h=>by simp only[ig,ZV]at h;subst h;rfl|x::l,m,h=>by
  simp only[ig]at h;cases hx:SO x with
  |none=>rw[hx]at h;cases h|some y=>cases hl:ig l with
   |none=>rw[hx,hl]at h;cases h|some m'=>rw[hx,hl]at h;cases h;simp only[dF,uG hx,FP hl]
end
theorem GU{agg:Bool}{o m:Nat}{l:List AV}{y:AV}(h:pP agg o m l=some y):pP agg o m (aI B l)=some (au B y):=by
 cases agg with
 |true=>obtain⟨h1,rfl⟩:=GV h;unfold pP;rw[pk,Xa h1];simp only[Y8,au,ER,wB]
 |false=>have h:=GR h;show(aI B l)[o]? =_;rw[EP,h];rfl
end
section
variable {P:Program}[Glob P]{T:XT}{cfg:Nat->Nat}{d n u0 c0:Nat}{rg:ag}{σ S:Store}{B:BM}{x:AV}{af:Store}{f:Bool}
theorem FZ(hT:T.OK P){op:aB}(h:xO T cfg false d n u0 c0 rg σ op=some (x,af,f)):
  xO T cfg true d (B n).1 (B n).2.1 (B n).2.2 (bP B rg) (aS B σ++S) op=some (au B x,aS B af++S,f):=by
 cases op with
 |mv x=>cases h;simp only[xO,dx]|pick c a b=>
  simp only[xO,dx]at h|-;split at h
  .rename_i t ht;rw[ht];cases h;cases t<;>rfl
  grind
 |box t x=>
  simp only[xO,dx,CJ]at h|-;split at h
  .rename_i l hl;rw[hl];cases h;rfl
  .cases h
 |alloc t z=>cases h;simp only[xO,aS,au,fE,yA];rfl|build z parts=>
  simp only[xO]at h|-;split at h
  .rename_i l hl;cases h;have:=N6 (B:=B) rg parts _ _ hl;rw[yA]at this;rw[this];rfl
  .cases h
 |TO t e parts=>
  simp only[xO,lK]at h|-;split at h
  .rename_i rows hr;rw[S5 _ _ _ hr];obtain⟨hb,h⟩:=eW h;simp only[qw,hb,Y8];split at h
   .cases h;rfl
   .obtain⟨h0,h⟩:=fY h;cases h;simp only[h0,Y8];rfl
   .cases h;rfl
   .cases h;simp only[au,aS,fE,aja,ZB]
  .cases h
 |load agg m x=>
  simp only[xO,dx]at h|-;split at h
  .rename_i t b o hx;rw[hx];simp only[au];split at h
   .rename_i b' l hl;rw[wm _ _ _ _ hl];obtain⟨hb,h⟩:=eW h;obtain⟨y,h3,h4⟩:=Z8.1 h;cases h4;rw[Z0 hb];simp only[fE,Yv,Y8,GU h3,ZJ]
   .cases h
  .rename_i l hx;rw[hx];obtain⟨y,h3,h4⟩:=Z8.1 h;cases h4;simp only[au,GU h3,ZJ]
  .rename_i g hx;rw[hx];simp only[au];split at h
   .rename_i l hl;obtain⟨y,h3,h4⟩:=Z8.1 h;cases h4;have h5:=GU (B:=B) h3;rw[uG (hT.Ic _ _ hl)]at h5;simp only[hl,h5,ZJ]
   .cases h
  .cases h
 |store m x y=>
  simp only[xO,dx,CJ]at h|-;split at h
  .rename_i t b o l' hx fw;rw[hx,fw];simp only[au,ZJ];split at h
   .rename_i b' l hl;rw[wm _ _ _ _ hl];obtain⟨hb,h⟩:=fY h;cases h;simp only[Z6]at hb;obtain⟨⟨⟨h3,h4⟩,h5⟩,h6⟩:=hb;have e:=Z0 h3;subst e;simp only[fE,Yv,pk,aij,h4,h5,h6,Bool.and_self,Y8,<-SV];have:=BP (B:=B) (S:=S) σ t b (.cells (over l o l')) b (.cells l) hl;rw[<-this];rfl
   .cases h
  .cases h
 |ng x=>
  simp only[xO,dx]at h|-;split at h
  .rename_i hx;rw[hx];cases h;rfl
  .rename_i hx;rw[hx];cases h;rfl
  .rename_i hx;rw[hx];cases h;rfl
  .rename_i hx;rw[hx];cases h;rfl
  .rename_i f a c hx;rw[hx];cases h;rcases jk (B:=B) f a c with⟨a',c',_,_,e⟩|⟨_,e⟩<;>rw[e]
  .cases h
 |bin op x y=>
  simp only[xO,dx]at h|-;split at h
  .rename_i a b ha hb;rw[ha,hb];simp only[au];split at h
   .rename_i r hr;rw[mI]at h;cases h;simp only[hr,mI,au]
   .cases h
  .cases h
 |jt neg k x y=>
  simp only[xO,dx]at h|-;split at h
  .rename_i b hb;rw[tj]at h;cases h;rw[ab8 _ _ _ _ hb];simp only[tj,au]
  .cases h
 |eqs neg ks x y=>
  simp only[xO,dx,Mt]at h|-;split at h
  .rename_i xs ys hx hy;rw[hx,hy];simp only[ZJ];split at h
   .rename_i b hb;rw[tj]at h;cases h;rw[Nz _ _ _ _ hb];simp only[tj,au]
   .cases h
  .cases h
 |un op x=>
  simp only[xO,dx]at h|-;split at h
  .rename_i a ha;rw[ha];simp only[au];split at h
   .rename_i r hr;rw[mI]at h;cases h;simp only[hr,mI,au]
   .cases h
  .cases h
 |mD k x=>
  simp only[xO,dx]at h|-;split at h
  .rename_i hx;rw[hx];rw[zK]at h;cases h;simp only[au,zK]
  .cases h
 |nw x=>
  simp only[xO,dx]at h|-;split at h
  .rename_i hx;rw[hx];cases h;rfl
  .cases h
 |nR t x=>cases h;simp only[xO,dx,au]|nQ fn first captured=>
  simp only[xO,lK]at h|-;split at h
  .rename_i a c ha hc;cases h;simp only[Hj ha,Hj hc,au]
  .split at h
   .rename_i f;cases h;rcases jk (B:=B) f (aL rg first) (aL rg captured)with⟨a',c',e1,e2,e⟩|⟨hn,e⟩<;>rw[e]
    .simp only[e1,e2]
    .split
     .exact absurd ‹bR (aI B (aL rg captured))=_› (fun k=>hn _ _ ‹bR (aI B (aL rg first))=_› k)
     .rfl
   .cases h
 |slice e x lo hi=>
  have e1:iS (lo.map (ev (bP B rg)))=iS (lo.map (ev rg)):=by cases lo<;>simp only[Option.map_none,ZJ,dx];exact P1 (some _)
  have e2:iS (hi.map (ev (bP B rg)))=iS (hi.map (ev rg)):=by cases hi<;>simp only[Option.map_none,ZJ,dx];exact P1 (some _)
  simp only[xO,e1,e2,dx]at h|-;split at h
  .rename_i J2 cJ _ _;split at h
   .rename_i hx;rw[hx];obtain⟨hb,h⟩:=fY h;cases h;simp only[au,qw,hb,Y8,S0,SY]
   .rename_i hx;rw[hx];obtain⟨hb,h⟩:=fY h;cases h;simp only[au,qw,hb,Y8];cases cJ.isNone<;>simp[au,S0,SY]
   .rename_i hx;rw[hx];obtain⟨hb,h⟩:=fY h;cases h;simp only[au,hb,Y8]
   .cases h
  .cases h
 |cG off x=>
  simp only[xO,dx]at h|-;split at h
  .rename_i hx;rw[hx];cases h;rfl
  .rename_i hx;rw[hx];cases h;simp only[au,wB]
  .cases h
 |field agg off m x=>
  simp only[xO,dx,Mt]at h|-;split at h
  .rename_i l hx;rw[hx];obtain⟨hb,h⟩:=eW h;simp only[ZJ,pk,hb,Y8];cases agg with
   |true=>cases h;simp only[Y8,au,ER,wB]|false=>
    simp only[Yx]at h|-;split at h
    .rename_i y hy;cases h;rw[EP,hy];rfl
    .cases h
  .cases h
 |fh e x i=>
  simp only[xO,dx]at h|-;split at h
  .rename_i hi;rw[hi];simp only[au];split at h
   .rename_i hx;rw[hx];obtain⟨hb,h⟩:=fY h;cases h;simp only[au,qw,hb,Y8,SZ]
   .rename_i hx;rw[hx];obtain⟨hb,h⟩:=fY h;cases h;simp only[au,qw,hb,Y8,SZ]
   .rename_i hx;rw[hx];obtain⟨hb,h⟩:=eW h;rw[gC]at h;cases h;simp only[au,hb,Y8,gC]
   .cases h
  .cases h
 |mV k e x i=>
  simp only[xO,dx]at h|-;split at h
  .rename_i hi;rw[hi];simp only[au];split at h
   .rename_i hx;rw[hx];obtain⟨hb,h⟩:=eW h;rw[gC]at h;cases h;simp only[au,hb,Y8,gC]
   .rename_i hx;rw[hx];obtain⟨hb,h⟩:=fY h;cases h;simp only[au,hb,Y8,wB]
   .rename_i hx;rw[hx];simp only[au];split at h
    .rename_i l hl;obtain⟨hb,h⟩:=fY h;cases h;simp only[hl,hb,Y8,au,wB,uG (hT.Ic _ _ hl)]
    .cases h
   .cases h
  .cases h
 |idxs x i=>
  simp only[xO,dx]at h|-;split at h
  .rename_i hi hx;rw[hi,hx];simp only[au];obtain⟨hb,h⟩:=eW h;split at h
   .rename_i c hc;rw[gC]at h;cases h;simp only[hb,Y8,hc,gC,au]
   .cases h
  .cases h
 |extract x i=>
  simp only[xO,dx]at h|-;split at h
  .rename_i xs hx;rw[hx];simp only[au];split at h
   .rename_i y hy;cases h;rw[EP,hy];rfl
   .cases h
  .rename_i vs hx;rw[hx];simp only[au];split at h
   .rename_i y hy;cases h;simp only[hy,au]
   .cases h
  .cases h
 |len str x=>
  cases str with
  |true=>
   simp only[xO,dx]at h|-;split at h
   .rename_i hx;rw[hx];rw[gC]at h;cases h;simp only[au,gC]
   .cases h
  |false=>
   simp only[xO,dx]at h|-;split at h
   .rename_i hx;rw[hx];cases h;rfl
   .rename_i hx;rw[hx];cases h;rfl
   .rename_i hx;rw[hx];rw[gC]at h;cases h;simp only[au,gC,qw]
   .rename_i hx;rw[hx];rw[gC]at h;cases h;simp only[au,gC,qw]
   .cases h
 |append t e bytes z x y=>
  simp only[xO,dx,amF]at h|-;split at h
  .rename_i rows' hr;rw[hr];simp only[ZJ];split at h
   .rename_i hx;rw[hx];obtain⟨hb,h⟩:=eW h;simp only[au,qw,hb,Y8];cases rows' with
    |nil=>cases h;rfl|cons r l=>cases h;rfl
   .rename_i hx;rw[hx];simp only[au];split at h
    .rename_i hl;obtain⟨hb,h⟩:=fY h;cases h;rw[wm _ _ _ _ hl];simp only[Z6]at hb;obtain⟨⟨⟨⟨⟨h3,h4⟩,h5⟩,h6⟩,h7⟩,h8⟩:=hb;have e3:=Z0 h3;subst e3;simp only[fE,Yv,qw,aik,h6,h7,h8,Bool.and_self,Y8,<-SX];rw[<-BP _ _ _ _ _ _ hl];rfl
    .cases h
   .rename_i hx;rw[hx];obtain⟨hb,h⟩:=eW h;simp only[au,qw,hb,Y8];cases rows' with
    |nil=>cases h;rfl|cons r l=>cases h;simp only[dF,au,aS,fE,SX,ZB]
   .cases h
  .cases h
 |max2 x y=>
  simp only[xO,dx]at h|-;split at h
  .rename_i a b ha hb;rw[ha,hb];simp only[au];split at h
   .rename_i r hr;rw[mI]at h;cases h;simp only[hr,mI,au]
   .cases h
  .cases h
 |min2 x y=>
  simp only[xO,dx]at h|-;split at h
  .rename_i a b ha hb;rw[ha,hb];simp only[au];split at h
   .rename_i r hr;rw[mI]at h;cases h;simp only[hr,mI,au]
   .cases h
  .cases h
 |cL op ty ti args=>
  simp only[xO,lK]at h|-;split at h
  .rename_i as has;rw[uH has];split at h
   .rename_i r hr;cases h;simp only[hr,BS (hT.uk _ _ _ _ _ _ hr).2]
   .cases h
  .cases h
 |call f args=>cases h|fZ f args=>cases h|exts op ty ti args=>cases h|panic x=>cases h
