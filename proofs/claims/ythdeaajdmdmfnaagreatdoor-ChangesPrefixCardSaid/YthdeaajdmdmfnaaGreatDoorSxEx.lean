/-
  The layer Sx, an executor: compiled code run on concrete values. The block of a pointer holds a stamp.
-/
import Derived.Test.YthdeaajdmdmfnaaGreatDoorSxSt
set_option linter.unusedVariables false
namespace Go.Sx
open Go.RowKit
def fN{α:Type}(n:Nat)(k:Nat→α):α:=match n with
 |0=>k 0
 |m+1=>k (m+1)
def fI{α:Type}(i:Int)(k:Int→α):α:=match i with
 | .ofNat n=>fN n fun n=>k (.ofNat n)
 | .negSucc n=>fN n fun n=>k (.negSucc n)
def fB{α:Type}(b:Bool)(k:Bool→α):α:=match b with
 |true=>k true
 |false=>k false
def fV{α:Type}(x:Value)(k:Value→α):α:=match x with
 | .int t i=>fI i fun i=>k (.int t i)
 | .bool b=>fB b fun b=>k (.bool b)
 |x=>k x
def vz:List UInt8→List UInt8→Bool
 |[],[]=>true
 |a::x,b::y=>Nat.beq a.toNat b.toNat && vz x y
 |_,_=>false
def tI(a b:ByteArray):Bool:=vz a.data.toList b.data.toList
def Kv(a b:ByteArray):ByteArray:=⟨(a.data.toList++b.data.toList).toArray⟩
def oy:Int→Int→Bool
 | .ofNat a,.ofNat b=>Nat.blt a b
 | .negSucc _,.ofNat _=>true
 | .ofNat _,.negSucc _=>false
 | .negSucc a,.negSucc b=>Nat.blt b a
def ox:Int→Int→Bool
 | .ofNat a,.ofNat b=>Nat.beq a b
 | .negSucc a,.negSucc b=>Nat.beq a b
 |_,_=>false
def eM(a b:Int):Bool:= !oy b a
def Lc(op:BinOp):Value→Value→Option Value
 | .int k a,.int k' b=>match op with
  | .shl=>bif eM 0 b && eM b k.bits then some (.int k (k.wrap (a * 2 ^ b.toNat)))else none
  | .shr=>bif eM 0 b && eM b k.bits then some (.int k (a / 2 ^ b.toNat))else none
  |op=>bif decide (k=k')then match op with
  | .add=>some (.int k (k.wrap (a+b)))
  | .sub=>some (.int k (k.wrap (a-b)))
  | .mul=>some (.int k (k.wrap (a * b)))
  | .quo=>bif ox b 0 then none else some (.int k (k.wrap (a.tdiv b)))
  | .rem=>bif ox b 0 then none else some (.int k (a.tmod b))
  | .eql=>some (.bool (ox a b))
  | .neq=>some (.bool (!ox a b))
  | .lss=>some (.bool (oy a b))
  | .leq=>some (.bool (eM a b))
  | .gtr=>some (.bool (oy b a))
  | .geq=>some (.bool (eM b a))
  | .and=>some (.int k (bits .and k a b))
  | .or=>some (.int k (bits .or k a b))
  | .xor=>some (.int k (bits .xor k a b))
  | .andNot=>some (.int k (bits .andNot k a b))
  |_=>none
  else none
 | .string a,.string b=>match op with
  | .add=>bif Nat.ble (a.size+b.size) 9223372036854775807 then some (.string (Kv a b))else none
  | .eql=>some (.bool (tI a b))
  | .neq=>some (.bool (!tI a b))
  | .lss=>some (.bool (Op.bytesLess a.data.toList b.data.toList))
  | .leq=>some (.bool (Op.bytesLess a.data.toList b.data.toList || tI a b))
  | .gtr=>some (.bool (!(Op.bytesLess a.data.toList b.data.toList || tI a b)))
  | .geq=>some (.bool (!Op.bytesLess a.data.toList b.data.toList))
  |_=>none
 |_,_=>none
mutual
def bG:AV→Option AV
 | .v x=>some (.v x)
 | .agg xs=>(eG xs).map .agg
 | .bo xs=>(eG xs).map .bo
 | .pc xs=>(eG xs).map .pc
 | .sl nn e rows=>(gM rows).map (.sl nn e)
 | .own e _ _ _ _ rows=>(gM rows).map (.sl true e)
 | .fl e rows=>(gM rows).map (.fl e)
 | .dz t x=>(bG x).map (.dz t)
 |_=>none
def eG:List AV→Option (List AV)
 |[]=>some []
 |x::l=>match bG x,eG l with
  |some y,some m=>some (y::m)
  |_,_=>none
def gM:List (List AV)→Option (List (List AV))
 |[]=>some []
 |x::l=>match eG x,gM l with
  |some y,some m=>some (y::m)
  |_,_=>none
end
abbrev XO:=Option (AV×Store×Nat)
structure XT where
 code:FuncId→Option (Nat×AC×List RC)
 cfg:FuncId→Nat→Nat
 pure:FuncId→List AV→Option AV
 tu:Op→TypeId→List TI→List Operand→List AV→Option AV
 ops:Op→TypeId→List TI→List Operand→List AV→Nat→Nat→Store→XO
 gl:Nat→Option (List AV)
 can:FuncId→Bool
 st:FuncId→Bool
def o0(agg:Bool)(o m:Nat)(l:List AV):Option AV:=
 bif agg then bif Nat.ble (o+m) l.length then some (.agg ((l.drop o).take m))else none else l[o]?
def p6(ah:Nat):AV→Option (List (List AV))
 | .sl _ e rows=>bif Nat.beq e ah then some rows else none
 | .own e _ _ _ _ rows=>bif Nat.beq e ah then some rows else none
 | .v (.slice none 0 0)=>some []
 | .v (.string s)=>bif Nat.beq ah 1 then some (s.data.toList.map dD)else none
 |_=>none
section
variable (T:XT)(cfg:Nat→Nat)(rl:Bool)
def xO(d b0 u0 c0:Nat)(rg:ag)(σ:Store):ax→Option (AV×Store×Bool)
 | .mv x=>some (ev rg x,σ,false)
 | .pick c a b=>match ev rg c with
  | .v (.bool t)=>some (bif t then ev rg a else ev rg b,σ,false)
  |_=>none
 | .box _ x=>match(ev rg x).cells? with
  |some l=>some (.lp d b0 0,(d,b0,.cells l)::σ,true)
  |none=>none
 | .alloc _ z=>some (.lp d b0 0,(d,b0,.cells (z.cells.toList.map .v))::σ,true)
 | .build z parts=>match pg (z.map .v) (lO rg parts)with
  |some l=>some (.agg l,σ,false)
  |none=>none
 | .dF _ ah parts=>match rowsOf ah (aL rg parts)with
  |some rows=>bif Nat.ble rows.length 1000000 then match cfg d with
   |0=>some (.sl true ah rows,σ,false)
   |1=>bif Nat.blt 0 ah then some (.own ah d b0 u0 c0 rows,(d,b0,.tail u0 c0)::σ,true)else none
   |3=>some (.fl ah rows,σ,false)
   |_=>some (.ms d b0 0 rows.length rows.length,(d,b0,.cells rows.flatten)::σ,true)
   else none
  |none=>none
 | .load agg m x=>match ev rg x with
  | .lp t b o=>match aV σ t with
   |some (b',.cells l)=>bif Nat.beq b b' then(o0 agg o m l).map fun y=>(y,σ,false)else none
   |_=>none
  | .pc l=>(o0 agg 0 m l).map fun y=>(y,σ,false)
  | .v (.pointer (some ⟨g,0,none⟩))=>match T.gl g with
   |some l=>(o0 agg 0 m l).map fun y=>(y,σ,false)
   |none=>none
  |_=>none
 | .store m x y=>match ev rg x,(ev rg y).cells? with
  | .lp t b o,some l'=>match aV σ t with
   |some (b',.cells l)=>bif Nat.beq b b' && Nat.beq l'.length m && l'.all AV.one && Nat.ble (o+m) l.length then some (.v undef,du σ t b (.cells (over l o l')),false)else none
   |_=>none
  |_,_=>none
 | .mo x=>match ev rg x with
  | .v (.pointer (some a))=>some (.v (.pointer (some a)),σ,false)
  | .lp t b o=>some (.lp t b o,σ,false)
  | .pc l=>some (.pc l,σ,false)
  | .v (.func (.func f) a c)=>some (.v (.func (.func f) a c),σ,false)
  | .cl f a c=>some (.cl f a c,σ,false)
  |_=>none
 | .bin op x y=>match ev rg x,ev rg y with
  | .v a,.v b=>match Lc op a b with
   |some r=>fV r fun r=>some (.v r,σ,false)
   |none=>none
  |_,_=>none
 | .ji neg k x y=>match rS k (ev rg x) (ev rg y)with
  |some b=>fB (b ^^ neg) fun b=>some (.v (.bool b),σ,false)
  |none=>none
 | .eqs neg ks x y=>match(ev rg x).iJ,(ev rg y).iJ with
  |some xs,some ys=>match mI ks xs ys with
   |some b=>fB (b ^^ neg) fun b=>some (.v (.bool b),σ,false)
   |none=>none
  |_,_=>none
 | .un op x=>match ev rg x with
  | .v a=>match EP op a with
   |some r=>fV r fun r=>some (.v r,σ,false)
   |none=>none
  |_=>none
 | .lM k x=>match ev rg x with
  | .v (.int _ i)=>fI (k.wrap i) fun i=>some (.v (.int k i),σ,false)
  |_=>none
 | .mG x=>match ev rg x with
  | .v (.string s)=>some (.v (.string s),σ,false)
  |_=>none
 | .nh t x=>some (.dz t (ev rg x),σ,false)
 | .ng fn first captured=>match rl with
  |true=>match bP (aL rg first),bP (aL rg captured)with
   |some a,some c=>some (.v (.func fn a.toArray c.toArray),σ,false)
   |_,_=>match fn with
    | .func f=>some (.cl f (aL rg first) (aL rg captured),σ,false)
    |_=>none
  |false=>match gS (aL rg first),gS (aL rg captured)with
   |some a,some c=>some (.v (.func fn a.toArray c.toArray),σ,false)
   |_,_=>match fn with
    | .func f=>some (.cl f (aL rg first) (aL rg captured),σ,false)
    |_=>none
 | .slice ah x lo hi=>match iy (lo.map (ev rg)),iy (hi.map (ev rg))with
  |some lo,some hi=>match ev rg x with
   | .sl nn e rows=>bif Nat.beq e ah && eM 0 (lo.getD 0) && eM (lo.getD 0) (hi.getD rows.length) && eM (hi.getD rows.length) rows.length then
     some (.sl nn ah ((rows.take (hi.getD rows.length).toNat).drop (lo.getD 0).toNat),σ,false)else none
   | .own e tg b u c rows=>bif Nat.beq e ah && eM 0 (lo.getD 0) && eM (lo.getD 0) (hi.getD rows.length) && eM (hi.getD rows.length) rows.length then
     some (if hi.isNone then .own ah tg b u c (rows.drop (lo.getD 0).toNat)else .sl true ah ((rows.take (hi.getD rows.length).toNat).drop (lo.getD 0).toNat),σ,false)else none
   | .v (.slice none 0 0)=>bif ox (lo.getD 0) 0 && ox (hi.getD 0) 0 then some (.v (.slice none 0 0),σ,false)else none
   |_=>none
  |_,_=>none
 | .aY off x=>match ev rg x with
  | .lp t b o=>some (.lp t b (o+off),σ,false)
  | .pc l=>some (.pc (l.drop off),σ,false)
  |_=>none
 | .field agg off m x=>match(ev rg x).iJ with
  |some l=>bif Nat.ble (off+m) l.length then(bif agg then some (.agg ((l.drop off).take m),σ,false)else match l[off]? with
   |some y=>some (y,σ,false)
   |none=>none)else none
  |none=>none
 | .fe ah x i=>match ev rg i with
  | .v (.int _ i)=>match ev rg x with
   | .sl _ e rows=>bif Nat.beq e ah && eM 0 i && oy i rows.length then some (.pc (rows.getD i.toNat []),σ,false)else none
   | .own e _ _ _ _ rows=>bif Nat.beq e ah && eM 0 i && oy i rows.length then some (.pc (rows.getD i.toNat []),σ,false)else none
   | .ms t b o m _=>bif eM 0 i && oy i m then fN (o+i.toNat * ah) fun o=>some (.lp t b o,σ,false)else none
   |_=>none
  |_=>none
 | .me len ah x i=>match ev rg i with
  | .v (.int _ i)=>match ev rg x with
   | .lp t b o=>bif eM 0 i && oy i len then fN (o+i.toNat * ah) fun o=>some (.lp t b o,σ,false)else none
   | .pc l=>bif eM 0 i && oy i len then some (.pc (l.drop (i.toNat * ah)),σ,false)else none
   | .v (.pointer (some ⟨g,0,none⟩))=>match T.gl g with
    |some l=>bif eM 0 i && oy i len then some (.pc (l.drop (i.toNat * ah)),σ,false)else none
    |none=>none
   |_=>none
  |_=>none
 | .idxs x i=>match ev rg i,ev rg x with
  | .v (.int _ i),.v (.string s)=>bif eM 0 i then match s.data.toList[i.toNat]? with
   |some c=>fN c.toNat fun c=>some (.v (.int .u8 (.ofNat c)),σ,false)
   |none=>none
   else none
  |_,_=>none
 | .extract x i=>match ev rg x with
  | .bo xs=>match xs[i]? with
   |some y=>some (y,σ,false)
   |none=>none
  | .v (.tuple vs)=>match vs.toList[i]? with
   |some y=>some (.v y,σ,false)
   |none=>none
  |_=>none
 | .len true x=>match ev rg x with
  | .v (.string s)=>fN s.data.toList.length fun k=>some (.v (.int .i64 (.ofNat k)),σ,false)
  |_=>none
 | .len false x=>match ev rg x with
  | .v (.slice _ k _)=>some (.v (.int .i64 (.ofNat k)),σ,false)
  | .ms _ _ _ k _=>some (.v (.int .i64 (.ofNat k)),σ,false)
  | .sl _ _ rows=>fN rows.length fun k=>some (.v (.int .i64 (.ofNat k)),σ,false)
  | .own _ _ _ _ _ rows=>fN rows.length fun k=>some (.v (.int .i64 (.ofNat k)),σ,false)
  |_=>none
 | .append _ ah bytes _ x y=>match p6 ah (ev rg y)with
  |some rows'=>match ev rg x with
   | .v (.slice none 0 0)=>bif Nat.ble (rows'.length * bytes) 35184372088832 then match rows' with
    |[]=>some (.v (.slice none 0 0),σ,false)
    |_=>some (.own ah d b0 u0 c0 rows',(d,b0,.tail u0 c0)::σ,true)
    else none
   | .own e tg b u c rows=>match aV σ tg with
    |some (b',.tail u' c')=>bif Nat.beq b b' && Nat.beq u u' && Nat.beq c c' && Nat.beq e ah && Nat.ble ((rows.length+rows'.length) * bytes) 35184372088832 && rows'.all (fun r=>r.all AV.one)then
      some (.own ah tg b0 u0 c0 (rows++rows'),du σ tg b0 (.tail u0 c0),true)else none
    |_=>none
   | .fl e rows=>bif Nat.beq e ah && Nat.ble ((rows.length+rows'.length) * bytes) 35184372088832 then match rows' with
    |[]=>some (.fl ah rows,σ,false)
    |_=>some (.own ah d b0 u0 c0 (rows++rows'),(d,b0,.tail u0 c0)::σ,true)
    else none
   |_=>none
  |none=>none
 | .max2 x y=>match ev rg x,ev rg y with
  | .v a,.v b=>match s9 false a b with
   |some r=>fV r fun r=>some (.v r,σ,false)
   |none=>none
  |_,_=>none
 | .min2 x y=>match ev rg x,ev rg y with
  | .v a,.v b=>match s9 true a b with
   |some r=>fV r fun r=>some (.v r,σ,false)
   |none=>none
  |_,_=>none
 | .cu op ty ti args=>match eG (aL rg args)with
  |some as=>match T.tu op ty ti args as with
   |some r=>some (r,σ,false)
   |none=>none
  |none=>none
 |_=>none
def nB(d n:Nat)(rg:ag)(σ:Store)(op:ax):XO:=match xO T cfg false d n 0 0 rg σ op with
 |some (x,σ',_)=>some (x,σ',n+1)
 |none=>none
variable (call:FuncId→List AV→Store→Nat→XO)
def xS(d n:Nat)(rg:ag)(σ:Store)(op:ax):XO:=match op with
 | .call f args=>call f (aL rg args) σ n
 | .fD f args=>match ev rg f with
  | .v (.func (.func f) a c)=>bif T.can f then call f (a.toList.map .v++aL rg args++c.toList.map .v) σ n else none
  | .cl f a c=>bif T.can f then call f (a++aL rg args++c) σ n else none
  |_=>none
 | .exts op ty ti args=>T.ops op ty ti args (aL rg args) d n σ
 | .cu op ty ti args=>match nB T cfg d n rg σ (.cu op ty ti args)with
  |some r=>some r
  |none=>T.ops op ty ti args (aL rg args) d n σ
 |op=>nB T cfg d n rg σ op
def xL:List CI→ag→Store→Nat→Option (ag×Store×Nat)
 |[],rg,σ,n=>some (rg,σ,n)
 |c::l,rg,σ,n=>match c.g with
  |none=>match xS T cfg call (c.d.getD 0) n rg σ c.op with
   |some (x,σ',n')=>xL l (bz c.d x rg) σ' n'
   |none=>none
  |some (t,want)=>match lk rg t with
   | .v (.bool b)=>match b == want with
    |true=>match xS T cfg call (c.d.getD 0) n ((t,.v (.bool want))::rg) σ c.op with
     |some (x,σ',n')=>xL l (bz c.d x ((t,.v (.bool want))::rg)) σ' n'
     |none=>none
    |false=>xL l (bz c.d (.v undef) ((t,.v (.bool !want))::rg)) σ n
   | .v (.tuple _)=>xL l (bz c.d (.v undef) rg) σ n
   |_=>none
end
mutual
def Si:AV→List Nat→List Nat
 | .agg xs,k| .bo xs,k| .pc xs,k=>q9 xs k
 | .sl _ _ rows,k| .fl _ rows,k=>Kt rows k
 | .own _ _ b _ _ rows,k=>b::Kt rows k
 | .ms _ b _ _ _,k| .lp _ b _,k| .bD _ b,k=>b::k
 | .dz _ x,k=>Si x k
 | .cl _ a c,k=>q9 a (q9 c k)
 | .v _,k| .any,k| .ai _,k=>k
def q9:List AV→List Nat→List Nat
 |[],k=>k
 |x::l,k=>Si x (q9 l k)
def Kt:List (List AV)→List Nat→List Nat
 |[],k=>k
 |r::l,k=>q9 r (Kt l k)
end
mutual
def dC(f:Nat→Nat→Nat):AV→AV
 | .agg xs=> .agg (jz f xs)
 | .bo xs=> .bo (jz f xs)
 | .pc xs=> .pc (jz f xs)
 | .sl nn e rows=> .sl nn e (oM f rows)
 | .fl e rows=> .fl e (oM f rows)
 | .own e t b u c rows=> .own e (f t b) b u c (oM f rows)
 | .ms t b o n c=> .ms (f t b) b o n c
 | .lp t b o=> .lp (f t b) b o
 | .bD t b=> .bD (f t b) b
 | .dz t x=> .dz t (dC f x)
 | .cl g a c=> .cl g (jz f a) (jz f c)
 | .v x=> .v x
 | .any=> .any
 | .ai k=> .ai k
def jz(f:Nat→Nat→Nat):List AV→List AV
 |[]=>[]
 |x::l=>dC f x::jz f l
def oM(f:Nat→Nat→Nat):List (List AV)→List (List AV)
 |[]=>[]
 |r::l=>jz f r::oM f l
end
def stB:aZ→List Nat→List Nat
 | .cells l,k=>q9 l k
 | .tail _ _,k=>k
 | .map es _,k=>q9 (es.map (·.2.2)) k
def ym(f:Nat→Nat→Nat):aZ→aZ
 | .cells l=> .cells (jz f l)
 | .tail u c=> .tail u c
 | .map es k=> .map (es.map fun e=>(e.1,e.2.1,dC f e.2.2)) k
def lu(f:Nat→Nat→Nat):Store→Store
 |[]=>[]
 |(t,b,x)::l=>(f t b,b,ym f x)::lu f l
def yn(f:Nat→Nat→Nat):ag→ag
 |[]=>[]
 |(i,x)::l=>(i,dC f x)::yn f l
def Sk:Store→List Nat
 |[]=>[]
 |(_,_,x)::l=>stB x (Sk l)
def jF(_ b:Nat):Nat:=b+1000000
def si(n0:Nat)(live:List Nat):Store→Store
 |[]=>[]
 |(t,b,x)::l=>bif Nat.blt b n0 || live.elem b then(t,b,x)::si n0 live l else si n0 live l
def gc(n0:Nat)(roots:List AV)(σ:Store):Store:=match σ with
 |[]=>[]
 |σ=>si n0 (q9 roots (Sk σ)) σ
def Jn{α:Type}:List α→Bool
 |[]=>true
 |_=>false
def Bp(σ:Store)(t b:Nat):Nat:=match σ with
 |[]=>t
 |(t',b',_)::l=>bif Nat.beq b b' then t' else Bp l t b
inductive XE where
 |nrm
 |ret
 |exit (i:Nat)
 |goto (l:Nat)
abbrev XS:=Option (XE×ag×Store×Nat)
section
variable (T:XT)(cfg:Nat→Nat)(call:FuncId→List AV→Store→Nat→XO)(dI:FuncId→List AV→Nat→Option AV)
def BA(d n:Nat)(rg:ag)(σ:Store)(op:ax):XO:=match op with
 | .dF t e parts=>match cfg d with
  |0|3=>nB T cfg d n rg σ (.dF t e parts)
  |_=>none
 | .call f args=>(dI f (aL rg args) n).map fun r=>(r,σ,n)
 | .fD f args=>match ev rg f with
  | .v (.func (.func f) a c)=>bif T.can f then(dI f (a.toList.map .v++aL rg args++c.toList.map .v) n).map fun r=>(r,σ,n)else none
  | .cl f a c=>bif T.can f then(dI f (a++aL rg args++c) n).map fun r=>(r,σ,n)else none
  |_=>none
 |op=>nB T cfg d n rg σ op
def Bz(al cf:List Nat)(d n:Nat)(rg:ag)(σ:Store)(op:ax):XO:=match op.cls with
 |0=>BA T cfg dI d n rg σ op
 |1=>bif mh al cf rg op then nB T cfg d n rg σ op else none
 |2=>nB T cfg d n rg σ op
 |3=>bif nw al cf rg op then nB T cfg d n rg σ op else none
 |4=>bif isApp op && al.elem d then nB T cfg d n rg σ op else none
 |_=>none
def xM(al:List Nat):List CD→ag→Store→Nat→Option (ag×Store×Nat)
 |[],rg,σ,n=>some (rg,σ,n)
 |c::l,rg,σ,n=>match c.c.g with
  |none=>match Bz T cfg dI al c.cf (c.c.d.getD 0) n rg σ c.c.op with
   |some (x,σ',n')=>xM al l (bz c.c.d x rg) σ' n'
   |none=>none
  |some (t,want)=>match lk rg t with
   | .v (.bool b)=>match b == want with
    |true=>match Bz T cfg dI al c.cf (c.c.d.getD 0) n rg σ c.c.op with
     |some (x,σ',n')=>xM al l (bz c.c.d x rg) σ' n'
     |none=>none
    |false=>xM al l (bz c.c.d (.v undef) rg) σ n
   | .v (.tuple _)=>xM al l (bz c.c.d (.v undef) rg) σ n
   |_=>none
def uf(st:FuncId→Bool):List CI→Option (List CI×CI×List CI)
 |[]=>none
 |c::l=>match c.op with
  | .call f _=>bif st f then some ([],c,l)else match uf st l with
   |some (a,s,b)=>some (c::a,s,b)
   |none=>none
  |_=>match uf st l with
   |some (a,s,b)=>some (c::a,s,b)
   |none=>none
def DZ(c:CI):Bool:=match c.g with
 |none=>true
 |some _=>false
def isNone{α:Type}:Option α→Bool
 |none=>true
 |some _=>false
def Fa(l1:List CI)(s:CI)(l2:List CI)(rg:ag)(σ:Store)(n:Nat):Option (ag×Store×Nat):=match xM T cfg dI [] (bare l1) rg σ n with
 |some (rg,σ,n)=>match xS T cfg call (s.d.getD 0) n rg σ s.op with
  |some (x,σ,n)=>xM T cfg dI [] (bare l2) (bz s.d x rg) σ n
  |none=>none
 |none=>none
def xD(l:List CI)(rg:ag)(σ:Store)(n:Nat):Option (ag×Store×Nat):=match ug l with
 |some (l1,s,l2)=>bif q7 l l1.length && DZ s then Fa T cfg call dI l1 s l2 rg σ n else none
 |none=>match uf T.st l with
  |some (l1,s,l2)=>bif q7 l l1.length && DZ s && isNone (pQ l 0)then Fa T cfg call dI l1 s l2 rg σ n else none
  |none=>xM T cfg dI [] (bare l) rg σ n
def yG:Option (ag×Store×Nat)→XS
 |some (rg,σ,n)=>some (.nrm,rg,σ,n)
 |none=>none
def xC(n0:Nat)(again:AC→ag→Store→Nat→XS)(jump:AC→Nat→ag→Store→Nat→XS):AC→ag→Store→Nat→XS
 | .skip,rg,σ,n=>some (.nrm,rg,σ,n)
 | .aQ l,rg,σ,n=>yG (xL T cfg call l rg σ n)
 | .c8 l,rg,σ,n=>yG (xD T cfg call dI l rg σ n)
 | .eA al l,rg,σ,n=>yG (xM T cfg dI al l rg σ n)
 | .seq a b,rg,σ,n=>match xC n0 again jump a rg σ n with
  |some (.nrm,rg,σ,n)=>xC n0 again jump b rg σ n
  |r=>r
 | .cond c t e,rg,σ,n=>match ev rg c with
  | .v (.bool true)=>xC n0 again jump t rg σ n
  | .v (.bool false)=>xC n0 again jump e rg σ n
  |_=>none
 | .block id b,rg,σ,n=>match xC n0 again jump b rg σ n with
  |some (.exit i,rg,σ,n)=>bif Nat.beq i id then some (.nrm,rg,σ,n)else some (.exit i,rg,σ,n)
  |r=>r
 | .loop b,rg,σ,n=>again b rg σ n
 | .exit i,rg,σ,n=>some (.exit i,rg,σ,n)
 | .ret,rg,σ,n=>some (.ret,rg,σ,n)
 | .goto l,rg,σ,n=>some (.goto l,rg,σ,n)
 | .label _,rg,σ,n=>some (.nrm,rg,σ,n)
 | .az ks a,rg,σ,n=>match kP ks rg with
  |some rg=>xC n0 again jump a (yn jF rg) (gc n0 (rg.map (·.2)) (lu jF σ)) n
  |none=>none
 | .stop a,rg,σ,n=>xC n0 again jump a rg σ n
 | .scope b,rg,σ,n=>match xC n0 again jump b rg σ n with
  |some (.goto l,rg,σ,n)=>jump b l rg σ n
  |r=>r
end
section
variable (T:XT)
structure BV where
 call:FuncId→List AV→Store→Nat→XO
 turn:FuncId→Nat→AC→ag→Store→Nat→XS
 jump:FuncId→Nat→AC→Nat→ag→Store→Nat→XS
def oY(call:FuncId→List AV→Store→Nat→XO)(f:FuncId)(as:List AV)(n:Nat):Option AV:=match eG as with
 |none=>none
 |some as=>match call f as [] n with
  |some (x,_,_)=>bG x
  |none=>none
def rz(r:BV)(f:FuncId)(n0:Nat):AC→ag→Store→Nat→XS:=xC T (T.cfg f) r.call (oY r.call) n0 (r.turn f n0) (r.jump f n0)
def Ld(r:BV)(f:FuncId)(as:List AV)(σ:Store)(n:Nat):XO:=match T.pure f as with
 |some x=>some (x,σ,n)
 |none=>match T.code f with
  |none=>none
  |some (N,a,res)=>bif Nat.ble as.length N then match Jn (q9 as [])with
    |true=>match rz T r f n a (fi 0 as) [] n with
     |some (.nrm,rg,aP,n1)|some (.ret,rg,aP,n1)=>match cS rg aP res with
      |some x=>some (dC jF x,gc n [x] (lu jF aP)++σ,n1)
      |none=>none
     |_=>none
    |false=>match rz T r f n a (fi 0 (jz jF as)) (lu jF σ) n with
     |some (.nrm,rg,aP,n1)|some (.ret,rg,aP,n1)=>match cS rg aP res with
      |some x=>some (dC (Bp σ) (dC jF x),lu (Bp σ) (gc n [x] (lu jF aP)),n1)
      |none=>none
     |_=>none
   else none
def dV:Nat→BV
 |0=>⟨fun _ _ _ _=>none,fun _ _ _ _ _ _=>none,fun _ _ _ _ _ _ _=>none⟩
 |k+1=>⟨Ld T (dV k),fun f n0 b rg σ n=>match rz T (dV k) f n0 b rg σ n with
  |some (.nrm,rg,σ,n)=>(dV k).turn f n0 b rg σ n
  |r=>r,fun f n0 b l rg σ n=>match qJ b l with
  |none=>none
  |some r=>match rz T (dV k) f n0 r rg σ n with
   |some (.goto l',rg,σ,n)=>(dV k).jump f n0 b l' rg σ n
   |r=>r⟩
end
set_option linter.unusedSimpArgs false
set_option linter.unusedSectionVars false
theorem fW{α:Type}(n:Nat)(k:Nat→α):fN n k=k n:=by cases n<;>rfl
theorem zu{α:Type}(i:Int)(k:Int→α):fI i k=k i:=by cases i<;>simp[fI,fW]
theorem rV{α:Type}(b:Bool)(k:Bool→α):fB b k=k b:=by cases b<;>rfl
theorem lQ{α:Type}(x:Value)(k:Value→α):fV x k=k x:=by cases x<;>simp[fV,zu,rV]
theorem AH(a b:Int):ox a b=decide (a=b):=by
 rw[YN,ZR]
 cases a<;>cases b
 ·exact⟨fun h=>Zd Int.ofNat (Z0 h),fun h=>by cases h;exact YA _⟩
 ·exact⟨fun h=>(nomatch h),fun h=>(nomatch h)⟩
 ·exact⟨fun h=>(nomatch h),fun h=>(nomatch h)⟩
 ·exact⟨fun h=>Zd Int.negSucc (Z0 h),fun h=>by cases h;exact YA _⟩
theorem sY(a b:Int):oy a b=decide (a<b):=by
 rw[YN,ZR]
 cases a<;>cases b<;>simp only[oy,YC,Int.ofNat_eq_natCast,Int.negSucc_eq]
 ·omega
 ·exact⟨fun h=>(nomatch h),fun h=>by omega⟩
 ·exact⟨fun h=>by omega,fun h=>trivial⟩
 ·omega
theorem mY(a b:Int):eM a b=decide (a≤b):=by
 rw[YN];simp only[eM,sY,YF,decide_eq_false_iff_not,ZR];omega
theorem Qt:∀ (a b:List UInt8),vz a b=decide (a=b)
 |[],[]=>by simp[vz]
 |[],_::_=>by simp[vz]
 |_::_,[]=>by simp[vz]
 |a::x,b::y=>by
  rw[YN];simp only[vz,Qt x y,Z8,Nat.beq_eq,ZR,Z2,UInt8.toNat_inj]
theorem Kw(a b:ByteArray):tI a b=decide (a=b):=by
 obtain⟨⟨a⟩⟩:=a;obtain⟨⟨b⟩⟩:=b
 rw[YN];simp only[tI,Qt,ZR,ByteArray.mk.injEq,Array.mk.injEq]
theorem aiC(a b:ByteArray):Kv a b=a++b:=by
 obtain⟨⟨a⟩⟩:=a;obtain⟨⟨b⟩⟩:=b
 refine ByteArray.ext ?_
 simp[Kv,ByteArray.data_append]
theorem ajK{op:BinOp}{a b r:Value}{K:Value→Prop}(h:Lc op a b=some r)(hk:K r):lE op a b K:=by
 unfold Lc at h
 split at h
 ·rename_i k a k' b
  have same:∀ {y:Option Value},(bif decide (k=k')then y else none)=some r→k=k'∧y=some r:=fun {y} h=>by
   cases hd:decide (k=k')with
   |false=>rw[hd]at h;cases h
   |true=>rw[hd]at h;exact⟨XK hd,h⟩
  have sh:∀ {y:Value},(bif eM 0 b && eM b k.bits then some y else none)=some r→0≤b∧b≤k.bits∧K y:=fun {y} h=>by
   cases hb:(eM 0 b && eM b k.bits)with
   |false=>rw[hb]at h;cases h
   |true=>
    rw[hb]at h;cases h
    simp only[Z8,mY,ZR]at hb
    exact⟨hb.1,hb.2,hk⟩
  have dv:∀ {y:Value},(bif ox b 0 then none else some y)=some r→b≠0∧K y:=fun {y} h=>by
   cases hb:ox b 0 with
   |true=>rw[hb]at h;cases h
   |false=>
    rw[hb]at h;cases h
    rw[AH]at hb
    exact⟨of_decide_eq_false hb,hk⟩
  cases op
  case shl=>exact sh h
  case shr=>exact sh h
  case quo=>obtain⟨e,h⟩:=same h;exact⟨e,dv h⟩
  case rem=>obtain⟨e,h⟩:=same h;exact⟨e,dv h⟩
  all_goals
   obtain⟨e,h⟩:=same h
   simp only[ZY,AH,sY,mY]at h
   simp only[lE]
   exact⟨e,by subst h;first|exact hk|simpa using hk⟩
 ·rename_i a b
  cases op<;>simp only[ZY,reduceCtorEq,Kw,aiC]at h<;>simp only[lE]
  case add=>
   cases hb:Nat.ble (a.size+b.size) 9223372036854775807<;>simp only[hb,Zc,YD,reduceCtorEq,ZY]at h
   subst h;exact⟨ZF hb,hk⟩
  all_goals(subst h;simpa only[ByteArray.toList_eq]using hk)
 ·cases h
theorem FZ{o m:Nat}{l:List AV}{y:AV}(h:o0 false o m l=some y):l[o]? =some y:=h
theorem F1{o m:Nat}{l:List AV}{y:AV}(h:o0 true o m l=some y):o+m≤l.length∧y= .agg ((l.drop o).take m):=by
 unfold o0 at h
 cases hb:Nat.ble (o+m) l.length<;>simp only[hb,Zc,YD,reduceCtorEq,ZY]at h
 exact⟨ZF hb,h.symm⟩
theorem Tr{e:Nat}{x:AV}{r:List (List AV)}(h:p6 e x=some r):dG e x=some r:=by
 unfold p6 at h
 split at h
 ·rename_i nn e' rows
  cases hb:Nat.beq e' e<;>simp only[hb,Zc,YD,reduceCtorEq,ZY]at h
  simp only[dG,ZV (Z0 hb),h]
 ·rename_i e' _ _ _ _ rows
  cases hb:Nat.beq e' e<;>simp only[hb,Zc,YD,reduceCtorEq,ZY]at h
  simp only[dG,ZV (Z0 hb),h]
 ·cases h;rfl
 ·cases hb:Nat.beq e 1<;>simp only[hb,Zc,YD,reduceCtorEq,ZY]at h
  simp only[dG,ZV (Z0 hb),h]
 ·cases h
set_option linter.unusedSimpArgs false
set_option linter.unusedSectionVars false
theorem ct.get{xs ys:List AV}(h:ct xs ys):xs.length=ys.length∧∀ k (h1:k<xs.length) (h2:k<ys.length),Wk xs[k] ys[k]:=by
 induction h with
 |nil=>exact⟨rfl,fun k h=>absurd h (by simp)⟩
 |cons hx _ ih=>
  refine⟨by simp[ih.1],fun k h1 h2=> ?_⟩
  cases k with
  |zero=>exact hx
  |succ k=>simpa using ih.2 k (by simpa using h1) (by simpa using h2)
theorem Wk.JQ{xs ys:List AV}(h:ct xs ys):Wk (.pc xs) (.pc ys):=fun M v k=>by
 obtain⟨b,off,cs,rfl,h1,h2⟩:=k.tq
 obtain⟨e,hp⟩:=h.get
 exact .pc _ b off cs (fun k hk=>h1 k (by omega)) fun k hk=>hp k (by omega) hk _ _ (h2 k (by omega))
def wL(a b:List (List AV)):Prop:=a.length=b.length∧∀ i (h1:i<a.length) (h2:i<b.length),ct a[i] b[i]
theorem Wk.Ey{nn:Bool}{e:Nat}{a b:List (List AV)}(h:wL a b):Wk (.sl nn e a) (.sl nn e b):=fun M v k=>by
 obtain⟨el,h⟩:=h
 cases k with
 |nil _ _ ad hn=>cases b with
  |nil=>exact .nil _ _ _ hn
  |cons _ _=>simp at el
 |sl _ _ _ bb off cap cs h1 h2 h3 h4 h5=>
  rw[el]
  refine .sl _ _ _ bb off cap cs (fun i hi=> ?_) (fun k hk=>h2 k (by rwa [el])) (fun i hi j hj=> ?_) (by omega) h5
  ·rw[← (h i (by omega) hi).get.1];exact h1 i (by omega)
  ·have hg:=(h i (by omega) hi).get
   exact hg.2 j (by omega) hj _ _ (h3 i (by omega) j (by omega))
theorem Wk.GC{e:Nat}{x y:List (List AV)}(h:wL x y):Wk (.fl e x) (.fl e y):=fun M v k=>by
 obtain⟨el,h⟩:=h
 cases k with
 |fl _ _ b off cs h1 h2 h3 h4=>
  rw[el]
  refine .fl _ _ b off cs (fun i hi=> ?_) (fun k hk=>h2 k (by rwa [el])) (fun i hi j hj=> ?_) (by omega)
  ·rw[← (h i (by omega) hi).get.1];exact h1 i (by omega)
  ·have hg:=(h i (by omega) hi).get
   exact hg.2 j (by omega) hj _ _ (h3 i (by omega) j (by omega))
theorem Wk.Pm{t:TypeId}{x y:AV}(h:Wk x y):Wk (.dz t x) (.dz t y):=fun M v k=>by
 obtain⟨u,rfl,hu⟩:=k.QT
 exact .dz _ _ _ (h _ _ hu)
theorem Wk.WU{f:FuncId}{a c a' c':List AV}(h:ct a a')(h':ct c c'):Wk (.cl f a c) (.cl f a' c'):=fun M v k=>by
 obtain⟨va,vc,rfl,h1,h2⟩:=k.JK
 have k1:=h.sound h1
 have k2:=h'.sound h2
 exact .cl _ _ _ _ _ k1.1 k2.1 k1.2 k2.2
mutual
theorem K5:∀ {x y:AV},bG x=some y→Wk x y
 | .v x,y,h=>by simp only[bG,ZY]at h;exact .D5 h
 | .agg xs,y,h=>by simp only[bG,Z9]at h;obtain⟨l,h1,rfl⟩:=h;exact .agg (rq h1)
 | .bo xs,y,h=>by simp only[bG,Z9]at h;obtain⟨l,h1,rfl⟩:=h;exact .bo (rq h1)
 | .pc xs,y,h=>by simp only[bG,Z9]at h;obtain⟨l,h1,rfl⟩:=h;exact .JQ (rq h1)
 | .sl nn e rows,y,h=>by simp only[bG,Z9]at h;obtain⟨l,h1,rfl⟩:=h;exact .Ey (E4 h1)
 | .own e _ _ _ _ rows,y,h=>by simp only[bG,Z9]at h;obtain⟨l,h1,rfl⟩:=h;exact(Wk.own true).trans (.Ey (E4 h1))
 | .dz t x,y,h=>by simp only[bG,Z9]at h;obtain⟨l,h1,rfl⟩:=h;exact .Pm (K5 h1)
 | .cl ..,_,h=>by simp[bG]at h
 | .any,_,h=>by simp[bG]at h
 | .ms ..,_,h=>by simp[bG]at h
 | .lp ..,_,h=>by simp[bG]at h
 | .bD ..,_,h=>by simp[bG]at h
 | .ai _,_,h=>by simp[bG]at h
 | .fl e rows,y,h=>by simp only[bG,Z9]at h;obtain⟨l,h1,rfl⟩:=h;exact .GC (E4 h1)
theorem rq:∀ {l m:List AV},eG l=some m→ct l m
 |[],m,h=>by simp only[eG,ZY]at h;subst h;exact .nil
 |x::l,m,h=>by
  simp only[eG]at h
  cases hx:bG x with
  |none=>rw[hx]at h;cases h
  |some y=>cases hl:eG l with
   |none=>rw[hx,hl]at h;cases h
   |some m'=>rw[hx,hl]at h;cases h;exact .cons (K5 hx) (rq hl)
theorem E4:∀ {l m:List (List AV)},gM l=some m→wL l m
 |[],m,h=>by simp only[gM,ZY]at h;subst h;exact⟨rfl,fun i h=>absurd h (by simp)⟩
 |x::l,m,h=>by
  simp only[gM]at h
  cases hx:eG x with
  |none=>rw[hx]at h;cases h
  |some y=>cases hl:gM l with
   |none=>rw[hx,hl]at h;cases h
   |some m'=>
    rw[hx,hl]at h;cases h
    obtain⟨e,k⟩:=E4 hl
    refine⟨by simp[e],fun i h1 h2=> ?_⟩
    cases i with
    |zero=>exact rq hx
    |succ i=>simpa using k i (by simpa using h1) (by simpa using h2)
end
structure XT.OK(P:Program)[Glob P](T:XT):Prop where
 gl:∀ g l,T.gl g=some l→Glob.av P g=some l
 GX:∀ g l,T.gl g=some l→eG l=some l
 tu:∀ op ty ti args as r,T.tu op ty ti args as=some r→jC P op ty ti args as r∧bG r=some r
 can:∀ f,T.can f=true→gR P f=true
section
variable {P:Program}[Glob P]{T:XT}{cfg:Nat→Nat}{dd:Option Nat}{rg:ag}{σ:Store}{K:AV→Store→Prop}{E:List PanicEntry→Store→Prop}
theorem fy{b:Bool}{α:Type}{x y:α}(h:(bif b then some x else none)=some y):b=true∧x=y:=by
 cases b<;>simp only[Zc,YD,reduceCtorEq,ZY]at h
 exact⟨rfl,h⟩
theorem eC{b:Bool}{α:Type}{x:Option α}{y:α}(h:(bif b then x else none)=some y):b=true∧x=some y:=by
 cases b<;>simp only[Zc,YD,reduceCtorEq]at h
 exact⟨rfl,h⟩
theorem Tp(hT:T.OK P){op:ax}(h:∀ b u c,∃ x σ' f,xO T cfg true (dd.getD 0) b u c rg σ op=some (x,σ',f)∧K x σ'):aj P cfg dd rg σ K E op:=by
 cases op with
 |mv x=>obtain⟨_,_,_,h1,h2⟩:=h 0 0 0;cases h1;exact h2
 |pick c a b=>(obtain⟨_,_,_,h1,h2⟩:=h 0 0 0;simp only[xO]at h1;simp only[aj]);(split at h1<;>first|(cases h1;done)|(rename_i hz;simp only[hz]));cases h1;simpa only[Bool.cond_eq_ite]using h2
 |box t x=>
  simp only[xO]at h;simp only[aj]
  cases hx:(ev rg x).cells? with
  |none=>obtain⟨_,_,_,h1,h2⟩:=h 0 0 0;rw[hx]at h1;cases h1
  |some l=>intro b;obtain⟨_,_,_,h1,h2⟩:=h b 0 0;rw[hx]at h1;cases h1;exact h2
 |alloc t z=>intro b;obtain⟨_,_,_,h1,h2⟩:=h b 0 0;cases h1;exact h2
 |build z parts=>(obtain⟨_,_,_,h1,h2⟩:=h 0 0 0;simp only[xO]at h1;simp only[aj]);(split at h1<;>first|(cases h1;done)|(rename_i hz;simp only[hz]));cases h1;exact h2
 |dF t e parts=>
  simp only[xO]at h;simp only[aj]
  cases hr:rowsOf e (aL rg parts)with
  |none=>obtain⟨_,_,_,h1,h2⟩:=h 0 0 0;rw[hr]at h1;cases h1
  |some rows=>
   simp only[hr]at h
   obtain⟨_,_,_,h1,h2⟩:=h 0 0 0
   obtain⟨hb,h1⟩:=eC h1
   simp only[hb,Zc]at h
   refine⟨ZF hb,?_⟩
   split
   ·rename_i hc;simp only[hc]at h1;cases h1;exact h2
   ·rename_i hc;simp only[hc]at h
    have h0:0<e:=by
     obtain⟨_,_,_,h1,h2⟩:=h 0 0 0
     have:=(fy h1).1
     simpa using this
    refine⟨h0,fun b=> ?_⟩
    obtain⟨_,_,_,h1,h2⟩:=h b (rows.length * e) (rows.length * e)
    have:=(fy h1).2
    cases this;exact h2
   ·rename_i hc;simp only[hc]at h1;cases h1;exact h2
   ·rename_i kj bV C3
    intro b
    obtain⟨_,_,_,h1,h2⟩:=h b 0 0
    split at h1
    ·rename_i hc;exact absurd hc kj
    ·rename_i hc;exact absurd hc bV
    ·rename_i hc;exact absurd hc C3
    ·cases h1;exact h2
 |load agg m x=>
  (obtain⟨_,_,_,h1,h2⟩:=h 0 0 0;simp only[xO]at h1;simp only[aj])
  have key:∀ {l:List AV} {r:AV×Store×Bool},(o0 agg 0 m l).map (fun y=>(y,σ,false))=some r→K r.1 r.2.1→(agg=true→m≤l.length∧K (.agg (l.take m)) σ)∧(agg=false→∃ y,l[0]? =some y∧K y σ):=by
   intro l r h1 h2
   obtain⟨y,h3,rfl⟩:=Z9.1 h1
   refine⟨fun e=> ?_,fun e=> ?_⟩<;>subst e
   ·obtain⟨h4,rfl⟩:=F1 h3;rw[ZH]at h4;exact⟨h4,h2⟩
   ·exact⟨y,FZ h3,h2⟩
  (split at h1<;>first|(cases h1;done)|(rename_i hz;simp only[hz]))
  ·(split at h1<;>first|(cases h1;done)|(rename_i hz;simp only[hz]))
   obtain⟨hb,h1⟩:=eC h1
   refine⟨Z0 hb,?_⟩
   obtain⟨y,h3,h4⟩:=Z9.1 h1
   cases h4
   cases agg with
   |true=>obtain⟨h4,rfl⟩:=F1 h3;rw[ZV rfl];exact⟨h4,h2⟩
   |false=>rw[Z7 (by simp),FZ h3];exact h2
  ·obtain⟨k1,k2⟩:=key h1 h2
   cases agg with
   |true=>rw[ZV rfl];exact k1 rfl
   |false=>obtain⟨y,h3,h4⟩:=k2 rfl;rw[Z7 (by simp),h3];exact h4
  ·split at h1
   ·rename_i hg
    simp only[hT.gl _ _ hg]
    obtain⟨k1,k2⟩:=key h1 h2
    cases agg with
    |true=>rw[ZV rfl];exact k1 rfl
    |false=>obtain⟨y,h3,h4⟩:=k2 rfl;rw[Z7 (by simp)];simp only[h3];exact h4
   ·cases h1
 |store m x y=>
  (obtain⟨_,_,_,h1,h2⟩:=h 0 0 0;simp only[xO]at h1;simp only[aj]);(split at h1<;>first|(cases h1;done)|(rename_i hy hz;simp only[hy,hz]))
  (split at h1<;>first|(cases h1;done)|(rename_i hz;simp only[hz]))
  obtain⟨hb,h1⟩:=fy h1
  cases h1
  simp only[Z8]at hb
  obtain⟨⟨⟨h3,h4⟩,h5⟩,h6⟩:=hb
  exact⟨Z0 h3,Z0 h4,h5,ZF h6,h2⟩
 |mo x=>(obtain⟨_,_,_,h1,h2⟩:=h 0 0 0;simp only[xO]at h1;simp only[aj]);(split at h1<;>first|(cases h1;done)|(rename_i hz;simp only[hz]))<;>(cases h1;exact h2)
 |bin op x y=>
  (obtain⟨_,_,_,h1,h2⟩:=h 0 0 0;simp only[xO]at h1;simp only[aj]);(split at h1<;>first|(cases h1;done)|(rename_i hy hz;simp only[hy,hz]))
  split at h1
  ·rename_i hr
   rw[lQ]at h1;cases h1
   exact ajK hr h2
  ·cases h1
 |ji neg k x y=>(obtain⟨_,_,_,h1,h2⟩:=h 0 0 0;simp only[xO]at h1;simp only[aj]);(split at h1<;>first|(cases h1;done)|(rename_i hz;simp only[hz]));rw[rV]at h1;cases h1;exact h2
 |eqs neg ks x y=>(obtain⟨_,_,_,h1,h2⟩:=h 0 0 0;simp only[xO]at h1;simp only[aj]);(split at h1<;>first|(cases h1;done)|(rename_i hy hz;simp only[hy,hz]));(split at h1<;>first|(cases h1;done)|(rename_i hz;simp only[hz]));rw[rV]at h1;cases h1;exact h2
 |un op x=>(obtain⟨_,_,_,h1,h2⟩:=h 0 0 0;simp only[xO]at h1;simp only[aj]);(split at h1<;>first|(cases h1;done)|(rename_i hz;simp only[hz]));(split at h1<;>first|(cases h1;done)|(rename_i hz;simp only[hz]));rw[lQ]at h1;cases h1;exact h2
 |lM k x=>(obtain⟨_,_,_,h1,h2⟩:=h 0 0 0;simp only[xO]at h1;simp only[aj]);(split at h1<;>first|(cases h1;done)|(rename_i hz;simp only[hz]));rw[zu]at h1;cases h1;exact h2
 |mG x=>(obtain⟨_,_,_,h1,h2⟩:=h 0 0 0;simp only[xO]at h1;simp only[aj]);(split at h1<;>first|(cases h1;done)|(rename_i hz;simp only[hz]));cases h1;exact h2
 |nh t x=>(obtain⟨_,_,_,h1,h2⟩:=h 0 0 0;simp only[xO]at h1;simp only[aj]);cases h1;exact h2
 |ng fn first captured=>
  (obtain⟨_,_,_,h1,h2⟩:=h 0 0 0;simp only[xO]at h1;simp only[aj])
  split at h1
  ·rename_i a c ha hc;cases h1
   simp only[ha,hc];exact h2
  ·rename_i hn
   split at h1
   ·cases h1
    split
    ·exact absurd ‹_› (hn _ _ ‹_›)
    ·exact h2
   ·cases h1
 |slice e x lo hi=>
  (obtain⟨_,_,_,h1,h2⟩:=h 0 0 0;simp only[xO]at h1;simp only[aj]);(split at h1<;>first|(cases h1;done)|(rename_i hy hz;simp only[hy,hz]));(split at h1<;>first|(cases h1;done)|(rename_i hz;simp only[hz]))
  ·obtain⟨hb,h1⟩:=fy h1
   cases h1
   simp only[Z8,mY,ZR]at hb
   obtain⟨⟨⟨h3,h4⟩,h5⟩,h6⟩:=hb
   exact⟨Z0 h3,h4,h5,h6,h2⟩
  ·obtain⟨hb,h1⟩:=fy h1
   cases h1
   simp only[Z8,mY,ZR]at hb
   obtain⟨⟨⟨h3,h4⟩,h5⟩,h6⟩:=hb
   exact⟨Z0 h3,h4,h5,h6,h2⟩
  ·obtain⟨hb,h1⟩:=fy h1
   cases h1
   simp only[Z8,AH,ZR]at hb
   exact⟨hb.1,hb.2,h2⟩
 |aY off x=>(obtain⟨_,_,_,h1,h2⟩:=h 0 0 0;simp only[xO]at h1;simp only[aj]);(split at h1<;>first|(cases h1;done)|(rename_i hz;simp only[hz]))<;>(cases h1;exact h2)
 |field agg off m x=>
  (obtain⟨_,_,_,h1,h2⟩:=h 0 0 0;simp only[xO]at h1;simp only[aj]);(split at h1<;>first|(cases h1;done)|(rename_i hz;simp only[hz]))
  obtain⟨hb,h1⟩:=eC h1
  refine⟨ZF hb,?_⟩
  cases agg with
  |true=>cases h1;rw[ZV rfl];exact h2
  |false=>
   rw[Z7 (by simp)]
   simp only[YD]at h1
   (split at h1<;>first|(cases h1;done)|(rename_i hz;simp only[hz]));cases h1;exact h2
 |fe e x i=>
  (obtain⟨_,_,_,h1,h2⟩:=h 0 0 0;simp only[xO]at h1;simp only[aj]);(split at h1<;>first|(cases h1;done)|(rename_i hz;simp only[hz]));(split at h1<;>first|(cases h1;done)|(rename_i hz;simp only[hz]))
  ·obtain⟨hb,h1⟩:=fy h1
   cases h1
   simp only[Z8,mY,sY,ZR]at hb
   exact⟨Z0 hb.1.1,hb.1.2,hb.2,h2⟩
  ·obtain⟨hb,h1⟩:=fy h1
   cases h1
   simp only[Z8,mY,sY,ZR]at hb
   exact⟨Z0 hb.1.1,hb.1.2,hb.2,h2⟩
  ·obtain⟨hb,h1⟩:=eC h1
   rw[fW]at h1
   cases h1
   simp only[Z8,mY,sY,ZR]at hb
   exact⟨hb.1,hb.2,h2⟩
 |me n e x i=>
  (obtain⟨_,_,_,h1,h2⟩:=h 0 0 0;simp only[xO]at h1;simp only[aj]);(split at h1<;>first|(cases h1;done)|(rename_i hz;simp only[hz]));(split at h1<;>first|(cases h1;done)|(rename_i hz;simp only[hz]))
  ·obtain⟨hb,h1⟩:=eC h1
   rw[fW]at h1
   cases h1
   simp only[Z8,mY,sY,ZR]at hb
   exact⟨hb.1,hb.2,h2⟩
  ·obtain⟨hb,h1⟩:=fy h1
   cases h1
   simp only[Z8,mY,sY,ZR]at hb
   exact⟨hb.1,hb.2,h2⟩
  ·split at h1
   ·rename_i hg
    obtain⟨hb,h1⟩:=fy h1
    cases h1
    simp only[Z8,mY,sY,ZR]at hb
    exact⟨_,hT.gl _ _ hg,trivial,hb.1,hb.2,h2⟩
   ·cases h1
 |idxs x i=>
  (obtain⟨_,_,_,h1,h2⟩:=h 0 0 0;simp only[xO]at h1;simp only[aj]);(split at h1<;>first|(cases h1;done)|(rename_i hy hz;simp only[hy,hz]))
  obtain⟨hb,h1⟩:=eC h1
  rw[mY,ZR]at hb
  split at h1
  ·rename_i c hc
   rw[fW]at h1
   cases h1
   obtain⟨aw,rfl⟩:=ZE.1 hc
   exact⟨⟨hb,by simp only[ZQ]at aw;simp only[ByteArray.size];omega⟩,h2⟩
  ·cases h1
 |extract x i=>
  (obtain⟨_,_,_,h1,h2⟩:=h 0 0 0;simp only[xO]at h1;simp only[aj]);(split at h1<;>first|(cases h1;done)|(rename_i hz;simp only[hz]))
  ·(split at h1<;>first|(cases h1;done)|(rename_i hz;simp only[hz]));cases h1;exact h2
  ·split at h1
   ·rename_i hz;cases h1
    rw[Zj]at hz
    simp only[hz];exact h2
   ·cases h1
 |len str x=>
  cases str with
  |true=>(obtain⟨_,_,_,h1,h2⟩:=h 0 0 0;simp only[xO]at h1;simp only[aj]);(split at h1<;>first|(cases h1;done)|(rename_i hz;simp only[hz]));rw[fW]at h1;cases h1;exact h2
  |false=>
   (obtain⟨_,_,_,h1,h2⟩:=h 0 0 0;simp only[xO]at h1;simp only[aj]);(split at h1<;>first|(cases h1;done)|(rename_i hz;simp only[hz]))
   ·cases h1;exact h2
   ·cases h1;exact h2
   ·rw[fW]at h1;cases h1;exact fun _=>h2
   ·rw[fW]at h1;cases h1;exact fun _=>h2
 |append t e bytes z x y=>
  simp only[xO]at h;simp only[aj]
  cases hr:p6 e (ev rg y)with
  |none=>obtain⟨_,_,_,h1,h2⟩:=h 0 0 0;rw[hr]at h1;cases h1
  |some rows'=>
   simp only[hr]at h
   rw[Tr hr]
   obtain⟨_,_,_,h1,h2⟩:=h 0 0 0
   split at h1
   ·rename_i hx
    obtain⟨hb,h1⟩:=eC h1
    simp only[hx,hb,Zc]at h ⊢
    refine⟨ZF hb,fun e0=> ?_,fun e0 b u c _=> ?_⟩
    ·subst e0;cases h1;exact h2
    ·obtain⟨_,_,_,h1,h2⟩:=h b u c
     cases rows' with
     |nil=>exact absurd rfl e0
     |cons r l=>cases h1;exact h2
   ·rename_i hx
    simp only[hx]at h ⊢
    split at h1
    ·rename_i hl
     obtain⟨hb,h1⟩:=fy h1
     simp only[hl]at h
     simp only[hb,Zc]at h
     simp only[Z8]at hb
     obtain⟨⟨⟨⟨⟨h3,h4⟩,h5⟩,h6⟩,h7⟩,h8⟩:=hb
     have h3:=Z0 h3
     have h4:=Z0 h4
     have h5:=Z0 h5
     subst h3 h4 h5
     refine⟨Z0 h6,hl,ZF h7,h8,fun b' u' c' _=> ?_⟩
     obtain⟨_,_,_,h1,h2⟩:=h b' u' c'
     cases h1;exact h2
    ·cases h1
   ·rename_i hx
    obtain⟨hb,h1⟩:=eC h1
    simp only[hx,hb,Zc]at h ⊢
    simp only[Z8]at hb
    refine⟨Z0 hb.1,ZF hb.2,fun e0=> ?_,fun e0 b u c=> ?_⟩
    ·subst e0;cases h1;exact h2
    ·obtain⟨_,_,_,h1,h2⟩:=h b u c
     cases rows' with
     |nil=>exact absurd rfl e0
     |cons r l=>cases h1;exact h2
   ·cases h1
 |max2 x y=>(obtain⟨_,_,_,h1,h2⟩:=h 0 0 0;simp only[xO]at h1;simp only[aj]);(split at h1<;>first|(cases h1;done)|(rename_i hy hz;simp only[hy,hz]));(split at h1<;>first|(cases h1;done)|(rename_i hz;simp only[hz]));rw[lQ]at h1;cases h1;exact h2
 |min2 x y=>(obtain⟨_,_,_,h1,h2⟩:=h 0 0 0;simp only[xO]at h1;simp only[aj]);(split at h1<;>first|(cases h1;done)|(rename_i hy hz;simp only[hy,hz]));(split at h1<;>first|(cases h1;done)|(rename_i hz;simp only[hz]));rw[lQ]at h1;cases h1;exact h2
 |cu op ty ti args=>
  (obtain⟨_,_,_,h1,h2⟩:=h 0 0 0;simp only[xO]at h1;simp only[aj])
  split at h1
  ·rename_i as has
   split at h1
   ·rename_i r hr
    cases h1
    have:=((hT.tu _ _ _ _ _ _ hr).1.sp σ).mono (Q':=K) fun x σ' ⟨e1,e2⟩=>by subst e1 e2;exact h2
    exact fun bx M w0 w ρ hI hR=>this bx M w0 w ρ hI ((rq has).sound hR)
   ·cases h1
  ·cases h1
 |call f args=>obtain⟨_,_,_,h1,_⟩:=h 0 0 0;cases h1
 |fD f args=>obtain⟨_,_,_,h1,_⟩:=h 0 0 0;cases h1
 |exts op ty ti args=>obtain⟨_,_,_,h1,_⟩:=h 0 0 0;cases h1
 |panic x=>obtain⟨_,_,_,h1,_⟩:=h 0 0 0;cases h1
end
end Go.Sx
