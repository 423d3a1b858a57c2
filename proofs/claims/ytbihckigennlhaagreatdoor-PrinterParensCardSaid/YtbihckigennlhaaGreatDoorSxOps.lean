/-
  The layer Sx, second part: compiled operations, what each asks and gives, and that this is sound. Over any program.
-/
import Derived.Test.YtbihckigennlhaaGreatDoorSxCore
set_option linter.unusedVariables false
set_option linter.unusedSimpArgs false
set_option linter.unusedSectionVars false
namespace Go.Sx
open Go.RowKit
inductive dj where
 |ret (x:AV)
 |cL (ch:List PanicEntry)
def uB(M:Mem):dj→Ending→Prop
 | .ret x,.returned v=>R M x v
 | .cL ch,.panicked Dw=>Dw=ch
 |_,_=>False
def Spec(P:Program)[Glob P](f:FuncId)(as:List AV)(σ:Store)(Q:dj→Store→Prop):Prop:=
 ∀ (M:Mem) (w0:Base) (w:World) (cs:List Value),Inv P M w0 σ w→RL M as cs→
  Calls P f cs.toArray w fun e w'=>∃ M' r σ',M.le M'∧Inv P M' w0 σ' w'∧uB M' r e∧Q r σ'
structure Pure(P:Program)[Glob P](f:FuncId)(as:List AV)(r:AV):Prop where
 sp:∀ σ,Spec P f as σ fun r' σ'=>r'= .ret r∧σ'=σ
def qd(P:Program)[Glob P](f:FuncId)(as:List AV)(σ:Store)(K:AV→Store→Prop)(E:List PanicEntry→Store→Prop):Prop:=
 ∃ Q:dj→Store→Prop,Spec P f as σ Q∧(∀ x σ',Q (.ret x) σ'→K x σ')∧(∀ ch σ',Q (.cL ch) σ'→E ch σ')
theorem callP_congr{P:Program}[Glob P]{f:FuncId}{as as':List AV}{σ:Store}{K:AV→Store→Prop}{E:List PanicEntry→Store→Prop}(h:as=as'):qd P f as σ K E=qd P f as' σ K E:=by rw[h]
theorem uO{P:Program}[Glob P]{f:FuncId}{as:List AV}{σ:Store}{K:AV→Store→Prop}{E:List PanicEntry→Store→Prop}{r:AV}(h:Pure P f as r)(k:K r σ):qd P f as σ K E:=
 ⟨_,h.sp σ,fun _ _ ⟨e,e'⟩=>by cases e;subst e';exact k,fun _ _ ⟨e,_⟩=>by cases e⟩
def gV(P:Program)[Glob P](f:FuncId):Bool:=
 match P.funcs[f]? with
 |some fn=>fn.name != "runtime.NumGoroutine" && fn.body.isSome
 |none=>false
inductive uz where
 |int|str|bool
deriving DecidableEq
inductive wW where
 |bool|slice|map|func|ptr
deriving DecidableEq
inductive TI where
 |str
 |int (k:IntKind)
 |sl (e:TypeId)
 |mp (k v:TypeId)
 |other
deriving DecidableEq
def jn:Option TypeDesc→TI
 |some .string=> .str
 |some (.int k)=> .int k
 |some (.slice e)=> .sl e
 |some (.map k v)=> .mp k v
 |_=> .other
def xE(P:Program)(t:TypeId):TI:=match P.underlying t with
 |some (.slice e)=>jn (P.underlying e)
 |_=> .other
def Fw(P:Program)(t:TypeId):TI:=match P.underlying t with
 |some (.map k _)=>jn (P.underlying k)
 |_=> .other
def fW(P:Program):Op→List TI
 | .convert s d _=>[jn (P.underlying s),xE P s,jn (P.underlying d),xE P d]
 | .slice t _ _ _ _=>[jn (P.underlying t)]
 | .insert t _ _ _| .mapUpdate t _ _ _| .mapEntry t _ _| .entryStore t _ _ _| .lookup t _ _ _=>[jn (P.underlying t),Fw P t]
 | .makeSlice t _ _=>[jn (P.underlying t),xE P t]
 |_=>[]
theorem Cj{d:Option TypeDesc}(h:jn d= .str):d=some .string:=by unfold jn at h;split at h<;>first|rfl|cases h
theorem GI{d:Option TypeDesc}{k:IntKind}(h:jn d= .int k):d=some (.int k):=by unfold jn at h;split at h<;>first|(cases h;rfl)|cases h
theorem Ph{d:Option TypeDesc}{e:TypeId}(h:jn d= .sl e):d=some (.slice e):=by unfold jn at h;split at h<;>first|(cases h;rfl)|cases h
theorem Ci{d:Option TypeDesc}{k v:TypeId}(h:jn d= .mp k v):d=some (.map k v):=by unfold jn at h;split at h<;>first|(cases h;rfl)|cases h
inductive aw where
 |mv (x:Operand)
 |pick (c a b:Operand)
 |box (t:TypeId) (x:Operand)
 |alloc (t:TypeId) (z:Value)
 |build (z:List Value) (parts:List (Nat×Nat×Operand))
 |aZ (t:TypeId) (ag:Nat) (parts:List Operand)
 |load (agg:Bool) (n:Nat) (x:Operand)
 |store (n:Nat) (x v:Operand)
 |j6 (x:Operand)
 |bin (op:BinOp) (x y:Operand)
 |gZ (neg:Bool) (k:wW) (x y:Operand)
 |eqs (neg:Bool) (ks:List uz) (x y:Operand)
 |un (op:UnOp) (x:Operand)
 |ly (k:IntKind) (x:Operand)
 |oU (x:Operand)
 |lT (t:TypeId) (x:Operand)
 |gi (fn:Fn) (first captured:List Operand)
 |slice (ag:Nat) (x:Operand) (lo hi:Option Operand)
 |iS (off:Nat) (x:Operand)
 |field (agg:Bool) (off n:Nat) (x:Operand)
 |eH (ag:Nat) (x i:Operand)
 |iH (len ag:Nat) (x i:Operand)
 |idxs (x i:Operand)
 |extract (x:Operand) (i:Nat)
 |call (f:FuncId) (args:List Operand)
 |dA (f:Operand) (args:List Operand)
 |len (str:Bool) (x:Operand)
 |append (t:TypeId) (ag bytes:Nat) (z:List Value) (x y:Operand)
 |max2 (x y:Operand)
 |min2 (x y:Operand)
 |cp (op:Op) (ty:TypeId) (ti:List TI) (args:List Operand)
 |exts (op:Op) (ty:TypeId) (ti:List TI) (args:List Operand)
 |panic (x:Operand)
def over{α:Type}(l:List α)(o:Nat)(l':List α):List α:=l.take o++l'++l.drop (o+l'.length)
theorem RL.over{M:Mem}{xs xs':List AV}{cs cs':List Value}(h:RL M xs cs)(k:RL M xs' cs')(o:Nat):RL M (over xs o xs') (over cs o cs'):=by
 unfold Sx.over
 rw[k.1]
 exact RL.append (RL.append (h.take o) k) (h.drop _)
def mW(op:BinOp):Value→Value→(Value→Prop)→Prop
 | .int k a,.int k' b,K=>
  match op with
  | .add=>k=k'∧K (.int k (k.wrap (a+b)))
  | .sub=>k=k'∧K (.int k (k.wrap (a-b)))
  | .mul=>k=k'∧K (.int k (k.wrap (a * b)))
  | .quo=>k=k'∧b≠0∧K (.int k (k.wrap (a.tdiv b)))
  | .rem=>k=k'∧b≠0∧K (.int k (a.tmod b))
  | .eql=>k=k'∧K (.bool (decide (a=b)))
  | .neq=>k=k'∧K (.bool (!decide (a=b)))
  | .lss=>k=k'∧K (.bool (decide (a<b)))
  | .leq=>k=k'∧K (.bool (decide (a≤b)))
  | .gtr=>k=k'∧K (.bool (decide (b<a)))
  | .geq=>k=k'∧K (.bool (decide (b≤a)))
  | .and=>k=k'∧K (.int k (bits .and k a b))
  | .or=>k=k'∧K (.int k (bits .or k a b))
  | .xor=>k=k'∧K (.int k (bits .xor k a b))
  | .andNot=>k=k'∧K (.int k (bits .andNot k a b))
  | .shl=>0≤b∧b≤k.bits∧K (.int k (k.wrap (a * 2 ^ b.toNat)))
  | .shr=>0≤b∧b≤k.bits∧K (.int k (a / 2 ^ b.toNat))
 | .string a,.string b,K=>
  match op with
  | .add=>a.size+b.size≤9223372036854775807∧K (.string (a++b))
  | .eql=>K (.bool (decide (a=b)))
  | .neq=>K (.bool (!decide (a=b)))
  | .lss=>K (.bool (Op.bytesLess a.toList b.toList))
  | .leq=>K (.bool (Op.bytesLess a.toList b.toList || decide (a=b)))
  | .gtr=>K (.bool (!(Op.bytesLess a.toList b.toList || decide (a=b))))
  | .geq=>K (.bool (!Op.bytesLess a.toList b.toList))
  |_=>False
 |_,_,_=>False
def AH:wW→AV→AV→Option Bool
 | .bool,.v (.bool a),.v (.bool b)=>some (a == b)
 | .slice,.sl true _ _,.v (.slice none _ _)=>some false
 | .slice,.v (.slice none _ _),.sl true _ _=>some false
 | .slice,.own ..,.v (.slice none _ _)=>some false
 | .slice,.v (.slice none _ _),.own .. =>some false
 | .slice,.ms ..,.v (.slice none _ _)=>some false
 | .slice,.v (.slice none _ _),.ms .. =>some false
 | .slice,.v (.slice (some _) _ _),.v (.slice none _ _)=>some false
 | .slice,.v (.slice none _ _),.v (.slice (some _) _ _)=>some false
 | .slice,.v (.slice none _ _),.v (.slice none _ _)=>some true
 | .map,.v (.map (some _)),.v (.map none)=>some false
 | .map,.v (.map none),.v (.map (some _))=>some false
 | .map,.v (.map none),.v (.map none)=>some true
 | .func,.v (.func ..),.v .nilFunc=>some false
 | .func,.v .nilFunc,.v (.func ..)=>some false
 | .func,.v .nilFunc,.v .nilFunc=>some true
 | .ptr,.lp ..,.v (.pointer none)=>some false
 | .ptr,.v (.pointer none),.lp .. =>some false
 | .ptr,.v (.pointer (some _)),.v (.pointer none)=>some false
 | .ptr,.v (.pointer none),.v (.pointer (some _))=>some false
 | .ptr,.v (.pointer none),.v (.pointer none)=>some true
 |_,_,_=>none
def tv:uz→AV→AV→Option Bool
 | .int,.v (.int k a),.v (.int k' b)=>if k=k' then some (decide (a=b))else none
 | .str,.v (.string a),.v (.string b)=>some (decide (a=b))
 | .bool,.v (.bool a),.v (.bool b)=>some (a == b)
 |_,_,_=>none
def qq:List uz→List AV→List AV→Option Bool
 |[],[],[]=>some true
 |k::ks,x::xs,y::ys=>match tv k x y with
  |some b=>(qq ks xs ys).map (b && ·)
  |none=>none
 |_,_,_=>none
def GU:UnOp→Value→Option Value
 | .neg,.int k n=>some (.int k (k.wrap (0-n)))
 | .not,.bool b=>some (.bool !b)
 |_,_=>none
def aU(rg:ae):List Operand→List AV
 |[]=>[]
 |x::l=>ev rg x::aU rg l
def xH:List AV→Option (List Value)
 |[]=>some []
 | .v x::l=>(xH l).map (x::·)
 |_::_=>none
def lB:List AV→Option (List Value)
 |[]=>some []
 | .v x::l=>(lB l).map (x::·)
 | .lp _ b o::l=>(lB l).map (.pointer (some ⟨b,o,none⟩)::·)
 | .agg xs::l=>match xH xs with
  |some cs=>(lB l).map (.agg cs.toArray::·)
  |none=>none
 |_::_=>none
def uX:List AV→List (Nat×Nat×AV)→Option (List AV)
 |c,[]=>some c
 |c,(off,n,x)::rest=>match x.cells? with
  |some l=>if l.length=n∧off+n≤c.length then uX (over c off l) rest else none
  |none=>none
def oY(rg:ae):List (Nat×Nat×Operand)→List (Nat×Nat×AV)
 |[]=>[]
 |(o,n,x)::l=>(o,n,ev rg x)::oY rg l
def rowsOf(ag:Nat):List AV→Option (List (List AV))
 |[]=>some []
 |x::l=>match x.cells? with
  |some r=>if r.length=ag then(rowsOf ag l).map (r::·)else none
  |none=>none
def oe :Option AV→Option (Option Int)
 |none=>some none
 |some (.v (.int _ i))=>some (some i)
 |_=>none
def bn(b:UInt8):List AV:=[.v (.int .u8 b.toNat)]
def eQ(ag:Nat):AV→Option (List (List AV))
 | .sl _ e rows=>if e=ag then some rows else none
 | .own e _ _ _ _ rows=>if e=ag then some rows else none
 | .v (.slice none 0 0)=>some []
 | .v (.string s)=>if ag=1 then some (s.data.toList.map bn)else none
 |_=>none
def vN(lt:Bool):Value→Value→Option Value
 | .int k x,.int k' y=>if k=k' then some (.int k (if lt then(if y<x then y else x)else(if y>x then y else x)))else none
 |_,_=>none
def Qo:Next→Value→Prop
 | .value v,u=>u=v
 | .skip,u=>u=undef
 |_,_=>False
def kh(P:Program)[Glob P](op:Op)(ty:TypeId)(ti:List TI)(args:List Operand)(as:List AV)(σ:Store)(Q:AV→Store→Prop):Prop:=
 fW P op=ti→∀ (M:Mem) (w0:Base) (w:World) (ρ:Operand→Value),Inv P M w0 σ w→RL M as (args.map ρ)→
  ∃ nx w' M' x v σ',(execOp ρ ⟨none,op,ty, "",#[],none⟩).run P w= .ok nx w'∧Qo nx v∧M.le M'∧Inv P M' w0 σ' w'∧R M' x v∧Q x σ'
structure OpP(P:Program)[Glob P](op:Op)(ty:TypeId)(ti:List TI)(args:List Operand)(as:List AV)(r:AV):Prop where
 sp:∀ σ,kh P op ty ti args as σ fun x σ'=>x=r∧σ'=σ
theorem kh.mono{P:Program}[Glob P]{op:Op}{ty:TypeId}{ti:List TI}{args:List Operand}{as:List AV}{σ:Store}{Q Q':AV→Store→Prop}(h:kh P op ty ti args as σ Q)(k:∀ x σ',Q x σ'→Q' x σ'):kh P op ty ti args as σ Q':=
 fun dR M w0 w ρ hI hR=>let⟨nx,w',M',x,v,σ',h1,h2,h3,h4,h5,h6⟩:=h dR M w0 w ρ hI hR;⟨nx,w',M',x,v,σ',h1,h2,h3,h4,h5,k _ _ h6⟩
def aj(P:Program)[Glob P](cfg:Nat→Nat)(d:Option Nat)(rg:ae)(σ:Store)(K:AV→Store→Prop)(E:List PanicEntry→Store→Prop):aw→Prop
 | .mv x=>K (ev rg x) σ
 | .pick c a b=>match ev rg c with
  | .v (.bool t)=>K (if t then ev rg a else ev rg b) σ
  |_=>False
 | .box _ x=>match(ev rg x).cells? with
  |some l=>∀ b,K (.lp (d.getD 0) b 0) ((d.getD 0,b,.cells l)::σ)
  |none=>False
 | .alloc _ z=>∀ b,K (.lp (d.getD 0) b 0) ((d.getD 0,b,.cells (z.cells.toList.map .v))::σ)
 | .build z parts=>match uX (z.map .v) (oY rg parts)with
  |some l=>K (.agg l) σ
  |none=>False
 | .aZ _ ag parts=>match rowsOf ag (aU rg parts)with
  |some rows=>rows.length≤1000000∧match cfg (d.getD 0)with
   |0=>K (.sl true ag rows) σ
   |1=>0<ag∧∀ b,K (.own ag (d.getD 0) b (rows.length * ag) (rows.length * ag) rows) ((d.getD 0,b,.tail (rows.length * ag) (rows.length * ag))::σ)
   |3=>K (.fl ag rows) σ
   |_=>∀ b,K (.ms (d.getD 0) b 0 rows.length rows.length) ((d.getD 0,b,.cells rows.flatten)::σ)
  |none=>False
 | .load agg n x=>match ev rg x with
  | .lp t b o=>match aN σ t with
   |some (b',.cells l)=>b=b'∧if agg then o+n≤l.length∧K (.agg ((l.drop o).take n)) σ else match l[o]? with
    |some y=>K y σ
    |none=>False
   |_=>False
  | .pc l=>if agg then n≤l.length∧K (.agg (l.take n)) σ else match l[0]? with
    |some y=>K y σ
    |none=>False
  | .v (.pointer (some ⟨g,0,none⟩))=>match Glob.av P g with
   |some l=>if agg then n≤l.length∧K (.agg (l.take n)) σ else match l[0]? with
    |some y=>K y σ
    |none=>False
   |none=>False
  |_=>False
 | .store n x y=>match ev rg x,(ev rg y).cells? with
  | .lp t b o,some l'=>match aN σ t with
   |some (b',.cells l)=>b=b'∧l'.length=n∧l'.all AV.one=true∧o+n≤l.length∧K (.v undef) (ct σ t b (.cells (over l o l')))
   |_=>False
  |_,_=>False
 | .j6 x=>match ev rg x with
  | .v (.pointer (some a))=>K (.v (.pointer (some a))) σ
  | .lp t b o=>K (.lp t b o) σ
  | .pc l=>K (.pc l) σ
  | .v (.func (.func f) a c)=>K (.v (.func (.func f) a c)) σ
  | .cl f a c=>K (.cl f a c) σ
  |_=>False
 | .bin op x y=>match ev rg x,ev rg y with
  | .v a,.v b=>mW op a b fun r=>K (.v r) σ
  |_,_=>False
 | .gZ neg k x y=>match AH k (ev rg x) (ev rg y)with
  |some b=>K (.v (.bool (b ^^ neg))) σ
  |none=>False
 | .eqs neg ks x y=>match(ev rg x).ml,(ev rg y).ml with
  |some xs,some ys=>match qq ks xs ys with
   |some b=>K (.v (.bool (b ^^ neg))) σ
   |none=>False
  |_,_=>False
 | .un op x=>match ev rg x with
  | .v a=>match GU op a with
   |some r=>K (.v r) σ
   |none=>False
  |_=>False
 | .ly k x=>match ev rg x with
  | .v (.int _ n)=>K (.v (.int k (k.wrap n))) σ
  |_=>False
 | .oU x=>match ev rg x with
  | .v (.string s)=>K (.v (.string s)) σ
  |_=>False
 | .lT t x=>K (.gM t (ev rg x)) σ
 | .gi fn first captured=>match lB (aU rg first),lB (aU rg captured)with
  |some a,some c=>K (.v (.func fn a.toArray c.toArray)) σ
  |_,_=>match fn with
   | .func f=>K (.cl f (aU rg first) (aU rg captured)) σ
   |_=>False
 | .slice ag x lo hi=>match oe (lo.map (ev rg)),oe (hi.map (ev rg))with
  |some lo,some hi=>match ev rg x with
   | .sl nn e rows=>e=ag∧0≤lo.getD 0∧lo.getD 0≤hi.getD rows.length∧hi.getD rows.length≤rows.length∧K (.sl nn ag ((rows.take (hi.getD rows.length).toNat).drop (lo.getD 0).toNat)) σ
   | .own e tg b u c rows=>e=ag∧0≤lo.getD 0∧lo.getD 0≤hi.getD rows.length∧hi.getD rows.length≤rows.length∧
     K (if hi.isNone then .own ag tg b u c (rows.drop (lo.getD 0).toNat)else .sl true ag ((rows.take (hi.getD rows.length).toNat).drop (lo.getD 0).toNat)) σ
   | .v (.slice none 0 0)=>lo.getD 0=0∧hi.getD 0=0∧K (.v (.slice none 0 0)) σ
   |_=>False
  |_,_=>False
 | .iS off x=>match ev rg x with
  | .lp t b o=>K (.lp t b (o+off)) σ
  | .pc l=>K (.pc (l.drop off)) σ
  |_=>False
 | .field agg off n x=>match(ev rg x).ml with
  |some l=>off+n≤l.length∧if agg then K (.agg ((l.drop off).take n)) σ else match l[off]? with
   |some y=>K y σ
   |none=>False
  |none=>False
 | .eH ag x i=>match ev rg i with
  | .v (.int _ i)=>match ev rg x with
   | .sl _ e rows=>e=ag∧0≤i∧i<rows.length∧K (.pc (rows.getD i.toNat [])) σ
   | .own e _ _ _ _ rows=>e=ag∧0≤i∧i<rows.length∧K (.pc (rows.getD i.toNat [])) σ
   | .ms t b o n _=>0≤i∧i<n∧K (.lp t b (o+i.toNat * ag)) σ
   |_=>False
  |_=>False
 | .iH n ag x i=>match ev rg i with
  | .v (.int _ i)=>match ev rg x with
   | .lp t b o=>0≤i∧i<n∧K (.lp t b (o+i.toNat * ag)) σ
   | .pc l=>0≤i∧i<n∧K (.pc (l.drop (i.toNat * ag))) σ
   | .v (.pointer (some ⟨g,o,none⟩))=>∃ l,Glob.av P g=some l∧o=0∧0≤i∧i<n∧K (.pc (l.drop (i.toNat * ag))) σ
   |_=>False
  |_=>False
 | .idxs x i=>match ev rg i,ev rg x with
  | .v (.int _ i),.v (.string s)=>∃ h:0≤i∧i<s.size,K (.v (.int .u8 (s[i.toNat]'(by omega)).toNat)) σ
  |_,_=>False
 | .extract x i=>match ev rg x with
  | .aI xs=>match xs[i]? with
   |some y=>K y σ
   |none=>False
  | .v (.tuple vs)=>match vs[i]? with
   |some y=>K (.v y) σ
   |none=>False
  |_=>False
 | .call f args=>qd P f (aU rg args) σ K E
 | .dA f args=>match ev rg f with
  | .v (.func (.func f) a c)=>gV P f=true∧qd P f (a.toList.map .v++aU rg args++c.toList.map .v) σ K E
  | .cl f a c=>gV P f=true∧qd P f (a++aU rg args++c) σ K E
  |_=>False
 | .len true x=>match ev rg x with
  | .v (.string s)=>K (.v (.int .i64 s.size)) σ
  |_=>False
 | .len false x=>match ev rg x with
  | .v (.slice _ n _)=>K (.v (.int .i64 n)) σ
  | .ms _ _ _ n _=>K (.v (.int .i64 n)) σ
  | .sl _ _ rows=>(rows.length≤maxLen→K (.v (.int .i64 rows.length)) σ)
  | .own _ _ _ _ _ rows=>(rows.length≤maxLen→K (.v (.int .i64 rows.length)) σ)
  |_=>False
 | .append _ ag bytes _ x y=>match ev rg x,eQ ag (ev rg y)with
  | .v (.slice none 0 0),some rows'=>rows'.length * bytes≤35184372088832∧
    (rows'=[]→K (.v (.slice none 0 0)) σ)∧(rows'≠[]→∀ b u c,u=rows'.length * ag→K (.own ag (d.getD 0) b u c rows') ((d.getD 0,b,.tail u c)::σ))
  | .own e tg b u c rows,some rows'=>e=ag∧aN σ tg=some (b,.tail u c)∧(rows.length+rows'.length) * bytes≤35184372088832∧rows'.all (fun r=>r.all AV.one)=true∧
    ∀ b' u' c',(u=rows.length * ag→u'=(rows.length+rows'.length) * ag)→K (.own ag tg b' u' c' (rows++rows')) (ct σ tg b' (.tail u' c'))
  | .fl e rows,some rows'=>e=ag∧(rows.length+rows'.length) * bytes≤35184372088832∧(rows'=[]→K (.fl ag rows) σ)∧(rows'≠[]→
    ∀ b u c,K (.own ag (d.getD 0) b u c (rows++rows')) ((d.getD 0,b,.tail u c)::σ))
  |_,_=>False
 | .max2 x y=>match ev rg x,ev rg y with
  | .v a,.v b=>match vN false a b with
   |some r=>K (.v r) σ
   |none=>False
  |_,_=>False
 | .min2 x y=>match ev rg x,ev rg y with
  | .v a,.v b=>match vN true a b with
   |some r=>K (.v r) σ
   |none=>False
  |_,_=>False
 | .cp op ty ti args=>kh P op ty ti args (aU rg args) σ K
 | .exts op ty ti args=>kh P op ty ti args (aU rg args) σ K
 | .panic x=>match ev rg x with
  | .gM t y=>match lB [y]with
   |some [v]=>E [{v:= .iface t v,recovered:=false}] σ
   |_=>False
  |_=>False
end Go.Sx
