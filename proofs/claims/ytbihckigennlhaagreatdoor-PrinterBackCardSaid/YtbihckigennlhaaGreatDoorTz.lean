/- Units: what a list of factors comes to (the words of XCa, XFc and XHd, for seats without the checker). -/
import Derived.Test.YtbihckigennlhaaGreatDoorPt
import Derived.Sort.Defs
import Derived.Test.YtbihckigennlhaaGreatDoorCodeA
import Derived.Test.YtbihckigennlhaaGreatDoorCodeB
set_option linter.unusedVariables false
namespace Go.Proofs.YtbihckigennlhaaGreatDoor
open Go.Sx Go.Proofs
instance (s:ByteArray)(L:List ByteArray):Decidable (s∈L):= @List.instDecidableMemOfLawfulBEq _ instBEqOfDecidableEq inferInstance s L
def sLt(a b:Str):Bool:=Op.bytesLess a.toList b.toList
def putL:List Str→Str→List Str
 |[],s=>[s]
 |a::l,s=>if sLt a s=true then a::putL l s else if a=s then a::l else s::a::l
def sortL:List Str→List Str
 |[]=>[]
 |s::l=>putL (sortL l) s
def expU(l:List Fac)(n:Str):Int:=((l.filter fun f=>decide (f.name=n)).map Fac.exp).sum
def normU(l:List Fac):List Fac×Int:=
 let ns:=sortL (l.map Fac.name)
 if∃ n∈ns,expU l n>8∨expU l n< -8 then([],70)else
 let u:=(ns.map fun n=>(⟨n,expU l n⟩:Fac)).filter fun f=>decide (f.exp≠0)
 if u.length>4 then([],2)else(u,0)
structure Tok where
 kind:Int
 text:Str
 at_:Int
deriving DecidableEq,Inhabited
def Tok.cells(t:Tok):List AV:=[iv t.kind,sv t.text,iv t.at_]
abbrev N0:Nat:=1000000
inductive PR(α:Type) where
 |ok (a:α) (L:List Tok)
 |err (at_ code:Int)
def PR.bind{α β:Type}:PR α→(α→List Tok→PR β)→PR β
 | .ok a L,f=>f a L
 | .err p c,_=> .err p c
def PR.map{α β:Type}(r:PR α)(f:α→β):PR β:=r.bind fun a L=> .ok (f a) L
theorem PR.bind_ok{α β:Type}(a:α)(L:List Tok)(f:α→List Tok→PR β):(PR.ok a L).bind f=f a L:=rfl
def hd(L:List Tok):Tok:=L.headD default
def see(k:Int)(s:Str)(L:List Tok):Bool:=decide ((hd L).kind=k) && decide ((hd L).text=s)
def wrongP{α:Type}(L:List Tok):PR α:= .err (hd L).at_ 90
def needP(k:Int)(s:Str)(L:List Tok):PR Unit:=if see k s L then .ok () L.tail else wrongP L
abbrev signP:=needP 5
abbrev keyP:=needP 1
def tokP(k:Int)(L:List Tok):PR Tok:=if(hd L).kind≠k then wrongP L else .ok (hd L) L.tail
def nameP(L:List Tok):PR Str:=if¬Name (hd L).text then wrongP L else(tokP 1 L).map Tok.text
def numL:List UInt8→Nat→Nat
 |[],a=>a
 |b::l,a=>numL l (10 * a+(b.toNat-48))
def numS(s:Str):Int:=numL s.data.toList 0
def decV(s:Str):Int:=
 let a:=s.data.toList.takeWhile fun b=>b != 46
 let b:=(s.data.toList.dropWhile fun b=>b != 46).drop 1
 (numL (a++b) 0:Int) * 10 ^ (6-b.length)
def numP(L:List Tok):PR Int:=(tokP 2 L).map fun t=>numS t.text
def manyP{α:Type}(sep:Str)(f:List Tok→PR α):Nat→List Tok→List α→PR (List α)
 |0,L,acc=> .ok acc L
 |n+1,L,acc=>if see 5 sep L then(f L.tail).bind fun a L'=>manyP sep f n L' (acc++[a])else .ok acc L
def listP{α:Type}(sep:Str)(f:List Tok→PR α)(L:List Tok):PR (List α):=(f L).bind fun a L'=>manyP sep f N0 L' [a]
abbrev ch(n:UInt8):Str:=⟨#[n]⟩
def factorP(L:List Tok):PR Fac:=(nameP L).bind fun n L1=>
 if see 5 (ch 94) L1 then
  if see 5 (ch 45) L1.tail then(numP L1.tail.tail).map fun k=>⟨n, -(min k 1099511627776)⟩
  else(numP L1.tail).map fun k=>⟨n,min k 1099511627776⟩
 else .ok ⟨n,1⟩ L1
def unitP(L:List Tok):PR (List Fac):=
 if see 5 (ch 91) L then(listP (ch 42) factorP L.tail).bind fun l L1=>(signP (ch 93) L1).bind fun _ L2=>
  if(normU l).2≠0 then .err (hd L).at_ (normU l).2 else .ok (normU l).1 L2
 else .ok [] L
abbrev wBool:Str:=⟨#[98,111,111,108]⟩
abbrev wText:Str:=⟨#[116,101,120,116]⟩
abbrev wKey:Str:=⟨#[107,101,121]⟩
abbrev wInt:Str:=⟨#[105,110,116]⟩
abbrev wDec:Str:=⟨#[100,101,99]⟩
abbrev wAll:Str:=⟨#[97,108,108]⟩
abbrev wSli:Str:=⟨#[115,108,105,100,105,110,103]⟩
abbrev wTum:Str:=⟨#[116,117,109,98,108,105,110,103]⟩
abbrev wSes:Str:=⟨#[115,101,115,115,105,111,110]⟩
abbrev wWhere:Str:=⟨#[119,104,101,114,101]⟩
abbrev wCount:Str:=⟨#[99,111,117,110,116]⟩
abbrev wQuant:Str:=⟨#[113,117,97,110,116,105,108,101]⟩
abbrev wDecay:Str:=⟨#[100,101,99,97,121]⟩
abbrev wTrue:Str:=⟨#[116,114,117,101]⟩
abbrev wFalse:Str:=⟨#[102,97,108,115,101]⟩
abbrev wNull:Str:=⟨#[110,117,108,108]⟩
abbrev wOf:Str:=⟨#[111,102]⟩
abbrev wIf:Str:=⟨#[105,102]⟩
abbrev wThen:Str:=⟨#[116,104,101,110]⟩
abbrev wElse:Str:=⟨#[101,108,115,101]⟩
abbrev wDef:Str:=⟨#[100,101,102,97,117,108,116]⟩
abbrev wNot:Str:=⟨#[110,111,116]⟩
abbrev wAnd:Str:=⟨#[97,110,100]⟩
abbrev wOr:Str:=⟨#[111,114]⟩
abbrev wTable:Str:=⟨#[116,97,98,108,101]⟩
abbrev wFea:Str:=⟨#[102,101,97,116,117,114,101]⟩
abbrev wKeep:Str:=⟨#[107,101,101,112]⟩
def kindP(L:List Tok):PR Ty:=
 if see 1 wBool L then .ok ⟨1,[],⟨#[]⟩⟩ L.tail
 else if see 1 wText L then .ok ⟨4,[],⟨#[]⟩⟩ L.tail
 else if see 1 wKey L then(nameP L.tail).map fun s=>⟨5,[],s⟩
 else if see 1 wInt L then(unitP L.tail).map fun u=>⟨2,u,⟨#[]⟩⟩
 else(keyP wDec L).bind fun _ L1=>(unitP L1).map fun u=>⟨3,u,⟨#[]⟩⟩
def windowP(L:List Tok):PR Win:=
 if see 1 wAll L then .ok ⟨1,0⟩ L.tail
 else if see 1 wSli L then(numP L.tail).map fun n=>⟨2,n⟩
 else if see 1 wTum L then(numP L.tail).map fun n=>⟨3,n⟩
 else(keyP wSes L).bind fun _ L1=>(numP L1).map fun n=>⟨4,n⟩
def v0:Val:=⟨0,0,⟨#[]⟩⟩
def w0:Win:=⟨0,0⟩
def truE(n:Int):Ex:= .mk 1 ⟨#[]⟩ ⟨#[]⟩ ⟨#[]⟩ ⟨1,n,⟨#[]⟩⟩ [] 0 w0 []
def unE(op:Str)(x:Ex):Ex:= .mk 6 op ⟨#[]⟩ ⟨#[]⟩ v0 [] 0 w0 [x]
def binE(op:Str)(x y:Ex):Ex:= .mk 7 op ⟨#[]⟩ ⟨#[]⟩ v0 [] 0 w0 [x,y]
def nmE(k:Int)(s:Str)(l:List Ex):Ex:= .mk k ⟨#[]⟩ s ⟨#[]⟩ v0 [] 0 w0 l
def litE(v:Val)(u:List Fac)(n:Str):Ex:= .mk 1 ⟨#[]⟩ n ⟨#[]⟩ v u 0 w0 []
def keyAtP(L:List Tok):PR Ex:=(nameP L).bind fun n L1=>(tokP 4 L1).bind fun t L2=>
 if t.text.size<1∨t.text.size>32∨(32:UInt8)∈t.text.data.toList then .err t.at_ 3 else .ok (litE ⟨5,0,t.text⟩ [] n) L2
def rankP(L:List Tok):Nat:=
 let t:=hd L
 if t.kind=1∧t.text=wOr then 1 else if t.kind=1∧t.text=wAnd then 2 else if t.kind≠5 then 0
 else if t.text=⟨#[61,61]⟩∨t.text=⟨#[33,61]⟩∨t.text=ch 60∨t.text=⟨#[60,61]⟩then 4
 else if t.text=ch 43∨t.text=ch 45 then 5
 else if t.text=ch 42∨t.text=ch 47 then 6 else 0
mutual
def exprP:Nat→Bool→List Tok→PR Ex
 |0,_,L=>wrongP L
 |n+1,i,L=>if see 1 wIf L then(exprP n i L.tail).bind fun a L1=>(keyP wThen L1).bind fun _ L2=>(exprP n i L2).bind fun b L3=>(keyP wElse L3).bind fun _ L4=>(exprP n i L4).bind fun c L5=> .ok (.mk 8 ⟨#[]⟩ ⟨#[]⟩ ⟨#[]⟩ v0 [] 0 w0 [a,b,c]) L5
  else(binP n 1 i L).bind fun x L1=>defP n i x L1
def defP:Nat→Bool→Ex→List Tok→PR Ex
 |0,_,_,L=>wrongP L
 |n+1,i,x,L=>if see 1 wDef L then(binP n 1 i L.tail).bind fun y L1=>defP n i (.mk 9 ⟨#[]⟩ ⟨#[]⟩ ⟨#[]⟩ v0 [] 0 w0 [x,y]) L1 else .ok x L
def binP:Nat→Nat→Bool→List Tok→PR Ex
 |0,_,_,L=>wrongP L
 |n+1,least,i,L=>(operandP n least i L).bind fun x L1=>opsP n least (if decide (least≤3) && see 1 wNot L then 2 else 7) i x L1
def opsP:Nat→Nat→Nat→Bool→Ex→List Tok→PR Ex
 |0,_,_,_,_,L=>wrongP L
 |n+1,least,most,i,x,L=>if rankP L≥least∧rankP L≠0∧rankP L≤most then
   (binP n (rankP L+1) i L.tail).bind fun y L1=>opsP n least (if rankP L=4 then 3 else rankP L) i (binE (hd L).text x y) L1
  else .ok x L
def operandP:Nat→Nat→Bool→List Tok→PR Ex
 |0,_,_,L=>wrongP L
 |n+1,least,i,L=>if decide (least≤3) && see 1 wNot L then(binP n 3 i L.tail).map (unE wNot)
  else if see 5 (ch 45) L then(operandP n 7 i L.tail).map (unE (ch 45))else primP n i L
def primP:Nat→Bool→List Tok→PR Ex
 |0,_,L=>wrongP L
 |n+1,i,L=>if(hd L).kind=2 then(numP L).bind fun k L1=>(unitP L1).map fun u=>litE ⟨2,k,⟨#[]⟩⟩ u ⟨#[]⟩
  else if(hd L).kind=3 then(tokP 3 L).bind fun t L1=>(unitP L1).map fun u=>litE ⟨3,decV t.text,⟨#[]⟩⟩ u ⟨#[]⟩
  else if(hd L).kind=4 then(tokP 4 L).map fun t=>litE ⟨4,0,t.text⟩ [] ⟨#[]⟩
  else if(hd L).kind=1 then wordP n i L
  else if see 5 (ch 64) L then keyAtP L.tail else groupP n i L
def groupP:Nat→Bool→List Tok→PR Ex
 |0,_,L=>wrongP L
 |n+1,i,L=>(signP (ch 40) L).bind fun _ L1=>(exprP n i L1).bind fun x L2=>(signP (ch 41) L2).map fun _=>x
def wordP:Nat→Bool→List Tok→PR Ex
 |0,_,L=>wrongP L
 |n+1,i,L=>if(hd L).text=wTrue∨(hd L).text=wFalse then .ok (truE (if(hd L).text=wTrue then 1 else 0)) L.tail
  else if(hd L).text=wNull then(groupP n i L.tail).map (unE wNull)
  else if(hd L).text∈aggL∧i=false then aggP n (hd L).text L.tail
  else(nameP L).bind fun s L1=>if i=true then .ok (nmE 2 s []) L1
   else if see 1 wOf L1 then(groupP n i L1.tail).map fun x=>nmE 4 s [x]else .ok (nmE 3 s []) L1
def aggP:Nat→Str→List Tok→PR Ex
 |0,_,L=>wrongP L
 |n+1,op,L=>(signP (ch 40) L).bind fun _ L1=>(nameP L1).bind fun tb L2=>(signP (ch 44) L2).bind fun _ L3=>
  (if op≠wCount then(exprP n true L3).bind fun x L4=>(signP (ch 44) L4).map fun _=>x else .ok (truE 1) L3).bind fun a L5=>
  (if op=wQuant∨op=wDecay then(numP L5).bind fun k L6=>(signP (ch 44) L6).map fun _=>k else .ok 0 L5).bind fun p L7=>
  (windowP L7).bind fun w L8=>(if see 1 wWhere L8 then exprP n true L8.tail else .ok (truE 1) L8).bind fun c L9=>
  (signP (ch 41) L9).map fun _=> .mk 5 op ⟨#[]⟩ tb v0 [] p w [a,c]
end
abbrev Bs:=List UInt8
def clsB(b:UInt8):Nat:=
 if b=9∨b=10∨b=13∨b=32 then 1 else if 97≤b.toNat∧b.toNat≤122 then 2 else if 48≤b.toNat∧b.toNat≤57 then 3 else if b=95 then 4
 else if b=34 then 5 else if b=35 then 6 else if b∈([123,125,40,41,91,93,44,58,59,61,60,43,45,42,47,94,64]:Bs)then 7 else if b=33 then 8 else 0
def isD(b:UInt8):Bool:=decide (clsB b=3)
def isW(b:UInt8):Bool:=decide (clsB b=2∨clsB b=3∨clsB b=4)
def spanN(p:UInt8→Bool)(s:Bs):Nat:=(s.takeWhile p).length
def decE(s:Bs):Int:=
 let a:=s.takeWhile fun b=>b != 46
 let b:=(s.dropWhile fun b=>b != 46).drop 1
 if b.length>6 then 3 else if numL (a++b) 0 * 10 ^ (6-b.length)>1152921504606846976 then 2 else 0
def intE(s:Bs):Int:=if numL s 0>1152921504606846976 then 2 else 0
def unfitE(s:Bs):Int:=if s.length>64 then 2 else if∃ c∈s,c.toNat<32∨c.toNat>126∨c=92 then 3 else 0
def pieceL:Bs→Int×Nat×Int
 |[]=>(-1,1,80)
 |c::r=>
  let k:=clsB c
  if k=1 then(0,1,0)
  else if k=6 then(0,spanN (fun b=>b != 10) (c::r),0)
  else if k=2 then(1,spanN isW (c::r),if spanN isW (c::r)>24 then 2 else 0)
  else if k=3 then
   let n:=spanN isD (c::r);let t:=(c::r).drop n;let m:=spanN isD (t.drop 1)
   if t.head? =some 46∧m>0 then(3,n+1+m,decE ((c::r).take (n+1+m)))else(2,n,intE ((c::r).take n))
  else if k=5 then
   let n:=spanN (fun b=>b != 34 && b != 10) r
   if(r.drop n).head? =some 34 then(4,n+2,unfitE (r.take n))else(-1,1,80)
  else if k=7∨k=8 then(if r.head? =some 61∧(c=61∨c=33∨c=60)then(5,2,0)else if c≠33 then(5,1,0)else(-1,1,80))
  else(-1,1,80)
structure Prb where
 at_:Int
 code:Int
deriving DecidableEq,Inhabited
def Prb.cells(p:Prb):List AV:=[iv p.at_,iv p.code]
def lexL:Nat→Int→Int→Bs→List Tok×List Prb
 |0,at_,_,_=>([⟨6,⟨#[]⟩,at_⟩],[])
 |n+1,at_,strange,s=>
  if s=[]then([⟨6,⟨#[]⟩,at_⟩],[])else
  let p:=pieceL s
  let rest:=s.drop p.2.1
  if p.1= -1 then
   let q:=lexL n (at_+1) at_ (s.drop 1)
   (q.1,if strange≠at_-1∨at_=0 then⟨at_,p.2.2⟩::q.2 else q.2)
  else
   let q:=lexL n (at_+p.2.1) strange rest
   if p.2.2≠0 then(q.1,⟨at_,p.2.2⟩::q.2)
   else if p.1=4 then(⟨4,⟨((s.take (p.2.1-1)).drop 1).toArray⟩,at_⟩::q.1,q.2)
   else if p.1≠0 then(⟨p.1,⟨(s.take p.2.1).toArray⟩,at_⟩::q.1,q.2)
   else q
def toksL(s:Bs):List Tok×List Prb:=let q:=lexL s.length 0 (-1) s;(q.1,q.2.take 32)
inductive Itm where
 |tab (t:Tab)
 |fea (f:Fea)
def fieldP(L:List Tok):PR Fld:=(nameP L).bind fun n L1=>(signP (ch 58) L1).bind fun _ L2=>(kindP L2).map fun t=>⟨n,t⟩
def ofP(L:List Tok):PR (Str×Str):=(nameP L).bind fun n L1=>(keyP wOf L1).bind fun _ L2=>(nameP L2).map fun e=>(n,e)
def fieldsP(L:List Tok):PR (List Fld):=
 if see 5 (ch 125) L then .ok [] L.tail else(listP (ch 44) fieldP L).bind fun l L1=>(signP (ch 125) L1).map fun _=>l
def keepP(L:List Tok):PR Int:=if see 1 wKeep L then numP L.tail else .ok 0 L
def tableP(L:List Tok):PR Tab:=(ofP L).bind fun n L1=>(signP (ch 123) L1).bind fun _ L2=>(fieldsP L2).bind fun l L3=>
 (keepP L3).bind fun k L4=>(signP (ch 59) L4).map fun _=>⟨n.1,n.2,l,k⟩
def featureP(L:List Tok):PR Fea:=(ofP L).bind fun n L1=>(signP (ch 58) L1).bind fun _ L2=>(kindP L2).bind fun t L3=>(signP (ch 61) L3).bind fun _ L4=>
 (exprP N0 false L4).bind fun x L5=>(signP (ch 59) L5).map fun _=>⟨n.1,n.2,t,x,0⟩
def itemP(L:List Tok):PR Itm:=if see 1 wTable L then(tableP L.tail).map .tab else if see 1 wFea L then(featureP L.tail).map .fea else wrongP L
def skipTo(x:Int):List Tok→List Tok
 |[]=>[]
 |[t]=>[t]
 |t::u::L=>if t.at_<x∨t.kind≠5∨t.text≠ch 59 then skipTo x (u::L)else t::u::L
def behindP(x:Int)(L:List Tok):List Tok:=if(skipTo x L).length>1 then(skipTo x L).tail else skipTo x L
def addI(m:Mdl):Itm→Mdl
 | .tab t=>⟨m.tables++[t],m.features⟩
 | .fea f=>⟨m.tables,m.features++[f]⟩
def wholeP{α:Type}(f:List Tok→PR α)(z:α)(s:Bs):α×Int×Int:=
 if s.length>16384 then(z,0,2)else
 match(toksL s).2 with
 |b::_=>(z,b.at_,b.code)
 |[]=>match(f (toksL s).1).bind fun a L=>if(hd L).kind≠6 then wrongP L else .ok a L with
  | .ok a _=>(a,0,0)
  | .err p c=>(z,p,c)
set_option linter.unusedSimpArgs false
set_option linter.unusedSectionVars false
def EndL(L:List Tok):Prop:=∃ M e,L=M++[e]∧e.kind=6
theorem EndL.ne{L:List Tok}(h:EndL L):L≠[]:=by obtain⟨M,e,rfl,_⟩:=h;simp
theorem EndL.tail{L:List Tok}(h:EndL L)(hk:(hd L).kind≠6):EndL L.tail∧L.tail.length<L.length:=by
 obtain⟨M,e,rfl,he⟩:=h
 cases M with
 |nil=>exact absurd he hk
 |cons t M=>exact⟨⟨M,e,rfl,he⟩,by simp⟩
structure PosR{α:Type}(n:Nat)(L:List Tok)(r:PR α):Prop where
 ok:∀ a L',r= .ok a L'→L' <:+ L∧EndL L'∧L'.length+n≤L.length
 err:∀ p c,r= .err p c→(∃ t∈L,t.at_=p)∧c≠0
def Pos{α:Type}(n:Nat)(f:List Tok→PR α):Prop:=∀ L,EndL L→PosR n L (f L)
section
variable {α β:Type}{n m:Nat}{f g:List Tok→PR α}
theorem Pos.le(h:Pos n f)(hm:m≤n):Pos m f:=fun L hL=>⟨fun a L' e=>by have:=(h L hL).ok a L' e;exact⟨this.1,this.2.1,by omega⟩,(h L hL).err⟩
theorem Pos.pure(a:α):Pos 0 (fun L=>PR.ok a L):=fun L hL=>⟨fun a' L' e=>by cases e;exact⟨List.suffix_refl _,hL,Nat.le_refl _⟩,fun p c e=>by cases e⟩
theorem hd_mem{L:List Tok}(h:L≠[]):hd L∈L:=by
 cases L with
 |nil=>exact absurd rfl h
 |cons t L=>exact List.mem_cons_self
theorem Pos.wrong:Pos n (wrongP (α:=α)):=fun L hL=>⟨fun a L' e=>(by cases e),fun p c e=>by cases e;exact⟨⟨_,hd_mem hL.ne,rfl⟩,by decide⟩⟩
theorem Pos.bind{f:List Tok→PR α}{g:α→List Tok→PR β}(hf:Pos n f)(hg:∀ a,Pos m (g a)):Pos (n+m) (fun L=>(f L).bind g):=fun L hL=>by
 cases h:f L with
 |ok a L1=>
  obtain⟨h1,h2,h3⟩:=(hf L hL).ok a L1 h
  refine⟨fun b L' e=> ?_,fun p c e=> ?_⟩
  ·obtain⟨k1,k2,k3⟩:=(hg a L1 h2).ok b L' (by rw[← e];simp only[h,PR.bind])
   exact⟨k1.trans h1,k2,by omega⟩
  ·obtain⟨⟨t,ht,e2⟩,hc⟩:=(hg a L1 h2).err p c (by rw[← e];simp only[h,PR.bind])
   exact⟨⟨t,h1.subset ht,e2⟩,hc⟩
 |err p c=>exact⟨fun b L' e=>(by simp only[h,PR.bind]at e;cases e),fun p' c' e=>by simp only[h,PR.bind]at e;cases e;exact(hf L hL).err p c h⟩
theorem Pos.map{f:List Tok→PR α}{g:α→β}(hf:Pos n f):Pos n (fun L=>(f L).map g):=Pos.bind (m:=0) hf fun a=>Pos.pure (g a)
theorem Pos.ite{c:List Tok→Prop}[∀ L,Decidable (c L)](hf:Pos n f)(hg:Pos n g):Pos n (fun L=>if c L then f L else g L):=fun L hL=>by
 by_cases h:c L
 ·simp only[if_pos h];exact hf L hL
 ·simp only[if_neg h];exact hg L hL
theorem Pos.step{c:List Tok→Prop}[∀ L,Decidable (c L)](hc:∀ L,c L→(hd L).kind≠6)(hf:Pos n f)(hg:Pos m g)(hm:m≤n+1):Pos m (fun L=>if c L then f L.tail else g L):=fun L hL=>by
 by_cases h:c L
 ·simp only[if_pos h]
  obtain⟨h1,h2⟩:=hL.tail (hc L h)
  refine⟨fun a L' e=> ?_,fun p q e=> ?_⟩
  ·obtain⟨k1,k2,k3⟩:=(hf L.tail h1).ok a L' e
   exact⟨k1.trans (List.tail_suffix _),k2,by omega⟩
  ·obtain⟨⟨t,ht,e2⟩,hc⟩:=(hf L.tail h1).err p q e
   exact⟨⟨t,List.mem_of_mem_tail ht,e2⟩,hc⟩
 ·simp only[if_neg h];exact hg L hL
theorem see_kind{k:Int}{s:Str}(hk:k≠6):∀ L,see k s L=true→(hd L).kind≠6:=fun L h=>by
 unfold see at h
 rw[Bool.and_eq_true,decide_eq_true_eq]at h
 rw[h.1];exact hk
theorem Pos.need{k:Int}{s:Str}(hk:k≠6):Pos 1 (needP k s):=Pos.step (n:=0) (see_kind hk) (Pos.pure ()) Pos.wrong (Nat.le_refl _)
theorem Pos.tok{k:Int}(hk:k≠6):Pos 1 (tokP k):=fun L hL=>by
 unfold tokP
 by_cases h:(hd L).kind≠k
 ·rw[if_pos h];exact Pos.wrong L hL
 ·rw[if_neg h]
  have h6:(hd L).kind≠6:=fun e=>hk ((Classical.not_not.1 h).symm.trans e)
  obtain⟨h1,h2⟩:=hL.tail h6
  exact⟨fun a L' e=>by cases e;exact⟨List.tail_suffix _,h1,by omega⟩,fun p c e=>by cases e⟩
theorem Pos.name:Pos 1 nameP:=Pos.ite Pos.wrong (Pos.map (Pos.tok (by decide)))
theorem Pos.num:Pos 1 numP:=Pos.map (Pos.tok (by decide))
theorem Pos.many{sep:Str}{f:List Tok→PR α}(hf:Pos 0 f):∀ n acc,Pos 0 (fun L=>manyP sep f n L acc)
 |0,acc=>Pos.pure acc
 |n+1,acc=>Pos.step (n:=0) (see_kind (by decide)) (Pos.bind (n:=0) (m:=0) hf fun a=>Pos.many hf n (acc++[a])) (Pos.pure acc) (Nat.zero_le _)
theorem Pos.list{sep:Str}{f:List Tok→PR α}(hf:Pos 1 f):Pos 1 (listP sep f):=Pos.bind (n:=1) (m:=0) hf fun a=>Pos.many (hf.le (Nat.zero_le _)) N0 [a]
end
theorem Pos.factor:Pos 1 factorP:=by
 refine Pos.bind (n:=1) (m:=0) Pos.name fun a=> ?_
 refine Pos.step (n:=0) (see_kind (by decide)) (Pos.step (n:=0) (see_kind (by decide)) (Pos.map (Pos.num.le (by omega))) (Pos.map (Pos.num.le (by omega))) (by omega)) (Pos.pure _) (by omega)
theorem Pos.unit:Pos 0 unitP:=fun L hL=>by
 unfold unitP
 by_cases h:see 5 (ch 91) L=true
 ·rw[if_pos h]
  obtain⟨h1,h2⟩:=hL.tail (see_kind (by decide) L h)
  have hb:=Pos.bind (n:=1) (m:=1) (Pos.list (sep:=ch 42) Pos.factor) (g:=fun l L1=>(signP (ch 93) L1).bind fun _ L2=>PR.ok l L2) fun l=>Pos.bind (n:=1) (m:=0) (Pos.need (by decide)) fun _=>Pos.pure l
  have hb:=hb L.tail h1
  cases e1:listP (ch 42) factorP L.tail with
  |err p c=>exact⟨fun a L' e=>(by cases e),fun p' c' e=>by cases e;obtain⟨⟨t,ht,e2⟩,hc⟩:=hb.err p c (by simp only[e1,PR.bind]);exact⟨⟨t,List.mem_of_mem_tail ht,e2⟩,hc⟩⟩
  |ok l L1=>
   cases e2:signP (ch 93) L1 with
   |err p c=>exact⟨fun a L' e=>(by simp only[PR.bind,e2]at e;cases e),fun p' c' e=>by simp only[PR.bind,e2]at e;cases e;obtain⟨⟨t,ht,e3⟩,hc⟩:=hb.err p c (by simp only[e1,PR.bind,e2]);exact⟨⟨t,List.mem_of_mem_tail ht,e3⟩,hc⟩⟩
   |ok u L2=>
    obtain⟨k1,k2,k3⟩:=hb.ok l L2 (by simp only[e1,PR.bind,e2])
    simp only[PR.bind,e2]
    split
    ·rename_i hn
     exact⟨fun a L' e=>(by cases e),fun p c e=>by cases e;exact⟨⟨_,hd_mem hL.ne,rfl⟩,hn⟩⟩
    ·exact⟨fun a L' e=>by cases e;exact⟨k1.trans (List.tail_suffix _),k2,by omega⟩,fun p c e=>by cases e⟩
 ·rw[if_neg h];exact Pos.pure _ L hL
theorem Pos.kind:Pos 1 kindP:=by
 refine Pos.step (n:=0) (see_kind (by decide)) (Pos.pure _) ?_ (by omega)
 refine Pos.step (n:=0) (see_kind (by decide)) (Pos.pure _) ?_ (by omega)
 refine Pos.step (n:=0) (see_kind (by decide)) (Pos.map (Pos.name.le (by omega))) ?_ (by omega)
 refine Pos.step (n:=0) (see_kind (by decide)) (Pos.map Pos.unit) ?_ (by omega)
 exact Pos.bind (n:=1) (m:=0) (Pos.need (by decide)) fun _=>Pos.map Pos.unit
theorem Pos.window:Pos 1 windowP:=by
 refine Pos.step (n:=0) (see_kind (by decide)) (Pos.pure _) ?_ (by omega)
 refine Pos.step (n:=0) (see_kind (by decide)) (Pos.map (Pos.num.le (by omega))) ?_ (by omega)
 refine Pos.step (n:=0) (see_kind (by decide)) (Pos.map (Pos.num.le (by omega))) ?_ (by omega)
 exact Pos.bind (n:=1) (m:=0) (Pos.need (by decide)) fun _=>Pos.map (Pos.num.le (by omega))
set_option linter.unusedSimpArgs false
theorem rank_kind:∀ L,rankP L≠0→(hd L).kind≠6:=fun L h e=>by
 unfold rankP at h
 simp only[e]at h
 simp at h
structure PosE(n:Nat):Prop where
 expr:∀ i,Pos 1 (exprP n i)
 def_:∀ i x,Pos 0 (defP n i x)
 bin:∀ l i,Pos 1 (binP n l i)
 ops:∀ l m i x,Pos 0 (opsP n l m i x)
 operand:∀ l i,Pos 1 (operandP n l i)
 prim:∀ i,Pos 1 (primP n i)
 group:∀ i,Pos 1 (groupP n i)
 word:∀ i L,EndL L→(hd L).kind≠6→PosR 1 L (wordP n i L)
 agg:∀ o,Pos 1 (aggP n o)
theorem Pos.tokErr{α:Type}{k:Int}(hk:k≠6){c:Tok→Prop}[∀ t,Decidable (c t)]{e:Int}(he:e≠0){g:Tok→α}:Pos 1 (fun L=>(tokP k L).bind fun t L2=>if c t then .err t.at_ e else .ok (g t) L2):=fun L hL=>by
 by_cases h:(hd L).kind≠k
 ·have h1:tokP k L=wrongP L:=if_pos h
  simp only[h1];exact Pos.wrong (n:=1) L hL
 ·have h1:tokP k L= .ok (hd L) L.tail:=if_neg h
  have h6:(hd L).kind≠6:=fun e=>hk ((Classical.not_not.1 h).symm.trans e)
  obtain⟨k1,k2⟩:=hL.tail h6
  simp only[h1,PR.bind]
  by_cases hc:c (hd L)
  ·simp only[if_pos hc];exact⟨fun a L' e=>(by cases e),fun p q e=>by cases e;exact⟨⟨_,hd_mem hL.ne,rfl⟩,he⟩⟩
  ·simp only[if_neg hc];exact⟨fun a L' e=>by cases e;exact⟨List.tail_suffix _,k1,by omega⟩,fun p q e=>by cases e⟩
theorem Pos.keyAt:Pos 1 keyAtP:=(Pos.bind (n:=1) (m:=1) Pos.name fun a=>Pos.tokErr (by decide) (by decide)).le (by omega)
theorem posE:∀ n,PosE n
 |0=>by
  refine⟨fun i=> ?_,fun i x=> ?_,fun l i=> ?_,fun l m i x=> ?_,fun l i=> ?_,fun i=> ?_,fun i=> ?_,fun i L hL hk=> ?_,fun o=> ?_⟩
  ·intro L hL;rw[exprP];exact Pos.wrong L hL
  ·intro L hL;rw[defP];exact Pos.wrong L hL
  ·intro L hL;rw[binP];exact Pos.wrong L hL
  ·intro L hL;rw[opsP];exact Pos.wrong L hL
  ·intro L hL;rw[operandP];exact Pos.wrong L hL
  ·intro L hL;rw[primP];exact Pos.wrong L hL
  ·intro L hL;rw[groupP];exact Pos.wrong L hL
  ·rw[wordP];exact Pos.wrong L hL
  ·intro L hL;rw[aggP];exact Pos.wrong L hL
 |n+1=>by
  have ih:=posE n
  refine⟨fun i=> ?_,fun i x=> ?_,fun l i=> ?_,fun l m i x=> ?_,fun l i=> ?_,fun i=> ?_,fun i=> ?_,fun i L hL hk=> ?_,fun o=> ?_⟩
  ·intro L hL;rw[exprP]
   exact(Pos.step (n:=0) (m:=1) (c:=fun L=>see 1 wIf L=true) (see_kind (by decide)) (Pos.le (n:=5) (Pos.bind (n:=1) (m:=4) (ih.expr i) fun a=>Pos.bind (n:=1) (m:=3) (Pos.need (by decide)) fun _=>Pos.bind (n:=1) (m:=2) (ih.expr i) fun b=>Pos.bind (n:=1) (m:=1) (Pos.need (by decide)) fun _=>Pos.bind (n:=1) (m:=0) (ih.expr i) fun c=>Pos.pure _) (by omega))
    (Pos.bind (n:=1) (m:=0) (ih.bin 1 i) fun x=>ih.def_ i x) (by omega)) L hL
  ·intro L hL;rw[defP]
   exact(Pos.step (n:=0) (m:=0) (c:=fun L=>see 1 wDef L=true) (see_kind (by decide)) (Pos.le (n:=1) (Pos.bind (n:=1) (m:=0) (ih.bin 1 i) fun y=>ih.def_ i _) (by omega)) (Pos.pure x) (by omega)) L hL
  ·intro L hL;rw[binP]
   exact(Pos.bind (n:=1) (m:=0) (ih.operand l i) fun x=>ih.ops l (if decide (l≤3) && see 1 wNot L then 2 else 7) i x) L hL
  ·intro L hL;rw[opsP]
   by_cases h:rankP L≥l∧rankP L≠0∧rankP L≤m
   ·rw[if_pos h]
    obtain⟨h1,h2⟩:=hL.tail (rank_kind L h.2.1)
    have:=(Pos.bind (n:=1) (m:=0) (ih.bin (rankP L+1) i) fun y=>ih.ops l (if rankP L=4 then 3 else rankP L) i (binE (hd L).text x y)) L.tail h1
    exact⟨fun a L' e=>by obtain⟨k1,k2,k3⟩:=this.ok a L' e;exact⟨k1.trans (List.tail_suffix _),k2,by omega⟩,fun p c e=>by obtain⟨⟨t,ht,e2⟩,hc⟩:=this.err p c e;exact⟨⟨t,List.mem_of_mem_tail ht,e2⟩,hc⟩⟩
   ·rw[if_neg h];exact Pos.pure x L hL
  ·intro L hL;rw[operandP]
   exact(Pos.step (n:=0) (m:=1) (c:=fun L=>(decide (l≤3) && see 1 wNot L)=true) (fun L h=>see_kind (k:=1) (by decide) L (Bool.and_eq_true _ _ ▸ h).2) (Pos.map ((ih.bin 3 i).le (by omega)))
    (Pos.step (n:=0) (m:=1) (c:=fun L=>see 5 (ch 45) L=true) (see_kind (by decide)) (Pos.map ((ih.operand 7 i).le (by omega))) (ih.prim i) (by omega)) (by omega)) L hL
  ·intro L hL;rw[primP]
   by_cases h2:(hd L).kind=2
   ·rw[if_pos h2];exact(Pos.bind (n:=1) (m:=0) Pos.num fun k=>Pos.map Pos.unit) L hL
   rw[if_neg h2]
   by_cases h3:(hd L).kind=3
   ·rw[if_pos h3];exact(Pos.bind (n:=1) (m:=0) (Pos.tok (by decide)) fun k=>Pos.map Pos.unit) L hL
   rw[if_neg h3]
   by_cases h4:(hd L).kind=4
   ·rw[if_pos h4];exact(Pos.map (Pos.tok (by decide))) L hL
   rw[if_neg h4]
   by_cases h1:(hd L).kind=1
   ·rw[if_pos h1];exact ih.word i L hL (by rw[h1];decide)
   rw[if_neg h1]
   exact(Pos.step (n:=0) (m:=1) (c:=fun L=>see 5 (ch 64) L=true) (see_kind (by decide)) (Pos.keyAt.le (by omega)) (ih.group i) (by omega)) L hL
  ·intro L hL;rw[groupP]
   exact(Pos.le (n:=3) (Pos.bind (n:=1) (m:=2) (Pos.need (by decide)) fun _=>Pos.bind (n:=1) (m:=1) (ih.expr i) fun x=>Pos.map (Pos.need (by decide))) (by omega)) L hL
  ·rw[wordP]
   obtain⟨h1,h2⟩:=hL.tail hk
   have up:∀ {r:PR Ex},PosR 0 L.tail r→PosR 1 L r:=fun {r} h=>⟨fun a L' e=>by obtain⟨k1,k2,k3⟩:=h.ok a L' e;exact⟨k1.trans (List.tail_suffix _),k2,by omega⟩,fun p c e=>by obtain⟨⟨t,ht,e2⟩,hc⟩:=h.err p c e;exact⟨⟨t,List.mem_of_mem_tail ht,e2⟩,hc⟩⟩
   split
   ·exact up (Pos.pure _ L.tail h1)
   split
   ·exact up ((Pos.map ((ih.group i).le (by omega))) L.tail h1)
   split
   ·exact up (((ih.agg _).le (by omega)) L.tail h1)
   ·refine(Pos.bind (n:=1) (m:=0) Pos.name fun s=> ?_) L hL
    by_cases hi:i=true
    ·simp only[if_pos hi];exact Pos.pure _
    ·simp only[if_neg hi]
     exact Pos.step (n:=0) (m:=0) (c:=fun L=>see 1 wOf L=true) (see_kind (by decide)) (Pos.map ((ih.group i).le (by omega))) (Pos.pure _) (by omega)
  ·intro L hL;rw[aggP]
   refine(Pos.le (n:=5) (Pos.bind (n:=1) (m:=4) (Pos.need (by decide)) fun _=>Pos.bind (n:=1) (m:=3) Pos.name fun tb=>Pos.bind (n:=1) (m:=2) (Pos.need (by decide)) fun _=>Pos.bind (n:=0) (m:=2) ?_ fun a=>Pos.bind (n:=0) (m:=2) ?_ fun p=>Pos.bind (n:=1) (m:=1) Pos.window fun w=>Pos.bind (n:=0) (m:=1) ?_ fun c=>Pos.map (Pos.need (by decide))) (by omega)) L hL
   ·exact Pos.ite (Pos.bind (n:=0) (m:=0) ((ih.expr true).le (by omega)) fun x=>Pos.map ((Pos.need (by decide)).le (by omega))) (Pos.pure _)
   ·exact Pos.ite (Pos.bind (n:=0) (m:=0) (Pos.num.le (by omega)) fun x=>Pos.map ((Pos.need (by decide)).le (by omega))) (Pos.pure _)
   ·exact Pos.step (n:=0) (m:=0) (c:=fun L=>see 1 wWhere L=true) (see_kind (by decide)) ((ih.expr true).le (by omega)) (Pos.pure _) (by omega)
end Go.Proofs.YtbihckigennlhaaGreatDoor
set_option linter.unusedSimpArgs false
set_option linter.unusedSectionVars false
namespace Go.Sx
open Go.RowKit Go.Proofs
section
variable {P:Program}[Glob P]{cfg:Nat→Nat}{K:Regs→Store→Prop}{E:List PanicEntry→Store→Prop}{σ:Store}{l:List CI}{d:Nat}{xr:XR}{ps:List Prop}{og:Option Bool}{args:List Operand}{ys:List AV}
theorem Spec.at{f:FuncId}{t b:Nat}{cs:List AV}{R:Res→List AV→Prop}(h:∀ τ,Spec P f ys ((t,b,.cells cs)::τ) fun r σ'=>∃ cs',R r cs'∧σ'=(t,b,.cells cs')::τ)(hl:lkt σ t=some (b,.cells cs)):
  Spec P f ys σ fun r σ'=>∃ cs',R r cs'∧σ'=upt σ t b (.cells cs'):=by
 obtain⟨pre,post,h1,h2⟩:=upt_split hl
 intro M w0 w vs hI hR
 have hp:σ.Perm ((t,b,.cells cs)::(pre++post)):=by rw[h1];exact List.perm_middle
 refine(h (pre++post) M w0 w vs (hI.perm hp) hR).mono fun e w' ⟨M',r,σ',hM,hI',hr,cs',hq,e1⟩=> ?_
 subst e1
 refine⟨M',r,upt σ t b (.cells cs'),hM,?_,hr,cs',hq,rfl⟩
 rw[h2]
 exact hI'.perm List.perm_middle.symm
theorem VX_rd{f:FuncId}{t b b':Nat}{cs:List AV}{R:Res→List AV→Prop}(h:argO xr none args=some (og,ys,ps))(hl:lkt σ t=some (b',.cells cs))(hb:b=b')(hp:∀ τ,Spec P f ys ((t,b,.cells cs)::τ) fun r σ'=>∃ cs',R r cs'∧σ'=(t,b,.cells cs')::τ)(hps:OB ps)
  (k:∀ x cs',R (.ret x) cs'→VX P cfg l K E ((d,.s x)::xr) (upt σ t b (.cells cs'))) (e:∀ ch cs',R (.pan ch) cs'→E ch (upt σ t b (.cells cs'))):VX P cfg (⟨some d,.call f args,none⟩::l) K E xr σ:=by
 subst hb
 exact VX_spec h (Spec.at hp hl) hps (fun x σ' ⟨cs',hr,e1⟩=>by subst e1;exact k x cs' hr) fun ch σ' ⟨cs',hr,e1⟩=>by subst e1;exact e ch cs' hr
end
theorem FK_pan{P:Program}[Glob P]{N:Nat}{cfg:Nat→Nat}{Q:Exit→Regs→Store→Prop}{ch:List PanicEntry}{rg:Regs}{σ:Store}:∀ {k:List Fr},Q (.panic ch) rg σ→FK P N cfg Q (.panic ch) k rg σ
 |[],h=>⟨h⟩
 | .seq _::k,h=>⟨(FK_pan (k:=k) h).h⟩
 | .blk _::k,h=>⟨(FK_pan (k:=k) h).h⟩
 | .fn _::k,h=>⟨(FK_pan (k:=k) h).h⟩
end Go.Sx
set_option maxRecDepth 100000
set_option maxHeartbeats 4000000
namespace Go.Proofs.YtbihckigennlhaaGreatDoor
open Go.Sx Go.Proofs
theorem upt_hd(t b:Nat)(k k':Blk)(τ:Store):upt ((t,b,k)::τ) t b k'=(t,b,k')::τ:=by simp[upt]
theorem hd_getD(L:List Tok):L.getD 0 default=hd L:=by cases L<;>rfl
def DigL(l:List UInt8):Prop:=l≠[]∧∀ c∈l,48≤c.toNat∧c.toNat≤57
structure TokOk(t:Tok):Prop where
 sz:t.text.size≤16384
 num:t.kind=2→DigL t.text.data.toList∧numL t.text.data.toList 0≤1152921504606846976
 dec:t.kind=3→∃ a b:List UInt8,t.text.data.toList=a++46::b∧DigL a∧DigL b∧b.length≤6∧numL (a++b) 0 * 10 ^ (6-b.length)≤1152921504606846976
structure Gd(L:List Tok):Prop where
 e:EndL L
 t:∀ t∈L,TokOk t
 n:L.length≤20000
theorem Gd.pos{L:List Tok}(h:Gd L):0<(L.length:Int):=by
 have:=List.length_pos_iff.2 h.e.ne;omega
theorem Gd.tail{L:List Tok}(h:Gd L)(hk:(hd L).kind≠6):Gd L.tail∧L.tail.length<L.length:=
 ⟨⟨(h.e.tail hk).1,fun t ht=>h.t t (List.mem_of_mem_tail ht),by have:=(h.e.tail hk).2;have:=h.n;omega⟩,(h.e.tail hk).2⟩
def rdC(L:List Tok)(ins:Bool):List AV:=[.sl false 3 (L.map Tok.cells),.v (.bool ins)]
def fltV(p c:Int):Value:= .iface 135 (.agg #[.int .i64 p,.int .i64 c])
def RdR{α:Type}(ins:Bool)(rest:List AV)(r:PR α)(val:α→AV):Res→List AV→Prop:=fun x cs'=>match r with
 | .ok a L'=>Gd L'∧x= .ret (val a)∧cs'=rdC L' ins++rest
 | .err p c=>x= .pan [{v:=fltV p c,recovered:=false}]∧∃ L' i',cs'=rdC L' i'++rest
def RdS{α:Type}(f:FuncId)(ys:List AV)(ins:Bool)(L:List Tok)(r:PR α)(val:α→AV):Prop:=∀ (b:Nat) (rest:List AV) (τ:Store),Sx.Spec Tryz.prog f (.lp 1000 b 0::ys) ((1000,b,.cells (rdC L ins++rest))::τ) fun x σ'=>∃ cs',RdR ins rest r val x cs'∧σ'=(1000,b,.cells cs')::τ
def RdF{α:Type}(ins:Bool)(rest:List AV)(r:PR α)(val:α→AV)(b:Nat)(τ:Store)(x:Res)(σ':Store):Prop:=∃ x2 cs',RdR ins rest r val x2 cs'∧Sub ((1000,b,.cells cs')::τ) σ'∧(match x,x2 with| .ret x,.ret y=>Wk x y| .pan c,.pan c'=>c=c'|_,_=>False)
theorem RdS.intro{α:Type}{f:FuncId}{ys:List AV}{ins:Bool}{L:List Tok}{r:PR α}{val:α→AV}(h:∀ (b:Nat) (rest:List AV) (τ:Store),Sx.Spec Tryz.prog f (.lp 1000 b 0::ys) ((1000,b,.cells (rdC L ins++rest))::τ) (RdF ins rest r val b τ)):RdS f ys ins L r val:=by
 intro b rest τ
 refine Spec.weak (h b rest τ) fun x σ' ⟨x2,cs',h1,h2,h3⟩=>⟨x2,_,⟨cs',h1,rfl⟩,h2,h3⟩
theorem rd_ret{α:Type}{ins:Bool}{rest:List AV}{r:PR α}{val:α→AV}{a:α}{x:AV}{L':List Tok}{b:Nat}{τ σ':Store}(h:r= .ok a L')(hL:Gd L')(hx:Wk x (val a))(hs:Sub ((1000,b,.cells (rdC L' ins++rest))::τ) σ':=by exact Zs):
  RdF ins rest r val b τ (.ret x) σ':=by
 subst h;exact⟨_,_,⟨hL,rfl,rfl⟩,hs,hx⟩
theorem rd_pan{α:Type}{ins:Bool}{rest:List AV}{r:PR α}{val:α→AV}{ch:List PanicEntry}{cs:List AV}{b:Nat}{τ σ':Store}(h:RdR ins rest r val (.pan ch) cs)(hs:Sub ((1000,b,.cells cs)::τ) σ':=by exact Zs):RdF ins rest r val b τ (.pan ch) σ':=
 ⟨_,_,h,hs,rfl⟩
theorem rd_peek(L:List Tok)(hL:Gd L)(ins:Bool)(k:Int)(s:Str):RdS 122 [iv k,sv s] ins L (.ok (see k s L) L) fun b=> .v (.bool b):=by
 refine RdS.intro fun b rest τ=> ?_
 refine Spec.runk (fun _=>0) Tryz.func122 comp122 era122 (Nat.le_of_ble_eq_true rfl) ?_
 have hp:=hL.pos
 unfold rdC
 repeat'(first|exact .nil|refine .k0 ?_|refine .k1 ?_|refine .k2 ?_|refine .k3 ?_|refine .k4 ?_|refine .k7 ?_|refine .r1 ?_ ?_|refine .t1 ?_ ?_ ?_|fail)
 try any_goals(exact Zo)
 all_goals(try simp only[BL]at *)
 ·exact rd_ret rfl hL (.ofeq (by simp only[hd_getD];rfl))
 all_goals omega
def skipP(k:Int)(s:Str)(L:List Tok):PR Bool:=if see k s L then .ok true L.tail else .ok false L
theorem rd_skip(L:List Tok)(hL:Gd L)(ins:Bool)(k:Int)(hk:k≠6)(s:Str):RdS 77 [iv k,sv s] ins L (skipP k s L) fun b=> .v (.bool b):=by
 refine RdS.intro fun b rest τ=> ?_
 refine Spec.runk (fun _=>0) Tryz.func77 comp77 era77 (Nat.le_of_ble_eq_true rfl) ?_
 have hp:=hL.pos
 repeat'(first|exact .nil|refine .k0 ?_|refine .k1 ?_|refine .k2 ?_|refine .r1 ?_ ?_|fail)
 refine VX_rd rfl rfl rfl (fun τ'=>rd_peek L hL ins k s b rest τ') .nil ?_ (fun ch cs' h=>absurd h.2.1 (by nofun))
 rintro x cs' ⟨h1,h2,h3⟩
 cases h2
 subst h3
 rw[upt_hd]
 unfold rdC
 repeat'(first|exact .nil|refine .k0 ?_|refine .k1 ?_|refine .k2 ?_|refine .k7 ?_|refine .k9 ?_|(refine .cd ?_ ?_<;>(intro hc;skip))|refine .r1 ?_ ?_|refine .t3 ?_ ?_ ?_|refine .r8 ?_ ?_|fail)
 try any_goals(exact Zo)
 all_goals(try simp only[BL]at *)
 ·exact rd_ret (a:=false) (by unfold skipP;rw[hc];rfl) hL (.refl _)
 refine VX_st (cs':=[.sl false 3 ((L.drop 1).map Tok.cells),.v (.bool ins)]++rest) rfl rfl rfl rfl rfl ⟨rfl,by simp⟩ .nil ?_
 rw[upt_hd]
 repeat'(first|exact .nil|refine .k0 ?_|refine .k1 ?_|refine .k2 ?_|refine .k7 ?_|refine .r1 ?_ ?_|fail)
 all_goals(try simp only[BL]at *)
 rw[List.drop_one]
 exact rd_ret (a:=true) (by unfold skipP;rw[hc];rfl) (hL.tail (see_kind hk L hc)).1 (.refl _)
def WrongOk:Prop:=∀ (L:List Tok),Gd L→∀ ins,RdS 76 [] ins L (wrongP L:PR Unit) fun _=> .any
theorem wrong_pan{ins:Bool}{rest:List AV}{L:List Tok}{α:Type}{val:α→AV}{r:PR α}{x:Res}{cs':List AV}(h:RdR ins rest (wrongP L:PR Unit) (fun _=> .any) x cs')(hr:r=wrongP L):RdR ins rest r val x cs':=by
 subst hr;exact h
theorem rd_sign(hw:WrongOk)(L:List Tok)(hL:Gd L)(ins:Bool)(s:Str):RdS 155 [sv s] ins L (signP s L) fun _=> .tup []:=by
 refine RdS.intro fun b rest τ=> ?_
 refine Spec.runk (fun _=>0) Tryz.func155 comp155 era155 (Nat.le_of_ble_eq_true rfl) ?_
 repeat'(first|exact .nil|refine .k1 ?_|refine .k2 ?_|refine .r1 ?_ ?_|fail)
 refine VX_rd rfl rfl rfl (fun τ'=>rd_skip L hL ins 5 (by decide) s b rest τ') .nil ?_ (fun ch cs' h=> ?_)
 ·rintro x cs' h
  rw[upt_hd]
  unfold skipP at h
  split at h<;>rename_i hs<;>obtain⟨h1,h2,h3⟩:=h<;>cases h2<;>subst h3<;>(repeat'(first|exact .nil|refine .k0 ?_|refine .k1 ?_|refine .k2 ?_|refine .k3 ?_|refine .k9 ?_|(refine .cd ?_ ?_<;>(intro hc;skip))|refine .r1 ?_ ?_|fail))<;>(try(exact absurd hc (by decide)))
  ·exact rd_ret (a:=()) (by show needP _ _ _=_;unfold needP;rw[if_pos hs]) h1 (.refl _)
  ·refine VX_rd rfl rfl rfl (fun τ'=>hw L hL ins b rest τ') .nil (fun x cs' h=>absurd h (by nofun)) (fun ch cs' h=> ?_)
   rw[upt_hd]
   refine FK_pan ?_
   exact rd_pan (wrong_pan h (by show needP _ _ _=_;unfold needP;rw[if_neg hs]))
 ·unfold skipP at h;split at h<;>exact absurd h.2.1 (by nofun)
theorem rd_keyword(hw:WrongOk)(L:List Tok)(hL:Gd L)(ins:Bool)(s:Str):RdS 78 [sv s] ins L (keyP s L) fun _=> .tup []:=by
 refine RdS.intro fun b rest τ=> ?_
 refine Spec.runk (fun _=>0) Tryz.func78 comp78 era78 (Nat.le_of_ble_eq_true rfl) ?_
 repeat'(first|exact .nil|refine .k1 ?_|refine .k2 ?_|refine .r1 ?_ ?_|fail)
 refine VX_rd rfl rfl rfl (fun τ'=>rd_skip L hL ins 1 (by decide) s b rest τ') .nil ?_ (fun ch cs' h=> ?_)
 ·rintro x cs' h
  rw[upt_hd]
  unfold skipP at h
  split at h<;>rename_i hs<;>obtain⟨h1,h2,h3⟩:=h<;>cases h2<;>subst h3<;>(repeat'(first|exact .nil|refine .k0 ?_|refine .k1 ?_|refine .k2 ?_|refine .k3 ?_|refine .k9 ?_|(refine .cd ?_ ?_<;>(intro hc;skip))|refine .r1 ?_ ?_|fail))<;>(try(exact absurd hc (by decide)))
  ·exact rd_ret (a:=()) (by show needP _ _ _=_;unfold needP;rw[if_pos hs]) h1 (.refl _)
  ·refine VX_rd rfl rfl rfl (fun τ'=>hw L hL ins b rest τ') .nil (fun x cs' h=>absurd h (by nofun)) (fun ch cs' h=> ?_)
   rw[upt_hd]
   refine FK_pan ?_
   exact rd_pan (wrong_pan h (by show needP _ _ _=_;unfold needP;rw[if_neg hs]))
 ·unfold skipP at h;split at h<;>exact absurd h.2.1 (by nofun)
theorem rd_token(hw:WrongOk)(L:List Tok)(hL:Gd L)(ins:Bool)(k:Int)(hk:k≠6):RdS 151 [iv k] ins L (tokP k L) fun t=> .agg t.cells:=by
 refine RdS.intro fun b rest τ=> ?_
 refine Spec.runk (fun _=>0) Tryz.func151 comp151 era151 (Nat.le_of_ble_eq_true rfl) ?_
 have hp:=hL.pos
 unfold rdC
 repeat'(first|exact .nil|refine .k0 ?_|refine .k1 ?_|refine .k2 ?_|refine .k9 ?_|(refine .cd ?_ ?_<;>(intro hc;skip))|refine .r1 ?_ ?_|(refine .l1 ?_;intro b)|refine .t1 ?_ ?_ ?_|refine .t3 ?_ ?_ ?_|refine .r8 ?_ ?_|fail)
 try any_goals(exact Zo)
 all_goals(try simp only[BL]at *)
 ·refine VX_rd (cs:=[.sl false 3 (L.map Tok.cells),.v (.bool ins)]++rest) rfl rfl rfl (fun τ'=>hw L hL ins _ rest τ') .nil (fun x cs' h=>absurd h (by nofun)) (fun ch cs' h=> ?_)
  refine FK_pan ?_
  exact rd_pan (wrong_pan h (by unfold tokP;rw[if_pos (by rw[← hd_getD];exact hc)]))
 refine VX_st (cs':=[.sl false 3 ((L.drop 1).map Tok.cells),.v (.bool ins)]++rest) rfl rfl rfl rfl rfl ⟨rfl,by simp⟩ .nil ?_
 repeat'(first|exact .nil|refine .k0 ?_|refine .k1 ?_|refine .k2 ?_|refine .k7 ?_|refine .r1 ?_ ?_|fail)
 all_goals(try simp only[BL]at *)
 simp only[upt_hd,List.drop_one,hd_getD]at *
 exact rd_ret (a:=hd L) (by unfold tokP;rw[if_neg (fun h=>h hc)]) (hL.tail (by rw[hc];exact hk)).1 (.refl _)
end Go.Proofs.YtbihckigennlhaaGreatDoor
namespace Go.Sx
open Go.RowKit Go.Proofs
section
variable {P:Program}[Glob P]{M:Mem}{w0:Base}{w:World}{σ:Store}
theorem Inv.freeze{t b:Nat}{xs:List AV}(hI:Inv P M w0 ((t,b,.cells xs)::σ) w):∃ (M':Mem) (vs:List Value),M.le M'∧Inv P M' w0 σ w∧RL M' xs vs∧∀ k (h:k<vs.length),M' b k=some vs[k]:=by
 obtain⟨hsz,hn,cs,ty,hh,hR⟩:=hI.st _ (List.mem_cons_self)
 have hnd:=hI.nd
 simp only[List.map_cons,List.nodup_cons]at hnd
 let M':Mem:=fun b' o=>if b'=b then cs[o]? else M b' o
 have hle:M.le M':=fun b' o v h=>by
  have hne:b'≠b:=fun e=>by rw[e,hn o]at h;cases h
  simp[M',hne,h]
 refine⟨M',cs.toList,hle,⟨hI.os,hI.tape,hI.output,hI.size,hI.old,fun b' o v h=> ?_,fun e he=>⟨(hI.st e (List.mem_cons_of_mem _ he)).1,?_⟩,hnd.2,fun g l e=>(hI.gl g l e).mono hle,hI.gw,fun b' o v hv hlt=>hI.bm b' o v (by have hne:b'≠b:=(by rintro rfl;simp only at hsz;omega);simpa[M',hne]using hv) hlt⟩,hR.mono hle,fun k h=> ?_⟩
 ·by_cases e:b'=b
  ·subst e
   have h2:cs[o]? =some v:=by simpa[M']using h
   show w.cell? _=_
   simp[World.cell?,hh,h2]
  ·exact hI.imm b' o v (by simpa[M',e]using h)
 ·obtain⟨tg,b2,x⟩:=e
  have hk:=(hI.st _ (List.mem_cons_of_mem _ he)).2
  have hne:b2≠b:=fun e=>hnd.1 (e ▸ List.mem_map_of_mem (f:=fun x:Nat×Nat×Blk=>x.2.1) he)
  cases x with
  |cells l=>obtain⟨h1,cs',t',h2,h3⟩:=hk;exact⟨fun o=>by simp[M',hne,h1 o],cs',t',h2,h3.mono hle⟩
  |tail u' c=>obtain⟨h1,cs',t',h2,h3⟩:=hk;exact⟨fun o ho=>by simp[M',hne,h1 o ho],cs',t',h2,h3⟩
  |map es k=>obtain⟨h1,l,h2,h3,h4⟩:=hk;exact⟨fun o=>by simp[M',hne,h1 o],l,h2,h3,h4.mono hle⟩
 ·have h2:k<cs.size:=by simpa using h
  simp[M',h2]
end
inductive FzS(t b:Nat)(xs:List AV):Store→Store→Prop
 |here {σ:Store}:FzS t b xs ((t,b,.cells xs)::σ) σ
 |there {e:Nat×Nat×Blk} {σ σ':Store} (h:FzS t b xs σ σ'):FzS t b xs (e::σ) (e::σ')
theorem FzS.perm{t b:Nat}{xs:List AV}{σ σ':Store}(h:FzS t b xs σ σ'):List.Perm σ ((t,b,.cells xs)::σ'):=by
 induction h with
 |here=>exact .refl _
 |there _ ih=>exact(ih.cons _).trans (.swap _ _ _)
inductive FzL(b e:Nat)(rows:List (List AV)):List AV→List AV→Prop
 |nil:FzL b e rows [] []
 |same {x:AV} {l l':List AV} (h:FzL b e rows l l'):FzL b e rows (x::l) (x::l')
 |m {t:Nat} {l l':List AV} (h:FzL b e rows l l'):FzL b e rows (.ms t b 0 rows.length rows.length::l) (.sl false e rows::l')
theorem flat_get{α:Type}{e:Nat}:∀ {rows:List (List α)} (hr:∀ r∈rows,r.length=e) (i:Nat) (hi:i<rows.length) (j:Nat) (hj:j<rows[i].length),rows.flatten[i * e+j]? =some rows[i][j]
 |[],_,i,hi,_,_=>absurd hi (Nat.not_lt_zero _)
 |r::rows,hr,0,hi,j,hj=>by
  simp only[List.flatten_cons,Nat.zero_mul,Nat.zero_add,List.getElem_cons_zero]at hj ⊢
  rw[List.getElem?_append_left hj,List.getElem?_eq_getElem hj]
 |r::rows,hr,i+1,hi,j,hj=>by
  have h1:r.length=e:=hr r (by simp)
  have hi':i<rows.length:=by simpa using hi
  simp only[List.flatten_cons,List.getElem_cons_succ]at hj ⊢
  rw[List.getElem?_append_right (by rw[h1,Nat.succ_mul];omega),show(i+1) * e+j-r.length=i * e+j by rw[h1,Nat.succ_mul];omega]
  exact flat_get (fun r h=>hr r (by simp[h])) i hi' j hj
theorem FzL.R{M M':Mem}(hM:M.le M'){b e:Nat}{rows:List (List AV)}(hr:∀ r∈rows,r.length=e)(hn:rows.length≤maxLen){vs:List Value}(hR:RL M' rows.flatten vs)(hc:∀ k (h:k<vs.length),M' b k=some vs[k]){l l':List AV}(h:FzL b e rows l l'):
  ∀ {us:List Value},RL M l us→RL M' l' us:=by
 induction h with
 |nil=>exact fun hu=>hu.mono hM
 | @same x l l' h ih=>intro us hu;obtain⟨v,vs',rfl,hx,hxs⟩:=hu.uncons;exact RL.cons (hx.mono hM) (ih hxs)
 | @m t l l' h ih=>
  intro us hu
  obtain⟨v,vs',rfl,hx,hxs⟩:=hu.uncons
  refine RL.cons ?_ (ih hxs)
  rw[hx.of_ms]
  have hlen:rows.flatten.length=rows.length * e:=by
   have:∀ (rows:List (List AV)),(∀ r∈rows,r.length=e)→rows.flatten.length=rows.length * e:=by
    intro rows
    induction rows with
    |nil=>intro _;simp
    |cons r rows ih=>intro h;rw[List.flatten_cons,List.length_append,ih (fun r hr=>h r (by simp[hr])),h r (by simp),List.length_cons,Nat.succ_mul];omega
   exact this rows hr
  refine .sl _ _ _ b 0 _ (fun k=>vs.getD k default) (fun i hi=>hr _ (List.getElem_mem hi)) (fun k hk=> ?_) (fun i hi j hj=> ?_) (Nat.le_refl _) hn
  ·have hk':k<vs.length:=by rw[← hR.1,hlen];exact hk
   rw[Nat.zero_add,hc k hk',List.getD_eq_getElem?_getD,List.getElem?_eq_getElem hk'];rfl
  ·have hg:=flat_get hr i hi j hj
   obtain⟨h1,h2⟩:=List.getElem?_eq_some_iff.1 hg
   have h3:i * e+j<vs.length:=by rw[← hR.1];exact h1
   have:=hR.2 _ h1 h3
   rw[h2]at this
   rw[List.getD_eq_getElem?_getD,List.getElem?_eq_getElem h3]
   exact this
end Go.Sx
namespace Go.Proofs.YtbihckigennlhaaGreatDoor
open Go.Sx Go.Proofs
def RdZ{α:Type}(ins:Bool)(rest:List AV)(r:PR α)(val:α→AV)(b:Nat)(τ:Store)(x:Res)(σ':Store):Prop:=
 RdF ins rest r val b τ x σ'∨∃ (l l':List AV) (t bb e:Nat) (rows:List (List AV)) (σ2:Store),x= .ret (.agg l)∧FzS t bb rows.flatten σ' σ2∧(∀ r∈rows,r.length=e)∧rows.length≤maxLen∧FzL bb e rows l l'∧RdF ins rest r val b τ (.ret (.agg l')) σ2
theorem RdS.introZ{α:Type}{f:FuncId}{ys:List AV}{ins:Bool}{L:List Tok}{r:PR α}{val:α→AV}(h:∀ (b:Nat) (rest:List AV) (τ:Store),Sx.Spec Tryz.prog f (.lp 1000 b 0::ys) ((1000,b,.cells (rdC L ins++rest))::τ) (RdZ ins rest r val b τ)):RdS f ys ins L r val:=by
 refine RdS.intro fun b rest τ=> ?_
 intro M w0 w cs hI hR
 refine(h b rest τ M w0 w cs hI hR).mono fun e w' ⟨M',x,σ',hM,hI',hx,hq⟩=> ?_
 rcases hq with hq|⟨l,l',t,bb,e',rows,σ2,e1,hs,hr,hn,hl,hq⟩
 ·exact⟨M',x,σ',hM,hI',hx,hq⟩
 ·subst e1
  obtain⟨M2,vs,hM2,hI2,hR2,hc⟩:=(hI'.perm hs.perm).freeze
  refine⟨M2,.ret (.agg l'),σ2,hM.trans hM2,hI2,?_,hq⟩
  cases e with
  |returned v=>
   have hx':R M' (.agg l) v:=hx
   obtain⟨us,rfl,hus⟩:=hx'.of_agg
   have:=hl.R hM2 hr hn hR2 hc hus
   exact R.mk_agg this
  |_=>exact hx.elim
section
variable {cfg:Nat→Nat}{K:Regs→Store→Prop}{E:List PanicEntry→Store→Prop}{σ τ:Store}{l:List CI}{d b b':Nat}{xr:XR}{ps:List Prop}{og:Option Bool}{args:List Operand}{ys:List AV}{α β:Type}{f:FuncId}{ins ins2:Bool}{L:List Tok}{rest cs:List AV}{r:PR α}{val:α→AV}{r2:PR β}{val2:β→AV}
theorem upt_ne{i t b b':Nat}{x x':Blk}{r:Store}(h:Nat.beq i t=false):upt ((i,b',x')::r) t b x=(i,b',x')::upt r t b x:=by
 show(bif Nat.beq i t then _ else _)=_
 rw[h];rfl
theorem VX_rdc(h:argO xr none args=some (og,.lp 1000 b 0::ys,ps))(hp:RdS f ys ins L r val)(hl:lkt σ 1000=some (b',.cells cs))(hb:b=b')(hc:cs=rdC L ins++rest)(hps:OB ps)
  (he:∀ p c,r= .err p c→r2= .err p c) (hE:∀ ch σ',RdF ins2 rest r2 val2 b τ (.pan ch) σ'→E ch σ') (hs:∀ cs',Sub ((1000,b,.cells cs')::τ) (upt σ 1000 b (.cells cs')))
  (k:∀ a L',r= .ok a L'→Gd L'→VX Tryz.prog cfg l K E ((d,.s (val a))::xr) (upt σ 1000 b (.cells (rdC L' ins++rest)))):VX Tryz.prog cfg (⟨some d,.call f args,none⟩::l) K E xr σ:=by
 subst hc
 refine VX_rd h hl hb (fun τ'=>hp b rest τ') hps (fun x cs' hR=> ?_) (fun ch cs' hR=> ?_)
 ·cases hr:r with
  |ok a L'=>rw[hr]at hR;obtain⟨h1,h2,h3⟩:=hR;cases h2;subst h3;exact k a L' hr h1
  |err p c=>rw[hr]at hR;exact absurd hR (by nofun)
 ·cases hr:r with
  |ok a L'=>rw[hr]at hR;exact absurd hR.2.1 (by nofun)
  |err p c=>
   rw[hr]at hR
   refine hE ch _ (rd_pan ?_ (hs cs'))
   rw[he p c hr]
   exact hR
end
theorem rd_rank(L:List Tok)(hL:Gd L)(ins:Bool):RdS 124 [] ins L (.ok (rankP L) L) fun n=>iv (n:Nat):=by
 refine RdS.intro fun b rest τ=> ?_
 refine Spec.runk (fun _=>0) Tryz.func124 comp124 era124 (Nat.le_of_ble_eq_true rfl) ?_
 have hp:=hL.pos
 unfold rdC
 repeat'(first|exact .nil|refine .k0 ?_|refine .k1 ?_|refine .k2 ?_|refine .k4 ?_|refine .k6 ?_|refine .k7 ?_|refine .k9 ?_|(refine .cd ?_ ?_<;>(intro hc;first|exact kf hc (by assumption)|skip))|refine .r1 ?_ ?_|(refine .l1 ?_;intro b)|refine .t1 ?_ ?_ ?_|fail)
 try any_goals(exact Zo)
 all_goals(try simp only[BL]at *)
 all_goals first
 |omega
 |(refine rd_ret (a:=rankP L) rfl hL (.ofeq ?_)
   simp only[hd_getD,← Decidable.not_and_iff_not_or_not]at *
   unfold rankP
   simp_all [wOr,wAnd,ch,iv, -not_and])
theorem rd_name(hw:WrongOk)(L:List Tok)(hL:Gd L)(ins:Bool):RdS 110 [] ins L (nameP L) sv:=by
 refine RdS.intro fun b rest τ=> ?_
 refine Spec.runk (fun _=>0) Tryz.func110 comp110 era110 (Nat.le_of_ble_eq_true rfl) ?_
 have hp:=hL.pos
 unfold rdC
 repeat'(first|exact .nil|refine .k0 ?_|refine .k1 ?_|refine .k2 ?_|refine .k9 ?_|(refine .cd ?_ ?_<;>(intro hc;skip))|refine .r1 ?_ ?_|refine .t1 ?_ ?_ ?_|refine .an rfl (by intro hob;exact name_ok _) ?_ ?_|fail)
 try any_goals(exact Zo)
 all_goals(try simp only[BL]at *)
 ·refine VX_rdc rfl (hw L hL ins) rfl rfl rfl .nil ?_ (fun _ _ h=>FK_pan h) (fun _=>Zs) (fun a L' hr hL'=>absurd hr (by nofun))
  exact fun p c h=>by cases h;unfold nameP;rw[if_pos (by rw[← hd_getD];exact hc)];rfl
 simp only[hd_getD]at hc
 refine VX_rdc rfl (rd_token hw L hL ins 1 (by decide)) rfl rfl rfl .nil ?_ (fun _ _ h=>FK_pan h) (fun _=>Zs) (fun a L' hr hL'=> ?_)
 ·exact fun p c h=>by unfold nameP;rw[if_neg (fun h=>h hc),h];rfl
 repeat'(first|exact .nil|refine .k0 ?_|refine .k1 ?_|refine .k7 ?_|refine .r1 ?_ ?_|fail)
 all_goals(try simp only[BL]at *)
 rw[upt_hd]
 exact rd_ret (a:=a.text) (by unfold nameP;rw[if_neg (fun h=>h hc),hr];rfl) hL' (.refl _)
abbrev exV(x:Ex):AV:= .agg [iv x.kind,sv x.op,sv x.name,sv x.table,iv x.val.kind,iv x.val.n,sv x.val.s,.sl false 2 (x.unit.map Fac.cells),iv x.param,iv x.win.kind,iv x.win.size,.sl false 12 (x.args.map Ex.cells)]
def ExprOk(n:Nat):Prop:=∀ (L:List Tok),Gd L→8 * L.length+7≤n→∀ i,RdS 38 [] i L (exprP n i L) exV
theorem rd_group(hw:WrongOk)(n:Nat)(hx:ExprOk n)(L:List Tok)(hL:Gd L)(hn:8 * L.length≤n+1)(i:Bool):RdS 195 [] i L (groupP (n+1) i L) exV:=by
 refine RdS.intro fun b rest τ=> ?_
 refine Spec.runk (fun _=>0) Tryz.func195 comp195 era195 (Nat.le_of_ble_eq_true rfl) ?_
 repeat'(first|exact .nil|refine .k0 ?_|refine .k1 ?_|refine .k2 ?_|refine .r1 ?_ ?_|(refine .l1 ?_;intro b)|fail)
 all_goals(try simp only[BL]at *)
 refine VX_rdc rfl (rd_sign hw L hL i (ch 40)) rfl rfl rfl .nil ?_ (fun _ _ h=>FK_pan h) (fun _=>Zs) (fun a L1 hr1 hL1=> ?_)
 ·exact fun p c h=>by unfold groupP;rw[h];rfl
 repeat'(first|exact .nil|refine .k0 ?_|refine .k1 ?_|refine .k2 ?_|refine .r1 ?_ ?_|fail)
 all_goals(try simp only[BL]at *)
 refine VX_rdc rfl (hx L1 hL1 (by have:=((Pos.need (k:=5) (s:=ch 40) (by decide)) L hL.e).ok a L1 hr1;omega) i) rfl rfl rfl .nil ?_ (fun _ _ h=>FK_pan h) (fun _=>Zs) (fun x L2 hr2 hL2=> ?_)
 ·exact fun p c h=>by unfold groupP;rw[hr1,PR.bind_ok,h];rfl
 simp(decide:=true)only[upt_hd,upt_ne]
 repeat'(first|exact .nil|refine .k0 ?_|refine .k1 ?_|refine .k2 ?_|refine .r1 ?_ ?_|(refine .l1 ?_;intro b)|fail)
 all_goals(try simp only[BL]at *)
 refine VX_rdc rfl (rd_sign hw L2 hL2 i (ch 41)) rfl rfl rfl .nil ?_ (fun _ _ h=>FK_pan h) (fun _=>Zs) (fun y L3 hr3 hL3=> ?_)
 ·exact fun p c h=>by unfold groupP;rw[hr1,PR.bind_ok,hr2,PR.bind_ok,h];rfl
 simp(decide:=true)only[upt_hd,upt_ne]
 repeat'(first|exact .nil|refine .k0 ?_|refine .k1 ?_|refine .k2 ?_|refine .k7 ?_|refine .r1 ?_ ?_|fail)
 all_goals(try simp only[BL]at *)
 exact rd_ret (a:=x) (by unfold groupP;rw[hr1,PR.bind_ok,hr2,PR.bind_ok,hr3];rfl) hL3 (.refl _)
end Go.Proofs.YtbihckigennlhaaGreatDoor
