/- Units: what a list of factors comes to (the words of XCa, XFc and XHd, for seats without the checker). -/
import Derived.Test.YtdcpcffpapiadaaGreatDoorPt
import Derived.Sort.Defs
set_option linter.unusedVariables false
namespace Go.Proofs.YtdcpcffpapiadaaGreatDoor
open Go.Sx Go.Proofs
instance (s:ByteArray)(L:List ByteArray):Decidable (s∈L):= @List.instDecidableMemOfLawfulBEq _ instBEqOfDecidableEq inferInstance s L
def sLt(a b:Str):Bool:=Op.bytesLess a.toList b.toList
def putL:List Str→Str→List Str
 |[],s=>[s]
 |a::l,s=>if sLt a s=true then a::putL l s else if a=s then a::l else s::a::l
def sortL:List Str→List Str
 |[]=>[]
 |s::l=>putL (sortL l) s
def expU(l:List Fac)(n:Str):Int:=((l.filter fun f=>decide (f.name=n)).map Fac.exp).sum
def normU(l:List Fac):List Fac×Int:=
 let ns:=sortL (l.map Fac.name)
 if∃ n∈ns,expU l n>8∨expU l n< -8 then([],70)else
 let u:=(ns.map fun n=>(⟨n,expU l n⟩:Fac)).filter fun f=>decide (f.exp≠0)
 if u.length>4 then([],2)else(u,0)
structure Tok where
 kind:Int
 text:Str
 at_:Int
deriving DecidableEq,Inhabited
def Tok.cells(t:Tok):List AV:=[iv t.kind,sv t.text,iv t.at_]
abbrev N0:Nat:=1000000
inductive PR(α:Type) where
 |ok (a:α) (L:List Tok)
 |err (at_ code:Int)
def PR.bind{α β:Type}:PR α→(α→List Tok→PR β)→PR β
 | .ok a L,f=>f a L
 | .err p c,_=> .err p c
def PR.map{α β:Type}(r:PR α)(f:α→β):PR β:=r.bind fun a L=> .ok (f a) L
theorem PR.bind_ok{α β:Type}(a:α)(L:List Tok)(f:α→List Tok→PR β):(PR.ok a L).bind f=f a L:=rfl
def hd(L:List Tok):Tok:=L.headD default
def see(k:Int)(s:Str)(L:List Tok):Bool:=decide ((hd L).kind=k) && decide ((hd L).text=s)
def wrongP{α:Type}(L:List Tok):PR α:= .err (hd L).at_ 90
def needP(k:Int)(s:Str)(L:List Tok):PR Unit:=if see k s L then .ok () L.tail else wrongP L
abbrev signP:=needP 5
abbrev keyP:=needP 1
def tokP(k:Int)(L:List Tok):PR Tok:=if(hd L).kind≠k then wrongP L else .ok (hd L) L.tail
def nameP(L:List Tok):PR Str:=if¬Name (hd L).text then wrongP L else(tokP 1 L).map Tok.text
def numL:List UInt8→Nat→Nat
 |[],a=>a
 |b::l,a=>numL l (10 * a+(b.toNat-48))
def numS(s:Str):Int:=numL s.data.toList 0
def decV(s:Str):Int:=
 let a:=s.data.toList.takeWhile fun b=>b != 46
 let b:=(s.data.toList.dropWhile fun b=>b != 46).drop 1
 (numL (a++b) 0:Int) * 10 ^ (6-b.length)
def numP(L:List Tok):PR Int:=(tokP 2 L).map fun t=>numS t.text
def manyP{α:Type}(sep:Str)(f:List Tok→PR α):Nat→List Tok→List α→PR (List α)
 |0,L,acc=> .ok acc L
 |n+1,L,acc=>if see 5 sep L then(f L.tail).bind fun a L'=>manyP sep f n L' (acc++[a])else .ok acc L
def listP{α:Type}(sep:Str)(f:List Tok→PR α)(L:List Tok):PR (List α):=(f L).bind fun a L'=>manyP sep f N0 L' [a]
abbrev ch(n:UInt8):Str:=⟨#[n]⟩
def factorP(L:List Tok):PR Fac:=(nameP L).bind fun n L1=>
 if see 5 (ch 94) L1 then
  if see 5 (ch 45) L1.tail then(numP L1.tail.tail).map fun k=>⟨n, -(min k 1099511627776)⟩
  else(numP L1.tail).map fun k=>⟨n,min k 1099511627776⟩
 else .ok ⟨n,1⟩ L1
def unitP(L:List Tok):PR (List Fac):=
 if see 5 (ch 91) L then(listP (ch 42) factorP L.tail).bind fun l L1=>(signP (ch 93) L1).bind fun _ L2=>
  if(normU l).2≠0 then .err (hd L).at_ (normU l).2 else .ok (normU l).1 L2
 else .ok [] L
abbrev wBool:Str:=⟨#[98,111,111,108]⟩
abbrev wText:Str:=⟨#[116,101,120,116]⟩
abbrev wKey:Str:=⟨#[107,101,121]⟩
abbrev wInt:Str:=⟨#[105,110,116]⟩
abbrev wDec:Str:=⟨#[100,101,99]⟩
abbrev wAll:Str:=⟨#[97,108,108]⟩
abbrev wSli:Str:=⟨#[115,108,105,100,105,110,103]⟩
abbrev wTum:Str:=⟨#[116,117,109,98,108,105,110,103]⟩
abbrev wSes:Str:=⟨#[115,101,115,115,105,111,110]⟩
abbrev wWhere:Str:=⟨#[119,104,101,114,101]⟩
abbrev wCount:Str:=⟨#[99,111,117,110,116]⟩
abbrev wQuant:Str:=⟨#[113,117,97,110,116,105,108,101]⟩
abbrev wDecay:Str:=⟨#[100,101,99,97,121]⟩
abbrev wTrue:Str:=⟨#[116,114,117,101]⟩
abbrev wFalse:Str:=⟨#[102,97,108,115,101]⟩
abbrev wNull:Str:=⟨#[110,117,108,108]⟩
abbrev wOf:Str:=⟨#[111,102]⟩
abbrev wIf:Str:=⟨#[105,102]⟩
abbrev wThen:Str:=⟨#[116,104,101,110]⟩
abbrev wElse:Str:=⟨#[101,108,115,101]⟩
abbrev wDef:Str:=⟨#[100,101,102,97,117,108,116]⟩
abbrev wNot:Str:=⟨#[110,111,116]⟩
abbrev wAnd:Str:=⟨#[97,110,100]⟩
abbrev wOr:Str:=⟨#[111,114]⟩
abbrev wTable:Str:=⟨#[116,97,98,108,101]⟩
abbrev wFea:Str:=⟨#[102,101,97,116,117,114,101]⟩
abbrev wKeep:Str:=⟨#[107,101,101,112]⟩
def kindP(L:List Tok):PR Ty:=
 if see 1 wBool L then .ok ⟨1,[],⟨#[]⟩⟩ L.tail
 else if see 1 wText L then .ok ⟨4,[],⟨#[]⟩⟩ L.tail
 else if see 1 wKey L then(nameP L.tail).map fun s=>⟨5,[],s⟩
 else if see 1 wInt L then(unitP L.tail).map fun u=>⟨2,u,⟨#[]⟩⟩
 else(keyP wDec L).bind fun _ L1=>(unitP L1).map fun u=>⟨3,u,⟨#[]⟩⟩
def windowP(L:List Tok):PR Win:=
 if see 1 wAll L then .ok ⟨1,0⟩ L.tail
 else if see 1 wSli L then(numP L.tail).map fun n=>⟨2,n⟩
 else if see 1 wTum L then(numP L.tail).map fun n=>⟨3,n⟩
 else(keyP wSes L).bind fun _ L1=>(numP L1).map fun n=>⟨4,n⟩
def v0:Val:=⟨0,0,⟨#[]⟩⟩
def w0:Win:=⟨0,0⟩
def truE(n:Int):Ex:= .mk 1 ⟨#[]⟩ ⟨#[]⟩ ⟨#[]⟩ ⟨1,n,⟨#[]⟩⟩ [] 0 w0 []
def unE(op:Str)(x:Ex):Ex:= .mk 6 op ⟨#[]⟩ ⟨#[]⟩ v0 [] 0 w0 [x]
def binE(op:Str)(x y:Ex):Ex:= .mk 7 op ⟨#[]⟩ ⟨#[]⟩ v0 [] 0 w0 [x,y]
def nmE(k:Int)(s:Str)(l:List Ex):Ex:= .mk k ⟨#[]⟩ s ⟨#[]⟩ v0 [] 0 w0 l
def litE(v:Val)(u:List Fac)(n:Str):Ex:= .mk 1 ⟨#[]⟩ n ⟨#[]⟩ v u 0 w0 []
def keyAtP(L:List Tok):PR Ex:=(nameP L).bind fun n L1=>(tokP 4 L1).bind fun t L2=>
 if t.text.size<1∨t.text.size>32∨(32:UInt8)∈t.text.data.toList then .err t.at_ 3 else .ok (litE ⟨5,0,t.text⟩ [] n) L2
def rankP(L:List Tok):Nat:=
 let t:=hd L
 if t.kind=1∧t.text=wOr then 1 else if t.kind=1∧t.text=wAnd then 2 else if t.kind≠5 then 0
 else if t.text=⟨#[61,61]⟩∨t.text=⟨#[33,61]⟩∨t.text=ch 60∨t.text=⟨#[60,61]⟩then 4
 else if t.text=ch 43∨t.text=ch 45 then 5
 else if t.text=ch 42∨t.text=ch 47 then 6 else 0
mutual
def exprP:Nat→Bool→List Tok→PR Ex
 |0,_,L=>wrongP L
 |n+1,i,L=>if see 1 wIf L then(exprP n i L.tail).bind fun a L1=>(keyP wThen L1).bind fun _ L2=>(exprP n i L2).bind fun b L3=>(keyP wElse L3).bind fun _ L4=>(exprP n i L4).bind fun c L5=> .ok (.mk 8 ⟨#[]⟩ ⟨#[]⟩ ⟨#[]⟩ v0 [] 0 w0 [a,b,c]) L5
  else(binP n 1 i L).bind fun x L1=>defP n i x L1
def defP:Nat→Bool→Ex→List Tok→PR Ex
 |0,_,_,L=>wrongP L
 |n+1,i,x,L=>if see 1 wDef L then(binP n 1 i L.tail).bind fun y L1=>defP n i (.mk 9 ⟨#[]⟩ ⟨#[]⟩ ⟨#[]⟩ v0 [] 0 w0 [x,y]) L1 else .ok x L
def binP:Nat→Nat→Bool→List Tok→PR Ex
 |0,_,_,L=>wrongP L
 |n+1,least,i,L=>(operandP n least i L).bind fun x L1=>opsP n least (if decide (least≤3) && see 1 wNot L then 2 else 7) i x L1
def opsP:Nat→Nat→Nat→Bool→Ex→List Tok→PR Ex
 |0,_,_,_,_,L=>wrongP L
 |n+1,least,most,i,x,L=>if rankP L≥least∧rankP L≠0∧rankP L≤most then
   (binP n (rankP L+1) i L.tail).bind fun y L1=>opsP n least (if rankP L=4 then 3 else rankP L) i (binE (hd L).text x y) L1
  else .ok x L
def operandP:Nat→Nat→Bool→List Tok→PR Ex
 |0,_,_,L=>wrongP L
 |n+1,least,i,L=>if decide (least≤3) && see 1 wNot L then(binP n 3 i L.tail).map (unE wNot)
  else if see 5 (ch 45) L then(operandP n 7 i L.tail).map (unE (ch 45))else primP n i L
def primP:Nat→Bool→List Tok→PR Ex
 |0,_,L=>wrongP L
 |n+1,i,L=>if(hd L).kind=2 then(numP L).bind fun k L1=>(unitP L1).map fun u=>litE ⟨2,k,⟨#[]⟩⟩ u ⟨#[]⟩
  else if(hd L).kind=3 then(tokP 3 L).bind fun t L1=>(unitP L1).map fun u=>litE ⟨3,decV t.text,⟨#[]⟩⟩ u ⟨#[]⟩
  else if(hd L).kind=4 then(tokP 4 L).map fun t=>litE ⟨4,0,t.text⟩ [] ⟨#[]⟩
  else if(hd L).kind=1 then wordP n i L
  else if see 5 (ch 64) L then keyAtP L.tail else groupP n i L
def groupP:Nat→Bool→List Tok→PR Ex
 |0,_,L=>wrongP L
 |n+1,i,L=>(signP (ch 40) L).bind fun _ L1=>(exprP n i L1).bind fun x L2=>(signP (ch 41) L2).map fun _=>x
def wordP:Nat→Bool→List Tok→PR Ex
 |0,_,L=>wrongP L
 |n+1,i,L=>if(hd L).text=wTrue∨(hd L).text=wFalse then .ok (truE (if(hd L).text=wTrue then 1 else 0)) L.tail
  else if(hd L).text=wNull then(groupP n i L.tail).map (unE wNull)
  else if(hd L).text∈aggL∧i=false then aggP n (hd L).text L.tail
  else(nameP L).bind fun s L1=>if i=true then .ok (nmE 2 s []) L1
   else if see 1 wOf L1 then(groupP n i L1.tail).map fun x=>nmE 4 s [x]else .ok (nmE 3 s []) L1
def aggP:Nat→Str→List Tok→PR Ex
 |0,_,L=>wrongP L
 |n+1,op,L=>(signP (ch 40) L).bind fun _ L1=>(nameP L1).bind fun tb L2=>(signP (ch 44) L2).bind fun _ L3=>
  (if op≠wCount then(exprP n true L3).bind fun x L4=>(signP (ch 44) L4).map fun _=>x else .ok (truE 1) L3).bind fun a L5=>
  (if op=wQuant∨op=wDecay then(numP L5).bind fun k L6=>(signP (ch 44) L6).map fun _=>k else .ok 0 L5).bind fun p L7=>
  (windowP L7).bind fun w L8=>(if see 1 wWhere L8 then exprP n true L8.tail else .ok (truE 1) L8).bind fun c L9=>
  (signP (ch 41) L9).map fun _=> .mk 5 op ⟨#[]⟩ tb v0 [] p w [a,c]
end
abbrev Bs:=List UInt8
def clsB(b:UInt8):Nat:=
 if b=9∨b=10∨b=13∨b=32 then 1 else if 97≤b.toNat∧b.toNat≤122 then 2 else if 48≤b.toNat∧b.toNat≤57 then 3 else if b=95 then 4
 else if b=34 then 5 else if b=35 then 6 else if b∈([123,125,40,41,91,93,44,58,59,61,60,43,45,42,47,94,64]:Bs)then 7 else if b=33 then 8 else 0
def isD(b:UInt8):Bool:=decide (clsB b=3)
def isW(b:UInt8):Bool:=decide (clsB b=2∨clsB b=3∨clsB b=4)
def spanN(p:UInt8→Bool)(s:Bs):Nat:=(s.takeWhile p).length
def decE(s:Bs):Int:=
 let a:=s.takeWhile fun b=>b != 46
 let b:=(s.dropWhile fun b=>b != 46).drop 1
 if b.length>6 then 3 else if numL (a++b) 0 * 10 ^ (6-b.length)>1152921504606846976 then 2 else 0
def intE(s:Bs):Int:=if numL s 0>1152921504606846976 then 2 else 0
def unfitE(s:Bs):Int:=if s.length>64 then 2 else if∃ c∈s,c.toNat<32∨c.toNat>126∨c=92 then 3 else 0
def pieceL:Bs→Int×Nat×Int
 |[]=>(-1,1,80)
 |c::r=>
  let k:=clsB c
  if k=1 then(0,1,0)
  else if k=6 then(0,spanN (fun b=>b != 10) (c::r),0)
  else if k=2 then(1,spanN isW (c::r),if spanN isW (c::r)>24 then 2 else 0)
  else if k=3 then
   let n:=spanN isD (c::r);let t:=(c::r).drop n;let m:=spanN isD (t.drop 1)
   if t.head? =some 46∧m>0 then(3,n+1+m,decE ((c::r).take (n+1+m)))else(2,n,intE ((c::r).take n))
  else if k=5 then
   let n:=spanN (fun b=>b != 34 && b != 10) r
   if(r.drop n).head? =some 34 then(4,n+2,unfitE (r.take n))else(-1,1,80)
  else if k=7∨k=8 then(if r.head? =some 61∧(c=61∨c=33∨c=60)then(5,2,0)else if c≠33 then(5,1,0)else(-1,1,80))
  else(-1,1,80)
structure Prb where
 at_:Int
 code:Int
deriving DecidableEq,Inhabited
def Prb.cells(p:Prb):List AV:=[iv p.at_,iv p.code]
def lexL:Nat→Int→Int→Bs→List Tok×List Prb
 |0,at_,_,_=>([⟨6,⟨#[]⟩,at_⟩],[])
 |n+1,at_,strange,s=>
  if s=[]then([⟨6,⟨#[]⟩,at_⟩],[])else
  let p:=pieceL s
  let rest:=s.drop p.2.1
  if p.1= -1 then
   let q:=lexL n (at_+1) at_ (s.drop 1)
   (q.1,if strange≠at_-1∨at_=0 then⟨at_,p.2.2⟩::q.2 else q.2)
  else
   let q:=lexL n (at_+p.2.1) strange rest
   if p.2.2≠0 then(q.1,⟨at_,p.2.2⟩::q.2)
   else if p.1=4 then(⟨4,⟨((s.take (p.2.1-1)).drop 1).toArray⟩,at_⟩::q.1,q.2)
   else if p.1≠0 then(⟨p.1,⟨(s.take p.2.1).toArray⟩,at_⟩::q.1,q.2)
   else q
def toksL(s:Bs):List Tok×List Prb:=let q:=lexL s.length 0 (-1) s;(q.1,q.2.take 32)
section
variable {α:Type}[Inhabited α](lt:α→α→Bool)
open Go.Sort (swp)
theorem size_swp'(d:Array α)(i j:Nat):(swp d i j).size=d.size:=by simp[swp]
def bsN(q:Nat→Bool):Nat→Nat→Nat→Nat
 |0,i,_=>i
 |n+1,i,j=>if i<j then(if q ((i+j) / 2)then bsN q n ((i+j) / 2+1) j else bsN q n i ((i+j) / 2))else i
def insJ(a:Nat):Nat→Array α→Array α
 |0,d=>d
 |j+1,d=>if a<j+1∧lt d[j+1]! d[j]! =true then insJ a j (swp d (j+1) j)else d
def insO(a:Nat):Nat→Nat→Array α→Array α
 |0,_,d=>d
 |n+1,i,d=>insO a n (i+1) (insJ lt a i d)
def insS(a b:Nat)(d:Array α):Array α:=insO lt a (b-(a+1)) (a+1) d
def upL:Nat→Nat→Array α→Array α
 |0,_,d=>d
 |n+1,k,d=>upL n (k+1) (swp d k (k+1))
def dnL:Nat→Nat→Array α→Array α
 |0,_,d=>d
 |n+1,k,d=>dnL n (k-1) (swp d k (k-1))
def srL(a b:Nat):Nat→Nat→Array α→Array α
 |0,_,d=>d
 |n+1,i,d=>srL a b n (i+1) (swp d (a+i) (b+i))
def srS(a b n:Nat)(d:Array α):Array α:=srL a b n 0 d
def rotL(m:Nat):Nat→Nat→Nat→Array α→Array α
 |0,_,_,d=>d
 |n+1,i,j,d=>if i=j then srS (m-i) m i d else if j<i then rotL m n (i-j) j (srS (m-i) m j d)else rotL m n i (j-i) (srS (m-i) (m+j-i) i d)
def symM:Nat→Nat→Nat→Nat→Array α→Array α
 |0,_,_,_,d=>d
 |n+1,a,m,b,d=>
  if m-a=1 then upL (bsN (fun h=>lt d[h]! d[a]!) (b-m) m b-1-a) a d
  else if b-m=1 then dnL (m-bsN (fun h=> !lt d[m]! d[h]!) (m-a) a m) m d
  else
   let s:=if m>(a+b) / 2 then bsN (fun c=> !lt d[(a+b) / 2+m-1-c]! d[c]!) ((a+b) / 2-((a+b) / 2+m-b)) ((a+b) / 2+m-b) ((a+b) / 2)
    else bsN (fun c=> !lt d[(a+b) / 2+m-1-c]! d[c]!) (m-a) a m
   let e:=(a+b) / 2+m-s
   let d1:=if s<m∧m<e then rotL m (e-s) (m-s) (e-m) d else d
   let d2:=if a<s∧s<(a+b) / 2 then symM n a s ((a+b) / 2) d1 else d1
   if(a+b) / 2<e∧e<b then symM n ((a+b) / 2) e b d2 else d2
def blkI(z:Nat):Nat→Nat→Array α→Array α
 |0,_,d=>d
 |k+1,a,d=>if a+20≤z then blkI z k (a+20) (insS lt a (a+20) d)else insS lt a z d
def blkM(z s:Nat):Nat→Nat→Array α→Array α
 |0,_,d=>d
 |k+1,a,d=>if a+2 * s≤z then blkM z s k (a+2 * s) (symM lt (2 * s) a (a+s) (a+2 * s) d)else if a+s<z then symM lt (z-a) a (a+s) z d else d
def blkO(z:Nat):Nat→Nat→Array α→Array α
 |0,_,d=>d
 |k+1,s,d=>if s<z then blkO z k (2 * s) (blkM lt z s (z+1) 0 d)else d
def stab(d:Array α):Array α:=blkO lt d.size (d.size+1) 20 (blkI lt d.size (d.size+1) 0 d)
theorem insJ_size(a:Nat):∀ (j:Nat) (d:Array α),(insJ lt a j d).size=d.size
 |0,d=>rfl
 |j+1,d=>by unfold insJ;split;rw[insJ_size a j,size_swp'];rfl
theorem insO_size(a:Nat):∀ (n i:Nat) (d:Array α),(insO lt a n i d).size=d.size
 |0,_,d=>rfl
 |n+1,i,d=>by unfold insO;rw[insO_size a n,insJ_size]
theorem insS_size(a b:Nat)(d:Array α):(insS lt a b d).size=d.size:=insO_size lt _ _ _ _
theorem upL_size:∀ (n k:Nat) (d:Array α),(upL n k d).size=d.size
 |0,_,d=>rfl
 |n+1,k,d=>by unfold upL;rw[upL_size n,size_swp']
theorem dnL_size:∀ (n k:Nat) (d:Array α),(dnL n k d).size=d.size
 |0,_,d=>rfl
 |n+1,k,d=>by unfold dnL;rw[dnL_size n,size_swp']
theorem srL_size(a b:Nat):∀ (n i:Nat) (d:Array α),(srL a b n i d).size=d.size
 |0,_,d=>rfl
 |n+1,i,d=>by unfold srL;rw[srL_size a b n,size_swp']
theorem srS_size(a b n:Nat)(d:Array α):(srS a b n d).size=d.size:=srL_size _ _ _ _ _
theorem rotL_size(m:Nat):∀ (n i j:Nat) (d:Array α),(rotL m n i j d).size=d.size
 |0,_,_,d=>rfl
 |n+1,i,j,d=>by
  unfold rotL
  split
  ·exact srS_size _ _ _ _
  ·split
   ·rw[rotL_size m n,srS_size]
   ·rw[rotL_size m n,srS_size]
theorem symM_size:∀ (n a m b:Nat) (d:Array α),(symM lt n a m b d).size=d.size
 |0,_,_,_,d=>rfl
 |n+1,a,m,b,d=>by
  unfold symM
  split
  ·exact upL_size _ _ _
  split
  ·exact dnL_size _ _ _
  simp only
  have h1:∀ s:Nat,(if s<m∧m<(a+b) / 2+m-s then rotL m ((a+b) / 2+m-s-s) (m-s) ((a+b) / 2+m-s-m) d else d).size=d.size:=fun s=>by
   split
   ·exact rotL_size _ _ _ _ _
   ·rfl
  repeat' split
  all_goals(try simp only[symM_size n,rotL_size])
theorem blkI_size(z:Nat):∀ (k a:Nat) (d:Array α),(blkI lt z k a d).size=d.size
 |0,_,d=>rfl
 |k+1,a,d=>by
  unfold blkI
  split
  ·rw[blkI_size z k,insS_size]
  ·exact insS_size _ _ _ _
theorem blkM_size(z s:Nat):∀ (k a:Nat) (d:Array α),(blkM lt z s k a d).size=d.size
 |0,_,d=>rfl
 |k+1,a,d=>by
  unfold blkM
  split
  ·rw[blkM_size z s k,symM_size]
  split
  ·exact symM_size _ _ _ _ _ _
  ·rfl
theorem blkO_size(z:Nat):∀ (k s:Nat) (d:Array α),(blkO lt z k s d).size=d.size
 |0,_,d=>rfl
 |k+1,s,d=>by
  unfold blkO
  split
  ·rw[blkO_size z k,blkM_size]
  ·rfl
theorem stab_size(d:Array α):(stab lt d).size=d.size:=by unfold stab;rw[blkO_size,blkI_size]
end
def nth(l:List Prb)(i:Nat):Prb:=l.getD i (l.headD ⟨0,0⟩)
def cfP(l:List Prb)(x y:Nat):Int:=IntKind.i64.wrap ((nth l x).at_-(nth l y).at_)
def ltP(l:List Prb)(x y:Nat):Bool:=decide (cfP l x y<0)
def sortP(l:List Prb):List Prb:=if l=[]then[]else(stab (ltP l) (Array.range l.length)).toList.map (nth l)
theorem sortP_length(l:List Prb):(sortP l).length=l.length:=by
 unfold sortP
 split
 ·rename_i h;rw[h]
 ·simp[stab_size]
theorem sortP_one(p:Prb):sortP [p]=[p]:=by
 have h:=sortP_length [p]
 unfold sortP at h ⊢
 rw[if_neg (by simp)]at h ⊢
 generalize (stab (ltP [p]) (Array.range [p].length)).toList=r at *
 match r,h with
 |[i],_=>
  cases i with
  |zero=>rfl
  |succ i=>rfl
inductive Itm where
 |tab (t:Tab)
 |fea (f:Fea)
def fieldP(L:List Tok):PR Fld:=(nameP L).bind fun n L1=>(signP (ch 58) L1).bind fun _ L2=>(kindP L2).map fun t=>⟨n,t⟩
def ofP(L:List Tok):PR (Str×Str):=(nameP L).bind fun n L1=>(keyP wOf L1).bind fun _ L2=>(nameP L2).map fun e=>(n,e)
def fieldsP(L:List Tok):PR (List Fld):=
 if see 5 (ch 125) L then .ok [] L.tail else(listP (ch 44) fieldP L).bind fun l L1=>(signP (ch 125) L1).map fun _=>l
def keepP(L:List Tok):PR Int:=if see 1 wKeep L then numP L.tail else .ok 0 L
def tableP(L:List Tok):PR Tab:=(ofP L).bind fun n L1=>(signP (ch 123) L1).bind fun _ L2=>(fieldsP L2).bind fun l L3=>
 (keepP L3).bind fun k L4=>(signP (ch 59) L4).map fun _=>⟨n.1,n.2,l,k⟩
def featureP(L:List Tok):PR Fea:=(ofP L).bind fun n L1=>(signP (ch 58) L1).bind fun _ L2=>(kindP L2).bind fun t L3=>(signP (ch 61) L3).bind fun _ L4=>
 (exprP N0 false L4).bind fun x L5=>(signP (ch 59) L5).map fun _=>⟨n.1,n.2,t,x,0⟩
def itemP(L:List Tok):PR Itm:=if see 1 wTable L then(tableP L.tail).map .tab else if see 1 wFea L then(featureP L.tail).map .fea else wrongP L
def skipTo(x:Int):List Tok→List Tok
 |[]=>[]
 |[t]=>[t]
 |t::u::L=>if t.at_<x∨t.kind≠5∨t.text≠ch 59 then skipTo x (u::L)else t::u::L
def behindP(x:Int)(L:List Tok):List Tok:=if(skipTo x L).length>1 then(skipTo x L).tail else skipTo x L
def addI(m:Mdl):Itm→Mdl
 | .tab t=>⟨m.tables++[t],m.features⟩
 | .fea f=>⟨m.tables,m.features++[f]⟩
def modL:Nat→List Tok→Mdl→List Prb→Mdl×List Prb
 |0,_,m,bad=>(m,bad)
 |n+1,L,m,bad=>if(hd L).kind=6 then(m,bad)else
  match itemP L with
  | .ok a L'=>modL n L' (addI m a) bad
  | .err p c=>modL n (behindP p L) m (bad++[⟨p,c⟩])
def moduleP(s:Bs):Mdl×List Prb×Int:=
 if s.length>16384 then(⟨[],[]⟩,[],2)else
 let r:=modL N0 (toksL s).1 ⟨[],[]⟩ (toksL s).2
 (r.1,(sortP r.2).take 32,0)
set_option linter.unusedSimpArgs false
set_option linter.unusedSectionVars false
def EndL(L:List Tok):Prop:=∃ M e,L=M++[e]∧e.kind=6
theorem EndL.ne{L:List Tok}(h:EndL L):L≠[]:=by obtain⟨M,e,rfl,_⟩:=h;simp
theorem EndL.tail{L:List Tok}(h:EndL L)(hk:(hd L).kind≠6):EndL L.tail∧L.tail.length<L.length:=by
 obtain⟨M,e,rfl,he⟩:=h
 cases M with
 |nil=>exact absurd he hk
 |cons t M=>exact⟨⟨M,e,rfl,he⟩,by simp⟩
structure PosR{α:Type}(n:Nat)(L:List Tok)(r:PR α):Prop where
 ok:∀ a L',r= .ok a L'→L' <:+ L∧EndL L'∧L'.length+n≤L.length
 err:∀ p c,r= .err p c→(∃ t∈L,t.at_=p)∧c≠0
def Pos{α:Type}(n:Nat)(f:List Tok→PR α):Prop:=∀ L,EndL L→PosR n L (f L)
section
variable {α β:Type}{n m:Nat}{f g:List Tok→PR α}
theorem Pos.le(h:Pos n f)(hm:m≤n):Pos m f:=fun L hL=>⟨fun a L' e=>by have:=(h L hL).ok a L' e;exact⟨this.1,this.2.1,by omega⟩,(h L hL).err⟩
theorem Pos.pure(a:α):Pos 0 (fun L=>PR.ok a L):=fun L hL=>⟨fun a' L' e=>by cases e;exact⟨List.suffix_refl _,hL,Nat.le_refl _⟩,fun p c e=>by cases e⟩
theorem hd_mem{L:List Tok}(h:L≠[]):hd L∈L:=by
 cases L with
 |nil=>exact absurd rfl h
 |cons t L=>exact List.mem_cons_self
theorem Pos.wrong:Pos n (wrongP (α:=α)):=fun L hL=>⟨fun a L' e=>(by cases e),fun p c e=>by cases e;exact⟨⟨_,hd_mem hL.ne,rfl⟩,by decide⟩⟩
theorem Pos.bind{f:List Tok→PR α}{g:α→List Tok→PR β}(hf:Pos n f)(hg:∀ a,Pos m (g a)):Pos (n+m) (fun L=>(f L).bind g):=fun L hL=>by
 cases h:f L with
 |ok a L1=>
  obtain⟨h1,h2,h3⟩:=(hf L hL).ok a L1 h
  refine⟨fun b L' e=> ?_,fun p c e=> ?_⟩
  ·obtain⟨k1,k2,k3⟩:=(hg a L1 h2).ok b L' (by rw[← e];simp only[h,PR.bind])
   exact⟨k1.trans h1,k2,by omega⟩
  ·obtain⟨⟨t,ht,e2⟩,hc⟩:=(hg a L1 h2).err p c (by rw[← e];simp only[h,PR.bind])
   exact⟨⟨t,h1.subset ht,e2⟩,hc⟩
 |err p c=>exact⟨fun b L' e=>(by simp only[h,PR.bind]at e;cases e),fun p' c' e=>by simp only[h,PR.bind]at e;cases e;exact(hf L hL).err p c h⟩
theorem Pos.map{f:List Tok→PR α}{g:α→β}(hf:Pos n f):Pos n (fun L=>(f L).map g):=Pos.bind (m:=0) hf fun a=>Pos.pure (g a)
theorem Pos.ite{c:List Tok→Prop}[∀ L,Decidable (c L)](hf:Pos n f)(hg:Pos n g):Pos n (fun L=>if c L then f L else g L):=fun L hL=>by
 by_cases h:c L
 ·simp only[if_pos h];exact hf L hL
 ·simp only[if_neg h];exact hg L hL
theorem Pos.step{c:List Tok→Prop}[∀ L,Decidable (c L)](hc:∀ L,c L→(hd L).kind≠6)(hf:Pos n f)(hg:Pos m g)(hm:m≤n+1):Pos m (fun L=>if c L then f L.tail else g L):=fun L hL=>by
 by_cases h:c L
 ·simp only[if_pos h]
  obtain⟨h1,h2⟩:=hL.tail (hc L h)
  refine⟨fun a L' e=> ?_,fun p q e=> ?_⟩
  ·obtain⟨k1,k2,k3⟩:=(hf L.tail h1).ok a L' e
   exact⟨k1.trans (List.tail_suffix _),k2,by omega⟩
  ·obtain⟨⟨t,ht,e2⟩,hc⟩:=(hf L.tail h1).err p q e
   exact⟨⟨t,List.mem_of_mem_tail ht,e2⟩,hc⟩
 ·simp only[if_neg h];exact hg L hL
theorem see_kind{k:Int}{s:Str}(hk:k≠6):∀ L,see k s L=true→(hd L).kind≠6:=fun L h=>by
 unfold see at h
 rw[Bool.and_eq_true,decide_eq_true_eq]at h
 rw[h.1];exact hk
theorem Pos.need{k:Int}{s:Str}(hk:k≠6):Pos 1 (needP k s):=Pos.step (n:=0) (see_kind hk) (Pos.pure ()) Pos.wrong (Nat.le_refl _)
theorem Pos.tok{k:Int}(hk:k≠6):Pos 1 (tokP k):=fun L hL=>by
 unfold tokP
 by_cases h:(hd L).kind≠k
 ·rw[if_pos h];exact Pos.wrong L hL
 ·rw[if_neg h]
  have h6:(hd L).kind≠6:=fun e=>hk ((Classical.not_not.1 h).symm.trans e)
  obtain⟨h1,h2⟩:=hL.tail h6
  exact⟨fun a L' e=>by cases e;exact⟨List.tail_suffix _,h1,by omega⟩,fun p c e=>by cases e⟩
theorem Pos.name:Pos 1 nameP:=Pos.ite Pos.wrong (Pos.map (Pos.tok (by decide)))
theorem Pos.num:Pos 1 numP:=Pos.map (Pos.tok (by decide))
theorem Pos.many{sep:Str}{f:List Tok→PR α}(hf:Pos 0 f):∀ n acc,Pos 0 (fun L=>manyP sep f n L acc)
 |0,acc=>Pos.pure acc
 |n+1,acc=>Pos.step (n:=0) (see_kind (by decide)) (Pos.bind (n:=0) (m:=0) hf fun a=>Pos.many hf n (acc++[a])) (Pos.pure acc) (Nat.zero_le _)
theorem Pos.list{sep:Str}{f:List Tok→PR α}(hf:Pos 1 f):Pos 1 (listP sep f):=Pos.bind (n:=1) (m:=0) hf fun a=>Pos.many (hf.le (Nat.zero_le _)) N0 [a]
end
theorem Pos.factor:Pos 1 factorP:=by
 refine Pos.bind (n:=1) (m:=0) Pos.name fun a=> ?_
 refine Pos.step (n:=0) (see_kind (by decide)) (Pos.step (n:=0) (see_kind (by decide)) (Pos.map (Pos.num.le (by omega))) (Pos.map (Pos.num.le (by omega))) (by omega)) (Pos.pure _) (by omega)
theorem Pos.unit:Pos 0 unitP:=fun L hL=>by
 unfold unitP
 by_cases h:see 5 (ch 91) L=true
 ·rw[if_pos h]
  obtain⟨h1,h2⟩:=hL.tail (see_kind (by decide) L h)
  have hb:=Pos.bind (n:=1) (m:=1) (Pos.list (sep:=ch 42) Pos.factor) (g:=fun l L1=>(signP (ch 93) L1).bind fun _ L2=>PR.ok l L2) fun l=>Pos.bind (n:=1) (m:=0) (Pos.need (by decide)) fun _=>Pos.pure l
  have hb:=hb L.tail h1
  cases e1:listP (ch 42) factorP L.tail with
  |err p c=>exact⟨fun a L' e=>(by cases e),fun p' c' e=>by cases e;obtain⟨⟨t,ht,e2⟩,hc⟩:=hb.err p c (by simp only[e1,PR.bind]);exact⟨⟨t,List.mem_of_mem_tail ht,e2⟩,hc⟩⟩
  |ok l L1=>
   cases e2:signP (ch 93) L1 with
   |err p c=>exact⟨fun a L' e=>(by simp only[PR.bind,e2]at e;cases e),fun p' c' e=>by simp only[PR.bind,e2]at e;cases e;obtain⟨⟨t,ht,e3⟩,hc⟩:=hb.err p c (by simp only[e1,PR.bind,e2]);exact⟨⟨t,List.mem_of_mem_tail ht,e3⟩,hc⟩⟩
   |ok u L2=>
    obtain⟨k1,k2,k3⟩:=hb.ok l L2 (by simp only[e1,PR.bind,e2])
    simp only[PR.bind,e2]
    split
    ·rename_i hn
     exact⟨fun a L' e=>(by cases e),fun p c e=>by cases e;exact⟨⟨_,hd_mem hL.ne,rfl⟩,hn⟩⟩
    ·exact⟨fun a L' e=>by cases e;exact⟨k1.trans (List.tail_suffix _),k2,by omega⟩,fun p c e=>by cases e⟩
 ·rw[if_neg h];exact Pos.pure _ L hL
theorem Pos.kind:Pos 1 kindP:=by
 refine Pos.step (n:=0) (see_kind (by decide)) (Pos.pure _) ?_ (by omega)
 refine Pos.step (n:=0) (see_kind (by decide)) (Pos.pure _) ?_ (by omega)
 refine Pos.step (n:=0) (see_kind (by decide)) (Pos.map (Pos.name.le (by omega))) ?_ (by omega)
 refine Pos.step (n:=0) (see_kind (by decide)) (Pos.map Pos.unit) ?_ (by omega)
 exact Pos.bind (n:=1) (m:=0) (Pos.need (by decide)) fun _=>Pos.map Pos.unit
theorem Pos.window:Pos 1 windowP:=by
 refine Pos.step (n:=0) (see_kind (by decide)) (Pos.pure _) ?_ (by omega)
 refine Pos.step (n:=0) (see_kind (by decide)) (Pos.map (Pos.num.le (by omega))) ?_ (by omega)
 refine Pos.step (n:=0) (see_kind (by decide)) (Pos.map (Pos.num.le (by omega))) ?_ (by omega)
 exact Pos.bind (n:=1) (m:=0) (Pos.need (by decide)) fun _=>Pos.map (Pos.num.le (by omega))
end Go.Proofs.YtdcpcffpapiadaaGreatDoor
