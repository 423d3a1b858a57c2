/- Units: what a list of factors comes to (the words of XCa, XFc and XHd, for seats without the checker). -/
import Derived.Test.YtbihckigennlhaaGreatDoorPt
import Derived.Sort.Defs
import Derived.Test.YtbihckigennlhaaGreatDoorCodeA
import Derived.Test.YtbihckigennlhaaGreatDoorCodeB
set_option linter.unusedVariables false
namespace Go.Proofs.YtbihckigennlhaaGreatDoor
open Go.Sx Go.Proofs
instance (s:ByteArray)(L:List ByteArray):Decidable (s∈L):= @List.instDecidableMemOfLawfulBEq _ instBEqOfDecidableEq inferInstance s L
def gW(a b:ag):Bool:=Op.bytesLess a.toList b.toList
def qc:List ag→ag→List ag
 |[],s=>[s]
 |a::l,s=>if gW a s=true then a::qc l s else if a=s then a::l else s::a::l
def iH:List ag→List ag
 |[]=>[]
 |s::l=>qc (iH l) s
def eo(l:List aq)(n:ag):Int:=((l.filter fun f=>decide (f.name=n)).map aq.exp).sum
def fZ(l:List aq):List aq×Int:=
 let ns:=iH (l.map aq.name)
 if∃ n∈ns,eo l n>8∨eo l n< -8 then([],70)else
 let u:=(ns.map fun n=>(⟨n,eo l n⟩:aq)).filter fun f=>decide (f.exp≠0)
 if u.length>4 then([],2)else(u,0)
structure Tok where
 kind:Int
 text:ag
 at_:Int
deriving DecidableEq,Inhabited
def Tok.cells(t:Tok):List AV:=[iv t.kind,sv t.text,iv t.at_]
abbrev N0:Nat:=1000000
inductive PR(α:Type) where
 |ok (a:α) (L:List Tok)
 |err (at_ code:Int)
def PR.bind{α β:Type}:PR α→(α→List Tok→PR β)→PR β
 | .ok a L,f=>f a L
 | .err p c,_=> .err p c
def PR.map{α β:Type}(r:PR α)(f:α→β):PR β:=r.bind fun a L=> .ok (f a) L
theorem PR.aD{α β:Type}(a:α)(L:List Tok)(f:α→List Tok→PR β):(PR.ok a L).bind f=f a L:=rfl
def hd(L:List Tok):Tok:=L.headD default
def ar(k:Int)(s:ag)(L:List Tok):Bool:=decide ((hd L).kind=k) && decide ((hd L).text=s)
def eQ{α:Type}(L:List Tok):PR α:= .err (hd L).at_ 90
def iV(k:Int)(s:ag)(L:List Tok):PR Unit:=if ar k s L then .ok () L.tail else eQ L
abbrev de:=iV 5
abbrev oy:=iV 1
def dC(k:Int)(L:List Tok):PR Tok:=if(hd L).kind≠k then eQ L else .ok (hd L) L.tail
def eN(L:List Tok):PR ag:=if¬Name (hd L).text then eQ L else(dC 1 L).map Tok.text
def bW:List UInt8→Nat→Nat
 |[],a=>a
 |b::l,a=>bW l (10 * a+(b.toNat-48))
def sd(s:ag):Int:=bW s.data.toList 0
def mG(s:ag):Int:=
 let a:=s.data.toList.takeWhile fun b=>b != 46
 let b:=(s.data.toList.dropWhile fun b=>b != 46).drop 1
 (bW (a++b) 0:Int) * 10 ^ (6-b.length)
def dZ(L:List Tok):PR Int:=(dC 2 L).map fun t=>sd t.text
def jv{α:Type}(sep:ag)(f:List Tok→PR α):Nat→List Tok→List α→PR (List α)
 |0,L,acc=> .ok acc L
 |n+1,L,acc=>if ar 5 sep L then(f L.tail).bind fun a L'=>jv sep f n L' (acc++[a])else .ok acc L
def fX{α:Type}(sep:ag)(f:List Tok→PR α)(L:List Tok):PR (List α):=(f L).bind fun a L'=>jv sep f N0 L' [a]
abbrev ch(n:UInt8):ag:=⟨#[n]⟩
def dG(L:List Tok):PR aq:=(eN L).bind fun n L1=>
 if ar 5 (ch 94) L1 then
  if ar 5 (ch 45) L1.tail then(dZ L1.tail.tail).map fun k=>⟨n, -(min k 1099511627776)⟩
  else(dZ L1.tail).map fun k=>⟨n,min k 1099511627776⟩
 else .ok ⟨n,1⟩ L1
def gK(L:List Tok):PR (List aq):=
 if ar 5 (ch 91) L then(fX (ch 42) dG L.tail).bind fun l L1=>(de (ch 93) L1).bind fun _ L2=>
  if(fZ l).2≠0 then .err (hd L).at_ (fZ l).2 else .ok (fZ l).1 L2
 else .ok [] L
abbrev ate:ag:=⟨#[98,111,111,108]⟩
abbrev ato:ag:=⟨#[116,101,120,116]⟩
abbrev atm:ag:=⟨#[107,101,121]⟩
abbrev atk:ag:=⟨#[105,110,116]⟩
abbrev atf:ag:=⟨#[100,101,99]⟩
abbrev nH:ag:=⟨#[97,108,108]⟩
abbrev kR:ag:=⟨#[115,108,105,100,105,110,103]⟩
abbrev kS:ag:=⟨#[116,117,109,98,108,105,110,103]⟩
abbrev oR:ag:=⟨#[115,101,115,115,105,111,110]⟩
abbrev eP:ag:=⟨#[119,104,101,114,101]⟩
abbrev sH:ag:=⟨#[99,111,117,110,116]⟩
abbrev oQ:ag:=⟨#[113,117,97,110,116,105,108,101]⟩
abbrev oP:ag:=⟨#[100,101,99,97,121]⟩
abbrev sI:ag:=⟨#[116,114,117,101]⟩
abbrev yh:ag:=⟨#[102,97,108,115,101]⟩
abbrev hU:ag:=⟨#[110,117,108,108]⟩
abbrev fM:ag:=⟨#[111,102]⟩
abbrev ew:ag:=⟨#[105,102]⟩
abbrev je:ag:=⟨#[116,104,101,110]⟩
abbrev fC:ag:=⟨#[101,108,115,101]⟩
abbrev fB:ag:=⟨#[100,101,102,97,117,108,116]⟩
abbrev cu:ag:=⟨#[110,111,116]⟩
abbrev Fa:ag:=⟨#[97,110,100]⟩
abbrev Fc:ag:=⟨#[111,114]⟩
abbrev atn:ag:=⟨#[116,97,98,108,101]⟩
abbrev atj:ag:=⟨#[102,101,97,116,117,114,101]⟩
abbrev atl:ag:=⟨#[107,101,101,112]⟩
def zW(L:List Tok):PR Ty:=
 if ar 1 ate L then .ok ⟨1,[],⟨#[]⟩⟩ L.tail
 else if ar 1 ato L then .ok ⟨4,[],⟨#[]⟩⟩ L.tail
 else if ar 1 atm L then(eN L.tail).map fun s=>⟨5,[],s⟩
 else if ar 1 atk L then(gK L.tail).map fun u=>⟨2,u,⟨#[]⟩⟩
 else(oy atf L).bind fun _ L1=>(gK L1).map fun u=>⟨3,u,⟨#[]⟩⟩
def qu(L:List Tok):PR eT:=
 if ar 1 nH L then .ok ⟨1,0⟩ L.tail
 else if ar 1 kR L then(dZ L.tail).map fun n=>⟨2,n⟩
 else if ar 1 kS L then(dZ L.tail).map fun n=>⟨3,n⟩
 else(oy oR L).bind fun _ L1=>(dZ L1).map fun n=>⟨4,n⟩
def v0:dQ:=⟨0,0,⟨#[]⟩⟩
def w0:eT:=⟨0,0⟩
def ff(n:Int):Ex:= .mk 1 ⟨#[]⟩ ⟨#[]⟩ ⟨#[]⟩ ⟨1,n,⟨#[]⟩⟩ [] 0 w0 []
def hO(op:ag)(x:Ex):Ex:= .mk 6 op ⟨#[]⟩ ⟨#[]⟩ v0 [] 0 w0 [x]
def mE(op:ag)(x y:Ex):Ex:= .mk 7 op ⟨#[]⟩ ⟨#[]⟩ v0 [] 0 w0 [x,y]
def iF(k:Int)(s:ag)(l:List Ex):Ex:= .mk k ⟨#[]⟩ s ⟨#[]⟩ v0 [] 0 w0 l
def fY(v:dQ)(u:List aq)(n:ag):Ex:= .mk 1 ⟨#[]⟩ n ⟨#[]⟩ v u 0 w0 []
def nk(L:List Tok):PR Ex:=(eN L).bind fun n L1=>(dC 4 L1).bind fun t L2=>
 if t.text.size<1∨t.text.size>32∨(32:UInt8)∈t.text.data.toList then .err t.at_ 3 else .ok (fY ⟨5,0,t.text⟩ [] n) L2
def aY(L:List Tok):Nat:=
 let t:=hd L
 if t.kind=1∧t.text=Fc then 1 else if t.kind=1∧t.text=Fa then 2 else if t.kind≠5 then 0
 else if t.text=⟨#[61,61]⟩∨t.text=⟨#[33,61]⟩∨t.text=ch 60∨t.text=⟨#[60,61]⟩then 4
 else if t.text=ch 43∨t.text=ch 45 then 5
 else if t.text=ch 42∨t.text=ch 47 then 6 else 0
mutual
def bj:Nat→Bool→List Tok→PR Ex
 |0,_,L=>eQ L
 |n+1,i,L=>if ar 1 ew L then(bj n i L.tail).bind fun a L1=>(oy je L1).bind fun _ L2=>(bj n i L2).bind fun b L3=>(oy fC L3).bind fun _ L4=>(bj n i L4).bind fun c L5=> .ok (.mk 8 ⟨#[]⟩ ⟨#[]⟩ ⟨#[]⟩ v0 [] 0 w0 [a,b,c]) L5
  else(dm n 1 i L).bind fun x L1=>dq n i x L1
def dq:Nat→Bool→Ex→List Tok→PR Ex
 |0,_,_,L=>eQ L
 |n+1,i,x,L=>if ar 1 fB L then(dm n 1 i L.tail).bind fun y L1=>dq n i (.mk 9 ⟨#[]⟩ ⟨#[]⟩ ⟨#[]⟩ v0 [] 0 w0 [x,y]) L1 else .ok x L
def dm:Nat→Nat→Bool→List Tok→PR Ex
 |0,_,_,L=>eQ L
 |n+1,least,i,L=>(dK n least i L).bind fun x L1=>dt n least (if decide (least≤3) && ar 1 cu L then 2 else 7) i x L1
def dt:Nat→Nat→Nat→Bool→Ex→List Tok→PR Ex
 |0,_,_,_,_,L=>eQ L
 |n+1,least,most,i,x,L=>if aY L≥least∧aY L≠0∧aY L≤most then
   (dm n (aY L+1) i L.tail).bind fun y L1=>dt n least (if aY L=4 then 3 else aY L) i (mE (hd L).text x y) L1
  else .ok x L
def dK:Nat→Nat→Bool→List Tok→PR Ex
 |0,_,_,L=>eQ L
 |n+1,least,i,L=>if decide (least≤3) && ar 1 cu L then(dm n 3 i L.tail).map (hO cu)
  else if ar 5 (ch 45) L then(dK n 7 i L.tail).map (hO (ch 45))else ej n i L
def ej:Nat→Bool→List Tok→PR Ex
 |0,_,L=>eQ L
 |n+1,i,L=>if(hd L).kind=2 then(dZ L).bind fun k L1=>(gK L1).map fun u=>fY ⟨2,k,⟨#[]⟩⟩ u ⟨#[]⟩
  else if(hd L).kind=3 then(dC 3 L).bind fun t L1=>(gK L1).map fun u=>fY ⟨3,mG t.text,⟨#[]⟩⟩ u ⟨#[]⟩
  else if(hd L).kind=4 then(dC 4 L).map fun t=>fY ⟨4,0,t.text⟩ [] ⟨#[]⟩
  else if(hd L).kind=1 then ey n i L
  else if ar 5 (ch 64) L then nk L.tail else dy n i L
def dy:Nat→Bool→List Tok→PR Ex
 |0,_,L=>eQ L
 |n+1,i,L=>(de (ch 40) L).bind fun _ L1=>(bj n i L1).bind fun x L2=>(de (ch 41) L2).map fun _=>x
def ey:Nat→Bool→List Tok→PR Ex
 |0,_,L=>eQ L
 |n+1,i,L=>if(hd L).text=sI∨(hd L).text=yh then .ok (ff (if(hd L).text=sI then 1 else 0)) L.tail
  else if(hd L).text=hU then(dy n i L.tail).map (hO hU)
  else if(hd L).text∈jH∧i=false then fh n (hd L).text L.tail
  else(eN L).bind fun s L1=>if i=true then .ok (iF 2 s []) L1
   else if ar 1 fM L1 then(dy n i L1.tail).map fun x=>iF 4 s [x]else .ok (iF 3 s []) L1
def fh:Nat→ag→List Tok→PR Ex
 |0,_,L=>eQ L
 |n+1,op,L=>(de (ch 40) L).bind fun _ L1=>(eN L1).bind fun tb L2=>(de (ch 44) L2).bind fun _ L3=>
  (if op≠sH then(bj n true L3).bind fun x L4=>(de (ch 44) L4).map fun _=>x else .ok (ff 1) L3).bind fun a L5=>
  (if op=oQ∨op=oP then(dZ L5).bind fun k L6=>(de (ch 44) L6).map fun _=>k else .ok 0 L5).bind fun p L7=>
  (qu L7).bind fun w L8=>(if ar 1 eP L8 then bj n true L8.tail else .ok (ff 1) L8).bind fun c L9=>
  (de (ch 41) L9).map fun _=> .mk 5 op ⟨#[]⟩ tb v0 [] p w [a,c]
end
abbrev Bs:=List UInt8
def aB(b:UInt8):Nat:=
 if b=9∨b=10∨b=13∨b=32 then 1 else if 97≤b.toNat∧b.toNat≤122 then 2 else if 48≤b.toNat∧b.toNat≤57 then 3 else if b=95 then 4
 else if b=34 then 5 else if b=35 then 6 else if b∈([123,125,40,41,91,93,44,58,59,61,60,43,45,42,47,94,64]:Bs)then 7 else if b=33 then 8 else 0
def aW(b:UInt8):Bool:=decide (aB b=3)
def eM(b:UInt8):Bool:=decide (aB b=2∨aB b=3∨aB b=4)
def az(p:UInt8→Bool)(s:Bs):Nat:=(s.takeWhile p).length
def jn(s:Bs):Int:=
 let a:=s.takeWhile fun b=>b != 46
 let b:=(s.dropWhile fun b=>b != 46).drop 1
 if b.length>6 then 3 else if bW (a++b) 0 * 10 ^ (6-b.length)>1152921504606846976 then 2 else 0
def kD(s:Bs):Int:=if bW s 0>1152921504606846976 then 2 else 0
def sB(s:Bs):Int:=if s.length>64 then 2 else if∃ c∈s,c.toNat<32∨c.toNat>126∨c=92 then 3 else 0
def aJ:Bs→Int×Nat×Int
 |[]=>(-1,1,80)
 |c::r=>
  let k:=aB c
  if k=1 then(0,1,0)
  else if k=6 then(0,az (fun b=>b != 10) (c::r),0)
  else if k=2 then(1,az eM (c::r),if az eM (c::r)>24 then 2 else 0)
  else if k=3 then
   let n:=az aW (c::r);let t:=(c::r).drop n;let m:=az aW (t.drop 1)
   if t.head? =some 46∧m>0 then(3,n+1+m,jn ((c::r).take (n+1+m)))else(2,n,kD ((c::r).take n))
  else if k=5 then
   let n:=az (fun b=>b != 34 && b != 10) r
   if(r.drop n).head? =some 34 then(4,n+2,sB (r.take n))else(-1,1,80)
  else if k=7∨k=8 then(if r.head? =some 61∧(c=61∨c=33∨c=60)then(5,2,0)else if c≠33 then(5,1,0)else(-1,1,80))
  else(-1,1,80)
structure dn where
 at_:Int
 code:Int
deriving DecidableEq,Inhabited
def dn.cells(p:dn):List AV:=[iv p.at_,iv p.code]
def cJ:Nat→Int→Int→Bs→List Tok×List dn
 |0,at_,_,_=>([⟨6,⟨#[]⟩,at_⟩],[])
 |n+1,at_,cR,s=>
  if s=[]then([⟨6,⟨#[]⟩,at_⟩],[])else
  let p:=aJ s
  let rest:=s.drop p.2.1
  if p.1= -1 then
   let q:=cJ n (at_+1) at_ (s.drop 1)
   (q.1,if cR≠at_-1∨at_=0 then⟨at_,p.2.2⟩::q.2 else q.2)
  else
   let q:=cJ n (at_+p.2.1) cR rest
   if p.2.2≠0 then(q.1,⟨at_,p.2.2⟩::q.2)
   else if p.1=4 then(⟨4,⟨((s.take (p.2.1-1)).drop 1).toArray⟩,at_⟩::q.1,q.2)
   else if p.1≠0 then(⟨p.1,⟨(s.take p.2.1).toArray⟩,at_⟩::q.1,q.2)
   else q
def dD(s:Bs):List Tok×List dn:=let q:=cJ s.length 0 (-1) s;(q.1,q.2.take 32)
inductive qB where
 |MN (t:fQ)
 |Iw (f:kY)
def IB(L:List Tok):PR dP:=(eN L).bind fun n L1=>(de (ch 58) L1).bind fun _ L2=>(zW L2).map fun t=>⟨n,t⟩
def D4(L:List Tok):PR (ag×ag):=(eN L).bind fun n L1=>(oy fM L1).bind fun _ L2=>(eN L2).map fun e=>(n,e)
def IC(L:List Tok):PR (List dP):=
 if ar 5 (ch 125) L then .ok [] L.tail else(fX (ch 44) IB L).bind fun l L1=>(de (ch 125) L1).map fun _=>l
def Ku(L:List Tok):PR Int:=if ar 1 atl L then dZ L.tail else .ok 0 L
def MP(L:List Tok):PR fQ:=(D4 L).bind fun n L1=>(de (ch 123) L1).bind fun _ L2=>(IC L2).bind fun l L3=>
 (Ku L3).bind fun k L4=>(de (ch 59) L4).map fun _=>⟨n.1,n.2,l,k⟩
def Ix(L:List Tok):PR kY:=(D4 L).bind fun n L1=>(de (ch 58) L1).bind fun _ L2=>(zW L2).bind fun t L3=>(de (ch 61) L3).bind fun _ L4=>
 (bj N0 false L4).bind fun x L5=>(de (ch 59) L5).map fun _=>⟨n.1,n.2,t,x,0⟩
def DP(L:List Tok):PR qB:=if ar 1 atn L then(MP L.tail).map .MN else if ar 1 atj L then(Ix L.tail).map .Iw else eQ L
def AH(x:Int):List Tok→List Tok
 |[]=>[]
 |[t]=>[t]
 |t::u::L=>if t.at_<x∨t.kind≠5∨t.text≠ch 59 then AH x (u::L)else t::u::L
def G1(x:Int)(L:List Tok):List Tok:=if(AH x L).length>1 then(AH x L).tail else AH x L
def GL(m:nK):qB→nK
 | .MN t=>⟨m.tables++[t],m.yP⟩
 | .Iw f=>⟨m.tables,m.yP++[f]⟩
def mh{α:Type}(f:List Tok→PR α)(z:α)(s:Bs):α×Int×Int:=
 if s.length>16384 then(z,0,2)else
 match(dD s).2 with
 |b::_=>(z,b.at_,b.code)
 |[]=>match(f (dD s).1).bind fun a L=>if(hd L).kind≠6 then eQ L else .ok a L with
  | .ok a _=>(a,0,0)
  | .err p c=>(z,p,c)
set_option linter.unusedSimpArgs false
set_option linter.unusedSectionVars false
def bF(L:List Tok):Prop:=∃ M e,L=M++[e]∧e.kind=6
theorem bF.ne{L:List Tok}(h:bF L):L≠[]:=by obtain⟨M,e,rfl,_⟩:=h;simp
theorem bF.tail{L:List Tok}(h:bF L)(hk:(hd L).kind≠6):bF L.tail∧L.tail.length<L.length:=by
 obtain⟨M,e,rfl,he⟩:=h
 cases M with
 |nil=>exact absurd he hk
 |cons t M=>exact⟨⟨M,e,rfl,he⟩,by simp⟩
structure vF{α:Type}(n:Nat)(L:List Tok)(r:PR α):Prop where
 ok:∀ a L',r= .ok a L'→L' <:+ L∧bF L'∧L'.length+n≤L.length
 err:∀ p c,r= .err p c→(∃ t∈L,t.at_=p)∧c≠0
def Pos{α:Type}(n:Nat)(f:List Tok→PR α):Prop:=∀ L,bF L→vF n L (f L)
section
variable {α β:Type}{n m:Nat}{f g:List Tok→PR α}
theorem Pos.le(h:Pos n f)(hm:m≤n):Pos m f:=fun L hL=>⟨fun a L' e=>by have:=(h L hL).ok a L' e;exact⟨this.1,this.2.1,by omega⟩,(h L hL).err⟩
theorem Pos.pure(a:α):Pos 0 (fun L=>PR.ok a L):=fun L hL=>⟨fun a' L' e=>by cases e;exact⟨List.suffix_refl _,hL,ZK _⟩,fun p c e=>by cases e⟩
theorem ua{L:List Tok}(h:L≠[]):hd L∈L:=by
 cases L with
 |nil=>exact absurd rfl h
 |cons t L=>exact ZR
theorem Pos.wrong:Pos n (eQ (α:=α)):=fun L hL=>⟨fun a L' e=>(by cases e),fun p c e=>by cases e;exact⟨⟨_,ua hL.ne,rfl⟩,by decide⟩⟩
theorem Pos.bind{f:List Tok→PR α}{g:α→List Tok→PR β}(hf:Pos n f)(hg:∀ a,Pos m (g a)):Pos (n+m) (fun L=>(f L).bind g):=fun L hL=>by
 cases h:f L with
 |ok a L1=>
  obtain⟨h1,h2,h3⟩:=(hf L hL).ok a L1 h
  refine⟨fun b L' e=> ?_,fun p c e=> ?_⟩
  ·obtain⟨k1,k2,k3⟩:=(hg a L1 h2).ok b L' (by rw[← e];simp only[h,PR.bind])
   exact⟨k1.trans h1,k2,by omega⟩
  ·obtain⟨⟨t,ht,e2⟩,hc⟩:=(hg a L1 h2).err p c (by rw[← e];simp only[h,PR.bind])
   exact⟨⟨t,h1.subset ht,e2⟩,hc⟩
 |err p c=>exact⟨fun b L' e=>(by simp only[h,PR.bind]at e;cases e),fun p' c' e=>by simp only[h,PR.bind]at e;cases e;exact(hf L hL).err p c h⟩
theorem Pos.map{f:List Tok→PR α}{g:α→β}(hf:Pos n f):Pos n (fun L=>(f L).map g):=Pos.bind (m:=0) hf fun a=>Pos.pure (g a)
theorem Pos.ite{c:List Tok→Prop}[∀ L,Decidable (c L)](hf:Pos n f)(hg:Pos n g):Pos n (fun L=>if c L then f L else g L):=fun L hL=>by
 by_cases h:c L
 ·simp only[if_pos h];exact hf L hL
 ·simp only[if_neg h];exact hg L hL
theorem Pos.step{c:List Tok→Prop}[∀ L,Decidable (c L)](hc:∀ L,c L→(hd L).kind≠6)(hf:Pos n f)(hg:Pos m g)(hm:m≤n+1):Pos m (fun L=>if c L then f L.tail else g L):=fun L hL=>by
 by_cases h:c L
 ·simp only[if_pos h]
  obtain⟨h1,h2⟩:=hL.tail (hc L h)
  refine⟨fun a L' e=> ?_,fun p q e=> ?_⟩
  ·obtain⟨k1,k2,k3⟩:=(hf L.tail h1).ok a L' e
   exact⟨k1.trans (Yd _),k2,by omega⟩
  ·obtain⟨⟨t,ht,e2⟩,hc⟩:=(hf L.tail h1).err p q e
   exact⟨⟨t,Yw ht,e2⟩,hc⟩
 ·simp only[if_neg h];exact hg L hL
theorem bJ{k:Int}{s:ag}(hk:k≠6):∀ L,ar k s L=true→(hd L).kind≠6:=fun L h=>by
 unfold ar at h
 rw[Z3,ZG]at h
 rw[h.1];exact hk
theorem Pos.bK{k:Int}{s:ag}(hk:k≠6):Pos 1 (iV k s):=Pos.step (n:=0) (bJ hk) (Pos.pure ()) Pos.wrong (ZK _)
theorem Pos.tok{k:Int}(hk:k≠6):Pos 1 (dC k):=fun L hL=>by
 unfold dC
 by_cases h:(hd L).kind≠k
 ·rw[if_pos h];exact Pos.wrong L hL
 ·rw[if_neg h]
  have h6:(hd L).kind≠6:=fun e=>hk ((Classical.not_not.1 h).symm.trans e)
  obtain⟨h1,h2⟩:=hL.tail h6
  exact⟨fun a L' e=>by cases e;exact⟨Yd _,h1,by omega⟩,fun p c e=>by cases e⟩
theorem Pos.name:Pos 1 eN:=Pos.ite Pos.wrong (Pos.map (Pos.tok (by decide)))
theorem Pos.num:Pos 1 dZ:=Pos.map (Pos.tok (by decide))
theorem Pos.many{sep:ag}{f:List Tok→PR α}(hf:Pos 0 f):∀ n acc,Pos 0 (fun L=>jv sep f n L acc)
 |0,acc=>Pos.pure acc
 |n+1,acc=>Pos.step (n:=0) (bJ (by decide)) (Pos.bind (n:=0) (m:=0) hf fun a=>Pos.many hf n (acc++[a])) (Pos.pure acc) (ZF _)
theorem Pos.list{sep:ag}{f:List Tok→PR α}(hf:Pos 1 f):Pos 1 (fX sep f):=Pos.bind (n:=1) (m:=0) hf fun a=>Pos.many (hf.le (ZF _)) N0 [a]
end
theorem Pos.tG:Pos 1 dG:=by
 refine Pos.bind (n:=1) (m:=0) Pos.name fun a=> ?_
 refine Pos.step (n:=0) (bJ (by decide)) (Pos.step (n:=0) (bJ (by decide)) (Pos.map (Pos.num.le (by omega))) (Pos.map (Pos.num.le (by omega))) (by omega)) (Pos.pure _) (by omega)
theorem Pos.unit:Pos 0 gK:=fun L hL=>by
 unfold gK
 by_cases h:ar 5 (ch 91) L=true
 ·rw[if_pos h]
  obtain⟨h1,h2⟩:=hL.tail (bJ (by decide) L h)
  have hb:=Pos.bind (n:=1) (m:=1) (Pos.list (sep:=ch 42) Pos.tG) (g:=fun l L1=>(de (ch 93) L1).bind fun _ L2=>PR.ok l L2) fun l=>Pos.bind (n:=1) (m:=0) (Pos.bK (by decide)) fun _=>Pos.pure l
  have hb:=hb L.tail h1
  cases e1:fX (ch 42) dG L.tail with
  |err p c=>exact⟨fun a L' e=>(by cases e),fun p' c' e=>by cases e;obtain⟨⟨t,ht,e2⟩,hc⟩:=hb.err p c (by simp only[e1,PR.bind]);exact⟨⟨t,Yw ht,e2⟩,hc⟩⟩
  |ok l L1=>
   cases e2:de (ch 93) L1 with
   |err p c=>exact⟨fun a L' e=>(by simp only[PR.bind,e2]at e;cases e),fun p' c' e=>by simp only[PR.bind,e2]at e;cases e;obtain⟨⟨t,ht,e3⟩,hc⟩:=hb.err p c (by simp only[e1,PR.bind,e2]);exact⟨⟨t,Yw ht,e3⟩,hc⟩⟩
   |ok u L2=>
    obtain⟨k1,k2,k3⟩:=hb.ok l L2 (by simp only[e1,PR.bind,e2])
    simp only[PR.bind,e2]
    split
    ·rename_i hn
     exact⟨fun a L' e=>(by cases e),fun p c e=>by cases e;exact⟨⟨_,ua hL.ne,rfl⟩,hn⟩⟩
    ·exact⟨fun a L' e=>by cases e;exact⟨k1.trans (Yd _),k2,by omega⟩,fun p c e=>by cases e⟩
 ·rw[if_neg h];exact Pos.pure _ L hL
theorem Pos.kind:Pos 1 zW:=by
 refine Pos.step (n:=0) (bJ (by decide)) (Pos.pure _) ?_ (by omega)
 refine Pos.step (n:=0) (bJ (by decide)) (Pos.pure _) ?_ (by omega)
 refine Pos.step (n:=0) (bJ (by decide)) (Pos.map (Pos.name.le (by omega))) ?_ (by omega)
 refine Pos.step (n:=0) (bJ (by decide)) (Pos.map Pos.unit) ?_ (by omega)
 exact Pos.bind (n:=1) (m:=0) (Pos.bK (by decide)) fun _=>Pos.map Pos.unit
theorem Pos.vq:Pos 1 qu:=by
 refine Pos.step (n:=0) (bJ (by decide)) (Pos.pure _) ?_ (by omega)
 refine Pos.step (n:=0) (bJ (by decide)) (Pos.map (Pos.num.le (by omega))) ?_ (by omega)
 refine Pos.step (n:=0) (bJ (by decide)) (Pos.map (Pos.num.le (by omega))) ?_ (by omega)
 exact Pos.bind (n:=1) (m:=0) (Pos.bK (by decide)) fun _=>Pos.map (Pos.num.le (by omega))
set_option linter.unusedSimpArgs false
theorem sk:∀ L,aY L≠0→(hd L).kind≠6:=fun L h e=>by
 unfold aY at h
 simp only[e]at h
 simp at h
structure Oc(n:Nat):Prop where
 expr:∀ i,Pos 1 (bj n i)
 iP:∀ i x,Pos 0 (dq n i x)
 bin:∀ l i,Pos 1 (dm n l i)
 ops:∀ l m i x,Pos 0 (dt n l m i x)
 operand:∀ l i,Pos 1 (dK n l i)
 jZ:∀ i,Pos 1 (ej n i)
 group:∀ i,Pos 1 (dy n i)
 word:∀ i L,bF L→(hd L).kind≠6→vF 1 L (ey n i L)
 agg:∀ o,Pos 1 (fh n o)
theorem Pos.MW{α:Type}{k:Int}(hk:k≠6){c:Tok→Prop}[∀ t,Decidable (c t)]{e:Int}(he:e≠0){g:Tok→α}:Pos 1 (fun L=>(dC k L).bind fun t L2=>if c t then .err t.at_ e else .ok (g t) L2):=fun L hL=>by
 by_cases h:(hd L).kind≠k
 ·have h1:dC k L=eQ L:=if_pos h
  simp only[h1];exact Pos.wrong (n:=1) L hL
 ·have h1:dC k L= .ok (hd L) L.tail:=if_neg h
  have h6:(hd L).kind≠6:=fun e=>hk ((Classical.not_not.1 h).symm.trans e)
  obtain⟨k1,k2⟩:=hL.tail h6
  simp only[h1,PR.bind]
  by_cases hc:c (hd L)
  ·simp only[if_pos hc];exact⟨fun a L' e=>(by cases e),fun p q e=>by cases e;exact⟨⟨_,ua hL.ne,rfl⟩,he⟩⟩
  ·simp only[if_neg hc];exact⟨fun a L' e=>by cases e;exact⟨Yd _,k1,by omega⟩,fun p q e=>by cases e⟩
theorem Pos.xt:Pos 1 nk:=(Pos.bind (n:=1) (m:=1) Pos.name fun a=>Pos.MW (by decide) (by decide)).le (by omega)
theorem jz:∀ n,Oc n
 |0=>by
  refine⟨fun i=> ?_,fun i x=> ?_,fun l i=> ?_,fun l m i x=> ?_,fun l i=> ?_,fun i=> ?_,fun i=> ?_,fun i L hL hk=> ?_,fun o=> ?_⟩
  ·intro L hL;rw[bj];exact Pos.wrong L hL
  ·intro L hL;rw[dq];exact Pos.wrong L hL
  ·intro L hL;rw[dm];exact Pos.wrong L hL
  ·intro L hL;rw[dt];exact Pos.wrong L hL
  ·intro L hL;rw[dK];exact Pos.wrong L hL
  ·intro L hL;rw[ej];exact Pos.wrong L hL
  ·intro L hL;rw[dy];exact Pos.wrong L hL
  ·rw[ey];exact Pos.wrong L hL
  ·intro L hL;rw[fh];exact Pos.wrong L hL
 |n+1=>by
  have ih:=jz n
  refine⟨fun i=> ?_,fun i x=> ?_,fun l i=> ?_,fun l m i x=> ?_,fun l i=> ?_,fun i=> ?_,fun i=> ?_,fun i L hL hk=> ?_,fun o=> ?_⟩
  ·intro L hL;rw[bj]
   exact(Pos.step (n:=0) (m:=1) (c:=fun L=>ar 1 ew L=true) (bJ (by decide)) (Pos.le (n:=5) (Pos.bind (n:=1) (m:=4) (ih.expr i) fun a=>Pos.bind (n:=1) (m:=3) (Pos.bK (by decide)) fun _=>Pos.bind (n:=1) (m:=2) (ih.expr i) fun b=>Pos.bind (n:=1) (m:=1) (Pos.bK (by decide)) fun _=>Pos.bind (n:=1) (m:=0) (ih.expr i) fun c=>Pos.pure _) (by omega))
    (Pos.bind (n:=1) (m:=0) (ih.bin 1 i) fun x=>ih.iP i x) (by omega)) L hL
  ·intro L hL;rw[dq]
   exact(Pos.step (n:=0) (m:=0) (c:=fun L=>ar 1 fB L=true) (bJ (by decide)) (Pos.le (n:=1) (Pos.bind (n:=1) (m:=0) (ih.bin 1 i) fun y=>ih.iP i _) (by omega)) (Pos.pure x) (by omega)) L hL
  ·intro L hL;rw[dm]
   exact(Pos.bind (n:=1) (m:=0) (ih.operand l i) fun x=>ih.ops l (if decide (l≤3) && ar 1 cu L then 2 else 7) i x) L hL
  ·intro L hL;rw[dt]
   by_cases h:aY L≥l∧aY L≠0∧aY L≤m
   ·rw[if_pos h]
    obtain⟨h1,h2⟩:=hL.tail (sk L h.2.1)
    have:=(Pos.bind (n:=1) (m:=0) (ih.bin (aY L+1) i) fun y=>ih.ops l (if aY L=4 then 3 else aY L) i (mE (hd L).text x y)) L.tail h1
    exact⟨fun a L' e=>by obtain⟨k1,k2,k3⟩:=this.ok a L' e;exact⟨k1.trans (Yd _),k2,by omega⟩,fun p c e=>by obtain⟨⟨t,ht,e2⟩,hc⟩:=this.err p c e;exact⟨⟨t,Yw ht,e2⟩,hc⟩⟩
   ·rw[if_neg h];exact Pos.pure x L hL
  ·intro L hL;rw[dK]
   exact(Pos.step (n:=0) (m:=1) (c:=fun L=>(decide (l≤3) && ar 1 cu L)=true) (fun L h=>bJ (k:=1) (by decide) L (Z3 _ _ ▸ h).2) (Pos.map ((ih.bin 3 i).le (by omega)))
    (Pos.step (n:=0) (m:=1) (c:=fun L=>ar 5 (ch 45) L=true) (bJ (by decide)) (Pos.map ((ih.operand 7 i).le (by omega))) (ih.jZ i) (by omega)) (by omega)) L hL
  ·intro L hL;rw[ej]
   by_cases h2:(hd L).kind=2
   ·rw[if_pos h2];exact(Pos.bind (n:=1) (m:=0) Pos.num fun k=>Pos.map Pos.unit) L hL
   rw[if_neg h2]
   by_cases h3:(hd L).kind=3
   ·rw[if_pos h3];exact(Pos.bind (n:=1) (m:=0) (Pos.tok (by decide)) fun k=>Pos.map Pos.unit) L hL
   rw[if_neg h3]
   by_cases h4:(hd L).kind=4
   ·rw[if_pos h4];exact(Pos.map (Pos.tok (by decide))) L hL
   rw[if_neg h4]
   by_cases h1:(hd L).kind=1
   ·rw[if_pos h1];exact ih.word i L hL (by rw[h1];decide)
   rw[if_neg h1]
   exact(Pos.step (n:=0) (m:=1) (c:=fun L=>ar 5 (ch 64) L=true) (bJ (by decide)) (Pos.xt.le (by omega)) (ih.group i) (by omega)) L hL
  ·intro L hL;rw[dy]
   exact(Pos.le (n:=3) (Pos.bind (n:=1) (m:=2) (Pos.bK (by decide)) fun _=>Pos.bind (n:=1) (m:=1) (ih.expr i) fun x=>Pos.map (Pos.bK (by decide))) (by omega)) L hL
  ·rw[ey]
   obtain⟨h1,h2⟩:=hL.tail hk
   have up:∀ {r:PR Ex},vF 0 L.tail r→vF 1 L r:=fun {r} h=>⟨fun a L' e=>by obtain⟨k1,k2,k3⟩:=h.ok a L' e;exact⟨k1.trans (Yd _),k2,by omega⟩,fun p c e=>by obtain⟨⟨t,ht,e2⟩,hc⟩:=h.err p c e;exact⟨⟨t,Yw ht,e2⟩,hc⟩⟩
   split
   ·exact up (Pos.pure _ L.tail h1)
   split
   ·exact up ((Pos.map ((ih.group i).le (by omega))) L.tail h1)
   split
   ·exact up (((ih.agg _).le (by omega)) L.tail h1)
   ·refine(Pos.bind (n:=1) (m:=0) Pos.name fun s=> ?_) L hL
    by_cases hi:i=true
    ·simp only[if_pos hi];exact Pos.pure _
    ·simp only[if_neg hi]
     exact Pos.step (n:=0) (m:=0) (c:=fun L=>ar 1 fM L=true) (bJ (by decide)) (Pos.map ((ih.group i).le (by omega))) (Pos.pure _) (by omega)
  ·intro L hL;rw[fh]
   refine(Pos.le (n:=5) (Pos.bind (n:=1) (m:=4) (Pos.bK (by decide)) fun _=>Pos.bind (n:=1) (m:=3) Pos.name fun tb=>Pos.bind (n:=1) (m:=2) (Pos.bK (by decide)) fun _=>Pos.bind (n:=0) (m:=2) ?_ fun a=>Pos.bind (n:=0) (m:=2) ?_ fun p=>Pos.bind (n:=1) (m:=1) Pos.vq fun w=>Pos.bind (n:=0) (m:=1) ?_ fun c=>Pos.map (Pos.bK (by decide))) (by omega)) L hL
   ·exact Pos.ite (Pos.bind (n:=0) (m:=0) ((ih.expr true).le (by omega)) fun x=>Pos.map ((Pos.bK (by decide)).le (by omega))) (Pos.pure _)
   ·exact Pos.ite (Pos.bind (n:=0) (m:=0) (Pos.num.le (by omega)) fun x=>Pos.map ((Pos.bK (by decide)).le (by omega))) (Pos.pure _)
   ·exact Pos.step (n:=0) (m:=0) (c:=fun L=>ar 1 eP L=true) (bJ (by decide)) ((ih.expr true).le (by omega)) (Pos.pure _) (by omega)
end Go.Proofs.YtbihckigennlhaaGreatDoor
set_option linter.unusedSimpArgs false
set_option linter.unusedSectionVars false
namespace Go.Sx
open Go.RowKit Go.Proofs
section
variable {P:Program}[Glob P]{cfg:Nat→Nat}{K:ae→Store→Prop}{E:List PanicEntry→Store→Prop}{σ:Store}{l:List CI}{d:Nat}{xr:XR}{ps:List Prop}{og:Option Bool}{args:List Operand}{ys:List AV}
theorem Spec.at{f:FuncId}{t b:Nat}{cs:List AV}{R:cU→List AV→Prop}(h:∀ τ,Spec P f ys ((t,b,.cells cs)::τ) fun r σ'=>∃ cs',R r cs'∧σ'=(t,b,.cells cs')::τ)(hl:aK σ t=some (b,.cells cs)):
  Spec P f ys σ fun r σ'=>∃ cs',R r cs'∧σ'=ck σ t b (.cells cs'):=by
 obtain⟨pre,post,h1,h2⟩:=qq hl
 intro M w0 w vs hI hR
 have hp:σ.Perm ((t,b,.cells cs)::(pre++post)):=by rw[h1];exact Yq
 refine(h (pre++post) M w0 w vs (hI.perm hp) hR).mono fun e w' ⟨M',r,σ',hM,bo,hr,cs',hq,e1⟩=> ?_
 subst e1
 refine⟨M',r,ck σ t b (.cells cs'),hM,?_,hr,cs',hq,rfl⟩
 rw[h2]
 exact bo.perm List.perm_middle.symm
theorem mz{f:FuncId}{t b b':Nat}{cs:List AV}{R:cU→List AV→Prop}(h:ay xr none args=some (og,ys,ps))(hl:aK σ t=some (b',.cells cs))(hb:b=b')(hp:∀ τ,Spec P f ys ((t,b,.cells cs)::τ) fun r σ'=>∃ cs',R r cs'∧σ'=(t,b,.cells cs')::τ)(al:OB ps)
  (k:∀ x cs',R (.ret x) cs'→VX P cfg l K E ((d,.s x)::xr) (ck σ t b (.cells cs'))) (e:∀ ch cs',R (.cC ch) cs'→E ch (ck σ t b (.cells cs'))):VX P cfg (⟨some d,.call f args,none⟩::l) K E xr σ:=by
 subst hb
 exact qH h (Spec.at hp hl) al (fun x σ' ⟨cs',hr,e1⟩=>by subst e1;exact k x cs' hr) fun ch σ' ⟨cs',hr,e1⟩=>by subst e1;exact e ch cs' hr
end
theorem aP{P:Program}[Glob P]{N:Nat}{cfg:Nat→Nat}{Q:Exit→ae→Store→Prop}{ch:List PanicEntry}{rg:ae}{σ:Store}:∀ {k:List Fr},Q (.panic ch) rg σ→FK P N cfg Q (.panic ch) k rg σ
 |[],h=>⟨h⟩
 | .seq _::k,h=>⟨(aP (k:=k) h).h⟩
 | .jl _::k,h=>⟨(aP (k:=k) h).h⟩
 | .fn _::k,h=>⟨(aP (k:=k) h).h⟩
end Go.Sx
set_option maxRecDepth 100000
set_option maxHeartbeats 4000000
namespace Go.Proofs.YtbihckigennlhaaGreatDoor
open Go.Sx Go.Proofs
theorem aH(t b:Nat)(k k':cp)(τ:Store):ck ((t,b,k)::τ) t b k'=(t,b,k')::τ:=by simp[ck]
theorem ku(L:List Tok):L.getD 0 default=hd L:=by cases L<;>rfl
def gN(l:List UInt8):Prop:=l≠[]∧∀ c∈l,48≤c.toNat∧c.toNat≤57
structure my(t:Tok):Prop where
 sz:t.text.size≤16384
 num:t.kind=2→gN t.text.data.toList∧bW t.text.data.toList 0≤1152921504606846976
 dec:t.kind=3→∃ a b:List UInt8,t.text.data.toList=a++46::b∧gN a∧gN b∧b.length≤6∧bW (a++b) 0 * 10 ^ (6-b.length)≤1152921504606846976
structure Gd(L:List Tok):Prop where
 e:bF L
 t:∀ t∈L,my t
 n:L.length≤20000
theorem Gd.pos{L:List Tok}(h:Gd L):0<(L.length:Int):=by
 have:=YU.2 h.e.ne;omega
theorem Gd.tail{L:List Tok}(h:Gd L)(hk:(hd L).kind≠6):Gd L.tail∧L.tail.length<L.length:=
 ⟨⟨(h.e.tail hk).1,fun t ht=>h.t t (Yw ht),by have:=(h.e.tail hk).2;have:=h.n;omega⟩,(h.e.tail hk).2⟩
def aZ(L:List Tok)(ins:Bool):List AV:=[.sl false 3 (L.map Tok.cells),.v (.bool ins)]
def qS(p c:Int):Value:= .iface 135 (.agg #[.int .i64 p,.int .i64 c])
def s6{α:Type}(ins:Bool)(rest:List AV)(r:PR α)(val:α→AV):cU→List AV→Prop:=fun x cs'=>match r with
 | .ok a L'=>Gd L'∧x= .ret (val a)∧cs'=aZ L' ins++rest
 | .err p c=>x= .cC [{v:=qS p c,recovered:=false}]∧∃ L' i',cs'=aZ L' i'++rest
def bC{α:Type}(f:FuncId)(ys:List AV)(ins:Bool)(L:List Tok)(r:PR α)(val:α→AV):Prop:=∀ (b:Nat) (rest:List AV) (τ:Store),Sx.Spec Tryz.prog f (.lp 1000 b 0::ys) ((1000,b,.cells (aZ L ins++rest))::τ) fun x σ'=>∃ cs',s6 ins rest r val x cs'∧σ'=(1000,b,.cells cs')::τ
def mu{α:Type}(ins:Bool)(rest:List AV)(r:PR α)(val:α→AV)(b:Nat)(τ:Store)(x:cU)(σ':Store):Prop:=∃ x2 cs',s6 ins rest r val x2 cs'∧Sub ((1000,b,.cells cs')::τ) σ'∧(match x,x2 with| .ret x,.ret y=>Wk x y| .cC c,.cC c'=>c=c'|_,_=>False)
theorem bC.intro{α:Type}{f:FuncId}{ys:List AV}{ins:Bool}{L:List Tok}{r:PR α}{val:α→AV}(h:∀ (b:Nat) (rest:List AV) (τ:Store),Sx.Spec Tryz.prog f (.lp 1000 b 0::ys) ((1000,b,.cells (aZ L ins++rest))::τ) (mu ins rest r val b τ)):bC f ys ins L r val:=by
 intro b rest τ
 refine Spec.weak (h b rest τ) fun x σ' ⟨x2,cs',h1,h2,h3⟩=>⟨x2,_,⟨cs',h1,rfl⟩,h2,h3⟩
theorem cQ{α:Type}{ins:Bool}{rest:List AV}{r:PR α}{val:α→AV}{a:α}{x:AV}{L':List Tok}{b:Nat}{τ σ':Store}(h:r= .ok a L')(hL:Gd L')(hx:Wk x (val a))(hs:Sub ((1000,b,.cells (aZ L' ins++rest))::τ) σ':=by exact Zs):
  mu ins rest r val b τ (.ret x) σ':=by
 subst h;exact⟨_,_,⟨hL,rfl,rfl⟩,hs,hx⟩
theorem nB{α:Type}{ins:Bool}{rest:List AV}{r:PR α}{val:α→AV}{ch:List PanicEntry}{cs:List AV}{b:Nat}{τ σ':Store}(h:s6 ins rest r val (.cC ch) cs)(hs:Sub ((1000,b,.cells cs)::τ) σ':=by exact Zs):mu ins rest r val b τ (.cC ch) σ':=
 ⟨_,_,h,hs,rfl⟩
theorem LQ(L:List Tok)(hL:Gd L)(ins:Bool)(k:Int)(s:ag):bC 122 [iv k,sv s] ins L (.ok (ar k s L) L) fun b=> .v (.bool b):=by
 refine bC.intro fun b rest τ=> ?_
 refine Spec.cN (fun _=>0) Tryz.func122 RE SX (Z9 rfl) ?_
 have hp:=hL.pos
 unfold aZ
 repeat'(first|exact .nil|refine .k0 ?_|refine .k1 ?_|refine .k2 ?_|refine .k3 ?_|refine .k4 ?_|refine .k7 ?_|refine .r1 ?_ ?_|refine .t1 ?_ ?_ ?_|fail)
 try any_goals(exact Zo)
 all_goals(try simp only[BL]at *)
 ·exact cQ rfl hL (.lY (by simp only[ku];rfl))
 all_goals omega
def j1(k:Int)(s:ag)(L:List Tok):PR Bool:=if ar k s L then .ok true L.tail else .ok false L
theorem fA(L:List Tok)(hL:Gd L)(ins:Bool)(k:Int)(hk:k≠6)(s:ag):bC 77 [iv k,sv s] ins L (j1 k s L) fun b=> .v (.bool b):=by
 refine bC.intro fun b rest τ=> ?_
 refine Spec.cN (fun _=>0) Tryz.func77 R4 Ti (Z9 rfl) ?_
 have hp:=hL.pos
 repeat'(first|exact .nil|refine .k0 ?_|refine .k1 ?_|refine .k2 ?_|refine .r1 ?_ ?_|fail)
 refine mz rfl rfl rfl (fun cL=>LQ L hL ins k s b rest cL) .nil ?_ (fun ch cs' h=>absurd h.2.1 (by nofun))
 rintro x cs' ⟨h1,h2,h3⟩
 cases h2
 subst h3
 rw[aH]
 unfold aZ
 repeat'(first|exact .nil|refine .k0 ?_|refine .k1 ?_|refine .k2 ?_|refine .k7 ?_|refine .k9 ?_|(refine .cd ?_ ?_<;>(intro hc;skip))|refine .r1 ?_ ?_|refine .t3 ?_ ?_ ?_|refine .r8 ?_ ?_|fail)
 try any_goals(exact Zo)
 all_goals(try simp only[BL]at *)
 ·exact cQ (a:=false) (by unfold j1;rw[hc];rfl) hL (.refl _)
 refine mB (cs':=[.sl false 3 ((L.drop 1).map Tok.cells),.v (.bool ins)]++rest) rfl rfl rfl rfl rfl ⟨rfl,by simp⟩ .nil ?_
 rw[aH]
 repeat'(first|exact .nil|refine .k0 ?_|refine .k1 ?_|refine .k2 ?_|refine .k7 ?_|refine .r1 ?_ ?_|fail)
 all_goals(try simp only[BL]at *)
 rw[Ya]
 exact cQ (a:=true) (by unfold j1;rw[hc];rfl) (hL.tail (bJ hk L hc)).1 (.refl _)
def ib:Prop:=∀ (L:List Tok),Gd L→∀ ins,bC 76 [] ins L (eQ L:PR Unit) fun _=> .any
theorem Fi{ins:Bool}{rest:List AV}{L:List Tok}{α:Type}{val:α→AV}{r:PR α}{x:cU}{cs':List AV}(h:s6 ins rest (eQ L:PR Unit) (fun _=> .any) x cs')(hr:r=eQ L):s6 ins rest r val x cs':=by
 subst hr;exact h
theorem qf(hw:ib)(L:List Tok)(hL:Gd L)(ins:Bool)(s:ag):bC 155 [sv s] ins L (de s L) fun _=> .aL []:=by
 refine bC.intro fun b rest τ=> ?_
 refine Spec.cN (fun _=>0) Tryz.func155 RP S5 (Z9 rfl) ?_
 repeat'(first|exact .nil|refine .k1 ?_|refine .k2 ?_|refine .r1 ?_ ?_|fail)
 refine mz rfl rfl rfl (fun cL=>fA L hL ins 5 (by decide) s b rest cL) .nil ?_ (fun ch cs' h=> ?_)
 ·rintro x cs' h
  rw[aH]
  unfold j1 at h
  split at h<;>rename_i hs<;>obtain⟨h1,h2,h3⟩:=h<;>cases h2<;>subst h3<;>(repeat'(first|exact .nil|refine .k0 ?_|refine .k1 ?_|refine .k2 ?_|refine .k3 ?_|refine .k9 ?_|(refine .cd ?_ ?_<;>(intro hc;skip))|refine .r1 ?_ ?_|fail))<;>(try(exact absurd hc (by decide)))
  ·exact cQ (a:=()) (by show iV _ _ _=_;unfold iV;rw[if_pos hs]) h1 (.refl _)
  ·refine mz rfl rfl rfl (fun cL=>hw L hL ins b rest cL) .nil (fun x cs' h=>absurd h (by nofun)) (fun ch cs' h=> ?_)
   rw[aH]
   refine aP ?_
   exact nB (Fi h (by show iV _ _ _=_;unfold iV;rw[if_neg hs]))
 ·unfold j1 at h;split at h<;>exact absurd h.2.1 (by nofun)
theorem Ep(hw:ib)(L:List Tok)(hL:Gd L)(ins:Bool)(s:ag):bC 78 [sv s] ins L (oy s L) fun _=> .aL []:=by
 refine bC.intro fun b rest τ=> ?_
 refine Spec.cN (fun _=>0) Tryz.func78 R5 Tj (Z9 rfl) ?_
 repeat'(first|exact .nil|refine .k1 ?_|refine .k2 ?_|refine .r1 ?_ ?_|fail)
 refine mz rfl rfl rfl (fun cL=>fA L hL ins 1 (by decide) s b rest cL) .nil ?_ (fun ch cs' h=> ?_)
 ·rintro x cs' h
  rw[aH]
  unfold j1 at h
  split at h<;>rename_i hs<;>obtain⟨h1,h2,h3⟩:=h<;>cases h2<;>subst h3<;>(repeat'(first|exact .nil|refine .k0 ?_|refine .k1 ?_|refine .k2 ?_|refine .k3 ?_|refine .k9 ?_|(refine .cd ?_ ?_<;>(intro hc;skip))|refine .r1 ?_ ?_|fail))<;>(try(exact absurd hc (by decide)))
  ·exact cQ (a:=()) (by show iV _ _ _=_;unfold iV;rw[if_pos hs]) h1 (.refl _)
  ·refine mz rfl rfl rfl (fun cL=>hw L hL ins b rest cL) .nil (fun x cs' h=>absurd h (by nofun)) (fun ch cs' h=> ?_)
   rw[aH]
   refine aP ?_
   exact nB (Fi h (by show iV _ _ _=_;unfold iV;rw[if_neg hs]))
 ·unfold j1 at h;split at h<;>exact absurd h.2.1 (by nofun)
theorem xM(hw:ib)(L:List Tok)(hL:Gd L)(ins:Bool)(k:Int)(hk:k≠6):bC 151 [iv k] ins L (dC k L) fun t=> .agg t.cells:=by
 refine bC.intro fun b rest τ=> ?_
 refine Spec.cN (fun _=>0) Tryz.func151 RJ S1 (Z9 rfl) ?_
 have hp:=hL.pos
 unfold aZ
 repeat'(first|exact .nil|refine .k0 ?_|refine .k1 ?_|refine .k2 ?_|refine .k9 ?_|(refine .cd ?_ ?_<;>(intro hc;skip))|refine .r1 ?_ ?_|(refine .l1 ?_;intro b)|refine .t1 ?_ ?_ ?_|refine .t3 ?_ ?_ ?_|refine .r8 ?_ ?_|fail)
 try any_goals(exact Zo)
 all_goals(try simp only[BL]at *)
 ·refine mz (cs:=[.sl false 3 (L.map Tok.cells),.v (.bool ins)]++rest) rfl rfl rfl (fun cL=>hw L hL ins _ rest cL) .nil (fun x cs' h=>absurd h (by nofun)) (fun ch cs' h=> ?_)
  refine aP ?_
  exact nB (Fi h (by unfold dC;rw[if_pos (by rw[← ku];exact hc)]))
 refine mB (cs':=[.sl false 3 ((L.drop 1).map Tok.cells),.v (.bool ins)]++rest) rfl rfl rfl rfl rfl ⟨rfl,by simp⟩ .nil ?_
 repeat'(first|exact .nil|refine .k0 ?_|refine .k1 ?_|refine .k2 ?_|refine .k7 ?_|refine .r1 ?_ ?_|fail)
 all_goals(try simp only[BL]at *)
 simp only[aH,Ya,ku]at *
 exact cQ (a:=hd L) (by unfold dC;rw[if_neg (fun h=>h hc)]) (hL.tail (by rw[hc];exact hk)).1 (.refl _)
end Go.Proofs.YtbihckigennlhaaGreatDoor
namespace Go.Sx
open Go.RowKit Go.Proofs
section
variable {P:Program}[Glob P]{M:Mem}{w0:Base}{w:World}{σ:Store}
theorem Inv.freeze{t b:Nat}{xs:List AV}(hI:Inv P M w0 ((t,b,.cells xs)::σ) w):∃ (M':Mem) (vs:List Value),M.le M'∧Inv P M' w0 σ w∧RL M' xs vs∧∀ k (h:k<vs.length),M' b k=some vs[k]:=by
 obtain⟨aT,hn,cs,ty,hh,hR⟩:=hI.st _ (ZR)
 have hnd:=hI.nd
 simp only[ZL,YL]at hnd
 let M':Mem:=fun b' o=>if b'=b then cs[o]? else M b' o
 have hle:M.le M':=fun b' o v h=>by
  have aR:b'≠b:=fun e=>by rw[e,hn o]at h;cases h
  simp[M',aR,h]
 refine⟨M',cs.toList,hle,⟨hI.os,hI.tape,hI.output,hI.size,hI.old,fun b' o v h=> ?_,fun e he=>⟨(hI.st e (ZX _ he)).1,?_⟩,hnd.2,fun g l e=>(hI.gl g l e).mono hle,hI.gw,fun b' o v hv aE=>hI.bm b' o v (by have aR:b'≠b:=(by rintro rfl;simp only at aT;omega);simpa[M',aR]using hv) aE⟩,hR.mono hle,fun k h=> ?_⟩
 ·by_cases e:b'=b
  ·subst e
   have h2:cs[o]? =some v:=by simpa[M']using h
   show w.cell? _=_
   simp[World.cell?,hh,h2]
  ·exact hI.dr b' o v (by simpa[M',e]using h)
 ·obtain⟨tg,b2,x⟩:=e
  have hk:=(hI.st _ (ZX _ he)).2
  have aR:b2≠b:=fun e=>hnd.1 (e ▸ YW (f:=fun x:Nat×Nat×cp=>x.2.1) he)
  cases x with
  |cells l=>obtain⟨h1,cs',t',h2,h3⟩:=hk;exact⟨fun o=>by simp[M',aR,h1 o],cs',t',h2,h3.mono hle⟩
  |tail u' c=>obtain⟨h1,cs',t',h2,h3⟩:=hk;exact⟨fun o ho=>by simp[M',aR,h1 o ho],cs',t',h2,h3⟩
  |map es k=>obtain⟨h1,l,h2,h3,h4⟩:=hk;exact⟨fun o=>by simp[M',aR,h1 o],l,h2,h3,h4.mono hle⟩
 ·have h2:k<cs.size:=by simpa using h
  simp[M',h2]
end
inductive nJ(t b:Nat)(xs:List AV):Store→Store→Prop
 |here {σ:Store}:nJ t b xs ((t,b,.cells xs)::σ) σ
 |there {e:Nat×Nat×cp} {σ σ':Store} (h:nJ t b xs σ σ'):nJ t b xs (e::σ) (e::σ')
theorem nJ.perm{t b:Nat}{xs:List AV}{σ σ':Store}(h:nJ t b xs σ σ'):List.Perm σ ((t,b,.cells xs)::σ'):=by
 induction h with
 |here=>exact .refl _
 |there _ ih=>exact(ih.cons _).trans (.swap _ _ _)
inductive nI(b e:Nat)(rows:List (List AV)):List AV→List AV→Prop
 |nil:nI b e rows [] []
 |same {x:AV} {l l':List AV} (h:nI b e rows l l'):nI b e rows (x::l) (x::l')
 |m {t:Nat} {l l':List AV} (h:nI b e rows l l'):nI b e rows (.ms t b 0 rows.length rows.length::l) (.sl false e rows::l')
theorem IJ{α:Type}{e:Nat}:∀ {rows:List (List α)} (hr:∀ r∈rows,r.length=e) (i:Nat) (hi:i<rows.length) (j:Nat) (hj:j<rows[i].length),rows.flatten[i * e+j]? =some rows[i][j]
 |[],_,i,hi,_,_=>absurd hi (Nat.not_lt_zero _)
 |r::rows,hr,0,hi,j,hj=>by
  simp only[Yt,Nat.zero_mul,Y8,YN]at hj ⊢
  rw[Zb hj,Z1 hj]
 |r::rows,hr,i+1,hi,j,hj=>by
  have h1:r.length=e:=hr r (by simp)
  have cz:i<rows.length:=by simpa using hi
  simp only[Yt,X6]at hj ⊢
  rw[YI (by rw[h1,YC];omega),show(i+1) * e+j-r.length=i * e+j by rw[h1,YC];omega]
  exact IJ (fun r h=>hr r (by simp[h])) i cz j hj
theorem nI.R{M M':Mem}(hM:M.le M'){b e:Nat}{rows:List (List AV)}(hr:∀ r∈rows,r.length=e)(hn:rows.length≤maxLen){vs:List Value}(hR:RL M' rows.flatten vs)(hc:∀ k (h:k<vs.length),M' b k=some vs[k]){l l':List AV}(h:nI b e rows l l'):
  ∀ {us:List Value},RL M l us→RL M' l' us:=by
 induction h with
 |nil=>exact fun hu=>hu.mono hM
 | @same x l l' h ih=>intro us hu;obtain⟨v,gL,rfl,hx,eE⟩:=hu.cE;exact RL.cons (hx.mono hM) (ih eE)
 | @m t l l' h ih=>
  intro us hu
  obtain⟨v,gL,rfl,hx,eE⟩:=hu.cE
  refine RL.cons ?_ (ih eE)
  rw[hx.xD]
  have hlen:rows.flatten.length=rows.length * e:=by
   have:∀ (rows:List (List AV)),(∀ r∈rows,r.length=e)→rows.flatten.length=rows.length * e:=by
    intro rows
    induction rows with
    |nil=>intro _;simp
    |cons r rows ih=>intro h;rw[Yt,Z7,ih (fun r hr=>h r (by simp[hr])),h r (by simp),Z8,YC];omega
   exact this rows hr
  refine .sl _ _ _ b 0 _ (fun k=>vs.getD k default) (fun i hi=>hr _ (Za hi)) (fun k hk=> ?_) (fun i hi j hj=> ?_) (ZK _) hn
  ·have bU:k<vs.length:=by rw[← hR.1,hlen];exact hk
   rw[Y8,hc k bU,ZV,Z1 bU];rfl
  ·have hg:=IJ hr i hi j hj
   obtain⟨h1,h2⟩:=ZP.1 hg
   have h3:i * e+j<vs.length:=by rw[← hR.1];exact h1
   have:=hR.2 _ h1 h3
   rw[h2]at this
   rw[ZV,Z1 h3]
   exact this
end Go.Sx
namespace Go.Proofs.YtbihckigennlhaaGreatDoor
open Go.Sx Go.Proofs
def FW{α:Type}(ins:Bool)(rest:List AV)(r:PR α)(val:α→AV)(b:Nat)(τ:Store)(x:cU)(σ':Store):Prop:=
 mu ins rest r val b τ x σ'∨∃ (l l':List AV) (t bb e:Nat) (rows:List (List AV)) (aw:Store),x= .ret (.agg l)∧nJ t bb rows.flatten σ' aw∧(∀ r∈rows,r.length=e)∧rows.length≤maxLen∧nI bb e rows l l'∧mu ins rest r val b τ (.ret (.agg l')) aw
theorem bC.WL{α:Type}{f:FuncId}{ys:List AV}{ins:Bool}{L:List Tok}{r:PR α}{val:α→AV}(h:∀ (b:Nat) (rest:List AV) (τ:Store),Sx.Spec Tryz.prog f (.lp 1000 b 0::ys) ((1000,b,.cells (aZ L ins++rest))::τ) (FW ins rest r val b τ)):bC f ys ins L r val:=by
 refine bC.intro fun b rest τ=> ?_
 intro M w0 w cs hI hR
 refine(h b rest τ M w0 w cs hI hR).mono fun e w' ⟨M',x,σ',hM,bo,hx,hq⟩=> ?_
 rcases hq with hq|⟨l,l',t,bb,e',rows,aw,e1,hs,hr,hn,hl,hq⟩
 ·exact⟨M',x,σ',hM,bo,hx,hq⟩
 ·subst e1
  obtain⟨M2,vs,qZ,bQ,eL,hc⟩:=(bo.perm hs.perm).freeze
  refine⟨M2,.ret (.agg l'),aw,hM.trans qZ,bQ,?_,hq⟩
  cases e with
  |returned v=>
   have uy:R M' (.agg l) v:=hx
   obtain⟨us,rfl,ux⟩:=uy.uO
   have:=hl.R qZ hr hn eL hc ux
   exact R.uL this
  |_=>exact hx.elim
section
variable {cfg:Nat→Nat}{K:ae→Store→Prop}{E:List PanicEntry→Store→Prop}{σ τ:Store}{l:List CI}{d b b':Nat}{xr:XR}{ps:List Prop}{og:Option Bool}{args:List Operand}{ys:List AV}{α β:Type}{f:FuncId}{ins xm:Bool}{L:List Tok}{rest cs:List AV}{r:PR α}{val:α→AV}{r2:PR β}{yb:β→AV}
theorem aN{i t b b':Nat}{x x':cp}{r:Store}(h:Nat.beq i t=false):ck ((i,b',x')::r) t b x=(i,b',x')::ck r t b x:=by
 show(bif Nat.beq i t then _ else _)=_
 rw[h];rfl
theorem bG(h:ay xr none args=some (og,.lp 1000 b 0::ys,ps))(hp:bC f ys ins L r val)(hl:aK σ 1000=some (b',.cells cs))(hb:b=b')(hc:cs=aZ L ins++rest)(al:OB ps)
  (he:∀ p c,r= .err p c→r2= .err p c) (hE:∀ ch σ',mu xm rest r2 yb b τ (.cC ch) σ'→E ch σ') (hs:∀ cs',Sub ((1000,b,.cells cs')::τ) (ck σ 1000 b (.cells cs')))
  (k:∀ a L',r= .ok a L'→Gd L'→VX Tryz.prog cfg l K E ((d,.s (val a))::xr) (ck σ 1000 b (.cells (aZ L' ins++rest)))):VX Tryz.prog cfg (⟨some d,.call f args,none⟩::l) K E xr σ:=by
 subst hc
 refine mz h hl hb (fun cL=>hp b rest cL) al (fun x cs' hR=> ?_) (fun ch cs' hR=> ?_)
 ·cases hr:r with
  |ok a L'=>rw[hr]at hR;obtain⟨h1,h2,h3⟩:=hR;cases h2;subst h3;exact k a L' hr h1
  |err p c=>rw[hr]at hR;exact absurd hR (by nofun)
 ·cases hr:r with
  |ok a L'=>rw[hr]at hR;exact absurd hR.2.1 (by nofun)
  |err p c=>
   rw[hr]at hR
   refine hE ch _ (nB ?_ (hs cs'))
   rw[he p c hr]
   exact hR
end
theorem LR(L:List Tok)(hL:Gd L)(ins:Bool):bC 124 [] ins L (.ok (aY L) L) fun n=>iv (n:Nat):=by
 refine bC.intro fun b rest τ=> ?_
 refine Spec.cN (fun _=>0) Tryz.func124 RH SZ (Z9 rfl) ?_
 have hp:=hL.pos
 unfold aZ
 repeat'(first|exact .nil|refine .k0 ?_|refine .k1 ?_|refine .k2 ?_|refine .k4 ?_|refine .k6 ?_|refine .k7 ?_|refine .k9 ?_|(refine .cd ?_ ?_<;>(intro hc;first|exact kf hc (by assumption)|skip))|refine .r1 ?_ ?_|(refine .l1 ?_;intro b)|refine .t1 ?_ ?_ ?_|fail)
 try any_goals(exact Zo)
 all_goals(try simp only[BL]at *)
 all_goals first
 |omega
 |(refine cQ (a:=aY L) rfl hL (.lY ?_)
   simp only[ku,← Decidable.not_and_iff_not_or_not]at *
   unfold aY
   simp_all [Fc,Fa,ch,iv, -not_and])
theorem Ap(hw:ib)(L:List Tok)(hL:Gd L)(ins:Bool):bC 110 [] ins L (eN L) sv:=by
 refine bC.intro fun b rest τ=> ?_
 refine Spec.cN (fun _=>0) Tryz.func110 Rz SR (Z9 rfl) ?_
 have hp:=hL.pos
 unfold aZ
 repeat'(first|exact .nil|refine .k0 ?_|refine .k1 ?_|refine .k2 ?_|refine .k9 ?_|(refine .cd ?_ ?_<;>(intro hc;skip))|refine .r1 ?_ ?_|refine .t1 ?_ ?_ ?_|refine .an rfl (by intro aO;exact uN _) ?_ ?_|fail)
 try any_goals(exact Zo)
 all_goals(try simp only[BL]at *)
 ·refine bG rfl (hw L hL ins) rfl rfl rfl .nil ?_ (fun _ _ h=>aP h) (fun _=>Zs) (fun a L' hr cZ=>absurd hr (by nofun))
  exact fun p c h=>by cases h;unfold eN;rw[if_pos (by rw[← ku];exact hc)];rfl
 simp only[ku]at hc
 refine bG rfl (xM hw L hL ins 1 (by decide)) rfl rfl rfl .nil ?_ (fun _ _ h=>aP h) (fun _=>Zs) (fun a L' hr cZ=> ?_)
 ·exact fun p c h=>by unfold eN;rw[if_neg (fun h=>h hc),h];rfl
 repeat'(first|exact .nil|refine .k0 ?_|refine .k1 ?_|refine .k7 ?_|refine .r1 ?_ ?_|fail)
 all_goals(try simp only[BL]at *)
 rw[aH]
 exact cQ (a:=a.text) (by unfold eN;rw[if_neg (fun h=>h hc),hr];rfl) cZ (.refl _)
abbrev gh(x:Ex):AV:= .agg [iv x.kind,sv x.op,sv x.name,sv x.table,iv x.val.kind,iv x.val.n,sv x.val.s,.sl false 2 (x.unit.map aq.cells),iv x.param,iv x.win.kind,iv x.win.size,.sl false 12 (x.args.map Ex.cells)]
def NU(n:Nat):Prop:=∀ (L:List Tok),Gd L→8 * L.length+7≤n→∀ i,bC 38 [] i L (bj n i L) gh
theorem abQ(hw:ib)(n:Nat)(hx:NU n)(L:List Tok)(hL:Gd L)(hn:8 * L.length≤n+1)(i:Bool):bC 195 [] i L (dy (n+1) i L) gh:=by
 refine bC.intro fun b rest τ=> ?_
 refine Spec.cN (fun _=>0) Tryz.func195 RV Ta (Z9 rfl) ?_
 repeat'(first|exact .nil|refine .k0 ?_|refine .k1 ?_|refine .k2 ?_|refine .r1 ?_ ?_|(refine .l1 ?_;intro b)|fail)
 all_goals(try simp only[BL]at *)
 refine bG rfl (qf hw L hL i (ch 40)) rfl rfl rfl .nil ?_ (fun _ _ h=>aP h) (fun _=>Zs) (fun a L1 aU bg=> ?_)
 ·exact fun p c h=>by unfold dy;rw[h];rfl
 repeat'(first|exact .nil|refine .k0 ?_|refine .k1 ?_|refine .k2 ?_|refine .r1 ?_ ?_|fail)
 all_goals(try simp only[BL]at *)
 refine bG rfl (hx L1 bg (by have:=((Pos.bK (k:=5) (s:=ch 40) (by decide)) L hL.e).ok a L1 aU;omega) i) rfl rfl rfl .nil ?_ (fun _ _ h=>aP h) (fun _=>Zs) (fun x L2 cI cq=> ?_)
 ·exact fun p c h=>by unfold dy;rw[aU,PR.aD,h];rfl
 simp(decide:=true)only[aH,aN]
 repeat'(first|exact .nil|refine .k0 ?_|refine .k1 ?_|refine .k2 ?_|refine .r1 ?_ ?_|(refine .l1 ?_;intro b)|fail)
 all_goals(try simp only[BL]at *)
 refine bG rfl (qf hw L2 cq i (ch 41)) rfl rfl rfl .nil ?_ (fun _ _ h=>aP h) (fun _=>Zs) (fun y L3 mZ mI=> ?_)
 ·exact fun p c h=>by unfold dy;rw[aU,PR.aD,cI,PR.aD,h];rfl
 simp(decide:=true)only[aH,aN]
 repeat'(first|exact .nil|refine .k0 ?_|refine .k1 ?_|refine .k2 ?_|refine .k7 ?_|refine .r1 ?_ ?_|fail)
 all_goals(try simp only[BL]at *)
 exact cQ (a:=x) (by unfold dy;rw[aU,PR.aD,cI,PR.aD,mZ];rfl) mI (.refl _)
end Go.Proofs.YtbihckigennlhaaGreatDoor
