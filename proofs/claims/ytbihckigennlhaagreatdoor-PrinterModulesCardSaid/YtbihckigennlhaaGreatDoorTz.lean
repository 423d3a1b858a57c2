/- Units: what a list of factors comes to (the words of XCa, XFc and XHd, for seats without the checker). -/
import Derived.Test.YtbihckigennlhaaGreatDoorPt
import Derived.Sort.Defs
import Derived.Test.YtbihckigennlhaaGreatDoorCodeA
import Derived.Test.YtbihckigennlhaaGreatDoorCodeB
set_option linter.unusedVariables false
namespace Go.Proofs.YtbihckigennlhaaGreatDoor
open Go.Sx Go.Proofs
instance (s:ByteArray)(L:List ByteArray):Decidable (s∈L):= @List.instDecidableMemOfLawfulBEq _ instBEqOfDecidableEq inferInstance s L
def iL(a b:af):Bool:=Op.bytesLess a.toList b.toList
def ri:List af→af→List af
 |[],s=>[s]
 |a::l,s=>if iL a s=true then a::ri l s else if a=s then a::l else s::a::l
def jm:List af→List af
 |[]=>[]
 |s::l=>ri (jm l) s
def eL(l:List aq)(n:af):Int:=((l.filter fun f=>decide (f.name=n)).map aq.exp).sum
def gz(l:List aq):List aq×Int:=
 let ns:=jm (l.map aq.name)
 if∃ n∈ns,eL l n>8∨eL l n< -8 then([],70)else
 let u:=(ns.map fun n=>(⟨n,eL l n⟩:aq)).filter fun f=>decide (f.exp≠0)
 if u.length>4 then([],2)else(u,0)
structure Tok where
 kind:Int
 text:af
 at_:Int
deriving DecidableEq,Inhabited
def Tok.cells(t:Tok):List AV:=[iv t.kind,sv t.text,iv t.at_]
abbrev N0:Nat:=1000000
inductive PR(α:Type) where
 |ok (a:α) (L:List Tok)
 |err (at_ code:Int)
def PR.bind{α β:Type}:PR α→(α→List Tok→PR β)→PR β
 | .ok a L,f=>f a L
 | .err p c,_=> .err p c
def PR.map{α β:Type}(r:PR α)(f:α→β):PR β:=r.bind fun a L=> .ok (f a) L
theorem PR.aJ{α β:Type}(a:α)(L:List Tok)(f:α→List Tok→PR β):(PR.ok a L).bind f=f a L:=rfl
def hd(L:List Tok):Tok:=L.headD default
def au(k:Int)(s:af)(L:List Tok):Bool:=decide ((hd L).kind=k) && decide ((hd L).text=s)
def eS{α:Type}(L:List Tok):PR α:= .err (hd L).at_ 90
def j5(k:Int)(s:af)(L:List Tok):PR Unit:=if au k s L then .ok () L.tail else eS L
abbrev dt:=j5 5
abbrev py:=j5 1
def dM(k:Int)(L:List Tok):PR Tok:=if(hd L).kind≠k then eS L else .ok (hd L) L.tail
def fh(L:List Tok):PR af:=if¬Name (hd L).text then eS L else(dM 1 L).map Tok.text
def ei:List UInt8→Nat→Nat
 |[],a=>a
 |b::l,a=>ei l (10 * a+(b.toNat-48))
def tC(s:af):Int:=ei s.data.toList 0
def nE(s:af):Int:=
 let a:=s.data.toList.takeWhile fun b=>b != 46
 let b:=(s.data.toList.dropWhile fun b=>b != 46).drop 1
 (ei (a++b) 0:Int) * 10 ^ (6-b.length)
def az2(L:List Tok):PR Int:=(dM 2 L).map fun t=>tC t.text
def j4{α:Type}(sep:af)(f:List Tok→PR α):Nat→List Tok→List α→PR (List α)
 |0,L,acc=> .ok acc L
 |n+1,L,acc=>if au 5 sep L then(f L.tail).bind fun a L'=>j4 sep f n L' (acc++[a])else .ok acc L
def gy{α:Type}(sep:af)(f:List Tok→PR α)(L:List Tok):PR (List α):=(f L).bind fun a L'=>j4 sep f N0 L' [a]
abbrev ch(n:UInt8):af:=⟨#[n]⟩
def dP(L:List Tok):PR aq:=(fh L).bind fun n L1=>
 if au 5 (ch 94) L1 then
  if au 5 (ch 45) L1.tail then(az2 L1.tail.tail).map fun k=>⟨n, -(min k 1099511627776)⟩
  else(az2 L1.tail).map fun k=>⟨n,min k 1099511627776⟩
 else .ok ⟨n,1⟩ L1
def iq(L:List Tok):PR (List aq):=
 if au 5 (ch 91) L then(gy (ch 42) dP L.tail).bind fun l L1=>(dt (ch 93) L1).bind fun _ L2=>
  if(gz l).2≠0 then .err (hd L).at_ (gz l).2 else .ok (gz l).1 L2
 else .ok [] L
abbrev aza:af:=⟨#[98,111,111,108]⟩
abbrev azk:af:=⟨#[116,101,120,116]⟩
abbrev azi:af:=⟨#[107,101,121]⟩
abbrev azg:af:=⟨#[105,110,116]⟩
abbrev azb:af:=⟨#[100,101,99]⟩
abbrev mY:af:=⟨#[97,108,108]⟩
abbrev kX:af:=⟨#[115,108,105,100,105,110,103]⟩
abbrev kY:af:=⟨#[116,117,109,98,108,105,110,103]⟩
abbrev oF:af:=⟨#[115,101,115,115,105,111,110]⟩
abbrev eI:af:=⟨#[119,104,101,114,101]⟩
abbrev wN:af:=⟨#[99,111,117,110,116]⟩
abbrev rL:af:=⟨#[113,117,97,110,116,105,108,101]⟩
abbrev rK:af:=⟨#[100,101,99,97,121]⟩
abbrev uf:af:=⟨#[116,114,117,101]⟩
abbrev zS:af:=⟨#[102,97,108,115,101]⟩
abbrev iw:af:=⟨#[110,117,108,108]⟩
abbrev gj:af:=⟨#[111,102]⟩
abbrev eR:af:=⟨#[105,102]⟩
abbrev jo:af:=⟨#[116,104,101,110]⟩
abbrev fI:af:=⟨#[101,108,115,101]⟩
abbrev fY:af:=⟨#[100,101,102,97,117,108,116]⟩
abbrev cE:af:=⟨#[110,111,116]⟩
abbrev G6:af:=⟨#[97,110,100]⟩
abbrev G8:af:=⟨#[111,114]⟩
abbrev azj:af:=⟨#[116,97,98,108,101]⟩
abbrev azf:af:=⟨#[102,101,97,116,117,114,101]⟩
abbrev azh:af:=⟨#[107,101,101,112]⟩
def Bu(L:List Tok):PR Ty:=
 if au 1 aza L then .ok ⟨1,[],⟨#[]⟩⟩ L.tail
 else if au 1 azk L then .ok ⟨4,[],⟨#[]⟩⟩ L.tail
 else if au 1 azi L then(fh L.tail).map fun s=>⟨5,[],s⟩
 else if au 1 azg L then(iq L.tail).map fun u=>⟨2,u,⟨#[]⟩⟩
 else(py azb L).bind fun _ L1=>(iq L1).map fun u=>⟨3,u,⟨#[]⟩⟩
def rM(L:List Tok):PR fq:=
 if au 1 mY L then .ok ⟨1,0⟩ L.tail
 else if au 1 kX L then(az2 L.tail).map fun n=>⟨2,n⟩
 else if au 1 kY L then(az2 L.tail).map fun n=>⟨3,n⟩
 else(py oF L).bind fun _ L1=>(az2 L1).map fun n=>⟨4,n⟩
def v0:ek:=⟨0,0,⟨#[]⟩⟩
def w0:fq:=⟨0,0⟩
def gB(n:Int):Ex:= .mk 1 ⟨#[]⟩ ⟨#[]⟩ ⟨#[]⟩ ⟨1,n,⟨#[]⟩⟩ [] 0 w0 []
def kS(op:af)(x:Ex):Ex:= .mk 6 op ⟨#[]⟩ ⟨#[]⟩ v0 [] 0 w0 [x]
def oP(op:af)(x y:Ex):Ex:= .mk 7 op ⟨#[]⟩ ⟨#[]⟩ v0 [] 0 w0 [x,y]
def kK(k:Int)(s:af)(l:List Ex):Ex:= .mk k ⟨#[]⟩ s ⟨#[]⟩ v0 [] 0 w0 l
def jh(v:ek)(u:List aq)(n:af):Ex:= .mk 1 ⟨#[]⟩ n ⟨#[]⟩ v u 0 w0 []
def px(L:List Tok):PR Ex:=(fh L).bind fun n L1=>(dM 4 L1).bind fun t L2=>
 if t.text.size<1∨t.text.size>32∨(32:UInt8)∈t.text.data.toList then .err t.at_ 3 else .ok (jh ⟨5,0,t.text⟩ [] n) L2
def bo(L:List Tok):Nat:=
 let t:=hd L
 if t.kind=1∧t.text=G8 then 1 else if t.kind=1∧t.text=G6 then 2 else if t.kind≠5 then 0
 else if t.text=⟨#[61,61]⟩∨t.text=⟨#[33,61]⟩∨t.text=ch 60∨t.text=⟨#[60,61]⟩then 4
 else if t.text=ch 43∨t.text=ch 45 then 5
 else if t.text=ch 42∨t.text=ch 47 then 6 else 0
mutual
def bD:Nat→Bool→List Tok→PR Ex
 |0,_,L=>eS L
 |n+1,i,L=>if au 1 eR L then(bD n i L.tail).bind fun a L1=>(py jo L1).bind fun _ L2=>(bD n i L2).bind fun b L3=>(py fI L3).bind fun _ L4=>(bD n i L4).bind fun c L5=> .ok (.mk 8 ⟨#[]⟩ ⟨#[]⟩ ⟨#[]⟩ v0 [] 0 w0 [a,b,c]) L5
  else(dN n 1 i L).bind fun x L1=>dZ n i x L1
def dZ:Nat→Bool→Ex→List Tok→PR Ex
 |0,_,_,L=>eS L
 |n+1,i,x,L=>if au 1 fY L then(dN n 1 i L.tail).bind fun y L1=>dZ n i (.mk 9 ⟨#[]⟩ ⟨#[]⟩ ⟨#[]⟩ v0 [] 0 w0 [x,y]) L1 else .ok x L
def dN:Nat→Nat→Bool→List Tok→PR Ex
 |0,_,_,L=>eS L
 |n+1,least,i,L=>(eC n least i L).bind fun x L1=>eg n least (if decide (least≤3) && au 1 cE L then 2 else 7) i x L1
def eg:Nat→Nat→Nat→Bool→Ex→List Tok→PR Ex
 |0,_,_,_,_,L=>eS L
 |n+1,least,most,i,x,L=>if bo L≥least∧bo L≠0∧bo L≤most then
   (dN n (bo L+1) i L.tail).bind fun y L1=>eg n least (if bo L=4 then 3 else bo L) i (oP (hd L).text x y) L1
  else .ok x L
def eC:Nat→Nat→Bool→List Tok→PR Ex
 |0,_,_,L=>eS L
 |n+1,least,i,L=>if decide (least≤3) && au 1 cE L then(dN n 3 i L.tail).map (kS cE)
  else if au 5 (ch 45) L then(eC n 7 i L.tail).map (kS (ch 45))else fi n i L
def fi:Nat→Bool→List Tok→PR Ex
 |0,_,L=>eS L
 |n+1,i,L=>if(hd L).kind=2 then(az2 L).bind fun k L1=>(iq L1).map fun u=>jh ⟨2,k,⟨#[]⟩⟩ u ⟨#[]⟩
  else if(hd L).kind=3 then(dM 3 L).bind fun t L1=>(iq L1).map fun u=>jh ⟨3,nE t.text,⟨#[]⟩⟩ u ⟨#[]⟩
  else if(hd L).kind=4 then(dM 4 L).map fun t=>jh ⟨4,0,t.text⟩ [] ⟨#[]⟩
  else if(hd L).kind=1 then fJ n i L
  else if au 5 (ch 64) L then px L.tail else aJf n i L
def aJf:Nat→Bool→List Tok→PR Ex
 |0,_,L=>eS L
 |n+1,i,L=>(dt (ch 40) L).bind fun _ L1=>(bD n i L1).bind fun x L2=>(dt (ch 41) L2).map fun _=>x
def fJ:Nat→Bool→List Tok→PR Ex
 |0,_,L=>eS L
 |n+1,i,L=>if(hd L).text=uf∨(hd L).text=zS then .ok (gB (if(hd L).text=uf then 1 else 0)) L.tail
  else if(hd L).text=iw then(aJf n i L.tail).map (kS iw)
  else if(hd L).text∈jv∧i=false then gC n (hd L).text L.tail
  else(fh L).bind fun s L1=>if i=true then .ok (kK 2 s []) L1
   else if au 1 gj L1 then(aJf n i L1.tail).map fun x=>kK 4 s [x]else .ok (kK 3 s []) L1
def gC:Nat→af→List Tok→PR Ex
 |0,_,L=>eS L
 |n+1,op,L=>(dt (ch 40) L).bind fun _ L1=>(fh L1).bind fun tb L2=>(dt (ch 44) L2).bind fun _ L3=>
  (if op≠wN then(bD n true L3).bind fun x L4=>(dt (ch 44) L4).map fun _=>x else .ok (gB 1) L3).bind fun a L5=>
  (if op=rL∨op=rK then(az2 L5).bind fun k L6=>(dt (ch 44) L6).map fun _=>k else .ok 0 L5).bind fun p L7=>
  (rM L7).bind fun w L8=>(if au 1 eI L8 then bD n true L8.tail else .ok (gB 1) L8).bind fun c L9=>
  (dt (ch 41) L9).map fun _=> .mk 5 op ⟨#[]⟩ tb v0 [] p w [a,c]
end
abbrev Bs:=List UInt8
def aC(b:UInt8):Nat:=
 if b=9∨b=10∨b=13∨b=32 then 1 else if 97≤b.toNat∧b.toNat≤122 then 2 else if 48≤b.toNat∧b.toNat≤57 then 3 else if b=95 then 4
 else if b=34 then 5 else if b=35 then 6 else if b∈([123,125,40,41,91,93,44,58,59,61,60,43,45,42,47,94,64]:Bs)then 7 else if b=33 then 8 else 0
def aO(b:UInt8):Bool:=decide (aC b=3)
def ey(b:UInt8):Bool:=decide (aC b=2∨aC b=3∨aC b=4)
def aD(p:UInt8→Bool)(s:Bs):Nat:=(s.takeWhile p).length
def jV(s:Bs):Int:=
 let a:=s.takeWhile fun b=>b != 46
 let b:=(s.dropWhile fun b=>b != 46).drop 1
 if b.length>6 then 3 else if ei (a++b) 0 * 10 ^ (6-b.length)>1152921504606846976 then 2 else 0
def lL(s:Bs):Int:=if ei s 0>1152921504606846976 then 2 else 0
def tZ(s:Bs):Int:=if s.length>64 then 2 else if∃ c∈s,c.toNat<32∨c.toNat>126∨c=92 then 3 else 0
def ax:Bs→Int×Nat×Int
 |[]=>(-1,1,80)
 |c::r=>
  let k:=aC c
  if k=1 then(0,1,0)
  else if k=6 then(0,aD (fun b=>b != 10) (c::r),0)
  else if k=2 then(1,aD ey (c::r),if aD ey (c::r)>24 then 2 else 0)
  else if k=3 then
   let n:=aD aO (c::r);let t:=(c::r).drop n;let m:=aD aO (t.drop 1)
   if t.head? =some 46∧m>0 then(3,n+1+m,jV ((c::r).take (n+1+m)))else(2,n,lL ((c::r).take n))
  else if k=5 then
   let n:=aD (fun b=>b != 34 && b != 10) r
   if(r.drop n).head? =some 34 then(4,n+2,tZ (r.take n))else(-1,1,80)
  else if k=7∨k=8 then(if r.head? =some 61∧(c=61∨c=33∨c=60)then(5,2,0)else if c≠33 then(5,1,0)else(-1,1,80))
  else(-1,1,80)
structure dw where
 at_:Int
 code:Int
deriving DecidableEq,Inhabited
def dw.cells(p:dw):List AV:=[iv p.at_,iv p.code]
def cA:Nat→Int→Int→Bs→List Tok×List dw
 |0,at_,_,_=>([⟨6,⟨#[]⟩,at_⟩],[])
 |n+1,at_,de,s=>
  if s=[]then([⟨6,⟨#[]⟩,at_⟩],[])else
  let p:=ax s
  let rest:=s.drop p.2.1
  if p.1= -1 then
   let q:=cA n (at_+1) at_ (s.drop 1)
   (q.1,if de≠at_-1∨at_=0 then⟨at_,p.2.2⟩::q.2 else q.2)
  else
   let q:=cA n (at_+p.2.1) de rest
   if p.2.2≠0 then(q.1,⟨at_,p.2.2⟩::q.2)
   else if p.1=4 then(⟨4,⟨((s.take (p.2.1-1)).drop 1).toArray⟩,at_⟩::q.1,q.2)
   else if p.1≠0 then(⟨p.1,⟨(s.take p.2.1).toArray⟩,at_⟩::q.1,q.2)
   else q
def dh(s:Bs):List Tok×List dw:=let q:=cA s.length 0 (-1) s;(q.1,q.2.take 32)
section
variable {α:Type}[Inhabited α](lt:α→α→Bool)
open Go.Sort (swp)
theorem aBB(d:Array α)(i j:Nat):(swp d i j).size=d.size:=by simp[swp]
def bsN(q:Nat→Bool):Nat→Nat→Nat→Nat
 |0,i,_=>i
 |n+1,i,j=>if i<j then(if q ((i+j) / 2)then bsN q n ((i+j) / 2+1) j else bsN q n i ((i+j) / 2))else i
def at1(a:Nat):Nat→Array α→Array α
 |0,d=>d
 |j+1,d=>if a<j+1∧lt d[j+1]! d[j]! =true then at1 a j (swp d (j+1) j)else d
def aBF(a:Nat):Nat→Nat→Array α→Array α
 |0,_,d=>d
 |n+1,i,d=>aBF a n (i+1) (at1 lt a i d)
def aBG(a b:Nat)(d:Array α):Array α:=aBF lt a (b-(a+1)) (a+1) d
def upL:Nat→Nat→Array α→Array α
 |0,_,d=>d
 |n+1,k,d=>upL n (k+1) (swp d k (k+1))
def dnL:Nat→Nat→Array α→Array α
 |0,_,d=>d
 |n+1,k,d=>dnL n (k-1) (swp d k (k-1))
def srL(a b:Nat):Nat→Nat→Array α→Array α
 |0,_,d=>d
 |n+1,i,d=>srL a b n (i+1) (swp d (a+i) (b+i))
def srS(a b n:Nat)(d:Array α):Array α:=srL a b n 0 d
def aJo(m:Nat):Nat→Nat→Nat→Array α→Array α
 |0,_,_,d=>d
 |n+1,i,j,d=>if i=j then srS (m-i) m i d else if j<i then aJo m n (i-j) j (srS (m-i) m j d)else aJo m n i (j-i) (srS (m-i) (m+j-i) i d)
def aJi:Nat→Nat→Nat→Nat→Array α→Array α
 |0,_,_,_,d=>d
 |n+1,a,m,b,d=>
  if m-a=1 then upL (bsN (fun h=>lt d[h]! d[a]!) (b-m) m b-1-a) a d
  else if b-m=1 then dnL (m-bsN (fun h=> !lt d[m]! d[h]!) (m-a) a m) m d
  else
   let s:=if m>(a+b) / 2 then bsN (fun c=> !lt d[(a+b) / 2+m-1-c]! d[c]!) ((a+b) / 2-((a+b) / 2+m-b)) ((a+b) / 2+m-b) ((a+b) / 2)
    else bsN (fun c=> !lt d[(a+b) / 2+m-1-c]! d[c]!) (m-a) a m
   let e:=(a+b) / 2+m-s
   let d1:=if s<m∧m<e then aJo m (e-s) (m-s) (e-m) d else d
   let d2:=if a<s∧s<(a+b) / 2 then aJi n a s ((a+b) / 2) d1 else d1
   if(a+b) / 2<e∧e<b then aJi n ((a+b) / 2) e b d2 else d2
def aJE(z:Nat):Nat→Nat→Array α→Array α
 |0,_,d=>d
 |k+1,a,d=>if a+20≤z then aJE z k (a+20) (aBG lt a (a+20) d)else aBG lt a z d
def aJF(z s:Nat):Nat→Nat→Array α→Array α
 |0,_,d=>d
 |k+1,a,d=>if a+2 * s≤z then aJF z s k (a+2 * s) (aJi lt (2 * s) a (a+s) (a+2 * s) d)else if a+s<z then aJi lt (z-a) a (a+s) z d else d
def aJG(z:Nat):Nat→Nat→Array α→Array α
 |0,_,d=>d
 |k+1,s,d=>if s<z then aJG z k (2 * s) (aJF lt z s (z+1) 0 d)else d
def aBI(d:Array α):Array α:=aJG lt d.size (d.size+1) 20 (aJE lt d.size (d.size+1) 0 d)
theorem aDj(a:Nat):∀ (j:Nat) (d:Array α),(at1 lt a j d).size=d.size
 |0,d=>rfl
 |j+1,d=>by unfold at1;split;rw[aDj a j,aBB];rfl
theorem aDk(a:Nat):∀ (n i:Nat) (d:Array α),(aBF lt a n i d).size=d.size
 |0,_,d=>rfl
 |n+1,i,d=>by unfold aBF;rw[aDk a n,aDj]
theorem aB7(a b:Nat)(d:Array α):(aBG lt a b d).size=d.size:=aDk lt _ _ _ _
theorem aD6:∀ (n k:Nat) (d:Array α),(upL n k d).size=d.size
 |0,_,d=>rfl
 |n+1,k,d=>by unfold upL;rw[aD6 n,aBB]
theorem aC3:∀ (n k:Nat) (d:Array α),(dnL n k d).size=d.size
 |0,_,d=>rfl
 |n+1,k,d=>by unfold dnL;rw[aC3 n,aBB]
theorem aDX(a b:Nat):∀ (n i:Nat) (d:Array α),(srL a b n i d).size=d.size
 |0,_,d=>rfl
 |n+1,i,d=>by unfold srL;rw[aDX a b n,aBB]
theorem aB1(a b n:Nat)(d:Array α):(srS a b n d).size=d.size:=aDX _ _ _ _ _
theorem s5(m:Nat):∀ (n i j:Nat) (d:Array α),(aJo m n i j d).size=d.size
 |0,_,_,d=>rfl
 |n+1,i,j,d=>by
  unfold aJo
  split
  ·exact aB1 _ _ _ _
  ·split
   ·rw[s5 m n,aB1]
   ·rw[s5 m n,aB1]
theorem sx:∀ (n a m b:Nat) (d:Array α),(aJi lt n a m b d).size=d.size
 |0,_,_,_,d=>rfl
 |n+1,a,m,b,d=>by
  unfold aJi
  split
  ·exact aD6 _ _ _
  split
  ·exact aC3 _ _ _
  simp only
  have h1:∀ s:Nat,(if s<m∧m<(a+b) / 2+m-s then aJo m ((a+b) / 2+m-s-s) (m-s) ((a+b) / 2+m-s-m) d else d).size=d.size:=fun s=>by
   split
   ·exact s5 _ _ _ _ _
   ·rfl
  repeat' split
  all_goals(try simp only[sx n,s5])
theorem aCS(z:Nat):∀ (k a:Nat) (d:Array α),(aJE lt z k a d).size=d.size
 |0,_,d=>rfl
 |k+1,a,d=>by
  unfold aJE
  split
  ·rw[aCS z k,aB7]
  ·exact aB7 _ _ _ _
theorem aCT(z s:Nat):∀ (k a:Nat) (d:Array α),(aJF lt z s k a d).size=d.size
 |0,_,d=>rfl
 |k+1,a,d=>by
  unfold aJF
  split
  ·rw[aCT z s k,sx]
  split
  ·exact sx _ _ _ _ _ _
  ·rfl
theorem aCU(z:Nat):∀ (k s:Nat) (d:Array α),(aJG lt z k s d).size=d.size
 |0,_,d=>rfl
 |k+1,s,d=>by
  unfold aJG
  split
  ·rw[aCU z k,aCT]
  ·rfl
theorem aIJ(d:Array α):(aBI lt d).size=d.size:=by unfold aBI;rw[aCU,aCS]
end
def nth(l:List dw)(i:Nat):dw:=l.getD i (l.headD ⟨0,0⟩)
def cfP(l:List dw)(x y:Nat):Int:=IntKind.i64.wrap ((nth l x).at_-(nth l y).at_)
def hO(l:List dw)(x y:Nat):Bool:=decide (cfP l x y<0)
def aBv(l:List dw):List dw:=if l=[]then[]else(aBI (hO l) (Array.range l.length)).toList.map (nth l)
theorem aIG(l:List dw):(aBv l).length=l.length:=by
 unfold aBv
 split
 ·rename_i h;rw[h]
 ·simp[aIJ]
inductive rX where
 |O6 (t:gp)
 |Kg (f:mb)
def Km(L:List Tok):PR dX:=(fh L).bind fun n L1=>(dt (ch 58) L1).bind fun _ L2=>(Bu L2).map fun t=>⟨n,t⟩
def FI(L:List Tok):PR (af×af):=(fh L).bind fun n L1=>(py gj L1).bind fun _ L2=>(fh L2).map fun e=>(n,e)
def Kn(L:List Tok):PR (List dX):=
 if au 5 (ch 125) L then .ok [] L.tail else(gy (ch 44) Km L).bind fun l L1=>(dt (ch 125) L1).map fun _=>l
def Mw(L:List Tok):PR Int:=if au 1 azh L then az2 L.tail else .ok 0 L
def O8(L:List Tok):PR gp:=(FI L).bind fun n L1=>(dt (ch 123) L1).bind fun _ L2=>(Kn L2).bind fun l L3=>
 (Mw L3).bind fun k L4=>(dt (ch 59) L4).map fun _=>⟨n.1,n.2,l,k⟩
def Kh(L:List Tok):PR mb:=(FI L).bind fun n L1=>(dt (ch 58) L1).bind fun _ L2=>(Bu L2).bind fun t L3=>(dt (ch 61) L3).bind fun _ L4=>
 (bD N0 false L4).bind fun x L5=>(dt (ch 59) L5).map fun _=>⟨n.1,n.2,t,x,0⟩
def aJe(L:List Tok):PR rX:=if au 1 azj L then(O8 L.tail).map .O6 else if au 1 azf L then(Kh L.tail).map .Kg else eS L
def B7(x:Int):List Tok→List Tok
 |[]=>[]
 |[t]=>[t]
 |t::u::L=>if t.at_<x∨t.kind≠5∨t.text≠ch 59 then B7 x (u::L)else t::u::L
def IQ(x:Int)(L:List Tok):List Tok:=if(B7 x L).length>1 then(B7 x L).tail else B7 x L
def IE(m:oK):rX→oK
 | .O6 t=>⟨m.tables++[t],m.AK⟩
 | .Kg f=>⟨m.tables,m.AK++[f]⟩
def aJk:Nat→List Tok→oK→List dw→oK×List dw
 |0,_,m,bad=>(m,bad)
 |n+1,L,m,bad=>if(hd L).kind=6 then(m,bad)else
  match aJe L with
  | .ok a L'=>aJk n L' (IE m a) bad
  | .err p c=>aJk n (IQ p L) m (bad++[⟨p,c⟩])
def aBA(s:Bs):oK×List dw×Int:=
 if s.length>16384 then(⟨[],[]⟩,[],2)else
 let r:=aJk N0 (dh s).1 ⟨[],[]⟩ (dh s).2
 (r.1,(aBv r.2).take 32,0)
set_option linter.unusedSimpArgs false
set_option linter.unusedSectionVars false
def ck(L:List Tok):Prop:=∃ M e,L=M++[e]∧e.kind=6
theorem ck.ne{L:List Tok}(h:ck L):L≠[]:=by obtain⟨M,e,rfl,_⟩:=h;simp
theorem ck.tail{L:List Tok}(h:ck L)(hk:(hd L).kind≠6):ck L.tail∧L.tail.length<L.length:=by
 obtain⟨M,e,rfl,he⟩:=h
 cases M with
 |nil=>exact absurd he hk
 |cons t M=>exact⟨⟨M,e,rfl,he⟩,by simp⟩
structure w7{α:Type}(n:Nat)(L:List Tok)(r:PR α):Prop where
 ok:∀ a L',r= .ok a L'→L' <:+ L∧ck L'∧L'.length+n≤L.length
 err:∀ p c,r= .err p c→(∃ t∈L,t.at_=p)∧c≠0
def Pos{α:Type}(n:Nat)(f:List Tok→PR α):Prop:=∀ L,ck L→w7 n L (f L)
section
variable {α β:Type}{n m:Nat}{f g:List Tok→PR α}
theorem Pos.le(h:Pos n f)(hm:m≤n):Pos m f:=fun L hL=>⟨fun a L' e=>by have:=(h L hL).ok a L' e;exact⟨this.1,this.2.1,by omega⟩,(h L hL).err⟩
theorem Pos.pure(a:α):Pos 0 (fun L=>PR.ok a L):=fun L hL=>⟨fun a' L' e=>by cases e;exact⟨List.suffix_refl _,hL,ZI _⟩,fun p c e=>by cases e⟩
theorem vf{L:List Tok}(h:L≠[]):hd L∈L:=by
 cases L with
 |nil=>exact absurd rfl h
 |cons t L=>exact ZU
theorem Pos.wrong:Pos n (eS (α:=α)):=fun L hL=>⟨fun a L' e=>(by cases e),fun p c e=>by cases e;exact⟨⟨_,vf hL.ne,rfl⟩,by decide⟩⟩
theorem Pos.bind{f:List Tok→PR α}{g:α→List Tok→PR β}(hf:Pos n f)(hg:∀ a,Pos m (g a)):Pos (n+m) (fun L=>(f L).bind g):=fun L hL=>by
 cases h:f L with
 |ok a L1=>
  obtain⟨h1,h2,h3⟩:=(hf L hL).ok a L1 h
  refine⟨fun b L' e=> ?_,fun p c e=> ?_⟩
  ·obtain⟨k1,k2,k3⟩:=(hg a L1 h2).ok b L' (by rw[← e];simp only[h,PR.bind])
   exact⟨k1.trans h1,k2,by omega⟩
  ·obtain⟨⟨t,ht,e2⟩,hc⟩:=(hg a L1 h2).err p c (by rw[← e];simp only[h,PR.bind])
   exact⟨⟨t,h1.subset ht,e2⟩,hc⟩
 |err p c=>exact⟨fun b L' e=>(by simp only[h,PR.bind]at e;cases e),fun p' c' e=>by simp only[h,PR.bind]at e;cases e;exact(hf L hL).err p c h⟩
theorem Pos.map{f:List Tok→PR α}{g:α→β}(hf:Pos n f):Pos n (fun L=>(f L).map g):=Pos.bind (m:=0) hf fun a=>Pos.pure (g a)
theorem Pos.ite{c:List Tok→Prop}[∀ L,Decidable (c L)](hf:Pos n f)(hg:Pos n g):Pos n (fun L=>if c L then f L else g L):=fun L hL=>by
 by_cases h:c L
 ·simp only[if_pos h];exact hf L hL
 ·simp only[if_neg h];exact hg L hL
theorem Pos.step{c:List Tok→Prop}[∀ L,Decidable (c L)](hc:∀ L,c L→(hd L).kind≠6)(hf:Pos n f)(hg:Pos m g)(hm:m≤n+1):Pos m (fun L=>if c L then f L.tail else g L):=fun L hL=>by
 by_cases h:c L
 ·simp only[if_pos h]
  obtain⟨h1,h2⟩:=hL.tail (hc L h)
  refine⟨fun a L' e=> ?_,fun p q e=> ?_⟩
  ·obtain⟨k1,k2,k3⟩:=(hf L.tail h1).ok a L' e
   exact⟨k1.trans (X3 _),k2,by omega⟩
  ·obtain⟨⟨t,ht,e2⟩,hc⟩:=(hf L.tail h1).err p q e
   exact⟨⟨t,Yo ht,e2⟩,hc⟩
 ·simp only[if_neg h];exact hg L hL
theorem cr{k:Int}{s:af}(hk:k≠6):∀ L,au k s L=true→(hd L).kind≠6:=fun L h=>by
 unfold au at h
 rw[Z0,ZB]at h
 rw[h.1];exact hk
theorem Pos.bU{k:Int}{s:af}(hk:k≠6):Pos 1 (j5 k s):=Pos.step (n:=0) (cr hk) (Pos.pure ()) Pos.wrong (ZI _)
theorem Pos.tok{k:Int}(hk:k≠6):Pos 1 (dM k):=fun L hL=>by
 unfold dM
 by_cases h:(hd L).kind≠k
 ·rw[if_pos h];exact Pos.wrong L hL
 ·rw[if_neg h]
  have h6:(hd L).kind≠6:=fun e=>hk ((Classical.not_not.1 h).symm.trans e)
  obtain⟨h1,h2⟩:=hL.tail h6
  exact⟨fun a L' e=>by cases e;exact⟨X3 _,h1,by omega⟩,fun p c e=>by cases e⟩
theorem Pos.name:Pos 1 fh:=Pos.ite Pos.wrong (Pos.map (Pos.tok (by decide)))
theorem Pos.num:Pos 1 az2:=Pos.map (Pos.tok (by decide))
theorem Pos.many{sep:af}{f:List Tok→PR α}(hf:Pos 0 f):∀ n acc,Pos 0 (fun L=>j4 sep f n L acc)
 |0,acc=>Pos.pure acc
 |n+1,acc=>Pos.step (n:=0) (cr (by decide)) (Pos.bind (n:=0) (m:=0) hf fun a=>Pos.many hf n (acc++[a])) (Pos.pure acc) (ZK _)
theorem Pos.list{sep:af}{f:List Tok→PR α}(hf:Pos 1 f):Pos 1 (gy sep f):=Pos.bind (n:=1) (m:=0) hf fun a=>Pos.many (hf.le (ZK _)) N0 [a]
end
theorem Pos.uW:Pos 1 dP:=by
 refine Pos.bind (n:=1) (m:=0) Pos.name fun a=> ?_
 refine Pos.step (n:=0) (cr (by decide)) (Pos.step (n:=0) (cr (by decide)) (Pos.map (Pos.num.le (by omega))) (Pos.map (Pos.num.le (by omega))) (by omega)) (Pos.pure _) (by omega)
theorem Pos.unit:Pos 0 iq:=fun L hL=>by
 unfold iq
 by_cases h:au 5 (ch 91) L=true
 ·rw[if_pos h]
  obtain⟨h1,h2⟩:=hL.tail (cr (by decide) L h)
  have hb:=Pos.bind (n:=1) (m:=1) (Pos.list (sep:=ch 42) Pos.uW) (g:=fun l L1=>(dt (ch 93) L1).bind fun _ L2=>PR.ok l L2) fun l=>Pos.bind (n:=1) (m:=0) (Pos.bU (by decide)) fun _=>Pos.pure l
  have hb:=hb L.tail h1
  cases e1:gy (ch 42) dP L.tail with
  |err p c=>exact⟨fun a L' e=>(by cases e),fun p' c' e=>by cases e;obtain⟨⟨t,ht,e2⟩,hc⟩:=hb.err p c (by simp only[e1,PR.bind]);exact⟨⟨t,Yo ht,e2⟩,hc⟩⟩
  |ok l L1=>
   cases e2:dt (ch 93) L1 with
   |err p c=>exact⟨fun a L' e=>(by simp only[PR.bind,e2]at e;cases e),fun p' c' e=>by simp only[PR.bind,e2]at e;cases e;obtain⟨⟨t,ht,e3⟩,hc⟩:=hb.err p c (by simp only[e1,PR.bind,e2]);exact⟨⟨t,Yo ht,e3⟩,hc⟩⟩
   |ok u L2=>
    obtain⟨k1,k2,k3⟩:=hb.ok l L2 (by simp only[e1,PR.bind,e2])
    simp only[PR.bind,e2]
    split
    ·rename_i hn
     exact⟨fun a L' e=>(by cases e),fun p c e=>by cases e;exact⟨⟨_,vf hL.ne,rfl⟩,hn⟩⟩
    ·exact⟨fun a L' e=>by cases e;exact⟨k1.trans (X3 _),k2,by omega⟩,fun p c e=>by cases e⟩
 ·rw[if_neg h];exact Pos.pure _ L hL
theorem Pos.kind:Pos 1 Bu:=by
 refine Pos.step (n:=0) (cr (by decide)) (Pos.pure _) ?_ (by omega)
 refine Pos.step (n:=0) (cr (by decide)) (Pos.pure _) ?_ (by omega)
 refine Pos.step (n:=0) (cr (by decide)) (Pos.map (Pos.name.le (by omega))) ?_ (by omega)
 refine Pos.step (n:=0) (cr (by decide)) (Pos.map Pos.unit) ?_ (by omega)
 exact Pos.bind (n:=1) (m:=0) (Pos.bU (by decide)) fun _=>Pos.map Pos.unit
theorem Pos.zT:Pos 1 rM:=by
 refine Pos.step (n:=0) (cr (by decide)) (Pos.pure _) ?_ (by omega)
 refine Pos.step (n:=0) (cr (by decide)) (Pos.map (Pos.num.le (by omega))) ?_ (by omega)
 refine Pos.step (n:=0) (cr (by decide)) (Pos.map (Pos.num.le (by omega))) ?_ (by omega)
 exact Pos.bind (n:=1) (m:=0) (Pos.bU (by decide)) fun _=>Pos.map (Pos.num.le (by omega))
set_option linter.unusedSimpArgs false
theorem v8:∀ L,bo L≠0→(hd L).kind≠6:=fun L h e=>by
 unfold bo at h
 simp only[e]at h
 simp at h
structure Qw(n:Nat):Prop where
 expr:∀ i,Pos 1 (bD n i)
 lz:∀ i x,Pos 0 (dZ n i x)
 bin:∀ l i,Pos 1 (dN n l i)
 ops:∀ l m i x,Pos 0 (eg n l m i x)
 operand:∀ l i,Pos 1 (eC n l i)
 mU:∀ i,Pos 1 (fi n i)
 group:∀ i,Pos 1 (aJf n i)
 word:∀ i L,ck L→(hd L).kind≠6→w7 1 L (fJ n i L)
 agg:∀ o,Pos 1 (gC n o)
theorem Pos.Pk{α:Type}{k:Int}(hk:k≠6){c:Tok→Prop}[∀ t,Decidable (c t)]{e:Int}(he:e≠0){g:Tok→α}:Pos 1 (fun L=>(dM k L).bind fun t L2=>if c t then .err t.at_ e else .ok (g t) L2):=fun L hL=>by
 by_cases h:(hd L).kind≠k
 ·have h1:dM k L=eS L:=if_pos h
  simp only[h1];exact Pos.wrong (n:=1) L hL
 ·have h1:dM k L= .ok (hd L) L.tail:=if_neg h
  have h6:(hd L).kind≠6:=fun e=>hk ((Classical.not_not.1 h).symm.trans e)
  obtain⟨k1,k2⟩:=hL.tail h6
  simp only[h1,PR.bind]
  by_cases hc:c (hd L)
  ·simp only[if_pos hc];exact⟨fun a L' e=>(by cases e),fun p q e=>by cases e;exact⟨⟨_,vf hL.ne,rfl⟩,he⟩⟩
  ·simp only[if_neg hc];exact⟨fun a L' e=>by cases e;exact⟨X3 _,k1,by omega⟩,fun p q e=>by cases e⟩
theorem Pos.Bt:Pos 1 px:=(Pos.bind (n:=1) (m:=1) Pos.name fun a=>Pos.Pk (by decide) (by decide)).le (by omega)
theorem kO:∀ n,Qw n
 |0=>by
  refine⟨fun i=> ?_,fun i x=> ?_,fun l i=> ?_,fun l m i x=> ?_,fun l i=> ?_,fun i=> ?_,fun i=> ?_,fun i L hL hk=> ?_,fun o=> ?_⟩
  ·intro L hL;rw[bD];exact Pos.wrong L hL
  ·intro L hL;rw[dZ];exact Pos.wrong L hL
  ·intro L hL;rw[dN];exact Pos.wrong L hL
  ·intro L hL;rw[eg];exact Pos.wrong L hL
  ·intro L hL;rw[eC];exact Pos.wrong L hL
  ·intro L hL;rw[fi];exact Pos.wrong L hL
  ·intro L hL;rw[aJf];exact Pos.wrong L hL
  ·rw[fJ];exact Pos.wrong L hL
  ·intro L hL;rw[gC];exact Pos.wrong L hL
 |n+1=>by
  have ih:=kO n
  refine⟨fun i=> ?_,fun i x=> ?_,fun l i=> ?_,fun l m i x=> ?_,fun l i=> ?_,fun i=> ?_,fun i=> ?_,fun i L hL hk=> ?_,fun o=> ?_⟩
  ·intro L hL;rw[bD]
   exact(Pos.step (n:=0) (m:=1) (c:=fun L=>au 1 eR L=true) (cr (by decide)) (Pos.le (n:=5) (Pos.bind (n:=1) (m:=4) (ih.expr i) fun a=>Pos.bind (n:=1) (m:=3) (Pos.bU (by decide)) fun _=>Pos.bind (n:=1) (m:=2) (ih.expr i) fun b=>Pos.bind (n:=1) (m:=1) (Pos.bU (by decide)) fun _=>Pos.bind (n:=1) (m:=0) (ih.expr i) fun c=>Pos.pure _) (by omega))
    (Pos.bind (n:=1) (m:=0) (ih.bin 1 i) fun x=>ih.lz i x) (by omega)) L hL
  ·intro L hL;rw[dZ]
   exact(Pos.step (n:=0) (m:=0) (c:=fun L=>au 1 fY L=true) (cr (by decide)) (Pos.le (n:=1) (Pos.bind (n:=1) (m:=0) (ih.bin 1 i) fun y=>ih.lz i _) (by omega)) (Pos.pure x) (by omega)) L hL
  ·intro L hL;rw[dN]
   exact(Pos.bind (n:=1) (m:=0) (ih.operand l i) fun x=>ih.ops l (if decide (l≤3) && au 1 cE L then 2 else 7) i x) L hL
  ·intro L hL;rw[eg]
   by_cases h:bo L≥l∧bo L≠0∧bo L≤m
   ·rw[if_pos h]
    obtain⟨h1,h2⟩:=hL.tail (v8 L h.2.1)
    have:=(Pos.bind (n:=1) (m:=0) (ih.bin (bo L+1) i) fun y=>ih.ops l (if bo L=4 then 3 else bo L) i (oP (hd L).text x y)) L.tail h1
    exact⟨fun a L' e=>by obtain⟨k1,k2,k3⟩:=this.ok a L' e;exact⟨k1.trans (X3 _),k2,by omega⟩,fun p c e=>by obtain⟨⟨t,ht,e2⟩,hc⟩:=this.err p c e;exact⟨⟨t,Yo ht,e2⟩,hc⟩⟩
   ·rw[if_neg h];exact Pos.pure x L hL
  ·intro L hL;rw[eC]
   exact(Pos.step (n:=0) (m:=1) (c:=fun L=>(decide (l≤3) && au 1 cE L)=true) (fun L h=>cr (k:=1) (by decide) L (Z0 _ _ ▸ h).2) (Pos.map ((ih.bin 3 i).le (by omega)))
    (Pos.step (n:=0) (m:=1) (c:=fun L=>au 5 (ch 45) L=true) (cr (by decide)) (Pos.map ((ih.operand 7 i).le (by omega))) (ih.mU i) (by omega)) (by omega)) L hL
  ·intro L hL;rw[fi]
   by_cases h2:(hd L).kind=2
   ·rw[if_pos h2];exact(Pos.bind (n:=1) (m:=0) Pos.num fun k=>Pos.map Pos.unit) L hL
   rw[if_neg h2]
   by_cases h3:(hd L).kind=3
   ·rw[if_pos h3];exact(Pos.bind (n:=1) (m:=0) (Pos.tok (by decide)) fun k=>Pos.map Pos.unit) L hL
   rw[if_neg h3]
   by_cases h4:(hd L).kind=4
   ·rw[if_pos h4];exact(Pos.map (Pos.tok (by decide))) L hL
   rw[if_neg h4]
   by_cases h1:(hd L).kind=1
   ·rw[if_pos h1];exact ih.word i L hL (by rw[h1];decide)
   rw[if_neg h1]
   exact(Pos.step (n:=0) (m:=1) (c:=fun L=>au 5 (ch 64) L=true) (cr (by decide)) (Pos.Bt.le (by omega)) (ih.group i) (by omega)) L hL
  ·intro L hL;rw[aJf]
   exact(Pos.le (n:=3) (Pos.bind (n:=1) (m:=2) (Pos.bU (by decide)) fun _=>Pos.bind (n:=1) (m:=1) (ih.expr i) fun x=>Pos.map (Pos.bU (by decide))) (by omega)) L hL
  ·rw[fJ]
   obtain⟨h1,h2⟩:=hL.tail hk
   have up:∀ {r:PR Ex},w7 0 L.tail r→w7 1 L r:=fun {r} h=>⟨fun a L' e=>by obtain⟨k1,k2,k3⟩:=h.ok a L' e;exact⟨k1.trans (X3 _),k2,by omega⟩,fun p c e=>by obtain⟨⟨t,ht,e2⟩,hc⟩:=h.err p c e;exact⟨⟨t,Yo ht,e2⟩,hc⟩⟩
   split
   ·exact up (Pos.pure _ L.tail h1)
   split
   ·exact up ((Pos.map ((ih.group i).le (by omega))) L.tail h1)
   split
   ·exact up (((ih.agg _).le (by omega)) L.tail h1)
   ·refine(Pos.bind (n:=1) (m:=0) Pos.name fun s=> ?_) L hL
    by_cases hi:i=true
    ·simp only[if_pos hi];exact Pos.pure _
    ·simp only[if_neg hi]
     exact Pos.step (n:=0) (m:=0) (c:=fun L=>au 1 gj L=true) (cr (by decide)) (Pos.map ((ih.group i).le (by omega))) (Pos.pure _) (by omega)
  ·intro L hL;rw[gC]
   refine(Pos.le (n:=5) (Pos.bind (n:=1) (m:=4) (Pos.bU (by decide)) fun _=>Pos.bind (n:=1) (m:=3) Pos.name fun tb=>Pos.bind (n:=1) (m:=2) (Pos.bU (by decide)) fun _=>Pos.bind (n:=0) (m:=2) ?_ fun a=>Pos.bind (n:=0) (m:=2) ?_ fun p=>Pos.bind (n:=1) (m:=1) Pos.zT fun w=>Pos.bind (n:=0) (m:=1) ?_ fun c=>Pos.map (Pos.bU (by decide))) (by omega)) L hL
   ·exact Pos.ite (Pos.bind (n:=0) (m:=0) ((ih.expr true).le (by omega)) fun x=>Pos.map ((Pos.bU (by decide)).le (by omega))) (Pos.pure _)
   ·exact Pos.ite (Pos.bind (n:=0) (m:=0) (Pos.num.le (by omega)) fun x=>Pos.map ((Pos.bU (by decide)).le (by omega))) (Pos.pure _)
   ·exact Pos.step (n:=0) (m:=0) (c:=fun L=>au 1 eI L=true) (cr (by decide)) ((ih.expr true).le (by omega)) (Pos.pure _) (by omega)
end Go.Proofs.YtbihckigennlhaaGreatDoor
set_option linter.unusedSimpArgs false
set_option linter.unusedSectionVars false
namespace Go.Sx
open Go.RowKit Go.Proofs
section
variable {P:Program}[Glob P]{cfg:Nat→Nat}{K:ae→Store→Prop}{E:List PanicEntry→Store→Prop}{σ:Store}{l:List CI}{d:Nat}{xr:XR}{ps:List Prop}{og:Option Bool}{args:List Operand}{ys:List AV}
theorem Spec.at{f:FuncId}{t b:Nat}{cs:List AV}{R:dj→List AV→Prop}(h:∀ τ,Spec P f ys ((t,b,.cells cs)::τ) fun r σ'=>∃ cs',R r cs'∧σ'=(t,b,.cells cs')::τ)(hl:aN σ t=some (b,.cells cs)):
  Spec P f ys σ fun r σ'=>∃ cs',R r cs'∧σ'=ct σ t b (.cells cs'):=by
 obtain⟨pre,post,h1,h2⟩:=rH hl
 intro M w0 w vs hI hR
 have hp:σ.Perm ((t,b,.cells cs)::(pre++post)):=by rw[h1];exact Yk
 refine(h (pre++post) M w0 w vs (hI.perm hp) hR).mono fun e w' ⟨M',r,σ',hM,hI',hr,cs',hq,e1⟩=> ?_
 subst e1
 refine⟨M',r,ct σ t b (.cells cs'),hM,?_,hr,cs',hq,rfl⟩
 rw[h2]
 exact hI'.perm List.perm_middle.symm
theorem ny{f:FuncId}{t b b':Nat}{cs:List AV}{R:dj→List AV→Prop}(h:aA xr none args=some (og,ys,ps))(hl:aN σ t=some (b',.cells cs))(hb:b=b')(hp:∀ τ,Spec P f ys ((t,b,.cells cs)::τ) fun r σ'=>∃ cs',R r cs'∧σ'=(t,b,.cells cs')::τ)(al:OB ps)
  (k:∀ x cs',R (.ret x) cs'→VX P cfg l K E ((d,.s x)::xr) (ct σ t b (.cells cs'))) (e:∀ ch cs',R (.cL ch) cs'→E ch (ct σ t b (.cells cs'))):VX P cfg (⟨some d,.call f args,none⟩::l) K E xr σ:=by
 subst hb
 exact se h (Spec.at hp hl) al (fun x σ' ⟨cs',hr,e1⟩=>by subst e1;exact k x cs' hr) fun ch σ' ⟨cs',hr,e1⟩=>by subst e1;exact e ch cs' hr
end
theorem aR{P:Program}[Glob P]{N:Nat}{cfg:Nat→Nat}{Q:Exit→ae→Store→Prop}{ch:List PanicEntry}{rg:ae}{σ:Store}:∀ {k:List Fr},Q (.panic ch) rg σ→FK P N cfg Q (.panic ch) k rg σ
 |[],h=>⟨h⟩
 | .seq _::k,h=>⟨(aR (k:=k) h).h⟩
 | .jT _::k,h=>⟨(aR (k:=k) h).h⟩
 | .fn _::k,h=>⟨(aR (k:=k) h).h⟩
end Go.Sx
set_option maxRecDepth 100000
set_option maxHeartbeats 4000000
namespace Go.Proofs.YtbihckigennlhaaGreatDoor
open Go.Sx Go.Proofs
theorem aL(t b:Nat)(k k':bN)(τ:Store):ct ((t,b,k)::τ) t b k'=(t,b,k')::τ:=by simp[ct]
theorem lF(L:List Tok):L.getD 0 default=hd L:=by cases L<;>rfl
def iz(l:List UInt8):Prop:=l≠[]∧∀ c∈l,48≤c.toNat∧c.toNat≤57
structure nw(t:Tok):Prop where
 sz:t.text.size≤16384
 num:t.kind=2→iz t.text.data.toList∧ei t.text.data.toList 0≤1152921504606846976
 dec:t.kind=3→∃ a b:List UInt8,t.text.data.toList=a++46::b∧iz a∧iz b∧b.length≤6∧ei (a++b) 0 * 10 ^ (6-b.length)≤1152921504606846976
structure Gd(L:List Tok):Prop where
 e:ck L
 t:∀ t∈L,nw t
 n:L.length≤20000
theorem Gd.pos{L:List Tok}(h:Gd L):0<(L.length:Int):=by
 have:=Y1.2 h.e.ne;omega
theorem Gd.tail{L:List Tok}(h:Gd L)(hk:(hd L).kind≠6):Gd L.tail∧L.tail.length<L.length:=
 ⟨⟨(h.e.tail hk).1,fun t ht=>h.t t (Yo ht),by have:=(h.e.tail hk).2;have:=h.n;omega⟩,(h.e.tail hk).2⟩
def bh(L:List Tok)(ins:Bool):List AV:=[.sl false 3 (L.map Tok.cells),.v (.bool ins)]
def sA(p c:Int):Value:= .iface 135 (.agg #[.int .i64 p,.int .i64 c])
def uC{α:Type}(ins:Bool)(rest:List AV)(r:PR α)(val:α→AV):dj→List AV→Prop:=fun x cs'=>match r with
 | .ok a L'=>Gd L'∧x= .ret (val a)∧cs'=bh L' ins++rest
 | .err p c=>x= .cL [{v:=sA p c,recovered:=false}]∧∃ L' i',cs'=bh L' i'++rest
def bG{α:Type}(f:FuncId)(ys:List AV)(ins:Bool)(L:List Tok)(r:PR α)(val:α→AV):Prop:=∀ (b:Nat) (rest:List AV) (τ:Store),Sx.Spec Tryz.prog f (.lp 1000 b 0::ys) ((1000,b,.cells (bh L ins++rest))::τ) fun x σ'=>∃ cs',uC ins rest r val x cs'∧σ'=(1000,b,.cells cs')::τ
def nt{α:Type}(ins:Bool)(rest:List AV)(r:PR α)(val:α→AV)(b:Nat)(τ:Store)(x:dj)(σ':Store):Prop:=∃ x2 cs',uC ins rest r val x2 cs'∧Sub ((1000,b,.cells cs')::τ) σ'∧(match x,x2 with| .ret x,.ret y=>Wk x y| .cL c,.cL c'=>c=c'|_,_=>False)
theorem bG.intro{α:Type}{f:FuncId}{ys:List AV}{ins:Bool}{L:List Tok}{r:PR α}{val:α→AV}(h:∀ (b:Nat) (rest:List AV) (τ:Store),Sx.Spec Tryz.prog f (.lp 1000 b 0::ys) ((1000,b,.cells (bh L ins++rest))::τ) (nt ins rest r val b τ)):bG f ys ins L r val:=by
 intro b rest τ
 refine Spec.weak (h b rest τ) fun x σ' ⟨x2,cs',h1,h2,h3⟩=>⟨x2,_,⟨cs',h1,rfl⟩,h2,h3⟩
theorem dc{α:Type}{ins:Bool}{rest:List AV}{r:PR α}{val:α→AV}{a:α}{x:AV}{L':List Tok}{b:Nat}{τ σ':Store}(h:r= .ok a L')(hL:Gd L')(hx:Wk x (val a))(hs:Sub ((1000,b,.cells (bh L' ins++rest))::τ) σ':=by exact Zs):
  nt ins rest r val b τ (.ret x) σ':=by
 subst h;exact⟨_,_,⟨hL,rfl,rfl⟩,hs,hx⟩
theorem oA{α:Type}{ins:Bool}{rest:List AV}{r:PR α}{val:α→AV}{ch:List PanicEntry}{cs:List AV}{b:Nat}{τ σ':Store}(h:uC ins rest r val (.cL ch) cs)(hs:Sub ((1000,b,.cells cs)::τ) σ':=by exact Zs):nt ins rest r val b τ (.cL ch) σ':=
 ⟨_,_,h,hs,rfl⟩
theorem Ob(L:List Tok)(hL:Gd L)(ins:Bool)(k:Int)(s:af):bG 122 [iv k,sv s] ins L (.ok (au k s L) L) fun b=> .v (.bool b):=by
 refine bG.intro fun b rest τ=> ?_
 refine Spec.cY (fun _=>0) Tryz.func122 Uw VG (Z8 rfl) ?_
 have hp:=hL.pos
 unfold bh
 repeat'(first|exact .nil|refine .k0 ?_|refine .k1 ?_|refine .k2 ?_|refine .k3 ?_|refine .k4 ?_|refine .k7 ?_|refine .r1 ?_ ?_|refine .t1 ?_ ?_ ?_|fail)
 try any_goals(exact Zo)
 all_goals(try simp only[BL]at *)
 ·exact dc rfl hL (.mS (by simp only[lF];rfl))
 all_goals omega
def kR(k:Int)(s:af)(L:List Tok):PR Bool:=if au k s L then .ok true L.tail else .ok false L
theorem fX(L:List Tok)(hL:Gd L)(ins:Bool)(k:Int)(hk:k≠6)(s:af):bG 77 [iv k,sv s] ins L (kR k s L) fun b=> .v (.bool b):=by
 refine bG.intro fun b rest τ=> ?_
 refine Spec.cY (fun _=>0) Tryz.func77 US V4 (Z8 rfl) ?_
 have hp:=hL.pos
 repeat'(first|exact .nil|refine .k0 ?_|refine .k1 ?_|refine .k2 ?_|refine .r1 ?_ ?_|fail)
 refine ny rfl rfl rfl (fun cU=>Ob L hL ins k s b rest cU) .nil ?_ (fun ch cs' h=>absurd h.2.1 (by nofun))
 rintro x cs' ⟨h1,h2,h3⟩
 cases h2
 subst h3
 rw[aL]
 unfold bh
 repeat'(first|exact .nil|refine .k0 ?_|refine .k1 ?_|refine .k2 ?_|refine .k7 ?_|refine .k9 ?_|(refine .cd ?_ ?_<;>(intro hc;skip))|refine .r1 ?_ ?_|refine .t3 ?_ ?_ ?_|refine .r8 ?_ ?_|fail)
 try any_goals(exact Zo)
 all_goals(try simp only[BL]at *)
 ·exact dc (a:=false) (by unfold kR;rw[hc];rfl) hL (.refl _)
 refine nA (cs':=[.sl false 3 ((L.drop 1).map Tok.cells),.v (.bool ins)]++rest) rfl rfl rfl rfl rfl ⟨rfl,by simp⟩ .nil ?_
 rw[aL]
 repeat'(first|exact .nil|refine .k0 ?_|refine .k1 ?_|refine .k2 ?_|refine .k7 ?_|refine .r1 ?_ ?_|fail)
 all_goals(try simp only[BL]at *)
 rw[XY]
 exact dc (a:=true) (by unfold kR;rw[hc];rfl) (hL.tail (cr hk L hc)).1 (.refl _)
def iQ:Prop:=∀ (L:List Tok),Gd L→∀ ins,bG 76 [] ins L (eS L:PR Unit) fun _=> .any
theorem Hd{ins:Bool}{rest:List AV}{L:List Tok}{α:Type}{val:α→AV}{r:PR α}{x:dj}{cs':List AV}(h:uC ins rest (eS L:PR Unit) (fun _=> .any) x cs')(hr:r=eS L):uC ins rest r val x cs':=by
 subst hr;exact h
theorem rq(hw:iQ)(L:List Tok)(hL:Gd L)(ins:Bool)(s:af):bG 155 [sv s] ins L (dt s L) fun _=> .aI []:=by
 refine bG.intro fun b rest τ=> ?_
 refine Spec.cY (fun _=>0) Tryz.func155 UE VP (Z8 rfl) ?_
 repeat'(first|exact .nil|refine .k1 ?_|refine .k2 ?_|refine .r1 ?_ ?_|fail)
 refine ny rfl rfl rfl (fun cU=>fX L hL ins 5 (by decide) s b rest cU) .nil ?_ (fun ch cs' h=> ?_)
 ·rintro x cs' h
  rw[aL]
  unfold kR at h
  split at h<;>rename_i hs<;>obtain⟨h1,h2,h3⟩:=h<;>cases h2<;>subst h3<;>(repeat'(first|exact .nil|refine .k0 ?_|refine .k1 ?_|refine .k2 ?_|refine .k3 ?_|refine .k9 ?_|(refine .cd ?_ ?_<;>(intro hc;skip))|refine .r1 ?_ ?_|fail))<;>(try(exact absurd hc (by decide)))
  ·exact dc (a:=()) (by show j5 _ _ _=_;unfold j5;rw[if_pos hs]) h1 (.refl _)
  ·refine ny rfl rfl rfl (fun cU=>hw L hL ins b rest cU) .nil (fun x cs' h=>absurd h (by nofun)) (fun ch cs' h=> ?_)
   rw[aL]
   refine aR ?_
   exact oA (Hd h (by show j5 _ _ _=_;unfold j5;rw[if_neg hs]))
 ·unfold kR at h;split at h<;>exact absurd h.2.1 (by nofun)
theorem Gb(hw:iQ)(L:List Tok)(hL:Gd L)(ins:Bool)(s:af):bG 78 [sv s] ins L (py s L) fun _=> .aI []:=by
 refine bG.intro fun b rest τ=> ?_
 refine Spec.cY (fun _=>0) Tryz.func78 UT V5 (Z8 rfl) ?_
 repeat'(first|exact .nil|refine .k1 ?_|refine .k2 ?_|refine .r1 ?_ ?_|fail)
 refine ny rfl rfl rfl (fun cU=>fX L hL ins 1 (by decide) s b rest cU) .nil ?_ (fun ch cs' h=> ?_)
 ·rintro x cs' h
  rw[aL]
  unfold kR at h
  split at h<;>rename_i hs<;>obtain⟨h1,h2,h3⟩:=h<;>cases h2<;>subst h3<;>(repeat'(first|exact .nil|refine .k0 ?_|refine .k1 ?_|refine .k2 ?_|refine .k3 ?_|refine .k9 ?_|(refine .cd ?_ ?_<;>(intro hc;skip))|refine .r1 ?_ ?_|fail))<;>(try(exact absurd hc (by decide)))
  ·exact dc (a:=()) (by show j5 _ _ _=_;unfold j5;rw[if_pos hs]) h1 (.refl _)
  ·refine ny rfl rfl rfl (fun cU=>hw L hL ins b rest cU) .nil (fun x cs' h=>absurd h (by nofun)) (fun ch cs' h=> ?_)
   rw[aL]
   refine aR ?_
   exact oA (Hd h (by show j5 _ _ _=_;unfold j5;rw[if_neg hs]))
 ·unfold kR at h;split at h<;>exact absurd h.2.1 (by nofun)
theorem yV(hw:iQ)(L:List Tok)(hL:Gd L)(ins:Bool)(k:Int)(hk:k≠6):bG 151 [iv k] ins L (dM k L) fun t=> .agg t.cells:=by
 refine bG.intro fun b rest τ=> ?_
 refine Spec.cY (fun _=>0) Tryz.func151 UA VL (Z8 rfl) ?_
 have hp:=hL.pos
 unfold bh
 repeat'(first|exact .nil|refine .k0 ?_|refine .k1 ?_|refine .k2 ?_|refine .k9 ?_|(refine .cd ?_ ?_<;>(intro hc;skip))|refine .r1 ?_ ?_|(refine .l1 ?_;intro b)|refine .t1 ?_ ?_ ?_|refine .t3 ?_ ?_ ?_|refine .r8 ?_ ?_|fail)
 try any_goals(exact Zo)
 all_goals(try simp only[BL]at *)
 ·refine ny (cs:=[.sl false 3 (L.map Tok.cells),.v (.bool ins)]++rest) rfl rfl rfl (fun cU=>hw L hL ins _ rest cU) .nil (fun x cs' h=>absurd h (by nofun)) (fun ch cs' h=> ?_)
  refine aR ?_
  exact oA (Hd h (by unfold dM;rw[if_pos (by rw[← lF];exact hc)]))
 refine nA (cs':=[.sl false 3 ((L.drop 1).map Tok.cells),.v (.bool ins)]++rest) rfl rfl rfl rfl rfl ⟨rfl,by simp⟩ .nil ?_
 repeat'(first|exact .nil|refine .k0 ?_|refine .k1 ?_|refine .k2 ?_|refine .k7 ?_|refine .r1 ?_ ?_|fail)
 all_goals(try simp only[BL]at *)
 simp only[aL,XY,lF]at *
 exact dc (a:=hd L) (by unfold dM;rw[if_neg (fun h=>h hc)]) (hL.tail (by rw[hc];exact hk)).1 (.refl _)
end Go.Proofs.YtbihckigennlhaaGreatDoor
namespace Go.Sx
open Go.RowKit Go.Proofs
section
variable {P:Program}[Glob P]{M:Mem}{w0:Base}{w:World}{σ:Store}
theorem Inv.freeze{t b:Nat}{xs:List AV}(hI:Inv P M w0 ((t,b,.cells xs)::σ) w):∃ (M':Mem) (vs:List Value),M.le M'∧Inv P M' w0 σ w∧RL M' xs vs∧∀ k (h:k<vs.length),M' b k=some vs[k]:=by
 obtain⟨hsz,hn,cs,ty,hh,hR⟩:=hI.st _ (ZU)
 have hnd:=hI.nd
 simp only[ZH,YF]at hnd
 let M':Mem:=fun b' o=>if b'=b then cs[o]? else M b' o
 have hle:M.le M':=fun b' o v h=>by
  have aQ:b'≠b:=fun e=>by rw[e,hn o]at h;cases h
  simp[M',aQ,h]
 refine⟨M',cs.toList,hle,⟨hI.os,hI.tape,hI.output,hI.size,hI.old,fun b' o v h=> ?_,fun e he=>⟨(hI.st e (ZX _ he)).1,?_⟩,hnd.2,fun g l e=>(hI.gl g l e).mono hle,hI.gw,fun b' o v hv aH=>hI.bm b' o v (by have aQ:b'≠b:=(by rintro rfl;simp only at hsz;omega);simpa[M',aQ]using hv) aH⟩,hR.mono hle,fun k h=> ?_⟩
 ·by_cases e:b'=b
  ·subst e
   have h2:cs[o]? =some v:=by simpa[M']using h
   show w.cell? _=_
   simp[World.cell?,hh,h2]
  ·exact hI.dB b' o v (by simpa[M',e]using h)
 ·obtain⟨tg,b2,x⟩:=e
  have hk:=(hI.st _ (ZX _ he)).2
  have aQ:b2≠b:=fun e=>hnd.1 (e ▸ YT (f:=fun x:Nat×Nat×bN=>x.2.1) he)
  cases x with
  |cells l=>obtain⟨h1,cs',t',h2,h3⟩:=hk;exact⟨fun o=>by simp[M',aQ,h1 o],cs',t',h2,h3.mono hle⟩
  |tail u' c=>obtain⟨h1,cs',t',h2,h3⟩:=hk;exact⟨fun o ho=>by simp[M',aQ,h1 o ho],cs',t',h2,h3⟩
  |map es k=>obtain⟨h1,l,h2,h3,h4⟩:=hk;exact⟨fun o=>by simp[M',aQ,h1 o],l,h2,h3,h4.mono hle⟩
 ·have h2:k<cs.size:=by simpa using h
  simp[M',h2]
end
inductive oI(t b:Nat)(xs:List AV):Store→Store→Prop
 |here {σ:Store}:oI t b xs ((t,b,.cells xs)::σ) σ
 |there {e:Nat×Nat×bN} {σ σ':Store} (h:oI t b xs σ σ'):oI t b xs (e::σ) (e::σ')
theorem oI.perm{t b:Nat}{xs:List AV}{σ σ':Store}(h:oI t b xs σ σ'):List.Perm σ ((t,b,.cells xs)::σ'):=by
 induction h with
 |here=>exact .refl _
 |there _ ih=>exact(ih.cons _).trans (.swap _ _ _)
inductive oH(b e:Nat)(rows:List (List AV)):List AV→List AV→Prop
 |nil:oH b e rows [] []
 |same {x:AV} {l l':List AV} (h:oH b e rows l l'):oH b e rows (x::l) (x::l')
 |m {t:Nat} {l l':List AV} (h:oH b e rows l l'):oH b e rows (.ms t b 0 rows.length rows.length::l) (.sl false e rows::l')
theorem Kt{α:Type}{e:Nat}:∀ {rows:List (List α)} (hr:∀ r∈rows,r.length=e) (i:Nat) (hi:i<rows.length) (j:Nat) (hj:j<rows[i].length),rows.flatten[i * e+j]? =some rows[i][j]
 |[],_,i,hi,_,_=>absurd hi (Nat.not_lt_zero _)
 |r::rows,hr,0,hi,j,hj=>by
  simp only[Yn,Nat.zero_mul,Zh,YI]at hj ⊢
  rw[Zk hj,Z6 hj]
 |r::rows,hr,i+1,hi,j,hj=>by
  have h1:r.length=e:=hr r (by simp)
  have cH:i<rows.length:=by simpa using hi
  simp only[Yn,XQ]at hj ⊢
  rw[YR (by rw[h1,Yx];omega),show(i+1) * e+j-r.length=i * e+j by rw[h1,Yx];omega]
  exact Kt (fun r h=>hr r (by simp[h])) i cH j hj
theorem oH.R{M M':Mem}(hM:M.le M'){b e:Nat}{rows:List (List AV)}(hr:∀ r∈rows,r.length=e)(hn:rows.length≤maxLen){vs:List Value}(hR:RL M' rows.flatten vs)(hc:∀ k (h:k<vs.length),M' b k=some vs[k]){l l':List AV}(h:oH b e rows l l'):
  ∀ {us:List Value},RL M l us→RL M' l' us:=by
 induction h with
 |nil=>exact fun hu=>hu.mono hM
 | @same x l l' h ih=>intro us hu;obtain⟨v,iu,rfl,hx,fa⟩:=hu.cN;exact RL.cons (hx.mono hM) (ih fa)
 | @m t l l' h ih=>
  intro us hu
  obtain⟨v,iu,rfl,hx,fa⟩:=hu.cN
  refine RL.cons ?_ (ih fa)
  rw[hx.yK]
  have hlen:rows.flatten.length=rows.length * e:=by
   have:∀ (rows:List (List AV)),(∀ r∈rows,r.length=e)→rows.flatten.length=rows.length * e:=by
    intro rows
    induction rows with
    |nil=>intro _;simp
    |cons r rows ih=>intro h;rw[Yn,Z7,ih (fun r hr=>h r (by simp[hr])),h r (by simp),Z9,Yx];omega
   exact this rows hr
  refine .sl _ _ _ b 0 _ (fun k=>vs.getD k default) (fun i hi=>hr _ (Y0 hi)) (fun k hk=> ?_) (fun i hi j hj=> ?_) (ZI _) hn
  ·have bY:k<vs.length:=by rw[← hR.1,hlen];exact hk
   rw[Zh,hc k bY,Z1,Z6 bY];rfl
  ·have hg:=Kt hr i hi j hj
   obtain⟨h1,h2⟩:=ZN.1 hg
   have h3:i * e+j<vs.length:=by rw[← hR.1];exact h1
   have:=hR.2 _ h1 h3
   rw[h2]at this
   rw[Z1,Z6 h3]
   exact this
end Go.Sx
namespace Go.Proofs.YtbihckigennlhaaGreatDoor
open Go.Sx Go.Proofs
def HR{α:Type}(ins:Bool)(rest:List AV)(r:PR α)(val:α→AV)(b:Nat)(τ:Store)(x:dj)(σ':Store):Prop:=
 nt ins rest r val b τ x σ'∨∃ (l l':List AV) (t bb e:Nat) (rows:List (List AV)) (σ2:Store),x= .ret (.agg l)∧oI t bb rows.flatten σ' σ2∧(∀ r∈rows,r.length=e)∧rows.length≤maxLen∧oH bb e rows l l'∧nt ins rest r val b τ (.ret (.agg l')) σ2
theorem bG.aa1{α:Type}{f:FuncId}{ys:List AV}{ins:Bool}{L:List Tok}{r:PR α}{val:α→AV}(h:∀ (b:Nat) (rest:List AV) (τ:Store),Sx.Spec Tryz.prog f (.lp 1000 b 0::ys) ((1000,b,.cells (bh L ins++rest))::τ) (HR ins rest r val b τ)):bG f ys ins L r val:=by
 refine bG.intro fun b rest τ=> ?_
 intro M w0 w cs hI hR
 refine(h b rest τ M w0 w cs hI hR).mono fun e w' ⟨M',x,σ',hM,hI',hx,hq⟩=> ?_
 rcases hq with hq|⟨l,l',t,bb,e',rows,σ2,e1,hs,hr,hn,hl,hq⟩
 ·exact⟨M',x,σ',hM,hI',hx,hq⟩
 ·subst e1
  obtain⟨M2,vs,sI,bQ,ff,hc⟩:=(hI'.perm hs.perm).freeze
  refine⟨M2,.ret (.agg l'),σ2,hM.trans sI,bQ,?_,hq⟩
  cases e with
  |returned v=>
   have vz:R M' (.agg l) v:=hx
   obtain⟨us,rfl,vy⟩:=vz.vS
   have:=hl.R sI hr hn ff hc vy
   exact R.tA this
  |_=>exact hx.elim
section
variable {cfg:Nat→Nat}{K:ae→Store→Prop}{E:List PanicEntry→Store→Prop}{σ τ:Store}{l:List CI}{d b b':Nat}{xr:XR}{ps:List Prop}{og:Option Bool}{args:List Operand}{ys:List AV}{α β:Type}{f:FuncId}{ins yw:Bool}{L:List Tok}{rest cs:List AV}{r:PR α}{val:α→AV}{r2:PR β}{zN:β→AV}
theorem aP{i t b b':Nat}{x x':bN}{r:Store}(h:Nat.beq i t=false):ct ((i,b',x')::r) t b x=(i,b',x')::ct r t b x:=by
 show(bif Nat.beq i t then _ else _)=_
 rw[h];rfl
theorem bI(h:aA xr none args=some (og,.lp 1000 b 0::ys,ps))(hp:bG f ys ins L r val)(hl:aN σ 1000=some (b',.cells cs))(hb:b=b')(hc:cs=bh L ins++rest)(al:OB ps)
  (he:∀ p c,r= .err p c→r2= .err p c) (hE:∀ ch σ',nt yw rest r2 zN b τ (.cL ch) σ'→E ch σ') (hs:∀ cs',Sub ((1000,b,.cells cs')::τ) (ct σ 1000 b (.cells cs')))
  (k:∀ a L',r= .ok a L'→Gd L'→VX Tryz.prog cfg l K E ((d,.s (val a))::xr) (ct σ 1000 b (.cells (bh L' ins++rest)))):VX Tryz.prog cfg (⟨some d,.call f args,none⟩::l) K E xr σ:=by
 subst hc
 refine ny h hl hb (fun cU=>hp b rest cU) al (fun x cs' hR=> ?_) (fun ch cs' hR=> ?_)
 ·cases hr:r with
  |ok a L'=>rw[hr]at hR;obtain⟨h1,h2,h3⟩:=hR;cases h2;subst h3;exact k a L' hr h1
  |err p c=>rw[hr]at hR;exact absurd hR (by nofun)
 ·cases hr:r with
  |ok a L'=>rw[hr]at hR;exact absurd hR.2.1 (by nofun)
  |err p c=>
   rw[hr]at hR
   refine hE ch _ (oA ?_ (hs cs'))
   rw[he p c hr]
   exact hR
end
theorem Oc(L:List Tok)(hL:Gd L)(ins:Bool):bG 124 [] ins L (.ok (bo L) L) fun n=>iv (n:Nat):=by
 refine bG.intro fun b rest τ=> ?_
 refine Spec.cY (fun _=>0) Tryz.func124 Uy VI (Z8 rfl) ?_
 have hp:=hL.pos
 unfold bh
 repeat'(first|exact .nil|refine .k0 ?_|refine .k1 ?_|refine .k2 ?_|refine .k4 ?_|refine .k6 ?_|refine .k7 ?_|refine .k9 ?_|(refine .cd ?_ ?_<;>(intro hc;first|exact kf hc (by assumption)|skip))|refine .r1 ?_ ?_|(refine .l1 ?_;intro b)|refine .t1 ?_ ?_ ?_|fail)
 try any_goals(exact Zo)
 all_goals(try simp only[BL]at *)
 all_goals first
 |omega
 |(refine dc (a:=bo L) rfl hL (.mS ?_)
   simp only[lF,← Decidable.not_and_iff_not_or_not]at *
   unfold bo
   simp_all [G8,G6,ch,iv, -not_and])
theorem BU(hw:iQ)(L:List Tok)(hL:Gd L)(ins:Bool):bG 110 [] ins L (fh L) sv:=by
 refine bG.intro fun b rest τ=> ?_
 refine Spec.cY (fun _=>0) Tryz.func110 Us VC (Z8 rfl) ?_
 have hp:=hL.pos
 unfold bh
 repeat'(first|exact .nil|refine .k0 ?_|refine .k1 ?_|refine .k2 ?_|refine .k9 ?_|(refine .cd ?_ ?_<;>(intro hc;skip))|refine .r1 ?_ ?_|refine .t1 ?_ ?_ ?_|refine .an rfl (by intro bx;exact vR _) ?_ ?_|fail)
 try any_goals(exact Zo)
 all_goals(try simp only[BL]at *)
 ·refine bI rfl (hw L hL ins) rfl rfl rfl .nil ?_ (fun _ _ h=>aR h) (fun _=>Zs) (fun a L' hr dq=>absurd hr (by nofun))
  exact fun p c h=>by cases h;unfold fh;rw[if_pos (by rw[← lF];exact hc)];rfl
 simp only[lF]at hc
 refine bI rfl (yV hw L hL ins 1 (by decide)) rfl rfl rfl .nil ?_ (fun _ _ h=>aR h) (fun _=>Zs) (fun a L' hr dq=> ?_)
 ·exact fun p c h=>by unfold fh;rw[if_neg (fun h=>h hc),h];rfl
 repeat'(first|exact .nil|refine .k0 ?_|refine .k1 ?_|refine .k7 ?_|refine .r1 ?_ ?_|fail)
 all_goals(try simp only[BL]at *)
 rw[aL]
 exact dc (a:=a.text) (by unfold fh;rw[if_neg (fun h=>h hc),hr];rfl) dq (.refl _)
abbrev gG(x:Ex):AV:= .agg [iv x.kind,sv x.op,sv x.name,sv x.table,iv x.val.kind,iv x.val.n,sv x.val.s,.sl false 2 (x.unit.map aq.cells),iv x.param,iv x.win.kind,iv x.win.size,.sl false 12 (x.args.map Ex.cells)]
def Qe(n:Nat):Prop:=∀ (L:List Tok),Gd L→8 * L.length+7≤n→∀ i,bG 38 [] i L (bD n i L) gG
theorem adZ(hw:iQ)(n:Nat)(hx:Qe n)(L:List Tok)(hL:Gd L)(hn:8 * L.length≤n+1)(i:Bool):bG 195 [] i L (aJf (n+1) i L) gG:=by
 refine bG.intro fun b rest τ=> ?_
 refine Spec.cY (fun _=>0) Tryz.func195 UJ VU (Z8 rfl) ?_
 repeat'(first|exact .nil|refine .k0 ?_|refine .k1 ?_|refine .k2 ?_|refine .r1 ?_ ?_|(refine .l1 ?_;intro b)|fail)
 all_goals(try simp only[BL]at *)
 refine bI rfl (rq hw L hL i (ch 40)) rfl rfl rfl .nil ?_ (fun _ _ h=>aR h) (fun _=>Zs) (fun a L1 aX bj=> ?_)
 ·exact fun p c h=>by unfold aJf;rw[h];rfl
 repeat'(first|exact .nil|refine .k0 ?_|refine .k1 ?_|refine .k2 ?_|refine .r1 ?_ ?_|fail)
 all_goals(try simp only[BL]at *)
 refine bI rfl (hx L1 bj (by have:=((Pos.bU (k:=5) (s:=ch 40) (by decide)) L hL.e).ok a L1 aX;omega) i) rfl rfl rfl .nil ?_ (fun _ _ h=>aR h) (fun _=>Zs) (fun x L2 cJ cy=> ?_)
 ·exact fun p c h=>by unfold aJf;rw[aX,PR.aJ,h];rfl
 simp(decide:=true)only[aL,aP]
 repeat'(first|exact .nil|refine .k0 ?_|refine .k1 ?_|refine .k2 ?_|refine .r1 ?_ ?_|(refine .l1 ?_;intro b)|fail)
 all_goals(try simp only[BL]at *)
 refine bI rfl (rq hw L2 cy i (ch 41)) rfl rfl rfl .nil ?_ (fun _ _ h=>aR h) (fun _=>Zs) (fun y L3 nX nF=> ?_)
 ·exact fun p c h=>by unfold aJf;rw[aX,PR.aJ,cJ,PR.aJ,h];rfl
 simp(decide:=true)only[aL,aP]
 repeat'(first|exact .nil|refine .k0 ?_|refine .k1 ?_|refine .k2 ?_|refine .k7 ?_|refine .r1 ?_ ?_|fail)
 all_goals(try simp only[BL]at *)
 exact dc (a:=x) (by unfold aJf;rw[aX,PR.aJ,cJ,PR.aJ,nX];rfl) nF (.refl _)
end Go.Proofs.YtbihckigennlhaaGreatDoor
