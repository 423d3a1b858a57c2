/- Units: what a list of factors comes to (the words of XCa, XFc and XHd, for seats without the checker). -/
import Derived.Test.YtcccbdelfhgmlaaGreatDoorPt
import Derived.Sort.Defs
import Derived.Test.YtcccbdelfhgmlaaGreatDoorCodeA
import Derived.Test.YtcccbdelfhgmlaaGreatDoorCodeB
import Derived.Lib.AtoiAllCases
import Derived.Test.YtcccbdelfhgmlaaGreatDoorSxMixC
set_option linter.unusedVariables false
namespace Go.Proofs.YtcccbdelfhgmlaaGreatDoor
open Go.Sx Go.Proofs
instance (s:ByteArray)(L:List ByteArray):Decidable (s∈L):= @List.instDecidableMemOfLawfulBEq _ instBEqOfDecidableEq inferInstance s L
def dL(a b:ae):Bool:=Op.bytesLess a.toList b.toList
def ju:List ae→ae→List ae
 |[],s=>[s]
 |a::l,s=>if dL a s=true then a::ju l s else if a=s then a::l else s::a::l
def jT:List ae→List ae
 |[]=>[]
 |s::l=>ju (jT l) s
def ft(l:List ar)(n:ae):Int:=((l.filter fun f=>decide (f.name=n)).map ar.exp).sum
def ig(l:List ar):List ar×Int:=
 let ns:=jT (l.map ar.name)
 if∃ n∈ns,ft l n>8∨ft l n< -8 then([],70)else
 let u:=(ns.map fun n=>(⟨n,ft l n⟩:ar)).filter fun f=>decide (f.exp≠0)
 if u.length>4 then([],2)else(u,0)
structure Tok where
 kind:Int
 text:ae
 at_:Int
deriving DecidableEq,Inhabited
def Tok.cells(t:Tok):List AV:=[iv t.kind,sv t.text,iv t.at_]
abbrev N0:Nat:=1000000
inductive PR(α:Type) where
 |ok (a:α) (L:List Tok)
 |err (at_ code:Int)
def PR.bind{α β:Type}:PR α→(α→List Tok→PR β)→PR β
 | .ok a L,f=>f a L
 | .err p c,_=> .err p c
def PR.map{α β:Type}(r:PR α)(f:α→β):PR β:=r.bind fun a L=> .ok (f a) L
theorem PR.aH{α β:Type}(a:α)(L:List Tok)(f:α→List Tok→PR β):(PR.ok a L).bind f=f a L:=rfl
def hd(L:List Tok):Tok:=L.headD default
def au(k:Int)(s:ae)(L:List Tok):Bool:=decide ((hd L).kind=k) && decide ((hd L).text=s)
def fX{α:Type}(L:List Tok):PR α:= .err (hd L).at_ 90
def kY(k:Int)(s:ae)(L:List Tok):PR Unit:=if au k s L then .ok () L.tail else fX L
abbrev dR:=kY 5
abbrev rC:=kY 1
def eA(k:Int)(L:List Tok):PR Tok:=if(hd L).kind≠k then fX L else .ok (hd L) L.tail
def fR(L:List Tok):PR ae:=if¬Name (hd L).text then fX L else(eA 1 L).map Tok.text
def cD:List UInt8→Nat→Nat
 |[],a=>a
 |b::l,a=>cD l (10 * a+(b.toNat-48))
def vR(s:ae):Int:=cD s.data.toList 0
def pq(s:ae):Int:=
 let a:=s.data.toList.takeWhile fun b=>b != 46
 let b:=(s.data.toList.dropWhile fun b=>b != 46).drop 1
 (cD (a++b) 0:Int) * 10 ^ (6-b.length)
def eZ(L:List Tok):PR Int:=(eA 2 L).map fun t=>vR t.text
def kX{α:Type}(sep:ae)(f:List Tok→PR α):Nat→List Tok→List α→PR (List α)
 |0,L,acc=> .ok acc L
 |n+1,L,acc=>if au 5 sep L then(f L.tail).bind fun a L'=>kX sep f n L' (acc++[a])else .ok acc L
def ic{α:Type}(sep:ae)(f:List Tok→PR α)(L:List Tok):PR (List α):=(f L).bind fun a L'=>kX sep f N0 L' [a]
abbrev ch(n:UInt8):ae:=⟨#[n]⟩
def eE(L:List Tok):PR ar:=(fR L).bind fun n L1=>
 if au 5 (ch 94) L1 then
  if au 5 (ch 45) L1.tail then(eZ L1.tail.tail).map fun k=>⟨n, -(min k 1099511627776)⟩
  else(eZ L1.tail).map fun k=>⟨n,min k 1099511627776⟩
 else .ok ⟨n,1⟩ L1
def jg(L:List Tok):PR (List ar):=
 if au 5 (ch 91) L then(ic (ch 42) eE L.tail).bind fun l L1=>(dR (ch 93) L1).bind fun _ L2=>
  if(ig l).2≠0 then .err (hd L).at_ (ig l).2 else .ok (ig l).1 L2
 else .ok [] L
abbrev axO:ae:=⟨#[98,111,111,108]⟩
abbrev axY:ae:=⟨#[116,101,120,116]⟩
abbrev axW:ae:=⟨#[107,101,121]⟩
abbrev axU:ae:=⟨#[105,110,116]⟩
abbrev axP:ae:=⟨#[100,101,99]⟩
abbrev qq:ae:=⟨#[97,108,108]⟩
abbrev nI:ae:=⟨#[115,108,105,100,105,110,103]⟩
abbrev nJ:ae:=⟨#[116,117,109,98,108,105,110,103]⟩
abbrev rW:ae:=⟨#[115,101,115,115,105,111,110]⟩
abbrev gm:ae:=⟨#[119,104,101,114,101]⟩
abbrev zM:ae:=⟨#[99,111,117,110,116]⟩
abbrev ur:ae:=⟨#[113,117,97,110,116,105,108,101]⟩
abbrev uq:ae:=⟨#[100,101,99,97,121]⟩
abbrev wD:ae:=⟨#[116,114,117,101]⟩
abbrev CP:ae:=⟨#[102,97,108,115,101]⟩
abbrev jy:ae:=⟨#[110,117,108,108]⟩
abbrev ik:ae:=⟨#[111,102]⟩
abbrev fN:ae:=⟨#[105,102]⟩
abbrev kz:ae:=⟨#[116,104,101,110]⟩
abbrev gL:ae:=⟨#[101,108,115,101]⟩
abbrev gS:ae:=⟨#[100,101,102,97,117,108,116]⟩
abbrev da:ae:=⟨#[110,111,116]⟩
abbrev Lw:ae:=⟨#[97,110,100]⟩
abbrev Ly:ae:=⟨#[111,114]⟩
abbrev axX:ae:=⟨#[116,97,98,108,101]⟩
abbrev axT:ae:=⟨#[102,101,97,116,117,114,101]⟩
abbrev axV:ae:=⟨#[107,101,101,112]⟩
def Ev(L:List Tok):PR Ty:=
 if au 1 axO L then .ok ⟨1,[],⟨#[]⟩⟩ L.tail
 else if au 1 axY L then .ok ⟨4,[],⟨#[]⟩⟩ L.tail
 else if au 1 axW L then(fR L.tail).map fun s=>⟨5,[],s⟩
 else if au 1 axU L then(jg L.tail).map fun u=>⟨2,u,⟨#[]⟩⟩
 else(rC axP L).bind fun _ L1=>(jg L1).map fun u=>⟨3,u,⟨#[]⟩⟩
def uw(L:List Tok):PR gu:=
 if au 1 qq L then .ok ⟨1,0⟩ L.tail
 else if au 1 nI L then(eZ L.tail).map fun n=>⟨2,n⟩
 else if au 1 nJ L then(eZ L.tail).map fun n=>⟨3,n⟩
 else(rC rW L).bind fun _ L1=>(eZ L1).map fun n=>⟨4,n⟩
def v0:eP:=⟨0,0,⟨#[]⟩⟩
def w0:gu:=⟨0,0⟩
def ij(n:Int):Ex:= .mk 1 ⟨#[]⟩ ⟨#[]⟩ ⟨#[]⟩ ⟨1,n,⟨#[]⟩⟩ [] 0 w0 []
def lu(op:ae)(x:Ex):Ex:= .mk 6 op ⟨#[]⟩ ⟨#[]⟩ v0 [] 0 w0 [x]
def qG(op:ae)(x y:Ex):Ex:= .mk 7 op ⟨#[]⟩ ⟨#[]⟩ v0 [] 0 w0 [x,y]
def mw(k:Int)(s:ae)(l:List Ex):Ex:= .mk k ⟨#[]⟩ s ⟨#[]⟩ v0 [] 0 w0 l
def jQ(v:eP)(u:List ar)(n:ae):Ex:= .mk 1 ⟨#[]⟩ n ⟨#[]⟩ v u 0 w0 []
def rB(L:List Tok):PR Ex:=(fR L).bind fun n L1=>(eA 4 L1).bind fun t L2=>
 if t.text.size<1∨t.text.size>32∨(32:UInt8)∈t.text.data.toList then .err t.at_ 3 else .ok (jQ ⟨5,0,t.text⟩ [] n) L2
def bH(L:List Tok):Nat:=
 let t:=hd L
 if t.kind=1∧t.text=Ly then 1 else if t.kind=1∧t.text=Lw then 2 else if t.kind≠5 then 0
 else if t.text=⟨#[61,61]⟩∨t.text=⟨#[33,61]⟩∨t.text=ch 60∨t.text=⟨#[60,61]⟩then 4
 else if t.text=ch 43∨t.text=ch 45 then 5
 else if t.text=ch 42∨t.text=ch 47 then 6 else 0
mutual
def bW:Nat→Bool→List Tok→PR Ex
 |0,_,L=>fX L
 |n+1,i,L=>if au 1 fN L then(bW n i L.tail).bind fun a L1=>(rC kz L1).bind fun _ L2=>(bW n i L2).bind fun b L3=>(rC gL L3).bind fun _ L4=>(bW n i L4).bind fun c L5=> .ok (.mk 8 ⟨#[]⟩ ⟨#[]⟩ ⟨#[]⟩ v0 [] 0 w0 [a,b,c]) L5
  else(eC n 1 i L).bind fun x L1=>eM n i x L1
def eM:Nat→Bool→Ex→List Tok→PR Ex
 |0,_,_,L=>fX L
 |n+1,i,x,L=>if au 1 gS L then(eC n 1 i L.tail).bind fun y L1=>eM n i (.mk 9 ⟨#[]⟩ ⟨#[]⟩ ⟨#[]⟩ v0 [] 0 w0 [x,y]) L1 else .ok x L
def eC:Nat→Nat→Bool→List Tok→PR Ex
 |0,_,_,L=>fX L
 |n+1,least,i,L=>(fa n least i L).bind fun x L1=>eN n least (if decide (least≤3) && au 1 da L then 2 else 7) i x L1
def eN:Nat→Nat→Nat→Bool→Ex→List Tok→PR Ex
 |0,_,_,_,_,L=>fX L
 |n+1,least,most,i,x,L=>if bH L≥least∧bH L≠0∧bH L≤most then
   (eC n (bH L+1) i L.tail).bind fun y L1=>eN n least (if bH L=4 then 3 else bH L) i (qG (hd L).text x y) L1
  else .ok x L
def fa:Nat→Nat→Bool→List Tok→PR Ex
 |0,_,_,L=>fX L
 |n+1,least,i,L=>if decide (least≤3) && au 1 da L then(eC n 3 i L.tail).map (lu da)
  else if au 5 (ch 45) L then(fa n 7 i L.tail).map (lu (ch 45))else fU n i L
def fU:Nat→Bool→List Tok→PR Ex
 |0,_,L=>fX L
 |n+1,i,L=>if(hd L).kind=2 then(eZ L).bind fun k L1=>(jg L1).map fun u=>jQ ⟨2,k,⟨#[]⟩⟩ u ⟨#[]⟩
  else if(hd L).kind=3 then(eA 3 L).bind fun t L1=>(jg L1).map fun u=>jQ ⟨3,pq t.text,⟨#[]⟩⟩ u ⟨#[]⟩
  else if(hd L).kind=4 then(eA 4 L).map fun t=>jQ ⟨4,0,t.text⟩ [] ⟨#[]⟩
  else if(hd L).kind=1 then gn n i L
  else if au 5 (ch 64) L then rB L.tail else eR n i L
def eR:Nat→Bool→List Tok→PR Ex
 |0,_,L=>fX L
 |n+1,i,L=>(dR (ch 40) L).bind fun _ L1=>(bW n i L1).bind fun x L2=>(dR (ch 41) L2).map fun _=>x
def gn:Nat→Bool→List Tok→PR Ex
 |0,_,L=>fX L
 |n+1,i,L=>if(hd L).text=wD∨(hd L).text=CP then .ok (ij (if(hd L).text=wD then 1 else 0)) L.tail
  else if(hd L).text=jy then(eR n i L.tail).map (lu jy)
  else if(hd L).text∈lI∧i=false then iw n (hd L).text L.tail
  else(fR L).bind fun s L1=>if i=true then .ok (mw 2 s []) L1
   else if au 1 ik L1 then(eR n i L1.tail).map fun x=>mw 4 s [x]else .ok (mw 3 s []) L1
def iw:Nat→ae→List Tok→PR Ex
 |0,_,L=>fX L
 |n+1,op,L=>(dR (ch 40) L).bind fun _ L1=>(fR L1).bind fun tb L2=>(dR (ch 44) L2).bind fun _ L3=>
  (if op≠zM then(bW n true L3).bind fun x L4=>(dR (ch 44) L4).map fun _=>x else .ok (ij 1) L3).bind fun a L5=>
  (if op=ur∨op=uq then(eZ L5).bind fun k L6=>(dR (ch 44) L6).map fun _=>k else .ok 0 L5).bind fun p L7=>
  (uw L7).bind fun w L8=>(if au 1 gm L8 then bW n true L8.tail else .ok (ij 1) L8).bind fun c L9=>
  (dR (ch 41) L9).map fun _=> .mk 5 op ⟨#[]⟩ tb v0 [] p w [a,c]
end
abbrev Bs:=List UInt8
def aE(b:UInt8):Nat:=
 if b=9∨b=10∨b=13∨b=32 then 1 else if 97≤b.toNat∧b.toNat≤122 then 2 else if 48≤b.toNat∧b.toNat≤57 then 3 else if b=95 then 4
 else if b=34 then 5 else if b=35 then 6 else if b∈([123,125,40,41,91,93,44,58,59,61,60,43,45,42,47,94,64]:Bs)then 7 else if b=33 then 8 else 0
def bz(b:UInt8):Bool:=decide (aE b=3)
def fQ(b:UInt8):Bool:=decide (aE b=2∨aE b=3∨aE b=4)
def aC(p:UInt8→Bool)(s:Bs):Nat:=(s.takeWhile p).length
def kL(s:Bs):Int:=
 let a:=s.takeWhile fun b=>b != 46
 let b:=(s.dropWhile fun b=>b != 46).drop 1
 if b.length>6 then 3 else if cD (a++b) 0 * 10 ^ (6-b.length)>1152921504606846976 then 2 else 0
def nr(s:Bs):Int:=if cD s 0>1152921504606846976 then 2 else 0
def wu(s:Bs):Int:=if s.length>64 then 2 else if∃ c∈s,c.toNat<32∨c.toNat>126∨c=92 then 3 else 0
def aS:Bs→Int×Nat×Int
 |[]=>(-1,1,80)
 |c::r=>
  let k:=aE c
  if k=1 then(0,1,0)
  else if k=6 then(0,aC (fun b=>b != 10) (c::r),0)
  else if k=2 then(1,aC fQ (c::r),if aC fQ (c::r)>24 then 2 else 0)
  else if k=3 then
   let n:=aC bz (c::r);let t:=(c::r).drop n;let m:=aC bz (t.drop 1)
   if t.head? =some 46∧m>0 then(3,n+1+m,kL ((c::r).take (n+1+m)))else(2,n,nr ((c::r).take n))
  else if k=5 then
   let n:=aC (fun b=>b != 34 && b != 10) r
   if(r.drop n).head? =some 34 then(4,n+2,wu (r.take n))else(-1,1,80)
  else if k=7∨k=8 then(if r.head? =some 61∧(c=61∨c=33∨c=60)then(5,2,0)else if c≠33 then(5,1,0)else(-1,1,80))
  else(-1,1,80)
structure dW where
 at_:Int
 code:Int
deriving DecidableEq,Inhabited
def dW.cells(p:dW):List AV:=[iv p.at_,iv p.code]
def dB:Nat→Int→Int→Bs→List Tok×List dW
 |0,at_,_,_=>([⟨6,⟨#[]⟩,at_⟩],[])
 |n+1,at_,dG,s=>
  if s=[]then([⟨6,⟨#[]⟩,at_⟩],[])else
  let p:=aS s
  let rest:=s.drop p.2.1
  if p.1= -1 then
   let q:=dB n (at_+1) at_ (s.drop 1)
   (q.1,if dG≠at_-1∨at_=0 then⟨at_,p.2.2⟩::q.2 else q.2)
  else
   let q:=dB n (at_+p.2.1) dG rest
   if p.2.2≠0 then(q.1,⟨at_,p.2.2⟩::q.2)
   else if p.1=4 then(⟨4,⟨((s.take (p.2.1-1)).drop 1).toArray⟩,at_⟩::q.1,q.2)
   else if p.1≠0 then(⟨p.1,⟨(s.take p.2.1).toArray⟩,at_⟩::q.1,q.2)
   else q
def eU(s:Bs):List Tok×List dW:=let q:=dB s.length 0 (-1) s;(q.1,q.2.take 32)
inductive uE where
 |UU (t:gV)
 |Pn (f:aq)
def Pu(L:List Tok):PR jX:=(fR L).bind fun n L1=>(dR (ch 58) L1).bind fun _ L2=>(Ev L2).map fun t=>⟨n,t⟩
def Kh(L:List Tok):PR (ae×ae):=(fR L).bind fun n L1=>(rC ik L1).bind fun _ L2=>(fR L2).map fun e=>(n,e)
def Pv(L:List Tok):PR (List jX):=
 if au 5 (ch 125) L then .ok [] L.tail else(ic (ch 44) Pu L).bind fun l L1=>(dR (ch 125) L1).map fun _=>l
def R0(L:List Tok):PR Int:=if au 1 axV L then eZ L.tail else .ok 0 L
def UX(L:List Tok):PR gV:=(Kh L).bind fun n L1=>(dR (ch 123) L1).bind fun _ L2=>(Pv L2).bind fun l L3=>
 (R0 L3).bind fun k L4=>(dR (ch 59) L4).map fun _=>⟨n.1,n.2,l,k⟩
def Pq(L:List Tok):PR aq:=(Kh L).bind fun n L1=>(dR (ch 58) L1).bind fun _ L2=>(Ev L2).bind fun t L3=>(dR (ch 61) L3).bind fun _ L4=>
 (bW N0 false L4).bind fun x L5=>(dR (ch 59) L5).map fun _=>⟨n.1,n.2,t,x,0⟩
def JR(L:List Tok):PR uE:=if au 1 axX L then(UX L.tail).map .UU else if au 1 axT L then(Pq L.tail).map .Pn else fX L
def Fv(x:Int):List Tok→List Tok
 |[]=>[]
 |[t]=>[t]
 |t::u::L=>if t.at_<x∨t.kind≠5∨t.text≠ch 59 then Fv x (u::L)else t::u::L
def Nv(x:Int)(L:List Tok):List Tok:=if(Fv x L).length>1 then(Fv x L).tail else Fv x L
def Nh(m:qA):uE→qA
 | .UU t=>⟨m.tables++[t],m.features⟩
 | .Pn f=>⟨m.tables,m.features++[f]⟩
def uv{α:Type}(f:List Tok→PR α)(z:α)(s:Bs):α×Int×Int:=
 if s.length>16384 then(z,0,2)else
 match(eU s).2 with
 |b::_=>(z,b.at_,b.code)
 |[]=>match(f (eU s).1).bind fun a L=>if(hd L).kind≠6 then fX L else .ok a L with
  | .ok a _=>(a,0,0)
  | .err p c=>(z,p,c)
set_option linter.unusedSimpArgs false
set_option linter.unusedSectionVars false
def dj(L:List Tok):Prop:=∃ M e,L=M++[e]∧e.kind=6
theorem dj.ne{L:List Tok}(h:dj L):L≠[]:=by obtain⟨M,e,rfl,_⟩:=h;simp
theorem dj.tail{L:List Tok}(h:dj L)(hk:(hd L).kind≠6):dj L.tail∧L.tail.length<L.length:=by
 obtain⟨M,e,rfl,he⟩:=h
 cases M with
 |nil=>exact absurd he hk
 |cons t M=>exact⟨⟨M,e,rfl,he⟩,by simp⟩
structure Ad{α:Type}(n:Nat)(L:List Tok)(r:PR α):Prop where
 ok:∀ a L',r= .ok a L'→L' <:+ L∧dj L'∧L'.length+n≤L.length
 err:∀ p c,r= .err p c→(∃ t∈L,t.at_=p)∧c≠0
def Pos{α:Type}(n:Nat)(f:List Tok→PR α):Prop:=∀ L,dj L→Ad n L (f L)
section
variable {α β:Type}{n m:Nat}{f g:List Tok→PR α}
theorem Pos.le(h:Pos n f)(hm:m≤n):Pos m f:=fun L hL=>⟨fun a L' e=>by have:=(h L hL).ok a L' e;exact⟨this.1,this.2.1,by omega⟩,(h L hL).err⟩
theorem Pos.pure(a:α):Pos 0 (fun L=>PR.ok a L):=fun L hL=>⟨fun a' L' e=>by cases e;exact⟨List.suffix_refl _,hL,ZR _⟩,fun p c e=>by cases e⟩
theorem xZ{L:List Tok}(h:L≠[]):hd L∈L:=by
 cases L with
 |nil=>exact absurd rfl h
 |cons t L=>exact ZJ
theorem Pos.wrong:Pos n (fX (α:=α)):=fun L hL=>⟨fun a L' e=>(by cases e),fun p c e=>by cases e;exact⟨⟨_,xZ hL.ne,rfl⟩,by decide⟩⟩
theorem Pos.bind{f:List Tok→PR α}{g:α→List Tok→PR β}(hf:Pos n f)(hg:∀ a,Pos m (g a)):Pos (n+m) (fun L=>(f L).bind g):=fun L hL=>by
 cases h:f L with
 |ok a L1=>
  obtain⟨h1,h2,h3⟩:=(hf L hL).ok a L1 h
  refine⟨fun b L' e=> ?_,fun p c e=> ?_⟩
  ·obtain⟨k1,k2,k3⟩:=(hg a L1 h2).ok b L' (by rw[← e];simp only[h,PR.bind])
   exact⟨k1.trans h1,k2,by omega⟩
  ·obtain⟨⟨t,ht,e2⟩,hc⟩:=(hg a L1 h2).err p c (by rw[← e];simp only[h,PR.bind])
   exact⟨⟨t,h1.subset ht,e2⟩,hc⟩
 |err p c=>exact⟨fun b L' e=>(by simp only[h,PR.bind]at e;cases e),fun p' c' e=>by simp only[h,PR.bind]at e;cases e;exact(hf L hL).err p c h⟩
theorem Pos.map{f:List Tok→PR α}{g:α→β}(hf:Pos n f):Pos n (fun L=>(f L).map g):=Pos.bind (m:=0) hf fun a=>Pos.pure (g a)
theorem Pos.ite{c:List Tok→Prop}[∀ L,Decidable (c L)](hf:Pos n f)(hg:Pos n g):Pos n (fun L=>if c L then f L else g L):=fun L hL=>by
 by_cases h:c L
 ·simp only[Z8 h];exact hf L hL
 ·simp only[Z9 h];exact hg L hL
theorem Pos.step{c:List Tok→Prop}[∀ L,Decidable (c L)](hc:∀ L,c L→(hd L).kind≠6)(hf:Pos n f)(hg:Pos m g)(hm:m≤n+1):Pos m (fun L=>if c L then f L.tail else g L):=fun L hL=>by
 by_cases h:c L
 ·simp only[Z8 h]
  obtain⟨h1,h2⟩:=hL.tail (hc L h)
  refine⟨fun a L' e=> ?_,fun p q e=> ?_⟩
  ·obtain⟨k1,k2,k3⟩:=(hf L.tail h1).ok a L' e
   exact⟨k1.trans (XT _),k2,by omega⟩
  ·obtain⟨⟨t,ht,e2⟩,hc⟩:=(hf L.tail h1).err p q e
   exact⟨⟨t,Yg ht,e2⟩,hc⟩
 ·simp only[Z9 h];exact hg L hL
theorem cL{k:Int}{s:ae}(hk:k≠6):∀ L,au k s L=true→(hd L).kind≠6:=fun L h=>by
 unfold au at h
 rw[Z0,Zq]at h
 rw[h.1];exact hk
theorem Pos.ct{k:Int}{s:ae}(hk:k≠6):Pos 1 (kY k s):=Pos.step (n:=0) (cL hk) (Pos.pure ()) Pos.wrong (ZR _)
theorem Pos.tok{k:Int}(hk:k≠6):Pos 1 (eA k):=fun L hL=>by
 unfold eA
 by_cases h:(hd L).kind≠k
 ·rw[Z8 h];exact Pos.wrong L hL
 ·rw[Z9 h]
  have h6:(hd L).kind≠6:=fun e=>hk ((Classical.not_not.1 h).symm.trans e)
  obtain⟨h1,h2⟩:=hL.tail h6
  exact⟨fun a L' e=>by cases e;exact⟨XT _,h1,by omega⟩,fun p c e=>by cases e⟩
theorem Pos.name:Pos 1 fR:=Pos.ite Pos.wrong (Pos.map (Pos.tok (by decide)))
theorem Pos.num:Pos 1 eZ:=Pos.map (Pos.tok (by decide))
theorem Pos.many{sep:ae}{f:List Tok→PR α}(hf:Pos 0 f):∀ n acc,Pos 0 (fun L=>kX sep f n L acc)
 |0,acc=>Pos.pure acc
 |n+1,acc=>Pos.step (n:=0) (cL (by decide)) (Pos.bind (n:=0) (m:=0) hf fun a=>Pos.many hf n (acc++[a])) (Pos.pure acc) (ZH _)
theorem Pos.list{sep:ae}{f:List Tok→PR α}(hf:Pos 1 f):Pos 1 (ic sep f):=Pos.bind (n:=1) (m:=0) hf fun a=>Pos.many (hf.le (ZH _)) N0 [a]
end
theorem Pos.xC:Pos 1 eE:=by
 refine Pos.bind (n:=1) (m:=0) Pos.name fun a=> ?_
 refine Pos.step (n:=0) (cL (by decide)) (Pos.step (n:=0) (cL (by decide)) (Pos.map (Pos.num.le (by omega))) (Pos.map (Pos.num.le (by omega))) (by omega)) (Pos.pure _) (by omega)
theorem Pos.unit:Pos 0 jg:=fun L hL=>by
 unfold jg
 by_cases h:au 5 (ch 91) L=true
 ·rw[Z8 h]
  obtain⟨h1,h2⟩:=hL.tail (cL (by decide) L h)
  have hb:=Pos.bind (n:=1) (m:=1) (Pos.list (sep:=ch 42) Pos.xC) (g:=fun l L1=>(dR (ch 93) L1).bind fun _ L2=>PR.ok l L2) fun l=>Pos.bind (n:=1) (m:=0) (Pos.ct (by decide)) fun _=>Pos.pure l
  have hb:=hb L.tail h1
  cases e1:ic (ch 42) eE L.tail with
  |err p c=>exact⟨fun a L' e=>(by cases e),fun p' c' e=>by cases e;obtain⟨⟨t,ht,e2⟩,hc⟩:=hb.err p c (by simp only[e1,PR.bind]);exact⟨⟨t,Yg ht,e2⟩,hc⟩⟩
  |ok l L1=>
   cases e2:dR (ch 93) L1 with
   |err p c=>exact⟨fun a L' e=>(by simp only[PR.bind,e2]at e;cases e),fun p' c' e=>by simp only[PR.bind,e2]at e;cases e;obtain⟨⟨t,ht,e3⟩,hc⟩:=hb.err p c (by simp only[e1,PR.bind,e2]);exact⟨⟨t,Yg ht,e3⟩,hc⟩⟩
   |ok u L2=>
    obtain⟨k1,k2,k3⟩:=hb.ok l L2 (by simp only[e1,PR.bind,e2])
    simp only[PR.bind,e2]
    split
    ·rename_i hn
     exact⟨fun a L' e=>(by cases e),fun p c e=>by cases e;exact⟨⟨_,xZ hL.ne,rfl⟩,hn⟩⟩
    ·exact⟨fun a L' e=>by cases e;exact⟨k1.trans (XT _),k2,by omega⟩,fun p c e=>by cases e⟩
 ·rw[Z9 h];exact Pos.pure _ L hL
theorem Pos.kind:Pos 1 Ev:=by
 refine Pos.step (n:=0) (cL (by decide)) (Pos.pure _) ?_ (by omega)
 refine Pos.step (n:=0) (cL (by decide)) (Pos.pure _) ?_ (by omega)
 refine Pos.step (n:=0) (cL (by decide)) (Pos.map (Pos.name.le (by omega))) ?_ (by omega)
 refine Pos.step (n:=0) (cL (by decide)) (Pos.map Pos.unit) ?_ (by omega)
 exact Pos.bind (n:=1) (m:=0) (Pos.ct (by decide)) fun _=>Pos.map Pos.unit
theorem Pos.CQ:Pos 1 uw:=by
 refine Pos.step (n:=0) (cL (by decide)) (Pos.pure _) ?_ (by omega)
 refine Pos.step (n:=0) (cL (by decide)) (Pos.map (Pos.num.le (by omega))) ?_ (by omega)
 refine Pos.step (n:=0) (cL (by decide)) (Pos.map (Pos.num.le (by omega))) ?_ (by omega)
 exact Pos.bind (n:=1) (m:=0) (Pos.ct (by decide)) fun _=>Pos.map (Pos.num.le (by omega))
set_option linter.unusedSimpArgs false
theorem yT:∀ L,bH L≠0→(hd L).kind≠6:=fun L h e=>by
 unfold bH at h
 simp only[e]at h
 simp at h
structure Wu(n:Nat):Prop where
 expr:∀ i,Pos 1 (bW n i)
 mQ:∀ i x,Pos 0 (eM n i x)
 bin:∀ l i,Pos 1 (eC n l i)
 ops:∀ l m i x,Pos 0 (eN n l m i x)
 operand:∀ l i,Pos 1 (fa n l i)
 oN:∀ i,Pos 1 (fU n i)
 group:∀ i,Pos 1 (eR n i)
 word:∀ i L,dj L→(hd L).kind≠6→Ad 1 L (gn n i L)
 agg:∀ o,Pos 1 (iw n o)
theorem Pos.U4{α:Type}{k:Int}(hk:k≠6){c:Tok→Prop}[∀ t,Decidable (c t)]{e:Int}(he:e≠0){g:Tok→α}:Pos 1 (fun L=>(eA k L).bind fun t L2=>if c t then .err t.at_ e else .ok (g t) L2):=fun L hL=>by
 by_cases h:(hd L).kind≠k
 ·have h1:eA k L=fX L:=Z8 h
  simp only[h1];exact Pos.wrong (n:=1) L hL
 ·have h1:eA k L= .ok (hd L) L.tail:=Z9 h
  have h6:(hd L).kind≠6:=fun e=>hk ((Classical.not_not.1 h).symm.trans e)
  obtain⟨k1,k2⟩:=hL.tail h6
  simp only[h1,PR.bind]
  by_cases hc:c (hd L)
  ·simp only[Z8 hc];exact⟨fun a L' e=>(by cases e),fun p q e=>by cases e;exact⟨⟨_,xZ hL.ne,rfl⟩,he⟩⟩
  ·simp only[Z9 hc];exact⟨fun a L' e=>by cases e;exact⟨XT _,k1,by omega⟩,fun p q e=>by cases e⟩
theorem Pos.Eu:Pos 1 rB:=(Pos.bind (n:=1) (m:=1) Pos.name fun a=>Pos.U4 (by decide) (by decide)).le (by omega)
theorem mC:∀ n,Wu n
 |0=>by
  refine⟨fun i=> ?_,fun i x=> ?_,fun l i=> ?_,fun l m i x=> ?_,fun l i=> ?_,fun i=> ?_,fun i=> ?_,fun i L hL hk=> ?_,fun o=> ?_⟩
  ·intro L hL;rw[bW];exact Pos.wrong L hL
  ·intro L hL;rw[eM];exact Pos.wrong L hL
  ·intro L hL;rw[eC];exact Pos.wrong L hL
  ·intro L hL;rw[eN];exact Pos.wrong L hL
  ·intro L hL;rw[fa];exact Pos.wrong L hL
  ·intro L hL;rw[fU];exact Pos.wrong L hL
  ·intro L hL;rw[eR];exact Pos.wrong L hL
  ·rw[gn];exact Pos.wrong L hL
  ·intro L hL;rw[iw];exact Pos.wrong L hL
 |n+1=>by
  have ih:=mC n
  refine⟨fun i=> ?_,fun i x=> ?_,fun l i=> ?_,fun l m i x=> ?_,fun l i=> ?_,fun i=> ?_,fun i=> ?_,fun i L hL hk=> ?_,fun o=> ?_⟩
  ·intro L hL;rw[bW]
   exact(Pos.step (n:=0) (m:=1) (c:=fun L=>au 1 fN L=true) (cL (by decide)) (Pos.le (n:=5) (Pos.bind (n:=1) (m:=4) (ih.expr i) fun a=>Pos.bind (n:=1) (m:=3) (Pos.ct (by decide)) fun _=>Pos.bind (n:=1) (m:=2) (ih.expr i) fun b=>Pos.bind (n:=1) (m:=1) (Pos.ct (by decide)) fun _=>Pos.bind (n:=1) (m:=0) (ih.expr i) fun c=>Pos.pure _) (by omega))
    (Pos.bind (n:=1) (m:=0) (ih.bin 1 i) fun x=>ih.mQ i x) (by omega)) L hL
  ·intro L hL;rw[eM]
   exact(Pos.step (n:=0) (m:=0) (c:=fun L=>au 1 gS L=true) (cL (by decide)) (Pos.le (n:=1) (Pos.bind (n:=1) (m:=0) (ih.bin 1 i) fun y=>ih.mQ i _) (by omega)) (Pos.pure x) (by omega)) L hL
  ·intro L hL;rw[eC]
   exact(Pos.bind (n:=1) (m:=0) (ih.operand l i) fun x=>ih.ops l (if decide (l≤3) && au 1 da L then 2 else 7) i x) L hL
  ·intro L hL;rw[eN]
   by_cases h:bH L≥l∧bH L≠0∧bH L≤m
   ·rw[Z8 h]
    obtain⟨h1,h2⟩:=hL.tail (yT L h.2.1)
    have:=(Pos.bind (n:=1) (m:=0) (ih.bin (bH L+1) i) fun y=>ih.ops l (if bH L=4 then 3 else bH L) i (qG (hd L).text x y)) L.tail h1
    exact⟨fun a L' e=>by obtain⟨k1,k2,k3⟩:=this.ok a L' e;exact⟨k1.trans (XT _),k2,by omega⟩,fun p c e=>by obtain⟨⟨t,ht,e2⟩,hc⟩:=this.err p c e;exact⟨⟨t,Yg ht,e2⟩,hc⟩⟩
   ·rw[Z9 h];exact Pos.pure x L hL
  ·intro L hL;rw[fa]
   exact(Pos.step (n:=0) (m:=1) (c:=fun L=>(decide (l≤3) && au 1 da L)=true) (fun L h=>cL (k:=1) (by decide) L (Z0 _ _ ▸ h).2) (Pos.map ((ih.bin 3 i).le (by omega)))
    (Pos.step (n:=0) (m:=1) (c:=fun L=>au 5 (ch 45) L=true) (cL (by decide)) (Pos.map ((ih.operand 7 i).le (by omega))) (ih.oN i) (by omega)) (by omega)) L hL
  ·intro L hL;rw[fU]
   by_cases h2:(hd L).kind=2
   ·rw[Z8 h2];exact(Pos.bind (n:=1) (m:=0) Pos.num fun k=>Pos.map Pos.unit) L hL
   rw[Z9 h2]
   by_cases h3:(hd L).kind=3
   ·rw[Z8 h3];exact(Pos.bind (n:=1) (m:=0) (Pos.tok (by decide)) fun k=>Pos.map Pos.unit) L hL
   rw[Z9 h3]
   by_cases h4:(hd L).kind=4
   ·rw[Z8 h4];exact(Pos.map (Pos.tok (by decide))) L hL
   rw[Z9 h4]
   by_cases h1:(hd L).kind=1
   ·rw[Z8 h1];exact ih.word i L hL (by rw[h1];decide)
   rw[Z9 h1]
   exact(Pos.step (n:=0) (m:=1) (c:=fun L=>au 5 (ch 64) L=true) (cL (by decide)) (Pos.Eu.le (by omega)) (ih.group i) (by omega)) L hL
  ·intro L hL;rw[eR]
   exact(Pos.le (n:=3) (Pos.bind (n:=1) (m:=2) (Pos.ct (by decide)) fun _=>Pos.bind (n:=1) (m:=1) (ih.expr i) fun x=>Pos.map (Pos.ct (by decide))) (by omega)) L hL
  ·rw[gn]
   obtain⟨h1,h2⟩:=hL.tail hk
   have up:∀ {r:PR Ex},Ad 0 L.tail r→Ad 1 L r:=fun {r} h=>⟨fun a L' e=>by obtain⟨k1,k2,k3⟩:=h.ok a L' e;exact⟨k1.trans (XT _),k2,by omega⟩,fun p c e=>by obtain⟨⟨t,ht,e2⟩,hc⟩:=h.err p c e;exact⟨⟨t,Yg ht,e2⟩,hc⟩⟩
   split
   ·exact up (Pos.pure _ L.tail h1)
   split
   ·exact up ((Pos.map ((ih.group i).le (by omega))) L.tail h1)
   split
   ·exact up (((ih.agg _).le (by omega)) L.tail h1)
   ·refine(Pos.bind (n:=1) (m:=0) Pos.name fun s=> ?_) L hL
    by_cases hi:i=true
    ·simp only[Z8 hi];exact Pos.pure _
    ·simp only[Z9 hi]
     exact Pos.step (n:=0) (m:=0) (c:=fun L=>au 1 ik L=true) (cL (by decide)) (Pos.map ((ih.group i).le (by omega))) (Pos.pure _) (by omega)
  ·intro L hL;rw[iw]
   refine(Pos.le (n:=5) (Pos.bind (n:=1) (m:=4) (Pos.ct (by decide)) fun _=>Pos.bind (n:=1) (m:=3) Pos.name fun tb=>Pos.bind (n:=1) (m:=2) (Pos.ct (by decide)) fun _=>Pos.bind (n:=0) (m:=2) ?_ fun a=>Pos.bind (n:=0) (m:=2) ?_ fun p=>Pos.bind (n:=1) (m:=1) Pos.CQ fun w=>Pos.bind (n:=0) (m:=1) ?_ fun c=>Pos.map (Pos.ct (by decide))) (by omega)) L hL
   ·exact Pos.ite (Pos.bind (n:=0) (m:=0) ((ih.expr true).le (by omega)) fun x=>Pos.map ((Pos.ct (by decide)).le (by omega))) (Pos.pure _)
   ·exact Pos.ite (Pos.bind (n:=0) (m:=0) (Pos.num.le (by omega)) fun x=>Pos.map ((Pos.ct (by decide)).le (by omega))) (Pos.pure _)
   ·exact Pos.step (n:=0) (m:=0) (c:=fun L=>au 1 gm L=true) (cL (by decide)) ((ih.expr true).le (by omega)) (Pos.pure _) (by omega)
end Go.Proofs.YtcccbdelfhgmlaaGreatDoor
set_option linter.unusedSimpArgs false
set_option linter.unusedSectionVars false
namespace Go.Sx
open Go.RowKit Go.Proofs
section
variable {P:Program}[Glob P]{cfg:Nat→Nat}{K:ag→Store→Prop}{E:List PanicEntry→Store→Prop}{σ:Store}{l:List CI}{d:Nat}{xr:XR}{ps:List Prop}{og:Option Bool}{args:List Operand}{ys:List AV}
theorem Spec.at{f:FuncId}{t b:Nat}{cs:List AV}{R:dH→List AV→Prop}(h:∀ τ,Spec P f ys ((t,b,.cells cs)::τ) fun r σ'=>∃ cs',R r cs'∧σ'=(t,b,.cells cs')::τ)(hl:aR σ t=some (b,.cells cs)):
  Spec P f ys σ fun r σ'=>∃ cs',R r cs'∧σ'=cM σ t b (.cells cs'):=by
 obtain⟨pre,post,h1,h2⟩:=uk hl
 intro M w0 w vs hI hR
 have hp:σ.Perm ((t,b,.cells cs)::(pre++post)):=by rw[h1];exact Yb
 refine(h (pre++post) M w0 w vs (hI.perm hp) hR).mono fun e w' ⟨M',r,σ',hM,aP,hr,cs',hq,e1⟩=> ?_
 subst e1
 refine⟨M',r,cM σ t b (.cells cs'),hM,?_,hr,cs',hq,rfl⟩
 rw[h2]
 exact aP.perm List.perm_middle.symm
theorem o5{f:FuncId}{t b b':Nat}{cs:List AV}{R:dH→List AV→Prop}(h:aB xr none args=some (og,ys,ps))(hl:aR σ t=some (b',.cells cs))(hb:b=b')(hp:∀ τ,Spec P f ys ((t,b,.cells cs)::τ) fun r σ'=>∃ cs',R r cs'∧σ'=(t,b,.cells cs')::τ)(ak:OB ps)
  (k:∀ x cs',R (.ret x) cs'→VX P cfg l K E ((d,.s x)::xr) (cM σ t b (.cells cs'))) (e:∀ ch cs',R (.dn ch) cs'→E ch (cM σ t b (.cells cs'))):VX P cfg (⟨some d,.call f args,none⟩::l) K E xr σ:=by
 subst hb
 exact uL h (Spec.at hp hl) ak (fun x σ' ⟨cs',hr,e1⟩=>by subst e1;exact k x cs' hr) fun ch σ' ⟨cs',hr,e1⟩=>by subst e1;exact e ch cs' hr
end
theorem bn{P:Program}[Glob P]{N:Nat}{cfg:Nat→Nat}{Q:Exit→ag→Store→Prop}{ch:List PanicEntry}{rg:ag}{σ:Store}:∀ {k:List Fr},Q (.panic ch) rg σ→FK P N cfg Q (.panic ch) k rg σ
 |[],h=>⟨h⟩
 | .seq _::k,h=>⟨(bn (k:=k) h).h⟩
 | .jF _::k,h=>⟨(bn (k:=k) h).h⟩
 | .fn _::k,h=>⟨(bn (k:=k) h).h⟩
end Go.Sx
set_option maxRecDepth 100000
set_option maxHeartbeats 4000000
namespace Go.Proofs.YtcccbdelfhgmlaaGreatDoor
open Go.Sx Go.Proofs
theorem aM(t b:Nat)(k k':cG)(τ:Store):cM ((t,b,k)::τ) t b k'=(t,b,k')::τ:=by simp[cM]
theorem mW(L:List Tok):L.getD 0 default=hd L:=by cases L<;>rfl
def jk(l:List UInt8):Prop:=l≠[]∧∀ c∈l,48≤c.toNat∧c.toNat≤57
structure o0(t:Tok):Prop where
 sz:t.text.size≤16384
 num:t.kind=2→jk t.text.data.toList∧cD t.text.data.toList 0≤1152921504606846976
 dec:t.kind=3→∃ a b:List UInt8,t.text.data.toList=a++46::b∧jk a∧jk b∧b.length≤6∧cD (a++b) 0 * 10 ^ (6-b.length)≤1152921504606846976
structure Gd(L:List Tok):Prop where
 e:dj L
 t:∀ t∈L,o0 t
 n:L.length≤20000
theorem Gd.pos{L:List Tok}(h:Gd L):0<(L.length:Int):=by
 have:=YZ.2 h.e.ne;omega
theorem Gd.tail{L:List Tok}(h:Gd L)(hk:(hd L).kind≠6):Gd L.tail∧L.tail.length<L.length:=
 ⟨⟨(h.e.tail hk).1,fun t ht=>h.t t (Yg ht),by have:=(h.e.tail hk).2;have:=h.n;omega⟩,(h.e.tail hk).2⟩
def bD(L:List Tok)(ins:Bool):List AV:=[.sl false 3 (L.map Tok.cells),.v (.bool ins)]
def uW(p c:Int):Value:= .iface 92 (.agg #[.int .i64 p,.int .i64 c])
def xd{α:Type}(ins:Bool)(rest:List AV)(r:PR α)(val:α→AV):dH→List AV→Prop:=fun x cs'=>match r with
 | .ok a L'=>Gd L'∧x= .ret (val a)∧cs'=bD L' ins++rest
 | .err p c=>x= .dn [{v:=uW p c,recovered:=false}]∧∃ L' i',cs'=bD L' i'++rest
def bU{α:Type}(f:FuncId)(ys:List AV)(ins:Bool)(L:List Tok)(r:PR α)(val:α→AV):Prop:=∀ (b:Nat) (rest:List AV) (τ:Store),Sx.Spec Tryz.prog f (.lp 1000 b 0::ys) ((1000,b,.cells (bD L ins++rest))::τ) fun x σ'=>∃ cs',xd ins rest r val x cs'∧σ'=(1000,b,.cells cs')::τ
def oZ{α:Type}(ins:Bool)(rest:List AV)(r:PR α)(val:α→AV)(b:Nat)(τ:Store)(x:dH)(σ':Store):Prop:=∃ x2 cs',xd ins rest r val x2 cs'∧Sub ((1000,b,.cells cs')::τ) σ'∧(match x,x2 with| .ret x,.ret y=>Wk x y| .dn c,.dn c'=>c=c'|_,_=>False)
theorem bU.intro{α:Type}{f:FuncId}{ys:List AV}{ins:Bool}{L:List Tok}{r:PR α}{val:α→AV}(h:∀ (b:Nat) (rest:List AV) (τ:Store),Sx.Spec Tryz.prog f (.lp 1000 b 0::ys) ((1000,b,.cells (bD L ins++rest))::τ) (oZ ins rest r val b τ)):bU f ys ins L r val:=by
 intro b rest τ
 refine Spec.weak (h b rest τ) fun x σ' ⟨x2,cs',h1,h2,h3⟩=>⟨x2,_,⟨cs',h1,rfl⟩,h2,h3⟩
theorem dE{α:Type}{ins:Bool}{rest:List AV}{r:PR α}{val:α→AV}{a:α}{x:AV}{L':List Tok}{b:Nat}{τ σ':Store}(h:r= .ok a L')(hL:Gd L')(hx:Wk x (val a))(hs:Sub ((1000,b,.cells (bD L' ins++rest))::τ) σ':=by exact Zs):
  oZ ins rest r val b τ (.ret x) σ':=by
 subst h;exact⟨_,_,⟨hL,rfl,rfl⟩,hs,hx⟩
theorem ql{α:Type}{ins:Bool}{rest:List AV}{r:PR α}{val:α→AV}{ch:List PanicEntry}{cs:List AV}{b:Nat}{τ σ':Store}(h:xd ins rest r val (.dn ch) cs)(hs:Sub ((1000,b,.cells cs)::τ) σ':=by exact Zs):oZ ins rest r val b τ (.dn ch) σ':=
 ⟨_,_,h,hs,rfl⟩
theorem TP(L:List Tok)(hL:Gd L)(ins:Bool)(k:Int)(s:ae):bU 75 [iv k,sv s] ins L (.ok (au k s L) L) fun b=> .v (.bool b):=by
 refine bU.intro fun b rest τ=> ?_
 refine Spec.dF (fun _=>0) Tryz.func75 ach adx (Z7 rfl) ?_
 have hp:=hL.pos
 unfold bD
 repeat'(first|exact .nil|refine .k0 ?_|refine .k1 ?_|refine .k2 ?_|refine .k3 ?_|refine .k4 ?_|refine .k7 ?_|refine .r1 ?_ ?_|refine .t1 ?_ ?_ ?_|fail)
 try any_goals(exact Zo)
 all_goals(try simp only[BL]at *)
 ·exact dE rfl hL (.oK (by simp only[mW];rfl))
 all_goals omega
def mE(k:Int)(s:ae)(L:List Tok):PR Bool:=if au k s L then .ok true L.tail else .ok false L
theorem gK(L:List Tok)(hL:Gd L)(ins:Bool)(k:Int)(hk:k≠6)(s:ae):bU 45 [iv k,sv s] ins L (mE k s L) fun b=> .v (.bool b):=by
 refine bU.intro fun b rest τ=> ?_
 refine Spec.dF (fun _=>0) Tryz.func45 acb ads (Z7 rfl) ?_
 have hp:=hL.pos
 repeat'(first|exact .nil|refine .k0 ?_|refine .k1 ?_|refine .k2 ?_|refine .r1 ?_ ?_|fail)
 refine o5 rfl rfl rfl (fun dv=>TP L hL ins k s b rest dv) .nil ?_ (fun ch cs' h=>absurd h.2.1 (by nofun))
 rintro x cs' ⟨h1,h2,h3⟩
 cases h2
 subst h3
 rw[aM]
 unfold bD
 repeat'(first|exact .nil|refine .k0 ?_|refine .k1 ?_|refine .k2 ?_|refine .k7 ?_|refine .k9 ?_|(refine .cd ?_ ?_<;>(intro hc;skip))|refine .r1 ?_ ?_|refine .t3 ?_ ?_ ?_|refine .r8 ?_ ?_|fail)
 try any_goals(exact Zo)
 all_goals(try simp only[BL]at *)
 ·exact dE (a:=false) (by unfold mE;rw[hc];rfl) hL (.refl _)
 refine o7 (cs':=[.sl false 3 ((L.drop 1).map Tok.cells),.v (.bool ins)]++rest) rfl rfl rfl rfl rfl ⟨rfl,by simp⟩ .nil ?_
 rw[aM]
 repeat'(first|exact .nil|refine .k0 ?_|refine .k1 ?_|refine .k2 ?_|refine .k7 ?_|refine .r1 ?_ ?_|fail)
 all_goals(try simp only[BL]at *)
 rw[XL]
 exact dE (a:=true) (by unfold mE;rw[hc];rfl) (hL.tail (cL hk L hc)).1 (.refl _)
def jE:Prop:=∀ (L:List Tok),Gd L→∀ ins,bU 44 [] ins L (fX L:PR Unit) fun _=> .any
theorem LG{ins:Bool}{rest:List AV}{L:List Tok}{α:Type}{val:α→AV}{r:PR α}{x:dH}{cs':List AV}(h:xd ins rest (fX L:PR Unit) (fun _=> .any) x cs')(hr:r=fX L):xd ins rest r val x cs':=by
 subst hr;exact h
theorem tY(hw:jE)(L:List Tok)(hL:Gd L)(ins:Bool)(s:ae):bU 187 [sv s] ins L (dR s L) fun _=> .aT []:=by
 refine bU.intro fun b rest τ=> ?_
 refine Spec.dF (fun _=>0) Tryz.func187 ab4 adn (Z7 rfl) ?_
 repeat'(first|exact .nil|refine .k1 ?_|refine .k2 ?_|refine .r1 ?_ ?_|fail)
 refine o5 rfl rfl rfl (fun dv=>gK L hL ins 5 (by decide) s b rest dv) .nil ?_ (fun ch cs' h=> ?_)
 ·rintro x cs' h
  rw[aM]
  unfold mE at h
  split at h<;>rename_i hs<;>obtain⟨h1,h2,h3⟩:=h<;>cases h2<;>subst h3<;>(repeat'(first|exact .nil|refine .k0 ?_|refine .k1 ?_|refine .k2 ?_|refine .k3 ?_|refine .k9 ?_|(refine .cd ?_ ?_<;>(intro hc;skip))|refine .r1 ?_ ?_|fail))<;>(try(exact absurd hc (by decide)))
  ·exact dE (a:=()) (by show kY _ _ _=_;unfold kY;rw[Z8 hs]) h1 (.refl _)
  ·refine o5 rfl rfl rfl (fun dv=>hw L hL ins b rest dv) .nil (fun x cs' h=>absurd h (by nofun)) (fun ch cs' h=> ?_)
   rw[aM]
   refine bn ?_
   exact ql (LG h (by show kY _ _ _=_;unfold kY;rw[Z9 hs]))
 ·unfold mE at h;split at h<;>exact absurd h.2.1 (by nofun)
theorem KE(hw:jE)(L:List Tok)(hL:Gd L)(ins:Bool)(s:ae):bU 46 [sv s] ins L (rC s L) fun _=> .aT []:=by
 refine bU.intro fun b rest τ=> ?_
 refine Spec.dF (fun _=>0) Tryz.func46 acd adt (Z7 rfl) ?_
 repeat'(first|exact .nil|refine .k1 ?_|refine .k2 ?_|refine .r1 ?_ ?_|fail)
 refine o5 rfl rfl rfl (fun dv=>gK L hL ins 1 (by decide) s b rest dv) .nil ?_ (fun ch cs' h=> ?_)
 ·rintro x cs' h
  rw[aM]
  unfold mE at h
  split at h<;>rename_i hs<;>obtain⟨h1,h2,h3⟩:=h<;>cases h2<;>subst h3<;>(repeat'(first|exact .nil|refine .k0 ?_|refine .k1 ?_|refine .k2 ?_|refine .k3 ?_|refine .k9 ?_|(refine .cd ?_ ?_<;>(intro hc;skip))|refine .r1 ?_ ?_|fail))<;>(try(exact absurd hc (by decide)))
  ·exact dE (a:=()) (by show kY _ _ _=_;unfold kY;rw[Z8 hs]) h1 (.refl _)
  ·refine o5 rfl rfl rfl (fun dv=>hw L hL ins b rest dv) .nil (fun x cs' h=>absurd h (by nofun)) (fun ch cs' h=> ?_)
   rw[aM]
   refine bn ?_
   exact ql (LG h (by show kY _ _ _=_;unfold kY;rw[Z9 hs]))
 ·unfold mE at h;split at h<;>exact absurd h.2.1 (by nofun)
theorem Ci(hw:jE)(L:List Tok)(hL:Gd L)(ins:Bool)(k:Int)(hk:k≠6):bU 150 [iv k] ins L (eA k L) fun t=> .agg t.cells:=by
 refine bU.intro fun b rest τ=> ?_
 refine Spec.dF (fun _=>0) Tryz.func150 abX adg (Z7 rfl) ?_
 have hp:=hL.pos
 unfold bD
 repeat'(first|exact .nil|refine .k0 ?_|refine .k1 ?_|refine .k2 ?_|refine .k9 ?_|(refine .cd ?_ ?_<;>(intro hc;skip))|refine .r1 ?_ ?_|(refine .l1 ?_;intro b)|refine .t1 ?_ ?_ ?_|refine .t3 ?_ ?_ ?_|refine .r8 ?_ ?_|fail)
 try any_goals(exact Zo)
 all_goals(try simp only[BL]at *)
 ·refine o5 (cs:=[.sl false 3 (L.map Tok.cells),.v (.bool ins)]++rest) rfl rfl rfl (fun dv=>hw L hL ins _ rest dv) .nil (fun x cs' h=>absurd h (by nofun)) (fun ch cs' h=> ?_)
  refine bn ?_
  exact ql (LG h (by unfold eA;rw[Z8 (by rw[← mW];exact hc)]))
 refine o7 (cs':=[.sl false 3 ((L.drop 1).map Tok.cells),.v (.bool ins)]++rest) rfl rfl rfl rfl rfl ⟨rfl,by simp⟩ .nil ?_
 repeat'(first|exact .nil|refine .k0 ?_|refine .k1 ?_|refine .k2 ?_|refine .k7 ?_|refine .r1 ?_ ?_|fail)
 all_goals(try simp only[BL]at *)
 simp only[aM,XL,mW]at *
 exact dE (a:=hd L) (by unfold eA;rw[Z9 (fun h=>h hc)]) (hL.tail (by rw[hc];exact hk)).1 (.refl _)
end Go.Proofs.YtcccbdelfhgmlaaGreatDoor
namespace Go.Sx
open Go.RowKit Go.Proofs
section
variable {P:Program}[Glob P]{M:Mem}{w0:Base}{w:World}{σ:Store}
theorem Inv.freeze{t b:Nat}{xs:List AV}(hI:Inv P M w0 ((t,b,.cells xs)::σ) w):∃ (M':Mem) (vs:List Value),M.le M'∧Inv P M' w0 σ w∧RL M' xs vs∧∀ k (h:k<vs.length),M' b k=some vs[k]:=by
 obtain⟨aQ,hn,cs,ty,hh,hR⟩:=hI.st _ (ZJ)
 have hnd:=hI.nd
 simp only[Zu,YG]at hnd
 let M':Mem:=fun b' o=>if b'=b then cs[o]? else M b' o
 have hle:M.le M':=fun b' o v h=>by
  have aJ:b'≠b:=fun e=>by rw[e,hn o]at h;cases h
  simp[M',aJ,h]
 refine⟨M',cs.toList,hle,⟨hI.os,hI.tape,hI.output,hI.size,hI.old,fun b' o v h=> ?_,fun e he=>⟨(hI.st e (ZU _ he)).1,?_⟩,hnd.2,fun g l e=>(hI.gl g l e).mono hle,hI.gw,fun b' o v hv ax=>hI.bm b' o v (by have aJ:b'≠b:=(by rintro rfl;simp only at aQ;omega);simpa[M',aJ]using hv) ax⟩,hR.mono hle,fun k h=> ?_⟩
 ·by_cases e:b'=b
  ·subst e
   have h2:cs[o]? =some v:=by simpa[M']using h
   show w.cell? _=_
   simp[World.cell?,hh,h2]
  ·exact hI.dA b' o v (by simpa[M',e]using h)
 ·obtain⟨tg,b2,x⟩:=e
  have hk:=(hI.st _ (ZU _ he)).2
  have aJ:b2≠b:=fun e=>hnd.1 (e ▸ Yq (f:=fun x:Nat×Nat×cG=>x.2.1) he)
  cases x with
  |cells l=>obtain⟨h1,cs',t',h2,h3⟩:=hk;exact⟨fun o=>by simp[M',aJ,h1 o],cs',t',h2,h3.mono hle⟩
  |tail u' c=>obtain⟨h1,cs',t',h2,h3⟩:=hk;exact⟨fun o ho=>by simp[M',aJ,h1 o ho],cs',t',h2,h3⟩
  |map es k=>obtain⟨h1,l,h2,h3,h4⟩:=hk;exact⟨fun o=>by simp[M',aJ,h1 o],l,h2,h3,h4.mono hle⟩
 ·have h2:k<cs.size:=by simpa using h
  simp[M',h2]
end
inductive qy(t b:Nat)(xs:List AV):Store→Store→Prop
 |here {σ:Store}:qy t b xs ((t,b,.cells xs)::σ) σ
 |there {e:Nat×Nat×cG} {σ σ':Store} (h:qy t b xs σ σ'):qy t b xs (e::σ) (e::σ')
theorem qy.perm{t b:Nat}{xs:List AV}{σ σ':Store}(h:qy t b xs σ σ'):List.Perm σ ((t,b,.cells xs)::σ'):=by
 induction h with
 |here=>exact .refl _
 |there _ ih=>exact(ih.cons _).trans (.swap _ _ _)
inductive qx(b e:Nat)(rows:List (List AV)):List AV→List AV→Prop
 |nil:qx b e rows [] []
 |same {x:AV} {l l':List AV} (h:qx b e rows l l'):qx b e rows (x::l) (x::l')
 |m {t:Nat} {l l':List AV} (h:qx b e rows l l'):qx b e rows (.ms t b 0 rows.length rows.length::l) (.sl false e rows::l')
theorem PC{α:Type}{e:Nat}:∀ {rows:List (List α)} (hr:∀ r∈rows,r.length=e) (i:Nat) (hi:i<rows.length) (j:Nat) (hj:j<rows[i].length),rows.flatten[i * e+j]? =some rows[i][j]
 |[],_,i,hi,_,_=>absurd hi (Nat.not_lt_zero _)
 |r::rows,hr,0,hi,j,hj=>by
  simp only[XG,Nat.zero_mul,Zc,Yo]at hj ⊢
  rw[Y9 hj,Z4 hj]
 |r::rows,hr,i+1,hi,j,hj=>by
  have h1:r.length=e:=hr r (by simp)
  have dk:i<rows.length:=by simpa using hi
  simp only[XG,XH]at hj ⊢
  rw[Yz (by rw[h1,Nat.succ_mul];omega),show(i+1) * e+j-r.length=i * e+j by rw[h1,Nat.succ_mul];omega]
  exact PC (fun r h=>hr r (by simp[h])) i dk j hj
theorem qx.R{M M':Mem}(hM:M.le M'){b e:Nat}{rows:List (List AV)}(hr:∀ r∈rows,r.length=e)(hn:rows.length≤maxLen){vs:List Value}(hR:RL M' rows.flatten vs)(hc:∀ k (h:k<vs.length),M' b k=some vs[k]){l l':List AV}(h:qx b e rows l l'):
  ∀ {us:List Value},RL M l us→RL M' l' us:=by
 induction h with
 |nil=>exact fun hu=>hu.mono hM
 | @same x l l' h ih=>intro us hu;obtain⟨v,jh,rfl,hx,fK⟩:=hu.bS;exact RL.cons (hx.mono hM) (ih fK)
 | @m t l l' h ih=>
  intro us hu
  obtain⟨v,jh,rfl,hx,fK⟩:=hu.bS
  refine RL.cons ?_ (ih fK)
  rw[hx.B6]
  have hlen:rows.flatten.length=rows.length * e:=by
   have:∀ (rows:List (List AV)),(∀ r∈rows,r.length=e)→rows.flatten.length=rows.length * e:=by
    intro rows
    induction rows with
    |nil=>intro _;simp
    |cons r rows ih=>intro h;rw[XG,Z5,ih (fun r hr=>h r (by simp[hr])),h r (by simp),Z6,Nat.succ_mul];omega
   exact this rows hr
  refine .sl _ _ _ b 0 _ (fun k=>vs.getD k default) (fun i hi=>hr _ (Zp hi)) (fun k hk=> ?_) (fun i hi j hj=> ?_) (ZR _) hn
  ·have cC:k<vs.length:=by rw[← hR.1,hlen];exact hk
   rw[Zc,hc k cC,ZY,Z4 cC];rfl
  ·have hg:=PC hr i hi j hj
   obtain⟨h1,h2⟩:=ZP.1 hg
   have h3:i * e+j<vs.length:=by rw[← hR.1];exact h1
   have:=hR.2 _ h1 h3
   rw[h2]at this
   rw[ZY,Z4 h3]
   exact this
end Go.Sx
namespace Go.Proofs.YtcccbdelfhgmlaaGreatDoor
open Go.Sx Go.Proofs
def Mo{α:Type}(ins:Bool)(rest:List AV)(r:PR α)(val:α→AV)(b:Nat)(τ:Store)(x:dH)(σ':Store):Prop:=
 oZ ins rest r val b τ x σ'∨∃ (l l':List AV) (t bb e:Nat) (rows:List (List AV)) (az:Store),x= .ret (.agg l)∧qy t bb rows.flatten σ' az∧(∀ r∈rows,r.length=e)∧rows.length≤maxLen∧qx bb e rows l l'∧oZ ins rest r val b τ (.ret (.agg l')) az
theorem bU.afz{α:Type}{f:FuncId}{ys:List AV}{ins:Bool}{L:List Tok}{r:PR α}{val:α→AV}(h:∀ (b:Nat) (rest:List AV) (τ:Store),Sx.Spec Tryz.prog f (.lp 1000 b 0::ys) ((1000,b,.cells (bD L ins++rest))::τ) (Mo ins rest r val b τ)):bU f ys ins L r val:=by
 refine bU.intro fun b rest τ=> ?_
 intro M w0 w cs hI hR
 refine(h b rest τ M w0 w cs hI hR).mono fun e w' ⟨M',x,σ',hM,aP,hx,hq⟩=> ?_
 rcases hq with hq|⟨l,l',t,bb,e',rows,az,e1,hs,hr,hn,hl,hq⟩
 ·exact⟨M',x,σ',hM,aP,hx,hq⟩
 ·subst e1
  obtain⟨M2,vs,vf,cr,fO,hc⟩:=(aP.perm hs.perm).freeze
  refine⟨M2,.ret (.agg l'),az,hM.trans vf,cr,?_,hq⟩
  cases e with
  |returned v=>
   have mj:R M' (.agg l) v:=hx
   obtain⟨us,rfl,yl⟩:=mj.qd
   have:=hl.R vf hr hn fO hc yl
   exact R.tM this
  |_=>exact hx.elim
section
variable {cfg:Nat→Nat}{K:ag→Store→Prop}{E:List PanicEntry→Store→Prop}{σ τ:Store}{l:List CI}{d b b':Nat}{xr:XR}{ps:List Prop}{og:Option Bool}{args:List Operand}{ys:List AV}{α β:Type}{f:FuncId}{ins BQ:Bool}{L:List Tok}{rest cs:List AV}{r:PR α}{val:α→AV}{r2:PR β}{CK:β→AV}
theorem aZ{i t b b':Nat}{x x':cG}{r:Store}(h:Nat.beq i t=false):cM ((i,b',x')::r) t b x=(i,b',x')::cM r t b x:=by
 show(bif Nat.beq i t then _ else _)=_
 rw[h];rfl
theorem bY(h:aB xr none args=some (og,.lp 1000 b 0::ys,ps))(hp:bU f ys ins L r val)(hl:aR σ 1000=some (b',.cells cs))(hb:b=b')(hc:cs=bD L ins++rest)(ak:OB ps)
  (he:∀ p c,r= .err p c→r2= .err p c) (hE:∀ ch σ',oZ BQ rest r2 CK b τ (.dn ch) σ'→E ch σ') (hs:∀ cs',Sub ((1000,b,.cells cs')::τ) (cM σ 1000 b (.cells cs')))
  (k:∀ a L',r= .ok a L'→Gd L'→VX Tryz.prog cfg l K E ((d,.s (val a))::xr) (cM σ 1000 b (.cells (bD L' ins++rest)))):VX Tryz.prog cfg (⟨some d,.call f args,none⟩::l) K E xr σ:=by
 subst hc
 refine o5 h hl hb (fun dv=>hp b rest dv) ak (fun x cs' hR=> ?_) (fun ch cs' hR=> ?_)
 ·cases hr:r with
  |ok a L'=>rw[hr]at hR;obtain⟨h1,h2,h3⟩:=hR;cases h2;subst h3;exact k a L' hr h1
  |err p c=>rw[hr]at hR;exact absurd hR (by nofun)
 ·cases hr:r with
  |ok a L'=>rw[hr]at hR;exact absurd hR.2.1 (by nofun)
  |err p c=>
   rw[hr]at hR
   refine hE ch _ (ql ?_ (hs cs'))
   rw[he p c hr]
   exact hR
end
theorem TQ(L:List Tok)(hL:Gd L)(ins:Bool):bU 77 [] ins L (.ok (bH L) L) fun n=>iv (n:Nat):=by
 refine bU.intro fun b rest τ=> ?_
 refine Spec.dF (fun _=>0) Tryz.func77 acj adz (Z7 rfl) ?_
 have hp:=hL.pos
 unfold bD
 repeat'(first|exact .nil|refine .k0 ?_|refine .k1 ?_|refine .k2 ?_|refine .k4 ?_|refine .k6 ?_|refine .k7 ?_|refine .k9 ?_|(refine .cd ?_ ?_<;>(intro hc;first|exact kf hc (by assumption)|skip))|refine .r1 ?_ ?_|(refine .l1 ?_;intro b)|refine .t1 ?_ ?_ ?_|fail)
 try any_goals(exact Zo)
 all_goals(try simp only[BL]at *)
 all_goals first
 |omega
 |(refine dE (a:=bH L) rfl hL (.oK ?_)
   simp only[mW,← Decidable.not_and_iff_not_or_not]at *
   unfold bH
   simp_all [Ly,Lw,ch,iv, -not_and])
theorem E7(hw:jE)(L:List Tok)(hL:Gd L)(ins:Bool):bU 186 [] ins L (fR L) sv:=by
 refine bU.intro fun b rest τ=> ?_
 refine Spec.dF (fun _=>0) Tryz.func186 ab3 adm (Z7 rfl) ?_
 have hp:=hL.pos
 unfold bD
 repeat'(first|exact .nil|refine .k0 ?_|refine .k1 ?_|refine .k2 ?_|refine .k9 ?_|(refine .cd ?_ ?_<;>(intro hc;skip))|refine .r1 ?_ ?_|refine .t1 ?_ ?_ ?_|refine .an rfl (by intro br;exact EK _) ?_ ?_|fail)
 try any_goals(exact Zo)
 all_goals(try simp only[BL]at *)
 ·refine bY rfl (hw L hL ins) rfl rfl rfl .nil ?_ (fun _ _ h=>bn h) (fun _=>Zs) (fun a L' hr dM=>absurd hr (by nofun))
  exact fun p c h=>by cases h;unfold fR;rw[Z8 (by rw[← mW];exact hc)];rfl
 simp only[mW]at hc
 refine bY rfl (Ci hw L hL ins 1 (by decide)) rfl rfl rfl .nil ?_ (fun _ _ h=>bn h) (fun _=>Zs) (fun a L' hr dM=> ?_)
 ·exact fun p c h=>by unfold fR;rw[Z9 (fun h=>h hc),h];rfl
 repeat'(first|exact .nil|refine .k0 ?_|refine .k1 ?_|refine .k7 ?_|refine .r1 ?_ ?_|fail)
 all_goals(try simp only[BL]at *)
 rw[aM]
 exact dE (a:=a.text) (by unfold fR;rw[Z9 (fun h=>h hc),hr];rfl) dM (.refl _)
abbrev iC(x:Ex):AV:= .agg [iv x.kind,sv x.op,sv x.name,sv x.table,iv x.val.kind,iv x.val.n,sv x.val.s,.sl false 2 (x.unit.map ar.cells),iv x.param,iv x.win.kind,iv x.win.size,.sl false 12 (x.args.map Ex.cells)]
def V5(n:Nat):Prop:=∀ (L:List Tok),Gd L→8 * L.length+7≤n→∀ i,bU 20 [] i L (bW n i L) iC
theorem ahM(hw:jE)(n:Nat)(hx:V5 n)(L:List Tok)(hL:Gd L)(hn:8 * L.length≤n+1)(i:Bool):bU 153 [] i L (eR (n+1) i L) iC:=by
 refine bU.intro fun b rest τ=> ?_
 refine Spec.dF (fun _=>0) Tryz.func153 ab0 adj (Z7 rfl) ?_
 repeat'(first|exact .nil|refine .k0 ?_|refine .k1 ?_|refine .k2 ?_|refine .r1 ?_ ?_|(refine .l1 ?_;intro b)|fail)
 all_goals(try simp only[BL]at *)
 refine bY rfl (tY hw L hL i (ch 40)) rfl rfl rfl .nil ?_ (fun _ _ h=>bn h) (fun _=>Zs) (fun a L1 bg bE=> ?_)
 ·exact fun p c h=>by unfold eR;rw[h];rfl
 repeat'(first|exact .nil|refine .k0 ?_|refine .k1 ?_|refine .k2 ?_|refine .r1 ?_ ?_|fail)
 all_goals(try simp only[BL]at *)
 refine bY rfl (hx L1 bE (by have:=((Pos.ct (k:=5) (s:=ch 40) (by decide)) L hL.e).ok a L1 bg;omega) i) rfl rfl rfl .nil ?_ (fun _ _ h=>bn h) (fun _=>Zs) (fun x L2 aY cN=> ?_)
 ·exact fun p c h=>by unfold eR;rw[bg,PR.aH,h];rfl
 simp(decide:=true)only[aM,aZ]
 repeat'(first|exact .nil|refine .k0 ?_|refine .k1 ?_|refine .k2 ?_|refine .r1 ?_ ?_|(refine .l1 ?_;intro b)|fail)
 all_goals(try simp only[BL]at *)
 refine bY rfl (tY hw L2 cN i (ch 41)) rfl rfl rfl .nil ?_ (fun _ _ h=>bn h) (fun _=>Zs) (fun y L3 fz pA=> ?_)
 ·exact fun p c h=>by unfold eR;rw[bg,PR.aH,aY,PR.aH,h];rfl
 simp(decide:=true)only[aM,aZ]
 repeat'(first|exact .nil|refine .k0 ?_|refine .k1 ?_|refine .k2 ?_|refine .k7 ?_|refine .r1 ?_ ?_|fail)
 all_goals(try simp only[BL]at *)
 exact dE (a:=x) (by unfold eR;rw[bg,PR.aH,aY,PR.aH,fz];rfl) pA (.refl _)
section
variable {cfg:Nat→Nat}{K:ag→Store→Prop}{E:List PanicEntry→Store→Prop}{σ τ:Store}{l:List CI}{d b b':Nat}{xr:XR}{ps:List Prop}{og:Option Bool}{g:Option (Nat×Bool)}{args:List Operand}{ys zs:List AV}{α β:Type}{f:FuncId}{ins BQ:Bool}{L:List Tok}{rest cs:List AV}{r:PR α}{val:α→AV}{r2:PR β}{CK:β→AV}
theorem MG{P:Program}[Glob P]{R:dH→Store→Prop}(v:AV)(h:aB xr g args=some (og,zs,ps))(hp:og.getD true=true→Sx.Spec P f zs σ R)(ak:OB ps)(k:og.getD true=true→∀ x σ',R (.ret x) σ'→VX P cfg l K E ((d,.s x)::xr) σ')(e:∀ ch σ',R (.dn ch) σ'→E ch σ')
  (k0:og.getD true=false→VX P cfg l K E (bR og d v xr) σ):VX P cfg (⟨some d,.call f args,g⟩::l) K E xr σ:=by
 obtain⟨hc,he⟩:=cz h
 refine iT hc (fun hg=> ?_) (fun hg=> ?_)
 ·simp only[aj,he ak hg]
  exact⟨R,hp hg,fun x σ' hr=>(k hg x σ' hr).h,e⟩
 ·rw[← fB hg (v:=v)];exact(k0 hg).h
theorem Xk(v:AV)(h:aB xr g args=some (og,.lp 1000 b 0::ys,ps))(hp:bU f ys ins L r val)(hl:aR σ 1000=some (b',.cells cs))(hb:b=b')(hc:cs=bD L ins++rest)(ak:OB ps)
  (he:∀ p c,r= .err p c→r2= .err p c) (hE:∀ ch σ',oZ BQ rest r2 CK b τ (.dn ch) σ'→E ch σ') (hs:∀ cs',Sub ((1000,b,.cells cs')::τ) (cM σ 1000 b (.cells cs')))
  (k:og.getD true=true→∀ a L',r= .ok a L'→Gd L'→VX Tryz.prog cfg l K E ((d,.s (val a))::xr) (cM σ 1000 b (.cells (bD L' ins++rest))))
  (k0:og.getD true=false→VX Tryz.prog cfg l K E (bR og d v xr) σ):VX Tryz.prog cfg (⟨some d,.call f args,g⟩::l) K E xr σ:=by
 subst hc
 subst hb
 refine MG v h (fun _=>Spec.at (fun dv=>hp b rest dv) hl) ak (fun hg x σ' ⟨cs',hR,e1⟩=> ?_) (fun ch σ' ⟨cs',hR,e1⟩=> ?_) k0
 ·subst e1
  cases hr:r with
  |ok a L'=>rw[hr]at hR;obtain⟨h1,h2,h3⟩:=hR;cases h2;subst h3;exact k hg a L' hr h1
  |err p c=>rw[hr]at hR;exact absurd hR (by nofun)
 ·subst e1
  cases hr:r with
  |ok a L'=>rw[hr]at hR;exact absurd hR.2.1 (by nofun)
  |err p c=>
   rw[hr]at hR
   refine hE ch _ (ql ?_ (hs cs'))
   rw[he p c hr]
   exact hR
end
structure su(n:Nat):Prop where
 expr:∀ i L,Gd L→8 * L.length+7≤n→bU 20 [] i L (bW n i L) iC
 bin:∀ (l:Nat) i L,Gd L→8 * L.length+6≤n→bU 47 [iv l] i L (eC n l i L) iC
 operand:∀ (l:Nat) i L,Gd L→8 * L.length+5≤n→bU 76 [iv l] i L (fa n l i L) iC
 oN:∀ i L,Gd L→8 * L.length+4≤n→bU 110 [] i L (fU n i L) iC
 group:∀ i L,Gd L→8 * L.length+3≤n→bU 153 [] i L (eR n i L) iC
 word:∀ i L,Gd L→(hd L).kind≠6→8 * L.length+3≤n→bU 151 [] i L (gn n i L) iC
 agg:∀ op L,Gd L→8 * L.length+3≤n→bU 190 [sv op] false L (iw n op L) iC
theorem An{x:Ex}:Wk (.sl true 12 [x.row]) (.sl false 12 ([x].map Ex.cells)):=by
 rw[Ex.j1];exact .sl
theorem kr{k:Int}{s:ae}{L:List Tok}(h:au k s L=true):mE k s L= .ok true L.tail:=by unfold mE;rw[Z8 h]
theorem kq{k:Int}{s:ae}{L:List Tok}(h:¬au k s L=true):mE k s L= .ok false L:=by unfold mE;rw[Z9 h]
theorem qm{k:Int}{s:ae}{L:List Tok}{p c:Int}{α:Prop}(h:mE k s L= .err p c):α:=by
 unfold mE at h;split at h<;>cases h
theorem ahO{n:Nat}(ih:su n)(l:Nat)(i:Bool)(L:List Tok)(hL:Gd L)(hn:8 * L.length+5≤n+1):bU 76 [iv l] i L (fa (n+1) l i L) iC:=by
 refine bU.intro fun b rest τ=> ?_
 refine Spec.dF (fun _=>0) Tryz.func76 aci ady (Z7 rfl) ?_
 rw[fa]
 repeat'(first|exact .nil|refine .k0 ?_|refine .k1 ?_|refine .k2 ?_|refine .k6 ?_|refine .r1 ?_ ?_|(refine .l1 ?_;intro b)|fail)
 all_goals(try simp only[BL]at *)
 refine Xk (.v (.bool false)) rfl (gK L hL i 1 (by decide) da) rfl rfl rfl (.cons (fun h=>h) .nil) (fun _ _ h=>qm h) (fun _ _ h=>bn h) (fun _=>Zs) (fun hg a L1 bg bE=> ?_) (fun hg=> ?_)
 ·have D5:l≤3:=by have:=Yv hg;omega
  simp(decide:=true)only[aM,aZ]
  by_cases hs:au 1 da L=true
  ·rw[kr hs]at bg;cases bg
   have ht:=hL.tail (cL (k:=1) (by decide) L hs)
   rw[Z8 (by simp[D5,hs])]
   (repeat'(first|exact .nil|refine .k0 ?_|refine .k1 ?_|refine .k2 ?_|(refine .cd ?_ ?_<;>(intro hc;skip))|refine .r1 ?_ ?_|fail))<;>(try(exact absurd hc (by simp;omega)))
   refine bY rfl (ih.bin 3 i L.tail ht.1 (by omega)) rfl rfl rfl .nil ?_ (fun _ _ h=>bn h) (fun _=>Zs) (fun x L1 bg bE=> ?_)
   ·exact fun p c h=>by rw[h];rfl
   simp(decide:=true)only[aM,aZ]
   repeat'(first|exact .nil|refine .k0 ?_|refine .k1 ?_|refine .k7 ?_|refine .r1 ?_ ?_|fail)
   ·simp
   refine dE (a:=lu da x) (by rw[bg];rfl) bE ?_
   repeat' first|exact An|exact .refl _|exact .nil|refine .cons ?_ ?_|refine .agg ?_
  ·rw[kq hs]at bg;cases bg
   rw[Z9 (by simp[hs])]
   (repeat'(first|exact .nil|refine .k0 ?_|refine .k1 ?_|refine .k2 ?_|(refine .cd ?_ ?_<;>(intro hc;skip))|refine .r1 ?_ ?_|fail))<;>(try(simp at hc;done))
   refine bY rfl (gK L hL i 5 (by decide) (ch 45)) rfl rfl rfl .nil (fun _ _ h=>qm h) (fun _ _ h=>bn h) (fun _=>Zs) (fun a L1 bg bE=> ?_)
   simp(decide:=true)only[aM,aZ]
   by_cases hm:au 5 (ch 45) L=true
   ·rw[kr hm]at bg;cases bg
    have ht:=hL.tail (cL (k:=5) (by decide) L hm)
    rw[Z8 hm]
    (repeat'(first|exact .nil|refine .k0 ?_|refine .k1 ?_|refine .k2 ?_|(refine .cd ?_ ?_<;>first|with_reducible exact tF|(intro hc;skip))|refine .r1 ?_ ?_|fail))<;>(try(simp at hc;done))
    refine bY rfl (ih.operand 7 i L.tail ht.1 (by omega)) rfl rfl rfl .nil ?_ (fun _ _ h=>bn h) (fun _=>Zs) (fun x L1 bg bE=> ?_)
    ·exact fun p c h=>by rw[h];rfl
    simp(decide:=true)only[aM,aZ]
    repeat'(first|exact .nil|refine .k0 ?_|refine .k1 ?_|refine .k7 ?_|refine .r1 ?_ ?_|fail)
    ·simp
    refine dE (a:=lu (ch 45) x) (by rw[bg];rfl) bE ?_
    repeat' first|exact An|exact .refl _|exact .nil|refine .cons ?_ ?_|refine .agg ?_
   ·rw[kq hm]at bg;cases bg
    rw[Z9 hm]
    (repeat'(first|exact .nil|refine .k0 ?_|refine .k1 ?_|refine .k2 ?_|refine .k9 ?_|(refine .cd ?_ ?_<;>first|with_reducible exact fT|(intro hc;skip))|refine .r1 ?_ ?_|fail))<;>(try(simp at hc;done))
    refine bY rfl (ih.oN i L hL (by omega)) rfl rfl rfl .nil (fun _ _ h=>h) (fun _ _ h=>bn h) (fun _=>Zs) (fun x L1 bg bE=> ?_)
    simp(decide:=true)only[aM,aZ]
    repeat'(first|exact .nil|refine .k0 ?_|refine .k1 ?_|refine .k7 ?_|refine .r1 ?_ ?_|fail)
    exact dE (a:=x) bg bE (.refl _)
 ·have D5:¬l≤3:=by have:=of_decide_eq_false hg;omega
  rw[Z9 (by simp[D5])]
  (repeat'(first|exact .nil|refine .k0 ?_|refine .k1 ?_|refine .k2 ?_|refine .k4 ?_|(refine .cd ?_ ?_<;>(intro hc;skip))|refine .r1 ?_ ?_|fail))<;>(try(simp at hc;done))
  refine bY rfl (gK L hL i 5 (by decide) (ch 45)) rfl rfl rfl .nil (fun _ _ h=>qm h) (fun _ _ h=>bn h) (fun _=>Zs) (fun a L1 bg bE=> ?_)
  simp(decide:=true)only[aM,aZ]
  by_cases hm:au 5 (ch 45) L=true
  ·rw[kr hm]at bg;cases bg
   have ht:=hL.tail (cL (k:=5) (by decide) L hm)
   rw[Z8 hm]
   (repeat'(first|exact .nil|refine .k0 ?_|refine .k1 ?_|refine .k2 ?_|(refine .cd ?_ ?_<;>first|with_reducible exact tF|(intro hc;skip))|refine .r1 ?_ ?_|fail))<;>(try(simp at hc;done))
   refine bY rfl (ih.operand 7 i L.tail ht.1 (by omega)) rfl rfl rfl .nil ?_ (fun _ _ h=>bn h) (fun _=>Zs) (fun x L1 bg bE=> ?_)
   ·exact fun p c h=>by rw[h];rfl
   simp(decide:=true)only[aM,aZ]
   repeat'(first|exact .nil|refine .k0 ?_|refine .k1 ?_|refine .k7 ?_|refine .r1 ?_ ?_|fail)
   ·simp
   refine dE (a:=lu (ch 45) x) (by rw[bg];rfl) bE ?_
   repeat' first|exact An|exact .refl _|exact .nil|refine .cons ?_ ?_|refine .agg ?_
  ·rw[kq hm]at bg;cases bg
   rw[Z9 hm]
   (repeat'(first|exact .nil|refine .k0 ?_|refine .k1 ?_|refine .k2 ?_|refine .k9 ?_|(refine .cd ?_ ?_<;>first|with_reducible exact fT|(intro hc;skip))|refine .r1 ?_ ?_|fail))<;>(try(simp at hc;done))
   refine bY rfl (ih.oN i L hL (by omega)) rfl rfl rfl .nil (fun _ _ h=>h) (fun _ _ h=>bn h) (fun _=>Zs) (fun x L1 bg bE=> ?_)
   simp(decide:=true)only[aM,aZ]
   repeat'(first|exact .nil|refine .k0 ?_|refine .k1 ?_|refine .k7 ?_|refine .r1 ?_ ?_|fail)
   exact dE (a:=x) bg bE (.refl _)
end Go.Proofs.YtcccbdelfhgmlaaGreatDoor
namespace Go.Proofs.YtcccbdelfhgmlaaGreatDoor
open Go.Sx Go.Proofs Go.RowKit
theorem Nw(w:World)(e:TypeId)(s:ByteArray):Below w.heap.size w (Lib.bytesWorld w e s):=by
 exact⟨rfl,rfl,rfl,by rw[Lib.bytesWorld_size];omega,fun j hj=>Lib.bytesWorld_at_old w e s j hj⟩
theorem abf(s:ae)(n:Int)(hl:s.size≤16384)(h:Lib.atoiAll s.data.toList= .ok n):Pure Tryz.prog 139 [sv s] (.aT [iv n,.v .nilIface]):=by
 refine Pure.lj fun M w0 w σ cs hI hR=> ?_
 obtain⟨v1,rfl,h1⟩:=hR.eg
 obtain rfl:=h1.ay
 exact(Tryz.strconv_Atoi_ok s (by omega) n h w).mono fun e w' ⟨he,hw⟩=>⟨⟨_,he,R.EI (cs:=[_,_]) (RL.cons (.v _) (RL.cons (.v _) RL.nil))⟩,by
  rcases hw with rfl|⟨t,rfl⟩
  ·exact Below.refl _ _
  ·exact Nw w 5 t⟩
theorem SH:∀ (l:List UInt8) (a:Nat),a≤cD l a
 |[],a=>ZR _
 |b::l,a=>by
  simp only[cD]
  exact Zk (by omega) (SH l _)
theorem Td:∀ (l:List UInt8) (a:Nat),(∀ c∈l,48≤c.toNat∧c.toNat≤57)→a<18446744073709551616→Lib.parseUint10 a l=if cD l a<18446744073709551616 then .ok (cD l a)else .range
 |[],a,_,ha=>by simp[Lib.parseUint10,cD,ha]
 |b::l,a,h,ha=>by
  have hb:=h b ZJ
  have hg:=SH l (10 * a+(b.toNat-48))
  have e:cD (b::l) a=cD l (10 * a+(b.toNat-48)):=rfl
  rw[e]
  generalize hv:cD l (10 * a+(b.toNat-48))=v at *
  simp only[Lib.parseUint10,Z8 hb]
  by_cases h1:1844674407370955162≤a
  ·rw[Z8 h1,Z9 (by omega)]
  ·rw[Z9 h1]
   by_cases h2:18446744073709551616≤a * 10+(b.toNat-48)
   ·rw[Z8 h2,Z9 (by omega)]
   ·rw[Z9 h2,show a * 10+(b.toNat-48)=10 * a+(b.toNat-48) by omega]
    rw[← hv]
    exact Td l _ (fun c hc=>h c (ZU _ hc)) (by omega)
theorem Nt{l:List UInt8}(h:jk l):Lib.atoiAll l=if cD l 0<9223372036854775808 then .ok (cD l 0:Nat)else .range:=by
 obtain⟨h0,h⟩:=h
 cases l with
 |nil=>exact absurd rfl h0
 |cons b r=>
  have hb:=h b ZJ
  rw[Lib.atoiAll_plain b r (by omega) (by omega),Lib.parseMag,Z9 (by simp),Td _ 0 h (by omega)]
  by_cases h1:cD (b::r) 0<18446744073709551616
  ·rw[Z8 h1]
   simp only[Lib.signless]
   by_cases h2:cD (b::r) 0<9223372036854775808
   ·rw[Z8 h2,Z9 (by omega)]
   ·rw[Z9 h2,Z8 (by omega)]
  ·rw[Z9 h1,Z9 (by omega)];rfl
theorem abg{t:Tok}(h:o0 t)(hk:t.kind=2):Pure Tryz.prog 139 [sv t.text] (.aT [iv (vR t.text),.v .nilIface]):=by
 obtain⟨h1,h2⟩:=h.num hk
 refine abf t.text _ h.sz ?_
 rw[Nt h1,Z8 (by omega)];rfl
theorem yV(hw:jE)(L:List Tok)(hL:Gd L)(ins:Bool):bU 148 [] ins L (eZ L) iv:=by
 refine bU.intro fun b rest τ=> ?_
 refine Spec.dF (fun _=>0) Tryz.func148 abV ade (Z7 rfl) ?_
 repeat'(first|exact .nil|refine .k0 ?_|refine .k1 ?_|refine .k2 ?_|refine .r1 ?_ ?_|fail)
 all_goals(try simp only[BL]at *)
 refine bY rfl (Ci hw L hL ins 2 (by decide)) rfl rfl rfl .nil ?_ (fun _ _ h=>bn h) (fun _=>Zs) (fun a L' hr dM=> ?_)
 ·exact fun p c h=>by unfold eZ;rw[h];rfl
 have gC:o0 a:=by
  unfold eA at hr;split at hr
  ·cases hr
  ·cases hr;exact hL.t _ (xZ hL.e.ne)
 have dt:a.kind=2:=by
  unfold eA at hr;split at hr
  ·cases hr
  ·cases hr;rename_i hh;exact Y3.1 hh
 simp(decide:=true)only[aM,aZ]
 repeat'(first|exact .nil|refine .k0 ?_|refine .k1 ?_|refine .k2 ?_|refine .k7 ?_|refine .r1 ?_ ?_|refine .an rfl (by intro br;exact abg gC dt) ?_ ?_|fail)
 all_goals(try simp only[BL]at *)
 exact dE (a:=vR a.text) (by unfold eZ;rw[hr];rfl) dM (.refl _)
theorem ahW(hw:jE)(L:List Tok)(hL:Gd L)(ins:Bool):bU 213 [] ins L (uw L) fun w=> .agg [iv w.kind,iv w.size]:=by
 refine bU.intro fun b rest τ=> ?_
 refine Spec.dF (fun _=>0) Tryz.func213 ab7 adq (Z7 rfl) ?_
 unfold uw
 repeat'(first|exact .nil|refine .k0 ?_|refine .k1 ?_|refine .k2 ?_|refine .k6 ?_|refine .r1 ?_ ?_|(refine .l1 ?_;intro b)|fail)
 all_goals(try simp only[BL]at *)
 refine bY rfl (gK L hL ins 1 (by decide) qq) rfl rfl rfl .nil (fun _ _ h=>qm h) (fun _ _ h=>bn h) (fun _=>Zs) (fun a L1 hr bE=> ?_)
 simp(decide:=true)only[aM,aZ]
 by_cases h0:au 1 qq L=true
 ·rw[kr h0]at hr;cases hr;rw[Z8 h0]
  (repeat'(first|exact .nil|refine .k0 ?_|refine .k1 ?_|refine .k2 ?_|refine .k7 ?_|(refine .cd ?_ ?_<;>first|with_reducible exact tF|(intro hc;skip))|refine .r1 ?_ ?_|fail))<;>(try(simp at hc;done))
  exact dE (a:=(⟨1,0⟩:gu)) rfl bE (.refl _)
 ·rw[kq h0]at hr;cases hr;rw[Z9 h0]
  (repeat'(first|exact .nil|refine .k0 ?_|refine .k1 ?_|refine .k2 ?_|(refine .cd ?_ ?_<;>first|with_reducible exact fT|(intro hc;skip))|refine .r1 ?_ ?_|fail))<;>(try(simp at hc;done))
  refine bY rfl (gK L hL ins 1 (by decide) nI) rfl rfl rfl .nil (fun _ _ h=>qm h) (fun _ _ h=>bn h) (fun _=>Zs) (fun a L1 hr bE=> ?_)
  simp(decide:=true)only[aM,aZ]
  by_cases h1:au 1 nI L=true
  ·rw[kr h1]at hr;cases hr;rw[Z8 h1]
   (repeat'(first|exact .nil|refine .k0 ?_|refine .k1 ?_|refine .k2 ?_|(refine .cd ?_ ?_<;>first|with_reducible exact tF|(intro hc;skip))|refine .r1 ?_ ?_|fail))<;>(try(simp at hc;done))
   have ht:=hL.tail (cL (k:=1) (by decide) L h1)
   refine bY rfl (yV hw L.tail ht.1 ins) rfl rfl rfl .nil ?_ (fun _ _ h=>bn h) (fun _=>Zs) (fun n L1 hr bE=> ?_)
   ·exact fun p c h=>by rw[h];rfl
   simp(decide:=true)only[aM,aZ]
   repeat'(first|exact .nil|refine .k0 ?_|refine .k1 ?_|refine .k7 ?_|refine .r1 ?_ ?_|fail)
   exact dE (a:=(⟨2,n⟩:gu)) (by rw[hr];rfl) bE (.refl _)
  ·rw[kq h1]at hr;cases hr;rw[Z9 h1]
   (repeat'(first|exact .nil|refine .k0 ?_|refine .k1 ?_|refine .k2 ?_|(refine .cd ?_ ?_<;>first|with_reducible exact fT|(intro hc;skip))|refine .r1 ?_ ?_|fail))<;>(try(simp at hc;done))
   refine bY rfl (gK L hL ins 1 (by decide) nJ) rfl rfl rfl .nil (fun _ _ h=>qm h) (fun _ _ h=>bn h) (fun _=>Zs) (fun a L1 hr bE=> ?_)
   simp(decide:=true)only[aM,aZ]
   by_cases h2:au 1 nJ L=true
   ·rw[kr h2]at hr;cases hr;rw[Z8 h2]
    (repeat'(first|exact .nil|refine .k0 ?_|refine .k1 ?_|refine .k2 ?_|(refine .cd ?_ ?_<;>first|with_reducible exact tF|(intro hc;skip))|refine .r1 ?_ ?_|fail))<;>(try(simp at hc;done))
    have ht:=hL.tail (cL (k:=1) (by decide) L h2)
    refine bY rfl (yV hw L.tail ht.1 ins) rfl rfl rfl .nil ?_ (fun _ _ h=>bn h) (fun _=>Zs) (fun n L1 hr bE=> ?_)
    ·exact fun p c h=>by rw[h];rfl
    simp(decide:=true)only[aM,aZ]
    repeat'(first|exact .nil|refine .k0 ?_|refine .k1 ?_|refine .k7 ?_|refine .r1 ?_ ?_|fail)
    exact dE (a:=(⟨3,n⟩:gu)) (by rw[hr];rfl) bE (.refl _)
   ·rw[kq h2]at hr;cases hr;rw[Z9 h2]
    (repeat'(first|exact .nil|refine .k0 ?_|refine .k1 ?_|refine .k2 ?_|refine .k9 ?_|(refine .cd ?_ ?_<;>first|with_reducible exact fT|(intro hc;skip))|refine .r1 ?_ ?_|fail))<;>(try(simp at hc;done))
    refine bY rfl (KE hw L hL ins rW) rfl rfl rfl .nil ?_ (fun _ _ h=>bn h) (fun _=>Zs) (fun a L1 bg bE=> ?_)
    ·exact fun p c h=>by rw[h];rfl
    simp(decide:=true)only[aM,aZ]
    repeat'(first|exact .nil|refine .k0 ?_|refine .k1 ?_|refine .k2 ?_|refine .r1 ?_ ?_|fail)
    refine bY rfl (yV hw L1 bE ins) rfl rfl rfl .nil ?_ (fun _ _ h=>bn h) (fun _=>Zs) (fun n L2 aY cN=> ?_)
    ·exact fun p c h=>by rw[bg,PR.aH,h];rfl
    simp(decide:=true)only[aM,aZ]
    repeat'(first|exact .nil|refine .k0 ?_|refine .k1 ?_|refine .k7 ?_|refine .r1 ?_ ?_|fail)
    exact dE (a:=(⟨4,n⟩:gu)) (by rw[bg,PR.aH,aY];rfl) cN (.refl _)
end Go.Proofs.YtcccbdelfhgmlaaGreatDoor
namespace Go.Sx
open Go.RowKit Go.Proofs
inductive lH:Store→Store→Prop
 |refl (σ:Store):lH σ σ
 |here {t b:Nat} {l l':List AV} {σ σ':Store} (h:dc l l') (k:lH σ σ'):lH ((t,b,.cells l)::σ) ((t,b,.cells l')::σ')
 |there {e:Nat×Nat×cG} {σ σ':Store} (k:lH σ σ'):lH (e::σ) (e::σ')
 |perm {σ bI σ':Store} (h:σ.Perm bI) (k:lH bI σ'):lH σ σ'
theorem dc.rl{M:Mem}{l l':List AV}(h:dc l l'):∀ {vs:List Value},RL M l vs→RL M l' vs:=by
 induction h with
 |nil=>exact id
 |cons hx _ ih=>intro vs hr;obtain⟨v,jh,rfl,h1,h2⟩:=hr.bS;exact RL.cons (hx M v h1) (ih h2)
theorem lH.at{M:Mem}{w0:Base}{w:World}{σ σ':Store}(h:lH σ σ'):(∀ e∈σ,w0.heap.size≤e.2.1∧BlkOK M w e.2.1 e.2.2)→(∀ e∈σ',w0.heap.size≤e.2.1∧BlkOK M w e.2.1 e.2.2)∧(σ'.map (fun x=>x.2.1)).Perm (σ.map (fun x=>x.2.1)):=by
 induction h with
 |refl=>exact fun hs=>⟨hs,.refl _⟩
 |perm h k ih=>
  intro hs
  obtain⟨h1,h2⟩:=ih fun e he=>hs e (h.mem_iff.2 he)
  exact⟨h1,h2.trans (h.map _).symm⟩
 | @here t b l l' σ σ' h k ih=>
  intro hs
  obtain⟨h1,h2⟩:=ih fun e he=>hs e (ZU _ he)
  refine⟨fun e he=> ?_,.cons _ h2⟩
  rcases ZV.1 he with rfl|he
  ·obtain⟨g1,g2,cs,ty,g3,g4⟩:=hs _ ZJ
   exact⟨g1,g2,cs,ty,g3,h.rl g4⟩
  ·exact h1 e he
 |there k ih=>
  intro hs
  obtain⟨h1,h2⟩:=ih fun e he=>hs e (ZU _ he)
  refine⟨fun e he=> ?_,.cons _ h2⟩
  rcases ZV.1 he with rfl|he
  ·exact hs _ ZJ
  ·exact h1 e he
theorem GC{P:Program}[Glob P]{N:Nat}{cfg:Nat→Nat}{Q:Exit→ag→Store→Prop}{a:AC}{k:List Fr}{rg:ag}{σ σ':Store}(hs:lH σ σ')(h:WK P N cfg Q a k rg σ'):WK P N cfg Q a k rg σ:=by
 refine⟨⟨rfl,?_⟩⟩
 intro cd hcd M w0 a w hI hR hN hD
 obtain⟨h1,h2⟩:=hs.at hI.st
 exact h.h.h cd hcd M w0 a w ⟨hI.os,hI.tape,hI.output,hI.size,hI.old,hI.dA,h1,h2.nodup_iff.2 hI.nd,hI.gl,hI.gw,hI.bm⟩ hR hN hD
def ek(I:ag→Store→Prop)(ks:List Nat)(rg:ag)(σ:Store):Prop:=∃ cQ,iE ks rg=some cQ∧∃ ao bI σ',fm cQ ao∧lH σ bI∧Sub σ' bI∧I ao σ'
theorem ek.intro{I:ag→Store→Prop}{ks:List Nat}{rg cQ ao:ag}{σ σ':Store}(hk:iE ks rg=some cQ)(h:I ao σ')(hw:fm cQ ao:=by exact Zr)(hs:Sub σ' σ:=by exact Zs):ek I ks rg σ:=⟨cQ,hk,ao,σ,σ',hw,.refl _,hs,h⟩
theorem ek.yr{I:ag→Store→Prop}{ks:List Nat}{rg cQ ao:ag}{σ bI σ':Store}(hk:iE ks rg=some cQ)(h:I ao σ')(ht:lH σ bI)(hw:fm cQ ao:=by exact Zr)(hs:Sub σ' bI:=by exact Zs):ek I ks rg σ:=⟨cQ,hk,ao,bI,σ',hw,ht,hs,h⟩
theorem mM{P:Program}[Glob P]{N:Nat}{cfg:Nat→Nat}{Q:Exit→ag→Store→Prop}{a b:AC}{k:List Fr}{rg:ag}{σ:Store}{ks:List Nat}(I:ag→Store→Prop)(h1:WK P N cfg Q a (.fn (ek I ks)::k) rg σ)(h2:∀ rg σ,I rg σ→WK P N cfg Q b k rg σ):WK P N cfg Q (.seq a (.keep ks b)) k rg σ:=by
 refine⟨MJ (h1.h.mono fun e cq az he=> ?_)⟩
 cases e with
 |normal=>
  obtain⟨cQ,hf,ao,bI,σ',hw,ht,hs,hi⟩:=he
  exact(kH hf (GC ht (aaG (h2 _ _ hi) hw hs))).h
 |_=>exact he
end Go.Sx
namespace Go.Proofs.YtcccbdelfhgmlaaGreatDoor
open Go.Sx Go.Proofs
section
variable {cfg:Nat→Nat}{ts ah:List Nat}{K:ag→Store→Prop}{E:List PanicEntry→Store→Prop}{σ τ:Store}{l2:List CD}{d b b':Nat}{xr:XR}{ps:List Prop}{og:Option Bool}{args:List Operand}{ys:List AV}{α β:Type}{f:FuncId}{ins BQ:Bool}{L:List Tok}{rest cs:List AV}{r:PR α}{val:α→AV}{r2:PR β}{CK:β→AV}
theorem aah{P:Program}[Glob P]{R:dH→Store→Prop}(h:aB xr none args=some (og,ys,ps))(hp:Sx.Spec P f ys σ R)(ak:OB ps)(hf:∀ x σ',R (.ret x) σ'→∀ t b l,ts.elem t=false→aR σ t=some (b,.cells l)→aR σ' t=some (b,.cells l))
  (k:∀ x σ',R (.ret x) σ'→VY P cfg ah l2 (Cl K) ((d,.s x)::xr) σ') (e:∀ ch σ',R (.dn ch) σ'→E ch σ'):VY P cfg (ts++ah) [] (sr P cfg ts ah K E d f args l2) xr σ:=by
 obtain⟨hc,he⟩:=cz h
 have cP:og.getD true=true:=by
  unfold aB gX at h
  obtain⟨bC,h',_,_⟩:=fS h
  split at h'<;>cases h';rfl
 refine⟨R,?_,fun x σ' hr=>⟨hf x σ' hr,(k x σ' hr).h⟩,e⟩
 rw[he ak cP];exact hp
theorem Al(hts:ts.elem 1000=true)(h:aB xr none args=some (og,.lp 1000 b 0::ys,ps))(hp:bU f ys ins L r val)(hl:aR σ 1000=some (b',.cells cs))(hb:b=b')(hc:cs=bD L ins++rest)(ak:OB ps)
  (he:∀ p c,r= .err p c→r2= .err p c) (hE:∀ ch σ',oZ BQ rest r2 CK b τ (.dn ch) σ'→E ch σ') (hs:∀ cs',Sub ((1000,b,.cells cs')::τ) (cM σ 1000 b (.cells cs')))
  (k:∀ a L',r= .ok a L'→Gd L'→VY Tryz.prog cfg ah l2 (Cl K) ((d,.s (val a))::xr) (cM σ 1000 b (.cells (bD L' ins++rest)))):VY Tryz.prog cfg (ts++ah) [] (sr Tryz.prog cfg ts ah K E d f args l2) xr σ:=by
 subst hc
 subst hb
 refine aah h (Spec.at (fun dv=>hp b rest dv) hl) ak (fun x σ' ⟨cs',hR,e1⟩ t b2 l ht ax=> ?_) (fun x σ' ⟨cs',hR,e1⟩=> ?_) (fun ch σ' ⟨cs',hR,e1⟩=> ?_)
 ·subst e1
  rw[vP hl,Z9 (fun e=>by subst e;rw[hts]at ht;cases ht)]
  exact ax
 ·subst e1
  cases hr:r with
  |ok a L'=>rw[hr]at hR;obtain⟨h1,h2,h3⟩:=hR;cases h2;subst h3;exact k a L' hr h1
  |err p c=>rw[hr]at hR;exact absurd hR (by nofun)
 ·subst e1
  cases hr:r with
  |ok a L'=>rw[hr]at hR;exact absurd hR.2.1 (by nofun)
  |err p c=>
   rw[hr]at hR
   refine hE ch _ (ql ?_ (hs cs'))
   rw[he p c hr]
   exact hR
theorem Xh{P:Program}[Glob P]{t:TypeId}{af:Nat}{l:List CI}{parts:List Operand}{rows:List (List AV)}(fl:List AV)(n:Nat)(hc:cfg d=2)(h:aB xr none parts=some (og,ys,ps))(hr:rowsOf af ys=some rows)(ak:OB ps)(ia:rows.length=n)(hn:n≤1000000)(hf:rows.flatten=fl)
  (k:∀ b,VX P cfg l K E ((d,.s (.ms d b 0 n n))::xr) ((d,b,.cells fl)::σ)):VX P cfg (⟨some d,.bM t af parts,none⟩::l) K E xr σ:=by
 obtain⟨_,he⟩:=cz h
 have cP:og=none:=by
  unfold aB gX at h
  obtain⟨bC,h',_,_⟩:=fS h
  split at h'<;>cases h';rfl
 subst cP
 subst hf
 subst ia
 constructor
 simp only[fg,dO,aj,he ak rfl,hr,Zx,hc]
 exact⟨hn,fun b=>(k b).h⟩
end
def Mg(L1 L2:List Tok):Prop:=((hd L2).kind=(hd L1).kind∧(hd L2).text=(hd L1).text)∨((hd L1).kind=6∧(hd L1).text=⟨#[]⟩∧(hd L2).kind=5∧(hd L2).text=ch 41)
structure Alike(R:List Tok→List Tok→Prop)(D:List Tok→Prop)(φ:Int→Int)(DE:Int→Prop):Prop where
 head:∀ {L1 L2},R L1 L2→((hd L2).kind=(hd L1).kind∧(hd L2).text=(hd L1).text∧(hd L2).at_=φ (hd L1).at_)∨((hd L1).kind=6∧(hd L1).text=⟨#[]⟩∧(hd L2).kind=5∧(hd L2).text=ch 41∧∀ p,DE p)
 tail:∀ {L1 L2},R L1 L2→(hd L1).kind≠6→D L1.tail∨R L1.tail L2.tail
 dead:∀ {L1 L'},D L1→L' <:+ L1→D L'
 Ox:∀ {L1},D L1→∀ p,DE p
section
variable {R:List Tok→List Tok→Prop}{D:List Tok→Prop}{φ:Int→Int}{DE:Int→Prop}
structure uK(R:List Tok→List Tok→Prop)(D:List Tok→Prop)(φ:Int→Int)(DE:Int→Prop){α:Type}(r1 r2:PR α):Prop where
 ok:∀ a L1,r1= .ok a L1→D L1∨∃ L2,r2= .ok a L2∧R L1 L2
 err:∀ p c,r1= .err p c→DE p∨r2= .err (φ p) c
structure Sm(R:List Tok→List Tok→Prop)(D:List Tok→Prop)(φ:Int→Int)(DE:Int→Prop){α:Type}(n:Nat)(f:List Tok→PR α):Prop where
 pos:Pos n f
 ey:∀ L1 L2,dj L1→R L1 L2→uK R D φ DE (f L1) (f L2)
variable {α β:Type}{n m:Nat}
theorem Alike.heq(H:Alike R D φ DE){L1 L2:List Tok}(h:R L1 L2):Mg L1 L2:=by
 rcases H.head h with⟨h1,h2,_⟩|⟨h1,h2,h3,h4,_⟩
 ·exact .inl ⟨h1,h2⟩
 ·exact .inr ⟨h1,h2,h3,h4⟩
theorem Alike.same(H:Alike R D φ DE){L1 L2:List Tok}(h:R L1 L2)(hk:(hd L1).kind≠6):(hd L2).kind=(hd L1).kind∧(hd L2).text=(hd L1).text∧(hd L2).at_=φ (hd L1).at_:=by
 rcases H.head h with h1|⟨h1,_⟩
 ·exact h1
 ·exact absurd h1 hk
theorem uK.dead(H:Alike R D φ DE){r1 r2:PR α}{L:List Tok}(hD:D L)(hP:Ad n L r1):uK R D φ DE r1 r2:=
 ⟨fun a L1 e=> .inl (H.dead hD (hP.ok a L1 e).1),fun p c e=> .inl (H.Ox hD p)⟩
theorem Sm.le{f:List Tok→PR α}(h:Sm R D φ DE n f)(hm:m≤n):Sm R D φ DE m f:=⟨h.pos.le hm,h.ey⟩
theorem Sm.pure(a:α):Sm R D φ DE 0 (fun L=>PR.ok a L):=⟨Pos.pure a,fun L1 L2 h hR=>⟨fun b L' e=>by cases e;exact .inr ⟨L2,rfl,hR⟩,fun p c e=>by cases e⟩⟩
theorem Sm.wrong(H:Alike R D φ DE):Sm R D φ DE n (fX (α:=α)):=⟨Pos.wrong,fun L1 L2 h hR=>⟨fun b L' e=>(by cases e),fun p c e=>by
 cases e
 rcases H.head hR with⟨_,_,h3⟩|⟨_,_,_,_,h5⟩
 ·exact .inr (by unfold fX;rw[h3])
 ·exact .inl (h5 _)⟩⟩
theorem Sm.bind(H:Alike R D φ DE){f:List Tok→PR α}{g:α→List Tok→PR β}(hf:Sm R D φ DE n f)(hg:∀ a,Sm R D φ DE m (g a)):Sm R D φ DE (n+m) (fun L=>(f L).bind g):=by
 refine⟨Pos.bind hf.pos fun a=>(hg a).pos,fun L1 L2 h hR=> ?_⟩
 have h0:=hf.ey L1 L2 h hR
 have hp:=hf.pos L1 h
 cases e:f L1 with
 |ok a M1=>
  simp only[PR.bind]
  obtain⟨p1,p2,p3⟩:=hp.ok a M1 e
  rcases h0.ok a M1 e with IL|⟨M2,e2,fO⟩
  ·exact uK.dead H IL ((hg a).pos M1 p2)
  ·rw[e2];exact(hg a).ey M1 M2 p2 fO
 |err p c=>
  simp only[PR.bind]
  rcases h0.err p c e with IL|e2
  ·exact⟨fun b L' e=>(by cases e),fun p' c' e=>by cases e;exact .inl IL⟩
  ·rw[e2];exact⟨fun b L' e=>(by cases e),fun p' c' e=>by cases e;exact .inr rfl⟩
theorem Sm.map(H:Alike R D φ DE){f:List Tok→PR α}{g:α→β}(hf:Sm R D φ DE n f):Sm R D φ DE n (fun L=>(f L).map g):=Sm.bind (m:=0) H hf fun a=>Sm.pure (g a)
def wQ{ι:Type}(v:List Tok→ι):Prop:=∀ L1 L2,Mg L1 L2→v L2=v L1
theorem Df{k:Int}{s:ae}(hk:k≠6)(hs:¬(k=5∧s=ch 41)):wQ (au k s):=fun L1 L2 h=>by
 unfold au
 rcases h with⟨h1,h2⟩|⟨h1,h2,h3,h4⟩
 ·rw[h1,h2]
 ·rw[h1,h2,h3,h4,Zn (p:=(6:Int)=k) (fun e=>hk e.symm),Bool.false_and,Bool.and_eq_false_iff]
  by_cases h5:(5:Int)=k
  ·exact .inr (Zn fun e=>hs ⟨h5.symm,e.symm⟩)
  ·exact .inl (Zn h5)
theorem abb:wQ bH:=fun L1 L2 h=>by
 unfold bH
 rcases h with⟨h1,h2⟩|⟨h1,h2,h3,h4⟩
 ·simp only[h1,h2]
 ·simp only[h1,h2,h3,h4];decide
theorem Sm.ite(H:Alike R D φ DE){f g:List Tok→PR α}{c:List Tok→Prop}[∀ L,Decidable (c L)](hc:wQ c)(hf:Sm R D φ DE n f)(hg:Sm R D φ DE n g):Sm R D φ DE n (fun L=>if c L then f L else g L):=
 ⟨Pos.ite hf.pos hg.pos,fun L1 L2 h hR=>by
  have e:=hc L1 L2 (H.heq hR)
  by_cases h1:c L1
  ·simp only[Z8 h1,Z8 (show c L2 by rw[e];exact h1)];exact hf.ey L1 L2 h hR
  ·simp only[Z9 h1,Z9 (show¬c L2 by rw[e];exact h1)];exact hg.ey L1 L2 h hR⟩
theorem Sm.tl(H:Alike R D φ DE){f:List Tok→PR α}(hf:Sm R D φ DE n f){L1 L2:List Tok}(h:dj L1)(hR:R L1 L2)(hk:(hd L1).kind≠6):uK R D φ DE (f L1.tail) (f L2.tail):=by
 have ht:=(h.tail hk).1
 rcases H.tail hR hk with hD|fO
 ·exact uK.dead H hD (hf.pos _ ht)
 ·exact hf.ey _ _ ht fO
theorem Sm.step(H:Alike R D φ DE){f g:List Tok→PR α}{c:List Tok→Prop}[∀ L,Decidable (c L)](hc:wQ c)(hk:∀ L,c L→(hd L).kind≠6)(hf:Sm R D φ DE n f)(hg:Sm R D φ DE m g)(hm:m≤n+1):Sm R D φ DE m (fun L=>if c L then f L.tail else g L):=
 ⟨Pos.step hk hf.pos hg.pos hm,fun L1 L2 h hR=>by
  have e:=hc L1 L2 (H.heq hR)
  by_cases h1:c L1
  ·simp only[Z8 h1,Z8 (show c L2 by rw[e];exact h1)];exact hf.tl H h hR (hk L1 h1)
  ·simp only[Z9 h1,Z9 (show¬c L2 by rw[e];exact h1)];exact hg.ey L1 L2 h hR⟩
theorem abd{k:Int}{s:ae}(hk:k≠6)(hs:¬(k=5∧s=ch 41)):wQ (fun L=>au k s L=true):=fun L1 L2 h=>by simp only[Df hk hs L1 L2 h]
theorem Sm.look(H:Alike R D φ DE){f g:List Tok→PR α}{k:Int}{s:ae}(hk:k≠6∧¬(k=5∧s=ch 41))(hf:Sm R D φ DE n f)(hg:Sm R D φ DE m g)(hm:m≤n+1):Sm R D φ DE m (fun L=>if au k s L=true then f L.tail else g L):=Sm.step H (abd hk.1 hk.2) (cL hk.1) hf hg hm
theorem Sm.ct(H:Alike R D φ DE){k:Int}{s:ae}(hk:k≠6):Sm R D φ DE 1 (kY k s):=⟨Pos.ct hk,fun L1 L2 h hR=>by
 unfold kY
 by_cases hs:au k s L1=true
 ·have h6:=cL hk L1 hs
  obtain⟨e1,e2,_⟩:=H.same hR h6
  have cI:au k s L2=true:=by unfold au at hs ⊢;rw[e1,e2];exact hs
  rw[Z8 hs,Z8 cI];exact(Sm.pure ()).tl H h hR h6
 ·rcases H.head hR with⟨e1,e2,_⟩|⟨_,_,_,_,h5⟩
  ·have cI:¬au k s L2=true:=by unfold au at hs ⊢;rw[e1,e2];exact hs
   rw[Z9 hs,Z9 cI];exact(Sm.wrong (n:=0) H).ey L1 L2 h hR
  ·rw[Z9 hs];exact⟨fun a L' e=>(by cases e),fun p c e=> .inl (h5 p)⟩⟩
theorem Sm.tok(H:Alike R D φ DE){k:Int}(hk:k≠6){c:Tok→Prop}[∀ t,Decidable (c t)]{e:Int}(he:e≠0){g:Tok→α}(hc:∀ t u:Tok,t.text=u.text→(c t↔c u))(hg:∀ t u:Tok,t.text=u.text→g t=g u):Sm R D φ DE 1 (fun L=>(eA k L).bind fun t L2=>if c t then .err t.at_ e else .ok (g t) L2):=
 ⟨Pos.U4 hk he,fun L1 L2 h hR=>by
  by_cases js:(hd L1).kind≠k
  ·have h1:eA k L1=fX L1:=Z8 js
   rcases H.head hR with⟨e1,e2,e3⟩|⟨_,_,_,_,h5⟩
   ·have h2:eA k L2=fX L2:=Z8 (by rw[e1];exact js)
    simp only[h1,h2];exact(Sm.wrong (n:=0) H).ey L1 L2 h hR
   ·simp only[h1];exact⟨fun a L' e=>(by cases e),fun p c e=> .inl (h5 p)⟩
  ·obtain⟨e1,e2,e3⟩:=H.same hR fun e=>hk ((Classical.not_not.1 js).symm.trans e)
   have h1:eA k L1= .ok (hd L1) L1.tail:=Z9 js
   have h2:eA k L2= .ok (hd L2) L2.tail:=Z9 (by rw[e1];exact js)
   have h6:(hd L1).kind≠6:=fun e=>hk ((Classical.not_not.1 js).symm.trans e)
   simp only[h1,h2,PR.bind]
   by_cases DZ:c (hd L1)
   ·rw[Z8 DZ,Z8 ((hc _ _ e2).2 DZ)]
    exact⟨fun a L' e=>(by cases e),fun p q e=>by cases e;exact .inr (by rw[e3])⟩
   ·rw[Z9 DZ,Z9 fun h=>DZ ((hc _ _ e2).1 h),hg _ _ e2]
    exact(Sm.pure (g (hd L1))).tl H h hR h6⟩
theorem Sm.FJ(H:Alike R D φ DE){k:Int}(hk:k≠6){g:Tok→α}(hg:∀ t u:Tok,t.text=u.text→g t=g u):Sm R D φ DE 1 (fun L=>(eA k L).map g):=by
 have:=Sm.tok (c:=fun _=>False) (e:=1) H hk (by decide) (fun _ _ _=>Iff.rfl) hg
 simp only[Zf]at this
 exact this
theorem Sm.name(H:Alike R D φ DE):Sm R D φ DE 1 fR:=Sm.ite H (fun L1 L2 h=>by
 rcases h with⟨h1,h2⟩|⟨h1,h2,h3,h4⟩
 ·simp only[h2]
 ·simp only[h2,h4];decide) (Sm.wrong H) (Sm.FJ H (by decide) fun _ _ h=>h)
theorem Sm.num(H:Alike R D φ DE):Sm R D φ DE 1 eZ:=Sm.FJ H (by decide) fun t u h=>by rw[h]
theorem Sm.many(H:Alike R D φ DE){sep:ae}(hs:sep≠ch 41){f:List Tok→PR α}(hf:Sm R D φ DE 0 f):∀ n acc,Sm R D φ DE 0 (fun L=>kX sep f n L acc)
 |0,acc=>Sm.pure acc
 |n+1,acc=>Sm.look (n:=0) H ⟨by decide,fun h=>hs h.2⟩ (Sm.bind (n:=0) (m:=0) H hf fun a=>Sm.many H hs hf n (acc++[a])) (Sm.pure acc) (ZH _)
theorem Sm.list(H:Alike R D φ DE){sep:ae}(hs:sep≠ch 41){f:List Tok→PR α}(hf:Sm R D φ DE 1 f):Sm R D φ DE 1 (ic sep f):=Sm.bind (n:=1) (m:=0) H hf fun a=>Sm.many H hs (hf.le (ZH _)) N0 [a]
theorem Sm.xC(H:Alike R D φ DE):Sm R D φ DE 1 eE:=by
 refine Sm.bind (n:=1) (m:=0) H (Sm.name H) fun a=> ?_
 refine Sm.look (n:=0) H (by decide) (Sm.look (n:=0) H (by decide) (Sm.map H ((Sm.num H).le (by omega))) (Sm.map H ((Sm.num H).le (by omega))) (by omega)) (Sm.pure _) (by omega)
theorem Sm.unit(H:Alike R D φ DE):Sm R D φ DE 0 jg:=⟨Pos.unit,fun L1 L2 h hR=>by
 have hb:=Sm.bind (n:=1) (m:=1) H (f:=ic (ch 42) eE) (Sm.list H (by decide) (Sm.xC H)) (g:=fun l L1=>(dR (ch 93) L1).bind fun _ L2=>PR.ok l L2) fun l=>Sm.bind (n:=1) (m:=0) H (Sm.ct H (by decide)) fun _=>Sm.pure l
 have es:au 5 (ch 91) L2=au 5 (ch 91) L1:=Df (by decide) (by decide) L1 L2 (H.heq hR)
 unfold jg
 rw[es]
 by_cases hs:au 5 (ch 91) L1=true
 ·rw[Z8 hs,Z8 hs]
  have hk:=cL (k:=5) (by decide) L1 hs
  have ht:=hb.tl H h hR hk
  obtain⟨e1,e2,e3⟩:=H.same hR hk
  have key:∀ L,((ic (ch 42) eE L.tail).bind fun l L1=>(dR (ch 93) L1).bind fun _ L2=>if(ig l).2≠0 then PR.err (hd L).at_ (ig l).2 else .ok (ig l).1 L2)=
    (((ic (ch 42) eE L.tail).bind fun l L1=>(dR (ch 93) L1).bind fun _ L2=>PR.ok l L2).bind fun l L2=>if(ig l).2≠0 then PR.err (hd L).at_ (ig l).2 else .ok (ig l).1 L2):=fun L=>by
   cases ic (ch 42) eE L.tail with
   |err p c=>rfl
   |ok l M=>
    simp only[PR.bind]
    cases dR (ch 93) M with
    |err p c=>rfl
    |ok u M2=>rfl
  rw[key L1,key L2]
  generalize eX:((ic (ch 42) eE L1.tail).bind fun l L1=>(dR (ch 93) L1).bind fun _ L2=>PR.ok l L2)=r1 at ht
  generalize gP:((ic (ch 42) eE L2.tail).bind fun l L1=>(dR (ch 93) L1).bind fun _ L2=>PR.ok l L2)=r2 at ht
  cases r1 with
  |err p c=>
   rcases ht.err p c rfl with hD|e
   ·exact⟨fun b L' e=>(by cases e),fun p' c' e=>by cases e;exact .inl hD⟩
   ·rw[e];exact⟨fun b L' e=>(by cases e),fun p' c' e=>by cases e;exact .inr rfl⟩
  |ok l M1=>
   rcases ht.ok l M1 rfl with hD|⟨M2,e,fO⟩
   ·simp only[PR.bind]
    split
    ·exact⟨fun b L' e=>(by cases e),fun p' c' e=> .inl (H.Ox hD _)⟩
    ·exact⟨fun b L' e=>by cases e;exact .inl hD,fun p' c' e=>(by cases e)⟩
   ·rw[e]
    simp only[PR.bind]
    split
    ·exact⟨fun b L' e=>(by cases e),fun p' c' e=>by cases e;exact .inr (by rw[e3])⟩
    ·exact⟨fun b L' e=>by cases e;exact .inr ⟨M2,rfl,fO⟩,fun p' c' e=>by cases e⟩
 ·rw[Z9 hs,Z9 hs];exact(Sm.pure []).ey L1 L2 h hR⟩
end
section
variable {R:List Tok→List Tok→Prop}{D:List Tok→Prop}{φ:Int→Int}{DE:Int→Prop}
theorem Sm.kind(H:Alike R D φ DE):Sm R D φ DE 1 Ev:=by
 refine Sm.look (n:=0) H (by decide) (Sm.pure _) ?_ (by omega)
 refine Sm.look (n:=0) H (by decide) (Sm.pure _) ?_ (by omega)
 refine Sm.look (n:=0) H (by decide) (Sm.map H ((Sm.name H).le (by omega))) ?_ (by omega)
 refine Sm.look (n:=0) H (by decide) (Sm.map H (Sm.unit H)) ?_ (by omega)
 exact Sm.bind (n:=1) (m:=0) H (Sm.ct H (by decide)) fun _=>Sm.map H (Sm.unit H)
theorem Sm.CQ(H:Alike R D φ DE):Sm R D φ DE 1 uw:=by
 refine Sm.look (n:=0) H (by decide) (Sm.pure _) ?_ (by omega)
 refine Sm.look (n:=0) H (by decide) (Sm.map H ((Sm.num H).le (by omega))) ?_ (by omega)
 refine Sm.look (n:=0) H (by decide) (Sm.map H ((Sm.num H).le (by omega))) ?_ (by omega)
 exact Sm.bind (n:=1) (m:=0) H (Sm.ct H (by decide)) fun _=>Sm.map H ((Sm.num H).le (by omega))
theorem Sm.Eu(H:Alike R D φ DE):Sm R D φ DE 1 rB:=(Sm.bind (n:=1) (m:=1) H (Sm.name H) fun a=>Sm.tok H (by decide) (by decide) (fun t u h=>by rw[h]) fun t u h=>by rw[h]).le (by omega)
theorem Nr{p:Prop}:wQ (fun _=>p):=fun L1 L2 h=>rfl
structure WR(R:List Tok→List Tok→Prop)(D:List Tok→Prop)(φ:Int→Int)(DE:Int→Prop)(n:Nat):Prop where
 expr:∀ i,Sm R D φ DE 1 (bW n i)
 mQ:∀ i x,Sm R D φ DE 0 (eM n i x)
 bin:∀ l i,Sm R D φ DE 1 (eC n l i)
 ops:∀ l m i x,Sm R D φ DE 0 (eN n l m i x)
 operand:∀ l i,Sm R D φ DE 1 (fa n l i)
 oN:∀ i,Sm R D φ DE 1 (fU n i)
 group:∀ i,Sm R D φ DE 1 (eR n i)
 word:∀ i L1 L2,dj L1→R L1 L2→(hd L1).kind≠6→uK R D φ DE (gn n i L1) (gn n i L2)
 agg:∀ o,Sm R D φ DE 1 (iw n o)
theorem Uu(H:Alike R D φ DE):∀ n,WR R D φ DE n
 |0=>by
  have hp:=mC 0
  refine⟨fun i=>⟨hp.expr i,?_⟩,fun i x=>⟨hp.mQ i x,?_⟩,fun l i=>⟨hp.bin l i,?_⟩,fun l m i x=>⟨hp.ops l m i x,?_⟩,fun l i=>⟨hp.operand l i,?_⟩,fun i=>⟨hp.oN i,?_⟩,fun i=>⟨hp.group i,?_⟩,fun i L1 L2 hL hR hk=> ?_,fun o=>⟨hp.agg o,?_⟩⟩
  ·intro L1 L2 hL hR;rw[bW,bW];exact(Sm.wrong (n:=0) H).ey L1 L2 hL hR
  ·intro L1 L2 hL hR;rw[eM,eM];exact(Sm.wrong (n:=0) H).ey L1 L2 hL hR
  ·intro L1 L2 hL hR;rw[eC,eC];exact(Sm.wrong (n:=0) H).ey L1 L2 hL hR
  ·intro L1 L2 hL hR;rw[eN,eN];exact(Sm.wrong (n:=0) H).ey L1 L2 hL hR
  ·intro L1 L2 hL hR;rw[fa,fa];exact(Sm.wrong (n:=0) H).ey L1 L2 hL hR
  ·intro L1 L2 hL hR;rw[fU,fU];exact(Sm.wrong (n:=0) H).ey L1 L2 hL hR
  ·intro L1 L2 hL hR;rw[eR,eR];exact(Sm.wrong (n:=0) H).ey L1 L2 hL hR
  ·rw[gn,gn];exact(Sm.wrong (n:=0) H).ey L1 L2 hL hR
  ·intro L1 L2 hL hR;rw[iw,iw];exact(Sm.wrong (n:=0) H).ey L1 L2 hL hR
 |n+1=>by
  have hp:=mC (n+1)
  have ih:=Uu H n
  refine⟨fun i=>⟨hp.expr i,?_⟩,fun i x=>⟨hp.mQ i x,?_⟩,fun l i=>⟨hp.bin l i,?_⟩,fun l m i x=>⟨hp.ops l m i x,?_⟩,fun l i=>⟨hp.operand l i,?_⟩,fun i=>⟨hp.oN i,?_⟩,fun i=>⟨hp.group i,?_⟩,fun i L1 L2 hL hR hk=> ?_,fun o=>⟨hp.agg o,?_⟩⟩
  ·intro L1 L2 hL hR;rw[bW,bW]
   exact(Sm.look (n:=0) (m:=1) H (by decide) (Sm.le (n:=5) (Sm.bind (n:=1) (m:=4) H (ih.expr i) fun a=>Sm.bind (n:=1) (m:=3) H (Sm.ct H (by decide)) fun _=>Sm.bind (n:=1) (m:=2) H (ih.expr i) fun b=>Sm.bind (n:=1) (m:=1) H (Sm.ct H (by decide)) fun _=>Sm.bind (n:=1) (m:=0) H (ih.expr i) fun c=>Sm.pure _) (by omega))
    (Sm.bind (n:=1) (m:=0) H (ih.bin 1 i) fun x=>ih.mQ i x) (by omega)).ey L1 L2 hL hR
  ·intro L1 L2 hL hR;rw[eM,eM]
   exact(Sm.look (n:=0) (m:=0) H (by decide) (Sm.le (n:=1) (Sm.bind (n:=1) (m:=0) H (ih.bin 1 i) fun y=>ih.mQ i _) (by omega)) (Sm.pure x) (by omega)).ey L1 L2 hL hR
  ·intro L1 L2 hL hR;rw[eC,eC]
   rw[Df (k:=1) (s:=da) (by decide) (by decide) L1 L2 (H.heq hR)]
   exact(Sm.bind (n:=1) (m:=0) H (ih.operand l i) fun x=>ih.ops l (if decide (l≤3) && au 1 da L1 then 2 else 7) i x).ey L1 L2 hL hR
  ·intro L1 L2 hL hR;rw[eN,eN]
   rw[abb L1 L2 (H.heq hR)]
   by_cases h:bH L1≥l∧bH L1≠0∧bH L1≤m
   ·rw[Z8 h,Z8 h,(H.same hR (yT L1 h.2.1)).2.1]
    exact(Sm.bind (n:=1) (m:=0) H (ih.bin (bH L1+1) i) fun y=>ih.ops l (if bH L1=4 then 3 else bH L1) i (qG (hd L1).text x y)).tl H hL hR (yT L1 h.2.1)
   ·rw[Z9 h,Z9 h];exact(Sm.pure x).ey L1 L2 hL hR
  ·intro L1 L2 hL hR;rw[fa,fa]
   exact(Sm.step (n:=0) (m:=1) (c:=fun L=>(decide (l≤3) && au 1 da L)=true) H (fun L1 L2 h=>by simp only[Df (k:=1) (s:=da) (by decide) (by decide) L1 L2 h]) (fun L h=>cL (k:=1) (by decide) L (Z0 _ _ ▸ h).2) (Sm.map H ((ih.bin 3 i).le (by omega)))
    (Sm.look (n:=0) (m:=1) H (by decide) (Sm.map H ((ih.operand 7 i).le (by omega))) (ih.oN i) (by omega)) (by omega)).ey L1 L2 hL hR
  ·intro L1 L2 hL hR
   rcases H.head hR with⟨e0,_⟩|⟨c1,_,c3,c4,c5⟩
   rotate_left
   ·have q1:∀ L:List Tok,(hd L).kind≠2→(hd L).kind≠3→(hd L).kind≠4→(hd L).kind≠1→fU (n+1) i L=if au 5 (ch 64) L=true then rB L.tail else eR n i L:=fun L a b c d=>by rw[fU,Z9 a,Z9 b,Z9 c,Z9 d]
    rw[q1 L1 (by rw[c1];decide) (by rw[c1];decide) (by rw[c1];decide) (by rw[c1];decide),q1 L2 (by rw[c3];decide) (by rw[c3];decide) (by rw[c3];decide) (by rw[c3];decide)]
    exact(Sm.look (n:=0) (m:=1) (k:=5) (s:=ch 64) H (by decide) ((Sm.Eu H).le (by omega)) (ih.group i) (by omega)).ey L1 L2 hL hR
   rw[fU,fU]
   rw[e0]
   by_cases h2:(hd L1).kind=2
   ·rw[Z8 h2,Z8 h2];exact(Sm.bind (n:=1) (m:=0) H (Sm.num H) fun k=>Sm.map H (Sm.unit H)).ey L1 L2 hL hR
   rw[Z9 h2,Z9 h2]
   by_cases h3:(hd L1).kind=3
   ·rw[Z8 h3,Z8 h3]
    have e:∀ L,((eA 3 L).bind fun t M=>(jg M).map fun u=>jQ ⟨3,pq t.text,⟨#[]⟩⟩ u ⟨#[]⟩)=((eA 3 L).map fun t=>pq t.text).bind fun v M=>(jg M).map fun u=>jQ ⟨3,v,⟨#[]⟩⟩ u ⟨#[]⟩:=fun L=>by
     cases eA 3 L<;>rfl
    rw[e,e]
    exact(Sm.bind (n:=1) (m:=0) H (Sm.FJ H (by decide) fun t u h=>by rw[h]) fun k=>Sm.map H (Sm.unit H)).ey L1 L2 hL hR
   rw[Z9 h3,Z9 h3]
   by_cases h4:(hd L1).kind=4
   ·rw[Z8 h4,Z8 h4];exact(Sm.FJ H (by decide) fun t u h=>by rw[h]).ey L1 L2 hL hR
   rw[Z9 h4,Z9 h4]
   by_cases h1:(hd L1).kind=1
   ·rw[Z8 h1,Z8 h1];exact ih.word i L1 L2 hL hR (by rw[h1];decide)
   rw[Z9 h1,Z9 h1]
   exact(Sm.look (n:=0) (m:=1) H (by decide) ((Sm.Eu H).le (by omega)) (ih.group i) (by omega)).ey L1 L2 hL hR
  ·intro L1 L2 hL hR;rw[eR,eR]
   exact(Sm.bind (n:=1) (m:=2) H (Sm.ct H (by decide)) fun _=>Sm.bind (n:=1) (m:=1) H (ih.expr i) fun x=>Sm.map H (Sm.ct H (by decide))).ey L1 L2 hL hR
  ·rw[gn,gn,(H.same hR hk).2.1]
   split
   ·exact(Sm.pure _).tl H hL hR hk
   split
   ·exact(Sm.map H (ih.group i)).tl H hL hR hk
   split
   ·exact(ih.agg _).tl H hL hR hk
   ·refine(Sm.bind (n:=1) (m:=0) H (Sm.name H) fun s=> ?_).ey L1 L2 hL hR
    by_cases hi:i=true
    ·simp only[Z8 hi];exact Sm.pure _
    ·simp only[Z9 hi]
     exact Sm.look (n:=0) (m:=0) H (by decide) (Sm.map H ((ih.group i).le (by omega))) (Sm.pure _) (by omega)
  ·intro L1 L2 hL hR;rw[iw,iw]
   refine(Sm.bind (n:=1) (m:=4) H (Sm.ct H (by decide)) fun _=>Sm.bind (n:=1) (m:=3) H (Sm.name H) fun tb=>Sm.bind (n:=1) (m:=2) H (Sm.ct H (by decide)) fun _=>Sm.bind (n:=0) (m:=2) H ?_ fun a=>Sm.bind (n:=0) (m:=2) H ?_ fun p=>Sm.bind (n:=1) (m:=1) H (Sm.CQ H) fun w=>Sm.bind (n:=0) (m:=1) H ?_ fun c=>Sm.map H (Sm.ct H (by decide))).ey L1 L2 hL hR
   ·exact Sm.ite H Nr (Sm.bind (n:=0) (m:=0) H ((ih.expr true).le (by omega)) fun x=>Sm.map H ((Sm.ct H (by decide)).le (by omega))) (Sm.pure _)
   ·exact Sm.ite H Nr (Sm.bind (n:=0) (m:=0) H ((Sm.num H).le (by omega)) fun x=>Sm.map H ((Sm.ct H (by decide)).le (by omega))) (Sm.pure _)
   ·exact Sm.look (n:=0) (m:=0) H (by decide) ((ih.expr true).le (by omega)) (Sm.pure _) (by omega)
theorem Sm.field(H:Alike R D φ DE):Sm R D φ DE 1 Pu:=Sm.le (n:=3) (Sm.bind (n:=1) (m:=2) H (Sm.name H) fun n=>Sm.bind (n:=1) (m:=1) H (Sm.ct H (by decide)) fun _=>Sm.map H (Sm.kind H)) (by omega)
theorem Sm.of(H:Alike R D φ DE):Sm R D φ DE 1 Kh:=Sm.le (n:=3) (Sm.bind (n:=1) (m:=2) H (Sm.name H) fun n=>Sm.bind (n:=1) (m:=1) H (Sm.ct H (by decide)) fun _=>Sm.map H (Sm.name H)) (by omega)
theorem Sm.fields(H:Alike R D φ DE):Sm R D φ DE 1 Pv:=Sm.look (n:=0) (m:=1) H (by decide) (Sm.pure _) (Sm.le (n:=2) (Sm.bind (n:=1) (m:=1) H (Sm.list H (by decide) (Sm.field H)) fun l=>Sm.map H (Sm.ct H (by decide))) (by omega)) (by omega)
theorem Sm.keep(H:Alike R D φ DE):Sm R D φ DE 0 R0:=Sm.look (n:=1) (m:=0) H (by decide) (Sm.num H) (Sm.pure _) (by omega)
theorem Sm.table(H:Alike R D φ DE):Sm R D φ DE 1 UX:=Sm.le (n:=4) (Sm.bind (n:=1) (m:=3) H (Sm.of H) fun n=>Sm.bind (n:=1) (m:=2) H (Sm.ct H (by decide)) fun _=>Sm.bind (n:=1) (m:=1) H (Sm.fields H) fun l=>Sm.bind (n:=0) (m:=1) H (Sm.keep H) fun k=>Sm.map H (Sm.ct H (by decide))) (by omega)
theorem Sm.feature(H:Alike R D φ DE):Sm R D φ DE 1 Pq:=Sm.le (n:=6) (Sm.bind (n:=1) (m:=5) H (Sm.of H) fun n=>Sm.bind (n:=1) (m:=4) H (Sm.ct H (by decide)) fun _=>Sm.bind (n:=1) (m:=3) H (Sm.kind H) fun t=>Sm.bind (n:=1) (m:=2) H (Sm.ct H (by decide)) fun _=>Sm.bind (n:=1) (m:=1) H ((Uu H N0).expr false) fun x=>Sm.map H (Sm.ct H (by decide))) (by omega)
theorem Sm.item(H:Alike R D φ DE):Sm R D φ DE 1 JR:=Sm.look (n:=1) (m:=1) H (by decide) (Sm.map H (Sm.table H)) (Sm.look (n:=1) (m:=1) H (by decide) (Sm.map H (Sm.feature H)) (Sm.wrong H) (by omega)) (by omega)
end
theorem Ct(p:UInt8→Bool)(u:Bs):aC p u≤u.length:=by
 unfold aC
 exact(List.takeWhile_sublist p).length_le
theorem Ku:∀ {u:Bs},u≠[]→1≤(aS u).2.1∧(aS u).2.1≤u.length
 |[],h=>absurd rfl h
 |c::r,_=>by
  have l1:=Ct (fun b=>b != 10) (c::r)
  have l2:=Ct fQ (c::r)
  have l3:=Ct bz (c::r)
  have l4:=Ct (fun b=>b != 34 && b != 10) r
  have g1:aE c=6→1≤aC (fun b=>b != 10) (c::r):=fun h=>by
   have:(c != 10)=true:=by
    rw[bne_iff_ne];rintro rfl;exact absurd h (by decide)
   unfold aC;rw[Zl,this];simp
  have g2:aE c=2→1≤aC fQ (c::r):=fun h=>by
   unfold aC;rw[Zl,show fQ c=true by unfold fQ;simp[h]];simp
  have g3:aE c=3→1≤aC bz (c::r):=fun h=>by
   unfold aC;rw[Zl,show bz c=true by unfold bz;simp[h]];simp
  unfold aS
  simp only
  by_cases k1:aE c=1
  ·rw[Z8 k1];simp
  rw[Z9 k1]
  by_cases k6:aE c=6
  ·rw[Z8 k6];exact⟨g1 k6,l1⟩
  rw[Z9 k6]
  by_cases k2:aE c=2
  ·rw[Z8 k2];exact⟨g2 k2,l2⟩
  rw[Z9 k2]
  by_cases k3:aE c=3
  ·rw[Z8 k3]
   have g3:=g3 k3
   have dl:((c::r).drop (aC bz (c::r))).length+aC bz (c::r)=(c::r).length:=by rw[Zj];omega
   generalize aC bz (c::r)=n at *
   cases h:(c::r).drop n with
   |nil=>rw[Z9 (by simp)];exact⟨g3,l3⟩
   |cons x xs=>
    rw[h]at dl
    have l5:=Ct bz xs
    simp only[Z6,List.drop_succ_cons,List.drop_zero]at dl ⊢
    split
    ·exact⟨by simp only;omega,by simp only;omega⟩
    ·exact⟨g3,by simp only;omega⟩
  rw[Z9 k3]
  by_cases k5:aE c=5
  ·rw[Z8 k5]
   have dl:(r.drop (aC (fun b=>b != 34 && b != 10) r)).length+aC (fun b=>b != 34 && b != 10) r=r.length:=by rw[Zj];omega
   split
   ·rename_i h
    cases h2:r.drop (aC (fun b=>b != 34 && b != 10) r)with
    |nil=>rw[h2]at h;cases h
    |cons x xs=>rw[h2]at dl;simp only[Z6]at dl ⊢;exact⟨by omega,by omega⟩
   ·simp
  rw[Z9 k5]
  split
  ·split
   ·rename_i h
    cases r with
    |nil=>simp at h
    |cons x xs=>simp
   ·split<;>simp
  ·simp
theorem lex_nil(n:Nat)(at_ st:Int):dB n at_ st []=([⟨6,⟨#[]⟩,at_⟩],[]):=by cases n<;>rfl
theorem vL(n:Nat)(at_ st:Int){s:Bs}(hs:s≠[]):dB (n+1) at_ st s=
  if(aS s).1= -1 then((dB n (at_+1) at_ (s.drop 1)).1,if st≠at_-1∨at_=0 then⟨at_,(aS s).2.2⟩::(dB n (at_+1) at_ (s.drop 1)).2 else(dB n (at_+1) at_ (s.drop 1)).2)
  else if(aS s).2.2≠0 then((dB n (at_+(aS s).2.1) st (s.drop (aS s).2.1)).1,⟨at_,(aS s).2.2⟩::(dB n (at_+(aS s).2.1) st (s.drop (aS s).2.1)).2)
  else if(aS s).1=4 then(⟨4,⟨((s.take ((aS s).2.1-1)).drop 1).toArray⟩,at_⟩::(dB n (at_+(aS s).2.1) st (s.drop (aS s).2.1)).1,(dB n (at_+(aS s).2.1) st (s.drop (aS s).2.1)).2)
  else if(aS s).1≠0 then(⟨(aS s).1,⟨(s.take (aS s).2.1).toArray⟩,at_⟩::(dB n (at_+(aS s).2.1) st (s.drop (aS s).2.1)).1,(dB n (at_+(aS s).2.1) st (s.drop (aS s).2.1)).2)
  else dB n (at_+(aS s).2.1) st (s.drop (aS s).2.1):=by
 rw[dB,Z9 hs]
section
variable {R:List Tok→List Tok→Prop}{D:List Tok→Prop}{φ:Int→Int}{DE:Int→Prop}
end
theorem yx:∀ (n:Nat) (at_ st:Int) (s:Bs),dj (dB n at_ st s).1
 |0,at_,st,s=>⟨[],_,rfl,rfl⟩
 |n+1,at_,st,s=>by
  by_cases hs:s=[]
  ·subst hs;rw[lex_nil];exact⟨[],_,rfl,rfl⟩
  have key:∀ (t:Tok) {L:List Tok},dj L→dj (t::L):=fun t L ⟨M,e,h1,h2⟩=>⟨t::M,e,by rw[h1];rfl,h2⟩
  rw[vL _ _ _ hs]
  split
  ·exact yx n _ _ _
  split
  ·exact yx n _ _ _
  split
  ·exact key _ (yx n _ _ _)
  split
  ·exact key _ (yx n _ _ _)
  ·exact yx n _ _ _
theorem PR.bind_congr{α β:Type}{r:PR α}{g g':α→List Tok→PR β}(h:∀ a L,r= .ok a L→g a L=g' a L):r.bind g=r.bind g':=by
 cases r with
 |ok a L=>exact h a L rfl
 |err p c=>rfl
structure Wc(n m:Nat):Prop where
 expr:∀ i L,dj L→8 * L.length+7≤n→8 * L.length+7≤m→bW n i L=bW m i L
 mQ:∀ i x L,dj L→8 * L.length+7≤n→8 * L.length+7≤m→eM n i x L=eM m i x L
 bin:∀ l i L,dj L→8 * L.length+6≤n→8 * L.length+6≤m→eC n l i L=eC m l i L
 ops:∀ l o i x L,dj L→8 * L.length+7≤n→8 * L.length+7≤m→eN n l o i x L=eN m l o i x L
 operand:∀ l i L,dj L→8 * L.length+5≤n→8 * L.length+5≤m→fa n l i L=fa m l i L
 oN:∀ i L,dj L→8 * L.length+4≤n→8 * L.length+4≤m→fU n i L=fU m i L
 group:∀ i L,dj L→8 * L.length+3≤n→8 * L.length+3≤m→eR n i L=eR m i L
 word:∀ i L,dj L→(hd L).kind≠6→8 * L.length+3≤n→8 * L.length+3≤m→gn n i L=gn m i L
 agg:∀ o L,dj L→8 * L.length+3≤n→8 * L.length+3≤m→iw n o L=iw m o L
theorem kM:∀ n m,Wc n m
 |0,m=>⟨fun _ _ _ h=>by omega,fun _ _ _ _ h=>by omega,fun _ _ _ _ h=>by omega,fun _ _ _ _ _ _ h=>by omega,fun _ _ _ _ h=>by omega,fun _ _ _ h=>by omega,fun _ _ _ h=>by omega,fun _ _ _ _ h=>by omega,fun _ _ _ h=>by omega⟩
 |n+1,0=>⟨fun _ _ _ _ h=>by omega,fun _ _ _ _ _ h=>by omega,fun _ _ _ _ _ h=>by omega,fun _ _ _ _ _ _ _ h=>by omega,fun _ _ _ _ _ h=>by omega,fun _ _ _ _ h=>by omega,fun _ _ _ _ h=>by omega,fun _ _ _ _ _ h=>by omega,fun _ _ _ _ h=>by omega⟩
 |n+1,m+1=>by
  have ih:=kM n m
  have P:=mC m
  have ct:∀ {k:Int} {s:ae} (hk:k≠6) {L L1:List Tok},dj L→kY k s L= .ok () L1→dj L1∧L1.length+1≤L.length:=fun {k s} hk {L L1} h e=>((Pos.ct hk) L h).ok () L1 e |>.2
  refine⟨fun i L h h1 h2=> ?_,fun i x L h h1 h2=> ?_,fun l i L h h1 h2=> ?_,fun l o i x L h h1 h2=> ?_,fun l i L h h1 h2=> ?_,fun i L h h1 h2=> ?_,fun i L h h1 h2=> ?_,fun i L h hk h1 h2=> ?_,fun o L h h1 h2=> ?_⟩
  ·rw[bW,bW]
   by_cases hs:au 1 fN L=true
   ·rw[Z8 hs,Z8 hs]
    obtain⟨t1,t2⟩:=h.tail (cL (k:=1) (by decide) L hs)
    rw[ih.expr i L.tail t1 (by omega) (by omega)]
    refine PR.bind_congr fun a L1 e1=>PR.bind_congr fun _ L2 e2=> ?_
    have p1:=(P.expr i L.tail t1).ok a L1 e1
    have p2:=ct (by decide) p1.2.1 e2
    rw[ih.expr i L2 p2.1 (by omega) (by omega)]
    refine PR.bind_congr fun b L3 e3=>PR.bind_congr fun _ L4 e4=> ?_
    have p3:=(P.expr i L2 p2.1).ok b L3 e3
    have p4:=ct (by decide) p3.2.1 e4
    rw[ih.expr i L4 p4.1 (by omega) (by omega)]
   ·rw[Z9 hs,Z9 hs,ih.bin 1 i L h (by omega) (by omega)]
    refine PR.bind_congr fun x L1 e1=> ?_
    have p1:=(P.bin 1 i L h).ok x L1 e1
    exact ih.mQ i x L1 p1.2.1 (by omega) (by omega)
  ·rw[eM,eM]
   by_cases hs:au 1 gS L=true
   ·rw[Z8 hs,Z8 hs]
    obtain⟨t1,t2⟩:=h.tail (cL (k:=1) (by decide) L hs)
    rw[ih.bin 1 i L.tail t1 (by omega) (by omega)]
    refine PR.bind_congr fun y L1 e1=> ?_
    have p1:=(P.bin 1 i L.tail t1).ok y L1 e1
    exact ih.mQ i _ L1 p1.2.1 (by omega) (by omega)
   ·rw[Z9 hs,Z9 hs]
  ·rw[eC,eC,ih.operand l i L h (by omega) (by omega)]
   refine PR.bind_congr fun x L1 e1=> ?_
   have p1:=(P.operand l i L h).ok x L1 e1
   exact ih.ops l _ i x L1 p1.2.1 (by omega) (by omega)
  ·rw[eN,eN]
   by_cases hs:bH L≥l∧bH L≠0∧bH L≤o
   ·rw[Z8 hs,Z8 hs]
    obtain⟨t1,t2⟩:=h.tail (yT L hs.2.1)
    rw[ih.bin (bH L+1) i L.tail t1 (by omega) (by omega)]
    refine PR.bind_congr fun y L1 e1=> ?_
    have p1:=(P.bin (bH L+1) i L.tail t1).ok y L1 e1
    exact ih.ops l _ i _ L1 p1.2.1 (by omega) (by omega)
   ·rw[Z9 hs,Z9 hs]
  ·rw[fa,fa]
   by_cases hs:(decide (l≤3) && au 1 da L)=true
   ·rw[Z8 hs,Z8 hs]
    obtain⟨t1,t2⟩:=h.tail (cL (k:=1) (by decide) L (Z0 _ _ ▸ hs).2)
    rw[ih.bin 3 i L.tail t1 (by omega) (by omega)]
   ·rw[Z9 hs,Z9 hs]
    by_cases cI:au 5 (ch 45) L=true
    ·rw[Z8 cI,Z8 cI]
     obtain⟨t1,t2⟩:=h.tail (cL (k:=5) (by decide) L cI)
     rw[ih.operand 7 i L.tail t1 (by omega) (by omega)]
    ·rw[Z9 cI,Z9 cI]
     exact ih.oN i L h (by omega) (by omega)
  ·rw[fU,fU]
   by_cases k2:(hd L).kind=2
   ·rw[Z8 k2,Z8 k2]
   rw[Z9 k2,Z9 k2]
   by_cases k3:(hd L).kind=3
   ·rw[Z8 k3,Z8 k3]
   rw[Z9 k3,Z9 k3]
   by_cases k4:(hd L).kind=4
   ·rw[Z8 k4,Z8 k4]
   rw[Z9 k4,Z9 k4]
   by_cases k1:(hd L).kind=1
   ·rw[Z8 k1,Z8 k1];exact ih.word i L h (by rw[k1];decide) (by omega) (by omega)
   rw[Z9 k1,Z9 k1,ih.group i L h (by omega) (by omega)]
  ·rw[eR,eR]
   refine PR.bind_congr fun _ L1 e1=> ?_
   have p1:=ct (by decide) h e1
   rw[ih.expr i L1 p1.1 (by omega) (by omega)]
  ·rw[gn,gn]
   obtain⟨t1,t2⟩:=h.tail hk
   rw[ih.group i L.tail t1 (by omega) (by omega),ih.agg (hd L).text L.tail t1 (by omega) (by omega)]
   split
   ·rfl
   split
   ·rfl
   split
   ·rfl
   ·refine PR.bind_congr fun s L1 e1=> ?_
    have p1:=(Pos.name L h).ok s L1 e1
    by_cases hi:i=true
    ·rw[Z8 hi,Z8 hi]
    ·rw[Z9 hi,Z9 hi]
     by_cases hs:au 1 ik L1=true
     ·rw[Z8 hs,Z8 hs]
      obtain⟨u1,u2⟩:=p1.2.1.tail (cL (k:=1) (by decide) L1 hs)
      rw[ih.group i L1.tail u1 (by omega) (by omega)]
     ·rw[Z9 hs,Z9 hs]
  ·rw[iw,iw]
   refine PR.bind_congr fun _ L1 e1=>PR.bind_congr fun tb L2 e2=>PR.bind_congr fun _ L3 e3=> ?_
   have p1:=ct (by decide) h e1
   have p2:=(Pos.name L1 p1.1).ok tb L2 e2
   have p3:=ct (by decide) p2.2.1 e3
   rw[ih.expr true L3 p3.1 (by omega) (by omega)]
   refine PR.bind_congr fun a L5 e5=>PR.bind_congr fun p L7 e7=>PR.bind_congr fun w L8 e8=> ?_
   have q5:dj L5∧L5.length≤L3.length:=by
    have hp:=(Pos.ite (c:=fun _=>o≠zM) (Pos.bind (n:=0) (m:=0) ((P.expr true).le (by omega)) fun x=>Pos.map (g:=fun _=>x) ((Pos.ct (k:=5) (s:=ch 44) (by decide)).le (by omega))) (Pos.pure (ij 1))) L3 p3.1
    have:=hp.ok a L5 e5
    exact⟨this.2.1,by omega⟩
   have q7:dj L7∧L7.length≤L5.length:=by
    have hp:=(Pos.ite (c:=fun _=>o=ur∨o=uq) (Pos.bind (n:=0) (m:=0) (Pos.num.le (by omega)) fun x=>Pos.map (g:=fun _=>x) ((Pos.ct (k:=5) (s:=ch 44) (by decide)).le (by omega))) (Pos.pure (0:Int))) L5 q5.1
    have:=hp.ok p L7 e7
    exact⟨this.2.1,by omega⟩
   have q8:=(Pos.CQ L7 q7.1).ok w L8 e8
   by_cases hs:au 1 gm L8=true
   ·rw[Z8 hs,Z8 hs]
    obtain⟨u1,u2⟩:=q8.2.1.tail (cL (k:=1) (by decide) L8 hs)
    rw[ih.expr true L8.tail u1 (by omega) (by omega)]
   ·rw[Z9 hs,Z9 hs]
section
variable {cfg:Nat→Nat}{K:ag→Store→Prop}{E:List PanicEntry→Store→Prop}{σ τ:Store}{l:List CI}{d b b':Nat}{xr:XR}{ps:List Prop}{og:Option Bool}{g:Option (Nat×Bool)}{args:List Operand}{ys:List AV}{α:Type}{f:FuncId}{ins:Bool}{L:List Tok}{rest cs:List AV}{val:α→AV}{a:α}
theorem Gu(h:aB xr g args=some (og,.lp 1000 b 0::ys,ps))(hp:bU f ys ins L (.ok a L) val)(hl:aR σ 1000=some (b',.cells cs))(hb:b=b')(hc:cs=bD L ins++rest)(ak:OB ps)(hu:cM σ 1000 b (.cells (bD L ins++rest))=σ)
  (k:VX Tryz.prog cfg l K E (bR og d (val a) xr) σ):VX Tryz.prog cfg (⟨some d,.call f args,g⟩::l) K E xr σ:=by
 subst hc
 subst hb
 refine MG (val a) h (fun _=>Spec.at (fun dv=>hp b rest dv) hl) ak (fun hg x σ' ⟨cs',hR,e1⟩=> ?_) (fun ch σ' ⟨cs',hR,e1⟩=>absurd hR.2.1 (by nofun)) (fun _=>k)
 obtain⟨h1,h2,h3⟩:=hR
 cases h2;subst h3;subst e1
 rw[hu]
 constructor
 have:=k.h
 rw[fC hg]at this
 exact this
end
theorem MN{x y:Ex}:Wk (.sl true 12 [x.row,y.row]) (.sl false 12 ([x,y].map Ex.cells)):=by
 rw[Ex.j1];exact .sl
theorem ag3{n l most:Nat}{i:Bool}{x:Ex}{L:List Tok}(hn:8 * L.length+7≤n)(h:¬(bH L≥l∧bH L≠0∧bH L≤most)):eN n l most i x L= .ok x L:=by
 obtain⟨k,rfl⟩:∃ k,n=k+1:=⟨n-1,by omega⟩
 rw[eN,Z9 h]
theorem ag2{n l most:Nat}{i:Bool}{x:Ex}{L:List Tok}(hL:dj L)(hn:8 * L.length+7≤n)(h:bH L≥l∧bH L≠0∧bH L≤most):
  eN n l most i x L=(eC n (bH L+1) i L.tail).bind fun y L1=>eN n l (if bH L=4 then 3 else bH L) i (qG (hd L).text x y) L1:=by
 obtain⟨k,rfl⟩:∃ k,n=k+1:=⟨n-1,by omega⟩
 have ht:=hL.tail (yT L h.2.1)
 rw[eN,Z8 h,(kM k (k+1)).bin _ i L.tail ht.1 (by omega) (by omega)]
 refine PR.bind_congr fun y L1 e1=> ?_
 have p1:=((mC (k+1)).bin _ i L.tail ht.1).ok y L1 e1
 exact(kM k (k+1)).ops _ _ i _ L1 p1.2.1 (by omega) (by omega)
theorem ahy(L:List Tok):bH L≤6:=by
 unfold bH
 dsimp only
 repeat' split
 all_goals omega
theorem ahC{n:Nat}(ih:su n)(l:Nat)(i:Bool)(L:List Tok)(hL:Gd L)(hn:8 * L.length+6≤n+1):bU 47 [iv l] i L (eC (n+1) l i L) iC:=by
 refine bU.intro fun b1 rest τ=> ?_
 refine Spec.dF (fun _=>0) Tryz.func47 ace adu (Z7 rfl) ?_
 rw[eC]
 repeat'(first|exact .nil|refine .k0 ?_|refine .k1 ?_|refine .k2 ?_|refine .r1 ?_ ?_|(refine .l1 ?_;intro b)|fail)
 all_goals(try simp only[BL]at *)
 rename Nat=>b4
 refine Gu rfl (TP L hL i 1 da) rfl rfl rfl (.cons (fun h=>h) .nil) (by simp(decide:=true)only[aM,aZ]) ?_
 repeat'(first|exact .nil|refine .k0 ?_|refine .k1 ?_|refine .k2 ?_|refine .k4 ?_|refine .r1 ?_ ?_|fail)
 refine bY rfl (ih.operand l i L hL (by omega)) rfl rfl rfl .nil ?_ (fun _ _ h=>bn h) (fun _=>Zs) (fun x L1 bg bE=> ?_)
 ·exact fun p c h=>by rw[h];rfl
 have Q5:=((mC n).operand l i L hL.e).ok x L1 bg
 rw[bg,PR.aH]
 simp(decide:=true)only[aM,aZ]
 repeat'((fail_if_success (show WK _ _ _ _ _ _ _ _));(first|exact .nil|refine .k0 ?_|refine .k1 ?_|refine .r1 ?_ ?_|(refine .l1 ?_;intro b)|fail))
 rename Nat=>b6
 refine kH rfl ?_
 refine xg ?_
 first|refine .k2 ?_|fail
 repeat'((fail_if_success (show WK _ _ _ _ _ _ _ _));(first|exact .nil|refine .k0 ?_|refine .k1 ?_|refine .r1 ?_ ?_|fail))
 refine kH rfl ?_
 have vw:decide ((l:Int)≤3)=decide (l≤3):=by simp;omega
 refine mM (fun rg σ'=>∃ BZ:Nat,BZ=(if l≤3∧au 1 da L=true then 2 else 7)∧σ'=(6,b6,.cells x.row)::(4,b4,.cells [iv 0,sv ⟨#[]⟩,sv ⟨#[]⟩,sv ⟨#[]⟩,iv 0,iv 0,sv ⟨#[]⟩,.v (.slice none 0 0),iv 0,iv 0,iv 0,.v (.slice none 0 0)])::(1000,b1,.cells (bD L1 i++rest))::τ∧
  rg=[(0,.lp 1000 b1 0),(1,iv l),(4,.lp 4 b4 0),(6,.lp 6 b6 0),(7,iv (BZ:Nat))]) ?_ ?_
 ·repeat'(first|exact .nil|refine .k0 ?_|refine .k1 ?_|refine .k2 ?_|refine .k9 ?_|(refine .cd ?_ ?_<;>(intro hc;skip))|refine .r1 ?_ ?_|fail)
  ·rw[vw]at hc
   exact ek.intro rfl ⟨2,by rw[Z8 (by simpa using hc)],rfl,rfl⟩
  ·rw[vw]at hc
   exact ek.intro rfl ⟨7,by rw[Z9 (by simpa using hc)],rfl,rfl⟩
 rintro _ _ ⟨BZ,QR,rfl,rfl⟩
 rw[← QR]
 repeat'(first|exact .nil|refine .k1 ?_|refine .k2 ?_|refine .r1 ?_ ?_|fail)
 refine Gu rfl (TQ L1 bE i) rfl rfl rfl .nil (by simp(decide:=true)only[aM,aZ]) ?_
 repeat'((fail_if_success (show WK _ _ _ _ (.loop _) _ _ _));(first|exact .nil|refine .k0 ?_|refine .k1 ?_|refine .k6 ?_|refine .r1 ?_ ?_|fail))
 clear QR vw
 refine dU (fun m rg σ'=>∃ (x':Ex) (L':List Tok) (most:Nat),Gd L'∧8 * L'.length+7≤n∧m=L'.length∧eN n l BZ i x L1=eN n l most i x' L'∧σ'=(6,b6,.cells x'.row)::(4,b4,.cells [iv 0,sv ⟨#[]⟩,sv ⟨#[]⟩,sv ⟨#[]⟩,iv 0,iv 0,sv ⟨#[]⟩,.v (.slice none 0 0),iv 0,iv 0,iv 0,.v (.slice none 0 0)])::(1000,b1,.cells (bD L' i++rest))::τ∧
  rg=[(0,.lp 1000 b1 0),(1,iv l),(4,.lp 4 b4 0),(6,.lp 6 b6 0),(7,iv (most:Nat)),(8,iv (bH L':Nat))]) L1.length rfl ⟨_,_,Zr,Zs,x,L1,BZ,bE,by omega,rfl,rfl,rfl,rfl⟩ ?_
 rintro m _ _ ⟨x',L',most,dM,ja,hm,he,rfl,rfl⟩
 rw[he]
 have hp:=dM.pos
 unfold bD
 repeat'((fail_if_success (show WK _ _ _ _ (.dC _ _) _ _ _));(first|exact .nil|refine .k0 ?_|refine .k1 ?_|refine .k2 ?_|refine .k4 ?_|refine .k6 ?_|refine .k7 ?_|refine .k8 ?_|refine .k9 ?_|(refine .cd ?_ ?_<;>(intro hc;skip))|refine .r1 ?_ ?_|refine .t1 ?_ ?_ ?_|refine .t3 ?_ ?_ ?_|refine .r8 ?_ ?_|fail))
 any_goals omega
 all_goals(try simp only[BL]at *)
 ·have hg:bH L'≥l∧bH L'≠0∧bH L'≤most:=by omega
  have ht:=dM.tail (yT L' hg.2.1)
  have yj:=ahy L'
  have hb:=ih.bin (bH L'+1) i L'.tail ht.1 (by omega)
  have e1:iv ((bH L'+1:Nat):Int)=iv (IntKind.i64.wrap ((bH L':Int)+1)):=by rw[bG (by omega)];rfl
  rw[e1]at hb
  rw[ag2 dM.e ja hg]
  refine o7 (cs':=[.sl false 3 ((L'.drop 1).map Tok.cells),.v (.bool i)]++rest) rfl rfl rfl rfl rfl ⟨rfl,by simp⟩ .nil ?_
  simp(decide:=true)only[aM,aZ,XL]
  repeat'((fail_if_success (show WK _ _ _ _ (.dC _ _) _ _ _));(first|refine .k0 ?_|refine .k1 ?_|fail))
  refine Am [1000] 56 rfl rfl rfl rfl ?_
  repeat'(first|exact .nil|refine .k0 ?_|refine .k1 ?_|refine .r1 ?_ ?_|fail)
  refine Al (L:=L'.tail) (ins:=i) rfl rfl hb rfl rfl rfl .nil ?_ (fun _ _ h=>bn h) (fun _=>Zs) (fun y L2 aY cN=> ?_)
  ·exact fun p c h=>by rw[h];rfl
  have Jk:=((mC n).bin (bH L'+1) i L'.tail ht.1.e).ok y L2 aY
  rw[aY,PR.aH]
  simp(decide:=true)only[aM,aZ,mW]
  repeat'((fail_if_success (show WK _ _ _ _ _ _ _ _));(first|exact .nil|refine .k0 ?_|refine .k1 ?_|refine .r1 ?_ ?_|fail))
  ·exact Z7 rfl
  refine GC (.here (l':=(qG (hd L').text x' y).row) (.cons (.refl _) (.cons (.refl _) (.cons (.refl _) (.cons (.refl _) (.cons (.refl _) (.cons (.refl _) (.cons (.refl _) (.cons .nil (.cons (.refl _) (.cons (.refl _) (.cons (.refl _) (.cons MN .nil)))))))))))) (.refl _)) ?_
  have aQ:=List.length_tail (l:=L')
  repeat'(first|exact .nil|refine .k0 ?_|refine .k1 ?_|refine .k2 ?_|refine .k9 ?_|(refine .cd ?_ ?_<;>(intro hc;skip))|refine .r1 ?_ ?_|fail)
  all_goals
   refine Gu rfl (TQ L2 cN i) rfl rfl rfl .nil (by simp(decide:=true)only[aM,aZ]) ?_
   repeat'(first|exact .nil|refine .k0 ?_|refine .k1 ?_|refine .k2 ?_|refine .r1 ?_ ?_|fail)
  ·have h4:bH L'=4:=by have:=Yv hc;omega
   exact⟨L2.length,by omega,_,_,Zr,Zs,qG (hd L').text x' y,L2,3,cN,by omega,rfl,by rw[Z8 h4],rfl,rfl⟩
  ·have h4:¬bH L'=4:=by have:=of_decide_eq_false hc;omega
   exact⟨L2.length,by omega,_,_,Zr,Zs,qG (hd L').text x' y,L2,bH L',cN,by omega,rfl,by rw[Z9 h4],rfl,rfl⟩
 ·exact dE (a:=x') (ag3 ja (by omega)) dM (.refl _)
theorem aaH{x y z:Ex}:Wk (.sl true 12 [x.row,y.row,z.row]) (.sl false 12 ([x,y,z].map Ex.cells)):=by
 rw[Ex.j1];exact .sl
theorem acN{n:Nat}{i:Bool}{x:Ex}{L:List Tok}(hn:8 * L.length+7≤n)(h:¬au 1 gS L=true):eM n i x L= .ok x L:=by
 obtain⟨k,rfl⟩:∃ k,n=k+1:=⟨n-1,by omega⟩
 rw[eM,Z9 h]
def He(x y:Ex):Ex:= .mk 9 ⟨#[]⟩ ⟨#[]⟩ ⟨#[]⟩ v0 [] 0 w0 [x,y]
theorem acL{n:Nat}{i:Bool}{x:Ex}{L:List Tok}(hL:dj L)(hn:8 * L.length+7≤n)(h:au 1 gS L=true):
  eM n i x L=(eC n 1 i L.tail).bind fun y L1=>eM n i (He x y) L1:=by
 obtain⟨k,rfl⟩:∃ k,n=k+1:=⟨n-1,by omega⟩
 have ht:=hL.tail (cL (k:=1) (by decide) L h)
 rw[eM,Z8 h,(kM k (k+1)).bin _ i L.tail ht.1 (by omega) (by omega)]
 refine PR.bind_congr fun y L1 e1=> ?_
 have p1:=((mC (k+1)).bin _ i L.tail ht.1).ok y L1 e1
 exact(kM k (k+1)).mQ _ _ L1 p1.2.1 (by omega) (by omega)
theorem ahE(hw:jE){n:Nat}(ih:su n)(i:Bool)(L:List Tok)(hL:Gd L)(hn:8 * L.length+7≤n+1):bU 20 [] i L (bW (n+1) i L) iC:=by
 refine bU.intro fun b1 rest τ=> ?_
 refine Spec.dF (fun _=>0) Tryz.func20 ab6 adp (Z7 rfl) ?_
 rw[bW]
 repeat'(first|exact .nil|refine .k0 ?_|refine .k1 ?_|refine .k2 ?_|refine .r1 ?_ ?_|(refine .l1 ?_;intro b)|fail)
 rename Nat=>b2
 refine bY rfl (gK L hL i 1 (by decide) fN) rfl rfl rfl .nil (fun _ _ h=>qm h) (fun _ _ h=>bn h) (fun _=>Zs) (fun a L1 bg bE=> ?_)
 simp(decide:=true)only[aM,aZ]
 by_cases hs:au 1 fN L=true
 ·rw[kr hs]at bg;cases bg
  have ht:=hL.tail (cL (k:=1) (by decide) L hs)
  rw[Z8 hs]
  (repeat'(first|exact .nil|refine .k0 ?_|refine .k1 ?_|refine .k2 ?_|(refine .cd ?_ ?_<;>first|with_reducible exact tF|(intro hc;skip))|refine .r1 ?_ ?_|fail))<;>(try(simp at hc;done))
  refine bY rfl (ih.expr i L.tail ht.1 (by omega)) rfl rfl rfl .nil ?_ (fun _ _ h=>bn h) (fun _=>Zs) (fun xa L2 aY cN=> ?_)
  ·exact fun p c h=>by rw[h];rfl
  have Jk:=((mC n).expr i L.tail ht.1.e).ok _ _ aY
  rw[aY,PR.aH]
  simp(decide:=true)only[aM,aZ]
  repeat'(first|exact .nil|refine .k0 ?_|refine .k1 ?_|refine .k2 ?_|refine .r1 ?_ ?_|(refine .l1 ?_;intro b)|fail)
  refine bY rfl (KE hw L2 cN i kz) rfl rfl rfl .nil ?_ (fun _ _ h=>bn h) (fun _=>Zs) (fun a3 L3 fz pA=> ?_)
  ·exact fun p c h=>by rw[h];rfl
  have hp3:=(Pos.ct (k:=1) (s:=kz) (by decide) L2 cN.e).ok _ _ fz
  rw[fz,PR.aH]
  simp(decide:=true)only[aM,aZ]
  repeat'(first|exact .nil|refine .k0 ?_|refine .k1 ?_|refine .k2 ?_|refine .r1 ?_ ?_|fail)
  refine bY rfl (ih.expr i L3 pA (by omega)) rfl rfl rfl .nil ?_ (fun _ _ h=>bn h) (fun _=>Zs) (fun xb L4 pO A1=> ?_)
  ·exact fun p c h=>by rw[h];rfl
  have jO:=((mC n).expr i L3 pA.e).ok _ _ pO
  rw[pO,PR.aH]
  simp(decide:=true)only[aM,aZ]
  repeat'(first|exact .nil|refine .k0 ?_|refine .k1 ?_|refine .k2 ?_|refine .r1 ?_ ?_|(refine .l1 ?_;intro b)|fail)
  refine bY rfl (KE hw L4 A1 i gL) rfl rfl rfl .nil ?_ (fun _ _ h=>bn h) (fun _=>Zs) (fun a5 L5 pP ve=> ?_)
  ·exact fun p c h=>by rw[h];rfl
  have hp5:=(Pos.ct (k:=1) (s:=gL) (by decide) L4 A1.e).ok _ _ pP
  rw[pP,PR.aH]
  simp(decide:=true)only[aM,aZ]
  repeat'((fail_if_success (show WK _ _ _ _ (.dC _ _) _ _ _));(first|refine .k0 ?_|refine .k1 ?_|fail))
  refine Am [1000] 19 rfl rfl rfl rfl ?_
  repeat'(first|exact .nil|refine .k0 ?_|refine .r1 ?_ ?_|fail)
  refine Al rfl rfl (ih.expr i L5 ve (by omega)) rfl rfl rfl .nil ?_ (fun _ _ h=>bn h) (fun _=>Zs) (fun xc L6 yj DQ=> ?_)
  ·exact fun p c h=>by rw[h];rfl
  rw[yj,PR.aH]
  simp(decide:=true)only[aM,aZ]
  repeat'(first|exact .nil|refine .k0 ?_|refine .k1 ?_|refine .k7 ?_|refine .r1 ?_ ?_|fail)
  ·exact Z7 rfl
  refine dE rfl DQ ?_
  repeat' first|exact aaH|exact .refl _|exact .nil|refine .cons ?_ ?_|refine .agg ?_
 ·rw[kq hs]at bg;cases bg
  rw[Z9 hs]
  (repeat'(first|exact .nil|refine .k0 ?_|refine .k1 ?_|refine .k2 ?_|refine .k9 ?_|(refine .cd ?_ ?_<;>first|with_reducible exact fT|(intro hc;skip))|refine .r1 ?_ ?_|fail))<;>(try(simp at hc;done))
  refine bY rfl (ih.bin 1 i L hL (by omega)) rfl rfl rfl .nil ?_ (fun _ _ h=>bn h) (fun _=>Zs) (fun x L1 bg bE=> ?_)
  ·exact fun p c h=>by rw[h];rfl
  have Q5:=((mC n).bin 1 i L hL.e).ok _ _ bg
  rw[bg,PR.aH]
  simp(decide:=true)only[aM,aZ]
  repeat'((fail_if_success (show WK _ _ _ _ (.loop _) _ _ _));(first|exact .nil|refine .k0 ?_|refine .k1 ?_|refine .k6 ?_|refine .r1 ?_ ?_|(refine .l1 ?_;intro b)|fail))
  rename Nat=>b5
  refine dU (fun m rg fY=>∃ σ',lH fY σ'∧∃ (x':Ex) (L':List Tok),Gd L'∧8 * L'.length+7≤n∧m=L'.length∧eM n i x L1=eM n i x' L'∧σ'=(5,b5,.cells x'.row)::(2,b2,.cells [iv 0,sv ⟨#[]⟩,sv ⟨#[]⟩,sv ⟨#[]⟩,iv 0,iv 0,sv ⟨#[]⟩,.v (.slice none 0 0),iv 0,iv 0,iv 0,.v (.slice none 0 0)])::(1000,b1,.cells (bD L' i++rest))::τ∧
   rg=[(0,.lp 1000 b1 0),(2,.lp 2 b2 0),(5,.lp 5 b5 0)]) L1.length rfl ⟨_,_,Zr,Zs,_,.refl _,x,L1,bE,by omega,rfl,rfl,rfl,rfl⟩ ?_
  rintro m _ _ ⟨_,er,x',L',dM,ja,hm,he,rfl,rfl⟩
  refine GC er ?_
  rw[he]
  repeat'(first|exact .nil|refine .k1 ?_|refine .k2 ?_|refine .r1 ?_ ?_|fail)
  refine bY rfl (gK L' dM i 1 (by decide) gS) rfl rfl rfl .nil (fun _ _ h=>qm h) (fun _ _ h=>bn h) (fun _=>Zs) (fun a L2 aY cN=> ?_)
  simp(decide:=true)only[aM,aZ]
  by_cases cI:au 1 gS L'=true
  ·rw[kr cI]at aY;cases aY
   have ht:=dM.tail (cL (k:=1) (by decide) L' cI)
   rw[acL dM.e ja cI]
   (repeat'((fail_if_success (show WK _ _ _ _ (.dC _ _) _ _ _));(first|refine .k0 ?_|refine .k1 ?_|refine .k6 ?_|refine .k9 ?_|(refine .cd ?_ ?_<;>first|with_reducible exact tF|(intro hc;skip))|fail)))<;>(try(simp at hc;done))
   refine Am [1000] 28 rfl rfl rfl rfl ?_
   repeat'(first|exact .nil|refine .k0 ?_|refine .r1 ?_ ?_|fail)
   refine Al rfl rfl (ih.bin 1 i L'.tail ht.1 (by omega)) rfl rfl rfl .nil ?_ (fun _ _ h=>bn h) (fun _=>Zs) (fun y L2 aY cN=> ?_)
   ·exact fun p c h=>by rw[h];rfl
   have Jk:=((mC n).bin 1 i L'.tail ht.1.e).ok y L2 aY
   rw[aY,PR.aH]
   simp(decide:=true)only[aM,aZ]
   repeat'(first|exact .nil|refine .k0 ?_|refine .k1 ?_|refine .k2 ?_|refine .r1 ?_ ?_|fail)
   ·exact Z7 rfl
   have aQ:=List.length_tail (l:=L')
   exact⟨L2.length,by omega,_,_,Zr,Zs,_,.here (l':=(He x' y).row) (.cons (.refl _) (.cons (.refl _) (.cons (.refl _) (.cons (.refl _) (.cons (.refl _) (.cons (.refl _) (.cons (.refl _) (.cons .nil (.cons (.refl _) (.cons (.refl _) (.cons (.refl _) (.cons MN .nil)))))))))))) (.refl _),He x' y,L2,cN,by omega,rfl,rfl,rfl,rfl⟩
  ·rw[kq cI]at aY;cases aY
   (repeat'(first|exact .nil|refine .k0 ?_|refine .k1 ?_|refine .k2 ?_|refine .k7 ?_|refine .k8 ?_|(refine .cd ?_ ?_<;>first|with_reducible exact fT|(intro hc;skip))|refine .r1 ?_ ?_|fail))<;>(try(simp at hc;done))
   exact dE (a:=x') (acN ja cI) dM (.refl _)
end Go.Proofs.YtcccbdelfhgmlaaGreatDoor
namespace Go.Sx
open Go.RowKit Go.Proofs
section
variable {P:Program}[Glob P]{cfg:Nat→Nat}{K:ag→Store→Prop}{E:List PanicEntry→Store→Prop}{σ σ':Store}{l:List CI}{d:Nat}{xr:XR}{ps:List Prop}{og:Option Bool}{args:List Operand}{ys:List AV}{f:FuncId}{R R':dH→Store→Prop}
theorem jC{fv:AV}{fo:Operand}{a c:Array Value}(h:aB xr none (fo::args)=some (og,fv::ys,ps))(hf:xF fv=some (f,a,c))(b7:iU P f=true)(hp:Spec P f (a.toList.map .v++ys++c.toList.map .v) σ R)(ak:OB ps)
  (k:∀ x σ',R (.ret x) σ'→VX P cfg l K E ((d,.s x)::xr) σ') (e:∀ ch σ',R (.dn ch) σ'→E ch σ'):VX P cfg (⟨some d,.dY fo args,none⟩::l) K E xr σ:=by
 obtain⟨hc,he⟩:=cz h
 unfold aB gX at h
 obtain⟨bC,h',_,_⟩:=fS h
 have cP:og=none:=by split at h'<;>cases h';rfl
 subst cP
 refine iT hc (fun hg=> ?_) (fun hg=>nomatch hg)
 have:=he ak hg
 simp only[bo,ZT]at this
 simp only[aj,this.1,this.2,DH hf]
 exact⟨b7,R,hp,fun x σ' hr=>(k x σ' hr).h,e⟩
theorem Spec.permA(h:Spec P f ys σ' R)(hp:σ.Perm σ'):Spec P f ys σ R:=fun M w0 w cs hI hl=>h M w0 w cs (hI.perm hp) hl
theorem Spec.ahk(h:Spec P f ys σ R)(hq:∀ r σ',R r σ'→∃ az,σ'.Perm az∧R' r az):Spec P f ys σ R':=fun M w0 w cs hI hl=>
 (h M w0 w cs hI hl).mono fun _ _ ⟨M',r,σ',a,b,c,d⟩=>let⟨az,h1,h2⟩:=hq r σ' d;⟨M',r,az,a,b.perm h1,c,h2⟩
end
end Go.Sx
namespace Go.Proofs.YtcccbdelfhgmlaaGreatDoor
open Go.Sx Go.Proofs
section
variable {cfg:Nat→Nat}{K:ag→Store→Prop}{E:List PanicEntry→Store→Prop}{σ τ:Store}{l:List CI}{d b b':Nat}{xr:XR}{ps:List Prop}{og:Option Bool}{args:List Operand}{ys:List AV}{α:Type}{f:FuncId}{ins:Bool}{L L':List Tok}{rest cs:List AV}{r:PR α}{val:α→AV}{a:α}
theorem o6(h:aB xr none args=some (og,.lp 1000 b 0::ys,ps))(hp:bU f ys ins L r val)(hr:r= .ok a L')(hl:aR σ 1000=some (b',.cells cs))(hb:b=b')(hc:cs=bD L ins++rest)(ak:OB ps)
  (k:Gd L'→VX Tryz.prog cfg l K E ((d,.s (val a))::xr) (cM σ 1000 b (.cells (bD L' ins++rest)))):VX Tryz.prog cfg (⟨some d,.call f args,none⟩::l) K E xr σ:=by
 subst hc
 subst hr
 exact o5 h hl hb (fun dv=>hp b rest dv) ak (fun x cs' hR=>by obtain⟨h1,h2,h3⟩:=hR;cases h2;subst h3;exact k h1) fun ch cs' hR=>absurd hR.2.1 (by nofun)
end
section
variable {α:Type}
def Gp(ins:Bool)(rest:List AV)(dh:Store)(r:PR α)(S:α→Store→Prop)(b:Nat)(x:dH)(σ':Store):Prop:=match r with
 | .ok a L'=>∃ dv,S a dv∧Gd L'∧x= .ret (.aT [])∧σ'=(1000,b,.cells (bD L' ins++rest))::dv
 | .err p c=>x= .dn [{v:=uW p c,recovered:=false}]∧∃ L' i',Sub ((1000,b,.cells (bD L' i'++rest))::dh) σ'
def sq(ins:Bool)(rest:List AV)(dh:Store)(r:PR α)(S:α→Store→Prop)(b:Nat)(x:dH)(σ':Store):Prop:=match r with
 | .ok a L'=>∃ dv az,S a dv∧Gd L'∧x= .ret (.aT [])∧Sub az σ'∧az.Perm ((1000,b,.cells (bD L' ins++rest))::dv)
 | .err p c=>x= .dn [{v:=uW p c,recovered:=false}]∧∃ L' i',Sub ((1000,b,.cells (bD L' i'++rest))::dh) σ'
theorem sq.spec{f:FuncId}{cs:List AV}{σ:Store}{ins:Bool}{rest:List AV}{dh:Store}{r:PR α}{S:α→Store→Prop}{b:Nat}(h:Sx.Spec Tryz.prog f cs σ (sq ins rest dh r S b)):Sx.Spec Tryz.prog f cs σ (Gp ins rest dh r S b):=by
 intro M w0 w vs hI hR
 refine(h M w0 w vs hI hR).mono fun e w' ⟨M',x,σ',hM,aP,hx,hq⟩=> ?_
 cases r with
 |ok a L'=>obtain⟨dv,az,h1,h2,h3,h4,h5⟩:=hq;exact⟨M',x,_,hM,(aP.sub h4).perm h5,hx,dv,h1,h2,h3,rfl⟩
 |err p c=>exact⟨M',x,σ',hM,aP,hx,hq⟩
theorem sq.dn{ins:Bool}{rest:List AV}{r:PR α}{S:α→Store→Prop}{b:Nat}{τ dh:Store}(hs:Sub dh τ){val:α→AV}{ch:List PanicEntry}{σ':Store}(h:oZ ins rest r val b τ (.dn ch) σ'):sq ins rest dh r S b (.dn ch) σ':=by
 obtain⟨x2,cs',h1,h2,h3⟩:=h
 cases r with
 |ok a L'=>obtain⟨_,e,_⟩:=h1;subst e;exact h3.elim
 |err p c=>obtain⟨e,L',i',rfl⟩:=h1;subst e;exact⟨Zy _ h3,L',i',(Sub.same hs).trans h2⟩
def Ma(el:FuncId)(cs:List AV)(f:List Tok→PR α)(ins:Bool)(b:Nat)(rest:List AV)(dh:Store)(S:List α→Store→Prop):Prop:=∀ (acc:List α) (L:List Tok) (τ:Store),Gd L→acc.length+L.length≤20000→S acc τ→
 Sx.Spec Tryz.prog el cs ((1000,b,.cells (bD L ins++rest))::τ) (Gp ins rest dh ((f L).map fun a=>acc++[a]) S b)
theorem agn{sep:ae}{f:List Tok→PR α}{k:Nat}{L:List Tok}{acc:List α}(h:¬au 5 sep L=true):kX sep f k L acc= .ok acc L:=by
 cases k with
 |zero=>rfl
 |succ k=>rw[kX,Z9 h]
theorem agc{f:List Tok→PR α}{el:FuncId}{c:Array Value}{cs:List AV}(b7:iU Tryz.prog el=true)(hw:dc (c.toList.map .v) cs){ins:Bool}{b:Nat}{rest:List AV}{dh:Store}{S:List α→Store→Prop}(pH:Ma el cs f ins b rest dh S)(hf:Pos 1 f)(sep:ae)(L:List Tok)(τ:Store)(hL:Gd L)(hS:S [] τ):
  Sx.Spec Tryz.prog 184 [.lp 1000 b 0,sv sep,.v (.func (.func el) #[] c)] ((1000,b,.cells (bD L ins++rest))::τ) (Gp ins rest dh (ic sep f L) S b):=by
 refine Spec.dF (fun _=>0) Tryz.func184 ab1 adk (Z7 rfl) ?_
 unfold ic
 repeat'(first|exact .nil|refine .k1 ?_|refine .k2 ?_|refine .r1 ?_ ?_|fail)
 all_goals(try simp only[BL]at *)
 have hn:=hL.n
 refine jC rfl rfl b7 ((pH [] L τ hL (by simpa using hn) hS).wk hw) .nil (fun x σ' hR=> ?_) (fun ch σ' hR=> ?_)
 rotate_left
 ·refine bn ?_
  cases hr:f L with
  |ok a L1=>rw[hr]at hR;obtain⟨_,_,_,h,_⟩:=hR;cases h
  |err p c=>rw[hr]at hR;exact hR
 cases hr:f L with
 |err p c=>rw[hr]at hR;cases hR.1
 |ok a L1=>
  rw[hr]at hR
  obtain⟨lB,pB,bE,hx,rfl⟩:=hR
  cases hx
  have Q5:=(hf L hL.e).ok a L1 hr
  rw[PR.aH]
  repeat'((fail_if_success (show WK _ _ _ _ (.loop _) _ _ _));(first|refine .k0 ?_|refine .k1 ?_|refine .k6 ?_|fail))
  refine dU (fun m rg σ'=>∃ (acc:List α) (L':List Tok) (dv:Store) (k:Nat),Gd L'∧acc.length+L'.length≤20000∧m=L'.length∧L'.length≤k∧S acc dv∧kX sep f N0 L1 [a]=kX sep f k L' acc∧σ'=(1000,b,.cells (bD L' ins++rest))::dv∧
   rg=[(0,.lp 1000 b 0),(1,sv sep),(2,.v (.func (.func el) #[] c))]) L1.length rfl ⟨_,_,Zr,Zs,[a],L1,lB,N0,bE,by simp only[Z6,ZW];omega,rfl,by have:=bE.n;show _≤1000000;omega,by simpa using pB,rfl,rfl,rfl⟩ ?_
  rintro m _ _ ⟨acc,L',dv,k,dM,hal,hm,hk,Qe,he,rfl,rfl⟩
  rw[he]
  repeat'(first|exact .nil|refine .k1 ?_|refine .k2 ?_|refine .r1 ?_ ?_|fail)
  by_cases hs:au 5 sep L'=true
  ·have ht:=dM.tail (cL (k:=5) (by decide) L' hs)
   have aQ:=List.length_tail (l:=L')
   obtain⟨k,rfl⟩:∃ k',k=k'+1:=⟨k-1,by omega⟩
   rw[kX,Z8 hs]
   refine o6 rfl (gK L' dM ins 5 (by decide) sep) (kr hs) rfl rfl rfl .nil (fun cN=> ?_)
   simp(decide:=true)only[aM,aZ]
   (repeat'(first|exact .nil|refine .k0 ?_|refine .k1 ?_|refine .k2 ?_|refine .k6 ?_|refine .k9 ?_|(refine .cd ?_ ?_<;>first|with_reducible exact tF|(intro hc;skip))|refine .r1 ?_ ?_|fail))<;>(try(simp at hc;done))
   refine jC rfl rfl b7 ((pH acc L'.tail dv ht.1 (by omega) Qe).wk hw) .nil (fun x σ' hR=> ?_) (fun ch σ' hR=> ?_)
   rotate_left
   ·refine bn ?_
    cases hr:f L'.tail with
    |ok a L1=>rw[hr]at hR;obtain⟨_,_,_,h,_⟩:=hR;cases h
    |err p c=>rw[hr]at hR;exact hR
   cases hr:f L'.tail with
   |err p c=>rw[hr]at hR;cases hR.1
   |ok a2 L2=>
    rw[hr]at hR
    obtain⟨mK,s4,cN,hx,rfl⟩:=hR
    cases hx
    have Jk:=(hf L'.tail ht.1.e).ok a2 L2 hr
    rw[PR.aH]
    repeat'(first|refine .k0 ?_|refine .k1 ?_|refine .k2 ?_|fail)
    exact⟨L2.length,by omega,_,_,Zr,Zs,acc++[a2],L2,mK,k,cN,by simp only[Z5,Z6,ZW];omega,rfl,by omega,s4,rfl,rfl,rfl⟩
  ·refine o6 rfl (gK L' dM ins 5 (by decide) sep) (kq hs) rfl rfl rfl .nil (fun cN=> ?_)
   simp(decide:=true)only[aM,aZ]
   (repeat'(first|exact .nil|refine .k0 ?_|refine .k1 ?_|refine .k3 ?_|refine .k8 ?_|(refine .cd ?_ ?_<;>first|with_reducible exact fT|(intro hc;skip))|refine .r1 ?_ ?_|fail))<;>(try(simp at hc;done))
   rw[agn hs]
   exact⟨dv,Qe,dM,rfl,rfl⟩
end
end Go.Proofs.YtcccbdelfhgmlaaGreatDoor
namespace Go.Sx
open Go.RowKit Go.Proofs
inductive nL(b:Nat)(xs:List AV):ag→ag→Prop
 |nil:nL b xs [] []
 |p0 {i t:Nat} {r r':ag} (h:nL b xs r r'):nL b xs ((i,.lp t b 0)::r) ((i,.pc xs)::r')
 |pt {i t o:Nat} {r r':ag} (h:nL b xs r r'):nL b xs ((i,.lp t b o)::r) ((i,.pc (xs.drop o))::r')
 |same {i:Nat} {x:AV} {r r':ag} (h:nL b xs r r'):nL b xs ((i,x)::r) ((i,x)::r')
theorem nL.lk{b:Nat}{xs:List AV}{r r':ag}(h:nL b xs r r')(i:Nat):lk r' i=lk r i∨∃ t o,lk r i= .lp t b o∧lk r' i= .pc (xs.drop o):=by
 induction h with
 |nil=>exact .inl rfl
 | @p0 j t _ _ _ ih=>
  simp only[Sx.lk]
  cases Nat.beq j i with
  |true=>exact .inr ⟨t,0,rfl,rfl⟩
  |false=>exact ih
 | @pt j t o _ _ _ ih=>
  simp only[Sx.lk]
  cases Nat.beq j i with
  |true=>exact .inr ⟨t,o,rfl,rfl⟩
  |false=>exact ih
 | @same j x _ _ _ ih=>
  simp only[Sx.lk]
  cases Nat.beq j i with
  |true=>exact .inl rfl
  |false=>exact ih
section
variable {P:Program}[Glob P]{M:Mem}{w0:Base}{w:World}{σ:Store}
theorem RL.pc{b o:Nat}{xs:List AV}{vs:List Value}(hR:RL M xs vs)(hc:∀ k (h:k<vs.length),M b k=some vs[k]):R M (.pc (xs.drop o)) (.pointer (some ⟨b,o,none⟩)):=by
 refine .pc _ b o (fun k=>vs.getD (o+k) default) (fun k hk=> ?_) (fun k hk=> ?_)
 ·have cC:o+k<vs.length:=by rw[← hR.1];simp at hk;omega
  rw[hc _ cC,ZY,Z4 cC];rfl
 ·have js:o+k<xs.length:=by simp at hk;omega
  have cC:o+k<vs.length:=by rw[← hR.1];exact js
  rw[XI,ZY,Z4 cC]
  exact hR.2 _ js cC
end
theorem SW.frz{P:Program}[Glob P]{N:Nat}{s:SC}{Q:Exit→ag→Store→Prop}{rg ao:ag}{σ σ':Store}{t b:Nat}{xs:List AV}(hs:qy t b xs σ σ')(hr:nL b xs rg ao)(h:SW P N s Q ao σ'):SW P N s Q rg σ:=by
 intro c hc M w0 a w hI hR hN hD
 obtain⟨M',vs,hM,aP,fK,hcell⟩:=(hI.perm hs.perm).freeze
 refine G9 (h c hc M' w0 a w aP (fun i=> ?_) hN hD) fun _ _ _ ⟨M2,cq,az,h1,h2⟩=>⟨M2,cq,az,hM.trans h1,h2⟩
 have h1:=(hR i).mono hM
 rcases hr.lk i with e|⟨t',o,e1,e2⟩
 ·rw[e];exact h1
 ·rw[e1]at h1
  rw[e2]
  have h2:=h1.oJ
  rw[h2]
  exact RL.pc fK hcell
theorem Gw{P:Program}[Glob P]{N:Nat}{cfg:Nat→Nat}{Q:Exit→ag→Store→Prop}{a:AC}{k:List Fr}{rg ao:ag}{σ σ':Store}(t b:Nat){xs:List AV}(hs:qy t b xs σ σ')(hr:nL b xs rg ao)(h:WK P N cfg Q a k ao σ'):WK P N cfg Q a k rg σ:=⟨⟨rfl,SW.frz hs hr h.h.h⟩⟩
end Go.Sx
namespace Go.Proofs.YtcccbdelfhgmlaaGreatDoor
open Go.Sx Go.Proofs
def jx(n:Nat):AV:= .v (.int .u8 (n:Nat))
def kK:List AV:=(List.range 256).map fun i=>jx (aE (UInt8.ofNat i))
def qk(c:Nat):List UInt8→List AV→List AV
 |[],l=>l
 |b::s,l=>qk c s (l.set b.toNat (jx c))
theorem oO(c:Nat):∀ (s:List UInt8) (l:List AV),(qk c s l).length=l.length
 |[],_=>rfl
 |b::s,l=>by rw[qk,oO c s,List.length_set]
theorem Tv(c:Nat)(b:UInt8):∀ (s:List UInt8) (l:List AV),qk c (s++[b]) l=(qk c s l).set b.toNat (jx c)
 |[],_=>rfl
 |a::s,l=>by rw[ZC,qk,qk,Tv c b s]
theorem ag9{l:List AV}{i:Nat}(h:i<l.length)(x:AV):over l i [x]=l.set i x:=by
 unfold over
 rw[List.set_eq_take_append_cons_drop,Z8 h]
 simp
theorem abz{s:ae}{i:Nat}(h:i<s.data.toList.length):bZ s i=s.data.toList[i]:=by
 unfold bZ
 rw[ZY,Z4 h];rfl
theorem tV(s:ae)(hs:s.size≤1000)(c:Nat)(b:Nat)(l:List AV)(hl:l.length=256)(τ:Store):
  Sx.Spec Tryz.prog 103 [sv s,jx c,.lp 1 b 0] ((1,b,.cells l)::τ) fun x σ'=>x= .ret (.aT [])∧σ'=(1,b,.cells (qk c s.data.toList l))::τ:=by
 refine Spec.dF (fun i=>bif Nat.beq i 1000015 then 1 else 0) Tryz.func103 abR ac8 (Z7 rfl) ?_
 unfold jx
 repeat'(first|exact .nil|refine .k0 ?_|refine .k1 ?_|refine .k2 ?_|refine .k6 ?_|refine .r1 ?_ ?_|fail)
 all_goals(try simp only[BL]at *)
 refine dU (fun m rg σ'=>∃ i:Nat,i≤s.size∧m=s.size-i∧σ'=(1,b,.cells (qk c (s.data.toList.take i) l))::τ∧rg=[(0,sv s),(1,.v (.int .u8 (c:Nat))),(2,.lp 1 b 0),(7,iv s.size),(8,iv i)]) s.size rfl ⟨_,_,Zr,Zs,0,ZH _,rfl,rfl,rfl⟩ ?_
 rintro m _ _ ⟨i,hi,hm,rfl,rfl⟩
 repeat'(first|exact .nil|refine .k0 ?_|refine .k1 ?_|refine .k2 ?_|refine .k3 ?_|refine .k6 ?_|refine .k8 ?_|refine .k9 ?_|(refine .cd ?_ ?_<;>(intro hc;skip))|refine .r1 ?_ ?_|refine .t5 ?_ ?_ ?_|refine .r2 ?_ ?_|fail)
 try any_goals(exact Zo)
 all_goals(try simp only[BL]at *)
 ·have:=(bZ s i).toNat_lt;exact⟨by omega,by show _<(256:Int);omega⟩
 ·have bJ:i<s.data.toList.length:=by
   have:s.data.toList.length=s.size:=rfl
   omega
  have hb:bZ s i=s.data.toList[i]:=abz bJ
  have hY:=(bZ s i).toNat_lt
  refine o7 (cs':=qk c (s.data.toList.take (i+1)) l) rfl rfl rfl rfl rfl ⟨?_,?_⟩ .nil ?_
  ·rw[ZF bJ,Tv,← hb,← ag9 (by rw[oO];omega)]
   simp[jx]
  ·rw[oO,hl];simp;omega
  simp(decide:=true)only[aM,aZ]
  repeat'(first|exact .nil|refine .k0 ?_|refine .k1 ?_|refine .k2 ?_|refine .r1 ?_ ?_|fail)
  exact⟨m-1,by omega,_,_,Zr,Zs,i+1,by omega,by omega,rfl,by rw[iQ (n:=s.size) (by omega) (by unfold maxLen;omega)]⟩
 ·have bJ:i=s.size:=by omega
  subst bJ
  have:s.data.toList.length=s.size:=rfl
  exact⟨trivial,by rw[← this,XU]⟩
def oU:List AV:=List.replicate 256 (jx 0)
theorem Oc:Pure Tryz.prog 72 [] (.agg kK):=by
 refine Pure.dF (fun i=>bif Nat.beq i 1000001 then 1 else bif Nat.beq i 1000000 then 1 else 0) Tryz.func72 acf adv (Z7 rfl) fun σ=> ?_
 first|refine .k1 ?_|fail
 first|refine .k2 ?_|fail
 refine Ak (cs:=oU) rfl (fun b0=> ?_)
 repeat'((fail_if_success (show WK _ _ _ _ _ _ _ _));(first|refine .k0 ?_|refine .k1 ?_|fail))
 first|refine .k0 ?_|fail
 first|refine .k1 ?_|fail
 first|refine .k2 ?_|fail
 refine Ak (cs:=oU) rfl (fun b1=> ?_)
 repeat'((fail_if_success (show WK _ _ _ _ _ _ _ _));(first|refine .k0 ?_|refine .k1 ?_|fail))
 repeat'(first|exact .nil|refine .k0 ?_|refine .k1 ?_|refine .k2 ?_|refine .r1 ?_ ?_|fail)
 refine jC rfl rfl (by rfl) ((tV ⟨#[9,10,13,32]⟩ (by decide) 1 b1 _ (by simp only[oO,oU,Y1]) _).wk (.cons (.refl _) (.cons (.refl _) (.cons .raw .nil)))) .nil (fun x σ' hR=> ?_) (fun ch σ' hR=>absurd hR.1 (by nofun))
 obtain⟨e,rfl⟩:=hR
 cases e
 repeat'(first|exact .nil|refine .k0 ?_|refine .k1 ?_|refine .k2 ?_|refine .r1 ?_ ?_|fail)
 refine jC rfl rfl (by rfl) ((tV ⟨#[97,98,99,100,101,102,103,104,105,106,107,108,109,110,111,112,113,114,115,116,117,118,119,120,121,122]⟩ (by decide) 2 b1 _ (by simp only[oO,oU,Y1]) _).wk (.cons (.refl _) (.cons (.refl _) (.cons .raw .nil)))) .nil (fun x σ' hR=> ?_) (fun ch σ' hR=>absurd hR.1 (by nofun))
 obtain⟨e,rfl⟩:=hR
 cases e
 repeat'(first|exact .nil|refine .k0 ?_|refine .k1 ?_|refine .k2 ?_|refine .r1 ?_ ?_|fail)
 refine jC rfl rfl (by rfl) ((tV ⟨#[48,49,50,51,52,53,54,55,56,57]⟩ (by decide) 3 b1 _ (by simp only[oO,oU,Y1]) _).wk (.cons (.refl _) (.cons (.refl _) (.cons .raw .nil)))) .nil (fun x σ' hR=> ?_) (fun ch σ' hR=>absurd hR.1 (by nofun))
 obtain⟨e,rfl⟩:=hR
 cases e
 repeat'(first|exact .nil|refine .k0 ?_|refine .k1 ?_|refine .k2 ?_|refine .r1 ?_ ?_|fail)
 refine jC rfl rfl (by rfl) ((tV ⟨#[95]⟩ (by decide) 4 b1 _ (by simp only[oO,oU,Y1]) _).wk (.cons (.refl _) (.cons (.refl _) (.cons .raw .nil)))) .nil (fun x σ' hR=> ?_) (fun ch σ' hR=>absurd hR.1 (by nofun))
 obtain⟨e,rfl⟩:=hR
 cases e
 repeat'(first|exact .nil|refine .k0 ?_|refine .k1 ?_|refine .k2 ?_|refine .r1 ?_ ?_|fail)
 refine jC rfl rfl (by rfl) ((tV ⟨#[34]⟩ (by decide) 5 b1 _ (by simp only[oO,oU,Y1]) _).wk (.cons (.refl _) (.cons (.refl _) (.cons .raw .nil)))) .nil (fun x σ' hR=> ?_) (fun ch σ' hR=>absurd hR.1 (by nofun))
 obtain⟨e,rfl⟩:=hR
 cases e
 repeat'(first|exact .nil|refine .k0 ?_|refine .k1 ?_|refine .k2 ?_|refine .r1 ?_ ?_|fail)
 refine jC rfl rfl (by rfl) ((tV ⟨#[35]⟩ (by decide) 6 b1 _ (by simp only[oO,oU,Y1]) _).wk (.cons (.refl _) (.cons (.refl _) (.cons .raw .nil)))) .nil (fun x σ' hR=> ?_) (fun ch σ' hR=>absurd hR.1 (by nofun))
 obtain⟨e,rfl⟩:=hR
 cases e
 repeat'(first|exact .nil|refine .k0 ?_|refine .k1 ?_|refine .k2 ?_|refine .r1 ?_ ?_|fail)
 refine jC rfl rfl (by rfl) ((tV ⟨#[123,125,40,41,91,93,44,58,59,61,60,43,45,42,47,94,64]⟩ (by decide) 7 b1 _ (by simp only[oO,oU,Y1]) _).wk (.cons (.refl _) (.cons (.refl _) (.cons .raw .nil)))) .nil (fun x σ' hR=> ?_) (fun ch σ' hR=>absurd hR.1 (by nofun))
 obtain⟨e,rfl⟩:=hR
 cases e
 repeat'(first|exact .nil|refine .k0 ?_|refine .k1 ?_|refine .k2 ?_|refine .r1 ?_ ?_|fail)
 refine jC rfl rfl (by rfl) ((tV ⟨#[33]⟩ (by decide) 8 b1 _ (by simp only[oO,oU,Y1]) _).wk (.cons (.refl _) (.cons (.refl _) (.cons .raw .nil)))) .nil (fun x σ' hR=> ?_) (fun ch σ' hR=>absurd hR.1 (by nofun))
 obtain⟨e,rfl⟩:=hR
 cases e
 repeat'(first|exact .nil|refine .k0 ?_|refine .k1 ?_|refine .k2 ?_|refine .k7 ?_|refine .r1 ?_ ?_|refine .r8 ?_ ?_|fail)
 refine Sx.Fin.wk Zs (.oK ?_)
 kernel_rfl
end Go.Proofs.YtcccbdelfhgmlaaGreatDoor
namespace Go.Sx
open Go.RowKit
section
variable {P:Program}[Glob P]{N:Nat}{cfg:Nat→Nat}{K:ag→Store→Prop}{E:List PanicEntry→Store→Prop}{σ:Store}{l:List CI}{d n:Nat}{y:AV}{xr:XR}{ps:List Prop}{g:Option (Nat×Bool)}{og:Option Bool}{ah cf:List Nat}{ix:Nat}{ld:List CD}{ls:List AV}{x:Operand}
theorem qE(y:AV)(h:aB xr g [x]=some (og,[.pc ls],ps))(hy:og.getD true=true→ls[0]? =some y)(bK:my ah cf xr (.load false n x)=true)(ak:OB ps)(k:VY P cfg ah ld K (bR og d y xr) σ):
  VY P cfg ah (⟨ix,⟨some d,.load false n x,g⟩,cf⟩::ld) K xr σ:=by
 obtain⟨hc,he⟩:=cz h
 unfold my at bK
 rw[Z0]at bK
 refine o8 hc (fun hg=> ?_) (fun hg=> ?_)
 ·have:=he ak hg
  simp only[bo,ZT,Zd]at this
  simp only[de,aw.cls]
  refine⟨by rw[← (Kj bK.1 (op:= .load false n x) (GL h ak hg)).1];exact bK.2,?_⟩
  simp only[aj,this,hy hg,ZM,Zf]
  have:=k.h
  rw[fC hg]at this
  exact this
 ·rw[← fB hg (v:=y)];exact k.h
end
end Go.Sx
namespace Go.Proofs.YtcccbdelfhgmlaaGreatDoor
open Go.Sx Go.Proofs Go.RowKit
theorem qK(b:UInt8):(kK.drop b.toNat)[0]? =some (jx (aE b)):=by
 have h:b.toNat<256:=b.toNat_lt
 unfold kK
 rw[XK,YP,YA,List.getElem?_range h]
 simp
theorem abB(l:List UInt8):Lib.bytesOf (l.map fun b=>(b.toNat:Int))=l:=by
 unfold Lib.bytesOf
 rw[Yf]
 conv=>rhs;rw[← List.map_id l]
 exact List.map_congr_left fun b _=>by simp
theorem Eo(l:List UInt8)(hl:l≠[])(c:UInt8)(nn:Bool):Pure Tryz.prog 105 [.sl nn 1 (l.map ck),.v (.int .u8 c.toNat)] (iv (Lib.indexByte l c)):=by
 refine Pure.lj fun M w0 w σ cs hI hR=> ?_
 obtain⟨v1,vs,rfl,h1,h2⟩:=hR.bS
 obtain⟨v2,rfl,h3⟩:=h2.eg
 obtain rfl:=h3.ay
 rcases h1.qg with⟨a,_,h0,_⟩|⟨b,off,cap,cs,rfl,hr,h4,h5⟩
 ·exact absurd (YQ.1 h0) hl
 have hlen:(l.map ck).length=l.length:=Z3 _
 refine(Tryz.bytes_IndexByte b off _ cap (l.map fun b=>(b.toNat:Int)) c.toNat w (by simp) (fun i hi=> ?_)).mono fun e w' ⟨he,hw⟩=>⟨⟨_,he,?_⟩,by rw[hw];exact Below.refl _ _⟩
 ·have dk:i<l.length:=by omega
  have h6:=hI.dA _ _ _ (hr.mem i (by omega))
  have h7:=hr.rel i hi 0 (by simp[ck])
  simp only[Zm,ck,Yo,Yi,YP]at h7
  rw[h6,h7.ay]
  simp[ZY,dk]
 ·rw[abB]
  have:((c.toNat:Int).toNat.toUInt8)=c:=by simp
  rw[this];exact .v _
theorem RB(s:ae)(c:UInt8):Pure Tryz.prog 109 [sv s,.v (.int .u8 c.toNat)] (iv (Lib.indexByte s.data.toList c)):=by
 refine Pure.lj fun M w0 w σ cs hI hR=> ?_
 obtain⟨v1,vs,rfl,h1,h2⟩:=hR.bS
 obtain⟨v2,rfl,h3⟩:=h2.eg
 obtain rfl:=h3.ay
 obtain rfl:=h1.ay
 exact(Tryz.strings_IndexByte s c.toNat w).mono fun e w' ⟨he,hw⟩=>⟨⟨_,he,by
  have:((c.toNat:Int).toNat.toUInt8)=c:=by simp
  rw[this];exact .v _⟩,by rw[hw];exact Below.refl _ _⟩
theorem yo(l:List UInt8)(c:UInt8):0≤Lib.indexByte l c↔c∈l:=by
 induction l with
 |nil=>simp[Lib.indexByte]
 |cons b l ih=>
  have hg:=Lib.indexByte_ge l c
  unfold Lib.indexByte
  by_cases h:b=c
  ·subst h;simp
  ·have h1:(b == c)=false:=by simp[h]
   rw[h1]
   simp only[ZM,Zf]
   by_cases h2:Lib.indexByte l c= -1
   ·rw[h2]at ih ⊢
    have:¬c∈l:=fun hm=>absurd (ih.2 hm) (by decide)
    simp[this]
    exact fun e=>h e.symm
   ·have h3:(Lib.indexByte l c == -1)=false:=by simp[h2]
    rw[h3]
    have:c∈l:=ih.1 (by omega)
    simp[this];omega
theorem afp(l:List UInt8)(c:UInt8)(h:c∈l):Lib.indexByte l c=aC (fun b=>b != c) l:=by
 induction l with
 |nil=>cases h
 |cons b l ih=>
  unfold Lib.indexByte aC
  by_cases hb:b=c
  ·subst hb;simp
  ·have hm:c∈l:=by rcases ZV.1 h with e|e;exact absurd e.symm hb;exact e
   have h1:(b == c)=false:=by simp[hb]
   have hi:=ih hm
   have hg:=(yo l c).2 hm
   have h3:(Lib.indexByte l c == -1)=false:=by
    rw[YT];omega
   rw[h1,h3]
   have aJ:(b != c)=true:=by simp[hb]
   simp only[ZM,Zf,Zl,aJ,Y4,Z6]
   rw[hi];unfold aC;omega
theorem axr(l:List UInt8)(nn:Bool):Pure Tryz.prog 108 [.sl nn 1 (l.map ck)] (iv (wu l)):=by
 refine afJ.p fun σ=> ?_
 unfold wu
 repeat'(first|exact .nil|refine .k0 ?_|refine .k1 ?_|refine .k2 ?_|refine .k6 ?_|refine .k7 ?_|refine .k9 ?_|(refine .cd ?_ ?_<;>(intro hc;skip))|refine .r1 ?_ ?_|(refine .m2 ?_ ?_;intro hlen)|fail)
 all_goals(try simp only[BL]at *)
 ·rw[Z8 (by omega)];exact Zw
 rw[Z9 (by omega)]
 refine dU (fun m rg σ'=>∃ i:Nat,i≤l.length∧m=l.length-i∧(∀ c∈l.take i,¬(c.toNat<32∨c.toNat>126∨c=92))∧σ'=σ∧rg=[(8,.sl nn 1 (l.map ck)),(9,iv l.length),(10,iv i)]) l.length rfl ⟨_,_,Zr,Zs,0,ZH _,rfl,(fun c h=>by cases h),rfl,rfl⟩ ?_
 rintro m _ _ ⟨i,hi,hm,hg,rfl,rfl⟩
 repeat'(first|exact .nil|refine .k0 ?_|refine .k1 ?_|refine .k2 ?_|refine .k4 ?_|refine .k6 ?_|refine .k7 ?_|refine .k8 ?_|refine .k9 ?_|(refine .cd ?_ ?_<;>(intro hc;skip))|refine .r1 ?_ ?_|refine .t1 ?_ ?_ ?_|fail)
 try any_goals(exact Zo)
 all_goals(try simp only[BL]at *)
 ·have bJ:i<l.length:=by omega
  rw[Z8 ⟨l.getD i default,gb bJ,by rcases hc with(h|h)|h
                                   ·exact .inl (by omega)
                                   ·exact .inr (.inl (by omega))
                                   ·exact .inr (.inr (Yr.1 (by show(l.getD i default).toNat=92;omega)))⟩]
  exact Zw
 ·have bJ:i<l.length:=by omega
  refine⟨m-1,by omega,_,_,Zr,Zs,i+1,by omega,by omega,fun c hm=> ?_,rfl,by rw[iQ bJ (by assumption)]⟩
  rw[ZF bJ,← getD_eq bJ,ZG,ZI]at hm
  rcases hm with hm|rfl
  ·exact hg c hm
  ·rintro(h|h|h)
   ·exact hc.1.1 (by omega)
   ·exact hc.1.2 (by omega)
   ·exact hc.2 (by rw[h];rfl)
 ·have bJ:i=l.length:=by omega
  subst bJ
  rw[XU]at hg
  rw[Z9 (fun⟨c,h1,h2⟩=>hg c h1 h2)]
  exact Zw
def runN(ps:List UInt8)(s:List UInt8):Nat:=aC (fun b=>decide (UInt8.ofNat (aE b)∈ps)) s
theorem T6{ps:List UInt8}{s:List UInt8}{i:Nat}(h:i<s.length):runN ps (s.drop i)=if UInt8.ofNat (aE (s.getD i default))∈ps then runN ps (s.drop (i+1))+1 else 0:=by
 unfold runN aC
 rw[Y8 h,getD_eq h]
 by_cases hm:UInt8.ofNat (aE s[i])∈ps
 ·rw[Z8 hm,Zl,Z8 (Zi hm),Z6]
 ·rw[Z9 hm,Zl,Z9 (by simp[hm])];rfl
theorem KJ(ps s:List UInt8):runN ps s≤s.length:=by
 unfold runN aC
 exact(List.takeWhile_sublist _).length_le
theorem abO(b:UInt8):(UInt8.ofNat (aE b)).toNat=aE b:=by
 have:aE b<9:=by unfold aE;repeat' split
                 all_goals omega
 simp;omega
theorem aib(ps:List UInt8)(ak:ps≠[])(src:List UInt8)(hl:src.length≤16384)(nn n2:Bool)(from_:Nat)(hf:from_≤src.length):
  Pure Tryz.prog 104 [iv from_,.sl nn 1 (ps.map ck),.pc [.sl n2 1 (src.map ck)],.pc [.pc kK]] (iv (from_+runN ps (src.drop from_):Nat)):=by
 refine Pure.dF (fun i=>bif Nat.beq i 1000019 then 1 else 0) Tryz.func104 abS ac9 (Z7 rfl) fun σ=> ?_
 repeat'(first|exact .nil|refine .k0 ?_|refine .k1 ?_|refine .k2 ?_|refine .k6 ?_|refine .r1 ?_ ?_|fail)
 all_goals(try simp only[BL]at *)
 refine dU (fun m rg σ'=>∃ i:Nat,from_≤i∧i≤src.length∧m=src.length-i∧from_+runN ps (src.drop from_)=i+runN ps (src.drop i)∧σ'=σ∧rg=[(0,iv i),(1,.sl nn 1 (ps.map ck)),(2,.pc [.sl n2 1 (src.map ck)]),(3,.pc [.pc kK])]) (src.length-from_) rfl ⟨_,_,Zr,Zs,from_,ZR _,hf,rfl,rfl,rfl,rfl⟩ ?_
 rintro m _ _ ⟨i,oe,hi,hm,he,rfl,rfl⟩
 rw[he]
 repeat'(first|exact .nil|refine .k1 ?_|refine .k3 ?_|refine .k4 ?_|refine .k5 ?_|refine .r1 ?_ ?_|refine .t1 ?_ ?_ ?_|refine .r2 ?_ ?_|fail)
 try any_goals(exact Zo)
 all_goals(try simp only[BL]at *)
 ·exact fun h=>⟨by omega,by have:=(src.getD i default).toNat_lt;show _<(256:Int);omega⟩
 refine qE (.v (.int .u8 ((UInt8.ofNat (aE (src.getD i default))).toNat:Nat))) rfl (fun _=> ?_) rfl ?_ ?_
 ·rw[abO];have:=qK (src.getD i default);simpa[jx]using this
 ·exact .cons (fun h=>h) .nil
 repeat'(first|exact .nil|refine .k0 ?_|refine .k1 ?_|refine .k2 ?_|refine .k4 ?_|refine .k6 ?_|refine .k7 ?_|refine .k8 ?_|refine .k9 ?_|(refine .cd ?_ ?_<;>(intro hc;skip))|refine .r1 ?_ ?_|refine .an rfl (by intro br;exact Eo ps ak _ nn) ?_ ?_|fail)
 all_goals(try simp only[BL]at *)
 ·have bJ:i<src.length:=by omega
  have lU:=(yo _ _).1 hc.2
  refine⟨m-1,by omega,_,_,Zr,Zs,i+1,by omega,by omega,by omega,?_,rfl,by rw[iQ bJ (by unfold maxLen;omega)]⟩
  rw[T6 bJ,Z8 lU];omega
 ·by_cases bJ:i<src.length
  ·have lU:¬UInt8.ofNat (aE (src.getD i default))∈ps:=fun h=>(hc.resolve_left (fun h=>h (by omega))) ((yo _ _).2 h)
   rw[T6 bJ,Z9 lU];exact Zw
  ·have bJ:i=src.length:=by omega
   subst bJ
   rw[List.drop_length]
   exact Zw
end Go.Proofs.YtcccbdelfhgmlaaGreatDoor
