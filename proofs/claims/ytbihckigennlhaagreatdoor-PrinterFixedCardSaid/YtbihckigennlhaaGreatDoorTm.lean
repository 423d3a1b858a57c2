/- ParserRecovers, plain: a wrong item turns nothing in front of it or behind it. -/
import Derived.Test.YtbihckigennlhaaGreatDoorTj
import Derived.Lib.ItoaMem
import Derived.Test.YtbihckigennlhaaGreatDoorPc
import Derived.Test.YtbihckigennlhaaGreatDoorYa
set_option linter.unusedVariables false
set_option linter.unusedSimpArgs false
set_option maxRecDepth 100000
namespace Go.Proofs.YtbihckigennlhaaGreatDoor
open Go.Sx Go.Proofs
structure Gk(w:Bs)(p:Int):Prop where
 len:w.length≤100
 pos:0≤p∧p<w.length
 lex:(cJ w.length 0 (-1) w).2=[]
 item:∀ A e,(cJ w.length 0 (-1) w).1=A++[e]→∀ B,B≠[]→(hd (A++B)).kind≠6∧DP (A++B)= .err p 90∧G1 p (A++B)=B
theorem Gk.of{w:Bs}{p:Int}{A:List Tok}(h1:w.length≤100)(h2:0≤p∧p<w.length)(h3:cJ w.length 0 (-1) w=(A++[⟨6,⟨#[]⟩,(w.length:Int)⟩],[]))(h4:∀ b B,(hd (A++b::B)).kind≠6∧DP (A++b::B)= .err p 90∧G1 p (A++b::B)=b::B):Gk w p:=by
 refine⟨h1,h2,by rw[h3],fun A' e he B hB=> ?_⟩
 rw[h3]at he
 obtain⟨e1,_⟩:=List.append_inj' he rfl
 subst e1
 cases B with
 |nil=>exact absurd rfl hB
 |cons b B=>exact h4 b B
set_option linter.unusedSectionVars false
def aG(t:Tok):Bs:=if t.kind=4 then 34::(t.text.data.toList++[34])else t.text.data.toList
def ka(p:UInt8→Bool)(r:Bs):Prop:=r=[]∨∃ x t,r=x::t∧p x=false
def F9(r:Bs):Prop:=r=[]∨∃ t,r=32::t
theorem F9.stop{r:Bs}(h:F9 r){p:UInt8→Bool}(hp:p 32=false):ka p r:=by
 rcases h with rfl|⟨t,rfl⟩
 ·exact .inl rfl
 ·exact .inr ⟨_,_,rfl,hp⟩
theorem MZ{p:UInt8→Bool}{r:Bs}(hr:ka p r):∀ u:Bs,(∀ c∈u,p c=true)→(u++r).takeWhile p=u
 |[],_=>by rcases hr with rfl|⟨x,t,rfl,hx⟩<;>simp[List.takeWhile, *]
 |c::u,h=>by
  rw[ZH,ZB,h c ZR,if_pos rfl,MZ hr u fun x hx=>h x (ZX _ hx)]
theorem xW{p:UInt8→Bool}{r:Bs}(hr:ka p r){u:Bs}(h:∀ c∈u,p c=true):az p (u++r)=u.length:=by unfold az;rw[MZ hr u h]
theorem abj{c:UInt8}{W r:Bs}(hc:aB c=2)(hW:∀ x∈c::W,eM x=true)(hr:ka eM r):aJ (c::(W++r))=(1,W.length+1,if W.length+1>24 then 2 else 0):=by
 have h:az eM (c::(W++r))=W.length+1:=xW (u:=c::W) hr hW
 unfold aJ;simp[hc,h]
theorem abe{c:UInt8}{W r:Bs}(hc:aB c=3)(hW:∀ x∈c::W,aW x=true)(hr:ka aW r)(hn:¬(r.head? =some 46∧az aW (r.drop 1)>0)):aJ (c::(W++r))=(2,W.length+1,kD (c::W)):=by
 have h:az aW (c::(W++r))=W.length+1:=xW (u:=c::W) hr hW
 have h2:(c::(W++r)).drop (W.length+1)=r:=by simp
 have h3:(c::(W++r)).take (W.length+1)=c::W:=by simp
 unfold aJ;simp only[h,h2,h3,hc]
 rw[if_neg (by decide),if_neg (by decide),if_neg (by decide),if_pos trivial,if_neg hn]
theorem abd{c:UInt8}{W V r:Bs}(hc:aB c=3)(hW:∀ x∈c::W,aW x=true)(hV:∀ x∈V,aW x=true)(hv:V≠[])(hr:ka aW r):aJ (c::(W++(46::(V++r))))=(3,W.length+1+1+V.length,jn (c::(W++46::V))):=by
 have h:az aW (c::(W++(46::(V++r))))=W.length+1:=xW (u:=c::W) (.inr ⟨46,_,rfl,by decide⟩) hW
 have h2:(c::(W++(46::(V++r)))).drop (W.length+1)=46::(V++r):=by simp
 have h4:az aW (V++r)=V.length:=xW hr hV
 have h3:(c::(W++(46::(V++r)))).take (W.length+1+1+V.length)=c::(W++46::V):=by
  have:c::(W++(46::(V++r)))=(c::(W++46::V))++r:=by simp
  rw[this,Y1 (by simp;omega),ZD (by simp;omega)]
 unfold aJ;simp only[h,h2,hc,List.drop_succ_cons,List.drop_zero,h4,List.head?_cons]
 rw[if_neg (by decide),if_neg (by decide),if_neg (by decide),if_pos trivial,if_pos ⟨trivial,YU.2 hv⟩,h3]
theorem abg{W r:Bs}(hW:∀ x∈W,(x != 34 && x != 10)=true):aJ (34::(W++34::r))=(4,W.length+2,sB W):=by
 have h:az (fun b=>b != 34 && b != 10) (W++34::r)=W.length:=xW (.inr ⟨34,_,rfl,by decide⟩) hW
 have hc:aB 34=5:=by decide
 unfold aJ;simp[h,hc]
theorem abh{c:UInt8}(r:Bs)(hc:aB c=7∨aB c=8)(h:c=61∨c=33∨c=60):aJ (c::61::r)=(5,2,0):=by
 unfold aJ
 simp only
 rw[if_neg (by omega),if_neg (by omega),if_neg (by omega),if_neg (by omega),if_neg (by omega),if_pos hc,if_pos ⟨rfl,h⟩]
theorem abf{c:UInt8}{r:Bs}(hc:aB c=7∨aB c=8)(h:c≠33)(hr:¬(r.head? =some 61∧(c=61∨c=33∨c=60))):aJ (c::r)=(5,1,0):=by
 unfold aJ
 simp only
 rw[if_neg (by omega),if_neg (by omega),if_neg (by omega),if_neg (by omega),if_neg (by omega),if_pos hc,if_neg hr,if_pos h]
def Up:Int→List Tok→Prop
 |_,[]=>True
 |lo,t::L=>lo≤t.at_∧Up (t.at_+1) L
theorem Up.mono:∀ {L:List Tok} {lo DY:Int},Up lo L→DY≤lo→Up DY L
 |[],_,_,_,_=>trivial
 |t::L,lo,DY,h,hl=>⟨by have:=h.1;omega,h.2⟩
theorem G0(s:ag):(⟨s.data.toList.toArray⟩:ag)=s:=by cases s;simp
where atV:∀ u:Bs, -1≤(aJ u).1
 |[]=>by decide
 |c::r=>by
  unfold aJ
  simp only
  repeat' split
  all_goals first|decide|(simp only;omega)
set_option linter.unusedSectionVars false
abbrev Pc:=UInt8 ⊕ Tok
def aI:List Pc→Bs
 |[]=>[]
 | .inl b::L=>b::aI L
 | .inr t::L=>aG t++aI L
def ak:Int→List Pc→List Tok
 |p,[]=>[⟨6,⟨#[]⟩,p⟩]
 |p,.inl _::L=>ak (p+1) L
 |p,.inr t::L=>⟨t.kind,t.text,p⟩::ak (p+(aG t).length) L
structure nL(t:Tok)(r:Bs):Prop where
 kind:1≤t.kind∧t.kind≤5
 ne:aG t≠[]
 self:aJ (aG t++r)=(t.kind,(aG t).length,0)
def b7:List Pc→Prop
 |[]=>True
 | .inl b::L=>aB b=1∧b7 L
 | .inr t::L=>nL t (aI L)∧b7 L
theorem DW:∀ (L:List Pc) (n:Nat) (p:Int),b7 L→(aI L).length≤n→cJ n p (-1) (aI L)=(ak p L,[])
 |[],n,p,_,_=>by show cJ n p (-1) []=_;rw[lex_nil];rfl
 | .inl b::L,n,p,hg,hn=>by
  simp only[aI,Z8]at hn
  obtain⟨m,rfl⟩:∃ m,n=m+1:=⟨n-1,by omega⟩
  have hp:aJ (b::aI L)=(0,1,0):=by unfold aJ;simp only;rw[if_pos hg.1]
  rw[aI,pU _ _ _ (by simp),hp]
  simp only
  rw[if_neg (by decide),if_neg (by decide),if_neg (by decide),if_neg (by decide)]
  exact DW L m _ hg.2 (by omega)
 | .inr t::L,n,p,hg,hn=>by
  obtain⟨⟨g1,g2,g3⟩,pD⟩:=hg
  have hlen:1≤(aG t).length:=YU.2 g2
  simp only[aI,Z7]at hn
  obtain⟨m,rfl⟩:∃ m,n=m+1:=⟨n-1,by omega⟩
  have aR:aG t++aI L≠[]:=by
   intro h;have:=congrArg List.length h;rw[Z7]at this;simp at this;exact g2 this.1
  rw[aI,pU _ _ _ aR,g3]
  simp only
  have gU:¬t.kind= -1:=by omega
  rw[if_neg gU,if_neg (by simp)]
  have UX:(aG t++aI L).drop (aG t).length=aI L:=by simp
  have V6:(aG t++aI L).take (aG t).length=aG t:=by simp
  rw[UX,V6,DW L m _ pD (by omega)]
  simp only
  by_cases h4:t.kind=4
  ·rw[if_pos h4]
   have kC:aG t=34::(t.text.data.toList++[34]):=by unfold aG;rw[if_pos h4]
   have:(((aG t++aI L).take ((aG t).length-1)).drop 1)=t.text.data.toList:=by
    rw[kC];simp
   rw[this,← h4,G0,ak]
  ·rw[if_neg h4,if_pos (by omega)]
   have kC:(⟨(aG t).toArray⟩:ag)=t.text:=(congrArg (fun l:Bs=>(⟨l.toArray⟩:ag)) (show aG t=t.text.data.toList from if_neg h4)).trans (G0 _)
   rw[kC,ak]
theorem asQ{L:List Pc}(hg:b7 L):dD (aI L)=(ak 0 L,[]):=by
 unfold dD
 simp only
 rw[DW L _ 0 hg (ZK _)];rfl
theorem oF(A B:List Pc):aI (A++B)=aI A++aI B:=by
 induction A with
 |nil=>rfl
 |cons a A ih=>cases a<;>simp[aI,ih]
def tW(s:ag):Tok:=⟨1,s,0⟩
def tI(n:Nat):Tok:=⟨2,⟨(Lib.decDigits n).toArray⟩,0⟩
def tS(c:UInt8):Tok:=⟨5,ch c,0⟩
theorem Kp{n:UInt8}(h:fP n.toNat):aB n=2:=by
 unfold fP at h
 unfold aB
 rw[if_neg (by rintro(h|h|h|h)<;>(subst h;revert h;decide)),if_pos (by omega)]
theorem WQ{n:UInt8}(h:ia n.toNat):eM n=true:=by
 have key:aB n=2∨aB n=3∨aB n=4:=by
  rcases h with h|h|h
  ·exact .inl (Kp h)
  ·unfold fg at h
   unfold aB
   rw[if_neg (by rintro(h|h|h|h)<;>(subst h;revert h;decide)),if_neg (by omega),if_pos (by omega)]
   exact .inr (.inl rfl)
  ·have:n=95:=YD.1 h
   subst this;decide
 exact Zn key
theorem vX{n:UInt8}(h:fg n.toNat):aB n=3:=by
 unfold fg at h
 unfold aB
 rw[if_neg (by rintro(h|h|h|h)<;>(subst h;revert h;decide)),if_neg (by omega),if_pos (by omega)]
theorem G6{s:ag}{P:UInt8→Prop}(h:∀ i,i<s.size→P (bH s i)):∀ c∈s.data.toList,P c:=fun c hc=>by
 obtain⟨i,hi,rfl⟩:=Zf.1 hc
 have:=h i (by simpa using hi)
 unfold bH at this
 rwa [ZV,Z1 hi]at this
theorem vi{s:ag}(h:Word s){r:Bs}(hr:ka eM r):nL (tW s) r:=by
 obtain⟨h1,h2,h3,h4⟩:=h
 have kC:aG (tW s)=s.data.toList:=by unfold aG tW;exact if_neg (show¬(1:Int)=4 by decide)
 have cw:∀ x∈s.data.toList,eM x=true:=G6 fun i hi=>WQ (h4 i hi)
 have aT:s.data.toList.length=s.size:=rfl
 refine⟨(show(1:Int)≤1∧(1:Int)≤5 by decide),by rw[kC];intro e;rw[e]at aT;simp at aT;omega,?_⟩
 rw[kC]
 unfold bH at h3
 cases e:s.data.toList with
 |nil=>rw[e]at aT;simp at aT;omega
 |cons c W=>
  rw[e]at h3 cw aT
  have h3:fP c.toNat:=h3
  rw[ZH,abj (Kp h3) cw hr,if_neg (by simp at aT;omega)];rfl
theorem LK{n:Nat}(h:n<10):Lib.decDigits n=[UInt8.ofNat (48+n)]:=by rw[Lib.decDigits,dif_pos h]
theorem LJ{n:Nat}(h:¬n<10):Lib.decDigits n=Lib.decDigits (n / 10)++[UInt8.ofNat (48+n % 10)]:=by rw[Lib.decDigits,dif_neg h]
theorem uY{d:Nat}(h:d<10):(UInt8.ofNat (48+d)).toNat=48+d:=by
 rw[UInt8.toNat_ofNat'];omega
theorem D1(c:UInt8):∀ (l:Bs) (a:Nat),bW (l++[c]) a=10 * bW l a+(c.toNat-48)
 |[],a=>rfl
 |b::l,a=>D1 c l _
theorem Af(n:Nat):bW (Lib.decDigits n) 0=n:=by
 induction n using Nat.strongRecOn with
 |_ n ih=>
  by_cases h:n<10
  ·rw[LK h];show 10 * 0+_=_;rw[uY h];omega
  ·rw[LJ h,D1,ih _ (by omega),uY (by omega)];omega
theorem Eo(n:Nat):Lib.decDigits n≠[]∧∀ c∈Lib.decDigits n,fg c.toNat:=by
 induction n using Nat.strongRecOn with
 |_ n ih=>
  by_cases h:n<10
  ·rw[LK h];refine⟨by simp,fun c hc=> ?_⟩;rw[Y0.1 hc,uY h];unfold fg;omega
  ·rw[LJ h];refine⟨by simp,fun c hc=> ?_⟩
   rcases Zl.1 hc with hc|hc
   ·exact(ih _ (by omega)).2 c hc
   ·rw[Y0.1 hc,uY (by omega)];unfold fg;omega
theorem EM{n:Nat}(h:n≤1152921504606846976){r:Bs}(hr:ka aW r)(hp:r.head?≠some 46):nL (tI n) r:=by
 obtain⟨h1,h2⟩:=Eo n
 have kC:aG (tI n)=Lib.decDigits n:=by unfold aG tI;exact if_neg (show¬(2:Int)=4 by decide)
 refine⟨(show(1:Int)≤2∧(2:Int)≤5 by decide),by rw[kC];exact h1,?_⟩
 rw[kC]
 have hI:kD (Lib.decDigits n)=0:=by unfold kD;rw[Af,if_neg (by omega)]
 have cw:∀ x∈Lib.decDigits n,aW x=true:=fun x hx=>Zn (vX (h2 x hx))
 cases e:Lib.decDigits n with
 |nil=>exact absurd e h1
 |cons c W=>
  rw[e]at h2 hI cw
  rw[ZH,abe (vX (h2 c ZR)) cw hr (fun h=>hp h.1),hI];rfl
theorem vh{c:UInt8}(hc:aB c=7){r:Bs}(hr:¬((c=61∨c=60)∧r.head? =some 61)):nL (tS c) r:=by
 have kC:aG (tS c)=[c]:=rfl
 refine⟨(show(1:Int)≤5∧(5:Int)≤5 by decide),by rw[kC];simp,?_⟩
 rw[kC]
 have kq:c≠33:=fun e=>by subst e;revert hc;decide
 exact abf (.inl hc) kq fun⟨h1,h2⟩=>hr ⟨h2.elim .inl fun h=>h.elim (fun h=>absurd h kq) .inr,h1⟩
def fS(f:aq):List Tok:=tW f.name::(if f.exp=1 then[]else tS 94::(if f.exp<0 then[tS 45,tI f.exp.natAbs]else[tI f.exp.natAbs]))
def fU:List aq→List Tok
 |[]=>[]
 |[f]=>fS f
 |f::g::l=>fS f++tS 42::fU (g::l)
abbrev da(l:List Tok):List Pc:=l.map .inr
theorem ng{c:UInt8}(h:¬(c=61∨c=60)){p:Prop}:¬((c=61∨c=60)∧p):=fun h2=>h h2.1
def yw(r:Bs):Prop:=∃ c t,r=c::t∧aB c=7
theorem yw.stop{r:Bs}(h:yw r):ka eM r∧ka aW r∧r.head?≠some 46:=by
 obtain⟨c,t,rfl,hc⟩:=h
 have h1:eM c=false:=by unfold eM;simp[hc]
 have h2:aW c=false:=by unfold aW;simp[hc]
 refine⟨.inr ⟨_,_,rfl,h1⟩,.inr ⟨_,_,rfl,h2⟩,fun e=> ?_⟩
 simp only[List.head?_cons,Z6]at e
 subst e;revert hc;decide
theorem Im{f:aq}(hw:Word f.name)(he:f.exp.natAbs≤1152921504606846976){R:List Pc}(hR:b7 R)(hs:yw (aI R)):b7 (da (fS f)++R):=by
 obtain⟨s1,s2,s3⟩:=hs.stop
 have pz:aB 94=7:=by decide
 have qV:aB 45=7:=by decide
 unfold fS
 split
 ·exact⟨vi hw s1,hR⟩
 ·split
  ·exact⟨vi hw (.inr ⟨94,_,rfl,by decide⟩),vh pz (ng (by decide)),vh qV (ng (by decide)),EM he s2 s3,hR⟩
  ·exact⟨vi hw (.inr ⟨94,_,rfl,by decide⟩),vh pz (ng (by decide)),EM he s2 s3,hR⟩
theorem It:∀ {l:List aq},(∀ f∈l,Word f.name∧f.exp.natAbs≤1152921504606846976)→∀ {R:List Pc},b7 R→yw (aI R)→b7 (da (fU l)++R)
 |[],_,R,hR,_=>hR
 |[f],h,R,hR,hs=>Im (h f (by simp)).1 (h f (by simp)).2 hR hs
 |f::g::l,h,R,hR,hs=>by
  have ih:=It (l:=g::l) (fun x hx=>h x (ZX _ hx)) hR hs
  have:da (fU (f::g::l))++R=da (fS f)++(.inr (tS 42)::(da (fU (g::l))++R)):=by simp[fU,da]
  rw[this]
  exact Im (h f (by simp)).1 (h f (by simp)).2 ⟨vh (by decide) (ng (by decide)),ih⟩ ⟨42,_,rfl,by decide⟩
theorem EC{k:Int}{s:ag}{t:Tok}{L:List Tok}:ar k s (t::L)=(decide (t.kind=k) && decide (t.text=s)):=rfl
theorem Iu{f:aq}(hn:Name f.name)(he:f.exp.natAbs≤1000)(R:List Pc)(hR:∀ p,ar 5 (ch 94) (ak p R)=false)(p:Int):∃ q,dG (ak p (da (fS f)++R))= .ok f (ak q R):=by
 have Dg:∀ L:List Tok,eN (⟨1,f.name,p⟩::L)= .ok f.name L:=fun L=>by
  unfold eN
  exact(if_neg (show¬¬Name f.name from fun h=>h hn)).trans rfl
 have JR:∀ (q:Int) (L:List Tok),dZ (⟨2,(tI f.exp.natAbs).text,q⟩::L)= .ok (f.exp.natAbs:Int) L:=fun q L=>by
  have:sd (tI f.exp.natAbs).text=(f.exp.natAbs:Int):=by
   show((bW (Lib.decDigits f.exp.natAbs) 0:Nat):Int)=_
   rw[Af]
  show PR.ok (sd (tI f.exp.natAbs).text) L=_
  rw[this]
 have hf:∀ n e,n=f.name→e=f.exp→(⟨n,e⟩:aq)=f:=fun n e h1 h2=>by subst h1 h2;rfl
 unfold fS
 split
 ·rename_i h1
  refine⟨p+(aG (tW f.name)).length,?_⟩
  show dG (⟨1,f.name,p⟩::ak (p+(aG (tW f.name)).length) R)=_
  unfold dG
  rw[Dg,PR.aD,if_neg (by rw[hR];decide),hf _ _ rfl h1.symm]
 ·rename_i h1
  split
  ·rename_i h2
   refine⟨p+(aG (tW f.name)).length+(aG (tS 94)).length+(aG (tS 45)).length+(aG (tI f.exp.natAbs)).length,?_⟩
   show dG (⟨1,f.name,p⟩::⟨5,ch 94,p+(aG (tW f.name)).length⟩::⟨5,ch 45,p+(aG (tW f.name)).length+(aG (tS 94)).length⟩::⟨2,(tI f.exp.natAbs).text,p+(aG (tW f.name)).length+(aG (tS 94)).length+(aG (tS 45)).length⟩::ak _ R)=_
   unfold dG
   rw[Dg,PR.aD,if_pos (by rfl),List.tail_cons,if_pos (by rfl),List.tail_cons,JR]
   refine congrArg (fun x=>PR.ok x _) (hf _ _ rfl ?_)
   omega
  ·rename_i h2
   refine⟨p+(aG (tW f.name)).length+(aG (tS 94)).length+(aG (tI f.exp.natAbs)).length,?_⟩
   show dG (⟨1,f.name,p⟩::⟨5,ch 94,p+(aG (tW f.name)).length⟩::⟨2,(tI f.exp.natAbs).text,p+(aG (tW f.name)).length+(aG (tS 94)).length⟩::ak _ R)=_
   unfold dG
   rw[Dg,PR.aD,if_pos (by rfl),List.tail_cons,if_neg (by simp[EC]),JR]
   refine congrArg (fun x=>PR.ok x _) (hf _ _ rfl ?_)
   omega
theorem KL:∀ (l:List aq),(∀ f∈l,Name f.name∧f.exp.natAbs≤1000)→∀ (n:Nat) (acc:List aq) (R:List Pc),l.length≤n→(∀ p,ar 5 (ch 94) (ak p R)=false)→(∀ p,ar 5 (ch 42) (ak p R)=false)→
  ∀ p,∃ q,jv (ch 42) dG n (ak p ((l.flatMap fun f=> .inr (tS 42)::da (fS f))++R)) acc= .ok (acc++l) (ak q R)
 |[],_,n,acc,R,_,_,h2,p=>⟨p,by cases n<;>simp[jv,h2]⟩
 |f::l,hf,0,acc,R,hn,_,_,p=>by simp at hn
 |f::l,hf,n+1,acc,R,hn,h1,h2,p=>by
  have lM:∀ p,ar 5 (ch 94) (ak p ((l.flatMap fun f=> .inr (tS 42)::da (fS f))++R))=false:=fun p=>by
   cases l with
   |nil=>exact h1 p
   |cons g l=>rfl
  obtain⟨q,hq⟩:=Iu (hf f (by simp)).1 (hf f (by simp)).2 _ lM (p+(aG (tS 42)).length)
  obtain⟨q2,dH⟩:=KL l (fun x hx=>hf x (ZX _ hx)) n (acc++[f]) R (by simp at hn;omega) h1 h2 q
  refine⟨q2,?_⟩
  have e:ak p (((f::l).flatMap fun f=> .inr (tS 42)::da (fS f))++R)=⟨5,ch 42,p⟩::ak (p+(aG (tS 42)).length) (da (fS f)++((l.flatMap fun f=> .inr (tS 42)::da (fS f))++R)):=by
   simp only[List.flatMap_cons,ZH,Zv];rfl
  rw[e]
  unfold jv
  rw[if_pos (by rfl),List.tail_cons,hq,PR.aD,dH]
  simp
theorem Is(f:aq):∀ (l:List aq),da (fU (f::l))=da (fS f)++(l.flatMap fun f=> .inr (tS 42)::da (fS f))
 |[]=>by simp[fU]
 |g::l=>by
  have:=Is g l
  show da (fS f++tS 42::fU (g::l))=_
  simp only[da,Y2,ZL]at this ⊢
  rw[this];simp
theorem aao(l:List aq)(hl:l≠[])(hf:∀ f∈l,Name f.name∧f.exp.natAbs≤1000)(hn:l.length≤1000)(R:List Pc)(h1:∀ p,ar 5 (ch 94) (ak p R)=false)(h2:∀ p,ar 5 (ch 42) (ak p R)=false)(p:Int):∃ q,fX (ch 42) dG (ak p (da (fU l)++R))= .ok l (ak q R):=by
 cases l with
 |nil=>exact absurd rfl hl
 |cons f l=>
  have lM:∀ p,ar 5 (ch 94) (ak p ((l.flatMap fun f=> .inr (tS 42)::da (fS f))++R))=false:=fun p=>by
   cases l with
   |nil=>exact h1 p
   |cons g l=>rfl
  obtain⟨q,hq⟩:=Iu (hf f (by simp)).1 (hf f (by simp)).2 _ lM p
  obtain⟨q2,dH⟩:=KL l (fun x hx=>hf x (ZX _ hx)) N0 [f] R (by simp at hn;show _≤1000000;omega) h1 h2 q
  refine⟨q2,?_⟩
  rw[Is,Zv]
  unfold fX
  rw[hq,PR.aD,dH];rfl
def qp(l:List aq):List Tok:=tS 91::(fU l++[tS 93])
theorem as4(l:List aq)(hl:l≠[])(hf:∀ f∈l,Name f.name∧f.exp.natAbs≤1000)(hn:l.length≤1000)(R:List Pc)(p:Int):
  ∃ q,gK (ak p (da (qp l)++R))=if(fZ l).2≠0 then .err p (fZ l).2 else .ok (fZ l).1 (ak q R):=by
 have e:da (qp l)++R= .inr (tS 91)::(da (fU l)++ .inr (tS 93)::R):=by simp[qp]
 obtain⟨q,hq⟩:=aao l hl hf hn (.inr (tS 93)::R) (fun p=>by rfl) (fun p=>by rfl) (p+(aG (tS 91)).length)
 refine⟨q+(aG (tS 93)).length,?_⟩
 rw[e]
 unfold gK
 rw[if_pos (by rfl)]
 show(fX (ch 42) dG (ak (p+(aG (tS 91)).length) (da (fU l)++ .inr (tS 93)::R))).bind _=_
 rw[hq,PR.aD]
 rfl
set_option linter.unusedSectionVars false
def tO(s:ag):Tok:=⟨5,s,0⟩
def tT(s:ag):Tok:=⟨4,s,0⟩
def tD(n:Nat):Tok:=⟨3,gy n,0⟩
abbrev sp:Pc:= .inl 32
abbrev pw(s:ag):Pc:= .inr (tW s)
abbrev ps(c:UInt8):Pc:= .inr (tS c)
def jb(s:ag):Tok:=if s=Fc∨s=Fa then tW s else tO s
def gG(u:List aq):List Pc:=if u=[]then[]else sp::da (qp u)
def jX(x:Ex):List Pc:=
 if x.val.kind=5 then[ps 64,pw x.name,sp,.inr (tT x.val.s)]
 else if x.val.kind=1 then pw (gb x.val.n)::gG x.unit
 else if x.val.kind=2 then .inr (tI x.val.n.toNat)::gG x.unit
 else if x.val.kind=3 then .inr (tD x.val.n.toNat)::gG x.unit
 else .inr (tT x.val.s)::gG x.unit
def cD(T:List Pc):List Pc:=ps 40::(T++[ps 41])
def fK(x:Ex)(T:Nat→List Pc)(i:Nat)(r:Int):List Pc:=if aF (x.args.getD i default)<r then cD (T i)else T i
def iX(w:eT):List Pc:=
 if w.kind=2 then[pw kR,sp,.inr (tI w.size.toNat)]else if w.kind=3 then[pw kS,sp,.inr (tI w.size.toNat)]
 else if w.kind=4 then[pw oR,sp,.inr (tI w.size.toNat)]else[pw nH]
def se(x:Ex)(T:Nat→List Pc):List Pc:=
 pw x.op::ps 40::pw x.table::((if x.op=db then[]else ps 44::sp::T 0)++((if x.param=0 then[]else[ps 44,sp,.inr (tI x.param.toNat)])
  ++(ps 44::sp::(iX x.win++((if x.args.getD 1 default=du then[]else sp::pw eP::sp::T 1)++[ps 41])))))
def sf(x:Ex)(T:Nat→List Pc):List Pc:=
 if x.op=ch 45 then ps 45::fK x T 0 8 else if x.op=cu then pw cu::sp::fK x T 0 4 else pw hU::cD (T 0)
def uS(x:Ex)(T:Nat→List Pc):List Pc:=fK x T 0 (iE x)++(sp:: .inr (jb x.op)::sp::fK x T 1 (aF x+1))
def uU(T:Nat→List Pc):List Pc:=pw ew::sp::(T 0++(sp::pw je::sp::(T 1++(sp::pw fC::sp::T 2))))
def uT(x:Ex)(T:Nat→List Pc):List Pc:=fK x T 0 1++(sp::pw fB::sp::fK x T 1 2)
def jx(x:Ex)(T:Nat→List Pc):List Pc:=
 if x.kind=1 then jX x else if x.kind=4 then pw x.name::sp::pw fM::sp::cD (T 0)else if x.kind=5 then se x T
 else if x.kind=6 then sf x T else if x.kind=7 then uS x T else if x.kind=8 then uU T else if x.kind=9 then uT x T else[pw x.name]
mutual
def pc:Ex→List Pc
 | .mk k o n t v u p w ks=>jx (.mk k o n t v u p w ks) (fun i=>(xH ks).getD i [])
def xH:List Ex→List (List Pc)
 |[]=>[]
 |x::l=>pc x::xH l
end
def iG(x:Ex)(i:Nat):List Pc:=(xH x.args).getD i []
theorem kL(x:Ex):pc x=jx x (iG x):=by cases x;rfl
theorem Lq:∀ (l:List Ex) (i:Nat),i<l.length→(xH l).getD i []=pc (l.getD i default)
 |[],_,h=>absurd h (by simp)
 |x::l,0,_=>rfl
 |x::l,i+1,h=>by
  have:=Lq l i (by simpa using h)
  simpa[xH]using this
theorem iY{x:Ex}{i:Nat}(h:i<x.args.length):iG x i=pc (x.args.getD i default):=Lq _ _ h
def bL(s:ag):Bs:=s.data.toList
theorem en(a b:ag):bL (a++b)=bL a++bL b:=vg a b
theorem ash(s:ag):aG (tO s)=bL s:=rfl
theorem AJ(s:ag):aG (tT s)=34::(bL s++[34]):=rfl
theorem EI(n:Nat):aG (tD n)=bL (gy n):=rfl
theorem xZ(n:Nat):aG (tI n)=Lib.decDigits n:=rfl
theorem asi(s:ag):aG (jb s)=bL s:=by unfold jb;split<;>rfl
theorem jY(s:ag)(L:List Pc):aI (pw s::L)=bL s++aI L:=rfl
theorem xI(c:UInt8)(L:List Pc):aI (ps c::L)=c::aI L:=rfl
theorem jy(c:UInt8)(L:List Pc):aI (.inl c::L)=c::aI L:=rfl
theorem oG(t:Tok)(L:List Pc):aI (.inr t::L)=aG t++aI L:=rfl
theorem uV:aI []=[]:=rfl
theorem EZ(u:List aq):bL (sC u)=[42].intercalate (u.map fun f=>bL (gi f)):=by
 show[42].intercalate ((u.map gi).map (·.data.toList))=_
 rw[Yv];rfl
theorem WR(n:Int):bL (jR n)=if n<0 then 45::Lib.decDigits n.natAbs else Lib.decDigits n.natAbs:=by
 unfold bL jR
 by_cases h:n<0
 ·obtain⟨d,rfl⟩:∃ d:Nat,n= -(d:Int):=⟨n.natAbs,by omega⟩
  rw[if_pos h,Lib.itoa_neg d (by omega),Int.natAbs_neg,Int.natAbs_natCast]
 ·obtain⟨d,rfl⟩:∃ d:Nat,n=(d:Int):=⟨n.toNat,by omega⟩
  rw[if_neg h,Lib.itoa_nonneg,Int.natAbs_natCast]
theorem Il(f:aq):aI (da (fS f))=bL (gi f):=by
 unfold fS gi
 by_cases h:f.exp=1
 ·rw[if_pos h,if_pos h]
  show bL f.name++[]=_
  rw[Zx]
 ·rw[if_neg h,if_neg h,en,en,WR]
  by_cases h2:f.exp<0
  ·rw[if_pos h2,if_pos h2]
   show bL f.name++([94]++([45]++(Lib.decDigits f.exp.natAbs++[])))=bL f.name++([94]++_)
   simp
  ·rw[if_neg h2,if_neg h2]
   show bL f.name++([94]++(Lib.decDigits f.exp.natAbs++[]))=bL f.name++([94]++_)
   simp
theorem WI(a b:Bs)(l:List Bs):[42].intercalate (a::b::l)=a++42::[42].intercalate (b::l):=by simp[List.intercalate,List.intersperse]
theorem Ir:∀ l:List aq,aI (da (fU l))=bL (sC l)
 |[]=>rfl
 |[f]=>by
  rw[EZ]
  show aI (da (fS f))=[42].intercalate [bL (gi f)]
  rw[Il];simp[List.intercalate]
 |f::g::l=>by
  have e:bL (sC (f::g::l))=bL (gi f)++42::bL (sC (g::l)):=by
   rw[EZ,EZ];exact WI _ _ _
  have e2:da (fU (f::g::l))=da (fS f)++(.inr (tS 42)::da (fU (g::l))):=by simp[fU,da]
  rw[e,e2,oF,Il]
  show _++([42]++aI (da (fU (g::l))))=_
  rw[Ir (g::l)];rfl
theorem A5(u:List aq):aI (gG u)=bL (j2 u):=by
 unfold gG j2
 by_cases h:u=[]
 ·rw[if_pos h,if_pos h];rfl
 ·rw[if_neg h,if_neg h]
  have e:da (qp u)= .inr (tS 91)::(da (fU u)++[.inr (tS 93)]):=by simp[qp]
  rw[e]
  show 32::91::aI (da (fU u)++[.inr (tS 93)])=_
  rw[oF,Ir,en,en];rfl
theorem xn(n:Int):bL (iD n)=Lib.decDigits n.toNat:=rfl
theorem aat{x:Ex}(hk:x.val.kind=1∨x.val.kind=2∨x.val.kind=3∨x.val.kind=4∨x.val.kind=5):aI (jX x)=bL (oA x):=by
 unfold jX oA
 by_cases k5:x.val.kind=5
 ·rw[if_pos k5,if_pos k5]
  simp only[en,jY,xI,jy,oG,uV,AJ]
  show 64::(bL x.name++32::(34::(bL x.val.s++[34])++[]))=[64]++(bL x.name++([32,34]++(bL x.val.s++[34])))
  simp
 rw[if_neg k5,if_neg k5,en]
 unfold sF
 by_cases k1:x.val.kind=1
 ·rw[if_pos k1,if_pos k1,jY,A5]
 rw[if_neg k1,if_neg k1]
 by_cases k2:x.val.kind=2
 ·rw[if_pos k2,if_pos k2,oG,A5,xZ,xn]
 rw[if_neg k2,if_neg k2]
 by_cases k3:x.val.kind=3
 ·rw[if_pos k3,if_pos k3,oG,A5,EI]
 have k4:x.val.kind=4:=by omega
 rw[if_neg k3,if_neg k3,if_pos k4,oG,A5,AJ,en,en]
 rfl
theorem Ec{T:List Pc}{s:ag}(h:aI T=bL s):aI (cD T)=bL (par s):=by
 unfold cD par
 rw[xI,oF,h,en,en];rfl
theorem tf{x:Ex}{T:Nat→List Pc}{S:Nat→ag}{i:Nat}{r:Int}(h:aI (T i)=bL (S i)):aI (fK x T i r)=bL (iN x S i r):=by
 unfold fK iN
 split
 ·exact Ec h
 ·exact h
theorem Ny(w:eT):aI (iX w)=bL (sJ w):=by
 unfold iX sJ
 split
 ·rw[en,xn];simp only[jY,jy,oG,uV,xZ,Zx];rfl
 split
 ·rw[en,xn];simp only[jY,jy,oG,uV,xZ,Zx];rfl
 split
 ·rw[en,xn];simp only[jY,jy,oG,uV,xZ,Zx];rfl
 ·rfl
theorem QG{x:Ex}{T:Nat→List Pc}{S:Nat→ag}(h0:aI (T 0)=bL (S 0))(h1:aI (T 1)=bL (S 1)):aI (se x T)=bL (fR x S):=by
 unfold se fR
 simp only[en,jY,xI,oF,Ny]
 have e1:aI (if x.op=db then[]else ps 44::sp::T 0)=bL (if x.op=db then⟨#[]⟩else⟨#[44,32]⟩++S 0):=by
  split
  ·rfl
  ·rw[en,← h0];rfl
 have e2:aI (if x.param=0 then[]else[ps 44,sp,.inr (tI x.param.toNat)])=bL (if x.param=0 then⟨#[]⟩else⟨#[44,32]⟩++iD x.param):=by
  split
  ·rfl
  ·rw[en,xn,xI,jy,oG,xZ,uV,Zx];rfl
 have e3:aI (if x.args.getD 1 default=du then[]else sp::pw eP::sp::T 1)=bL (if x.args.getD 1 default=du then⟨#[]⟩else⟨#[32,119,104,101,114,101,32]⟩++S 1):=by
  split
  ·rfl
  ·rw[en,← h1];rfl
 rw[e1,e2]
 show bL x.op++40::(bL x.table++(_++(_++(44::aI (sp::(iX x.win++(_++[ps 41])))))))=_
 rw[jy,oF,oF,Ny,e3]
 rfl
theorem asX{x:Ex}{T:Nat→List Pc}{S:Nat→ag}(h0:aI (T 0)=bL (S 0)):aI (sf x T)=bL (sA x S):=by
 unfold sf sA
 split
 ·rw[xI,tf h0,en];rfl
 split
 ·rw[jY,jy,tf h0,en];rfl
 ·rw[jY,Ec h0,en]
  unfold par
  rw[en,en];rfl
theorem Q9{x:Ex}{T:Nat→List Pc}{S:Nat→ag}(h0:aI (T 0)=bL (S 0))(h1:aI (T 1)=bL (S 1)):aI (uS x T)=bL (qJ x S):=by
 unfold uS qJ
 rw[oF,tf h0,jy,oG,asi,jy,tf h1]
 simp only[en];rfl
theorem Ww{T:Nat→List Pc}{S:Nat→ag}{x:Ex}(h0:aI (T 0)=bL (S 0))(h1:aI (T 1)=bL (S 1))(h2:aI (T 2)=bL (S 2)):aI (uU T)=bL (rR x S):=by
 unfold uU rR
 simp only[jY,jy,oF,h0,h1,h2,en];rfl
theorem St{x:Ex}{T:Nat→List Pc}{S:Nat→ag}(h0:aI (T 0)=bL (S 0))(h1:aI (T 1)=bL (S 1)):aI (uT x T)=bL (qN x S):=by
 unfold uT qN
 rw[oF,tf h0,jy,jY,jy,tf h1]
 simp only[en];rfl
theorem aav{x:Ex}(h:jS x):x.val.kind=1∨x.val.kind=2∨x.val.kind=3∨x.val.kind=4∨x.val.kind=5:=by
 have h3:=h.2.2.1
 unfold gY at h3
 split at h3
 ·omega
 ·rename_i h4
  simp only at h4
  omega
theorem aaS{x:Ex}{ins:Bool}(h:eF x ins)(hk:x.kind=1):jS x:=by
 unfold eF at h
 rwa [if_pos hk]at h
theorem Lr(x:Ex):∀ ins,form ins x=true→aI (pc x)=bL (text x):=by
 induction x using Ex.ind with
 |h x ih=>
 intro ins hf
 have F:=mr.of hf
 have bO:∀ i,i<x.args.length→aI (iG x i)=bL (tx x i):=fun i hi=>by
  rw[iY hi,x7 hi]
  exact ih _ (ei hi) _ (F.sub _ (ei hi))
 have hn:=F.nn
 rw[kL,AY]
 unfold jx vk
 by_cases k1:x.kind=1
 ·rw[if_pos k1,if_pos k1];exact aat (aav (aaS F.nb k1))
 rw[if_neg k1,if_neg k1]
 unfold jU at hn
 by_cases k4:x.kind=4
 ·rw[if_pos k4,if_pos k4]
  rw[if_pos (.inl k4)]at hn
  rw[jY,jy,jY,jy,Ec (bO 0 (by omega))]
  unfold par
  simp only[en];rfl
 rw[if_neg k4,if_neg k4]
 by_cases k5:x.kind=5
 ·rw[if_pos k5,if_pos k5]
  rw[if_neg (by omega),if_pos (.inl k5)]at hn
  exact QG (bO 0 (by omega)) (bO 1 (by omega))
 rw[if_neg k5,if_neg k5]
 by_cases k6:x.kind=6
 ·rw[if_pos k6,if_pos k6]
  rw[if_pos (.inr k6)]at hn
  exact asX (bO 0 (by omega))
 rw[if_neg k6,if_neg k6]
 by_cases k7:x.kind=7
 ·rw[if_pos k7,if_pos k7]
  rw[if_neg (by omega),if_pos (.inr (.inl k7))]at hn
  exact Q9 (bO 0 (by omega)) (bO 1 (by omega))
 rw[if_neg k7,if_neg k7]
 by_cases k8:x.kind=8
 ·rw[if_pos k8,if_pos k8]
  rw[if_neg (by omega),if_neg (by omega),if_pos k8]at hn
  exact Ww (bO 0 (by omega)) (bO 1 (by omega)) (bO 2 (by omega))
 rw[if_neg k8,if_neg k8]
 by_cases k9:x.kind=9
 ·rw[if_pos k9,if_pos k9]
  rw[if_neg (by omega),if_pos (.inr (.inr k9))]at hn
  exact St (bO 0 (by omega)) (bO 1 (by omega))
 rw[if_neg k9,if_neg k9,jY,uV,Zx]
set_option linter.unusedSectionVars false
structure Fl(r:Bs):Prop where
 w:ka eM r
 dot:r.head?≠some 46
theorem Fl.cons{c:UInt8}{r:Bs}(h:eM c=false)(h2:c≠46):Fl (c::r):=⟨.inr ⟨c,r,rfl,h⟩,fun e=>h2 (Zc e)⟩
theorem Fl.nil:Fl []:=⟨.inl rfl,by simp⟩
theorem Fl.d{r:Bs}(h:Fl r):ka aW r:=by
 rcases h.w with h1|⟨x,t,h1,h2⟩
 ·exact .inl h1
 ·refine .inr ⟨x,t,h1,?_⟩
  unfold eM at h2
  unfold aW
  simp only[decide_eq_false_iff_not]at h2 ⊢
  exact fun e=>h2 (.inr (.inl e))
theorem EV{t:Ty}(h:gY t=0):(1≤t.kind∧t.kind≤5)∧(t.unit≠[]→Num t)∧(t.kind=5→Name t.of)∧(t.kind≠5→t.of=⟨#[]⟩)∧(∀ f∈t.unit,Name f.name)∧jc t.unit=0:=by
 unfold gY at h
 split at h
 ·omega
 ·split at h
  ·omega
  ·refine⟨by omega,by grind,by grind,by grind,by grind,by grind⟩
theorem E1{v:dQ}(h:mb v=0):pn v∧v.n≤1152921504606846976∧(v.kind=4→v.s.size≤64∧lh v.s 32)∧(v.kind=5→1≤v.s.size∧v.s.size≤32∧lh v.s 33):=by
 unfold mb at h
 split at h
 ·omega
 ·split at h
  ·omega
  ·split at h
   ·omega
   ·rename_i h1 h2 h3
    refine⟨by grind,by omega,fun h4=>⟨by omega,by grind⟩,fun h5=>⟨?_,by omega,by grind⟩⟩
    have:¬v.s=⟨#[]⟩:=fun e=>h3 (.inr ⟨h5,.inl e⟩)
    have h0:v.s.size≠0:=fun e=>this (AG.1 e)
    omega
theorem LA{s:ag}{low:Nat}(h:lh s low)(hl:32≤low):∀ c∈bL s,(c != 34 && c != 10)=true∧¬(c.toNat<32∨c.toNat>126∨c=92)∧low≤c.toNat:=fun c hc=>by
 have:=G6 (P:=fun b=>pr low b) h c hc
 unfold pr at this
 have h1:c≠34:=fun e=>this.2.2.1 (by rw[e];rfl)
 have h2:c≠10:=fun e=>by rw[e]at this;have:=this.1;simp at this;omega
 have h3:c≠92:=fun e=>this.2.2.2 (by rw[e];rfl)
 refine⟨by simp[h1,h2],?_,this.1⟩
 rintro(k|k|k)
 ·omega
 ·omega
 ·exact h3 k
theorem ML{s:ag}{low:Nat}(h:lh s low)(hl:32≤low)(hs:s.size≤64)(r:Bs):nL (tT s) r:=by
 have ha:=LA h hl
 refine⟨(show(1:Int)≤4∧(4:Int)≤5 by decide),by rw[AJ];simp,?_⟩
 rw[AJ]
 have:=abg (r:=r) (W:=bL s) fun x hx=>(ha x hx).1
 have e:(34::(bL s++[34]))++r=34::(bL s++34::r):=by simp
 rw[e,this]
 have hu:sB (bL s)=0:=by
  unfold sB
  rw[if_neg (show¬(bL s).length>64 by show¬s.size>64;omega),if_neg (fun⟨c,hc,k⟩=>(ha c hc).2.1 k)]
 rw[hu]
 simp[tT]
theorem KI:∀ (k x:Nat),∀ c∈dJ k x,fg c.toNat
 |0,x,c,hc=>by cases hc
 |k+1,x,c,hc=>by
  rw[dJ]at hc
  rcases Zl.1 hc with hc|hc
  ·exact KI k _ c hc
  ·rw[Y0.1 hc,uY (by omega)];unfold fg;omega
theorem K2:∀ (k x:Nat) (l:Bs),bW (l++dJ k x) 0=bW l 0 * 10 ^ k+x % 10 ^ k
 |0,x,l=>by simp[dJ,Nat.mod_one]
 |k+1,x,l=>by
  rw[dJ,← Zv,D1,K2 k (x / 10) l,uY (by omega)]
  have h1:x % 10 ^ (k+1)=x % 10+10 * (x / 10 % 10 ^ k):=by rw[Nat.pow_succ,YG (10 ^ k),Nat.mod_mul]
  rw[h1,Nat.pow_succ]
  have:10 * (bW l 0 * 10 ^ k+x / 10 % 10 ^ k)=bW l 0 * (10 ^ k * 10)+10 * (x / 10 % 10 ^ k):=by
   rw[Nat.mul_add,← Nat.mul_assoc,YG 10 (bW l 0),Nat.mul_assoc,YG 10]
  omega
theorem Cb(n:Nat):bL (gy n)=Lib.decDigits (n / 10 ^ 6)++46::dJ 6 n:=by simp[bL,gy]
theorem HI(n:Nat):((bL (gy n)).takeWhile fun b=>b != 46)=Lib.decDigits (n / 10 ^ 6)∧((bL (gy n)).dropWhile fun b=>b != 46).drop 1=dJ 6 n:=by
 have hd:=(Eo (n / 10 ^ 6)).2
 have h1:∀ c∈Lib.decDigits (n / 10 ^ 6),(c != 46)=true:=fun c hc=>by
  have:=hd c hc
  unfold fg at this
  rw[bne_iff_ne]
  rintro rfl
  revert this;decide
 rw[Cb]
 have e1:∀ l:Bs,(∀ c∈l,(c != 46)=true)→((l++46::dJ 6 n).takeWhile fun b=>b != 46)=l∧((l++46::dJ 6 n).dropWhile fun b=>b != 46)=46::dJ 6 n:=fun l=>by
  induction l with
  |nil=>intro _;exact⟨rfl,rfl⟩
  |cons c l ih=>
   intro h
   obtain⟨i1,i2⟩:=ih fun x hx=>h x (ZX _ hx)
   have hc:=h c ZR
   simp only[ZH,ZB,List.dropWhile_cons,hc,Ze,i1,i2]
   exact⟨trivial,trivial⟩
 obtain⟨a,b⟩:=e1 _ h1
 exact⟨a,by rw[b];rfl⟩
theorem HP(n:Nat):bW (Lib.decDigits (n / 10 ^ 6)++dJ 6 n) 0=n:=by
 rw[K2,Af];exact Nat.div_add_mod' n (10 ^ 6)
theorem Sk(n:Nat):mG (gy n)=n:=by
 obtain⟨h1,h2⟩:=HI n
 unfold mG
 simp only
 show(bW (((bL (gy n)).takeWhile fun b=>b != 46)++((bL (gy n)).dropWhile fun b=>b != 46).drop 1) 0:Int) * 10 ^ (6-(((bL (gy n)).dropWhile fun b=>b != 46).drop 1).length)=_
 rw[h1,h2,HP,oC];simp
theorem asw{n:Nat}(hn:n≤1152921504606846976){r:Bs}(hr:Fl r):nL (tD n) r:=by
 obtain⟨q1,q2⟩:=Eo (n / 10 ^ 6)
 obtain⟨h1,h2⟩:=HI n
 have hE:jn (bL (gy n))=0:=by
  unfold jn
  simp only
  rw[h1,h2,HP,oC,if_neg (by decide),if_neg (by omega)]
 refine⟨(show(1:Int)≤3∧(3:Int)≤5 by decide),by rw[EI,Cb];simp,?_⟩
 rw[EI]
 have hb:=Cb n
 have hV:∀ x∈dJ 6 n,aW x=true:=fun x hx=>Zn (vX (KI 6 n x hx))
 have hv:dJ 6 n≠[]:=by intro e;have:=oC 6 n;rw[e]at this;cases this
 cases e:Lib.decDigits (n / 10 ^ 6)with
 |nil=>exact absurd e q1
 |cons c W=>
  rw[e]at hb q2
  have hW:∀ x∈c::W,aW x=true:=fun x hx=>Zn (vX (q2 x hx))
  have:=abd (r:=r) (vX (q2 c ZR)) hW hV hv hr.d
  have e2:bL (gy n)++r=c::(W++46::(dJ 6 n++r)):=by rw[hb];simp
  rw[e2,this]
  have e3:c::(W++46::dJ 6 n)=bL (gy n):=by rw[hb];rfl
  rw[e3,hE,hb]
  simp[tD];omega
theorem asx:∀ s∈ke,∀ t:Bs,nL (jb s) (32::t):=by
 intro s hs t
 have hf:Fl (32::t):= .cons (by decide) (by decide)
 have one:∀ c:UInt8,aB c=7→nL (tS c) (32::t):=fun c hc=>vh hc fun⟨_,h⟩=>absurd (Zc h) (by decide)
 have two:∀ c:UInt8,(aB c=7∨aB c=8)→(c=61∨c=33∨c=60)→nL (tO ⟨#[c,61]⟩) (32::t):=fun c h1 h2=>⟨(show(1:Int)≤5∧(5:Int)≤5 by decide),by rw[ash];simp[bL],by
  show aJ (c::61::32::t)=_
  rw[abh _ h1 h2];rfl⟩
 simp only[ke,ZU,List.not_mem_nil,or_false]at hs
 rcases hs with rfl|rfl|rfl|rfl|rfl|rfl|rfl|rfl|rfl|rfl
 ·exact one 43 (by decide)
 ·exact one 45 (by decide)
 ·exact one 42 (by decide)
 ·exact one 47 (by decide)
 ·exact two 61 (by decide) (by decide)
 ·exact two 33 (by decide) (by decide)
 ·exact one 60 (by decide)
 ·exact two 60 (by decide) (by decide)
 ·exact vi (by decide) hf.w
 ·exact vi (by decide) hf.w
set_option linter.unusedSectionVars false
section
variable {R:List Pc}
theorem fx(h:b7 R):b7 (sp::R):=⟨by decide,h⟩
theorem gA:Fl (aI (sp::R)):= .cons (by decide) (by decide)
theorem gF{s:ag}(hs:Word s)(hf:Fl (aI R))(h:b7 R):b7 (pw s::R):=⟨vi hs hf.w,h⟩
theorem l6{c:UInt8}(hc:aB c=7)(hn:¬(c=61∨c=60))(h:b7 R):b7 (ps c::R):=⟨vh hc (ng hn),h⟩
theorem xE{n:Nat}(hn:n≤1152921504606846976)(hf:Fl (aI R))(h:b7 R):b7 (.inr (tI n)::R):=⟨EM hn hf.d hf.dot,h⟩
theorem qR{c:UInt8}(hc:aB c=7):Fl (aI (ps c::R)):=by
 have h:Fl (c::aI R):= .cons (by unfold eM;simp[hc]) (fun e=>by subst e;revert hc;decide)
 exact h
theorem aa3{u:List aq}(hu:∀ f∈u,Word f.name∧f.exp.natAbs≤1152921504606846976)(h:b7 R):b7 (gG u++R):=by
 unfold gG
 split
 ·exact h
 ·have e:(sp::da (qp u))++R=sp::(ps 91::(da (fU u)++ps 93::R)):=by simp[qp]
  rw[e]
  exact fx (l6 (by decide) (by decide) (It hu (l6 (by decide) (by decide) h) ⟨93,_,rfl,by decide⟩))
theorem TL{u:List aq}(h:Fl (aI R)):Fl (aI (gG u++R)):=by
 unfold gG
 split
 ·exact h
 ·exact gA
theorem as5{u:List aq}(hN:∀ f∈u,Name f.name)(hE:jc u=0):∀ f∈u,Word f.name∧f.exp.natAbs≤1152921504606846976:=fun f hf=>by
 have:=(A6 hE).2 f hf
 unfold gO at this
 exact⟨(hN f hf).1,by omega⟩
theorem aa2{x:Ex}(hx:jS x)(hf:Fl (aI R))(h:b7 R):b7 (jX x++R):=by
 obtain⟨h1,h2,h3,h4⟩:=hx
 obtain⟨v1,v2,v3,v4⟩:=E1 h1
 obtain⟨t1,t2,t3,t4,t5,t6⟩:=EV h3
 simp only at t1 t2 t3 t4 t5 t6
 have hu:=aa3 (R:=R) (as5 t5 t6) h
 have ue:=TL (u:=x.unit) hf
 unfold jX
 by_cases k5:x.val.kind=5
 ·rw[if_pos k5]
  obtain⟨q1,q2,q3⟩:=v4 k5
  exact l6 (by decide) (by decide) (gF (t3 k5).1 gA (fx ⟨ML q3 (by decide) (by omega) _,h⟩))
 rw[if_neg k5]
 by_cases k1:x.val.kind=1
 ·rw[if_pos k1]
  refine gF ?_ ue hu
  unfold gb
  split<;>decide
 rw[if_neg k1]
 by_cases k2:x.val.kind=2
 ·rw[if_pos k2]
  exact xE (by omega) ue hu
 rw[if_neg k2]
 by_cases k3:x.val.kind=3
 ·rw[if_pos k3]
  exact⟨asw (by omega) ue,hu⟩
 rw[if_neg k3]
 obtain⟨q1,q2⟩:=v3 (by omega)
 exact⟨ML q2 (by decide) q1 _,hu⟩
theorem D5{T:List Pc}(hT:∀ R,Fl (aI R)→b7 R→b7 (T++R))(h:b7 R):b7 (cD T++R):=by
 have e:cD T++R=ps 40::(T++ps 41::R):=by simp[cD]
 rw[e]
 exact l6 (by decide) (by decide) (hT _ (qR (by decide)) (l6 (by decide) (by decide) h))
theorem uP{x:Ex}{T:Nat→List Pc}{i:Nat}{r:Int}(hT:∀ R,Fl (aI R)→b7 R→b7 (T i++R))(hf:Fl (aI R))(h:b7 R):b7 (fK x T i r++R):=by
 unfold fK
 split
 ·exact D5 hT h
 ·exact hT R hf h
theorem aa4{w:eT}(hw:j4 w)(hf:Fl (aI R))(h:b7 R):b7 (iX w++R):=by
 unfold j4 at hw
 unfold iX
 split
 ·exact gF (by decide) gA (fx (xE (by omega) hf h))
 split
 ·exact gF (by decide) gA (fx (xE (by omega) hf h))
 split
 ·exact gF (by decide) gA (fx (xE (by omega) hf h))
 ·exact gF (by decide) hf h
theorem QL:∀ y∈jH,Word y:=by decide
theorem aa1{x:Ex}(hx:nO x){T:Nat→List Pc}(h0:∀ R,Fl (aI R)→b7 R→b7 (T 0++R))(h1:∀ R,Fl (aI R)→b7 R→b7 (T 1++R))(h:b7 R):b7 (se x T++R):=by
 obtain⟨⟨y,hy,cj⟩,hN,hw,hp,_⟩:=hx
 have Dn:x.param.toNat≤1152921504606846976:=by
  unfold l7 at hp
  split at hp
  ·omega
  ·split at hp<;>omega
 have IZ:b7 (ps 41::R):=l6 (by decide) (by decide) h
 have Mm:Fl (aI (ps 41::R)):=qR (by decide)
 have e:se x T++R=pw x.op::ps 40::pw x.table::((if x.op=db then[]else ps 44::sp::T 0)++((if x.param=0 then[]else[ps 44,sp,.inr (tI x.param.toNat)])
  ++(ps 44::sp::(iX x.win++((if x.args.getD 1 default=du then[]else sp::pw eP::sp::T 1)++ps 41::R))))):=by simp[se]
 have w1:b7 ((if x.args.getD 1 default=du then[]else sp::pw eP::sp::T 1)++ps 41::R)∧Fl (aI ((if x.args.getD 1 default=du then[]else sp::pw eP::sp::T 1)++ps 41::R)):=by
  split
  ·exact⟨IZ,Mm⟩
  ·exact⟨fx (gF (by decide) gA (fx (h1 _ Mm IZ))),gA⟩
 have w2:b7 (ps 44::sp::(iX x.win++((if x.args.getD 1 default=du then[]else sp::pw eP::sp::T 1)++ps 41::R))):=l6 (by decide) (by decide) (fx (aa4 hw w1.2 w1.1))
 have f2:Fl (aI (ps 44::sp::(iX x.win++((if x.args.getD 1 default=du then[]else sp::pw eP::sp::T 1)++ps 41::R)))):=qR (by decide)
 rw[e]
 generalize (ps 44::sp::(iX x.win++((if x.args.getD 1 default=du then[]else sp::pw eP::sp::T 1)++ps 41::R)))=Q at w2 f2
 have w3:b7 ((if x.param=0 then[]else[ps 44,sp,.inr (tI x.param.toNat)])++Q)∧Fl (aI ((if x.param=0 then[]else[ps 44,sp,.inr (tI x.param.toNat)])++Q)):=by
  split
  ·exact⟨w2,f2⟩
  ·exact⟨l6 (by decide) (by decide) (fx (xE Dn f2 w2)),qR (by decide)⟩
 generalize ((if x.param=0 then[]else[ps 44,sp,.inr (tI x.param.toNat)])++Q)=Q2 at w3
 have w4:b7 ((if x.op=db then[]else ps 44::sp::T 0)++Q2)∧Fl (aI ((if x.op=db then[]else ps 44::sp::T 0)++Q2)):=by
  split
  ·exact w3
  ·exact⟨l6 (by decide) (by decide) (fx (h0 _ w3.2 w3.1)),qR (by decide)⟩
 exact gF (cj ▸ QL y hy) (qR (by decide)) (l6 (by decide) (by decide) (gF hN.1 w4.2 w4.1))
end
theorem Ls(x:Ex):∀ ins,form ins x=true→∀ R,Fl (aI R)→b7 R→b7 (pc x++R):=by
 induction x using Ex.ind with
 |h x ih=>
 intro ins hf R hR bu
 have F:=mr.of hf
 have bO:∀ i,i<x.args.length→∀ R,Fl (aI R)→b7 R→b7 (iG x i++R):=fun i hi R h1 h2=>by
  rw[iY hi]
  exact ih _ (ei hi) _ (F.sub _ (ei hi)) R h1 h2
 have hn:=F.nn
 have hb:=F.nb
 rw[kL]
 unfold jx
 unfold eF at hb
 by_cases k1:x.kind=1
 ·rw[if_pos k1]at hb ⊢;exact aa2 hb hR bu
 rw[if_neg k1]at hb ⊢
 unfold jU at hn
 by_cases k4:x.kind=4
 ·rw[if_pos k4]
  rw[if_neg (by omega),if_pos (.inr k4)]at hb
  rw[if_pos (.inl k4)]at hn
  exact gF hb.2.1.1 gA (fx (gF (by decide) gA (fx (D5 (bO 0 (by omega)) bu))))
 rw[if_neg k4]
 by_cases k5:x.kind=5
 ·rw[if_pos k5]
  rw[if_neg (by omega),if_neg (by omega),if_pos k5]at hb
  rw[if_neg (by omega),if_pos (.inl k5)]at hn
  exact aa1 hb.2 (bO 0 (by omega)) (bO 1 (by omega)) bu
 rw[if_neg k5]
 by_cases k6:x.kind=6
 ·rw[if_pos k6]
  rw[if_pos (.inr k6)]at hn
  unfold sf
  split
  ·exact l6 (by decide) (by decide) (uP (bO 0 (by omega)) hR bu)
  split
  ·exact gF (by decide) gA (fx (uP (bO 0 (by omega)) hR bu))
  ·exact gF (by decide) (qR (by decide)) (D5 (bO 0 (by omega)) bu)
 rw[if_neg k6]
 by_cases k7:x.kind=7
 ·rw[if_pos k7]
  rw[if_neg (by omega),if_neg (by omega),if_neg (by omega),if_neg (by omega),if_pos k7]at hb
  rw[if_neg (by omega),if_pos (.inr (.inl k7))]at hn
  obtain⟨_,y,hy,cj⟩:=hb
  have e:uS x (iG x)++R=fK x (iG x) 0 (iE x)++(sp:: .inr (jb x.op)::sp::(fK x (iG x) 1 (aF x+1)++R)):=by simp[uS]
  rw[e]
  exact uP (bO 0 (by omega)) gA (fx ⟨asx _ (cj ▸ hy) _,fx (uP (bO 1 (by omega)) hR bu)⟩)
 rw[if_neg k7]
 by_cases k8:x.kind=8
 ·rw[if_pos k8]
  rw[if_neg (by omega),if_neg (by omega),if_pos k8]at hn
  have e:uU (iG x)++R=pw ew::sp::(iG x 0++(sp::pw je::sp::(iG x 1++(sp::pw fC::sp::(iG x 2++R))))):=by simp[uU]
  rw[e]
  exact gF (by decide) gA (fx (bO 0 (by omega) _ gA (fx (gF (by decide) gA (fx (bO 1 (by omega) _ gA (fx (gF (by decide) gA (fx (bO 2 (by omega) _ hR bu))))))))))
 rw[if_neg k8]
 by_cases k9:x.kind=9
 ·rw[if_pos k9]
  rw[if_neg (by omega),if_pos (.inr (.inr k9))]at hn
  have e:uT x (iG x)++R=fK x (iG x) 0 1++(sp::pw fB::sp::(fK x (iG x) 1 2++R)):=by simp[uT]
  rw[e]
  exact uP (bO 0 (by omega)) gA (fx (gF (by decide) gA (fx (uP (bO 1 (by omega)) hR bu))))
 rw[if_neg k9]
 have hN:Word x.name:=by
  by_cases k2:x.kind=2
  ·rw[if_pos k2]at hb;exact hb.2.1.1
  ·rw[if_neg k2]at hb
   by_cases k3:x.kind=3
   ·rw[if_pos (.inl k3)]at hb;exact hb.2.1.1
   ·rw[if_neg (by omega),if_neg k5,if_neg k6,if_neg k7,if_neg (by omega)]at hb;exact hb.elim
 exact gF hN hR bu
theorem asR{x:Ex}{ins:Bool}(h:form ins x=true):dD (bL (text x))=(ak 0 (pc x),[]):=by
 rw[← Lr x ins h]
 have:=Ls x ins h [] (by exact Fl.nil) trivial
 rw[Zx]at this
 exact asQ this
set_option linter.unusedSectionVars false
theorem eB:∀ (L:List Pc) (p:Int),bF (ak p L)∧(ak p L).length≤L.length+1
 |[],p=>⟨⟨[],_,rfl,rfl⟩,ZK _⟩
 | .inl b::L,p=>by
  obtain⟨h1,h2⟩:=eB L (p+1)
  exact⟨h1,by show(ak (p+1) L).length≤_;rw[Z8];omega⟩
 | .inr t::L,p=>by
  obtain⟨⟨M,e,h1,h3⟩,h2⟩:=eB L (p+(aG t).length)
  refine⟨⟨⟨t.kind,t.text,p⟩::M,e,?_,h3⟩,?_⟩
  ·show _::ak _ L=_
   rw[h1];rfl
  ·show(_::ak _ L).length≤_
   rw[Z8,Z8];omega
theorem wL:∀ (L:List Pc) (p q:Int),(hd (ak p L)).kind=(hd (ak q L)).kind∧(hd (ak p L)).text=(hd (ak q L)).text
 |[],p,q=>⟨rfl,rfl⟩
 | .inl b::L,p,q=>wL L (p+1) (q+1)
 | .inr t::L,p,q=>⟨rfl,rfl⟩
theorem gI(k:Int)(s:ag)(L:List Pc)(p:Int):ar k s (ak p L)=ar k s (ak 0 L):=by
 unfold ar
 rw[(wL L p 0).1,(wL L p 0).2]
theorem LO(L:List Pc)(p:Int):aY (ak p L)=aY (ak 0 L):=by
 unfold aY
 simp only
 rw[(wL L p 0).1,(wL L p 0).2]
abbrev rk(R:List Pc):Nat:=aY (ak 0 R)
structure Fo(R:List Pc):Prop where
 unit:ar 5 (ch 91) (ak 0 R)=false
 of:ar 1 fM (ak 0 R)=false
abbrev df(R:List Pc):Bool:=ar 1 fB (ak 0 R)
section
variable {i:Bool}{L:List Tok}
theorem Cj(h:bF L)(hl:L.length≤100000):bj N0 i L=if ar 1 ew L then(bj N0 i L.tail).bind fun a L1=>(oy je L1).bind fun _ L2=>(bj N0 i L2).bind fun b L3=>(oy fC L3).bind fun _ L4=>(bj N0 i L4).bind fun c L5=> .ok (.mk 8 ⟨#[]⟩ ⟨#[]⟩ ⟨#[]⟩ v0 [] 0 w0 [a,b,c]) L5
  else(dm N0 1 i L).bind fun x L1=>dq N0 i x L1:=
 ((jq N0 (N0+1)).expr i L h (by show _≤1000000;omega) (by show _≤1000001;omega)).trans (by rw[bj])
theorem HR{x:Ex}(h:bF L)(hl:L.length≤100000):dq N0 i x L=if ar 1 fB L then(dm N0 1 i L.tail).bind fun y L1=>dq N0 i (.mk 9 ⟨#[]⟩ ⟨#[]⟩ ⟨#[]⟩ v0 [] 0 w0 [x,y]) L1 else .ok x L:=
 ((jq N0 (N0+1)).iP i x L h (by show _≤1000000;omega) (by show _≤1000001;omega)).trans (by rw[dq])
theorem G3{l:Nat}(h:bF L)(hl:L.length≤100000):dm N0 l i L=(dK N0 l i L).bind fun x L1=>dt N0 l (if decide (l≤3) && ar 1 cu L then 2 else 7) i x L1:=
 ((jq N0 (N0+1)).bin l i L h (by show _≤1000000;omega) (by show _≤1000001;omega)).trans (by rw[dm])
theorem Lf{l m:Nat}{x:Ex}(h:bF L)(hl:L.length≤100000):dt N0 l m i x L=if aY L≥l∧aY L≠0∧aY L≤m then(dm N0 (aY L+1) i L.tail).bind fun y L1=>dt N0 l (if aY L=4 then 3 else aY L) i (mE (hd L).text x y) L1 else .ok x L:=
 ((jq N0 (N0+1)).ops l m i x L h (by show _≤1000000;omega) (by show _≤1000001;omega)).trans (by rw[dt])
theorem D9{l:Nat}(h:bF L)(hl:L.length≤100000):dK N0 l i L=if decide (l≤3) && ar 1 cu L then(dm N0 3 i L.tail).map (hO cu)else if ar 5 (ch 45) L then(dK N0 7 i L.tail).map (hO (ch 45))else ej N0 i L:=
 ((jq N0 (N0+1)).operand l i L h (by show _≤1000000;omega) (by show _≤1000001;omega)).trans (by rw[dK])
theorem El(h:bF L)(hl:L.length≤100000):ej N0 i L=if(hd L).kind=2 then(dZ L).bind fun k L1=>(gK L1).map fun u=>fY ⟨2,k,⟨#[]⟩⟩ u ⟨#[]⟩
  else if(hd L).kind=3 then(dC 3 L).bind fun t L1=>(gK L1).map fun u=>fY ⟨3,mG t.text,⟨#[]⟩⟩ u ⟨#[]⟩
  else if(hd L).kind=4 then(dC 4 L).map fun t=>fY ⟨4,0,t.text⟩ [] ⟨#[]⟩
  else if(hd L).kind=1 then ey N0 i L
  else if ar 5 (ch 64) L then nk L.tail else dy N0 i L:=
 ((jq N0 (N0+1)).jZ i L h (by show _≤1000000;omega) (by show _≤1000001;omega)).trans (by rw[ej])
theorem T7(h:bF L)(hl:L.length≤100000):dy N0 i L=(de (ch 40) L).bind fun _ L1=>(bj N0 i L1).bind fun x L2=>(de (ch 41) L2).map fun _=>x:=
 ((jq N0 (N0+1)).group i L h (by show _≤1000000;omega) (by show _≤1000001;omega)).trans (by rw[dy])
theorem yi(h:bF L)(hk:(hd L).kind≠6)(hl:L.length≤100000):ey N0 i L=if(hd L).text=sI∨(hd L).text=yh then .ok (ff (if(hd L).text=sI then 1 else 0)) L.tail
  else if(hd L).text=hU then(dy N0 i L.tail).map (hO hU)
  else if(hd L).text∈jH∧i=false then fh N0 (hd L).text L.tail
  else(eN L).bind fun s L1=>if i=true then .ok (iF 2 s []) L1
   else if ar 1 fM L1 then(dy N0 i L1.tail).map fun x=>iF 4 s [x]else .ok (iF 3 s []) L1:=
 ((jq N0 (N0+1)).word i L h hk (by show _≤1000000;omega) (by show _≤1000001;omega)).trans (by rw[ey])
theorem QK{op:ag}(h:bF L)(hl:L.length≤100000):fh N0 op L=(de (ch 40) L).bind fun _ L1=>(eN L1).bind fun tb L2=>(de (ch 44) L2).bind fun _ L3=>
  (if op≠sH then(bj N0 true L3).bind fun x L4=>(de (ch 44) L4).map fun _=>x else .ok (ff 1) L3).bind fun a L5=>
  (if op=oQ∨op=oP then(dZ L5).bind fun k L6=>(de (ch 44) L6).map fun _=>k else .ok 0 L5).bind fun p L7=>
  (qu L7).bind fun w L8=>(if ar 1 eP L8 then bj N0 true L8.tail else .ok (ff 1) L8).bind fun c L9=>
  (de (ch 41) L9).map fun _=> .mk 5 op ⟨#[]⟩ tb v0 [] p w [a,c]:=
 ((jq N0 (N0+1)).agg op L h (by show _≤1000000;omega) (by show _≤1000001;omega)).trans (by rw[fh])
end
theorem aaU{u:List aq}(h:jc u=0):fZ u=(u,0):=by
 obtain⟨hl,_⟩:=A6 h
 have hL:jd none u=0:=by
  unfold jc at h
  rwa [if_neg (by omega)]at h
 have key:∀ (u:List aq) (p:Option ag),jd p u=0→(mw (u.map aq.name)∧∀ f∈u,f.exp≠0∧-8≤f.exp∧f.exp≤8)∧∀ q,p=some q→∀ f∈u,gW q f.name=true:=fun u=>by
  induction u with
  |nil=>intro p _;exact⟨⟨MD,by simp⟩,by simp⟩
  |cons f u ih=>
   intro p hp
   rw[jd]at hp
   split at hp
   ·rename_i h0
    obtain⟨⟨i1,i2⟩,i3⟩:=ih _ hp
    have hf:(f.exp≠0∧-8≤f.exp∧f.exp≤8)∧∀ q,p=some q→gW q f.name=true:=by
     unfold mH at h0
     split at h0
     ·cases h0
     ·split at h0
      ·cases h0
      ·rename_i h1 h2
       refine⟨by omega,fun q hq=> ?_⟩
       subst hq
       simp only at h0
       split at h0
       ·cases h0
       ·rename_i h3
        unfold zX at h3
        simp only[Zk,ZG,not_or,YA]at h3
        by_cases e:gW q f.name=true
        ·exact e
        ·exact absurd (Mn h3.1 (by simpa using e)) h3.2
    refine⟨⟨Yk.2 ⟨fun x hx=> ?_,i1⟩,fun g hg=> ?_⟩,fun q hq g hg=> ?_⟩
    ·obtain⟨g,hg,rfl⟩:=YZ.1 hx
     exact i3 f.name rfl g hg
    ·rcases ZU.1 hg with rfl|hg
     ·exact hf.1
     ·exact i2 g hg
    ·rcases ZU.1 hg with rfl|hg
     ·exact hf.2 q hq
     ·exact EA (hf.2 q hq) (i3 f.name rfl g hg)
   ·rename_i h0;exact absurd hp h0
 obtain⟨⟨hs,hb⟩,_⟩:=key u none hL
 have Dx:iH (u.map aq.name)=u.map aq.name:=AK (ve _) hs fun x=>vd
 have Js:∀ f∈u,eo u f.name=f.exp:=fun f hf=>by
  have hnd:=ME hs
  have:∀ l:List aq,(l.map aq.name).Nodup→f∈l→((l.filter fun g=>decide (g.name=f.name)).map aq.exp).sum=f.exp:=fun l=>by
   induction l with
   |nil=>intro _ h;cases h
   |cons g l ih=>
    intro hn hm
    simp only[ZL,YL]at hn
    by_cases e:g.name=f.name
    ·have hg:g=f:=by
      rcases ZU.1 hm with rfl|hm
      ·rfl
      ·exact absurd (YZ.2 ⟨f,hm,e.symm⟩) hn.1
     subst hg
     have eZ:l.filter (fun x=>decide (x.name=g.name))=[]:=by
      rw[YB]
      intro x hx
      simp only[ZG]
      exact fun e2=>hn.1 (YZ.2 ⟨x,hx,e2⟩)
     rw[List.filter_cons_of_pos (by simp),eZ]
     simp
    ·rw[List.filter_cons_of_neg (by simpa using e)]
     rcases ZU.1 hm with rfl|hm
     ·exact absurd rfl e
     ·exact ih hn.2 hm
  exact this u hnd hf
 have Vu:((u.map aq.name).map fun n=>(⟨n,eo u n⟩:aq))=u:=by
  rw[Yv]
  conv=>rhs;rw[← List.map_id u]
  refine List.map_congr_left fun f hf=> ?_
  show(⟨f.name,eo u f.name⟩:aq)=f
  rw[Js f hf]
 have U3:(u.filter fun f=>decide (f.exp≠0))=u:=List.filter_eq_self.2 fun f hf=>by simpa using(hb f hf).1
 unfold fZ
 simp only
 rw[Dx,if_neg,Vu,U3,if_neg (by omega)]
 rintro⟨n,hn,k⟩
 obtain⟨f,hf,rfl⟩:=YZ.1 hn
 rw[Js f hf]at k
 have:=(hb f hf).2
 omega
theorem Nf{u:List aq}(hN:∀ f∈u,Name f.name)(hE:jc u=0){R:List Pc}(hf:Fo R)(p:Int):∃ q,gK (ak p (gG u++R))= .ok u (ak q R):=by
 unfold gG
 by_cases h:u=[]
 ·subst h
  refine⟨p,?_⟩
  rw[if_pos rfl,Zh]
  unfold gK
  rw[gI,hf.unit,if_neg (by decide)]
 ·rw[if_neg h]
  have hb:=(A6 hE)
  obtain⟨q,hq⟩:=as4 u h (fun f hf=>⟨hN f hf,by have:=hb.2 f hf;unfold gO at this;omega⟩) (by omega) R (p+1)
  rw[aaU hE]at hq
  exact⟨q,hq⟩
set_option linter.unusedSectionVars false
section
variable {Z R:List Pc}{p:Int}{i:Bool}{s:ag}{c:UInt8}{n:Nat}{x:Ex}{T:List Pc}
theorem ln(h:Z.length≤90000)(p:Int):(ak p Z).length≤100000:=by have:=(eB Z p).2;omega
theorem sq:de (ch c) (ak p (ps c::Z))= .ok () (ak (p+1) Z):=by
 show(if ar 5 (ch c) (⟨5,ch c,p⟩::ak (p+((aG (tS c)).length:Int)) Z)=true then _ else _)=_
 rw[if_pos (by simp[EC])];rfl
theorem DR:∃ q,oy s (ak p (pw s::Z))= .ok () (ak q Z):=by
 refine⟨p+((aG (tW s)).length:Int),?_⟩
 show(if ar 1 s (⟨1,s,p⟩::ak (p+((aG (tW s)).length:Int)) Z)=true then _ else _)=_
 rw[if_pos (by simp[EC])];rfl
theorem Ac(h:Name s):∃ q,eN (ak p (pw s::Z))= .ok s (ak q Z):=by
 refine⟨p+((aG (tW s)).length:Int),?_⟩
 show eN (⟨1,s,p⟩::ak (p+((aG (tW s)).length:Int)) Z)=_
 unfold eN
 exact(if_neg (show¬¬Name s from fun k=>k h)).trans rfl
theorem xB:∃ q,dZ (ak p (.inr (tI n)::Z))= .ok (n:Int) (ak q Z):=by
 refine⟨p+((aG (tI n)).length:Int),?_⟩
 have:sd (tI n).text=(n:Int):=by
  show((bW (Lib.decDigits n) 0:Nat):Int)=_
  rw[Af]
 show PR.ok (sd (tI n).text) (ak (p+((aG (tI n)).length:Int)) Z)=_
 rw[this]
theorem pX(h:Name s){k:ag}(hk:KW k):¬s=k:=fun e=>h.2 (e ▸ hk)
theorem GN:∀ y∈jH,KW y:=by decide
theorem abA(hZ:(pw s::Z).length≤90000):ej N0 i (ak p (pw s::Z))=ey N0 i (ak p (pw s::Z)):=by
 rw[El (eB _ p).1 (ln hZ p)]
 have hk:(hd (ak p (pw s::Z))).kind=1:=rfl
 rw[hk,if_neg (by decide),if_neg (by decide),if_neg (by decide),if_pos rfl]
theorem atA(h:Name s)(hZ:(pw s::R).length≤90000)(hf:Fo R):∃ q,ey N0 i (ak p (pw s::R))= .ok (iF (if i=true then 2 else 3) s []) (ak q R):=by
 rw[yi (eB (pw s::R) p).1 (show(1:Int)≠6 by decide) (ln hZ p)]
 have ht:(hd (ak p (pw s::R))).text=s:=rfl
 obtain⟨q,hq⟩:=Ac (p:=p) (Z:=R) h
 rw[ht,if_neg (by rintro(e|e)<;>exact pX h (by decide) e),if_neg (pX h (by decide)),if_neg (fun e=>h.2 (GN _ e.1)),hq,PR.aD]
 refine⟨q,?_⟩
 by_cases hi:i=true
 ·rw[if_pos hi,if_pos hi]
 ·rw[if_neg hi,if_neg hi,gI,hf.of,if_neg (by decide)]
theorem Cw(hT:∀ p,∃ q,bj N0 i (ak p (T++ps 41::R))= .ok x (ak q (ps 41::R)))(hZ:(cD T++R).length≤90000):∃ q,dy N0 i (ak p (cD T++R))= .ok x (ak q R):=by
 have e:cD T++R=ps 40::(T++ps 41::R):=by simp[cD]
 rw[e]at hZ ⊢
 rw[T7 (eB _ p).1 (ln hZ p),sq,PR.aD]
 obtain⟨q,hq⟩:=hT (p+1)
 rw[hq,PR.aD]
 unfold PR.map
 rw[sq]
 exact⟨q+1,rfl⟩
theorem D8{l:Nat}(hZ:Z.length≤90000)(h1:ar 1 cu (ak 0 Z)=false)(h2:ar 5 (ch 45) (ak 0 Z)=false):dK N0 l i (ak p Z)=ej N0 i (ak p Z):=by
 rw[D9 (eB Z p).1 (ln hZ p),gI,h1,gI,h2,Bool.and_false,if_neg (by decide),if_neg (by decide)]
theorem D7{l:Nat}(hT:∀ p,∃ q,bj N0 i (ak p (T++ps 41::R))= .ok x (ak q (ps 41::R)))(hZ:(cD T++R).length≤90000):∃ q,dK N0 l i (ak p (cD T++R))= .ok x (ak q R):=by
 obtain⟨q,hq⟩:=Cw (p:=p) hT hZ
 refine⟨q,?_⟩
 rw[D8 hZ (by rfl) (by rfl),El (eB _ p).1 (ln hZ p)]
 have hk:(hd (ak p (cD T++R))).kind=5:=rfl
 rw[hk,if_neg (by decide),if_neg (by decide),if_neg (by decide),if_neg (by decide),gI 5 (ch 64),show ar 5 (ch 64) (ak 0 (cD T++R))=false from rfl,if_neg (by decide),hq]
theorem BW{l:Nat}(hZ:(T++R).length≤90000)(h:∃ q,dK N0 l i (ak p (T++R))= .ok x (ak q R))(hn:ar 1 cu (ak 0 (T++R))=false):∃ q,dm N0 l i (ak p (T++R))=dt N0 l 7 i x (ak q R):=by
 obtain⟨q,hq⟩:=h
 refine⟨q,?_⟩
 rw[G3 (eB _ p).1 (ln hZ p),hq,PR.aD,gI,hn,Bool.and_false,if_neg (by decide)]
theorem xG{l m:Nat}(hZ:R.length≤90000)(h:rk R<l∨rk R=0∨m<rk R):dt N0 l m i x (ak p R)= .ok x (ak p R):=by
 have h:aY (ak 0 R)<l∨aY (ak 0 R)=0∨m<aY (ak 0 R):=h
 rw[Lf (eB R p).1 (ln hZ p),LO,if_neg (by omega)]
theorem HQ(hZ:R.length≤90000)(h:df R=false):dq N0 i x (ak p R)= .ok x (ak p R):=by
 have h:ar 1 fB (ak 0 R)=false:=h
 rw[HR (eB R p).1 (ln hZ p),gI,h,if_neg (by decide)]
end
theorem aau{x:Ex}(hk:x.kind=1)(hF:x.Flat (xv x))(ha:x.args=[]):fY x.val x.unit x.name=x:=by
 cases x
 obtain⟨h1,h2,h3,h4,h5,h6,h7,h8⟩:=hF
 simp only[Ex.kind,Ex.op,Ex.name,Ex.table,Ex.val,Ex.unit,Ex.param,Ex.win,Ex.args,xv]at *
 subst hk h2 h4 h7 h8 ha
 rfl
theorem aaw{x:Ex}(hk:x.kind=1)(hx:jS x)(ha:x.args=[]){R:List Pc}(hf:Fo R)(hZ:(jX x++R).length≤90000)(i:Bool)(p:Int):∃ q,ej N0 i (ak p (jX x++R))= .ok x (ak q R):=by
 obtain⟨h1,h2,h3,h4⟩:=hx
 obtain⟨v1,v2,v3,v4⟩:=E1 h1
 obtain⟨_,_,f3,_,f5,f6⟩:=v1
 obtain⟨t1,t2,t3,t4,t5,t6⟩:=EV h3
 simp only at t1 t2 t3 t4 t5 t6
 have U1:=aau hk h4 ha
 have hval:∀ k n s,x.val.kind=k→x.val.n=n→x.val.s=s→(⟨k,n,s⟩:dQ)=x.val:=fun k n s a b c=>by subst a b c;rfl
 have DA:¬Num ⟨x.val.kind,x.unit,x.name⟩→x.unit=[]:=fun h=>Zd.1 fun k=>h (t2 k)
 have fin:∀ (v:dQ) (u:List aq) (m:ag) (q:Int),v=x.val→u=x.unit→m=x.name→(PR.ok (fY v u m) (ak q R))= .ok x (ak q R):=fun v u m q a b c=>by rw[a,b,c,U1]
 rw[El (eB _ p).1 (ln hZ p)]
 unfold jX at hZ ⊢
 by_cases k5:x.val.kind=5
 ·rw[if_pos k5]at hZ ⊢
  obtain⟨q1,q2,q3⟩:=v4 k5
  have e:[ps 64,pw x.name,sp,.inr (tT x.val.s)]++R=ps 64::pw x.name::sp:: .inr (tT x.val.s)::R:=rfl
  rw[e]
  have oe:(hd (ak p (ps 64::pw x.name::sp:: .inr (tT x.val.s)::R))).kind=5:=rfl
  rw[oe,if_neg (by decide),if_neg (by decide),if_neg (by decide),if_neg (by decide),if_pos (by rw[gI];rfl)]
  show∃ q,nk (ak (p+1) (pw x.name::sp:: .inr (tT x.val.s)::R))=_
  obtain⟨q,hq⟩:=Ac (p:=p+1) (Z:=sp:: .inr (tT x.val.s)::R) (t3 k5)
  unfold nk
  rw[hq,PR.aD]
  refine⟨q+1+((aG (tT x.val.s)).length:Int),?_⟩
  show(PR.ok (⟨4,x.val.s,q+1⟩:Tok) (ak (q+1+((aG (tT x.val.s)).length:Int)) R)).bind _=_
  rw[PR.aD]
  have eZ:¬(x.val.s.size<1∨x.val.s.size>32∨(32:UInt8)∈x.val.s.data.toList):=by
   rintro(k|k|k)
   ·omega
   ·omega
   ·have:=(LA q3 (by decide) 32 k).2.2
    revert this;decide
  simp only
  rw[if_neg eZ]
  exact fin _ _ _ _ (hval 5 0 _ k5 (f6 (by omega)) rfl) (DA (by unfold Num;simp only;omega)).symm rfl
 rw[if_neg k5]at hZ ⊢
 have w6:x.name=⟨#[]⟩:=t4 k5
 by_cases k1:x.val.kind=1
 ·rw[if_pos k1]at hZ ⊢
  have hu:x.unit=[]:=DA (by unfold Num;simp only;omega)
  have e:(pw (gb x.val.n)::gG x.unit)++R=pw (gb x.val.n)::R:=by rw[hu];rfl
  rw[e]at hZ ⊢
  have oe:(hd (ak p (pw (gb x.val.n)::R))).kind=1:=rfl
  rw[oe,if_neg (by decide),if_neg (by decide),if_neg (by decide),if_pos rfl,yi (eB (pw (gb x.val.n)::R) p).1 (show(1:Int)≠6 by decide) (ln hZ p)]
  have ht:(hd (ak p (pw (gb x.val.n)::R))).text=gb x.val.n:=rfl
  refine⟨p+((aG (tW (gb x.val.n))).length:Int),?_⟩
  have hs:x.val.s=⟨#[]⟩:=f3 (by omega)
  rcases f5 k1 with h0|h0
  ·have hb:gb x.val.n=yh:=by unfold gb;rw[h0];rfl
   rw[ht,hb,if_pos (.inr rfl),if_neg (by decide)]
   exact fin _ _ _ _ (hval 1 0 _ k1 h0 hs) hu.symm w6.symm
  ·have hb:gb x.val.n=sI:=by unfold gb;rw[h0];rfl
   rw[ht,hb,if_pos (.inl rfl),if_pos rfl]
   exact fin _ _ _ _ (hval 1 1 _ k1 h0 hs) hu.symm w6.symm
 rw[if_neg k1]at hZ ⊢
 by_cases k2:x.val.kind=2
 ·rw[if_pos k2]at hZ ⊢
  rw[ZH]at hZ ⊢
  have oe:(hd (ak p (.inr (tI x.val.n.toNat)::(gG x.unit++R)))).kind=2:=rfl
  obtain⟨q,hq⟩:=xB (p:=p) (n:=x.val.n.toNat) (Z:=gG x.unit++R)
  obtain⟨q2,dH⟩:=Nf t5 t6 hf q
  rw[oe,if_pos rfl,hq,PR.aD]
  unfold PR.map
  rw[dH,PR.aD]
  exact⟨q2,fin _ _ _ _ (hval 2 _ _ k2 (by omega) (f3 (by omega))) rfl w6.symm⟩
 rw[if_neg k2]at hZ ⊢
 by_cases k3:x.val.kind=3
 ·rw[if_pos k3]at hZ ⊢
  rw[ZH]at hZ ⊢
  have oe:(hd (ak p (.inr (tD x.val.n.toNat)::(gG x.unit++R)))).kind=3:=rfl
  obtain⟨q2,dH⟩:=Nf t5 t6 hf (p+((aG (tD x.val.n.toNat)).length:Int))
  rw[oe,if_neg (by decide),if_pos rfl]
  show∃ q,(PR.ok (⟨3,gy x.val.n.toNat,p⟩:Tok) (ak (p+((aG (tD x.val.n.toNat)).length:Int)) (gG x.unit++R))).bind _=_
  rw[PR.aD]
  unfold PR.map
  rw[dH,PR.aD]
  refine⟨q2,?_⟩
  simp only
  rw[Sk]
  exact fin _ _ _ _ (hval 3 _ _ k3 (by omega) (f3 (by omega))) rfl w6.symm
 rw[if_neg k3]at hZ ⊢
 have k4:x.val.kind=4:=by omega
 have hu:x.unit=[]:=DA (by unfold Num;simp only;omega)
 have e:(.inr (tT x.val.s)::gG x.unit)++R= .inr (tT x.val.s)::R:=by rw[hu];rfl
 rw[e]
 have oe:(hd (ak p (.inr (tT x.val.s)::R))).kind=4:=rfl
 rw[oe,if_neg (by decide),if_neg (by decide),if_pos rfl]
 refine⟨p+((aG (tT x.val.s)).length:Int),?_⟩
 show PR.ok (fY ⟨4,0,x.val.s⟩ [] ⟨#[]⟩) (ak (p+((aG (tT x.val.s)).length:Int)) R)=_
 exact fin _ _ _ _ (hval 4 0 _ k4 (f6 (by omega)) rfl) hu.symm w6.symm
set_option linter.unusedSectionVars false
set_option maxHeartbeats 1000000
def lS(r:Int):Nat:=if r=4 then 2 else if r≥8 then 7 else(r-1).toNat
def lW(r:Int):Nat:=if r=4 then 2 else if r≥8 then 7 else if r=5 then 3 else(r-1).toNat
structure cy(x:Ex)(i:Bool):Prop where
 q1:8≤aF x→∀ R,Fo R→(pc x++R).length≤90000→∀ l p,∃ q,dK N0 l i (ak p (pc x++R))= .ok x (ak q R)
 q2:∀ l:Nat,1≤l→(l:Int)≤aF x-1→l≤7→∀ R,Fo R→rk R≤lS (aF x)→(pc x++R).length≤90000→∀ p,∃ q,dm N0 l i (ak p (pc x++R))=dt N0 l (lW (aF x)) i x (ak q R)
 q3:1≤aF x→∀ R,Fo R→rk R=0→(pc x++R).length≤90000→∀ p,∃ q,bj N0 i (ak p (pc x++R))=dq N0 i x (ak q R)
 q4:∀ R,Fo R→rk R=0→df R=false→(pc x++R).length≤90000→∀ p,∃ q,bj N0 i (ak p (pc x++R))= .ok x (ak q R)
 h1:1≤aF x→∀ R,ar 1 ew (ak 0 (pc x++R))=false
 h2:5≤aF x→∀ R,ar 1 cu (ak 0 (pc x++R))=false
theorem kc{A R:List Pc}(h:(A++R).length≤90000):R.length≤90000:=by rw[Z7]at h;omega
section
variable {x:Ex}{i:Bool}
theorem cy.of3(hr:aF x=1)(h1:∀ R,ar 1 ew (ak 0 (pc x++R))=false)(q3:∀ R,Fo R→rk R=0→(pc x++R).length≤90000→∀ p,∃ q,bj N0 i (ak p (pc x++R))=dq N0 i x (ak q R)):cy x i where
 q1:=fun h=>by omega
 q2:=fun l h h2=>by omega
 q3:=fun _=>q3
 q4:=fun R hf hk hd hl p=>by
  obtain⟨q,hq⟩:=q3 R hf hk hl p
  exact⟨q,by rw[hq,HQ (kc hl) hd]⟩
 h1:=fun _=>h1
 h2:=fun h=>by omega
theorem cy.D3(hr:2≤aF x)(q1:8≤aF x→∀ R,Fo R→(pc x++R).length≤90000→∀ l p,∃ q,dK N0 l i (ak p (pc x++R))= .ok x (ak q R))(h1:∀ R,ar 1 ew (ak 0 (pc x++R))=false)(h2:5≤aF x→∀ R,ar 1 cu (ak 0 (pc x++R))=false)
  (q2:∀ l:Nat,1≤l→(l:Int)≤aF x-1→l≤7→∀ R,Fo R→rk R≤lS (aF x)→(pc x++R).length≤90000→∀ p,∃ q,dm N0 l i (ak p (pc x++R))=dt N0 l (lW (aF x)) i x (ak q R)):cy x i:=by
 have q3:∀ R,Fo R→rk R=0→(pc x++R).length≤90000→∀ p,∃ q,bj N0 i (ak p (pc x++R))=dq N0 i x (ak q R):=fun R hf hk hl p=>by
  obtain⟨q,hq⟩:=q2 1 (ZK _) (by omega) (by decide) R hf (by rw[hk];exact ZF _) hl p
  refine⟨q,?_⟩
  rw[Cj (eB _ p).1 (ln hl p),gI,h1 R,if_neg (by decide),hq,xG (kc hl) (.inr (.inl hk)),PR.aD]
 refine⟨q1,q2,fun _=>q3,fun R hf hk hd hl p=> ?_,fun _=>h1,h2⟩
 obtain⟨q,hq⟩:=q3 R hf hk hl p
 exact⟨q,by rw[hq,HQ (kc hl) hd]⟩
theorem cy.D2(hr:8≤aF x)(h1:∀ R,ar 1 ew (ak 0 (pc x++R))=false)(h2:∀ R,ar 1 cu (ak 0 (pc x++R))=false)(q1:∀ R,Fo R→(pc x++R).length≤90000→∀ l p,∃ q,dK N0 l i (ak p (pc x++R))= .ok x (ak q R)):cy x i:=by
 refine cy.D3 (by omega) (fun _=>q1) h1 (fun _=>h2) fun l oh mR zI R hf hk hl p=> ?_
 have hm:lW (aF x)=7:=by unfold lW;rw[if_neg (by omega),if_pos hr]
 rw[hm]
 exact BW hl (q1 R hf hl l p) (h2 R)
end
theorem IL(R:List Pc):Fo (ps 41::R):=⟨rfl,rfl⟩
theorem cy.par{y:Ex}{i:Bool}(hy:cy y i){R:List Pc}(hl:(cD (pc y)++R).length≤90000)(p:Int):∃ q,bj N0 i (ak p (pc y++ps 41::R))= .ok y (ak q (ps 41::R)):=
 hy.q4 (ps 41::R) (IL R) rfl rfl (by have e:cD (pc y)++R=ps 40::(pc y++ps 41::R):=by simp[cD]
                                     rw[e,Z8]at hl;omega) p
abbrev bR(y:Ex)(r:Int):List Pc:=if aF y<r then cD (pc y)else pc y
theorem yC{y:Ex}{i:Bool}(hy:cy y i){r:Int}{l:Nat}(h1:1≤l)(hr:(l:Int)≤r-1)(h7:l≤7){R:List Pc}(hf:Fo R)(hk:aF y<r∨rk R≤lS (aF y))(hl:(bR y r++R).length≤90000)(p:Int):
  ∃ q,dm N0 l i (ak p (bR y r++R))=dt N0 l (if aF y<r then 7 else lW (aF y)) i y (ak q R):=by
 by_cases h:aF y<r
 ·have e:bR y r=cD (pc y):=if_pos h
  rw[e]at hl ⊢
  rw[if_pos h]
  exact BW hl (D7 (hy.par hl) hl) rfl
 ·have e:bR y r=pc y:=if_neg h
  rw[e]at hl ⊢
  rw[if_neg h]
  exact hy.q2 l h1 (by omega) h7 R hf (hk.resolve_left h) hl p
theorem GY{y:Ex}{i:Bool}(hy:cy y i){r:Int}(hr:1≤r)(R:List Pc):ar 1 ew (ak 0 (bR y r++R))=false:=by
 by_cases h:aF y<r
 ·have e:bR y r=cD (pc y):=if_pos h
  rw[e];rfl
 ·have e:bR y r=pc y:=if_neg h
  rw[e];exact hy.h1 (by omega) R
theorem QY{y:Ex}{i:Bool}(hy:cy y i){r:Int}(hr:5≤r)(R:List Pc):ar 1 cu (ak 0 (bR y r++R))=false:=by
 by_cases h:aF y<r
 ·have e:bR y r=cD (pc y):=if_pos h
  rw[e];rfl
 ·have e:bR y r=pc y:=if_neg h
  rw[e];exact hy.h2 (by omega) R
theorem aa6:∀ s∈ke,∀ x:Ex,x.kind=7→x.op=s→∃ k:Nat,aF x=(k:Int)+1∧(k=1∨k=2∨k=4∨k=5∨k=6)∧∀ Z,rk (sp:: .inr (jb s)::Z)=k∧(jb s).text=s∧Fo (sp:: .inr (jb s)::Z):=by
 intro s hs x hk cj
 have lN:aF x=if x.op=⟨#[111,114]⟩then 2 else if x.op=⟨#[97,110,100]⟩then 3 else if x.op=⟨#[43]⟩∨x.op=⟨#[45]⟩then 6 else if x.op=⟨#[42]⟩∨x.op=⟨#[47]⟩then 7 else 5:=by
  unfold aF
  rw[if_neg (by omega),if_neg (by omega),if_neg (by omega),if_pos hk]
 rw[cj]at lN
 simp only[ke,ZU,List.not_mem_nil,or_false]at hs
 rcases hs with rfl|rfl|rfl|rfl|rfl|rfl|rfl|rfl|rfl|rfl
 ·exact⟨5,lN.trans (by decide),by decide,fun Z=>⟨rfl,rfl,rfl,rfl⟩⟩
 ·exact⟨5,lN.trans (by decide),by decide,fun Z=>⟨rfl,rfl,rfl,rfl⟩⟩
 ·exact⟨6,lN.trans (by decide),by decide,fun Z=>⟨rfl,rfl,rfl,rfl⟩⟩
 ·exact⟨6,lN.trans (by decide),by decide,fun Z=>⟨rfl,rfl,rfl,rfl⟩⟩
 ·exact⟨4,lN.trans (by decide),by decide,fun Z=>⟨rfl,rfl,rfl,rfl⟩⟩
 ·exact⟨4,lN.trans (by decide),by decide,fun Z=>⟨rfl,rfl,rfl,rfl⟩⟩
 ·exact⟨4,lN.trans (by decide),by decide,fun Z=>⟨rfl,rfl,rfl,rfl⟩⟩
 ·exact⟨4,lN.trans (by decide),by decide,fun Z=>⟨rfl,rfl,rfl,rfl⟩⟩
 ·exact⟨2,lN.trans (by decide),by decide,fun Z=>⟨rfl,rfl,rfl,rfl⟩⟩
 ·exact⟨1,lN.trans (by decide),by decide,fun Z=>⟨rfl,rfl,rfl,rfl⟩⟩
theorem uQ{x:Ex}(h:x.Flat (jW x)):x= .mk x.kind x.op ⟨#[]⟩ ⟨#[]⟩ v0 [] 0 w0 x.args:=by
 cases x
 obtain⟨h1,h2,h3,h4,h5,h6,h7,h8⟩:=h
 simp only[Ex.kind,Ex.op,Ex.name,Ex.table,Ex.val,Ex.unit,Ex.param,Ex.win,Ex.args,jW]at *
 subst h3 h4 h5 h6 h7 h8
 rfl
theorem KU{x:Ex}(h:x.Flat (Ab x)):x=iF x.kind x.name x.args:=by
 cases x
 obtain⟨h1,h2,h3,h4,h5,h6,h7,h8⟩:=h
 simp only[Ex.kind,Ex.op,Ex.name,Ex.table,Ex.val,Ex.unit,Ex.param,Ex.win,Ex.args,Ab]at *
 subst h2 h4 h5 h6 h7 h8
 rfl
theorem QH{x:Ex}(hk:x.kind=5)(h:x.Flat (vR x)):x= .mk 5 x.op ⟨#[]⟩ x.table v0 [] x.param x.win x.args:=by
 cases x
 obtain⟨h1,h2,h3,h4,h5,h6,h7,h8⟩:=h
 simp only[Ex.kind,Ex.op,Ex.name,Ex.table,Ex.val,Ex.unit,Ex.param,Ex.win,Ex.args,vR]at *
 subst hk h3 h5 h6
 rfl
theorem Ra{x a b:Ex}{i:Bool}(hk:x.kind=7)(hF:x.Flat (jW x))(cj:x.op∈ke)(ha:x.args=[a,b])(ra:cy a i)(rb:cy b i):cy x i:=by
 obtain⟨k,hr,wU,VE⟩:=aa6 x.op cj x hk rfl
 have hx:x=mE x.op a b:=by
  have:=uQ hF
  rw[hk,ha]at this
  exact this
 have wz:iE x=if k=4 then 6 else(k:Int)+1:=by
  unfold iE
  by_cases h4:k=4
  ·rw[if_pos (by omega),if_pos h4]
  ·rw[if_neg (by omega),if_neg h4,hr]
 have e0:fK x (iG x) 0 (iE x)=bR a (iE x):=by
  unfold fK
  rw[iY (by rw[ha];simp),ha];rfl
 have e1:fK x (iG x) 1 (aF x+1)=bR b (aF x+1):=by
  unfold fK
  rw[iY (by rw[ha];simp),ha];rfl
 have Ce:∀ R,pc x++R=bR a (iE x)++(sp:: .inr (jb x.op)::sp::(bR b (aF x+1)++R)):=fun R=>by
  rw[kL]
  unfold jx
  rw[if_neg (by omega),if_neg (by omega),if_neg (by omega),if_neg (by omega),if_pos hk]
  unfold uS
  rw[e0,e1];simp
 have cq:2≤iE x:=by rw[wz];split<;>omega
 refine cy.D3 (by omega) (fun h=>by omega) (fun R=>by rw[Ce];exact GY ra (by omega) _) (fun h R=>by rw[Ce];exact QY ra (by rw[wz];split<;>omega) _) fun l oh mR zI R hf lG hl p=> ?_
 rw[Ce]at hl ⊢
 obtain⟨o1,o2,o3⟩:=VE (sp::(bR b (aF x+1)++R))
 have atN:rk R≤k:=by
  unfold lS at lG
  rw[if_neg (by omega),if_neg (by omega)]at lG
  omega
 have wV:aF a<iE x∨rk (sp:: .inr (jb x.op)::sp::(bR b (aF x+1)++R))≤lS (aF a):=by
  by_cases h:aF a<iE x
  ·exact .inl h
  ·right
   rw[o1]
   unfold lS
   rw[wz]at h
   split
   ·split at h<;>omega
   ·split
    ·omega
    ·split at h<;>omega
 obtain⟨q1,iA⟩:=yC ra oh (by rw[wz];split<;>omega) zI o3 wV hl p
 have hm:k≤(if aF a<iE x then 7 else lW (aF a)):=by
  by_cases h:aF a<iE x
  ·rw[if_pos h];omega
  ·rw[if_neg h]
   unfold lW
   rw[wz]at h
   split
   ·split at h<;>omega
   ·split
    ·omega
    ·split
     ·split at h<;>omega
     ·split at h<;>omega
 have JH:=kc hl
 have JI:(bR b (aF x+1)++R).length≤90000:=by simp only[Z8]at JH;omega
 have Vo:aF b<aF x+1∨rk R≤lS (aF b):=by
  by_cases h:aF b<aF x+1
  ·exact .inl h
  ·right
   unfold lS
   split
   ·omega
   ·split
    ·omega
    ·omega
 obtain⟨q2,dH⟩:=yC rb (l:=k+1) (by omega) (by omega) (by omega) hf Vo JI (q1+1+((aG (jb x.op)).length:Int)+1)
 refine⟨q2,?_⟩
 rw[iA,Lf (eB _ q1).1 (ln JH q1),LO]
 have o1':aY (ak 0 (sp:: .inr (jb x.op)::sp::(bR b (aF x+1)++R)))=k:=o1
 rw[o1',if_pos ⟨by omega,by omega,hm⟩]
 have ht:(ak q1 (sp:: .inr (jb x.op)::sp::(bR b (aF x+1)++R))).tail=ak (q1+1+((aG (jb x.op)).length:Int)+1) (bR b (aF x+1)++R):=rfl
 have Wb:(hd (ak q1 (sp:: .inr (jb x.op)::sp::(bR b (aF x+1)++R)))).text=x.op:=o2
 rw[ht,Wb,dH,xG (kc JI) (.inl (by show rk R<k+1;omega)),PR.aD,← hx]
 have Vy:lW (aF x)=if k=4 then 3 else k:=by
  unfold lW
  rw[if_neg (by omega),if_neg (by omega)]
  by_cases h4:k=4
  ·rw[if_pos (by omega),if_pos h4]
  ·rw[if_neg (by omega),if_neg h4];omega
 rw[Vy]
set_option linter.unusedSectionVars false
set_option maxHeartbeats 1000000
theorem Bd{x:Ex}{i:Bool}{s:ag}{A:List Pc}(hr:aF x=9)(e:pc x=pw s::A)(h1:s≠ew)(h2:s≠cu)(h:∀ R,Fo R→(pc x++R).length≤90000→∀ p,∃ q,ey N0 i (ak p (pc x++R))= .ok x (ak q R)):cy x i:=by
 have g1:∀ R,ar 1 ew (ak 0 (pc x++R))=false:=fun R=>by
  rw[e]
  show(decide ((1:Int)=1) && decide (s=ew))=false
  simp[h1]
 have g2:∀ R,ar 1 cu (ak 0 (pc x++R))=false:=fun R=>by
  rw[e]
  show(decide ((1:Int)=1) && decide (s=cu))=false
  simp[h2]
 refine cy.D2 (by omega) g1 g2 fun R hf hl l p=> ?_
 obtain⟨q,hq⟩:=h R hf hl p
 refine⟨q,?_⟩
 have g3:ar 5 (ch 45) (ak 0 (pc x++R))=false:=by
  rw[e]
  show(decide ((1:Int)=5) && _)=false
  simp
 rw[D8 hl (g2 R) g3]
 have e2:pc x++R=pw s::(A++R):=by rw[e];rfl
 rw[e2]at hl hq ⊢
 rw[abA hl,hq]
theorem Ao{x:Ex}(h:x.kind=1∨x.kind=2∨x.kind=3∨x.kind=4∨x.kind=5):aF x=9:=by
 unfold aF
 rw[if_neg (by omega),if_neg (by omega),if_neg (by omega),if_neg (by omega)]
theorem aax{x:Ex}(hk:x.kind=1)(hx:jS x)(ha:x.args=[])(i:Bool):cy x i:=by
 have e:pc x=jX x:=by rw[kL];unfold jx;rw[if_pos hk]
 have zC:∀ R,ar 1 ew (ak 0 (jX x++R))=false∧ar 1 cu (ak 0 (jX x++R))=false∧ar 5 (ch 45) (ak 0 (jX x++R))=false:=fun R=>by
  unfold jX
  split
  ·exact⟨rfl,rfl,rfl⟩
  split
  ·unfold gb
   split<;>exact⟨rfl,rfl,rfl⟩
  split
  ·exact⟨rfl,rfl,rfl⟩
  split
  ·exact⟨rfl,rfl,rfl⟩
  ·exact⟨rfl,rfl,rfl⟩
 refine cy.D2 (by rw[Ao (.inl hk)];decide) (fun R=>by rw[e];exact(zC R).1) (fun R=>by rw[e];exact(zC R).2.1) fun R hf hl l p=> ?_
 rw[e]at hl ⊢
 rw[D8 hl (zC R).2.1 (zC R).2.2]
 exact aaw hk hx ha hf hl i p
theorem KV{x:Ex}{i:Bool}(hk:(x.kind=2∧i=true)∨(x.kind=3∧i=false))(hx:jT x)(ha:x.args=[]):cy x i:=by
 obtain⟨hN,hF⟩:=hx
 have e:pc x=[pw x.name]:=by
  rw[kL];unfold jx
  rw[if_neg (by omega),if_neg (by omega),if_neg (by omega),if_neg (by omega),if_neg (by omega),if_neg (by omega),if_neg (by omega)]
 have cX:iF (if i=true then 2 else 3) x.name []=x:=by
  have:=KU hF
  rw[ha]at this
  rcases hk with⟨h1,h2⟩|⟨h1,h2⟩
  ·rw[h2,if_pos rfl,← h1];exact this.symm
  ·rw[h2,if_neg (by decide),← h1];exact this.symm
 refine Bd (Ao (by omega)) e (pX hN (by decide)) (pX hN (by decide)) fun R hf hl p=> ?_
 rw[e]at hl ⊢
 obtain⟨q,hq⟩:=atA (p:=p) (i:=i) hN hl hf
 exact⟨q,by rw[← cX];exact hq⟩
theorem aaA{x y:Ex}{i:Bool}(hk:x.kind=4)(hi:i=false)(hx:jT x)(ha:x.args=[y])(ry:cy y i):cy x i:=by
 obtain⟨hN,hF⟩:=hx
 have e:pc x=pw x.name::sp::pw fM::sp::cD (pc y):=by
  rw[kL];unfold jx
  rw[if_neg (by omega),if_pos hk,iY (by rw[ha];simp),ha];rfl
 have cX:iF 4 x.name [y]=x:=by
  have:=KU hF
  rw[ha,hk]at this
  exact this.symm
 refine Bd (Ao (by omega)) e (pX hN (by decide)) (pX hN (by decide)) fun R hf hl p=> ?_
 rw[e]at hl ⊢
 have e2:(pw x.name::sp::pw fM::sp::cD (pc y))++R=pw x.name::sp::pw fM::sp::(cD (pc y)++R):=rfl
 rw[e2]at hl ⊢
 have ju:(cD (pc y)++R).length≤90000:=by simp only[Z8]at hl;omega
 rw[yi (eB (pw x.name::sp::pw fM::sp::(cD (pc y)++R)) p).1 (show(1:Int)≠6 by decide) (ln hl p)]
 have ht:(hd (ak p (pw x.name::sp::pw fM::sp::(cD (pc y)++R)))).text=x.name:=rfl
 obtain⟨q,hq⟩:=Ac (p:=p) (Z:=sp::pw fM::sp::(cD (pc y)++R)) hN
 rw[ht,if_neg (by rintro(e|e)<;>exact pX hN (by decide) e),if_neg (pX hN (by decide)),if_neg (fun e=>hN.2 (GN _ e.1)),hq,PR.aD,if_neg (by rw[hi];decide),gI]
 have hs:ar 1 fM (ak 0 (sp::pw fM::sp::(cD (pc y)++R)))=true:=rfl
 rw[hs,if_pos rfl]
 obtain⟨q2,dH⟩:=Cw (p:=q+1+((aG (tW fM)).length:Int)+1) (i:=i) (fun p=>ry.par ju p) ju
 have ft:(ak q (sp::pw fM::sp::(cD (pc y)++R))).tail=ak (q+1+((aG (tW fM)).length:Int)+1) (cD (pc y)++R):=rfl
 unfold PR.map
 rw[ft,dH,PR.aD]
 simp only[cX]
 exact⟨q2,rfl⟩
theorem aaY{x y:Ex}{i:Bool}(hk:x.kind=6)(cj:x.op=hU)(hF:x.Flat (jW x))(ha:x.args=[y])(ry:cy y i):cy x i:=by
 have e:pc x=pw hU::cD (pc y):=by
  rw[kL];unfold jx
  rw[if_neg (by omega),if_neg (by omega),if_neg (by omega),if_pos hk]
  unfold sf
  rw[cj,if_neg (by decide),if_neg (by decide),iY (by rw[ha];simp),ha];rfl
 have cX:hO hU y=x:=by
  have:=uQ hF
  rw[ha,hk,cj]at this
  exact this.symm
 have hr:aF x=9:=by
  unfold aF
  rw[if_neg (by omega),if_neg (by omega),if_pos hk,cj,if_neg (by decide),if_neg (by decide)]
 refine Bd hr e (by decide) (by decide) fun R hf hl p=> ?_
 rw[e]at hl ⊢
 rw[ZH]at hl ⊢
 have ju:(cD (pc y)++R).length≤90000:=by simp only[Z8]at hl;omega
 rw[yi (eB (pw hU::(cD (pc y)++R)) p).1 (show(1:Int)≠6 by decide) (ln hl p)]
 have ht:(hd (ak p (pw hU::(cD (pc y)++R)))).text=hU:=rfl
 rw[ht,if_neg (by decide),if_pos rfl]
 obtain⟨q2,dH⟩:=Cw (p:=p+((aG (tW hU)).length:Int)) (i:=i) (fun p=>ry.par ju p) ju
 have ft:(ak p (pw hU::(cD (pc y)++R))).tail=ak (p+((aG (tW hU)).length:Int)) (cD (pc y)++R):=rfl
 unfold PR.map
 rw[ft,dH,PR.aD,cX]
 exact⟨q2,rfl⟩
theorem aaO{x y:Ex}{i:Bool}(hk:x.kind=6)(cj:x.op=ch 45)(hF:x.Flat (jW x))(ha:x.args=[y])(ry:cy y i):cy x i:=by
 have e:∀ R,pc x++R=ps 45::(bR y 8++R):=fun R=>by
  rw[kL];unfold jx
  rw[if_neg (by omega),if_neg (by omega),if_neg (by omega),if_pos hk]
  unfold sf fK
  rw[cj,if_pos rfl,iY (by rw[ha];simp),ha];rfl
 have cX:hO (ch 45) y=x:=by
  have:=uQ hF
  rw[ha,hk,cj]at this
  exact this.symm
 have hr:aF x=8:=by
  unfold aF
  rw[if_neg (by omega),if_neg (by omega),if_pos hk,cj,if_pos rfl]
 refine cy.D2 (by omega) (fun R=>by rw[e];rfl) (fun R=>by rw[e];rfl) fun R hf hl l p=> ?_
 rw[e]at hl ⊢
 have ju:(bR y 8++R).length≤90000:=by simp only[Z8]at hl;omega
 rw[D9 (eB (ps 45::(bR y 8++R)) p).1 (ln hl p),gI 1 cu,gI 5 (ch 45)]
 have s1:ar 1 cu (ak 0 (ps 45::(bR y 8++R)))=false:=rfl
 have s2:ar 5 (ch 45) (ak 0 (ps 45::(bR y 8++R)))=true:=rfl
 rw[s1,s2,Bool.and_false,if_neg (by decide),if_pos rfl]
 have ft:(ak p (ps 45::(bR y 8++R))).tail=ak (p+((aG (tS 45)).length:Int)) (bR y 8++R):=rfl
 have VF:∃ q,dK N0 7 i (ak (p+((aG (tS 45)).length:Int)) (bR y 8++R))= .ok y (ak q R):=by
  by_cases h:aF y<8
  ·have e:bR y 8=cD (pc y):=if_pos h
   rw[e]at ju ⊢
   exact D7 (fun p=>ry.par ju p) ju
  ·have e:bR y 8=pc y:=if_neg h
   rw[e]at ju ⊢
   exact ry.q1 (by omega) R hf ju 7 _
 obtain⟨q,hq⟩:=VF
 unfold PR.map
 rw[ft,hq,PR.aD,cX]
 exact⟨q,rfl⟩
theorem aaW{x y:Ex}{i:Bool}(hk:x.kind=6)(cj:x.op=cu)(hF:x.Flat (jW x))(ha:x.args=[y])(ry:cy y i):cy x i:=by
 have e:∀ R,pc x++R=pw cu::sp::(bR y 4++R):=fun R=>by
  rw[kL];unfold jx
  rw[if_neg (by omega),if_neg (by omega),if_neg (by omega),if_pos hk]
  unfold sf fK
  rw[cj,if_neg (by decide),if_pos rfl,iY (by rw[ha];simp),ha];rfl
 have cX:hO cu y=x:=by
  have:=uQ hF
  rw[ha,hk,cj]at this
  exact this.symm
 have hr:aF x=4:=by
  unfold aF
  rw[if_neg (by omega),if_neg (by omega),if_pos hk,cj,if_neg (by decide),if_pos rfl]
 refine cy.D3 (by omega) (fun h=>by omega) (fun R=>by rw[e];rfl) (fun h=>by omega) fun l oh mR zI R hf lG hl p=> ?_
 have jt:rk R≤2:=by
  unfold lS at lG
  rw[if_pos hr]at lG;exact lG
 rw[e]at hl ⊢
 have ju:(bR y 4++R).length≤90000:=by simp only[Z8]at hl;omega
 have s1:ar 1 cu (ak 0 (pw cu::sp::(bR y 4++R)))=true:=rfl
 rw[G3 (eB (pw cu::sp::(bR y 4++R)) p).1 (ln hl p),D9 (eB (pw cu::sp::(bR y 4++R)) p).1 (ln hl p),gI,s1,Bool.and_true,Zn (show l≤3 by omega),if_pos rfl,if_pos rfl]
 have ft:(ak p (pw cu::sp::(bR y 4++R))).tail=ak (p+((aG (tW cu)).length:Int)+1) (bR y 4++R):=rfl
 have wV:aF y<4∨rk R≤lS (aF y):=by
  by_cases h:aF y<4
  ·exact .inl h
  ·right
   unfold lS
   split
   ·omega
   ·split<;>omega
 obtain⟨q,hq⟩:=yC ry (r:=4) (l:=3) (by omega) (by omega) (by omega) hf wV ju (p+((aG (tW cu)).length:Int)+1)
 have hm:lW (aF x)=2:=by unfold lW;rw[if_pos hr]
 unfold PR.map
 rw[ft,hq,xG (kc ju) (.inl (by show rk R<3;omega)),PR.aD,PR.aD,cX,hm]
 exact⟨q,rfl⟩
theorem Wx{x a b c:Ex}{i:Bool}(hk:x.kind=8)(cj:x.op=⟨#[]⟩)(hF:x.Flat (jW x))(ha:x.args=[a,b,c])(ra:cy a i)(rb:cy b i)(rc:cy c i):cy x i:=by
 have e:∀ R,pc x++R=pw ew::sp::(pc a++(sp::pw je::sp::(pc b++(sp::pw fC::sp::(pc c++R))))):=fun R=>by
  rw[kL];unfold jx
  rw[if_neg (by omega),if_neg (by omega),if_neg (by omega),if_neg (by omega),if_neg (by omega),if_pos hk]
  unfold uU
  rw[iY (by rw[ha];simp),iY (by rw[ha];simp),iY (by rw[ha];simp),ha];simp
 have cX:(.mk 8 ⟨#[]⟩ ⟨#[]⟩ ⟨#[]⟩ v0 [] 0 w0 [a,b,c]:Ex)=x:=by
  have:=uQ hF
  rw[ha,hk,cj]at this
  exact this.symm
 have hr:aF x=0:=by unfold aF;rw[if_pos hk]
 refine⟨fun h=>by omega,fun l h h2=>by omega,fun h=>by omega,fun R hf lG hd hl p=> ?_,fun h=>by omega,fun h=>by omega⟩
 rw[e]at hl ⊢
 have l1:(pc a++(sp::pw je::sp::(pc b++(sp::pw fC::sp::(pc c++R))))).length≤90000:=by simp only[Z8]at hl;omega
 have l2:(pc b++(sp::pw fC::sp::(pc c++R))).length≤90000:=by have:=kc l1;simp only[Z8]at this;omega
 have l3:(pc c++R).length≤90000:=by have:=kc l2;simp only[Z8]at this;omega
 have s1:ar 1 ew (ak 0 (pw ew::sp::(pc a++(sp::pw je::sp::(pc b++(sp::pw fC::sp::(pc c++R)))))))=true:=rfl
 rw[Cj (eB _ p).1 (ln hl p),gI,s1,if_pos rfl]
 have ft:(ak p (pw ew::sp::(pc a++(sp::pw je::sp::(pc b++(sp::pw fC::sp::(pc c++R))))))).tail=ak (p+((aG (tW ew)).length:Int)+1) (pc a++(sp::pw je::sp::(pc b++(sp::pw fC::sp::(pc c++R))))):=rfl
 obtain⟨q1,iA⟩:=ra.q4 (sp::pw je::sp::(pc b++(sp::pw fC::sp::(pc c++R)))) ⟨rfl,rfl⟩ rfl rfl l1 (p+((aG (tW ew)).length:Int)+1)
 obtain⟨q2,dH⟩:=DR (s:=je) (p:=q1+1) (Z:=sp::(pc b++(sp::pw fC::sp::(pc c++R))))
 obtain⟨q3,uo⟩:=rb.q4 (sp::pw fC::sp::(pc c++R)) ⟨rfl,rfl⟩ rfl rfl l2 (q2+1)
 obtain⟨q4,uq⟩:=DR (s:=fC) (p:=q3+1) (Z:=sp::(pc c++R))
 obtain⟨q5,zL⟩:=rc.q4 R hf lG hd l3 (q4+1)
 have c1:ak q1 (sp::pw je::sp::(pc b++(sp::pw fC::sp::(pc c++R))))=ak (q1+1) (pw je::sp::(pc b++(sp::pw fC::sp::(pc c++R)))):=rfl
 have c2:ak q2 (sp::(pc b++(sp::pw fC::sp::(pc c++R))))=ak (q2+1) (pc b++(sp::pw fC::sp::(pc c++R))):=rfl
 have c3:ak q3 (sp::pw fC::sp::(pc c++R))=ak (q3+1) (pw fC::sp::(pc c++R)):=rfl
 have c4:ak q4 (sp::(pc c++R))=ak (q4+1) (pc c++R):=rfl
 rw[ft,iA,PR.aD,c1,dH,PR.aD,c2,uo,PR.aD,c3,uq,PR.aD,c4,zL,PR.aD,cX]
 exact⟨q5,rfl⟩
theorem Sv{x a b:Ex}{i:Bool}(hk:x.kind=9)(cj:x.op=⟨#[]⟩)(hF:x.Flat (jW x))(ha:x.args=[a,b])(ra:cy a i)(rb:cy b i):cy x i:=by
 have e:∀ R,pc x++R=bR a 1++(sp::pw fB::sp::(bR b 2++R)):=fun R=>by
  rw[kL];unfold jx
  rw[if_neg (by omega),if_neg (by omega),if_neg (by omega),if_neg (by omega),if_neg (by omega),if_neg (by omega),if_pos hk]
  unfold uT fK
  rw[iY (by rw[ha];simp),iY (by rw[ha];simp),ha];simp
 have cX:(.mk 9 ⟨#[]⟩ ⟨#[]⟩ ⟨#[]⟩ v0 [] 0 w0 [a,b]:Ex)=x:=by
  have:=uQ hF
  rw[ha,hk,cj]at this
  exact this.symm
 have hr:aF x=1:=by unfold aF;rw[if_neg (by omega),if_pos hk]
 refine cy.of3 hr (fun R=>by rw[e];exact GY ra (by omega) _) fun R hf lG hl p=> ?_
 rw[e]at hl ⊢
 have l2:(bR b 2++R).length≤90000:=by have:=kc hl;simp only[Z8]at this;omega
 have UD:∃ q,bj N0 i (ak p (bR a 1++(sp::pw fB::sp::(bR b 2++R))))=dq N0 i a (ak q (sp::pw fB::sp::(bR b 2++R))):=by
  by_cases h:aF a<1
  ·have e2:bR a 1=cD (pc a):=if_pos h
   rw[e2]at hl ⊢
   obtain⟨q,hq⟩:=BW (l:=1) (p:=p) hl (D7 (fun p=>ra.par hl p) hl) rfl
   refine⟨q,?_⟩
   have s1:ar 1 ew (ak 0 (cD (pc a)++(sp::pw fB::sp::(bR b 2++R))))=false:=rfl
   rw[Cj (eB _ p).1 (ln hl p),gI,s1,if_neg (by decide),hq,xG (kc hl) (.inr (.inl rfl)),PR.aD]
  ·have e2:bR a 1=pc a:=if_neg h
   rw[e2]at hl ⊢
   exact ra.q3 (by omega) _ ⟨rfl,rfl⟩ rfl hl p
 obtain⟨q1,iA⟩:=UD
 obtain⟨q2,dH⟩:=yC rb (r:=2) (l:=1) (by omega) (by omega) (by omega) hf (.inr (by rw[lG];exact ZF _)) l2 (q1+1+((aG (tW fB)).length:Int)+1)
 have s2:ar 1 fB (ak 0 (sp::pw fB::sp::(bR b 2++R)))=true:=rfl
 have ft:(ak q1 (sp::pw fB::sp::(bR b 2++R))).tail=ak (q1+1+((aG (tW fB)).length:Int)+1) (bR b 2++R):=rfl
 refine⟨q2,?_⟩
 rw[iA,HR (eB _ q1).1 (ln (kc hl) q1),gI,s2,if_pos rfl,ft,dH,xG (kc l2) (.inr (.inl lG)),PR.aD,cX]
set_option linter.unusedSectionVars false
set_option maxHeartbeats 1000000
theorem aty{w:eT}(hw:j4 w)(Z:List Pc)(p:Int):∃ q,qu (ak p (iX w++Z))= .ok w (ak q Z):=by
 obtain⟨k,z⟩:=w
 unfold j4 at hw
 simp only at hw
 have hz:∀ q:Int,k≠1→(q:Int)=q→((z.toNat:Nat):Int)=z:=fun q h _=>by omega
 unfold iX qu
 simp only
 by_cases k2:k=2
 ·subst k2
  rw[if_pos rfl]
  obtain⟨q,hq⟩:=xB (p:=p+((aG (tW kR)).length:Int)+1) (n:=z.toNat) (Z:=Z)
  have s1:ar 1 nH (ak p ([pw kR,sp,.inr (tI z.toNat)]++Z))=false:=rfl
  have s2:ar 1 kR (ak p ([pw kR,sp,.inr (tI z.toNat)]++Z))=true:=rfl
  have t:(ak p ([pw kR,sp,.inr (tI z.toNat)]++Z)).tail=ak (p+((aG (tW kR)).length:Int)+1) (.inr (tI z.toNat)::Z):=rfl
  refine⟨q,?_⟩
  rw[s1,s2,if_neg (by decide),if_pos rfl,t]
  unfold PR.map
  rw[hq,PR.aD,hz 0 (by decide) rfl]
 rw[if_neg k2]
 by_cases k3:k=3
 ·subst k3
  rw[if_pos rfl]
  obtain⟨q,hq⟩:=xB (p:=p+((aG (tW kS)).length:Int)+1) (n:=z.toNat) (Z:=Z)
  have s1:ar 1 nH (ak p ([pw kS,sp,.inr (tI z.toNat)]++Z))=false:=rfl
  have s2:ar 1 kR (ak p ([pw kS,sp,.inr (tI z.toNat)]++Z))=false:=rfl
  have s3:ar 1 kS (ak p ([pw kS,sp,.inr (tI z.toNat)]++Z))=true:=rfl
  have t:(ak p ([pw kS,sp,.inr (tI z.toNat)]++Z)).tail=ak (p+((aG (tW kS)).length:Int)+1) (.inr (tI z.toNat)::Z):=rfl
  refine⟨q,?_⟩
  rw[s1,s2,s3,if_neg (by decide),if_neg (by decide),if_pos rfl,t]
  unfold PR.map
  rw[hq,PR.aD,hz 0 (by decide) rfl]
 rw[if_neg k3]
 by_cases k4:k=4
 ·subst k4
  rw[if_pos rfl]
  obtain⟨q0,rH⟩:=DR (s:=oR) (p:=p) (Z:=sp:: .inr (tI z.toNat)::Z)
  obtain⟨q,hq⟩:=xB (p:=q0+1) (n:=z.toNat) (Z:=Z)
  have e:[pw oR,sp,.inr (tI z.toNat)]++Z=pw oR::sp:: .inr (tI z.toNat)::Z:=rfl
  have s1:ar 1 nH (ak p (pw oR::sp:: .inr (tI z.toNat)::Z))=false:=rfl
  have s2:ar 1 kR (ak p (pw oR::sp:: .inr (tI z.toNat)::Z))=false:=rfl
  have s3:ar 1 kS (ak p (pw oR::sp:: .inr (tI z.toNat)::Z))=false:=rfl
  have t:ak q0 (sp:: .inr (tI z.toNat)::Z)=ak (q0+1) (.inr (tI z.toNat)::Z):=rfl
  refine⟨q,?_⟩
  rw[e,s1,s2,s3,if_neg (by decide),if_neg (by decide),if_neg (by decide),rH,PR.aD,t]
  unfold PR.map
  rw[hq,PR.aD,hz 0 (by decide) rfl]
 ·rw[if_neg k4]
  obtain⟨rfl,rfl⟩:k=1∧z=0:=by omega
  have s1:ar 1 nH (ak p ([pw nH]++Z))=true:=rfl
  refine⟨p+((aG (tW nH)).length:Int),?_⟩
  rw[s1,if_pos rfl];rfl
theorem QI:∀ s∈jH,s≠ew∧s≠cu∧¬(s=sI∨s=yh)∧s≠hU:=by decide
theorem QJ{x a b:Ex}(hk:x.kind=5)(hx:nO x)(ha:x.args=[a,b])(hc:x.op=db→a=du)(ra:cy a true)(rb:cy b true):cy x false:=by
 obtain⟨⟨y,hy,cj⟩,hN,hw,hp,hF⟩:=hx
 have iy:x.op∈jH:=cj ▸ hy
 obtain⟨n1,n2,n3,n4⟩:=QI _ iy
 have cX:(.mk 5 x.op ⟨#[]⟩ x.table v0 [] x.param x.win [a,b]:Ex)=x:=by
  have:=QH hk hF
  rw[ha]at this
  exact this.symm
 have e0:pc x=pw x.op::(ps 40::pw x.table::((if x.op=db then[]else ps 44::sp::pc a)++((if x.param=0 then[]else[ps 44,sp,.inr (tI x.param.toNat)])
   ++(ps 44::sp::(iX x.win++((if b=du then[]else sp::pw eP::sp::pc b)++[ps 41])))))):=by
  rw[kL];unfold jx
  rw[if_neg (by omega),if_neg (by omega),if_pos hk]
  unfold se
  rw[iY (by rw[ha];simp),iY (by rw[ha];simp),ha];rfl
 refine Bd (Ao (by omega)) e0 n1 n2 fun R hf hl p=> ?_
 generalize Ui:(if b=du then([]:List Pc)else sp::pw eP::sp::pc b)=A2 at *
 have wD:∃ Zw,Zw=iX x.win++(A2++ps 41::R):=⟨_,rfl⟩
 obtain⟨Zw,wD⟩:=wD
 obtain⟨P,hP⟩:∃ P,P=if x.param=0 then sp::Zw else sp:: .inr (tI x.param.toNat)::ps 44::sp::Zw:=⟨_,rfl⟩
 obtain⟨Q,hQ⟩:∃ Q,Q=if x.op=db then P else sp::(pc a++ps 44::P):=⟨_,rfl⟩
 have e1:(if x.param=0 then([]:List Pc)else[ps 44,sp,.inr (tI x.param.toNat)])++(ps 44::sp::Zw)=ps 44::P:=by
  rw[hP];split<;>rfl
 have e2:(if x.op=db then([]:List Pc)else ps 44::sp::pc a)++(ps 44::P)=ps 44::Q:=by
  rw[hQ];split
  ·rfl
  ·simp
 have e:pc x++R=pw x.op::ps 40::pw x.table::ps 44::Q:=by
  rw[e0,← e2,← e1,wD];simp
 rw[e]at hl ⊢
 have lQ:Q.length≤89996:=by simp only[Z8]at hl;omega
 have lP:P.length≤89996:=by
  rw[hQ]at lQ
  split at lQ
  ·exact lQ
  ·simp only[Z8,Z7]at lQ;omega
 have lZ:Zw.length≤89996:=by
  rw[hP]at lP
  split at lP
  ·simp only[Z8]at lP;omega
  ·simp only[Z8]at lP;omega
 rw[yi (eB (pw x.op::ps 40::pw x.table::ps 44::Q) p).1 (show(1:Int)≠6 by decide) (ln hl p)]
 have ht:(hd (ak p (pw x.op::ps 40::pw x.table::ps 44::Q))).text=x.op:=rfl
 have ft:(ak p (pw x.op::ps 40::pw x.table::ps 44::Q)).tail=ak (p+((aG (tW x.op)).length:Int)) (ps 40::pw x.table::ps 44::Q):=rfl
 rw[ht,if_neg n3,if_neg n4,if_pos ⟨iy,rfl⟩,ft]
 obtain⟨q1,iA⟩:=Ac (p:=p+((aG (tW x.op)).length:Int)+1) (Z:=ps 44::Q) hN
 rw[QK (eB (ps 40::pw x.table::ps 44::Q) _).1 (ln (by simp only[Z8]at hl ⊢;omega) _),sq,PR.aD,iA,PR.aD,sq,PR.aD]
 have hval:∃ q,(if x.op≠sH then(bj N0 true (ak (q1+1) Q)).bind fun x L4=>(de (ch 44) L4).map fun _=>x else .ok (ff 1) (ak (q1+1) Q))= .ok a (ak q P):=by
  by_cases h:x.op=db
  ·rw[if_neg (fun k=>k h),hQ,if_pos h,hc h]
   exact⟨_,rfl⟩
  ·rw[if_pos (show x.op≠sH from h),hQ,if_neg h]
   rw[hQ,if_neg h]at lQ
   obtain⟨q,hq⟩:=ra.q4 (ps 44::P) ⟨rfl,rfl⟩ rfl rfl (by rw[Z8]at lQ;omega) (q1+1+1)
   have t:ak (q1+1) (sp::(pc a++ps 44::P))=ak (q1+1+1) (pc a++ps 44::P):=rfl
   rw[t,hq,PR.aD]
   unfold PR.map
   rw[sq]
   exact⟨q+1,rfl⟩
 obtain⟨q2,dH⟩:=hval
 rw[dH,PR.aD]
 have Dn:∃ q,(if x.op=oQ∨x.op=oP then(dZ (ak q2 P)).bind fun k L6=>(de (ch 44) L6).map fun _=>k else .ok 0 (ak q2 P))= .ok x.param (ak q (sp::Zw)):=by
  unfold l7 at hp
  by_cases h0:x.param=0
  ·have eZ:¬(x.op=oQ∨x.op=oP):=by
    rintro(h|h)
    ·rw[if_pos h]at hp;omega
    ·rw[if_neg (by rw[h];decide),if_pos h]at hp;omega
   rw[if_neg eZ,hP,if_pos h0,h0]
   exact⟨_,rfl⟩
  ·have Kd:x.op=oQ∨x.op=oP:=by
    by_cases h1:x.op=oQ
    ·exact .inl h1
    ·rw[if_neg h1]at hp
     by_cases h2:x.op=oP
     ·exact .inr h2
     ·rw[if_neg h2]at hp;exact absurd hp h0
   have mY:((x.param.toNat:Nat):Int)=x.param:=by
    rcases Kd with h|h
    ·rw[if_pos h]at hp;omega
    ·rw[if_neg (by rw[h];decide),if_pos h]at hp;omega
   rw[if_pos Kd,hP,if_neg h0]
   obtain⟨q,hq⟩:=xB (p:=q2+1) (n:=x.param.toNat) (Z:=ps 44::sp::Zw)
   have t:ak q2 (sp:: .inr (tI x.param.toNat)::ps 44::sp::Zw)=ak (q2+1) (.inr (tI x.param.toNat)::ps 44::sp::Zw):=rfl
   rw[t,hq,PR.aD]
   unfold PR.map
   rw[sq,PR.aD,mY]
   exact⟨q+1,rfl⟩
 obtain⟨q3,uo⟩:=Dn
 rw[uo,PR.aD]
 obtain⟨q4,uq⟩:=aty hw (A2++ps 41::R) (q3+1)
 have t3:ak q3 (sp::Zw)=ak (q3+1) (iX x.win++(A2++ps 41::R)):=by rw[wD];rfl
 rw[t3,uq,PR.aD]
 have lA:(A2++ps 41::R).length≤89996:=by rw[wD,Z7]at lZ;omega
 have wK:∃ q,(if ar 1 eP (ak q4 (A2++ps 41::R))then bj N0 true (ak q4 (A2++ps 41::R)).tail else .ok (ff 1) (ak q4 (A2++ps 41::R)))= .ok b (ak q (ps 41::R)):=by
  rw[← Ui]at lA ⊢
  by_cases h:b=du
  ·rw[if_pos h,h,gI]
   have s1:ar 1 eP (ak 0 ([]++ps 41::R))=false:=rfl
   rw[s1,if_neg (by decide)]
   exact⟨_,rfl⟩
  ·rw[if_neg h]at lA ⊢
   rw[gI]
   have s1:ar 1 eP (ak 0 ((sp::pw eP::sp::pc b)++ps 41::R))=true:=rfl
   have t:(ak q4 ((sp::pw eP::sp::pc b)++ps 41::R)).tail=ak (q4+1+((aG (tW eP)).length:Int)+1) (pc b++ps 41::R):=rfl
   rw[s1,if_pos rfl,t]
   exact rb.q4 (ps 41::R) (IL R) rfl rfl (by simp only[Z8,Z7]at lA ⊢;omega) _
 obtain⟨q5,zL⟩:=wK
 rw[zL,PR.aD]
 unfold PR.map
 rw[sq,PR.aD,cX]
 exact⟨q5+1,rfl⟩
theorem Le{l:List Ex}(h:l.length=1):∃ a,l=[a]:=by
 match l,h with
 |[a],_=>exact⟨a,rfl⟩
theorem EU{l:List Ex}(h:l.length=2):∃ a b,l=[a,b]:=by
 match l,h with
 |[a,b],_=>exact⟨a,b,rfl⟩
theorem asI{l:List Ex}(h:l.length=3):∃ a b c,l=[a,b,c]:=by
 match l,h with
 |[a,b,c],_=>exact⟨a,b,c,rfl⟩
theorem abL(x:Ex):∀ ins,form ins x=true→cy x ins:=by
 induction x using Ex.ind with
 |h x ih=>
 intro ins hf
 have F:=mr.of hf
 have hn:=F.nn
 have hb:=F.nb
 have bO:=F.sub
 unfold eF at hb
 unfold jU at hn
 by_cases k1:x.kind=1
 ·rw[if_pos k1]at hb
  rw[if_neg (by omega),if_neg (by omega),if_neg (by omega)]at hn
  exact aax k1 hb (ZO (by omega)) ins
 rw[if_neg k1]at hb
 by_cases k2:x.kind=2
 ·rw[if_pos k2]at hb
  rw[if_neg (by omega),if_neg (by omega),if_neg (by omega)]at hn
  exact KV (.inl ⟨k2,hb.1⟩) hb.2 (ZO (by omega))
 rw[if_neg k2]at hb
 by_cases k3:x.kind=3
 ·rw[if_pos (.inl k3)]at hb
  rw[if_neg (by omega),if_neg (by omega),if_neg (by omega)]at hn
  exact KV (.inr ⟨k3,hb.1⟩) hb.2 (ZO (by omega))
 have wR:x.kind≠5→(ins || decide (x.kind=5))=ins:=fun h=>by rw[Zu h,Bool.or_false]
 by_cases k4:x.kind=4
 ·rw[if_pos (.inr k4)]at hb
  rw[if_pos (.inl k4)]at hn
  obtain⟨y,hy⟩:=Le (l:=x.args) (by omega)
  have h0:=bO y (by rw[hy];simp)
  rw[wR (by omega)]at h0
  exact aaA k4 hb.1 hb.2 hy (ih y (by rw[hy];simp) ins h0)
 rw[if_neg (by omega)]at hb
 by_cases k5:x.kind=5
 ·rw[if_pos k5]at hb
  rw[if_neg (by omega),if_pos (.inl k5)]at hn
  obtain⟨a,b,dV⟩:=EU (l:=x.args) (by omega)
  have h0:=bO a (by rw[dV];simp)
  have h1:=bO b (by rw[dV];simp)
  rw[Zn k5,Bool.or_true]at h0 h1
  have hc:x.op=db→a=du:=fun h=>by
   have:=F.cn k5 h
   rw[dV]at this
   exact this
  rw[hb.1]
  exact QJ k5 hb.2 dV hc (ih a (by rw[dV];simp) true h0) (ih b (by rw[dV];simp) true h1)
 rw[if_neg k5]at hb
 by_cases k6:x.kind=6
 ·rw[if_pos k6]at hb
  rw[if_pos (.inr k6)]at hn
  obtain⟨y,hy⟩:=Le (l:=x.args) (by omega)
  have h0:=bO y (by rw[hy];simp)
  rw[wR (by omega)]at h0
  have ry:=ih y (by rw[hy];simp) ins h0
  obtain⟨hF,o,ho,cj⟩:=hb
  simp only[x8,ZU,List.not_mem_nil,or_false]at ho
  rcases ho with rfl|rfl|rfl
  ·exact aaO k6 cj hF hy ry
  ·exact aaW k6 cj hF hy ry
  ·exact aaY k6 cj hF hy ry
 rw[if_neg k6]at hb
 by_cases k7:x.kind=7
 ·rw[if_pos k7]at hb
  rw[if_neg (by omega),if_pos (.inr (.inl k7))]at hn
  obtain⟨a,b,dV⟩:=EU (l:=x.args) (by omega)
  have h0:=bO a (by rw[dV];simp)
  have h1:=bO b (by rw[dV];simp)
  rw[wR (by omega)]at h0 h1
  obtain⟨hF,o,ho,cj⟩:=hb
  exact Ra k7 hF (cj ▸ ho) dV (ih a (by rw[dV];simp) ins h0) (ih b (by rw[dV];simp) ins h1)
 rw[if_neg k7]at hb
 by_cases k8:x.kind=8
 ·rw[if_pos (.inl k8)]at hb
  rw[if_neg (by omega),if_neg (by omega),if_pos k8]at hn
  obtain⟨a,b,c,dV⟩:=asI (l:=x.args) (by omega)
  have h0:=bO a (by rw[dV];simp)
  have h1:=bO b (by rw[dV];simp)
  have h2:=bO c (by rw[dV];simp)
  rw[wR (by omega)]at h0 h1 h2
  exact Wx k8 hb.2 hb.1 dV (ih a (by rw[dV];simp) ins h0) (ih b (by rw[dV];simp) ins h1) (ih c (by rw[dV];simp) ins h2)
 by_cases k9:x.kind=9
 ·rw[if_pos (.inr k9)]at hb
  rw[if_neg (by omega),if_pos (.inr (.inr k9))]at hn
  obtain⟨a,b,dV⟩:=EU (l:=x.args) (by omega)
  have h0:=bO a (by rw[dV];simp)
  have h1:=bO b (by rw[dV];simp)
  rw[wR (by omega)]at h0 h1
  exact Sv k9 hb.2 hb.1 dV (ih a (by rw[dV];simp) ins h0) (ih b (by rw[dV];simp) ins h1)
 ·rw[if_neg (by omega)]at hb;exact hb.elim
theorem Ed:∀ L:List Pc,b7 L→L.length≤(aI L).length
 |[],_=>ZK _
 | .inl b::L,h=>by have:=Ed L h.2;simp only[aI,Z8];omega
 | .inr t::L,h=>by
  have:=Ed L h.2
  have h2:=YU.2 h.1.ne
  simp only[aI,Z8,Z7];omega
theorem asF{x:Ex}(h:form false x=true)(hs:(text x).size≤16384):∃ L,dD (bL (text x))=(L,[])∧∃ q,bj N0 false L= .ok x (ak q []):=by
 have hT:=asR h
 have bu:=Ls x false h [] (by exact Fl.nil) trivial
 rw[Zx]at bu
 have hlen:=Ed _ bu
 rw[Lr x false h]at hlen
 have mS:(bL (text x)).length=(text x).size:=rfl
 obtain⟨q,hq⟩:=(abL x false h).q4 [] ⟨rfl,rfl⟩ rfl rfl (by rw[Zx];omega) 0
 rw[Zx]at hq
 exact⟨_,hT,q,hq⟩
set_option linter.unusedSectionVars false
theorem as6{v:dQ}(hn:v.n≤1152921504606846976)(hk:v.kind=2∨v.kind=3):(sF v).size≤40:=by
 have hd:(Lib.decDigits v.n.toNat).length≤21:=tv (by omega)
 have hq:(Lib.decDigits (v.n.toNat / 10 ^ 6)).length≤21:=tv (by omega)
 unfold sF
 rw[if_neg (by omega)]
 split
 ·show(Lib.decDigits v.n.toNat).toArray.size≤40
  rw[Z0];omega
 ·rw[if_pos (by omega)]
  show(Lib.decDigits (v.n.toNat / 10 ^ 6)++46::dJ 6 v.n.toNat).toArray.size≤40
  rw[Z0,Z7,Z8,oC];omega
theorem aas{x:Ex}(h:jS x):(oA x).size≤250:=by
 obtain⟨h1,h2,h3,h4⟩:=h
 have hv:lj x.val:=⟨h1,h2⟩
 have hk:=hv.kinds
 have hs:=E2 hv
 obtain⟨hl,hu,ho⟩:=A4 h3
 have hn:=(EV h3).2.1
 have hu:(j2 x.unit).size≤210:=x9 hu hl
 have hb:=(E1 h1).2.1
 simp only at ho hn
 unfold oA
 split
 ·((simp only[Z8,Z2,Z7,Z5,ZW,bN,bz,dh,Z0];omega))
 ·rw[bN]
  by_cases zP:x.unit=[]
  ·rw[zP]
   have:(j2 []).size=0:=rfl
   omega
  ·have:=as6 hb (hn zP)
   omega
theorem MU(x:Ex):∀ ins,form ins x=true→(text x).size≤250 * x.size:=by
 induction x using Ex.ind with
 |h x ih=>
 intro ins hf
 have h:=mr.of hf
 have hT:∀ i,i<x.args.length→(tx x i).size≤250 * (x.args.getD i default).size:=fun i hi=>by
  rw[x7 hi];exact ih _ (ei hi) _ (h.sub _ (ei hi))
 have hs:=Ex.l9 x
 have hb:=h.nb
 have hn:=h.nn
 have VB:=hn
 rw[AY]
 unfold vk
 unfold jU at hn
 by_cases h1:x.kind=1
 ·rw[if_pos h1]
  have:=aas (x:=x) (by unfold eF at hb;rwa [if_pos h1]at hb)
  omega
 rw[if_neg h1]
 by_cases h4:x.kind=4
 ·rw[if_pos h4]
  rw[if_pos (.inl h4)]at hn
  have hN:jT x:=by unfold eF at hb;rw[if_neg (by omega),if_neg (by omega),if_pos (.inr h4)]at hb;exact hb.2
  have h5:=hN.1.1.2.1
  have h6:=hT 0 (by omega)
  have h7:=AF (l:=x.args) (by omega)
  ((simp only[Z8,Z2,Z7,Z5,ZW,bN,bz,dh,Z0];omega))
 rw[if_neg h4]
 by_cases h5:x.kind=5
 ·rw[if_pos h5]
  rw[if_neg (by omega),if_pos (.inl h5)]at hn
  have hA:nO x:=by unfold eF at hb;rw[if_neg (by omega),if_neg (by omega),if_neg (by omega),if_pos h5]at hb;exact hb.2
  obtain⟨⟨y,hy,ho⟩,ht,hw,hp, -⟩:=hA
  have e1:=BO y hy
  rw[← ho]at e1
  have e2:=ht.1.2.1
  have e3:=Ff hw
  have e4:(iD x.param).size≤21:=DM (by unfold l7 at hp;repeat' split at hp
                                       all_goals omega)
  have e6:=hT 0 (by omega)
  have e7:=hT 1 (by omega)
  have e8:=u9 (l:=x.args) (by omega)
  have a1:(if x.op=db then(⟨#[]⟩:ag)else⟨#[44,32]⟩++tx x 0).size≤2+(tx x 0).size:=by
   split
   ·rw[bz];exact ZF _
   ·rw[bN,bz];exact ZK _
  have a2:(if x.param=0 then(⟨#[]⟩:ag)else⟨#[44,32]⟩++iD x.param).size≤23:=by
   split
   ·decide
   ·rw[bN,bz];show 2+_≤_;omega
  have a3:(if x.args.getD 1 default=du then(⟨#[]⟩:ag)else⟨#[32,119,104,101,114,101,32]⟩++tx x 1).size≤7+(tx x 1).size:=by
   split
   ·rw[bz];exact ZF _
   ·rw[bN,bz];exact ZK _
  unfold fR
  ((simp only[Z8,Z2,Z7,Z5,ZW,bN,bz,dh,Z0];omega))
 rw[if_neg h5]
 by_cases h6:x.kind=6
 ·rw[if_pos h6]
  rw[if_pos (.inr h6)]at hn
  have e6:=hT 0 (by omega)
  have e7:=AF (l:=x.args) (by omega)
  have e8:= @jI x (tx x) 0 8
  have e9:= @jI x (tx x) 0 4
  unfold sA
  repeat' split
  all_goals((simp only[Z8,Z2,Z7,Z5,ZW,bN,bz,dh,Z0];omega))
 rw[if_neg h6]
 by_cases h7:x.kind=7
 ·rw[if_pos h7]
  rw[if_neg (by omega),if_pos (.inr (.inl h7))]at hn
  have hB:∃ y∈ke,x.op=y:=by unfold eF at hb;rw[if_neg (by omega),if_neg (by omega),if_neg (by omega),if_neg (by omega),if_neg (by omega),if_pos h7]at hb;exact hb.2
  obtain⟨y,hy,ho⟩:=hB
  have e1:=BV y hy
  rw[← ho]at e1
  have e6:=hT 0 (by omega)
  have e7:=hT 1 (by omega)
  have e8:=u9 (l:=x.args) (by omega)
  have e9:= @jI x (tx x) 0 (iE x)
  have wg:= @jI x (tx x) 1 (aF x+1)
  unfold qJ
  ((simp only[Z8,Z2,Z7,Z5,ZW,bN,bz,dh,Z0];omega))
 rw[if_neg h7]
 by_cases h8:x.kind=8
 ·rw[if_pos h8]
  rw[if_neg (by omega),if_neg (by omega),if_pos h8]at hn
  have e6:=hT 0 (by omega)
  have e7:=hT 1 (by omega)
  have e5:=hT 2 (by omega)
  have e8:=Mr (l:=x.args) (by omega)
  unfold rR
  ((simp only[Z8,Z2,Z7,Z5,ZW,bN,bz,dh,Z0];omega))
 rw[if_neg h8]
 by_cases h9:x.kind=9
 ·rw[if_pos h9]
  rw[if_neg (by omega),if_pos (.inr (.inr h9))]at hn
  have e6:=hT 0 (by omega)
  have e7:=hT 1 (by omega)
  have e8:=u9 (l:=x.args) (by omega)
  have e9:= @jI x (tx x) 0 1
  have wg:= @jI x (tx x) 1 2
  unfold qN
  ((simp only[Z8,Z2,Z7,Z5,ZW,bN,bz,dh,Z0];omega))
 rw[if_neg h9]
 have hN:jT x:=by
  unfold eF at hb
  rw[if_neg h1]at hb
  split at hb
  ·exact hb.2
  ·split at hb
   ·exact hb.2
   ·rw[if_neg (by omega)]at hb;exact hb.elim
 have h5:=hN.1.1.2.1
 omega
theorem Nw{x:Ex}(h:form false x=true)(hs:x.size≤64)(z:Ex):mh (bj N0 false) z (bL (text x))=(x,0,0):=by
 have hl:(text x).size≤16384:=by have:=MU x false h;omega
 obtain⟨L,hL,q,hq⟩:=asF h hl
 unfold mh
 rw[if_neg (show¬(bL (text x)).length>16384 from fun k=>by have:(bL (text x)).length=(text x).size:=rfl;omega),hL]
 simp only[hq,PR.aD]
 rfl
set_option linter.unusedSectionVars false
theorem PR.eK{α β:Type}{r:PR α}{f:α→List Tok→PR β}{b:β}{L':List Tok}(h:r.bind f= .ok b L'):∃ a L1,r= .ok a L1∧f a L1= .ok b L':=by
 cases r with
 |ok a L=>exact⟨a,L,rfl,h⟩
 |err p c=>cases h
theorem PR.nt{α β:Type}{r:PR α}{f:α→β}{b:β}{L':List Tok}(h:r.map f= .ok b L'):∃ a,r= .ok a L'∧b=f a:=by
 cases r with
 |ok a L=>cases h;exact⟨a,rfl,rfl⟩
 |err p c=>cases h
theorem nE{k:Int}{o n t:ag}{v:dQ}{u:List aq}{p:Int}{w:eT}:(Ex.mk k o n t v u p w []).size=1:=by rw[Ex.l9];rfl
theorem AR{k:Int}{o n t:ag}{v:dQ}{u:List aq}{p:Int}{w:eT}{a:Ex}:(Ex.mk k o n t v u p w [a]).size=1+a.size:=by
 rw[Ex.l9];show 1+(a.size+0)=_;omega
theorem EL{k:Int}{o n t:ag}{v:dQ}{u:List aq}{p:Int}{w:eT}{a b:Ex}:(Ex.mk k o n t v u p w [a,b]).size=1+a.size+b.size:=by
 rw[Ex.l9];show 1+(a.size+(b.size+0))=_;omega
theorem sz4{k:Int}{o n t:ag}{v:dQ}{u:List aq}{p:Int}{w:eT}{a b c:Ex}:(Ex.mk k o n t v u p w [a,b,c]).size=1+a.size+b.size+c.size:=by
 rw[Ex.l9];show 1+(a.size+(b.size+(c.size+0)))=_;omega
theorem pY{k:Int}{s:ag}(hk:k≠6){L L1:List Tok}(h:bF L)(e:iV k s L= .ok () L1):bF L1∧L1.length+1≤L.length:=(((Pos.bK hk) L h).ok () L1 e).2
structure OA(n:Nat):Prop where
 expr:∀ i L,bF L→∀ x L',bj n i L= .ok x L'→x.size+L'.length≤L.length
 iP:∀ i y L,bF L→∀ x L',dq n i y L= .ok x L'→x.size+L'.length≤y.size+L.length
 bin:∀ l i L,bF L→∀ x L',dm n l i L= .ok x L'→x.size+L'.length≤L.length
 ops:∀ l o i y L,bF L→∀ x L',dt n l o i y L= .ok x L'→x.size+L'.length≤y.size+L.length
 operand:∀ l i L,bF L→∀ x L',dK n l i L= .ok x L'→x.size+L'.length≤L.length
 jZ:∀ i L,bF L→∀ x L',ej n i L= .ok x L'→x.size+L'.length≤L.length
 group:∀ i L,bF L→∀ x L',dy n i L= .ok x L'→x.size+L'.length+2≤L.length
 word:∀ i L,bF L→(hd L).kind≠6→∀ x L',ey n i L= .ok x L'→x.size+L'.length≤L.length
 agg:∀ o L,bF L→∀ x L',fh n o L= .ok x L'→x.size+L'.length≤L.length
theorem MK:∀ n,OA n
 |0=>⟨fun _ _ _ _ _ e=>(by rw[bj]at e;cases e),fun _ _ _ _ _ _ e=>(by rw[dq]at e;cases e),fun _ _ _ _ _ _ e=>(by rw[dm]at e;cases e),fun _ _ _ _ _ _ _ _ e=>(by rw[dt]at e;cases e),fun _ _ _ _ _ _ e=>(by rw[dK]at e;cases e),fun _ _ _ _ _ e=>(by rw[ej]at e;cases e),fun _ _ _ _ _ e=>(by rw[dy]at e;cases e),fun _ _ _ _ _ _ e=>(by rw[ey]at e;cases e),fun _ _ _ _ _ e=>(by rw[fh]at e;cases e)⟩
 |n+1=>by
  have ih:=MK n
  have P:=jz n
  refine⟨fun i L h x L' e=> ?_,fun i y L h x L' e=> ?_,fun l i L h x L' e=> ?_,fun l o i y L h x L' e=> ?_,fun l i L h x L' e=> ?_,fun i L h x L' e=> ?_,fun i L h x L' e=> ?_,fun i L h hk x L' e=> ?_,fun o L h x L' e=> ?_⟩
  ·rw[bj]at e
   by_cases hs:ar 1 ew L=true
   ·rw[if_pos hs]at e
    obtain⟨t1,t2⟩:=h.tail (bJ (k:=1) (by decide) L hs)
    obtain⟨a,L1,e1,e⟩:=PR.eK e
    obtain⟨_,L2,e2,e⟩:=PR.eK e
    obtain⟨b,L3,e3,e⟩:=PR.eK e
    obtain⟨_,L4,e4,e⟩:=PR.eK e
    obtain⟨c,L5,e5,e⟩:=PR.eK e
    have p1:=(P.expr i L.tail t1).ok a L1 e1
    have p2:=pY (by decide) p1.2.1 e2
    have p3:=(P.expr i L2 p2.1).ok b L3 e3
    have p4:=pY (by decide) p3.2.1 e4
    have s1:=ih.expr i _ t1 _ _ e1
    have s3:=ih.expr i _ p2.1 _ _ e3
    have s5:=ih.expr i _ p4.1 _ _ e5
    cases e
    rw[sz4];omega
   ·rw[if_neg hs]at e
    obtain⟨a,L1,e1,e⟩:=PR.eK e
    have p1:=(P.bin 1 i L h).ok a L1 e1
    have s1:=ih.bin 1 i _ h _ _ e1
    have s2:=ih.iP i a _ p1.2.1 _ _ e
    omega
  ·rw[dq]at e
   by_cases hs:ar 1 fB L=true
   ·rw[if_pos hs]at e
    obtain⟨t1,t2⟩:=h.tail (bJ (k:=1) (by decide) L hs)
    obtain⟨a,L1,e1,e⟩:=PR.eK e
    have p1:=(P.bin 1 i L.tail t1).ok a L1 e1
    have s1:=ih.bin 1 i _ t1 _ _ e1
    have s2:=ih.iP i _ _ p1.2.1 _ _ e
    rw[EL]at s2;omega
   ·rw[if_neg hs]at e
    cases e;exact ZK _
  ·rw[dm]at e
   obtain⟨a,L1,e1,e⟩:=PR.eK e
   have p1:=(P.operand l i L h).ok a L1 e1
   have s1:=ih.operand l i _ h _ _ e1
   have s2:=ih.ops l _ i a _ p1.2.1 _ _ e
   omega
  ·rw[dt]at e
   by_cases hs:aY L≥l∧aY L≠0∧aY L≤o
   ·rw[if_pos hs]at e
    obtain⟨t1,t2⟩:=h.tail (sk L hs.2.1)
    obtain⟨a,L1,e1,e⟩:=PR.eK e
    have p1:=(P.bin (aY L+1) i L.tail t1).ok a L1 e1
    have s1:=ih.bin _ i _ t1 _ _ e1
    have s2:=ih.ops l _ i _ _ p1.2.1 _ _ e
    unfold mE at s2
    rw[EL]at s2;omega
   ·rw[if_neg hs]at e
    cases e;exact ZK _
  ·rw[dK]at e
   by_cases hs:(decide (l≤3) && ar 1 cu L)=true
   ·rw[if_pos hs]at e
    obtain⟨t1,t2⟩:=h.tail (bJ (k:=1) (by decide) L (Z3 _ _ ▸ hs).2)
    obtain⟨a,e1,rfl⟩:=PR.nt e
    have s1:=ih.bin 3 i _ t1 _ _ e1
    unfold hO;rw[AR];omega
   rw[if_neg hs]at e
   by_cases dz:ar 5 (ch 45) L=true
   ·rw[if_pos dz]at e
    obtain⟨t1,t2⟩:=h.tail (bJ (k:=5) (by decide) L dz)
    obtain⟨a,e1,rfl⟩:=PR.nt e
    have s1:=ih.operand 7 i _ t1 _ _ e1
    unfold hO;rw[AR];omega
   ·rw[if_neg dz]at e
    exact ih.jZ i L h x L' e
  ·rw[ej]at e
   by_cases k2:(hd L).kind=2
   ·rw[if_pos k2]at e
    obtain⟨a,L1,e1,e⟩:=PR.eK e
    obtain⟨u,e2,rfl⟩:=PR.nt e
    have p1:=(Pos.num L h).ok a L1 e1
    have p2:=(Pos.unit L1 p1.2.1).ok u L' e2
    unfold fY;rw[nE];omega
   rw[if_neg k2]at e
   by_cases k3:(hd L).kind=3
   ·rw[if_pos k3]at e
    obtain⟨a,L1,e1,e⟩:=PR.eK e
    obtain⟨u,e2,rfl⟩:=PR.nt e
    have p1:=(Pos.tok (k:=3) (by decide) L h).ok a L1 e1
    have p2:=(Pos.unit L1 p1.2.1).ok u L' e2
    unfold fY;rw[nE];omega
   rw[if_neg k3]at e
   by_cases k4:(hd L).kind=4
   ·rw[if_pos k4]at e
    obtain⟨a,e1,rfl⟩:=PR.nt e
    have p1:=(Pos.tok (k:=4) (by decide) L h).ok a L' e1
    unfold fY;rw[nE];omega
   rw[if_neg k4]at e
   by_cases k1:(hd L).kind=1
   ·rw[if_pos k1]at e;exact ih.word i L h (by rw[k1];decide) x L' e
   rw[if_neg k1]at e
   by_cases hs:ar 5 (ch 64) L=true
   ·rw[if_pos hs]at e
    obtain⟨t1,t2⟩:=h.tail (bJ (k:=5) (by decide) L hs)
    have p1:=(Pos.xt L.tail t1).ok x L' e
    unfold nk at e
    obtain⟨a,L1,e1,e⟩:=PR.eK e
    obtain⟨b,L2,e2,e⟩:=PR.eK e
    split at e
    ·cases e
    ·cases e
     unfold fY;rw[nE];omega
   ·rw[if_neg hs]at e
    have:=ih.group i L h x L' e
    omega
  ·rw[dy]at e
   obtain⟨_,L1,e1,e⟩:=PR.eK e
   obtain⟨a,L2,e2,e⟩:=PR.eK e
   obtain⟨_,e3,rfl⟩:=PR.nt e
   have p1:=pY (by decide) h e1
   have p2:=(P.expr i L1 p1.1).ok _ L2 e2
   have p3:=pY (by decide) p2.2.1 e3
   have s2:=ih.expr i _ p1.1 _ _ e2
   omega
  ·rw[ey]at e
   obtain⟨t1,t2⟩:=h.tail hk
   split at e
   ·cases e
    unfold ff;rw[nE];omega
   split at e
   ·obtain⟨a,e1,rfl⟩:=PR.nt e
    have s1:=ih.group i _ t1 _ _ e1
    unfold hO;rw[AR];omega
   split at e
   ·have:=ih.agg _ _ t1 _ _ e
    omega
   ·obtain⟨s,L1,e1,e⟩:=PR.eK e
    have p1:=(Pos.name L h).ok s L1 e1
    by_cases hi:i=true
    ·rw[if_pos hi]at e
     cases e
     unfold iF;rw[nE];omega
    rw[if_neg hi]at e
    by_cases hs:ar 1 fM L1=true
    ·rw[if_pos hs]at e
     obtain⟨u1,u2⟩:=p1.2.1.tail (bJ (k:=1) (by decide) L1 hs)
     obtain⟨a,e2,rfl⟩:=PR.nt e
     have s1:=ih.group i _ u1 _ _ e2
     unfold iF;rw[AR];omega
    ·rw[if_neg hs]at e
     cases e
     unfold iF;rw[nE];omega
  ·rw[fh]at e
   obtain⟨_,L1,e1,e⟩:=PR.eK e
   obtain⟨tb,L2,e2,e⟩:=PR.eK e
   obtain⟨_,L3,e3,e⟩:=PR.eK e
   obtain⟨a,L5,e5,e⟩:=PR.eK e
   obtain⟨p,L7,e7,e⟩:=PR.eK e
   obtain⟨w,L8,e8,e⟩:=PR.eK e
   obtain⟨c,L9,e9,e⟩:=PR.eK e
   obtain⟨_,wg,rfl⟩:=PR.nt e
   have p1:=pY (by decide) h e1
   have p2:=(Pos.name L1 p1.1).ok tb L2 e2
   have p3:=pY (by decide) p2.2.1 e3
   have q5:bF L5∧a.size+L5.length≤L3.length+1:=by
    by_cases ho:o≠sH
    ·rw[if_pos ho]at e5
     obtain⟨y,L4,e5,e6⟩:=PR.eK e5
     obtain⟨_,SJ,rfl⟩:=PR.nt e6
     have r1:=(P.expr true L3 p3.1).ok _ L4 e5
     have r2:=pY (by decide) r1.2.1 SJ
     have s1:=ih.expr true _ p3.1 _ _ e5
     exact⟨r2.1,by omega⟩
    ·rw[if_neg ho]at e5
     cases e5
     exact⟨p3.1,by unfold ff;rw[nE];omega⟩
   have q7:bF L7∧L7.length≤L5.length:=by
    have hp:=(Pos.ite (c:=fun _=>o=oQ∨o=oP) (Pos.bind (n:=0) (m:=0) (Pos.num.le (by omega)) fun x=>Pos.map (g:=fun _=>x) ((Pos.bK (k:=5) (s:=ch 44) (by decide)).le (by omega))) (Pos.pure (0:Int))) L5 q5.1
    have:=hp.ok p L7 e7
    exact⟨this.2.1,by omega⟩
   have q8:=(Pos.vq L7 q7.1).ok w L8 e8
   have q9:bF L9∧c.size+L9.length≤L8.length+1:=by
    by_cases hs:ar 1 eP L8=true
    ·rw[if_pos hs]at e9
     obtain⟨u1,u2⟩:=q8.2.1.tail (bJ (k:=1) (by decide) L8 hs)
     have r1:=(P.expr true L8.tail u1).ok _ L9 e9
     have s1:=ih.expr true _ u1 _ _ e9
     exact⟨r1.2.1,by omega⟩
    ·rw[if_neg hs]at e9
     cases e9
     exact⟨q8.2.1,by unfold ff;rw[nE];omega⟩
   have q10:=pY (by decide) q9.1 wg
   rw[EL];omega
theorem atv(z:Ex)(s:Bs)(hz:z.size≤1):(mh (bj N0 false) z s).1.size≤s.length+1:=by
 have hE:bF (dD s).1:=rY _ _ _ _
 have hT:(dD s).1.length≤s.length+1:=DV _ _ _ _
 unfold mh
 split
 ·show z.size≤_;omega
 ·split
  ·show z.size≤_;omega
  ·cases hx:bj N0 false (dD s).1 with
   |err p c=>show z.size≤_;omega
   |ok a L=>
    have h1:=(MK N0).expr false _ hE _ _ hx
    rw[PR.aD]
    by_cases hk:(hd L).kind≠6
    ·rw[if_pos hk];show z.size≤_;omega
    ·rw[if_neg hk];show a.size≤_;omega
end Go.Proofs.YtbihckigennlhaaGreatDoor
