/- ParserRecovers, plain: a wrong item turns nothing in front of it or behind it. -/
import Derived.Test.YtcccbdelfhgmlaaGreatDoorTz
import Derived.Lib.ItoaMem
import Derived.Test.YtcccbdelfhgmlaaGreatDoorPc
import Derived.Test.YtcccbdelfhgmlaaGreatDoorYa
set_option linter.unusedVariables false
set_option linter.unusedSimpArgs false
set_option maxRecDepth 100000
namespace Go.Proofs.YtcccbdelfhgmlaaGreatDoor
open Go.Sx Go.Proofs
structure MO(w:Bs)(p:Int):Prop where
 len:w.length≤100
 pos:0≤p∧p<w.length
 lex:(dB w.length 0 (-1) w).2=[]
 item:∀ A e,(dB w.length 0 (-1) w).1=A++[e]→∀ B,B≠[]→(hd (A++B)).kind≠6∧JR (A++B)= .err p 90∧Nv p (A++B)=B
theorem MO.of{w:Bs}{p:Int}{A:List Tok}(h1:w.length≤100)(h2:0≤p∧p<w.length)(h3:dB w.length 0 (-1) w=(A++[⟨6,⟨#[]⟩,(w.length:Int)⟩],[]))(h4:∀ b B,(hd (A++b::B)).kind≠6∧JR (A++b::B)= .err p 90∧Nv p (A++b::B)=b::B):MO w p:=by
 refine⟨h1,h2,by rw[h3],fun A' e he B hB=> ?_⟩
 rw[h3]at he
 obtain⟨e1,_⟩:=List.append_inj' he rfl
 subst e1
 cases B with
 |nil=>exact absurd rfl hB
 |cons b B=>exact h4 b B
set_option linter.unusedSectionVars false
def aL(t:Tok):Bs:=if t.kind=4 then 34::(t.text.data.toList++[34])else t.text.data.toList
def mL(p:UInt8→Bool)(r:Bs):Prop:=r=[]∨∃ x t,r=x::t∧p x=false
def MB(r:Bs):Prop:=r=[]∨∃ t,r=32::t
theorem MB.stop{r:Bs}(h:MB r){p:UInt8→Bool}(hp:p 32=false):mL p r:=by
 rcases h with rfl|⟨t,rfl⟩
 ·exact .inl rfl
 ·exact .inr ⟨_,_,rfl,hp⟩
theorem U7{p:UInt8→Bool}{r:Bs}(hr:mL p r):∀ u:Bs,(∀ c∈u,p c=true)→(u++r).takeWhile p=u
 |[],_=>by rcases hr with rfl|⟨x,t,rfl,hx⟩<;>simp[List.takeWhile, *]
 |c::u,h=>by
  rw[ZC,Zl,h c ZJ,Z8 rfl,U7 hr u fun x hx=>h x (ZU _ hx)]
theorem Cu{p:UInt8→Bool}{r:Bs}(hr:mL p r){u:Bs}(h:∀ c∈u,p c=true):aC p (u++r)=u.length:=by unfold aC;rw[U7 hr u h]
theorem ahi{c:UInt8}{W r:Bs}(hc:aE c=2)(hW:∀ x∈c::W,fQ x=true)(hr:mL fQ r):aS (c::(W++r))=(1,W.length+1,if W.length+1>24 then 2 else 0):=by
 have h:aC fQ (c::(W++r))=W.length+1:=Cu (u:=c::W) hr hW
 unfold aS;simp[hc,h]
theorem ahe{c:UInt8}{W r:Bs}(hc:aE c=3)(hW:∀ x∈c::W,bz x=true)(hr:mL bz r)(hn:¬(r.head? =some 46∧aC bz (r.drop 1)>0)):aS (c::(W++r))=(2,W.length+1,nr (c::W)):=by
 have h:aC bz (c::(W++r))=W.length+1:=Cu (u:=c::W) hr hW
 have h2:(c::(W++r)).drop (W.length+1)=r:=by simp
 have h3:(c::(W++r)).take (W.length+1)=c::W:=by simp
 unfold aS;simp only[h,h2,h3,hc]
 rw[Z9 (by decide),Z9 (by decide),Z9 (by decide),Z8 trivial,Z9 hn]
theorem ahd{c:UInt8}{W V r:Bs}(hc:aE c=3)(hW:∀ x∈c::W,bz x=true)(hV:∀ x∈V,bz x=true)(hv:V≠[])(hr:mL bz r):aS (c::(W++(46::(V++r))))=(3,W.length+1+1+V.length,kL (c::(W++46::V))):=by
 have h:aC bz (c::(W++(46::(V++r))))=W.length+1:=Cu (u:=c::W) (.inr ⟨46,_,rfl,by decide⟩) hW
 have h2:(c::(W++(46::(V++r)))).drop (W.length+1)=46::(V++r):=by simp
 have h4:aC bz (V++r)=V.length:=Cu hr hV
 have h3:(c::(W++(46::(V++r)))).take (W.length+1+1+V.length)=c::(W++46::V):=by
  have:c::(W++(46::(V++r)))=(c::(W++46::V))++r:=by simp
  rw[this,Y0 (by simp;omega),ZD (by simp;omega)]
 unfold aS;simp only[h,h2,hc,List.drop_succ_cons,List.drop_zero,h4,List.head?_cons]
 rw[Z9 (by decide),Z9 (by decide),Z9 (by decide),Z8 trivial,Z8 ⟨trivial,YZ.2 hv⟩,h3]
theorem ahg{W r:Bs}(hW:∀ x∈W,(x != 34 && x != 10)=true):aS (34::(W++34::r))=(4,W.length+2,wu W):=by
 have h:aC (fun b=>b != 34 && b != 10) (W++34::r)=W.length:=Cu (.inr ⟨34,_,rfl,by decide⟩) hW
 have hc:aE 34=5:=by decide
 unfold aS;simp[h,hc]
theorem ahh{c:UInt8}(r:Bs)(hc:aE c=7∨aE c=8)(h:c=61∨c=33∨c=60):aS (c::61::r)=(5,2,0):=by
 unfold aS
 simp only
 rw[Z9 (by omega),Z9 (by omega),Z9 (by omega),Z9 (by omega),Z9 (by omega),Z8 hc,Z8 ⟨rfl,h⟩]
theorem ahf{c:UInt8}{r:Bs}(hc:aE c=7∨aE c=8)(h:c≠33)(hr:¬(r.head? =some 61∧(c=61∨c=33∨c=60))):aS (c::r)=(5,1,0):=by
 unfold aS
 simp only
 rw[Z9 (by omega),Z9 (by omega),Z9 (by omega),Z9 (by omega),Z9 (by omega),Z8 hc,Z9 hr,Z8 h]
def Up:Int→List Tok→Prop
 |_,[]=>True
 |lo,t::L=>lo≤t.at_∧Up (t.at_+1) L
theorem Up.mono:∀ {L:List Tok} {lo yC:Int},Up lo L→yC≤lo→Up yC L
 |[],_,_,_,_=>trivial
 |t::L,lo,yC,h,hl=>⟨by have:=h.1;omega,h.2⟩
theorem Nu(s:ae):(⟨s.data.toList.toArray⟩:ae)=s:=by cases s;simp
where ayD:∀ u:Bs, -1≤(aS u).1
 |[]=>by decide
 |c::r=>by
  unfold aS
  simp only
  repeat' split
  all_goals first|decide|(simp only;omega)
set_option linter.unusedSectionVars false
abbrev Pc:=UInt8 ⊕ Tok
def aO:List Pc→Bs
 |[]=>[]
 | .inl b::L=>b::aO L
 | .inr t::L=>aL t++aO L
def al:Int→List Pc→List Tok
 |p,[]=>[⟨6,⟨#[]⟩,p⟩]
 |p,.inl _::L=>al (p+1) L
 |p,.inr t::L=>⟨t.kind,t.text,p⟩::al (p+(aL t).length) L
structure qD(t:Tok)(r:Bs):Prop where
 kind:1≤t.kind∧t.kind≤5
 ne:aL t≠[]
 self:aS (aL t++r)=(t.kind,(aL t).length,0)
def cJ:List Pc→Prop
 |[]=>True
 | .inl b::L=>aE b=1∧cJ L
 | .inr t::L=>qD t (aO L)∧cJ L
theorem J4:∀ (L:List Pc) (n:Nat) (p:Int),cJ L→(aO L).length≤n→dB n p (-1) (aO L)=(al p L,[])
 |[],n,p,_,_=>by show dB n p (-1) []=_;rw[lex_nil];rfl
 | .inl b::L,n,p,hg,hn=>by
  simp only[aO,Z6]at hn
  obtain⟨m,rfl⟩:∃ m,n=m+1:=⟨n-1,by omega⟩
  have hp:aS (b::aO L)=(0,1,0):=by unfold aS;simp only;rw[Z8 hg.1]
  rw[aO,vL _ _ _ (by simp),hp]
  simp only
  rw[Z9 (by decide),Z9 (by decide),Z9 (by decide),Z9 (by decide)]
  exact J4 L m _ hg.2 (by omega)
 | .inr t::L,n,p,hg,hn=>by
  obtain⟨⟨g1,g2,g3⟩,gP⟩:=hg
  have hlen:1≤(aL t).length:=YZ.2 g2
  simp only[aO,Z5]at hn
  obtain⟨m,rfl⟩:∃ m,n=m+1:=⟨n-1,by omega⟩
  have aJ:aL t++aO L≠[]:=by
   intro h;have:=Zy List.length h;rw[Z5]at this;simp at this;exact g2 this.1
  rw[aO,vL _ _ _ aJ,g3]
  simp only
  have js:¬t.kind= -1:=by omega
  rw[Z9 js,Z9 (by simp)]
  have aeH:(aL t++aO L).drop (aL t).length=aO L:=by simp
  have afi:(aL t++aO L).take (aL t).length=aL t:=by simp
  rw[aeH,afi,J4 L m _ gP (by omega)]
  simp only
  by_cases h4:t.kind=4
  ·rw[Z8 h4]
   have nk:aL t=34::(t.text.data.toList++[34]):=by unfold aL;rw[Z8 h4]
   have:(((aL t++aO L).take ((aL t).length-1)).drop 1)=t.text.data.toList:=by
    rw[nk];simp
   rw[this,← h4,Nu,al]
  ·rw[Z9 h4,Z8 (by omega)]
   have nk:(⟨(aL t).toArray⟩:ae)=t.text:=(Zy (fun l:Bs=>(⟨l.toArray⟩:ae)) (show aL t=t.text.data.toList from Z9 h4)).trans (Nu _)
   rw[nk,al]
theorem axi{L:List Pc}(hg:cJ L):eU (aO L)=(al 0 L,[]):=by
 unfold eU
 simp only
 rw[J4 L _ 0 hg (ZR _)];rfl
theorem rH(A B:List Pc):aO (A++B)=aO A++aO B:=by
 induction A with
 |nil=>rfl
 |cons a A ih=>cases a<;>simp[aO,ih]
def tW(s:ae):Tok:=⟨1,s,0⟩
def tI(n:Nat):Tok:=⟨2,⟨(Lib.decDigits n).toArray⟩,0⟩
def tS(c:UInt8):Tok:=⟨5,ch c,0⟩
theorem RV{n:UInt8}(h:gU n.toNat):aE n=2:=by
 unfold gU at h
 unfold aE
 rw[Z9 (by rintro(h|h|h|h)<;>(subst h;revert h;decide)),Z8 (by omega)]
theorem afE{n:UInt8}(h:jD n.toNat):fQ n=true:=by
 have key:aE n=2∨aE n=3∨aE n=4:=by
  rcases h with h|h|h
  ·exact .inl (RV h)
  ·unfold gr at h
   unfold aE
   rw[Z9 (by rintro(h|h|h|h)<;>(subst h;revert h;decide)),Z9 (by omega),Z8 (by omega)]
   exact .inr (.inl rfl)
  ·have:n=95:=Yr.1 h
   subst this;decide
 exact Zi key
theorem AA{n:UInt8}(h:gr n.toNat):aE n=3:=by
 unfold gr at h
 unfold aE
 rw[Z9 (by rintro(h|h|h|h)<;>(subst h;revert h;decide)),Z9 (by omega),Z8 (by omega)]
theorem NF{s:ae}{P:UInt8→Prop}(h:∀ i,i<s.size→P (bZ s i)):∀ c∈s.data.toList,P c:=fun c hc=>by
 obtain⟨i,hi,rfl⟩:=Y5.1 hc
 have:=h i (by simpa using hi)
 unfold bZ at this
 rwa [ZY,Z4 hi]at this
theorem zD{s:ae}(h:Word s){r:Bs}(hr:mL fQ r):qD (tW s) r:=by
 obtain⟨h1,h2,h3,h4⟩:=h
 have nk:aL (tW s)=s.data.toList:=by unfold aL tW;exact Z9 (show¬(1:Int)=4 by decide)
 have cV:∀ x∈s.data.toList,fQ x=true:=NF fun i hi=>afE (h4 i hi)
 have aQ:s.data.toList.length=s.size:=rfl
 refine⟨(show(1:Int)≤1∧(1:Int)≤5 by decide),by rw[nk];intro e;rw[e]at aQ;simp at aQ;omega,?_⟩
 rw[nk]
 unfold bZ at h3
 cases e:s.data.toList with
 |nil=>rw[e]at aQ;simp at aQ;omega
 |cons c W=>
  rw[e]at h3 cV aQ
  have h3:gU c.toNat:=h3
  rw[ZC,ahi (RV h3) cV hr,Z9 (by simp at aQ;omega)];rfl
theorem TE{n:Nat}(h:n<10):Lib.decDigits n=[UInt8.ofNat (48+n)]:=by rw[Lib.decDigits,dif_pos h]
theorem TD{n:Nat}(h:¬n<10):Lib.decDigits n=Lib.decDigits (n / 10)++[UInt8.ofNat (48+n % 10)]:=by rw[Lib.decDigits,dif_neg h]
theorem yS{d:Nat}(h:d<10):(UInt8.ofNat (48+d)).toNat=48+d:=by
 rw[UInt8.toNat_ofNat'];omega
theorem Ke(c:UInt8):∀ (l:Bs) (a:Nat),cD (l++[c]) a=10 * cD l a+(c.toNat-48)
 |[],a=>rfl
 |b::l,a=>Ke c l _
theorem ES(n:Nat):cD (Lib.decDigits n) 0=n:=by
 induction n using Nat.strongRecOn with
 |_ n ih=>
  by_cases h:n<10
  ·rw[TE h];show 10 * 0+_=_;rw[yS h];omega
  ·rw[TD h,Ke,ih _ (by omega),yS (by omega)];omega
theorem KC(n:Nat):Lib.decDigits n≠[]∧∀ c∈Lib.decDigits n,gr c.toNat:=by
 induction n using Nat.strongRecOn with
 |_ n ih=>
  by_cases h:n<10
  ·rw[TE h];refine⟨by simp,fun c hc=> ?_⟩;rw[ZI.1 hc,yS h];unfold gr;omega
  ·rw[TD h];refine⟨by simp,fun c hc=> ?_⟩
   rcases ZG.1 hc with hc|hc
   ·exact(ih _ (by omega)).2 c hc
   ·rw[ZI.1 hc,yS (by omega)];unfold gr;omega
theorem K6{n:Nat}(h:n≤1152921504606846976){r:Bs}(hr:mL bz r)(hp:r.head?≠some 46):qD (tI n) r:=by
 obtain⟨h1,h2⟩:=KC n
 have nk:aL (tI n)=Lib.decDigits n:=by unfold aL tI;exact Z9 (show¬(2:Int)=4 by decide)
 refine⟨(show(1:Int)≤2∧(2:Int)≤5 by decide),by rw[nk];exact h1,?_⟩
 rw[nk]
 have hI:nr (Lib.decDigits n)=0:=by unfold nr;rw[ES,Z9 (by omega)]
 have cV:∀ x∈Lib.decDigits n,bz x=true:=fun x hx=>Zi (AA (h2 x hx))
 cases e:Lib.decDigits n with
 |nil=>exact absurd e h1
 |cons c W=>
  rw[e]at h2 hI cV
  rw[ZC,ahe (AA (h2 c ZJ)) cV hr (fun h=>hp h.1),hI];rfl
theorem zC{c:UInt8}(hc:aE c=7){r:Bs}(hr:¬((c=61∨c=60)∧r.head? =some 61)):qD (tS c) r:=by
 have nk:aL (tS c)=[c]:=rfl
 refine⟨(show(1:Int)≤5∧(5:Int)≤5 by decide),by rw[nk];simp,?_⟩
 rw[nk]
 have mT:c≠33:=fun e=>by subst e;revert hc;decide
 exact ahf (.inl hc) mT fun⟨h1,h2⟩=>hr ⟨h2.elim .inl fun h=>h.elim (fun h=>absurd h mT) .inr,h1⟩
def gZ(f:ar):List Tok:=tW f.name::(if f.exp=1 then[]else tS 94::(if f.exp<0 then[tS 45,tI f.exp.natAbs]else[tI f.exp.natAbs]))
def hO:List ar→List Tok
 |[]=>[]
 |[f]=>gZ f
 |f::g::l=>gZ f++tS 42::hO (g::l)
abbrev dN(l:List Tok):List Pc:=l.map .inr
theorem ng{c:UInt8}(h:¬(c=61∨c=60)){p:Prop}:¬((c=61∨c=60)∧p):=fun h2=>h h2.1
def C6(r:Bs):Prop:=∃ c t,r=c::t∧aE c=7
theorem C6.stop{r:Bs}(h:C6 r):mL fQ r∧mL bz r∧r.head?≠some 46:=by
 obtain⟨c,t,rfl,hc⟩:=h
 have h1:fQ c=false:=by unfold fQ;simp[hc]
 have h2:bz c=false:=by unfold bz;simp[hc]
 refine⟨.inr ⟨_,_,rfl,h1⟩,.inr ⟨_,_,rfl,h2⟩,fun e=> ?_⟩
 simp only[List.head?_cons,Z1]at e
 subst e;revert hc;decide
theorem Pb{f:ar}(hw:Word f.name)(he:f.exp.natAbs≤1152921504606846976){R:List Pc}(hR:cJ R)(hs:C6 (aO R)):cJ (dN (gZ f)++R):=by
 obtain⟨s1,s2,s3⟩:=hs.stop
 have sX:aE 94=7:=by decide
 have uZ:aE 45=7:=by decide
 unfold gZ
 split
 ·exact⟨zD hw s1,hR⟩
 ·split
  ·exact⟨zD hw (.inr ⟨94,_,rfl,by decide⟩),zC sX (ng (by decide)),zC uZ (ng (by decide)),K6 he s2 s3,hR⟩
  ·exact⟨zD hw (.inr ⟨94,_,rfl,by decide⟩),zC sX (ng (by decide)),K6 he s2 s3,hR⟩
theorem Pk:∀ {l:List ar},(∀ f∈l,Word f.name∧f.exp.natAbs≤1152921504606846976)→∀ {R:List Pc},cJ R→C6 (aO R)→cJ (dN (hO l)++R)
 |[],_,R,hR,_=>hR
 |[f],h,R,hR,hs=>Pb (h f (by simp)).1 (h f (by simp)).2 hR hs
 |f::g::l,h,R,hR,hs=>by
  have ih:=Pk (l:=g::l) (fun x hx=>h x (ZU _ hx)) hR hs
  have:dN (hO (f::g::l))++R=dN (gZ f)++(.inr (tS 42)::(dN (hO (g::l))++R)):=by simp[hO,dN]
  rw[this]
  exact Pb (h f (by simp)).1 (h f (by simp)).2 ⟨zC (by decide) (ng (by decide)),ih⟩ ⟨42,_,rfl,by decide⟩
theorem KT{k:Int}{s:ae}{t:Tok}{L:List Tok}:au k s (t::L)=(decide (t.kind=k) && decide (t.text=s)):=rfl
theorem Pl{f:ar}(hn:Name f.name)(he:f.exp.natAbs≤1000)(R:List Pc)(hR:∀ p,au 5 (ch 94) (al p R)=false)(p:Int):∃ q,eE (al p (dN (gZ f)++R))= .ok f (al q R):=by
 have Jf:∀ L:List Tok,fR (⟨1,f.name,p⟩::L)= .ok f.name L:=fun L=>by
  unfold fR
  exact(Z9 (show¬¬Name f.name from fun h=>h hn)).trans rfl
 have Q4:∀ (q:Int) (L:List Tok),eZ (⟨2,(tI f.exp.natAbs).text,q⟩::L)= .ok (f.exp.natAbs:Int) L:=fun q L=>by
  have:vR (tI f.exp.natAbs).text=(f.exp.natAbs:Int):=by
   show((cD (Lib.decDigits f.exp.natAbs) 0:Nat):Int)=_
   rw[ES]
  show PR.ok (vR (tI f.exp.natAbs).text) L=_
  rw[this]
 have hf:∀ n e,n=f.name→e=f.exp→(⟨n,e⟩:ar)=f:=fun n e h1 h2=>by subst h1 h2;rfl
 unfold gZ
 split
 ·rename_i h1
  refine⟨p+(aL (tW f.name)).length,?_⟩
  show eE (⟨1,f.name,p⟩::al (p+(aL (tW f.name)).length) R)=_
  unfold eE
  rw[Jf,PR.aH,Z9 (by rw[hR];decide),hf _ _ rfl h1.symm]
 ·rename_i h1
  split
  ·rename_i h2
   refine⟨p+(aL (tW f.name)).length+(aL (tS 94)).length+(aL (tS 45)).length+(aL (tI f.exp.natAbs)).length,?_⟩
   show eE (⟨1,f.name,p⟩::⟨5,ch 94,p+(aL (tW f.name)).length⟩::⟨5,ch 45,p+(aL (tW f.name)).length+(aL (tS 94)).length⟩::⟨2,(tI f.exp.natAbs).text,p+(aL (tW f.name)).length+(aL (tS 94)).length+(aL (tS 45)).length⟩::al _ R)=_
   unfold eE
   rw[Jf,PR.aH,Z8 (by rfl),List.tail_cons,Z8 (by rfl),List.tail_cons,Q4]
   refine Zy (fun x=>PR.ok x _) (hf _ _ rfl ?_)
   omega
  ·rename_i h2
   refine⟨p+(aL (tW f.name)).length+(aL (tS 94)).length+(aL (tI f.exp.natAbs)).length,?_⟩
   show eE (⟨1,f.name,p⟩::⟨5,ch 94,p+(aL (tW f.name)).length⟩::⟨2,(tI f.exp.natAbs).text,p+(aL (tW f.name)).length+(aL (tS 94)).length⟩::al _ R)=_
   unfold eE
   rw[Jf,PR.aH,Z8 (by rfl),List.tail_cons,Z9 (by simp[KT]),Q4]
   refine Zy (fun x=>PR.ok x _) (hf _ _ rfl ?_)
   omega
theorem Sp:∀ (l:List ar),(∀ f∈l,Name f.name∧f.exp.natAbs≤1000)→∀ (n:Nat) (acc:List ar) (R:List Pc),l.length≤n→(∀ p,au 5 (ch 94) (al p R)=false)→(∀ p,au 5 (ch 42) (al p R)=false)→
  ∀ p,∃ q,kX (ch 42) eE n (al p ((l.flatMap fun f=> .inr (tS 42)::dN (gZ f))++R)) acc= .ok (acc++l) (al q R)
 |[],_,n,acc,R,_,_,h2,p=>⟨p,by cases n<;>simp[kX,h2]⟩
 |f::l,hf,0,acc,R,hn,_,_,p=>by simp at hn
 |f::l,hf,n+1,acc,R,hn,h1,h2,p=>by
  have oy:∀ p,au 5 (ch 94) (al p ((l.flatMap fun f=> .inr (tS 42)::dN (gZ f))++R))=false:=fun p=>by
   cases l with
   |nil=>exact h1 p
   |cons g l=>rfl
  obtain⟨q,hq⟩:=Pl (hf f (by simp)).1 (hf f (by simp)).2 _ oy (p+(aL (tS 42)).length)
  obtain⟨q2,eG⟩:=Sp l (fun x hx=>hf x (ZU _ hx)) n (acc++[f]) R (by simp at hn;omega) h1 h2 q
  refine⟨q2,?_⟩
  have e:al p (((f::l).flatMap fun f=> .inr (tS 42)::dN (gZ f))++R)=⟨5,ch 42,p⟩::al (p+(aL (tS 42)).length) (dN (gZ f)++((l.flatMap fun f=> .inr (tS 42)::dN (gZ f))++R)):=by
   simp only[List.flatMap_cons,ZC,Zz];rfl
  rw[e]
  unfold kX
  rw[Z8 (by rfl),List.tail_cons,hq,PR.aH,eG]
  simp
theorem Pj(f:ar):∀ (l:List ar),dN (hO (f::l))=dN (gZ f)++(l.flatMap fun f=> .inr (tS 42)::dN (gZ f))
 |[]=>by simp[hO]
 |g::l=>by
  have:=Pj g l
  show dN (gZ f++tS 42::hO (g::l))=_
  simp only[dN,YS,Zu]at this ⊢
  rw[this];simp
theorem aga(l:List ar)(hl:l≠[])(hf:∀ f∈l,Name f.name∧f.exp.natAbs≤1000)(hn:l.length≤1000)(R:List Pc)(h1:∀ p,au 5 (ch 94) (al p R)=false)(h2:∀ p,au 5 (ch 42) (al p R)=false)(p:Int):∃ q,ic (ch 42) eE (al p (dN (hO l)++R))= .ok l (al q R):=by
 cases l with
 |nil=>exact absurd rfl hl
 |cons f l=>
  have oy:∀ p,au 5 (ch 94) (al p ((l.flatMap fun f=> .inr (tS 42)::dN (gZ f))++R))=false:=fun p=>by
   cases l with
   |nil=>exact h1 p
   |cons g l=>rfl
  obtain⟨q,hq⟩:=Pl (hf f (by simp)).1 (hf f (by simp)).2 _ oy p
  obtain⟨q2,eG⟩:=Sp l (fun x hx=>hf x (ZU _ hx)) N0 [f] R (by simp at hn;show _≤1000000;omega) h1 h2 q
  refine⟨q2,?_⟩
  rw[Pj,Zz]
  unfold ic
  rw[hq,PR.aH,eG];rfl
def uj(l:List ar):List Tok:=tS 91::(hO l++[tS 93])
theorem axw(l:List ar)(hl:l≠[])(hf:∀ f∈l,Name f.name∧f.exp.natAbs≤1000)(hn:l.length≤1000)(R:List Pc)(p:Int):
  ∃ q,jg (al p (dN (uj l)++R))=if(ig l).2≠0 then .err p (ig l).2 else .ok (ig l).1 (al q R):=by
 have e:dN (uj l)++R= .inr (tS 91)::(dN (hO l)++ .inr (tS 93)::R):=by simp[uj]
 obtain⟨q,hq⟩:=aga l hl hf hn (.inr (tS 93)::R) (fun p=>by rfl) (fun p=>by rfl) (p+(aL (tS 91)).length)
 refine⟨q+(aL (tS 93)).length,?_⟩
 rw[e]
 unfold jg
 rw[Z8 (by rfl)]
 show(ic (ch 42) eE (al (p+(aL (tS 91)).length) (dN (hO l)++ .inr (tS 93)::R))).bind _=_
 rw[hq,PR.aH]
 rfl
set_option linter.unusedSectionVars false
def tO(s:ae):Tok:=⟨5,s,0⟩
def tT(s:ae):Tok:=⟨4,s,0⟩
def tD(n:Nat):Tok:=⟨3,iW n,0⟩
abbrev sp:Pc:= .inl 32
abbrev pw(s:ae):Pc:= .inr (tW s)
abbrev ps(c:UInt8):Pc:= .inr (tS c)
def ku(s:ae):Tok:=if s=Ly∨s=Lw then tW s else tO s
def jc(u:List ar):List Pc:=if u=[]then[]else sp::dN (uj u)
def mA(x:Ex):List Pc:=
 if x.val.kind=5 then[ps 64,pw x.name,sp,.inr (tT x.val.s)]
 else if x.val.kind=1 then pw (iz x.val.n)::jc x.unit
 else if x.val.kind=2 then .inr (tI x.val.n.toNat)::jc x.unit
 else if x.val.kind=3 then .inr (tD x.val.n.toNat)::jc x.unit
 else .inr (tT x.val.s)::jc x.unit
def dp(T:List Pc):List Pc:=ps 40::(T++[ps 41])
def gR(x:Ex)(T:Nat→List Pc)(i:Nat)(r:Int):List Pc:=if aK (x.args.getD i default)<r then dp (T i)else T i
def kn(w:gu):List Pc:=
 if w.kind=2 then[pw nI,sp,.inr (tI w.size.toNat)]else if w.kind=3 then[pw nJ,sp,.inr (tI w.size.toNat)]
 else if w.kind=4 then[pw rW,sp,.inr (tI w.size.toNat)]else[pw qq]
def vT(x:Ex)(T:Nat→List Pc):List Pc:=
 pw x.op::ps 40::pw x.table::((if x.op=aI then[]else ps 44::sp::T 0)++((if x.param=0 then[]else[ps 44,sp,.inr (tI x.param.toNat)])
  ++(ps 44::sp::(kn x.win++((if x.args.getD 1 default=ff then[]else sp::pw gm::sp::T 1)++[ps 41])))))
def vU(x:Ex)(T:Nat→List Pc):List Pc:=
 if x.op=ch 45 then ps 45::gR x T 0 8 else if x.op=da then pw da::sp::gR x T 0 4 else pw jy::dp (T 0)
def yL(x:Ex)(T:Nat→List Pc):List Pc:=gR x T 0 (ke x)++(sp:: .inr (ku x.op)::sp::gR x T 1 (aK x+1))
def yN(T:Nat→List Pc):List Pc:=pw fN::sp::(T 0++(sp::pw kz::sp::(T 1++(sp::pw gL::sp::T 2))))
def yM(x:Ex)(T:Nat→List Pc):List Pc:=gR x T 0 1++(sp::pw gS::sp::gR x T 1 2)
def la(x:Ex)(T:Nat→List Pc):List Pc:=
 if x.kind=1 then mA x else if x.kind=4 then pw x.name::sp::pw ik::sp::dp (T 0)else if x.kind=5 then vT x T
 else if x.kind=6 then vU x T else if x.kind=7 then yL x T else if x.kind=8 then yN T else if x.kind=9 then yM x T else[pw x.name]
mutual
def pc:Ex→List Pc
 | .mk k o n t v u p w ks=>la (.mk k o n t v u p w ks) (fun i=>(Cb ks).getD i [])
def Cb:List Ex→List (List Pc)
 |[]=>[]
 |x::l=>pc x::Cb l
end
def jR(x:Ex)(i:Nat):List Pc:=(Cb x.args).getD i []
theorem nC(x:Ex):pc x=la x (jR x):=by cases x;rfl
theorem Tg:∀ (l:List Ex) (i:Nat),i<l.length→(Cb l).getD i []=pc (l.getD i default)
 |[],_,h=>absurd h (by simp)
 |x::l,0,_=>rfl
 |x::l,i+1,h=>by
  have:=Tg l i (by simpa using h)
  simpa[Cb]using this
theorem ko{x:Ex}{i:Nat}(h:i<x.args.length):jR x i=pc (x.args.getD i default):=Tg _ _ h
def bL(s:ae):Bs:=s.data.toList
theorem fq(a b:ae):bL (a++b)=bL a++bL b:=zA a b
theorem awz(s:ae):aL (tO s)=bL s:=rfl
theorem Fx(s:ae):aL (tT s)=34::(bL s++[34]):=rfl
theorem K1(n:Nat):aL (tD n)=bL (iW n):=rfl
theorem Cy(n:Nat):aL (tI n)=Lib.decDigits n:=rfl
theorem awA(s:ae):aL (ku s)=bL s:=by unfold ku;split<;>rfl
theorem mB(s:ae)(L:List Pc):aO (pw s::L)=bL s++aO L:=rfl
theorem Cd(c:UInt8)(L:List Pc):aO (ps c::L)=c::aO L:=rfl
theorem lg(c:UInt8)(L:List Pc):aO (.inl c::L)=c::aO L:=rfl
theorem rI(t:Tok)(L:List Pc):aO (.inr t::L)=aL t++aO L:=rfl
theorem yO:aO []=[]:=rfl
theorem Lk(u:List ar):bL (wx u)=[42].intercalate (u.map fun f=>bL (iD f)):=by
 show[42].intercalate ((u.map iD).map (·.data.toList))=_
 rw[Yf];rfl
theorem afF(n:Int):bL (mq n)=if n<0 then 45::Lib.decDigits n.natAbs else Lib.decDigits n.natAbs:=by
 unfold bL mq
 by_cases h:n<0
 ·obtain⟨d,rfl⟩:∃ d:Nat,n= -(d:Int):=⟨n.natAbs,by omega⟩
  rw[Z8 h,Lib.itoa_neg d (by omega),Int.natAbs_neg,Int.natAbs_natCast]
 ·obtain⟨d,rfl⟩:∃ d:Nat,n=(d:Int):=⟨n.toNat,by omega⟩
  rw[Z9 h,Lib.itoa_nonneg,Int.natAbs_natCast]
theorem Pa(f:ar):aO (dN (gZ f))=bL (iD f):=by
 unfold gZ iD
 by_cases h:f.exp=1
 ·rw[Z8 h,Z8 h]
  show bL f.name++[]=_
  rw[Zg]
 ·rw[Z9 h,Z9 h,fq,fq,afF]
  by_cases h2:f.exp<0
  ·rw[Z8 h2,Z8 h2]
   show bL f.name++([94]++([45]++(Lib.decDigits f.exp.natAbs++[])))=bL f.name++([94]++_)
   simp
  ·rw[Z9 h2,Z9 h2]
   show bL f.name++([94]++(Lib.decDigits f.exp.natAbs++[]))=bL f.name++([94]++_)
   simp
theorem afx(a b:Bs)(l:List Bs):[42].intercalate (a::b::l)=a++42::[42].intercalate (b::l):=by simp[List.intercalate,List.intersperse]
theorem Ph:∀ l:List ar,aO (dN (hO l))=bL (wx l)
 |[]=>rfl
 |[f]=>by
  rw[Lk]
  show aO (dN (gZ f))=[42].intercalate [bL (iD f)]
  rw[Pa];simp[List.intercalate]
 |f::g::l=>by
  have e:bL (wx (f::g::l))=bL (iD f)++42::bL (wx (g::l)):=by
   rw[Lk,Lk];exact afx _ _ _
  have e2:dN (hO (f::g::l))=dN (gZ f)++(.inr (tS 42)::dN (hO (g::l))):=by simp[hO,dN]
  rw[e,e2,rH,Pa]
  show _++([42]++aO (dN (hO (g::l))))=_
  rw[Ph (g::l)];rfl
theorem FN(u:List ar):aO (jc u)=bL (rQ u):=by
 unfold jc rQ
 by_cases h:u=[]
 ·rw[Z8 h,Z8 h];rfl
 ·rw[Z9 h,Z9 h]
  have e:dN (uj u)= .inr (tS 91)::(dN (hO u)++[.inr (tS 93)]):=by simp[uj]
  rw[e]
  show 32::91::aO (dN (hO u)++[.inr (tS 93)])=_
  rw[rH,Ph,fq,fq];rfl
theorem BS(n:Int):bL (mn n)=Lib.decDigits n.toNat:=rfl
theorem age{x:Ex}(hk:x.val.kind=1∨x.val.kind=2∨x.val.kind=3∨x.val.kind=4∨x.val.kind=5):aO (mA x)=bL (vM x):=by
 unfold mA vM
 by_cases k5:x.val.kind=5
 ·rw[Z8 k5,Z8 k5]
  simp only[fq,mB,Cd,lg,rI,yO,Fx]
  show 64::(bL x.name++32::(34::(bL x.val.s++[34])++[]))=[64]++(bL x.name++([32,34]++(bL x.val.s++[34])))
  simp
 rw[Z9 k5,Z9 k5,fq]
 unfold wz
 by_cases k1:x.val.kind=1
 ·rw[Z8 k1,Z8 k1,mB,FN]
 rw[Z9 k1,Z9 k1]
 by_cases k2:x.val.kind=2
 ·rw[Z8 k2,Z8 k2,rI,FN,Cy,BS]
 rw[Z9 k2,Z9 k2]
 by_cases k3:x.val.kind=3
 ·rw[Z8 k3,Z8 k3,rI,FN,K1]
 have k4:x.val.kind=4:=by omega
 rw[Z9 k3,Z9 k3,Z8 k4,rI,FN,Fx,fq,fq]
 rfl
theorem Kq{T:List Pc}{s:ae}(h:aO T=bL s):aO (dp T)=bL (par s):=by
 unfold dp par
 rw[Cd,rH,h,fq,fq];rfl
theorem xk{x:Ex}{T:Nat→List Pc}{S:Nat→ae}{i:Nat}{r:Int}(h:aO (T i)=bL (S i)):aO (gR x T i r)=bL (j0 x S i r):=by
 unfold gR j0
 split
 ·exact Kq h
 ·exact h
theorem VF(w:gu):aO (kn w)=bL (wF w):=by
 unfold kn wF
 split
 ·rw[fq,BS];simp only[mB,lg,rI,yO,Cy,Zg];rfl
 split
 ·rw[fq,BS];simp only[mB,lg,rI,yO,Cy,Zg];rfl
 split
 ·rw[fq,BS];simp only[mB,lg,rI,yO,Cy,Zg];rfl
 ·rfl
theorem aaX{x:Ex}{T:Nat→List Pc}{S:Nat→ae}(h0:aO (T 0)=bL (S 0))(h1:aO (T 1)=bL (S 1)):aO (vT x T)=bL (eV x S):=by
 unfold vT eV
 simp only[fq,mB,Cd,rH,VF]
 have e1:aO (if x.op=aI then[]else ps 44::sp::T 0)=bL (if x.op=aI then⟨#[]⟩else⟨#[44,32]⟩++S 0):=by
  split
  ·rfl
  ·rw[fq,← h0];rfl
 have e2:aO (if x.param=0 then[]else[ps 44,sp,.inr (tI x.param.toNat)])=bL (if x.param=0 then⟨#[]⟩else⟨#[44,32]⟩++mn x.param):=by
  split
  ·rfl
  ·rw[fq,BS,Cd,lg,rI,Cy,yO,Zg];rfl
 have e3:aO (if x.args.getD 1 default=ff then[]else sp::pw gm::sp::T 1)=bL (if x.args.getD 1 default=ff then⟨#[]⟩else⟨#[32,119,104,101,114,101,32]⟩++S 1):=by
  split
  ·rfl
  ·rw[fq,← h1];rfl
 rw[e1,e2]
 show bL x.op++40::(bL x.table++(_++(_++(44::aO (sp::(kn x.win++(_++[ps 41])))))))=_
 rw[lg,rH,rH,VF,e3]
 rfl
theorem axp{x:Ex}{T:Nat→List Pc}{S:Nat→ae}(h0:aO (T 0)=bL (S 0)):aO (vU x T)=bL (zI x S):=by
 unfold vU zI
 split
 ·rw[Cd,xk h0,fq];rfl
 split
 ·rw[mB,lg,xk h0,fq];rfl
 ·rw[mB,Kq h0,fq]
  unfold par
  rw[fq,fq];rfl
theorem abo{x:Ex}{T:Nat→List Pc}{S:Nat→ae}(h0:aO (T 0)=bL (S 0))(h1:aO (T 1)=bL (S 1)):aO (yL x T)=bL (xm x S):=by
 unfold yL xm
 rw[rH,xk h0,lg,rI,awA,lg,xk h1]
 simp only[fq];rfl
theorem afq{T:Nat→List Pc}{S:Nat→ae}{x:Ex}(h0:aO (T 0)=bL (S 0))(h1:aO (T 1)=bL (S 1))(h2:aO (T 2)=bL (S 2)):aO (yN T)=bL (yq x S):=by
 unfold yN yq
 simp only[mB,lg,rH,h0,h1,h2,fq];rfl
theorem acK{x:Ex}{T:Nat→List Pc}{S:Nat→ae}(h0:aO (T 0)=bL (S 0))(h1:aO (T 1)=bL (S 1)):aO (yM x T)=bL (xv x S):=by
 unfold yM xv
 rw[rH,xk h0,lg,mB,lg,xk h1]
 simp only[fq];rfl
theorem agh{x:Ex}(h:ny x):x.val.kind=1∨x.val.kind=2∨x.val.kind=3∨x.val.kind=4∨x.val.kind=5:=by
 have h3:=h.2.2.1
 unfold lq at h3
 split at h3
 ·omega
 ·rename_i h4
  simp only at h4
  omega
theorem agL{x:Ex}{ins:Bool}(h:ie x ins)(hk:x.kind=1):ny x:=by
 unfold ie at h
 rwa [Z8 hk]at h
theorem Th(x:Ex):∀ ins,form ins x=true→aO (pc x)=bL (text x):=by
 induction x using Ex.ind with
 |h x ih=>
 intro ins hf
 have F:=qw.of hf
 have cj:∀ i,i<x.args.length→aO (jR x i)=bL (tx x i):=fun i hi=>by
  rw[ko hi,FM hi]
  exact ih _ (gb hi) _ (F.sub _ (gb hi))
 have hn:=F.nn
 rw[nC,La]
 unfold la CF
 by_cases k1:x.kind=1
 ·rw[Z8 k1,Z8 k1];exact age (agh (agL F.nb k1))
 rw[Z9 k1,Z9 k1]
 unfold nB at hn
 by_cases k4:x.kind=4
 ·rw[Z8 k4,Z8 k4]
  rw[Z8 (.inl k4)]at hn
  rw[mB,lg,mB,lg,Kq (cj 0 (by omega))]
  unfold par
  simp only[fq];rfl
 rw[Z9 k4,Z9 k4]
 by_cases k5:x.kind=5
 ·rw[Z8 k5,Z8 k5]
  rw[Z9 (by omega),Z8 (.inl k5)]at hn
  exact aaX (cj 0 (by omega)) (cj 1 (by omega))
 rw[Z9 k5,Z9 k5]
 by_cases k6:x.kind=6
 ·rw[Z8 k6,Z8 k6]
  rw[Z8 (.inr k6)]at hn
  exact axp (cj 0 (by omega))
 rw[Z9 k6,Z9 k6]
 by_cases k7:x.kind=7
 ·rw[Z8 k7,Z8 k7]
  rw[Z9 (by omega),Z8 (.inr (.inl k7))]at hn
  exact abo (cj 0 (by omega)) (cj 1 (by omega))
 rw[Z9 k7,Z9 k7]
 by_cases k8:x.kind=8
 ·rw[Z8 k8,Z8 k8]
  rw[Z9 (by omega),Z9 (by omega),Z8 k8]at hn
  exact afq (cj 0 (by omega)) (cj 1 (by omega)) (cj 2 (by omega))
 rw[Z9 k8,Z9 k8]
 by_cases k9:x.kind=9
 ·rw[Z8 k9,Z8 k9]
  rw[Z9 (by omega),Z8 (.inr (.inr k9))]at hn
  exact acK (cj 0 (by omega)) (cj 1 (by omega))
 rw[Z9 k9,Z9 k9,mB,yO,Zg]
set_option linter.unusedSectionVars false
structure Fl(r:Bs):Prop where
 w:mL fQ r
 dot:r.head?≠some 46
theorem Fl.cons{c:UInt8}{r:Bs}(h:fQ c=false)(h2:c≠46):Fl (c::r):=⟨.inr ⟨c,r,rfl,h⟩,fun e=>h2 (Y2 e)⟩
theorem Fl.nil:Fl []:=⟨.inl rfl,by simp⟩
theorem Fl.d{r:Bs}(h:Fl r):mL bz r:=by
 rcases h.w with h1|⟨x,t,h1,h2⟩
 ·exact .inl h1
 ·refine .inr ⟨x,t,h1,?_⟩
  unfold fQ at h2
  unfold bz
  simp only[decide_eq_false_iff_not]at h2 ⊢
  exact fun e=>h2 (.inr (.inl e))
theorem Tr{s:ae}{low:Nat}(h:nO s low)(hl:32≤low):∀ c∈bL s,(c != 34 && c != 10)=true∧¬(c.toNat<32∨c.toNat>126∨c=92)∧low≤c.toNat:=fun c hc=>by
 have:=NF (P:=fun b=>pr low b) h c hc
 unfold pr at this
 have h1:c≠34:=fun e=>this.2.2.1 (by rw[e];rfl)
 have h2:c≠10:=fun e=>by rw[e]at this;have:=this.1;simp at this;omega
 have h3:c≠92:=fun e=>this.2.2.2 (by rw[e];rfl)
 refine⟨by simp[h1,h2],?_,this.1⟩
 rintro(k|k|k)
 ·omega
 ·omega
 ·exact h3 k
theorem UT{s:ae}{low:Nat}(h:nO s low)(hl:32≤low)(hs:s.size≤64)(r:Bs):qD (tT s) r:=by
 have ha:=Tr h hl
 refine⟨(show(1:Int)≤4∧(4:Int)≤5 by decide),by rw[Fx];simp,?_⟩
 rw[Fx]
 have:=ahg (r:=r) (W:=bL s) fun x hx=>(ha x hx).1
 have e:(34::(bL s++[34]))++r=34::(bL s++34::r):=by simp
 rw[e,this]
 have hu:wu (bL s)=0:=by
  unfold wu
  rw[Z9 (show¬(bL s).length>64 by show¬s.size>64;omega),Z9 (fun⟨c,hc,k⟩=>(ha c hc).2.1 k)]
 rw[hu]
 simp[tT]
theorem Si:∀ (k x:Nat),∀ c∈eI k x,gr c.toNat
 |0,x,c,hc=>by cases hc
 |k+1,x,c,hc=>by
  rw[eI]at hc
  rcases ZG.1 hc with hc|hc
  ·exact Si k _ c hc
  ·rw[ZI.1 hc,yS (by omega)];unfold gr;omega
theorem SI:∀ (k x:Nat) (l:Bs),cD (l++eI k x) 0=cD l 0 * 10 ^ k+x % 10 ^ k
 |0,x,l=>by simp[eI,Nat.mod_one]
 |k+1,x,l=>by
  rw[eI,← Zz,Ke,SI k (x / 10) l,yS (by omega)]
  have h1:x % 10 ^ (k+1)=x % 10+10 * (x / 10 % 10 ^ k):=by rw[Nat.pow_succ,Yp (10 ^ k),Nat.mod_mul]
  rw[h1,Nat.pow_succ]
  have:10 * (cD l 0 * 10 ^ k+x / 10 % 10 ^ k)=cD l 0 * (10 ^ k * 10)+10 * (x / 10 % 10 ^ k):=by
   rw[Nat.mul_add,← Nat.mul_assoc,Yp 10 (cD l 0),Nat.mul_assoc,Yp 10]
  omega
theorem Hc(n:Nat):bL (iW n)=Lib.decDigits (n / 10 ^ 6)++46::eI 6 n:=by simp[bL,iW]
theorem Oq(n:Nat):((bL (iW n)).takeWhile fun b=>b != 46)=Lib.decDigits (n / 10 ^ 6)∧((bL (iW n)).dropWhile fun b=>b != 46).drop 1=eI 6 n:=by
 have hd:=(KC (n / 10 ^ 6)).2
 have h1:∀ c∈Lib.decDigits (n / 10 ^ 6),(c != 46)=true:=fun c hc=>by
  have:=hd c hc
  unfold gr at this
  rw[bne_iff_ne]
  rintro rfl
  revert this;decide
 rw[Hc]
 have e1:∀ l:Bs,(∀ c∈l,(c != 46)=true)→((l++46::eI 6 n).takeWhile fun b=>b != 46)=l∧((l++46::eI 6 n).dropWhile fun b=>b != 46)=46::eI 6 n:=fun l=>by
  induction l with
  |nil=>intro _;exact⟨rfl,rfl⟩
  |cons c l ih=>
   intro h
   obtain⟨i1,i2⟩:=ih fun x hx=>h x (ZU _ hx)
   have hc:=h c ZJ
   simp only[ZC,Zl,List.dropWhile_cons,hc,Y4,i1,i2]
   exact⟨trivial,trivial⟩
 obtain⟨a,b⟩:=e1 _ h1
 exact⟨a,by rw[b];rfl⟩
theorem Oy(n:Nat):cD (Lib.decDigits (n / 10 ^ 6)++eI 6 n) 0=n:=by
 rw[SI,ES];exact Nat.div_add_mod' n (10 ^ 6)
theorem acE(n:Nat):pq (iW n)=n:=by
 obtain⟨h1,h2⟩:=Oq n
 unfold pq
 simp only
 show(cD (((bL (iW n)).takeWhile fun b=>b != 46)++((bL (iW n)).dropWhile fun b=>b != 46).drop 1) 0:Int) * 10 ^ (6-(((bL (iW n)).dropWhile fun b=>b != 46).drop 1).length)=_
 rw[h1,h2,Oy,rF];simp
theorem awV{n:Nat}(hn:n≤1152921504606846976){r:Bs}(hr:Fl r):qD (tD n) r:=by
 obtain⟨q1,q2⟩:=KC (n / 10 ^ 6)
 obtain⟨h1,h2⟩:=Oq n
 have hE:kL (bL (iW n))=0:=by
  unfold kL
  simp only
  rw[h1,h2,Oy,rF,Z9 (by decide),Z9 (by omega)]
 refine⟨(show(1:Int)≤3∧(3:Int)≤5 by decide),by rw[K1,Hc];simp,?_⟩
 rw[K1]
 have hb:=Hc n
 have hV:∀ x∈eI 6 n,bz x=true:=fun x hx=>Zi (AA (Si 6 n x hx))
 have hv:eI 6 n≠[]:=by intro e;have:=rF 6 n;rw[e]at this;cases this
 cases e:Lib.decDigits (n / 10 ^ 6)with
 |nil=>exact absurd e q1
 |cons c W=>
  rw[e]at hb q2
  have hW:∀ x∈c::W,bz x=true:=fun x hx=>Zi (AA (q2 x hx))
  have:=ahd (r:=r) (AA (q2 c ZJ)) hW hV hv hr.d
  have e2:bL (iW n)++r=c::(W++46::(eI 6 n++r)):=by rw[hb];simp
  rw[e2,this]
  have e3:c::(W++46::eI 6 n)=bL (iW n):=by rw[hb];rfl
  rw[e3,hE,hb]
  simp[tD];omega
theorem awW:∀ s∈nR,∀ t:Bs,qD (ku s) (32::t):=by
 intro s hs t
 have hf:Fl (32::t):= .cons (by decide) (by decide)
 have one:∀ c:UInt8,aE c=7→qD (tS c) (32::t):=fun c hc=>zC hc fun⟨_,h⟩=>absurd (Y2 h) (by decide)
 have two:∀ c:UInt8,(aE c=7∨aE c=8)→(c=61∨c=33∨c=60)→qD (tO ⟨#[c,61]⟩) (32::t):=fun c h1 h2=>⟨(show(1:Int)≤5∧(5:Int)≤5 by decide),by rw[awz];simp[bL],by
  show aS (c::61::32::t)=_
  rw[ahh _ h1 h2];rfl⟩
 simp only[nR,ZV,YE,or_false]at hs
 rcases hs with rfl|rfl|rfl|rfl|rfl|rfl|rfl|rfl|rfl|rfl
 ·exact one 43 (by decide)
 ·exact one 45 (by decide)
 ·exact one 42 (by decide)
 ·exact one 47 (by decide)
 ·exact two 61 (by decide) (by decide)
 ·exact two 33 (by decide) (by decide)
 ·exact one 60 (by decide)
 ·exact two 60 (by decide) (by decide)
 ·exact zD (by decide) hf.w
 ·exact zD (by decide) hf.w
set_option linter.unusedSectionVars false
section
variable {R:List Pc}
theorem gH(h:cJ R):cJ (sp::R):=⟨by decide,h⟩
theorem iY:Fl (aO (sp::R)):= .cons (by decide) (by decide)
theorem jb{s:ae}(hs:Word s)(hf:Fl (aO R))(h:cJ R):cJ (pw s::R):=⟨zD hs hf.w,h⟩
theorem oL{c:UInt8}(hc:aE c=7)(hn:¬(c=61∨c=60))(h:cJ R):cJ (ps c::R):=⟨zC hc (ng hn),h⟩
theorem B7{n:Nat}(hn:n≤1152921504606846976)(hf:Fl (aO R))(h:cJ R):cJ (.inr (tI n)::R):=⟨K6 hn hf.d hf.dot,h⟩
theorem uV{c:UInt8}(hc:aE c=7):Fl (aO (ps c::R)):=by
 have h:Fl (c::aO R):= .cons (by unfold fQ;simp[hc]) (fun e=>by subst e;revert hc;decide)
 exact h
theorem agZ{u:List ar}(hu:∀ f∈u,Word f.name∧f.exp.natAbs≤1152921504606846976)(h:cJ R):cJ (jc u++R):=by
 unfold jc
 split
 ·exact h
 ·have e:(sp::dN (uj u))++R=sp::(ps 91::(dN (hO u)++ps 93::R)):=by simp[uj]
  rw[e]
  exact gH (oL (by decide) (by decide) (Pk hu (oL (by decide) (by decide) h) ⟨93,_,rfl,by decide⟩))
theorem aef{u:List ar}(h:Fl (aO R)):Fl (aO (jc u++R)):=by
 unfold jc
 split
 ·exact h
 ·exact iY
theorem axy{u:List ar}(hN:∀ f∈u,Name f.name)(hE:kv u=0):∀ f∈u,Word f.name∧f.exp.natAbs≤1152921504606846976:=fun f hf=>by
 have:=(FO hE).2 f hf
 unfold kC at this
 exact⟨(hN f hf).1,by omega⟩
theorem agY{x:Ex}(hx:ny x)(hf:Fl (aO R))(h:cJ R):cJ (mA x++R):=by
 obtain⟨h1,h2,h3,h4⟩:=hx
 obtain⟨v1,v2,v3,v4⟩:=Lp h1
 obtain⟨t1,t2,t3,t4,t5,t6⟩:=Lg h3
 simp only at t1 t2 t3 t4 t5 t6
 have hu:=agZ (R:=R) (axy t5 t6) h
 have x7:=aef (u:=x.unit) hf
 unfold mA
 by_cases k5:x.val.kind=5
 ·rw[Z8 k5]
  obtain⟨q1,q2,q3⟩:=v4 k5
  exact oL (by decide) (by decide) (jb (t3 k5).1 iY (gH ⟨UT q3 (by decide) (by omega) _,h⟩))
 rw[Z9 k5]
 by_cases k1:x.val.kind=1
 ·rw[Z8 k1]
  refine jb ?_ x7 hu
  unfold iz
  split<;>decide
 rw[Z9 k1]
 by_cases k2:x.val.kind=2
 ·rw[Z8 k2]
  exact B7 (by omega) x7 hu
 rw[Z9 k2]
 by_cases k3:x.val.kind=3
 ·rw[Z8 k3]
  exact⟨awV (by omega) x7,hu⟩
 rw[Z9 k3]
 obtain⟨q1,q2⟩:=v3 (by omega)
 exact⟨UT q2 (by decide) q1 _,hu⟩
theorem Ki{T:List Pc}(hT:∀ R,Fl (aO R)→cJ R→cJ (T++R))(h:cJ R):cJ (dp T++R):=by
 have e:dp T++R=ps 40::(T++ps 41::R):=by simp[dp]
 rw[e]
 exact oL (by decide) (by decide) (hT _ (uV (by decide)) (oL (by decide) (by decide) h))
theorem yI{x:Ex}{T:Nat→List Pc}{i:Nat}{r:Int}(hT:∀ R,Fl (aO R)→cJ R→cJ (T i++R))(hf:Fl (aO R))(h:cJ R):cJ (gR x T i r++R):=by
 unfold gR
 split
 ·exact Ki hT h
 ·exact hT R hf h
theorem ag0{w:gu}(hw:mH w)(hf:Fl (aO R))(h:cJ R):cJ (kn w++R):=by
 unfold mH at hw
 unfold kn
 split
 ·exact jb (by decide) iY (gH (B7 (by omega) hf h))
 split
 ·exact jb (by decide) iY (gH (B7 (by omega) hf h))
 split
 ·exact jb (by decide) iY (gH (B7 (by omega) hf h))
 ·exact jb (by decide) hf h
theorem aa2:∀ y∈lI,Word y:=by decide
theorem agW{x:Ex}(hx:sF x){T:Nat→List Pc}(h0:∀ R,Fl (aO R)→cJ R→cJ (T 0++R))(h1:∀ R,Fl (aO R)→cJ R→cJ (T 1++R))(h:cJ R):cJ (vT x T++R):=by
 obtain⟨⟨y,hy,bP⟩,hN,hw,hp,_⟩:=hx
 have Jm:x.param.toNat≤1152921504606846976:=by
  unfold qh at hp
  split at hp
  ·omega
  ·split at hp<;>omega
 have PV:cJ (ps 41::R):=oL (by decide) (by decide) h
 have Ud:Fl (aO (ps 41::R)):=uV (by decide)
 have e:vT x T++R=pw x.op::ps 40::pw x.table::((if x.op=aI then[]else ps 44::sp::T 0)++((if x.param=0 then[]else[ps 44,sp,.inr (tI x.param.toNat)])
  ++(ps 44::sp::(kn x.win++((if x.args.getD 1 default=ff then[]else sp::pw gm::sp::T 1)++ps 41::R))))):=by simp[vT]
 have w1:cJ ((if x.args.getD 1 default=ff then[]else sp::pw gm::sp::T 1)++ps 41::R)∧Fl (aO ((if x.args.getD 1 default=ff then[]else sp::pw gm::sp::T 1)++ps 41::R)):=by
  split
  ·exact⟨PV,Ud⟩
  ·exact⟨gH (jb (by decide) iY (gH (h1 _ Ud PV))),iY⟩
 have w2:cJ (ps 44::sp::(kn x.win++((if x.args.getD 1 default=ff then[]else sp::pw gm::sp::T 1)++ps 41::R))):=oL (by decide) (by decide) (gH (ag0 hw w1.2 w1.1))
 have f2:Fl (aO (ps 44::sp::(kn x.win++((if x.args.getD 1 default=ff then[]else sp::pw gm::sp::T 1)++ps 41::R)))):=uV (by decide)
 rw[e]
 generalize (ps 44::sp::(kn x.win++((if x.args.getD 1 default=ff then[]else sp::pw gm::sp::T 1)++ps 41::R)))=Q at w2 f2
 have w3:cJ ((if x.param=0 then[]else[ps 44,sp,.inr (tI x.param.toNat)])++Q)∧Fl (aO ((if x.param=0 then[]else[ps 44,sp,.inr (tI x.param.toNat)])++Q)):=by
  split
  ·exact⟨w2,f2⟩
  ·exact⟨oL (by decide) (by decide) (gH (B7 Jm f2 w2)),uV (by decide)⟩
 generalize ((if x.param=0 then[]else[ps 44,sp,.inr (tI x.param.toNat)])++Q)=Q2 at w3
 have w4:cJ ((if x.op=aI then[]else ps 44::sp::T 0)++Q2)∧Fl (aO ((if x.op=aI then[]else ps 44::sp::T 0)++Q2)):=by
  split
  ·exact w3
  ·exact⟨oL (by decide) (by decide) (gH (h0 _ w3.2 w3.1)),uV (by decide)⟩
 exact jb (bP ▸ aa2 y hy) (uV (by decide)) (oL (by decide) (by decide) (jb hN.1 w4.2 w4.1))
end
theorem Ti(x:Ex):∀ ins,form ins x=true→∀ R,Fl (aO R)→cJ R→cJ (pc x++R):=by
 induction x using Ex.ind with
 |h x ih=>
 intro ins hf R hR bK
 have F:=qw.of hf
 have cj:∀ i,i<x.args.length→∀ R,Fl (aO R)→cJ R→cJ (jR x i++R):=fun i hi R h1 h2=>by
  rw[ko hi]
  exact ih _ (gb hi) _ (F.sub _ (gb hi)) R h1 h2
 have hn:=F.nn
 have hb:=F.nb
 rw[nC]
 unfold la
 unfold ie at hb
 by_cases k1:x.kind=1
 ·rw[Z8 k1]at hb ⊢;exact agY hb hR bK
 rw[Z9 k1]at hb ⊢
 unfold nB at hn
 by_cases k4:x.kind=4
 ·rw[Z8 k4]
  rw[Z9 (by omega),Z8 (.inr k4)]at hb
  rw[Z8 (.inl k4)]at hn
  exact jb hb.2.1.1 iY (gH (jb (by decide) iY (gH (Ki (cj 0 (by omega)) bK))))
 rw[Z9 k4]
 by_cases k5:x.kind=5
 ·rw[Z8 k5]
  rw[Z9 (by omega),Z9 (by omega),Z8 k5]at hb
  rw[Z9 (by omega),Z8 (.inl k5)]at hn
  exact agW hb.2 (cj 0 (by omega)) (cj 1 (by omega)) bK
 rw[Z9 k5]
 by_cases k6:x.kind=6
 ·rw[Z8 k6]
  rw[Z8 (.inr k6)]at hn
  unfold vU
  split
  ·exact oL (by decide) (by decide) (yI (cj 0 (by omega)) hR bK)
  split
  ·exact jb (by decide) iY (gH (yI (cj 0 (by omega)) hR bK))
  ·exact jb (by decide) (uV (by decide)) (Ki (cj 0 (by omega)) bK)
 rw[Z9 k6]
 by_cases k7:x.kind=7
 ·rw[Z8 k7]
  rw[Z9 (by omega),Z9 (by omega),Z9 (by omega),Z9 (by omega),Z8 k7]at hb
  rw[Z9 (by omega),Z8 (.inr (.inl k7))]at hn
  obtain⟨_,y,hy,bP⟩:=hb
  have e:yL x (jR x)++R=gR x (jR x) 0 (ke x)++(sp:: .inr (ku x.op)::sp::(gR x (jR x) 1 (aK x+1)++R)):=by simp[yL]
  rw[e]
  exact yI (cj 0 (by omega)) iY (gH ⟨awW _ (bP ▸ hy) _,gH (yI (cj 1 (by omega)) hR bK)⟩)
 rw[Z9 k7]
 by_cases k8:x.kind=8
 ·rw[Z8 k8]
  rw[Z9 (by omega),Z9 (by omega),Z8 k8]at hn
  have e:yN (jR x)++R=pw fN::sp::(jR x 0++(sp::pw kz::sp::(jR x 1++(sp::pw gL::sp::(jR x 2++R))))):=by simp[yN]
  rw[e]
  exact jb (by decide) iY (gH (cj 0 (by omega) _ iY (gH (jb (by decide) iY (gH (cj 1 (by omega) _ iY (gH (jb (by decide) iY (gH (cj 2 (by omega) _ hR bK))))))))))
 rw[Z9 k8]
 by_cases k9:x.kind=9
 ·rw[Z8 k9]
  rw[Z9 (by omega),Z8 (.inr (.inr k9))]at hn
  have e:yM x (jR x)++R=gR x (jR x) 0 1++(sp::pw gS::sp::(gR x (jR x) 1 2++R)):=by simp[yM]
  rw[e]
  exact yI (cj 0 (by omega)) iY (gH (jb (by decide) iY (gH (yI (cj 1 (by omega)) hR bK))))
 rw[Z9 k9]
 have hN:Word x.name:=by
  by_cases k2:x.kind=2
  ·rw[Z8 k2]at hb;exact hb.2.1.1
  ·rw[Z9 k2]at hb
   by_cases k3:x.kind=3
   ·rw[Z8 (.inl k3)]at hb;exact hb.2.1.1
   ·rw[Z9 (by omega),Z9 k5,Z9 k6,Z9 k7,Z9 (by omega)]at hb;exact hb.elim
 exact jb hN hR bK
theorem axj{x:Ex}{ins:Bool}(h:form ins x=true):eU (bL (text x))=(al 0 (pc x),[]):=by
 rw[← Th x ins h]
 have:=Ti x ins h [] (by exact Fl.nil) trivial
 rw[Zg]at this
 exact axi this
set_option linter.unusedSectionVars false
theorem fF:∀ (L:List Pc) (p:Int),dj (al p L)∧(al p L).length≤L.length+1
 |[],p=>⟨⟨[],_,rfl,rfl⟩,ZR _⟩
 | .inl b::L,p=>by
  obtain⟨h1,h2⟩:=fF L (p+1)
  exact⟨h1,by show(al (p+1) L).length≤_;rw[Z6];omega⟩
 | .inr t::L,p=>by
  obtain⟨⟨M,e,h1,h3⟩,h2⟩:=fF L (p+(aL t).length)
  refine⟨⟨⟨t.kind,t.text,p⟩::M,e,?_,h3⟩,?_⟩
  ·show _::al _ L=_
   rw[h1];rfl
  ·show(_::al _ L).length≤_
   rw[Z6,Z6];omega
theorem Bg:∀ (L:List Pc) (p q:Int),(hd (al p L)).kind=(hd (al q L)).kind∧(hd (al p L)).text=(hd (al q L)).text
 |[],p,q=>⟨rfl,rfl⟩
 | .inl b::L,p,q=>Bg L (p+1) (q+1)
 | .inr t::L,p,q=>⟨rfl,rfl⟩
theorem je(k:Int)(s:ae)(L:List Pc)(p:Int):au k s (al p L)=au k s (al 0 L):=by
 unfold au
 rw[(Bg L p 0).1,(Bg L p 0).2]
theorem TK(L:List Pc)(p:Int):bH (al p L)=bH (al 0 L):=by
 unfold bH
 simp only
 rw[(Bg L p 0).1,(Bg L p 0).2]
abbrev rk(R:List Pc):Nat:=bH (al 0 R)
structure Fo(R:List Pc):Prop where
 unit:au 5 (ch 91) (al 0 R)=false
 of:au 1 ik (al 0 R)=false
abbrev df(R:List Pc):Bool:=au 1 gS (al 0 R)
section
variable {i:Bool}{L:List Tok}
theorem Hr(h:dj L)(hl:L.length≤100000):bW N0 i L=if au 1 fN L then(bW N0 i L.tail).bind fun a L1=>(rC kz L1).bind fun _ L2=>(bW N0 i L2).bind fun b L3=>(rC gL L3).bind fun _ L4=>(bW N0 i L4).bind fun c L5=> .ok (.mk 8 ⟨#[]⟩ ⟨#[]⟩ ⟨#[]⟩ v0 [] 0 w0 [a,b,c]) L5
  else(eC N0 1 i L).bind fun x L1=>eM N0 i x L1:=
 ((kM N0 (N0+1)).expr i L h (by show _≤1000000;omega) (by show _≤1000001;omega)).trans (by rw[bW])
theorem OA{x:Ex}(h:dj L)(hl:L.length≤100000):eM N0 i x L=if au 1 gS L then(eC N0 1 i L.tail).bind fun y L1=>eM N0 i (.mk 9 ⟨#[]⟩ ⟨#[]⟩ ⟨#[]⟩ v0 [] 0 w0 [x,y]) L1 else .ok x L:=
 ((kM N0 (N0+1)).mQ i x L h (by show _≤1000000;omega) (by show _≤1000001;omega)).trans (by rw[eM])
theorem Ny{l:Nat}(h:dj L)(hl:L.length≤100000):eC N0 l i L=(fa N0 l i L).bind fun x L1=>eN N0 l (if decide (l≤3) && au 1 da L then 2 else 7) i x L1:=
 ((kM N0 (N0+1)).bin l i L h (by show _≤1000000;omega) (by show _≤1000001;omega)).trans (by rw[eC])
theorem S0{l m:Nat}{x:Ex}(h:dj L)(hl:L.length≤100000):eN N0 l m i x L=if bH L≥l∧bH L≠0∧bH L≤m then(eC N0 (bH L+1) i L.tail).bind fun y L1=>eN N0 l (if bH L=4 then 3 else bH L) i (qG (hd L).text x y) L1 else .ok x L:=
 ((kM N0 (N0+1)).ops l m i x L h (by show _≤1000000;omega) (by show _≤1000001;omega)).trans (by rw[eN])
theorem Km{l:Nat}(h:dj L)(hl:L.length≤100000):fa N0 l i L=if decide (l≤3) && au 1 da L then(eC N0 3 i L.tail).map (lu da)else if au 5 (ch 45) L then(fa N0 7 i L.tail).map (lu (ch 45))else fU N0 i L:=
 ((kM N0 (N0+1)).operand l i L h (by show _≤1000000;omega) (by show _≤1000001;omega)).trans (by rw[fa])
theorem Kz(h:dj L)(hl:L.length≤100000):fU N0 i L=if(hd L).kind=2 then(eZ L).bind fun k L1=>(jg L1).map fun u=>jQ ⟨2,k,⟨#[]⟩⟩ u ⟨#[]⟩
  else if(hd L).kind=3 then(eA 3 L).bind fun t L1=>(jg L1).map fun u=>jQ ⟨3,pq t.text,⟨#[]⟩⟩ u ⟨#[]⟩
  else if(hd L).kind=4 then(eA 4 L).map fun t=>jQ ⟨4,0,t.text⟩ [] ⟨#[]⟩
  else if(hd L).kind=1 then gn N0 i L
  else if au 5 (ch 64) L then rB L.tail else eR N0 i L:=
 ((kM N0 (N0+1)).oN i L h (by show _≤1000000;omega) (by show _≤1000001;omega)).trans (by rw[fU])
theorem aet(h:dj L)(hl:L.length≤100000):eR N0 i L=(dR (ch 40) L).bind fun _ L1=>(bW N0 i L1).bind fun x L2=>(dR (ch 41) L2).map fun _=>x:=
 ((kM N0 (N0+1)).group i L h (by show _≤1000000;omega) (by show _≤1000001;omega)).trans (by rw[eR])
theorem CS(h:dj L)(hk:(hd L).kind≠6)(hl:L.length≤100000):gn N0 i L=if(hd L).text=wD∨(hd L).text=CP then .ok (ij (if(hd L).text=wD then 1 else 0)) L.tail
  else if(hd L).text=jy then(eR N0 i L.tail).map (lu jy)
  else if(hd L).text∈lI∧i=false then iw N0 (hd L).text L.tail
  else(fR L).bind fun s L1=>if i=true then .ok (mw 2 s []) L1
   else if au 1 ik L1 then(eR N0 i L1.tail).map fun x=>mw 4 s [x]else .ok (mw 3 s []) L1:=
 ((kM N0 (N0+1)).word i L h hk (by show _≤1000000;omega) (by show _≤1000001;omega)).trans (by rw[gn])
theorem aa1{op:ae}(h:dj L)(hl:L.length≤100000):iw N0 op L=(dR (ch 40) L).bind fun _ L1=>(fR L1).bind fun tb L2=>(dR (ch 44) L2).bind fun _ L3=>
  (if op≠zM then(bW N0 true L3).bind fun x L4=>(dR (ch 44) L4).map fun _=>x else .ok (ij 1) L3).bind fun a L5=>
  (if op=ur∨op=uq then(eZ L5).bind fun k L6=>(dR (ch 44) L6).map fun _=>k else .ok 0 L5).bind fun p L7=>
  (uw L7).bind fun w L8=>(if au 1 gm L8 then bW N0 true L8.tail else .ok (ij 1) L8).bind fun c L9=>
  (dR (ch 41) L9).map fun _=> .mk 5 op ⟨#[]⟩ tb v0 [] p w [a,c]:=
 ((kM N0 (N0+1)).agg op L h (by show _≤1000000;omega) (by show _≤1000001;omega)).trans (by rw[iw])
end
theorem agP{u:List ar}(h:kv u=0):ig u=(u,0):=by
 obtain⟨hl,_⟩:=FO h
 have hL:kx none u=0:=by
  unfold kv at h
  rwa [Z9 (by omega)]at h
 have key:∀ (u:List ar) (p:Option ae),kx p u=0→(bO (u.map ar.name)∧∀ f∈u,f.exp≠0∧-8≤f.exp∧f.exp≤8)∧∀ q,p=some q→∀ f∈u,dL q f.name=true:=fun u=>by
  induction u with
  |nil=>intro p _;exact⟨⟨ug,by simp⟩,by simp⟩
  |cons f u ih=>
   intro p hp
   rw[kx]at hp
   split at hp
   ·rename_i h0
    obtain⟨⟨i1,i2⟩,i3⟩:=ih _ hp
    have hf:(f.exp≠0∧-8≤f.exp∧f.exp≤8)∧∀ q,p=some q→dL q f.name=true:=by
     unfold py at h0
     split at h0
     ·cases h0
     ·split at h0
      ·cases h0
      ·rename_i h1 h2
       refine⟨by omega,fun q hq=> ?_⟩
       subst hq
       simp only at h0
       split at h0
       ·cases h0
       ·rename_i h3
        unfold Ew at h3
        simp only[Y7,Zq,not_or,X9]at h3
        by_cases e:dL q f.name=true
        ·exact e
        ·exact absurd (KR h3.1 (by simpa using e)) h3.2
    refine⟨⟨Yn.2 ⟨fun x hx=> ?_,i1⟩,fun g hg=> ?_⟩,fun q hq g hg=> ?_⟩
    ·obtain⟨g,hg,rfl⟩:=YX.1 hx
     exact i3 f.name rfl g hg
    ·rcases ZV.1 hg with rfl|hg
     ·exact hf.1
     ·exact i2 g hg
    ·rcases ZV.1 hg with rfl|hg
     ·exact hf.2 q hq
     ·exact Fj (hf.2 q hq) (i3 f.name rfl g hg)
   ·rename_i h0;exact absurd hp h0
 obtain⟨⟨hs,hb⟩,_⟩:=key u none hL
 have Jx:jT (u.map ar.name)=u.map ar.name:=oP (y8 _) hs fun x=>y7
 have Qy:∀ f∈u,ft u f.name=f.exp:=fun f hf=>by
  have hnd:=wj hs
  have:∀ l:List ar,(l.map ar.name).Nodup→f∈l→((l.filter fun g=>decide (g.name=f.name)).map ar.exp).sum=f.exp:=fun l=>by
   induction l with
   |nil=>intro _ h;cases h
   |cons g l ih=>
    intro hn hm
    simp only[Zu,YG]at hn
    by_cases e:g.name=f.name
    ·have hg:g=f:=by
      rcases ZV.1 hm with rfl|hm
      ·rfl
      ·exact absurd (YX.2 ⟨f,hm,e.symm⟩) hn.1
     subst hg
     have ep:l.filter (fun x=>decide (x.name=g.name))=[]:=by
      rw[X4]
      intro x hx
      simp only[Zq]
      exact fun e2=>hn.1 (YX.2 ⟨x,hx,e2⟩)
     rw[List.filter_cons_of_pos (by simp),ep]
     simp
    ·rw[List.filter_cons_of_neg (by simpa using e)]
     rcases ZV.1 hm with rfl|hm
     ·exact absurd rfl e
     ·exact ih hn.2 hm
  exact this u hnd hf
 have ae1:((u.map ar.name).map fun n=>(⟨n,ft u n⟩:ar))=u:=by
  rw[Yf]
  conv=>rhs;rw[← List.map_id u]
  refine List.map_congr_left fun f hf=> ?_
  show(⟨f.name,ft u f.name⟩:ar)=f
  rw[Qy f hf]
 have aeM:(u.filter fun f=>decide (f.exp≠0))=u:=List.filter_eq_self.2 fun f hf=>by simpa using(hb f hf).1
 unfold ig
 simp only
 rw[Jx,Z9,ae1,aeM,Z9 (by omega)]
 rintro⟨n,hn,k⟩
 obtain⟨f,hf,rfl⟩:=YX.1 hn
 rw[Qy f hf]at k
 have:=(hb f hf).2
 omega
theorem Ve{u:List ar}(hN:∀ f∈u,Name f.name)(hE:kv u=0){R:List Pc}(hf:Fo R)(p:Int):∃ q,jg (al p (jc u++R))= .ok u (al q R):=by
 unfold jc
 by_cases h:u=[]
 ·subst h
  refine⟨p,?_⟩
  rw[Z8 rfl,Za]
  unfold jg
  rw[je,hf.unit,Z9 (by decide)]
 ·rw[Z9 h]
  have hb:=(FO hE)
  obtain⟨q,hq⟩:=axw u h (fun f hf=>⟨hN f hf,by have:=hb.2 f hf;unfold kC at this;omega⟩) (by omega) R (p+1)
  rw[agP hE]at hq
  exact⟨q,hq⟩
set_option linter.unusedSectionVars false
section
variable {Z R:List Pc}{p:Int}{i:Bool}{s:ae}{c:UInt8}{n:Nat}{x:Ex}{T:List Pc}
theorem ln(h:Z.length≤90000)(p:Int):(al p Z).length≤100000:=by have:=(fF Z p).2;omega
theorem wg:dR (ch c) (al p (ps c::Z))= .ok () (al (p+1) Z):=by
 show(if au 5 (ch c) (⟨5,ch c,p⟩::al (p+((aL (tS c)).length:Int)) Z)=true then _ else _)=_
 rw[Z8 (by simp[KT])];rfl
theorem JX:∃ q,rC s (al p (pw s::Z))= .ok () (al q Z):=by
 refine⟨p+((aL (tW s)).length:Int),?_⟩
 show(if au 1 s (⟨1,s,p⟩::al (p+((aL (tW s)).length:Int)) Z)=true then _ else _)=_
 rw[Z8 (by simp[KT])];rfl
theorem EL(h:Name s):∃ q,fR (al p (pw s::Z))= .ok s (al q Z):=by
 refine⟨p+((aL (tW s)).length:Int),?_⟩
 show fR (⟨1,s,p⟩::al (p+((aL (tW s)).length:Int)) Z)=_
 unfold fR
 exact(Z9 (show¬¬Name s from fun k=>k h)).trans rfl
theorem B4:∃ q,eZ (al p (.inr (tI n)::Z))= .ok (n:Int) (al q Z):=by
 refine⟨p+((aL (tI n)).length:Int),?_⟩
 have:vR (tI n).text=(n:Int):=by
  show((cD (Lib.decDigits n) 0:Nat):Int)=_
  rw[ES]
 show PR.ok (vR (tI n).text) (al (p+((aL (tI n)).length:Int)) Z)=_
 rw[this]
theorem tP(h:Name s){k:ae}(hk:KW k):¬s=k:=fun e=>h.2 (e ▸ hk)
theorem Nk:∀ y∈lI,KW y:=by decide
theorem ahr(hZ:(pw s::Z).length≤90000):fU N0 i (al p (pw s::Z))=gn N0 i (al p (pw s::Z)):=by
 rw[Kz (fF _ p).1 (ln hZ p)]
 have hk:(hd (al p (pw s::Z))).kind=1:=rfl
 rw[hk,Z9 (by decide),Z9 (by decide),Z9 (by decide),Z8 rfl]
theorem aya(h:Name s)(hZ:(pw s::R).length≤90000)(hf:Fo R):∃ q,gn N0 i (al p (pw s::R))= .ok (mw (if i=true then 2 else 3) s []) (al q R):=by
 rw[CS (fF (pw s::R) p).1 (show(1:Int)≠6 by decide) (ln hZ p)]
 have ht:(hd (al p (pw s::R))).text=s:=rfl
 obtain⟨q,hq⟩:=EL (p:=p) (Z:=R) h
 rw[ht,Z9 (by rintro(e|e)<;>exact tP h (by decide) e),Z9 (tP h (by decide)),Z9 (fun e=>h.2 (Nk _ e.1)),hq,PR.aH]
 refine⟨q,?_⟩
 by_cases hi:i=true
 ·rw[Z8 hi,Z8 hi]
 ·rw[Z9 hi,Z9 hi,je,hf.of,Z9 (by decide)]
theorem Ia(hT:∀ p,∃ q,bW N0 i (al p (T++ps 41::R))= .ok x (al q (ps 41::R)))(hZ:(dp T++R).length≤90000):∃ q,eR N0 i (al p (dp T++R))= .ok x (al q R):=by
 have e:dp T++R=ps 40::(T++ps 41::R):=by simp[dp]
 rw[e]at hZ ⊢
 rw[aet (fF _ p).1 (ln hZ p),wg,PR.aH]
 obtain⟨q,hq⟩:=hT (p+1)
 rw[hq,PR.aH]
 unfold PR.map
 rw[wg]
 exact⟨q+1,rfl⟩
theorem Kl{l:Nat}(hZ:Z.length≤90000)(h1:au 1 da (al 0 Z)=false)(h2:au 5 (ch 45) (al 0 Z)=false):fa N0 l i (al p Z)=fU N0 i (al p Z):=by
 rw[Km (fF Z p).1 (ln hZ p),je,h1,je,h2,Bool.and_false,Z9 (by decide),Z9 (by decide)]
theorem Kk{l:Nat}(hT:∀ p,∃ q,bW N0 i (al p (T++ps 41::R))= .ok x (al q (ps 41::R)))(hZ:(dp T++R).length≤90000):∃ q,fa N0 l i (al p (dp T++R))= .ok x (al q R):=by
 obtain⟨q,hq⟩:=Ia (p:=p) hT hZ
 refine⟨q,?_⟩
 rw[Kl hZ (by rfl) (by rfl),Kz (fF _ p).1 (ln hZ p)]
 have hk:(hd (al p (dp T++R))).kind=5:=rfl
 rw[hk,Z9 (by decide),Z9 (by decide),Z9 (by decide),Z9 (by decide),je 5 (ch 64),show au 5 (ch 64) (al 0 (dp T++R))=false from rfl,Z9 (by decide),hq]
theorem GR{l:Nat}(hZ:(T++R).length≤90000)(h:∃ q,fa N0 l i (al p (T++R))= .ok x (al q R))(hn:au 1 da (al 0 (T++R))=false):∃ q,eC N0 l i (al p (T++R))=eN N0 l 7 i x (al q R):=by
 obtain⟨q,hq⟩:=h
 refine⟨q,?_⟩
 rw[Ny (fF _ p).1 (ln hZ p),hq,PR.aH,je,hn,Bool.and_false,Z9 (by decide)]
theorem B9{l m:Nat}(hZ:R.length≤90000)(h:rk R<l∨rk R=0∨m<rk R):eN N0 l m i x (al p R)= .ok x (al p R):=by
 have h:bH (al 0 R)<l∨bH (al 0 R)=0∨m<bH (al 0 R):=h
 rw[S0 (fF R p).1 (ln hZ p),TK,Z9 (by omega)]
theorem Oz(hZ:R.length≤90000)(h:df R=false):eM N0 i x (al p R)= .ok x (al p R):=by
 have h:au 1 gS (al 0 R)=false:=h
 rw[OA (fF R p).1 (ln hZ p),je,h,Z9 (by decide)]
end
theorem agf{x:Ex}(hk:x.kind=1)(hF:x.Flat (BV x))(ha:x.args=[]):jQ x.val x.unit x.name=x:=by
 cases x
 obtain⟨h1,h2,h3,h4,h5,h6,h7,h8⟩:=hF
 simp only[Ex.kind,Ex.op,Ex.name,Ex.table,Ex.val,Ex.unit,Ex.param,Ex.win,Ex.args,BV]at *
 subst hk h2 h4 h7 h8 ha
 rfl
theorem agi{x:Ex}(hk:x.kind=1)(hx:ny x)(ha:x.args=[]){R:List Pc}(hf:Fo R)(hZ:(mA x++R).length≤90000)(i:Bool)(p:Int):∃ q,fU N0 i (al p (mA x++R))= .ok x (al q R):=by
 obtain⟨h1,h2,h3,h4⟩:=hx
 obtain⟨v1,v2,v3,v4⟩:=Lp h1
 obtain⟨_,_,f3,_,f5,f6⟩:=v1
 obtain⟨t1,t2,t3,t4,t5,t6⟩:=Lg h3
 simp only at t1 t2 t3 t4 t5 t6
 have aeL:=agf hk h4 ha
 have hval:∀ k n s,x.val.kind=k→x.val.n=n→x.val.s=s→(⟨k,n,s⟩:eP)=x.val:=fun k n s a b c=>by subst a b c;rfl
 have JB:¬Num ⟨x.val.kind,x.unit,x.name⟩→x.unit=[]:=fun h=>Y3.1 fun k=>h (t2 k)
 have fin:∀ (v:eP) (u:List ar) (m:ae) (q:Int),v=x.val→u=x.unit→m=x.name→(PR.ok (jQ v u m) (al q R))= .ok x (al q R):=fun v u m q a b c=>by rw[a,b,c,aeL]
 rw[Kz (fF _ p).1 (ln hZ p)]
 unfold mA at hZ ⊢
 by_cases k5:x.val.kind=5
 ·rw[Z8 k5]at hZ ⊢
  obtain⟨q1,q2,q3⟩:=v4 k5
  have e:[ps 64,pw x.name,sp,.inr (tT x.val.s)]++R=ps 64::pw x.name::sp:: .inr (tT x.val.s)::R:=rfl
  rw[e]
  have qW:(hd (al p (ps 64::pw x.name::sp:: .inr (tT x.val.s)::R))).kind=5:=rfl
  rw[qW,Z9 (by decide),Z9 (by decide),Z9 (by decide),Z9 (by decide),Z8 (by rw[je];rfl)]
  show∃ q,rB (al (p+1) (pw x.name::sp:: .inr (tT x.val.s)::R))=_
  obtain⟨q,hq⟩:=EL (p:=p+1) (Z:=sp:: .inr (tT x.val.s)::R) (t3 k5)
  unfold rB
  rw[hq,PR.aH]
  refine⟨q+1+((aL (tT x.val.s)).length:Int),?_⟩
  show(PR.ok (⟨4,x.val.s,q+1⟩:Tok) (al (q+1+((aL (tT x.val.s)).length:Int)) R)).bind _=_
  rw[PR.aH]
  have ep:¬(x.val.s.size<1∨x.val.s.size>32∨(32:UInt8)∈x.val.s.data.toList):=by
   rintro(k|k|k)
   ·omega
   ·omega
   ·have:=(Tr q3 (by decide) 32 k).2.2
    revert this;decide
  simp only
  rw[Z9 ep]
  exact fin _ _ _ _ (hval 5 0 _ k5 (f6 (by omega)) rfl) (JB (by unfold Num;simp only;omega)).symm rfl
 rw[Z9 k5]at hZ ⊢
 have q9:x.name=⟨#[]⟩:=t4 k5
 by_cases k1:x.val.kind=1
 ·rw[Z8 k1]at hZ ⊢
  have hu:x.unit=[]:=JB (by unfold Num;simp only;omega)
  have e:(pw (iz x.val.n)::jc x.unit)++R=pw (iz x.val.n)::R:=by rw[hu];rfl
  rw[e]at hZ ⊢
  have qW:(hd (al p (pw (iz x.val.n)::R))).kind=1:=rfl
  rw[qW,Z9 (by decide),Z9 (by decide),Z9 (by decide),Z8 rfl,CS (fF (pw (iz x.val.n)::R) p).1 (show(1:Int)≠6 by decide) (ln hZ p)]
  have ht:(hd (al p (pw (iz x.val.n)::R))).text=iz x.val.n:=rfl
  refine⟨p+((aL (tW (iz x.val.n))).length:Int),?_⟩
  have hs:x.val.s=⟨#[]⟩:=f3 (by omega)
  rcases f5 k1 with h0|h0
  ·have hb:iz x.val.n=CP:=by unfold iz;rw[h0];rfl
   rw[ht,hb,Z8 (.inr rfl),Z9 (by decide)]
   exact fin _ _ _ _ (hval 1 0 _ k1 h0 hs) hu.symm q9.symm
  ·have hb:iz x.val.n=wD:=by unfold iz;rw[h0];rfl
   rw[ht,hb,Z8 (.inl rfl),Z8 rfl]
   exact fin _ _ _ _ (hval 1 1 _ k1 h0 hs) hu.symm q9.symm
 rw[Z9 k1]at hZ ⊢
 by_cases k2:x.val.kind=2
 ·rw[Z8 k2]at hZ ⊢
  rw[ZC]at hZ ⊢
  have qW:(hd (al p (.inr (tI x.val.n.toNat)::(jc x.unit++R)))).kind=2:=rfl
  obtain⟨q,hq⟩:=B4 (p:=p) (n:=x.val.n.toNat) (Z:=jc x.unit++R)
  obtain⟨q2,eG⟩:=Ve t5 t6 hf q
  rw[qW,Z8 rfl,hq,PR.aH]
  unfold PR.map
  rw[eG,PR.aH]
  exact⟨q2,fin _ _ _ _ (hval 2 _ _ k2 (by omega) (f3 (by omega))) rfl q9.symm⟩
 rw[Z9 k2]at hZ ⊢
 by_cases k3:x.val.kind=3
 ·rw[Z8 k3]at hZ ⊢
  rw[ZC]at hZ ⊢
  have qW:(hd (al p (.inr (tD x.val.n.toNat)::(jc x.unit++R)))).kind=3:=rfl
  obtain⟨q2,eG⟩:=Ve t5 t6 hf (p+((aL (tD x.val.n.toNat)).length:Int))
  rw[qW,Z9 (by decide),Z8 rfl]
  show∃ q,(PR.ok (⟨3,iW x.val.n.toNat,p⟩:Tok) (al (p+((aL (tD x.val.n.toNat)).length:Int)) (jc x.unit++R))).bind _=_
  rw[PR.aH]
  unfold PR.map
  rw[eG,PR.aH]
  refine⟨q2,?_⟩
  simp only
  rw[acE]
  exact fin _ _ _ _ (hval 3 _ _ k3 (by omega) (f3 (by omega))) rfl q9.symm
 rw[Z9 k3]at hZ ⊢
 have k4:x.val.kind=4:=by omega
 have hu:x.unit=[]:=JB (by unfold Num;simp only;omega)
 have e:(.inr (tT x.val.s)::jc x.unit)++R= .inr (tT x.val.s)::R:=by rw[hu];rfl
 rw[e]
 have qW:(hd (al p (.inr (tT x.val.s)::R))).kind=4:=rfl
 rw[qW,Z9 (by decide),Z9 (by decide),Z8 rfl]
 refine⟨p+((aL (tT x.val.s)).length:Int),?_⟩
 show PR.ok (jQ ⟨4,0,x.val.s⟩ [] ⟨#[]⟩) (al (p+((aL (tT x.val.s)).length:Int)) R)=_
 exact fin _ _ _ _ (hval 4 0 _ k4 (f6 (by omega)) rfl) hu.symm q9.symm
set_option linter.unusedSectionVars false
set_option maxHeartbeats 1000000
def oF(r:Int):Nat:=if r=4 then 2 else if r≥8 then 7 else(r-1).toNat
def oH(r:Int):Nat:=if r=4 then 2 else if r≥8 then 7 else if r=5 then 3 else(r-1).toNat
structure db(x:Ex)(i:Bool):Prop where
 q1:8≤aK x→∀ R,Fo R→(pc x++R).length≤90000→∀ l p,∃ q,fa N0 l i (al p (pc x++R))= .ok x (al q R)
 q2:∀ l:Nat,1≤l→(l:Int)≤aK x-1→l≤7→∀ R,Fo R→rk R≤oF (aK x)→(pc x++R).length≤90000→∀ p,∃ q,eC N0 l i (al p (pc x++R))=eN N0 l (oH (aK x)) i x (al q R)
 q3:1≤aK x→∀ R,Fo R→rk R=0→(pc x++R).length≤90000→∀ p,∃ q,bW N0 i (al p (pc x++R))=eM N0 i x (al q R)
 q4:∀ R,Fo R→rk R=0→df R=false→(pc x++R).length≤90000→∀ p,∃ q,bW N0 i (al p (pc x++R))= .ok x (al q R)
 h1:1≤aK x→∀ R,au 1 fN (al 0 (pc x++R))=false
 h2:5≤aK x→∀ R,au 1 da (al 0 (pc x++R))=false
theorem mN{A R:List Pc}(h:(A++R).length≤90000):R.length≤90000:=by rw[Z5]at h;omega
section
variable {x:Ex}{i:Bool}
theorem db.of3(hr:aK x=1)(h1:∀ R,au 1 fN (al 0 (pc x++R))=false)(q3:∀ R,Fo R→rk R=0→(pc x++R).length≤90000→∀ p,∃ q,bW N0 i (al p (pc x++R))=eM N0 i x (al q R)):db x i where
 q1:=fun h=>by omega
 q2:=fun l h h2=>by omega
 q3:=fun _=>q3
 q4:=fun R hf hk hd hl p=>by
  obtain⟨q,hq⟩:=q3 R hf hk hl p
  exact⟨q,by rw[hq,Oz (mN hl) hd]⟩
 h1:=fun _=>h1
 h2:=fun h=>by omega
theorem db.Kg(hr:2≤aK x)(q1:8≤aK x→∀ R,Fo R→(pc x++R).length≤90000→∀ l p,∃ q,fa N0 l i (al p (pc x++R))= .ok x (al q R))(h1:∀ R,au 1 fN (al 0 (pc x++R))=false)(h2:5≤aK x→∀ R,au 1 da (al 0 (pc x++R))=false)
  (q2:∀ l:Nat,1≤l→(l:Int)≤aK x-1→l≤7→∀ R,Fo R→rk R≤oF (aK x)→(pc x++R).length≤90000→∀ p,∃ q,eC N0 l i (al p (pc x++R))=eN N0 l (oH (aK x)) i x (al q R)):db x i:=by
 have q3:∀ R,Fo R→rk R=0→(pc x++R).length≤90000→∀ p,∃ q,bW N0 i (al p (pc x++R))=eM N0 i x (al q R):=fun R hf hk hl p=>by
  obtain⟨q,hq⟩:=q2 1 (ZR _) (by omega) (by decide) R hf (by rw[hk];exact ZH _) hl p
  refine⟨q,?_⟩
  rw[Hr (fF _ p).1 (ln hl p),je,h1 R,Z9 (by decide),hq,B9 (mN hl) (.inr (.inl hk)),PR.aH]
 refine⟨q1,q2,fun _=>q3,fun R hf hk hd hl p=> ?_,fun _=>h1,h2⟩
 obtain⟨q,hq⟩:=q3 R hf hk hl p
 exact⟨q,by rw[hq,Oz (mN hl) hd]⟩
theorem db.Kf(hr:8≤aK x)(h1:∀ R,au 1 fN (al 0 (pc x++R))=false)(h2:∀ R,au 1 da (al 0 (pc x++R))=false)(q1:∀ R,Fo R→(pc x++R).length≤90000→∀ l p,∃ q,fa N0 l i (al p (pc x++R))= .ok x (al q R)):db x i:=by
 refine db.Kg (by omega) (fun _=>q1) h1 (fun _=>h2) fun l nc oi D6 R hf hk hl p=> ?_
 have hm:oH (aK x)=7:=by unfold oH;rw[Z9 (by omega),Z8 hr]
 rw[hm]
 exact GR hl (q1 R hf hl l p) (h2 R)
end
theorem PG(R:List Pc):Fo (ps 41::R):=⟨rfl,rfl⟩
theorem db.par{y:Ex}{i:Bool}(hy:db y i){R:List Pc}(hl:(dp (pc y)++R).length≤90000)(p:Int):∃ q,bW N0 i (al p (pc y++ps 41::R))= .ok y (al q (ps 41::R)):=
 hy.q4 (ps 41::R) (PG R) rfl rfl (by have e:dp (pc y)++R=ps 40::(pc y++ps 41::R):=by simp[dp]
                                     rw[e,Z6]at hl;omega) p
abbrev cu(y:Ex)(r:Int):List Pc:=if aK y<r then dp (pc y)else pc y
theorem Dg{y:Ex}{i:Bool}(hy:db y i){r:Int}{l:Nat}(h1:1≤l)(hr:(l:Int)≤r-1)(h7:l≤7){R:List Pc}(hf:Fo R)(hk:aK y<r∨rk R≤oF (aK y))(hl:(cu y r++R).length≤90000)(p:Int):
  ∃ q,eC N0 l i (al p (cu y r++R))=eN N0 l (if aK y<r then 7 else oH (aK y)) i y (al q R):=by
 by_cases h:aK y<r
 ·have e:cu y r=dp (pc y):=Z8 h
  rw[e]at hl ⊢
  rw[Z8 h]
  exact GR hl (Kk (hy.par hl) hl) rfl
 ·have e:cu y r=pc y:=Z9 h
  rw[e]at hl ⊢
  rw[Z9 h]
  exact hy.q2 l h1 (by omega) h7 R hf (hk.resolve_left h) hl p
theorem Ns{y:Ex}{i:Bool}(hy:db y i){r:Int}(hr:1≤r)(R:List Pc):au 1 fN (al 0 (cu y r++R))=false:=by
 by_cases h:aK y<r
 ·have e:cu y r=dp (pc y):=Z8 h
  rw[e];rfl
 ·have e:cu y r=pc y:=Z9 h
  rw[e];exact hy.h1 (by omega) R
theorem abe{y:Ex}{i:Bool}(hy:db y i){r:Int}(hr:5≤r)(R:List Pc):au 1 da (al 0 (cu y r++R))=false:=by
 by_cases h:aK y<r
 ·have e:cu y r=dp (pc y):=Z8 h
  rw[e];rfl
 ·have e:cu y r=pc y:=Z9 h
  rw[e];exact hy.h2 (by omega) R
theorem ag1:∀ s∈nR,∀ x:Ex,x.kind=7→x.op=s→∃ k:Nat,aK x=(k:Int)+1∧(k=1∨k=2∨k=4∨k=5∨k=6)∧∀ Z,rk (sp:: .inr (ku s)::Z)=k∧(ku s).text=s∧Fo (sp:: .inr (ku s)::Z):=by
 intro s hs x hk bP
 have oz:aK x=if x.op=⟨#[111,114]⟩then 2 else if x.op=⟨#[97,110,100]⟩then 3 else if x.op=⟨#[43]⟩∨x.op=⟨#[45]⟩then 6 else if x.op=⟨#[42]⟩∨x.op=⟨#[47]⟩then 7 else 5:=by
  unfold aK
  rw[Z9 (by omega),Z9 (by omega),Z9 (by omega),Z8 hk]
 rw[bP]at oz
 simp only[nR,ZV,YE,or_false]at hs
 rcases hs with rfl|rfl|rfl|rfl|rfl|rfl|rfl|rfl|rfl|rfl
 ·exact⟨5,oz.trans (by decide),by decide,fun Z=>⟨rfl,rfl,rfl,rfl⟩⟩
 ·exact⟨5,oz.trans (by decide),by decide,fun Z=>⟨rfl,rfl,rfl,rfl⟩⟩
 ·exact⟨6,oz.trans (by decide),by decide,fun Z=>⟨rfl,rfl,rfl,rfl⟩⟩
 ·exact⟨6,oz.trans (by decide),by decide,fun Z=>⟨rfl,rfl,rfl,rfl⟩⟩
 ·exact⟨4,oz.trans (by decide),by decide,fun Z=>⟨rfl,rfl,rfl,rfl⟩⟩
 ·exact⟨4,oz.trans (by decide),by decide,fun Z=>⟨rfl,rfl,rfl,rfl⟩⟩
 ·exact⟨4,oz.trans (by decide),by decide,fun Z=>⟨rfl,rfl,rfl,rfl⟩⟩
 ·exact⟨4,oz.trans (by decide),by decide,fun Z=>⟨rfl,rfl,rfl,rfl⟩⟩
 ·exact⟨2,oz.trans (by decide),by decide,fun Z=>⟨rfl,rfl,rfl,rfl⟩⟩
 ·exact⟨1,oz.trans (by decide),by decide,fun Z=>⟨rfl,rfl,rfl,rfl⟩⟩
theorem yJ{x:Ex}(h:x.Flat (mz x)):x= .mk x.kind x.op ⟨#[]⟩ ⟨#[]⟩ v0 [] 0 w0 x.args:=by
 cases x
 obtain⟨h1,h2,h3,h4,h5,h6,h7,h8⟩:=h
 simp only[Ex.kind,Ex.op,Ex.name,Ex.table,Ex.val,Ex.unit,Ex.param,Ex.win,Ex.args,mz]at *
 subst h3 h4 h5 h6 h7 h8
 rfl
theorem Sz{x:Ex}(h:x.Flat (EJ x)):x=mw x.kind x.name x.args:=by
 cases x
 obtain⟨h1,h2,h3,h4,h5,h6,h7,h8⟩:=h
 simp only[Ex.kind,Ex.op,Ex.name,Ex.table,Ex.val,Ex.unit,Ex.param,Ex.win,Ex.args,EJ]at *
 subst h2 h4 h5 h6 h7 h8
 rfl
theorem aaY{x:Ex}(hk:x.kind=5)(h:x.Flat (Au x)):x= .mk 5 x.op ⟨#[]⟩ x.table v0 [] x.param x.win x.args:=by
 cases x
 obtain⟨h1,h2,h3,h4,h5,h6,h7,h8⟩:=h
 simp only[Ex.kind,Ex.op,Ex.name,Ex.table,Ex.val,Ex.unit,Ex.param,Ex.win,Ex.args,Au]at *
 subst hk h3 h5 h6
 rfl
theorem abp{x a b:Ex}{i:Bool}(hk:x.kind=7)(hF:x.Flat (mz x))(bP:x.op∈nR)(ha:x.args=[a,b])(ra:db a i)(rb:db b i):db x i:=by
 obtain⟨k,hr,Br,ae5⟩:=ag1 x.op bP x hk rfl
 have hx:x=qG x.op a b:=by
  have:=yJ hF
  rw[hk,ha]at this
  exact this
 have A3:ke x=if k=4 then 6 else(k:Int)+1:=by
  unfold ke
  by_cases h4:k=4
  ·rw[Z8 (by omega),Z8 h4]
  ·rw[Z9 (by omega),Z9 h4,hr]
 have e0:gR x (jR x) 0 (ke x)=cu a (ke x):=by
  unfold gR
  rw[ko (by rw[ha];simp),ha];rfl
 have e1:gR x (jR x) 1 (aK x+1)=cu b (aK x+1):=by
  unfold gR
  rw[ko (by rw[ha];simp),ha];rfl
 have Hl:∀ R,pc x++R=cu a (ke x)++(sp:: .inr (ku x.op)::sp::(cu b (aK x+1)++R)):=fun R=>by
  rw[nC]
  unfold la
  rw[Z9 (by omega),Z9 (by omega),Z9 (by omega),Z9 (by omega),Z8 hk]
  unfold yL
  rw[e0,e1];simp
 have cN:2≤ke x:=by rw[A3];split<;>omega
 refine db.Kg (by omega) (fun h=>by omega) (fun R=>by rw[Hl];exact Ns ra (by omega) _) (fun h R=>by rw[Hl];exact abe ra (by rw[A3];split<;>omega) _) fun l nc oi D6 R hf oh hl p=> ?_
 rw[Hl]at hl ⊢
 obtain⟨o1,o2,o3⟩:=ae5 (sp::(cu b (aK x+1)++R))
 have ayt:rk R≤k:=by
  unfold oF at oh
  rw[Z9 (by omega),Z9 (by omega)]at oh
  omega
 have Bu:aK a<ke x∨rk (sp:: .inr (ku x.op)::sp::(cu b (aK x+1)++R))≤oF (aK a):=by
  by_cases h:aK a<ke x
  ·exact .inl h
  ·right
   rw[o1]
   unfold oF
   rw[A3]at h
   split
   ·split at h<;>omega
   ·split
    ·omega
    ·split at h<;>omega
 obtain⟨q1,jP⟩:=Dg ra nc (by rw[A3];split<;>omega) D6 o3 Bu hl p
 have hm:k≤(if aK a<ke x then 7 else oH (aK a)):=by
  by_cases h:aK a<ke x
  ·rw[Z8 h];omega
  ·rw[Z9 h]
   unfold oH
   rw[A3]at h
   split
   ·split at h<;>omega
   ·split
    ·omega
    ·split
     ·split at h<;>omega
     ·split at h<;>omega
 have QL:=mN hl
 have QM:(cu b (aK x+1)++R).length≤90000:=by simp only[Z6]at QL;omega
 have aeU:aK b<aK x+1∨rk R≤oF (aK b):=by
  by_cases h:aK b<aK x+1
  ·exact .inl h
  ·right
   unfold oF
   split
   ·omega
   ·split
    ·omega
    ·omega
 obtain⟨q2,eG⟩:=Dg rb (l:=k+1) (by omega) (by omega) (by omega) hf aeU QM (q1+1+((aL (ku x.op)).length:Int)+1)
 refine⟨q2,?_⟩
 rw[jP,S0 (fF _ q1).1 (ln QL q1),TK]
 have o1':bH (al 0 (sp:: .inr (ku x.op)::sp::(cu b (aK x+1)++R)))=k:=o1
 rw[o1',Z8 ⟨by omega,by omega,hm⟩]
 have ht:(al q1 (sp:: .inr (ku x.op)::sp::(cu b (aK x+1)++R))).tail=al (q1+1+((aL (ku x.op)).length:Int)+1) (cu b (aK x+1)++R):=rfl
 have htx:(hd (al q1 (sp:: .inr (ku x.op)::sp::(cu b (aK x+1)++R)))).text=x.op:=o2
 rw[ht,htx,eG,B9 (mN QM) (.inl (by show rk R<k+1;omega)),PR.aH,← hx]
 have yb:oH (aK x)=if k=4 then 3 else k:=by
  unfold oH
  rw[Z9 (by omega),Z9 (by omega)]
  by_cases h4:k=4
  ·rw[Z8 (by omega),Z8 h4]
  ·rw[Z9 (by omega),Z9 h4];omega
 rw[yb]
set_option linter.unusedSectionVars false
set_option maxHeartbeats 1000000
theorem FY{x:Ex}{i:Bool}{s:ae}{A:List Pc}(hr:aK x=9)(e:pc x=pw s::A)(h1:s≠fN)(h2:s≠da)(h:∀ R,Fo R→(pc x++R).length≤90000→∀ p,∃ q,gn N0 i (al p (pc x++R))= .ok x (al q R)):db x i:=by
 have g1:∀ R,au 1 fN (al 0 (pc x++R))=false:=fun R=>by
  rw[e]
  show(decide ((1:Int)=1) && decide (s=fN))=false
  simp[h1]
 have g2:∀ R,au 1 da (al 0 (pc x++R))=false:=fun R=>by
  rw[e]
  show(decide ((1:Int)=1) && decide (s=da))=false
  simp[h2]
 refine db.Kf (by omega) g1 g2 fun R hf hl l p=> ?_
 obtain⟨q,hq⟩:=h R hf hl p
 refine⟨q,?_⟩
 have g3:au 5 (ch 45) (al 0 (pc x++R))=false:=by
  rw[e]
  show(decide ((1:Int)=5) && _)=false
  simp
 rw[Kl hl (g2 R) g3]
 have e2:pc x++R=pw s::(A++R):=by rw[e];rfl
 rw[e2]at hl hq ⊢
 rw[ahr hl,hq]
theorem E6{x:Ex}(h:x.kind=1∨x.kind=2∨x.kind=3∨x.kind=4∨x.kind=5):aK x=9:=by
 unfold aK
 rw[Z9 (by omega),Z9 (by omega),Z9 (by omega),Z9 (by omega)]
theorem agj{x:Ex}(hk:x.kind=1)(hx:ny x)(ha:x.args=[])(i:Bool):db x i:=by
 have e:pc x=mA x:=by rw[nC];unfold la;rw[Z8 hk]
 have D1:∀ R,au 1 fN (al 0 (mA x++R))=false∧au 1 da (al 0 (mA x++R))=false∧au 5 (ch 45) (al 0 (mA x++R))=false:=fun R=>by
  unfold mA
  split
  ·exact⟨rfl,rfl,rfl⟩
  split
  ·unfold iz
   split<;>exact⟨rfl,rfl,rfl⟩
  split
  ·exact⟨rfl,rfl,rfl⟩
  split
  ·exact⟨rfl,rfl,rfl⟩
  ·exact⟨rfl,rfl,rfl⟩
 refine db.Kf (by rw[E6 (.inl hk)];decide) (fun R=>by rw[e];exact(D1 R).1) (fun R=>by rw[e];exact(D1 R).2.1) fun R hf hl l p=> ?_
 rw[e]at hl ⊢
 rw[Kl hl (D1 R).2.1 (D1 R).2.2]
 exact agi hk hx ha hf hl i p
theorem SA{x:Ex}{i:Bool}(hk:(x.kind=2∧i=true)∨(x.kind=3∧i=false))(hx:oI x)(ha:x.args=[]):db x i:=by
 obtain⟨hN,hF⟩:=hx
 have e:pc x=[pw x.name]:=by
  rw[nC];unfold la
  rw[Z9 (by omega),Z9 (by omega),Z9 (by omega),Z9 (by omega),Z9 (by omega),Z9 (by omega),Z9 (by omega)]
 have dK:mw (if i=true then 2 else 3) x.name []=x:=by
  have:=Sz hF
  rw[ha]at this
  rcases hk with⟨h1,h2⟩|⟨h1,h2⟩
  ·rw[h2,Z8 rfl,← h1];exact this.symm
  ·rw[h2,Z9 (by decide),← h1];exact this.symm
 refine FY (E6 (by omega)) e (tP hN (by decide)) (tP hN (by decide)) fun R hf hl p=> ?_
 rw[e]at hl ⊢
 obtain⟨q,hq⟩:=aya (p:=p) (i:=i) hN hl hf
 exact⟨q,by rw[← dK];exact hq⟩
theorem agl{x y:Ex}{i:Bool}(hk:x.kind=4)(hi:i=false)(hx:oI x)(ha:x.args=[y])(ry:db y i):db x i:=by
 obtain⟨hN,hF⟩:=hx
 have e:pc x=pw x.name::sp::pw ik::sp::dp (pc y):=by
  rw[nC];unfold la
  rw[Z9 (by omega),Z8 hk,ko (by rw[ha];simp),ha];rfl
 have dK:mw 4 x.name [y]=x:=by
  have:=Sz hF
  rw[ha,hk]at this
  exact this.symm
 refine FY (E6 (by omega)) e (tP hN (by decide)) (tP hN (by decide)) fun R hf hl p=> ?_
 rw[e]at hl ⊢
 have e2:(pw x.name::sp::pw ik::sp::dp (pc y))++R=pw x.name::sp::pw ik::sp::(dp (pc y)++R):=rfl
 rw[e2]at hl ⊢
 have kU:(dp (pc y)++R).length≤90000:=by simp only[Z6]at hl;omega
 rw[CS (fF (pw x.name::sp::pw ik::sp::(dp (pc y)++R)) p).1 (show(1:Int)≠6 by decide) (ln hl p)]
 have ht:(hd (al p (pw x.name::sp::pw ik::sp::(dp (pc y)++R)))).text=x.name:=rfl
 obtain⟨q,hq⟩:=EL (p:=p) (Z:=sp::pw ik::sp::(dp (pc y)++R)) hN
 rw[ht,Z9 (by rintro(e|e)<;>exact tP hN (by decide) e),Z9 (tP hN (by decide)),Z9 (fun e=>hN.2 (Nk _ e.1)),hq,PR.aH,Z9 (by rw[hi];decide),je]
 have hs:au 1 ik (al 0 (sp::pw ik::sp::(dp (pc y)++R)))=true:=rfl
 rw[hs,Z8 rfl]
 obtain⟨q2,eG⟩:=Ia (p:=q+1+((aL (tW ik)).length:Int)+1) (i:=i) (fun p=>ry.par kU p) kU
 have gC:(al q (sp::pw ik::sp::(dp (pc y)++R))).tail=al (q+1+((aL (tW ik)).length:Int)+1) (dp (pc y)++R):=rfl
 unfold PR.map
 rw[gC,eG,PR.aH]
 simp only[dK]
 exact⟨q2,rfl⟩
theorem agT{x y:Ex}{i:Bool}(hk:x.kind=6)(bP:x.op=jy)(hF:x.Flat (mz x))(ha:x.args=[y])(ry:db y i):db x i:=by
 have e:pc x=pw jy::dp (pc y):=by
  rw[nC];unfold la
  rw[Z9 (by omega),Z9 (by omega),Z9 (by omega),Z8 hk]
  unfold vU
  rw[bP,Z9 (by decide),Z9 (by decide),ko (by rw[ha];simp),ha];rfl
 have dK:lu jy y=x:=by
  have:=yJ hF
  rw[ha,hk,bP]at this
  exact this.symm
 have hr:aK x=9:=by
  unfold aK
  rw[Z9 (by omega),Z9 (by omega),Z8 hk,bP,Z9 (by decide),Z9 (by decide)]
 refine FY hr e (by decide) (by decide) fun R hf hl p=> ?_
 rw[e]at hl ⊢
 rw[ZC]at hl ⊢
 have kU:(dp (pc y)++R).length≤90000:=by simp only[Z6]at hl;omega
 rw[CS (fF (pw jy::(dp (pc y)++R)) p).1 (show(1:Int)≠6 by decide) (ln hl p)]
 have ht:(hd (al p (pw jy::(dp (pc y)++R)))).text=jy:=rfl
 rw[ht,Z9 (by decide),Z8 rfl]
 obtain⟨q2,eG⟩:=Ia (p:=p+((aL (tW jy)).length:Int)) (i:=i) (fun p=>ry.par kU p) kU
 have gC:(al p (pw jy::(dp (pc y)++R))).tail=al (p+((aL (tW jy)).length:Int)) (dp (pc y)++R):=rfl
 unfold PR.map
 rw[gC,eG,PR.aH,dK]
 exact⟨q2,rfl⟩
theorem agG{x y:Ex}{i:Bool}(hk:x.kind=6)(bP:x.op=ch 45)(hF:x.Flat (mz x))(ha:x.args=[y])(ry:db y i):db x i:=by
 have e:∀ R,pc x++R=ps 45::(cu y 8++R):=fun R=>by
  rw[nC];unfold la
  rw[Z9 (by omega),Z9 (by omega),Z9 (by omega),Z8 hk]
  unfold vU gR
  rw[bP,Z8 rfl,ko (by rw[ha];simp),ha];rfl
 have dK:lu (ch 45) y=x:=by
  have:=yJ hF
  rw[ha,hk,bP]at this
  exact this.symm
 have hr:aK x=8:=by
  unfold aK
  rw[Z9 (by omega),Z9 (by omega),Z8 hk,bP,Z8 rfl]
 refine db.Kf (by omega) (fun R=>by rw[e];rfl) (fun R=>by rw[e];rfl) fun R hf hl l p=> ?_
 rw[e]at hl ⊢
 have kU:(cu y 8++R).length≤90000:=by simp only[Z6]at hl;omega
 rw[Km (fF (ps 45::(cu y 8++R)) p).1 (ln hl p),je 1 da,je 5 (ch 45)]
 have s1:au 1 da (al 0 (ps 45::(cu y 8++R)))=false:=rfl
 have s2:au 5 (ch 45) (al 0 (ps 45::(cu y 8++R)))=true:=rfl
 rw[s1,s2,Bool.and_false,Z9 (by decide),Z8 rfl]
 have gC:(al p (ps 45::(cu y 8++R))).tail=al (p+((aL (tS 45)).length:Int)) (cu y 8++R):=rfl
 have ae6:∃ q,fa N0 7 i (al (p+((aL (tS 45)).length:Int)) (cu y 8++R))= .ok y (al q R):=by
  by_cases h:aK y<8
  ·have e:cu y 8=dp (pc y):=Z8 h
   rw[e]at kU ⊢
   exact Kk (fun p=>ry.par kU p) kU
  ·have e:cu y 8=pc y:=Z9 h
   rw[e]at kU ⊢
   exact ry.q1 (by omega) R hf kU 7 _
 obtain⟨q,hq⟩:=ae6
 unfold PR.map
 rw[gC,hq,PR.aH,dK]
 exact⟨q,rfl⟩
theorem agR{x y:Ex}{i:Bool}(hk:x.kind=6)(bP:x.op=da)(hF:x.Flat (mz x))(ha:x.args=[y])(ry:db y i):db x i:=by
 have e:∀ R,pc x++R=pw da::sp::(cu y 4++R):=fun R=>by
  rw[nC];unfold la
  rw[Z9 (by omega),Z9 (by omega),Z9 (by omega),Z8 hk]
  unfold vU gR
  rw[bP,Z9 (by decide),Z8 rfl,ko (by rw[ha];simp),ha];rfl
 have dK:lu da y=x:=by
  have:=yJ hF
  rw[ha,hk,bP]at this
  exact this.symm
 have hr:aK x=4:=by
  unfold aK
  rw[Z9 (by omega),Z9 (by omega),Z8 hk,bP,Z9 (by decide),Z8 rfl]
 refine db.Kg (by omega) (fun h=>by omega) (fun R=>by rw[e];rfl) (fun h=>by omega) fun l nc oi D6 R hf oh hl p=> ?_
 have dt:rk R≤2:=by
  unfold oF at oh
  rw[Z8 hr]at oh;exact oh
 rw[e]at hl ⊢
 have kU:(cu y 4++R).length≤90000:=by simp only[Z6]at hl;omega
 have s1:au 1 da (al 0 (pw da::sp::(cu y 4++R)))=true:=rfl
 rw[Ny (fF (pw da::sp::(cu y 4++R)) p).1 (ln hl p),Km (fF (pw da::sp::(cu y 4++R)) p).1 (ln hl p),je,s1,Bool.and_true,Zi (show l≤3 by omega),Z8 rfl,Z8 rfl]
 have gC:(al p (pw da::sp::(cu y 4++R))).tail=al (p+((aL (tW da)).length:Int)+1) (cu y 4++R):=rfl
 have Bu:aK y<4∨rk R≤oF (aK y):=by
  by_cases h:aK y<4
  ·exact .inl h
  ·right
   unfold oF
   split
   ·omega
   ·split<;>omega
 obtain⟨q,hq⟩:=Dg ry (r:=4) (l:=3) (by omega) (by omega) (by omega) hf Bu kU (p+((aL (tW da)).length:Int)+1)
 have hm:oH (aK x)=2:=by unfold oH;rw[Z8 hr]
 unfold PR.map
 rw[gC,hq,B9 (mN kU) (.inl (by show rk R<3;omega)),PR.aH,PR.aH,dK,hm]
 exact⟨q,rfl⟩
theorem afr{x a b c:Ex}{i:Bool}(hk:x.kind=8)(bP:x.op=⟨#[]⟩)(hF:x.Flat (mz x))(ha:x.args=[a,b,c])(ra:db a i)(rb:db b i)(rc:db c i):db x i:=by
 have e:∀ R,pc x++R=pw fN::sp::(pc a++(sp::pw kz::sp::(pc b++(sp::pw gL::sp::(pc c++R))))):=fun R=>by
  rw[nC];unfold la
  rw[Z9 (by omega),Z9 (by omega),Z9 (by omega),Z9 (by omega),Z9 (by omega),Z8 hk]
  unfold yN
  rw[ko (by rw[ha];simp),ko (by rw[ha];simp),ko (by rw[ha];simp),ha];simp
 have dK:(.mk 8 ⟨#[]⟩ ⟨#[]⟩ ⟨#[]⟩ v0 [] 0 w0 [a,b,c]:Ex)=x:=by
  have:=yJ hF
  rw[ha,hk,bP]at this
  exact this.symm
 have hr:aK x=0:=by unfold aK;rw[Z8 hk]
 refine⟨fun h=>by omega,fun l h h2=>by omega,fun h=>by omega,fun R hf oh hd hl p=> ?_,fun h=>by omega,fun h=>by omega⟩
 rw[e]at hl ⊢
 have l1:(pc a++(sp::pw kz::sp::(pc b++(sp::pw gL::sp::(pc c++R))))).length≤90000:=by simp only[Z6]at hl;omega
 have l2:(pc b++(sp::pw gL::sp::(pc c++R))).length≤90000:=by have:=mN l1;simp only[Z6]at this;omega
 have l3:(pc c++R).length≤90000:=by have:=mN l2;simp only[Z6]at this;omega
 have s1:au 1 fN (al 0 (pw fN::sp::(pc a++(sp::pw kz::sp::(pc b++(sp::pw gL::sp::(pc c++R)))))))=true:=rfl
 rw[Hr (fF _ p).1 (ln hl p),je,s1,Z8 rfl]
 have gC:(al p (pw fN::sp::(pc a++(sp::pw kz::sp::(pc b++(sp::pw gL::sp::(pc c++R))))))).tail=al (p+((aL (tW fN)).length:Int)+1) (pc a++(sp::pw kz::sp::(pc b++(sp::pw gL::sp::(pc c++R))))):=rfl
 obtain⟨q1,jP⟩:=ra.q4 (sp::pw kz::sp::(pc b++(sp::pw gL::sp::(pc c++R)))) ⟨rfl,rfl⟩ rfl rfl l1 (p+((aL (tW fN)).length:Int)+1)
 obtain⟨q2,eG⟩:=JX (s:=kz) (p:=q1+1) (Z:=sp::(pc b++(sp::pw gL::sp::(pc c++R))))
 obtain⟨q3,yh⟩:=rb.q4 (sp::pw gL::sp::(pc c++R)) ⟨rfl,rfl⟩ rfl rfl l2 (q2+1)
 obtain⟨q4,yi⟩:=JX (s:=gL) (p:=q3+1) (Z:=sp::(pc c++R))
 obtain⟨q5,BC⟩:=rc.q4 R hf oh hd l3 (q4+1)
 have c1:al q1 (sp::pw kz::sp::(pc b++(sp::pw gL::sp::(pc c++R))))=al (q1+1) (pw kz::sp::(pc b++(sp::pw gL::sp::(pc c++R)))):=rfl
 have c2:al q2 (sp::(pc b++(sp::pw gL::sp::(pc c++R))))=al (q2+1) (pc b++(sp::pw gL::sp::(pc c++R))):=rfl
 have c3:al q3 (sp::pw gL::sp::(pc c++R))=al (q3+1) (pw gL::sp::(pc c++R)):=rfl
 have c4:al q4 (sp::(pc c++R))=al (q4+1) (pc c++R):=rfl
 rw[gC,jP,PR.aH,c1,eG,PR.aH,c2,yh,PR.aH,c3,yi,PR.aH,c4,BC,PR.aH,dK]
 exact⟨q5,rfl⟩
theorem acM{x a b:Ex}{i:Bool}(hk:x.kind=9)(bP:x.op=⟨#[]⟩)(hF:x.Flat (mz x))(ha:x.args=[a,b])(ra:db a i)(rb:db b i):db x i:=by
 have e:∀ R,pc x++R=cu a 1++(sp::pw gS::sp::(cu b 2++R)):=fun R=>by
  rw[nC];unfold la
  rw[Z9 (by omega),Z9 (by omega),Z9 (by omega),Z9 (by omega),Z9 (by omega),Z9 (by omega),Z8 hk]
  unfold yM gR
  rw[ko (by rw[ha];simp),ko (by rw[ha];simp),ha];simp
 have dK:(.mk 9 ⟨#[]⟩ ⟨#[]⟩ ⟨#[]⟩ v0 [] 0 w0 [a,b]:Ex)=x:=by
  have:=yJ hF
  rw[ha,hk,bP]at this
  exact this.symm
 have hr:aK x=1:=by unfold aK;rw[Z9 (by omega),Z8 hk]
 refine db.of3 hr (fun R=>by rw[e];exact Ns ra (by omega) _) fun R hf oh hl p=> ?_
 rw[e]at hl ⊢
 have l2:(cu b 2++R).length≤90000:=by have:=mN hl;simp only[Z6]at this;omega
 have xS:∃ q,bW N0 i (al p (cu a 1++(sp::pw gS::sp::(cu b 2++R))))=eM N0 i a (al q (sp::pw gS::sp::(cu b 2++R))):=by
  by_cases h:aK a<1
  ·have e2:cu a 1=dp (pc a):=Z8 h
   rw[e2]at hl ⊢
   obtain⟨q,hq⟩:=GR (l:=1) (p:=p) hl (Kk (fun p=>ra.par hl p) hl) rfl
   refine⟨q,?_⟩
   have s1:au 1 fN (al 0 (dp (pc a)++(sp::pw gS::sp::(cu b 2++R))))=false:=rfl
   rw[Hr (fF _ p).1 (ln hl p),je,s1,Z9 (by decide),hq,B9 (mN hl) (.inr (.inl rfl)),PR.aH]
  ·have e2:cu a 1=pc a:=Z9 h
   rw[e2]at hl ⊢
   exact ra.q3 (by omega) _ ⟨rfl,rfl⟩ rfl hl p
 obtain⟨q1,jP⟩:=xS
 obtain⟨q2,eG⟩:=Dg rb (r:=2) (l:=1) (by omega) (by omega) (by omega) hf (.inr (by rw[oh];exact ZH _)) l2 (q1+1+((aL (tW gS)).length:Int)+1)
 have s2:au 1 gS (al 0 (sp::pw gS::sp::(cu b 2++R)))=true:=rfl
 have gC:(al q1 (sp::pw gS::sp::(cu b 2++R))).tail=al (q1+1+((aL (tW gS)).length:Int)+1) (cu b 2++R):=rfl
 refine⟨q2,?_⟩
 rw[jP,OA (fF _ q1).1 (ln (mN hl) q1),je,s2,Z8 rfl,gC,eG,B9 (mN l2) (.inr (.inl oh)),PR.aH,dK]
set_option linter.unusedSectionVars false
set_option maxHeartbeats 1000000
theorem ax8{w:gu}(hw:mH w)(Z:List Pc)(p:Int):∃ q,uw (al p (kn w++Z))= .ok w (al q Z):=by
 obtain⟨k,z⟩:=w
 unfold mH at hw
 simp only at hw
 have hz:∀ q:Int,k≠1→(q:Int)=q→((z.toNat:Nat):Int)=z:=fun q h _=>by omega
 unfold kn uw
 simp only
 by_cases k2:k=2
 ·subst k2
  rw[Z8 rfl]
  obtain⟨q,hq⟩:=B4 (p:=p+((aL (tW nI)).length:Int)+1) (n:=z.toNat) (Z:=Z)
  have s1:au 1 qq (al p ([pw nI,sp,.inr (tI z.toNat)]++Z))=false:=rfl
  have s2:au 1 nI (al p ([pw nI,sp,.inr (tI z.toNat)]++Z))=true:=rfl
  have t:(al p ([pw nI,sp,.inr (tI z.toNat)]++Z)).tail=al (p+((aL (tW nI)).length:Int)+1) (.inr (tI z.toNat)::Z):=rfl
  refine⟨q,?_⟩
  rw[s1,s2,Z9 (by decide),Z8 rfl,t]
  unfold PR.map
  rw[hq,PR.aH,hz 0 (by decide) rfl]
 rw[Z9 k2]
 by_cases k3:k=3
 ·subst k3
  rw[Z8 rfl]
  obtain⟨q,hq⟩:=B4 (p:=p+((aL (tW nJ)).length:Int)+1) (n:=z.toNat) (Z:=Z)
  have s1:au 1 qq (al p ([pw nJ,sp,.inr (tI z.toNat)]++Z))=false:=rfl
  have s2:au 1 nI (al p ([pw nJ,sp,.inr (tI z.toNat)]++Z))=false:=rfl
  have s3:au 1 nJ (al p ([pw nJ,sp,.inr (tI z.toNat)]++Z))=true:=rfl
  have t:(al p ([pw nJ,sp,.inr (tI z.toNat)]++Z)).tail=al (p+((aL (tW nJ)).length:Int)+1) (.inr (tI z.toNat)::Z):=rfl
  refine⟨q,?_⟩
  rw[s1,s2,s3,Z9 (by decide),Z9 (by decide),Z8 rfl,t]
  unfold PR.map
  rw[hq,PR.aH,hz 0 (by decide) rfl]
 rw[Z9 k3]
 by_cases k4:k=4
 ·subst k4
  rw[Z8 rfl]
  obtain⟨q0,rh⟩:=JX (s:=rW) (p:=p) (Z:=sp:: .inr (tI z.toNat)::Z)
  obtain⟨q,hq⟩:=B4 (p:=q0+1) (n:=z.toNat) (Z:=Z)
  have e:[pw rW,sp,.inr (tI z.toNat)]++Z=pw rW::sp:: .inr (tI z.toNat)::Z:=rfl
  have s1:au 1 qq (al p (pw rW::sp:: .inr (tI z.toNat)::Z))=false:=rfl
  have s2:au 1 nI (al p (pw rW::sp:: .inr (tI z.toNat)::Z))=false:=rfl
  have s3:au 1 nJ (al p (pw rW::sp:: .inr (tI z.toNat)::Z))=false:=rfl
  have t:al q0 (sp:: .inr (tI z.toNat)::Z)=al (q0+1) (.inr (tI z.toNat)::Z):=rfl
  refine⟨q,?_⟩
  rw[e,s1,s2,s3,Z9 (by decide),Z9 (by decide),Z9 (by decide),rh,PR.aH,t]
  unfold PR.map
  rw[hq,PR.aH,hz 0 (by decide) rfl]
 ·rw[Z9 k4]
  obtain⟨rfl,rfl⟩:k=1∧z=0:=by omega
  have s1:au 1 qq (al p ([pw qq]++Z))=true:=rfl
  refine⟨p+((aL (tW qq)).length:Int),?_⟩
  rw[s1,Z8 rfl];rfl
theorem aaZ:∀ s∈lI,s≠fN∧s≠da∧¬(s=wD∨s=CP)∧s≠jy:=by decide
theorem aa0{x a b:Ex}(hk:x.kind=5)(hx:sF x)(ha:x.args=[a,b])(hc:x.op=aI→a=ff)(ra:db a true)(rb:db b true):db x false:=by
 obtain⟨⟨y,hy,bP⟩,hN,hw,hp,hF⟩:=hx
 have ef:x.op∈lI:=bP ▸ hy
 obtain⟨n1,n2,n3,n4⟩:=aaZ _ ef
 have dK:(.mk 5 x.op ⟨#[]⟩ x.table v0 [] x.param x.win [a,b]:Ex)=x:=by
  have:=aaY hk hF
  rw[ha]at this
  exact this.symm
 have e0:pc x=pw x.op::(ps 40::pw x.table::((if x.op=aI then[]else ps 44::sp::pc a)++((if x.param=0 then[]else[ps 44,sp,.inr (tI x.param.toNat)])
   ++(ps 44::sp::(kn x.win++((if b=ff then[]else sp::pw gm::sp::pc b)++[ps 41])))))):=by
  rw[nC];unfold la
  rw[Z9 (by omega),Z9 (by omega),Z8 hk]
  unfold vT
  rw[ko (by rw[ha];simp),ko (by rw[ha];simp),ha];rfl
 refine FY (E6 (by omega)) e0 n1 n2 fun R hf hl p=> ?_
 generalize hA2:(if b=ff then([]:List Pc)else sp::pw gm::sp::pc b)=A2 at *
 have A7:∃ Zw,Zw=kn x.win++(A2++ps 41::R):=⟨_,rfl⟩
 obtain⟨Zw,A7⟩:=A7
 obtain⟨P,hP⟩:∃ P,P=if x.param=0 then sp::Zw else sp:: .inr (tI x.param.toNat)::ps 44::sp::Zw:=⟨_,rfl⟩
 obtain⟨Q,hQ⟩:∃ Q,Q=if x.op=aI then P else sp::(pc a++ps 44::P):=⟨_,rfl⟩
 have e1:(if x.param=0 then([]:List Pc)else[ps 44,sp,.inr (tI x.param.toNat)])++(ps 44::sp::Zw)=ps 44::P:=by
  rw[hP];split<;>rfl
 have e2:(if x.op=aI then([]:List Pc)else ps 44::sp::pc a)++(ps 44::P)=ps 44::Q:=by
  rw[hQ];split
  ·rfl
  ·simp
 have e:pc x++R=pw x.op::ps 40::pw x.table::ps 44::Q:=by
  rw[e0,← e2,← e1,A7];simp
 rw[e]at hl ⊢
 have lQ:Q.length≤89996:=by simp only[Z6]at hl;omega
 have lP:P.length≤89996:=by
  rw[hQ]at lQ
  split at lQ
  ·exact lQ
  ·simp only[Z6,Z5]at lQ;omega
 have lZ:Zw.length≤89996:=by
  rw[hP]at lP
  split at lP
  ·simp only[Z6]at lP;omega
  ·simp only[Z6]at lP;omega
 rw[CS (fF (pw x.op::ps 40::pw x.table::ps 44::Q) p).1 (show(1:Int)≠6 by decide) (ln hl p)]
 have ht:(hd (al p (pw x.op::ps 40::pw x.table::ps 44::Q))).text=x.op:=rfl
 have gC:(al p (pw x.op::ps 40::pw x.table::ps 44::Q)).tail=al (p+((aL (tW x.op)).length:Int)) (ps 40::pw x.table::ps 44::Q):=rfl
 rw[ht,Z9 n3,Z9 n4,Z8 ⟨ef,rfl⟩,gC]
 obtain⟨q1,jP⟩:=EL (p:=p+((aL (tW x.op)).length:Int)+1) (Z:=ps 44::Q) hN
 rw[aa1 (fF (ps 40::pw x.table::ps 44::Q) _).1 (ln (by simp only[Z6]at hl ⊢;omega) _),wg,PR.aH,jP,PR.aH,wg,PR.aH]
 have hval:∃ q,(if x.op≠zM then(bW N0 true (al (q1+1) Q)).bind fun x L4=>(dR (ch 44) L4).map fun _=>x else .ok (ij 1) (al (q1+1) Q))= .ok a (al q P):=by
  by_cases h:x.op=aI
  ·rw[Z9 (fun k=>k h),hQ,Z8 h,hc h]
   exact⟨_,rfl⟩
  ·rw[Z8 (show x.op≠zM from h),hQ,Z9 h]
   rw[hQ,Z9 h]at lQ
   obtain⟨q,hq⟩:=ra.q4 (ps 44::P) ⟨rfl,rfl⟩ rfl rfl (by rw[Z6]at lQ;omega) (q1+1+1)
   have t:al (q1+1) (sp::(pc a++ps 44::P))=al (q1+1+1) (pc a++ps 44::P):=rfl
   rw[t,hq,PR.aH]
   unfold PR.map
   rw[wg]
   exact⟨q+1,rfl⟩
 obtain⟨q2,eG⟩:=hval
 rw[eG,PR.aH]
 have Jm:∃ q,(if x.op=ur∨x.op=uq then(eZ (al q2 P)).bind fun k L6=>(dR (ch 44) L6).map fun _=>k else .ok 0 (al q2 P))= .ok x.param (al q (sp::Zw)):=by
  unfold qh at hp
  by_cases h0:x.param=0
  ·have ep:¬(x.op=ur∨x.op=uq):=by
    rintro(h|h)
    ·rw[Z8 h]at hp;omega
    ·rw[Z9 (by rw[h];decide),Z8 h]at hp;omega
   rw[Z9 ep,hP,Z8 h0,h0]
   exact⟨_,rfl⟩
  ·have RA:x.op=ur∨x.op=uq:=by
    by_cases h1:x.op=ur
    ·exact .inl h1
    ·rw[Z9 h1]at hp
     by_cases h2:x.op=uq
     ·exact .inr h2
     ·rw[Z9 h2]at hp;exact absurd hp h0
   have pN:((x.param.toNat:Nat):Int)=x.param:=by
    rcases RA with h|h
    ·rw[Z8 h]at hp;omega
    ·rw[Z9 (by rw[h];decide),Z8 h]at hp;omega
   rw[Z8 RA,hP,Z9 h0]
   obtain⟨q,hq⟩:=B4 (p:=q2+1) (n:=x.param.toNat) (Z:=ps 44::sp::Zw)
   have t:al q2 (sp:: .inr (tI x.param.toNat)::ps 44::sp::Zw)=al (q2+1) (.inr (tI x.param.toNat)::ps 44::sp::Zw):=rfl
   rw[t,hq,PR.aH]
   unfold PR.map
   rw[wg,PR.aH,pN]
   exact⟨q+1,rfl⟩
 obtain⟨q3,yh⟩:=Jm
 rw[yh,PR.aH]
 obtain⟨q4,yi⟩:=ax8 hw (A2++ps 41::R) (q3+1)
 have t3:al q3 (sp::Zw)=al (q3+1) (kn x.win++(A2++ps 41::R)):=by rw[A7];rfl
 rw[t3,yi,PR.aH]
 have lA:(A2++ps 41::R).length≤89996:=by rw[A7,Z5]at lZ;omega
 have IH:∃ q,(if au 1 gm (al q4 (A2++ps 41::R))then bW N0 true (al q4 (A2++ps 41::R)).tail else .ok (ij 1) (al q4 (A2++ps 41::R)))= .ok b (al q (ps 41::R)):=by
  rw[← hA2]at lA ⊢
  by_cases h:b=ff
  ·rw[Z8 h,h,je]
   have s1:au 1 gm (al 0 ([]++ps 41::R))=false:=rfl
   rw[s1,Z9 (by decide)]
   exact⟨_,rfl⟩
  ·rw[Z9 h]at lA ⊢
   rw[je]
   have s1:au 1 gm (al 0 ((sp::pw gm::sp::pc b)++ps 41::R))=true:=rfl
   have t:(al q4 ((sp::pw gm::sp::pc b)++ps 41::R)).tail=al (q4+1+((aL (tW gm)).length:Int)+1) (pc b++ps 41::R):=rfl
   rw[s1,Z8 rfl,t]
   exact rb.q4 (ps 41::R) (PG R) rfl rfl (by simp only[Z6,Z5]at lA ⊢;omega) _
 obtain⟨q5,BC⟩:=IH
 rw[BC,PR.aH]
 unfold PR.map
 rw[wg,PR.aH,dK]
 exact⟨q5+1,rfl⟩
theorem SZ{l:List Ex}(h:l.length=1):∃ a,l=[a]:=by
 match l,h with
 |[a],_=>exact⟨a,rfl⟩
theorem Lf{l:List Ex}(h:l.length=2):∃ a b,l=[a,b]:=by
 match l,h with
 |[a,b],_=>exact⟨a,b,rfl⟩
theorem axa{l:List Ex}(h:l.length=3):∃ a b c,l=[a,b,c]:=by
 match l,h with
 |[a,b,c],_=>exact⟨a,b,c,rfl⟩
theorem ahB(x:Ex):∀ ins,form ins x=true→db x ins:=by
 induction x using Ex.ind with
 |h x ih=>
 intro ins hf
 have F:=qw.of hf
 have hn:=F.nn
 have hb:=F.nb
 have cj:=F.sub
 unfold ie at hb
 unfold nB at hn
 by_cases k1:x.kind=1
 ·rw[Z8 k1]at hb
  rw[Z9 (by omega),Z9 (by omega),Z9 (by omega)]at hn
  exact agj k1 hb (ZO (by omega)) ins
 rw[Z9 k1]at hb
 by_cases k2:x.kind=2
 ·rw[Z8 k2]at hb
  rw[Z9 (by omega),Z9 (by omega),Z9 (by omega)]at hn
  exact SA (.inl ⟨k2,hb.1⟩) hb.2 (ZO (by omega))
 rw[Z9 k2]at hb
 by_cases k3:x.kind=3
 ·rw[Z8 (.inl k3)]at hb
  rw[Z9 (by omega),Z9 (by omega),Z9 (by omega)]at hn
  exact SA (.inr ⟨k3,hb.1⟩) hb.2 (ZO (by omega))
 have Bn:x.kind≠5→(ins || decide (x.kind=5))=ins:=fun h=>by rw[Zn h,Bool.or_false]
 by_cases k4:x.kind=4
 ·rw[Z8 (.inr k4)]at hb
  rw[Z8 (.inl k4)]at hn
  obtain⟨y,hy⟩:=SZ (l:=x.args) (by omega)
  have h0:=cj y (by rw[hy];simp)
  rw[Bn (by omega)]at h0
  exact agl k4 hb.1 hb.2 hy (ih y (by rw[hy];simp) ins h0)
 rw[Z9 (by omega)]at hb
 by_cases k5:x.kind=5
 ·rw[Z8 k5]at hb
  rw[Z9 (by omega),Z8 (.inl k5)]at hn
  obtain⟨a,b,eF⟩:=Lf (l:=x.args) (by omega)
  have h0:=cj a (by rw[eF];simp)
  have h1:=cj b (by rw[eF];simp)
  rw[Zi k5,Bool.or_true]at h0 h1
  have hc:x.op=aI→a=ff:=fun h=>by
   have:=F.cn k5 h
   rw[eF]at this
   exact this
  rw[hb.1]
  exact aa0 k5 hb.2 eF hc (ih a (by rw[eF];simp) true h0) (ih b (by rw[eF];simp) true h1)
 rw[Z9 k5]at hb
 by_cases k6:x.kind=6
 ·rw[Z8 k6]at hb
  rw[Z8 (.inr k6)]at hn
  obtain⟨y,hy⟩:=SZ (l:=x.args) (by omega)
  have h0:=cj y (by rw[hy];simp)
  rw[Bn (by omega)]at h0
  have ry:=ih y (by rw[hy];simp) ins h0
  obtain⟨hF,o,ho,bP⟩:=hb
  simp only[CH,ZV,YE,or_false]at ho
  rcases ho with rfl|rfl|rfl
  ·exact agG k6 bP hF hy ry
  ·exact agR k6 bP hF hy ry
  ·exact agT k6 bP hF hy ry
 rw[Z9 k6]at hb
 by_cases k7:x.kind=7
 ·rw[Z8 k7]at hb
  rw[Z9 (by omega),Z8 (.inr (.inl k7))]at hn
  obtain⟨a,b,eF⟩:=Lf (l:=x.args) (by omega)
  have h0:=cj a (by rw[eF];simp)
  have h1:=cj b (by rw[eF];simp)
  rw[Bn (by omega)]at h0 h1
  obtain⟨hF,o,ho,bP⟩:=hb
  exact abp k7 hF (bP ▸ ho) eF (ih a (by rw[eF];simp) ins h0) (ih b (by rw[eF];simp) ins h1)
 rw[Z9 k7]at hb
 by_cases k8:x.kind=8
 ·rw[Z8 (.inl k8)]at hb
  rw[Z9 (by omega),Z9 (by omega),Z8 k8]at hn
  obtain⟨a,b,c,eF⟩:=axa (l:=x.args) (by omega)
  have h0:=cj a (by rw[eF];simp)
  have h1:=cj b (by rw[eF];simp)
  have h2:=cj c (by rw[eF];simp)
  rw[Bn (by omega)]at h0 h1 h2
  exact afr k8 hb.2 hb.1 eF (ih a (by rw[eF];simp) ins h0) (ih b (by rw[eF];simp) ins h1) (ih c (by rw[eF];simp) ins h2)
 by_cases k9:x.kind=9
 ·rw[Z8 (.inr k9)]at hb
  rw[Z9 (by omega),Z8 (.inr (.inr k9))]at hn
  obtain⟨a,b,eF⟩:=Lf (l:=x.args) (by omega)
  have h0:=cj a (by rw[eF];simp)
  have h1:=cj b (by rw[eF];simp)
  rw[Bn (by omega)]at h0 h1
  exact acM k9 hb.2 hb.1 eF (ih a (by rw[eF];simp) ins h0) (ih b (by rw[eF];simp) ins h1)
 ·rw[Z9 (by omega)]at hb;exact hb.elim
theorem Kr:∀ L:List Pc,cJ L→L.length≤(aO L).length
 |[],_=>ZR _
 | .inl b::L,h=>by have:=Kr L h.2;simp only[aO,Z6];omega
 | .inr t::L,h=>by
  have:=Kr L h.2
  have h2:=YZ.2 h.1.ne
  simp only[aO,Z6,Z5];omega
theorem aw7{x:Ex}(h:form false x=true)(hs:(text x).size≤16384):∃ L,eU (bL (text x))=(L,[])∧∃ q,bW N0 false L= .ok x (al q []):=by
 have hT:=axj h
 have bK:=Ti x false h [] (by exact Fl.nil) trivial
 rw[Zg]at bK
 have hlen:=Kr _ bK
 rw[Th x false h]at hlen
 have oj:(bL (text x)).length=(text x).size:=rfl
 obtain⟨q,hq⟩:=(ahB x false h).q4 [] ⟨rfl,rfl⟩ rfl rfl (by rw[Zg];omega) 0
 rw[Zg]at hq
 exact⟨_,hT,q,hq⟩
set_option linter.unusedSectionVars false
theorem VC{x:Ex}(h:form false x=true)(hs:x.size≤64)(z:Ex):uv (bW N0 false) z (bL (text x))=(x,0,0):=by
 have hl:(text x).size≤16384:=by have:=Lb x false h;omega
 obtain⟨L,hL,q,hq⟩:=aw7 h hl
 unfold uv
 rw[Z9 (show¬(bL (text x)).length>16384 from fun k=>by have:(bL (text x)).length=(text x).size:=rfl;omega),hL]
 simp only[hq,PR.aH]
 rfl
set_option linter.unusedSectionVars false
theorem sz2{k:Int}{o n t:ae}{v:eP}{u:List ar}{p:Int}{w:gu}{a:Ex}:(Ex.mk k o n t v u p w [a]).size=1+a.size:=by
 rw[Ex.wh];show 1+(a.size+0)=_;omega
end Go.Proofs.YtcccbdelfhgmlaaGreatDoor
