/- ParserRecovers, plain: a wrong item turns nothing in front of it or behind it. -/
import Derived.Test.YtbihckigennlhaaGreatDoorTj
import Derived.Lib.ItoaMem
import Derived.Test.YtbihckigennlhaaGreatDoorPc
import Derived.Test.YtbihckigennlhaaGreatDoorYa
set_option linter.unusedVariables false
set_option linter.unusedSimpArgs false
set_option maxRecDepth 100000
namespace Go.Proofs.YtbihckigennlhaaGreatDoor
open Go.Sx Go.Proofs
structure Ih(w:Bs)(p:Int):Prop where
 len:w.length≤100
 pos:0≤p∧p<w.length
 lex:(cA w.length 0 (-1) w).2=[]
 item:∀ A e,(cA w.length 0 (-1) w).1=A++[e]→∀ B,B≠[]→(hd (A++B)).kind≠6∧aJe (A++B)= .err p 90∧IQ p (A++B)=B
theorem Ih.of{w:Bs}{p:Int}{A:List Tok}(h1:w.length≤100)(h2:0≤p∧p<w.length)(h3:cA w.length 0 (-1) w=(A++[⟨6,⟨#[]⟩,(w.length:Int)⟩],[]))(h4:∀ b B,(hd (A++b::B)).kind≠6∧aJe (A++b::B)= .err p 90∧IQ p (A++b::B)=b::B):Ih w p:=by
 refine⟨h1,h2,by rw[h3],fun A' e he B hB=> ?_⟩
 rw[h3]at he
 obtain⟨e1,_⟩:=List.append_inj' he rfl
 subst e1
 cases B with
 |nil=>exact absurd rfl hB
 |cons b B=>exact h4 b B
set_option linter.unusedSectionVars false
def ar(t:Tok):Bs:=if t.kind=4 then 34::(t.text.data.toList++[34])else t.text.data.toList
def dn:List Tok→Bs
 |[]=>[]
 |[t]=>ar t
 |t::u::L=>ar t++32::dn (u::L)
def km(p:UInt8→Bool)(r:Bs):Prop:=r=[]∨∃ x t,r=x::t∧p x=false
def xg(r:Bs):Prop:=r=[]∨∃ t,r=32::t
theorem xg.stop{r:Bs}(h:xg r){p:UInt8→Bool}(hp:p 32=false):km p r:=by
 rcases h with rfl|⟨t,rfl⟩
 ·exact .inl rfl
 ·exact .inr ⟨_,_,rfl,hp⟩
theorem Pq{p:UInt8→Bool}{r:Bs}(hr:km p r):∀ u:Bs,(∀ c∈u,p c=true)→(u++r).takeWhile p=u
 |[],_=>by rcases hr with rfl|⟨x,t,rfl,hx⟩<;>simp[List.takeWhile, *]
 |c::u,h=>by
  rw[ZD,ZG,h c ZU,if_pos rfl,Pq hr u fun x hx=>h x (ZX _ hx)]
theorem y9{p:UInt8→Bool}{r:Bs}(hr:km p r){u:Bs}(h:∀ c∈u,p c=true):aD p (u++r)=u.length:=by unfold aD;rw[Pq hr u h]
theorem F2{c:UInt8}{W r:Bs}(hc:aC c=2)(hW:∀ x∈c::W,ey x=true)(hr:km ey r):ax (c::(W++r))=(1,W.length+1,if W.length+1>24 then 2 else 0):=by
 have h:aD ey (c::(W++r))=W.length+1:=y9 (u:=c::W) hr hW
 unfold ax;simp[hc,h]
theorem FW{c:UInt8}{W r:Bs}(hc:aC c=3)(hW:∀ x∈c::W,aO x=true)(hr:km aO r)(hn:¬(r.head? =some 46∧aD aO (r.drop 1)>0)):ax (c::(W++r))=(2,W.length+1,lL (c::W)):=by
 have h:aD aO (c::(W++r))=W.length+1:=y9 (u:=c::W) hr hW
 have h2:(c::(W++r)).drop (W.length+1)=r:=by simp
 have h3:(c::(W++r)).take (W.length+1)=c::W:=by simp
 unfold ax;simp only[h,h2,h3,hc]
 rw[if_neg (by decide),if_neg (by decide),if_neg (by decide),if_pos trivial,if_neg hn]
theorem FV{c:UInt8}{W V r:Bs}(hc:aC c=3)(hW:∀ x∈c::W,aO x=true)(hV:∀ x∈V,aO x=true)(hv:V≠[])(hr:km aO r):ax (c::(W++(46::(V++r))))=(3,W.length+1+1+V.length,jV (c::(W++46::V))):=by
 have h:aD aO (c::(W++(46::(V++r))))=W.length+1:=y9 (u:=c::W) (.inr ⟨46,_,rfl,by decide⟩) hW
 have h2:(c::(W++(46::(V++r)))).drop (W.length+1)=46::(V++r):=by simp
 have h4:aD aO (V++r)=V.length:=y9 hr hV
 have h3:(c::(W++(46::(V++r)))).take (W.length+1+1+V.length)=c::(W++46::V):=by
  have:c::(W++(46::(V++r)))=(c::(W++46::V))++r:=by simp
  rw[this,YQ (by simp;omega),ZC (by simp;omega)]
 unfold ax;simp only[h,h2,hc,X0,List.drop_zero,h4,List.head?_cons]
 rw[if_neg (by decide),if_neg (by decide),if_neg (by decide),if_pos trivial,if_pos ⟨trivial,Y1.2 hv⟩,h3]
theorem F0{W r:Bs}(hW:∀ x∈W,(x != 34 && x != 10)=true):ax (34::(W++34::r))=(4,W.length+2,tZ W):=by
 have h:aD (fun b=>b != 34 && b != 10) (W++34::r)=W.length:=y9 (.inr ⟨34,_,rfl,by decide⟩) hW
 have hc:aC 34=5:=by decide
 unfold ax;simp[h,hc]
theorem F1{c:UInt8}(r:Bs)(hc:aC c=7∨aC c=8)(h:c=61∨c=33∨c=60):ax (c::61::r)=(5,2,0):=by
 unfold ax
 simp only
 rw[if_neg (by omega),if_neg (by omega),if_neg (by omega),if_neg (by omega),if_neg (by omega),if_pos hc,if_pos ⟨rfl,h⟩]
theorem FZ{c:UInt8}{r:Bs}(hc:aC c=7∨aC c=8)(h:c≠33)(hr:¬(r.head? =some 61∧(c=61∨c=33∨c=60))):ax (c::r)=(5,1,0):=by
 unfold ax
 simp only
 rw[if_neg (by omega),if_neg (by omega),if_neg (by omega),if_neg (by omega),if_neg (by omega),if_pos hc,if_neg hr,if_pos h]
def Up:Int→List Tok→Prop
 |_,[]=>True
 |lo,t::L=>lo≤t.at_∧Up (t.at_+1) L
theorem Up.mono:∀ {L:List Tok} {lo FB:Int},Up lo L→FB≤lo→Up FB L
 |[],_,_,_,_=>trivial
 |t::L,lo,FB,h,hl=>⟨by have:=h.1;omega,h.2⟩
theorem Ar(s:af):(⟨s.data.toList.toArray⟩:af)=s:=by cases s;simp
theorem join_cons(t:Tok)(L:List Tok):(dn (t::L)).length≤(ar t).length+1+(dn L).length:=by
 cases L with
 |nil=>show(ar t).length≤_;omega
 |cons u L=>show(ar t++32::dn (u::L)).length≤_;simp;omega
where adu:∀ u:Bs, -1≤(ax u).1
 |[]=>by decide
 |c::r=>by
  unfold ax
  simp only
  repeat' split
  all_goals first|decide|(simp only;omega)
set_option linter.unusedSectionVars false
abbrev Pc:=UInt8 ⊕ Tok
def aM:List Pc→Bs
 |[]=>[]
 | .inl b::L=>b::aM L
 | .inr t::L=>ar t++aM L
def ak:Int→List Pc→List Tok
 |p,[]=>[⟨6,⟨#[]⟩,p⟩]
 |p,.inl _::L=>ak (p+1) L
 |p,.inr t::L=>⟨t.kind,t.text,p⟩::ak (p+(ar t).length) L
structure oL(t:Tok)(r:Bs):Prop where
 kind:1≤t.kind∧t.kind≤5
 ne:ar t≠[]
 self:ax (ar t++r)=(t.kind,(ar t).length,0)
def cq:List Pc→Prop
 |[]=>True
 | .inl b::L=>aC b=1∧cq L
 | .inr t::L=>oL t (aM L)∧cq L
theorem Fz:∀ (L:List Pc) (n:Nat) (p:Int),cq L→(aM L).length≤n→cA n p (-1) (aM L)=(ak p L,[])
 |[],n,p,_,_=>by show cA n p (-1) []=_;rw[lex_nil];rfl
 | .inl b::L,n,p,hg,hn=>by
  simp only[aM,Z9]at hn
  obtain⟨m,rfl⟩:∃ m,n=m+1:=⟨n-1,by omega⟩
  have hp:ax (b::aM L)=(0,1,0):=by unfold ax;simp only;rw[if_pos hg.1]
  rw[aM,om _ _ _ (by simp),hp]
  simp only
  rw[if_neg (by decide),if_neg (by decide),if_neg (by decide),if_neg (by decide)]
  exact Fz L m _ hg.2 (by omega)
 | .inr t::L,n,p,hg,hn=>by
  obtain⟨⟨g1,g2,g3⟩,qE⟩:=hg
  have hlen:1≤(ar t).length:=Y1.2 g2
  simp only[aM,Z7]at hn
  obtain⟨m,rfl⟩:∃ m,n=m+1:=⟨n-1,by omega⟩
  have aQ:ar t++aM L≠[]:=by
   intro h;have:=congrArg List.length h;rw[Z7]at this;simp at this;exact g2 this.1
  rw[aM,om _ _ _ aQ,g3]
  simp only
  have gL:¬t.kind= -1:=by omega
  rw[if_neg gL,if_neg (by simp)]
  have Es:(ar t++aM L).drop (ar t).length=aM L:=by simp
  have E5:(ar t++aM L).take (ar t).length=ar t:=by simp
  rw[Es,E5,Fz L m _ qE (by omega)]
  simp only
  by_cases h4:t.kind=4
  ·rw[if_pos h4]
   have je:ar t=34::(t.text.data.toList++[34]):=by unfold ar;rw[if_pos h4]
   have:(((ar t++aM L).take ((ar t).length-1)).drop 1)=t.text.data.toList:=by
    rw[je];simp
   rw[this,← h4,Ar,ak]
  ·rw[if_neg h4,if_pos (by omega)]
   have je:(⟨(ar t).toArray⟩:af)=t.text:=(congrArg (fun l:Bs=>(⟨l.toArray⟩:af)) (show ar t=t.text.data.toList from if_neg h4)).trans (Ar _)
   rw[je,ak]
theorem ayN{L:List Pc}(hg:cq L):dh (aM L)=(ak 0 L,[]):=by
 unfold dh
 simp only
 rw[Fz L _ 0 hg (ZI _)];rfl
theorem pF(A B:List Pc):aM (A++B)=aM A++aM B:=by
 induction A with
 |nil=>rfl
 |cons a A ih=>cases a<;>simp[aM,ih]
def tW(s:af):Tok:=⟨1,s,0⟩
def tI(n:Nat):Tok:=⟨2,⟨(Lib.decDigits n).toArray⟩,0⟩
def tS(c:UInt8):Tok:=⟨5,ch c,0⟩
theorem Ml{n:UInt8}(h:dp n.toNat):aC n=2:=by
 unfold dp at h
 unfold aC
 rw[if_neg (by rintro(h|h|h|h)<;>(subst h;revert h;decide)),if_pos (by omega)]
theorem aa5{n:UInt8}(h:dz n.toNat):ey n=true:=by
 have key:aC n=2∨aC n=3∨aC n=4:=by
  rcases h with h|h|h
  ·exact .inl (Ml h)
  ·unfold dG at h
   unfold aC
   rw[if_neg (by rintro(h|h|h|h)<;>(subst h;revert h;decide)),if_neg (by omega),if_pos (by omega)]
   exact .inr (.inl rfl)
  ·have:n=95:=Yy.1 h
   subst this;decide
 exact Zi key
theorem xw{n:UInt8}(h:dG n.toNat):aC n=3:=by
 unfold dG at h
 unfold aC
 rw[if_neg (by rintro(h|h|h|h)<;>(subst h;revert h;decide)),if_neg (by omega),if_pos (by omega)]
theorem IY{s:af}{P:UInt8→Prop}(h:∀ i,i<s.size→P (bB s i)):∀ c∈s.data.toList,P c:=fun c hc=>by
 obtain⟨i,hi,rfl⟩:=Zd.1 hc
 have:=h i (by simpa using hi)
 unfold bB at this
 rwa [Z1,Z6 hi]at this
theorem wC{s:af}(h:Word s){r:Bs}(hr:km ey r):oL (tW s) r:=by
 obtain⟨h1,h2,h3,h4⟩:=h
 have je:ar (tW s)=s.data.toList:=by unfold ar tW;exact if_neg (show¬(1:Int)=4 by decide)
 have aJb:∀ x∈s.data.toList,ey x=true:=IY fun i hi=>aa5 (h4 i hi)
 have hsz:s.data.toList.length=s.size:=rfl
 refine⟨(show(1:Int)≤1∧(1:Int)≤5 by decide),by rw[je];intro e;rw[e]at hsz;simp at hsz;omega,?_⟩
 rw[je]
 unfold bB at h3
 cases e:s.data.toList with
 |nil=>rw[e]at hsz;simp at hsz;omega
 |cons c W=>
  rw[e]at h3 aJb hsz
  have h3:dp c.toNat:=h3
  rw[ZD,F2 (Ml h3) aJb hr,if_neg (by simp at hsz;omega)];rfl
theorem N4{n:Nat}(h:n<10):Lib.decDigits n=[UInt8.ofNat (48+n)]:=by rw[Lib.decDigits,dif_pos h]
theorem N3{n:Nat}(h:¬n<10):Lib.decDigits n=Lib.decDigits (n / 10)++[UInt8.ofNat (48+n % 10)]:=by rw[Lib.decDigits,dif_neg h]
theorem v7{d:Nat}(h:d<10):(UInt8.ofNat (48+d)).toNat=48+d:=by
 rw[UInt8.toNat_ofNat'];omega
theorem FF(c:UInt8):∀ (l:Bs) (a:Nat),ei (l++[c]) a=10 * ei l a+(c.toNat-48)
 |[],a=>rfl
 |b::l,a=>FF c l _
theorem BH(n:Nat):ei (Lib.decDigits n) 0=n:=by
 induction n using Nat.strongRecOn with
 |_ n ih=>
  by_cases h:n<10
  ·rw[N4 h];show 10 * 0+_=_;rw[v7 h];omega
  ·rw[N3 h,FF,ih _ (by omega),v7 (by omega)];omega
theorem Ga(n:Nat):Lib.decDigits n≠[]∧∀ c∈Lib.decDigits n,dG c.toNat:=by
 induction n using Nat.strongRecOn with
 |_ n ih=>
  by_cases h:n<10
  ·rw[N4 h];refine⟨by simp,fun c hc=> ?_⟩;rw[Y3.1 hc,v7 h];unfold dG;omega
  ·rw[N3 h];refine⟨by simp,fun c hc=> ?_⟩
   rcases Zm.1 hc with hc|hc
   ·exact(ih _ (by omega)).2 c hc
   ·rw[Y3.1 hc,v7 (by omega)];unfold dG;omega
theorem Gy{n:Nat}(h:n≤1152921504606846976){r:Bs}(hr:km aO r)(hp:r.head?≠some 46):oL (tI n) r:=by
 obtain⟨h1,h2⟩:=Ga n
 have je:ar (tI n)=Lib.decDigits n:=by unfold ar tI;exact if_neg (show¬(2:Int)=4 by decide)
 refine⟨(show(1:Int)≤2∧(2:Int)≤5 by decide),by rw[je];exact h1,?_⟩
 rw[je]
 have hI:lL (Lib.decDigits n)=0:=by unfold lL;rw[BH,if_neg (by omega)]
 have aJb:∀ x∈Lib.decDigits n,aO x=true:=fun x hx=>Zi (xw (h2 x hx))
 cases e:Lib.decDigits n with
 |nil=>exact absurd e h1
 |cons c W=>
  rw[e]at h2 hI aJb
  rw[ZD,FW (xw (h2 c ZU)) aJb hr (fun h=>hp h.1),hI];rfl
theorem wB{c:UInt8}(hc:aC c=7){r:Bs}(hr:¬((c=61∨c=60)∧r.head? =some 61)):oL (tS c) r:=by
 have je:ar (tS c)=[c]:=rfl
 refine⟨(show(1:Int)≤5∧(5:Int)≤5 by decide),by rw[je];simp,?_⟩
 rw[je]
 have iU:c≠33:=fun e=>by subst e;revert hc;decide
 exact FZ (.inl hc) iU fun⟨h1,h2⟩=>hr ⟨h2.elim .inl fun h=>h.elim (fun h=>absurd h iU) .inr,h1⟩
def eM(f:aq):List Tok:=tW f.name::(if f.exp=1 then[]else tS 94::(if f.exp<0 then[tS 45,tI f.exp.natAbs]else[tI f.exp.natAbs]))
def eX:List aq→List Tok
 |[]=>[]
 |[f]=>eM f
 |f::g::l=>eM f++tS 42::eX (g::l)
abbrev cM(l:List Tok):List Pc:=l.map .inr
theorem ng{c:UInt8}(h:¬(c=61∨c=60)){p:Prop}:¬((c=61∨c=60)∧p):=fun h2=>h h2.1
def Ah(r:Bs):Prop:=∃ c t,r=c::t∧aC c=7
theorem Ah.stop{r:Bs}(h:Ah r):km ey r∧km aO r∧r.head?≠some 46:=by
 obtain⟨c,t,rfl,hc⟩:=h
 have h1:ey c=false:=by unfold ey;simp[hc]
 have h2:aO c=false:=by unfold aO;simp[hc]
 refine⟨.inr ⟨_,_,rfl,h1⟩,.inr ⟨_,_,rfl,h2⟩,fun e=> ?_⟩
 simp only[List.head?_cons,Z5]at e
 subst e;revert hc;decide
theorem J6{f:aq}(hw:Word f.name)(he:f.exp.natAbs≤1152921504606846976){R:List Pc}(hR:cq R)(hs:Ah (aM R)):cq (cM (eM f)++R):=by
 obtain⟨s1,s2,s3⟩:=hs.stop
 have qA:aC 94=7:=by decide
 have sE:aC 45=7:=by decide
 unfold eM
 split
 ·exact⟨wC hw s1,hR⟩
 ·split
  ·exact⟨wC hw (.inr ⟨94,_,rfl,by decide⟩),wB qA (ng (by decide)),wB sE (ng (by decide)),Gy he s2 s3,hR⟩
  ·exact⟨wC hw (.inr ⟨94,_,rfl,by decide⟩),wB qA (ng (by decide)),Gy he s2 s3,hR⟩
theorem Kd:∀ {l:List aq},(∀ f∈l,Word f.name∧f.exp.natAbs≤1152921504606846976)→∀ {R:List Pc},cq R→Ah (aM R)→cq (cM (eX l)++R)
 |[],_,R,hR,_=>hR
 |[f],h,R,hR,hs=>J6 (h f (by simp)).1 (h f (by simp)).2 hR hs
 |f::g::l,h,R,hR,hs=>by
  have ih:=Kd (l:=g::l) (fun x hx=>h x (ZX _ hx)) hR hs
  have:cM (eX (f::g::l))++R=cM (eM f)++(.inr (tS 42)::(cM (eX (g::l))++R)):=by simp[eX,cM]
  rw[this]
  exact J6 (h f (by simp)).1 (h f (by simp)).2 ⟨wB (by decide) (ng (by decide)),ih⟩ ⟨42,_,rfl,by decide⟩
theorem Gp{k:Int}{s:af}{t:Tok}{L:List Tok}:au k s (t::L)=(decide (t.kind=k) && decide (t.text=s)):=rfl
theorem Ke{f:aq}(hn:Name f.name)(he:f.exp.natAbs≤1000)(R:List Pc)(hR:∀ p,au 5 (ch 94) (ak p R)=false)(p:Int):∃ q,dP (ak p (cM (eM f)++R))= .ok f (ak q R):=by
 have EM:∀ L:List Tok,fh (⟨1,f.name,p⟩::L)= .ok f.name L:=fun L=>by
  unfold fh
  exact(if_neg (show¬¬Name f.name from fun h=>h hn)).trans rfl
 have LA:∀ (q:Int) (L:List Tok),az2 (⟨2,(tI f.exp.natAbs).text,q⟩::L)= .ok (f.exp.natAbs:Int) L:=fun q L=>by
  have:tC (tI f.exp.natAbs).text=(f.exp.natAbs:Int):=by
   show((ei (Lib.decDigits f.exp.natAbs) 0:Nat):Int)=_
   rw[BH]
  show PR.ok (tC (tI f.exp.natAbs).text) L=_
  rw[this]
 have hf:∀ n e,n=f.name→e=f.exp→(⟨n,e⟩:aq)=f:=fun n e h1 h2=>by subst h1 h2;rfl
 unfold eM
 split
 ·rename_i h1
  refine⟨p+(ar (tW f.name)).length,?_⟩
  show dP (⟨1,f.name,p⟩::ak (p+(ar (tW f.name)).length) R)=_
  unfold dP
  rw[EM,PR.aJ,if_neg (by rw[hR];decide),hf _ _ rfl h1.symm]
 ·rename_i h1
  split
  ·rename_i h2
   refine⟨p+(ar (tW f.name)).length+(ar (tS 94)).length+(ar (tS 45)).length+(ar (tI f.exp.natAbs)).length,?_⟩
   show dP (⟨1,f.name,p⟩::⟨5,ch 94,p+(ar (tW f.name)).length⟩::⟨5,ch 45,p+(ar (tW f.name)).length+(ar (tS 94)).length⟩::⟨2,(tI f.exp.natAbs).text,p+(ar (tW f.name)).length+(ar (tS 94)).length+(ar (tS 45)).length⟩::ak _ R)=_
   unfold dP
   rw[EM,PR.aJ,if_pos (by rfl),List.tail_cons,if_pos (by rfl),List.tail_cons,LA]
   refine congrArg (fun x=>PR.ok x _) (hf _ _ rfl ?_)
   omega
  ·rename_i h2
   refine⟨p+(ar (tW f.name)).length+(ar (tS 94)).length+(ar (tI f.exp.natAbs)).length,?_⟩
   show dP (⟨1,f.name,p⟩::⟨5,ch 94,p+(ar (tW f.name)).length⟩::⟨2,(tI f.exp.natAbs).text,p+(ar (tW f.name)).length+(ar (tS 94)).length⟩::ak _ R)=_
   unfold dP
   rw[EM,PR.aJ,if_pos (by rfl),List.tail_cons,if_neg (by simp[Gp]),LA]
   refine congrArg (fun x=>PR.ok x _) (hf _ _ rfl ?_)
   omega
theorem MU:∀ (l:List aq),(∀ f∈l,Name f.name∧f.exp.natAbs≤1000)→∀ (n:Nat) (acc:List aq) (R:List Pc),l.length≤n→(∀ p,au 5 (ch 94) (ak p R)=false)→(∀ p,au 5 (ch 42) (ak p R)=false)→
  ∀ p,∃ q,j4 (ch 42) dP n (ak p ((l.flatMap fun f=> .inr (tS 42)::cM (eM f))++R)) acc= .ok (acc++l) (ak q R)
 |[],_,n,acc,R,_,_,h2,p=>⟨p,by cases n<;>simp[j4,h2]⟩
 |f::l,hf,0,acc,R,hn,_,_,p=>by simp at hn
 |f::l,hf,n+1,acc,R,hn,h1,h2,p=>by
  have kE:∀ p,au 5 (ch 94) (ak p ((l.flatMap fun f=> .inr (tS 42)::cM (eM f))++R))=false:=fun p=>by
   cases l with
   |nil=>exact h1 p
   |cons g l=>rfl
  obtain⟨q,hq⟩:=Ke (hf f (by simp)).1 (hf f (by simp)).2 _ kE (p+(ar (tS 42)).length)
  obtain⟨q2,dQ⟩:=MU l (fun x hx=>hf x (ZX _ hx)) n (acc++[f]) R (by simp at hn;omega) h1 h2 q
  refine⟨q2,?_⟩
  have e:ak p (((f::l).flatMap fun f=> .inr (tS 42)::cM (eM f))++R)=⟨5,ch 42,p⟩::ak (p+(ar (tS 42)).length) (cM (eM f)++((l.flatMap fun f=> .inr (tS 42)::cM (eM f))++R)):=by
   simp only[List.flatMap_cons,ZD,ZA];rfl
  rw[e]
  unfold j4
  rw[if_pos (by rfl),List.tail_cons,hq,PR.aJ,dQ]
  simp
theorem Kb(f:aq):∀ (l:List aq),cM (eX (f::l))=cM (eM f)++(l.flatMap fun f=> .inr (tS 42)::cM (eM f))
 |[]=>by simp[eX]
 |g::l=>by
  have:=Kb g l
  show cM (eM f++tS 42::eX (g::l))=_
  simp only[cM,Y2,ZH]at this ⊢
  rw[this];simp
theorem acs(l:List aq)(hl:l≠[])(hf:∀ f∈l,Name f.name∧f.exp.natAbs≤1000)(hn:l.length≤1000)(R:List Pc)(h1:∀ p,au 5 (ch 94) (ak p R)=false)(h2:∀ p,au 5 (ch 42) (ak p R)=false)(p:Int):∃ q,gy (ch 42) dP (ak p (cM (eX l)++R))= .ok l (ak q R):=by
 cases l with
 |nil=>exact absurd rfl hl
 |cons f l=>
  have kE:∀ p,au 5 (ch 94) (ak p ((l.flatMap fun f=> .inr (tS 42)::cM (eM f))++R))=false:=fun p=>by
   cases l with
   |nil=>exact h1 p
   |cons g l=>rfl
  obtain⟨q,hq⟩:=Ke (hf f (by simp)).1 (hf f (by simp)).2 _ kE p
  obtain⟨q2,dQ⟩:=MU l (fun x hx=>hf x (ZX _ hx)) N0 [f] R (by simp at hn;show _≤1000000;omega) h1 h2 q
  refine⟨q2,?_⟩
  rw[Kb,ZA]
  unfold gy
  rw[hq,PR.aJ,dQ];rfl
def pT(l:List aq):List Tok:=tS 91::(eX l++[tS 93])
theorem ayY(l:List aq)(hl:l≠[])(hf:∀ f∈l,Name f.name∧f.exp.natAbs≤1000)(hn:l.length≤1000)(R:List Pc)(p:Int):
  ∃ q,iq (ak p (cM (pT l)++R))=if(gz l).2≠0 then .err p (gz l).2 else .ok (gz l).1 (ak q R):=by
 have e:cM (pT l)++R= .inr (tS 91)::(cM (eX l)++ .inr (tS 93)::R):=by simp[pT]
 obtain⟨q,hq⟩:=acs l hl hf hn (.inr (tS 93)::R) (fun p=>by rfl) (fun p=>by rfl) (p+(ar (tS 91)).length)
 refine⟨q+(ar (tS 93)).length,?_⟩
 rw[e]
 unfold iq
 rw[if_pos (by rfl)]
 show(gy (ch 42) dP (ak (p+(ar (tS 91)).length) (cM (eX l)++ .inr (tS 93)::R))).bind _=_
 rw[hq,PR.aJ]
 rfl
set_option linter.unusedSectionVars false
def tO(s:af):Tok:=⟨5,s,0⟩
def tT(s:af):Tok:=⟨4,s,0⟩
def tD(n:Nat):Tok:=⟨3,gY n,0⟩
abbrev sp:Pc:= .inl 32
abbrev pw(s:af):Pc:= .inr (tW s)
abbrev ps(c:UInt8):Pc:= .inr (tS c)
def gQ(s:af):Tok:=if s=G8∨s=G6 then tW s else tO s
def fF(u:List aq):List Pc:=if u=[]then[]else sp::cM (pT u)
def iJ(x:Ex):List Pc:=
 if x.val.kind=5 then[ps 64,pw x.name,sp,.inr (tT x.val.s)]
 else if x.val.kind=1 then pw (ga x.val.n)::fF x.unit
 else if x.val.kind=2 then .inr (tI x.val.n.toNat)::fF x.unit
 else if x.val.kind=3 then .inr (tD x.val.n.toNat)::fF x.unit
 else .inr (tT x.val.s)::fF x.unit
def cB(T:List Pc):List Pc:=ps 40::(T++[ps 41])
def fb(x:Ex)(T:Nat→List Pc)(i:Nat)(r:Int):List Pc:=if aK (x.args.getD i default)<r then cB (T i)else T i
def gA(w:fq):List Pc:=
 if w.kind=2 then[pw kX,sp,.inr (tI w.size.toNat)]else if w.kind=3 then[pw kY,sp,.inr (tI w.size.toNat)]
 else if w.kind=4 then[pw oF,sp,.inr (tI w.size.toNat)]else[pw mY]
def pE(x:Ex)(T:Nat→List Pc):List Pc:=
 pw x.op::ps 40::pw x.table::((if x.op=cZ then[]else ps 44::sp::T 0)++((if x.param=0 then[]else[ps 44,sp,.inr (tI x.param.toNat)])
  ++(ps 44::sp::(gA x.win++((if x.args.getD 1 default=dD then[]else sp::pw eI::sp::T 1)++[ps 41])))))
def pH(x:Ex)(T:Nat→List Pc):List Pc:=
 if x.op=ch 45 then ps 45::fb x T 0 8 else if x.op=cE then pw cE::sp::fb x T 0 4 else pw iw::cB (T 0)
def tE(x:Ex)(T:Nat→List Pc):List Pc:=fb x T 0 (iI x)++(sp:: .inr (gQ x.op)::sp::fb x T 1 (aK x+1))
def tH(T:Nat→List Pc):List Pc:=pw eR::sp::(T 0++(sp::pw jo::sp::(T 1++(sp::pw fI::sp::T 2))))
def tG(x:Ex)(T:Nat→List Pc):List Pc:=fb x T 0 1++(sp::pw fY::sp::fb x T 1 2)
def jk(x:Ex)(T:Nat→List Pc):List Pc:=
 if x.kind=1 then iJ x else if x.kind=4 then pw x.name::sp::pw gj::sp::cB (T 0)else if x.kind=5 then pE x T
 else if x.kind=6 then pH x T else if x.kind=7 then tE x T else if x.kind=8 then tH T else if x.kind=9 then tG x T else[pw x.name]
mutual
def pc:Ex→List Pc
 | .mk k o n t v u p w ks=>jk (.mk k o n t v u p w ks) (fun i=>(yP ks).getD i [])
def yP:List Ex→List (List Pc)
 |[]=>[]
 |x::l=>pc x::yP l
end
def dJ(x:Ex)(i:Nat):List Pc:=(yP x.args).getD i []
theorem j9(x:Ex):pc x=jk x (dJ x):=by cases x;rfl
theorem NG:∀ (l:List Ex) (i:Nat),i<l.length→(yP l).getD i []=pc (l.getD i default)
 |[],_,h=>absurd h (by simp)
 |x::l,0,_=>rfl
 |x::l,i+1,h=>by
  have:=NG l i (by simpa using h)
  simpa[yP]using this
theorem iK{x:Ex}{i:Nat}(h:i<x.args.length):dJ x i=pc (x.args.getD i default):=NG _ _ h
def bL(s:af):Bs:=s.data.toList
theorem eK(a b:af):bL (a++b)=bL a++bL b:=aBD a b
theorem ayd(s:af):ar (tO s)=bL s:=rfl
theorem zD(s:af):ar (tT s)=34::(bL s++[34]):=rfl
theorem B9(n:Nat):ar (tD n)=bL (gY n):=rfl
theorem zC(n:Nat):ar (tI n)=Lib.decDigits n:=rfl
theorem OV(s:af):ar (gQ s)=bL s:=by unfold gQ;split<;>rfl
theorem kN(s:af)(L:List Pc):aM (pw s::L)=bL s++aM L:=rfl
theorem yQ(c:UInt8)(L:List Pc):aM (ps c::L)=c::aM L:=rfl
theorem j8(c:UInt8)(L:List Pc):aM (.inl c::L)=c::aM L:=rfl
theorem pG(t:Tok)(L:List Pc):aM (.inr t::L)=ar t++aM L:=rfl
theorem vW:aM []=[]:=rfl
theorem GV(u:List aq):bL (ua u)=[42].intercalate (u.map fun f=>bL (gH f)):=by
 show[42].intercalate ((u.map gH).map (·.data.toList))=_
 rw[Yw];rfl
theorem aa6(n:Int):bL (kJ n)=if n<0 then 45::Lib.decDigits n.natAbs else Lib.decDigits n.natAbs:=by
 unfold bL kJ
 by_cases h:n<0
 ·obtain⟨d,rfl⟩:∃ d:Nat,n= -(d:Int):=⟨n.natAbs,by omega⟩
  rw[if_pos h,Lib.itoa_neg d (by omega),Int.natAbs_neg,Int.natAbs_natCast]
 ·obtain⟨d,rfl⟩:∃ d:Nat,n=(d:Int):=⟨n.toNat,by omega⟩
  rw[if_neg h,Lib.itoa_nonneg,Int.natAbs_natCast]
theorem J5(f:aq):aM (cM (eM f))=bL (gH f):=by
 unfold eM gH
 by_cases h:f.exp=1
 ·rw[if_pos h,if_pos h]
  show bL f.name++[]=_
  rw[Zn]
 ·rw[if_neg h,if_neg h,eK,eK,aa6]
  by_cases h2:f.exp<0
  ·rw[if_pos h2,if_pos h2]
   show bL f.name++([94]++([45]++(Lib.decDigits f.exp.natAbs++[])))=bL f.name++([94]++_)
   simp
  ·rw[if_neg h2,if_neg h2]
   show bL f.name++([94]++(Lib.decDigits f.exp.natAbs++[]))=bL f.name++([94]++_)
   simp
theorem aaZ(a b:Bs)(l:List Bs):[42].intercalate (a::b::l)=a++42::[42].intercalate (b::l):=by simp[List.intercalate,List.intersperse]
theorem Ka:∀ l:List aq,aM (cM (eX l))=bL (ua l)
 |[]=>rfl
 |[f]=>by
  rw[GV]
  show aM (cM (eM f))=[42].intercalate [bL (gH f)]
  rw[J5];simp[List.intercalate]
 |f::g::l=>by
  have e:bL (ua (f::g::l))=bL (gH f)++42::bL (ua (g::l)):=by
   rw[GV,GV];exact aaZ _ _ _
  have e2:cM (eX (f::g::l))=cM (eM f)++(.inr (tS 42)::cM (eX (g::l))):=by simp[eX,cM]
  rw[e,e2,pF,J5]
  show _++([42]++aM (cM (eX (g::l))))=_
  rw[Ka (g::l)];rfl
theorem Cq(u:List aq):aM (fF u)=bL (kU u):=by
 unfold fF kU
 by_cases h:u=[]
 ·rw[if_pos h,if_pos h];rfl
 ·rw[if_neg h,if_neg h]
  have e:cM (pT u)= .inr (tS 91)::(cM (eX u)++[.inr (tS 93)]):=by simp[pT]
  rw[e]
  show 32::91::aM (cM (eX u)++[.inr (tS 93)])=_
  rw[pF,Ka,eK,eK];rfl
theorem yx(n:Int):bL (jg n)=Lib.decDigits n.toNat:=rfl
theorem acy{x:Ex}(hk:x.val.kind=1∨x.val.kind=2∨x.val.kind=3∨x.val.kind=4∨x.val.kind=5):aM (iJ x)=bL (pA x):=by
 unfold iJ pA
 by_cases k5:x.val.kind=5
 ·rw[if_pos k5,if_pos k5]
  simp only[eK,kN,yQ,j8,pG,vW,zD]
  show 64::(bL x.name++32::(34::(bL x.val.s++[34])++[]))=[64]++(bL x.name++([32,34]++(bL x.val.s++[34])))
  simp
 rw[if_neg k5,if_neg k5,eK]
 unfold ud
 by_cases k1:x.val.kind=1
 ·rw[if_pos k1,if_pos k1,kN,Cq]
 rw[if_neg k1,if_neg k1]
 by_cases k2:x.val.kind=2
 ·rw[if_pos k2,if_pos k2,pG,Cq,zC,yx]
 rw[if_neg k2,if_neg k2]
 by_cases k3:x.val.kind=3
 ·rw[if_pos k3,if_pos k3,pG,Cq,B9]
 have k4:x.val.kind=4:=by omega
 rw[if_neg k3,if_neg k3,if_pos k4,pG,Cq,zD,eK,eK]
 rfl
theorem FT{T:List Pc}{s:af}(h:aM T=bL s):aM (cB T)=bL (par s):=by
 unfold cB par
 rw[yQ,pF,h,eK,eK];rfl
theorem uK{x:Ex}{T:Nat→List Pc}{S:Nat→af}{i:Nat}{r:Int}(h:aM (T i)=bL (S i)):aM (fb x T i r)=bL (jx x S i r):=by
 unfold fb jx
 split
 ·exact FT h
 ·exact h
theorem PW(w:fq):aM (gA w)=bL (ug w):=by
 unfold gA ug
 split
 ·rw[eK,yx];simp only[kN,j8,pG,vW,zC,Zn];rfl
 split
 ·rw[eK,yx];simp only[kN,j8,pG,vW,zC,Zn];rfl
 split
 ·rw[eK,yx];simp only[kN,j8,pG,vW,zC,Zn];rfl
 ·rfl
theorem Tl{x:Ex}{T:Nat→List Pc}{S:Nat→af}(h0:aM (T 0)=bL (S 0))(h1:aM (T 1)=bL (S 1)):aM (pE x T)=bL (gq x S):=by
 unfold pE gq
 simp only[eK,kN,yQ,pF,PW]
 have e1:aM (if x.op=cZ then[]else ps 44::sp::T 0)=bL (if x.op=cZ then⟨#[]⟩else⟨#[44,32]⟩++S 0):=by
  split
  ·rfl
  ·rw[eK,← h0];rfl
 have e2:aM (if x.param=0 then[]else[ps 44,sp,.inr (tI x.param.toNat)])=bL (if x.param=0 then⟨#[]⟩else⟨#[44,32]⟩++jg x.param):=by
  split
  ·rfl
  ·rw[eK,yx,yQ,j8,pG,zC,vW,Zn];rfl
 have e3:aM (if x.args.getD 1 default=dD then[]else sp::pw eI::sp::T 1)=bL (if x.args.getD 1 default=dD then⟨#[]⟩else⟨#[32,119,104,101,114,101,32]⟩++S 1):=by
  split
  ·rfl
  ·rw[eK,← h1];rfl
 rw[e1,e2]
 show bL x.op++40::(bL x.table++(_++(_++(44::aM (sp::(gA x.win++(_++[ps 41])))))))=_
 rw[j8,pF,pF,PW,e3]
 rfl
theorem ayR{x:Ex}{T:Nat→List Pc}{S:Nat→af}(h0:aM (T 0)=bL (S 0)):aM (pH x T)=bL (tY x S):=by
 unfold pH tY
 split
 ·rw[yQ,uK h0,eK];rfl
 split
 ·rw[kN,j8,uK h0,eK];rfl
 ·rw[kN,FT h0,eK]
  unfold par
  rw[eK,eK];rfl
theorem TU{x:Ex}{T:Nat→List Pc}{S:Nat→af}(h0:aM (T 0)=bL (S 0))(h1:aM (T 1)=bL (S 1)):aM (tE x T)=bL (si x S):=by
 unfold tE si
 rw[pF,uK h0,j8,pG,OV,j8,uK h1]
 simp only[eK];rfl
theorem aaQ{T:Nat→List Pc}{S:Nat→af}{x:Ex}(h0:aM (T 0)=bL (S 0))(h1:aM (T 1)=bL (S 1))(h2:aM (T 2)=bL (S 2)):aM (tH T)=bL (td x S):=by
 unfold tH td
 simp only[kN,j8,pF,h0,h1,h2,eK];rfl
theorem Vh{x:Ex}{T:Nat→List Pc}{S:Nat→af}(h0:aM (T 0)=bL (S 0))(h1:aM (T 1)=bL (S 1)):aM (tG x T)=bL (sn x S):=by
 unfold tG sn
 rw[pF,uK h0,j8,kN,j8,uK h1]
 simp only[eK];rfl
theorem acA{x:Ex}(h:ji x):x.val.kind=1∨x.val.kind=2∨x.val.kind=3∨x.val.kind=4∨x.val.kind=5:=by
 have h3:=h.2.2.1
 unfold il at h3
 split at h3
 ·omega
 ·rename_i h4
  simp only at h4
  omega
theorem acY{x:Ex}{ins:Bool}(h:dC x ins)(hk:x.kind=1):ji x:=by
 unfold dC at h
 rwa [if_pos hk]at h
theorem NH(x:Ex):∀ ins,form ins x=true→aM (pc x)=bL (text x):=by
 induction x using Ex.ind with
 |h x ih=>
 intro ins hf
 have F:=lj.of hf
 have bO:∀ i,i<x.args.length→aM (dJ x i)=bL (tx x i):=fun i hi=>by
  rw[iK hi,zJ hi]
  exact ih _ (cW hi) _ (F.sub _ (cW hi))
 have hn:=F.nn
 rw[j9,Ch]
 unfold jk wF
 by_cases k1:x.kind=1
 ·rw[if_pos k1,if_pos k1];exact acy (acA (acY F.nb k1))
 rw[if_neg k1,if_neg k1]
 unfold fS at hn
 by_cases k4:x.kind=4
 ·rw[if_pos k4,if_pos k4]
  rw[if_pos (.inl k4)]at hn
  rw[kN,j8,kN,j8,FT (bO 0 (by omega))]
  unfold par
  simp only[eK];rfl
 rw[if_neg k4,if_neg k4]
 by_cases k5:x.kind=5
 ·rw[if_pos k5,if_pos k5]
  rw[if_neg (by omega),if_pos (.inl k5)]at hn
  exact Tl (bO 0 (by omega)) (bO 1 (by omega))
 rw[if_neg k5,if_neg k5]
 by_cases k6:x.kind=6
 ·rw[if_pos k6,if_pos k6]
  rw[if_pos (.inr k6)]at hn
  exact ayR (bO 0 (by omega))
 rw[if_neg k6,if_neg k6]
 by_cases k7:x.kind=7
 ·rw[if_pos k7,if_pos k7]
  rw[if_neg (by omega),if_pos (.inr (.inl k7))]at hn
  exact TU (bO 0 (by omega)) (bO 1 (by omega))
 rw[if_neg k7,if_neg k7]
 by_cases k8:x.kind=8
 ·rw[if_pos k8,if_pos k8]
  rw[if_neg (by omega),if_neg (by omega),if_pos k8]at hn
  exact aaQ (bO 0 (by omega)) (bO 1 (by omega)) (bO 2 (by omega))
 rw[if_neg k8,if_neg k8]
 by_cases k9:x.kind=9
 ·rw[if_pos k9,if_pos k9]
  rw[if_neg (by omega),if_pos (.inr (.inr k9))]at hn
  exact Vh (bO 0 (by omega)) (bO 1 (by omega))
 rw[if_neg k9,if_neg k9,kN,vW,Zn]
set_option linter.unusedSectionVars false
structure Fl(r:Bs):Prop where
 w:km ey r
 dot:r.head?≠some 46
theorem Fl.cons{c:UInt8}{r:Bs}(h:ey c=false)(h2:c≠46):Fl (c::r):=⟨.inr ⟨c,r,rfl,h⟩,fun e=>h2 (Zf e)⟩
theorem Fl.nil:Fl []:=⟨.inl rfl,by simp⟩
theorem Fl.d{r:Bs}(h:Fl r):km aO r:=by
 rcases h.w with h1|⟨x,t,h1,h2⟩
 ·exact .inl h1
 ·refine .inr ⟨x,t,h1,?_⟩
  unfold ey at h2
  unfold aO
  simp only[decide_eq_false_iff_not]at h2 ⊢
  exact fun e=>h2 (.inr (.inl e))
theorem Co{t:Ty}(h:il t=0):(1≤t.kind∧t.kind≤5)∧(t.unit≠[]→Num t)∧(t.kind=5→Name t.of)∧(t.kind≠5→t.of=⟨#[]⟩)∧(∀ f∈t.unit,Name f.name)∧gS t.unit=0:=by
 unfold il at h
 split at h
 ·omega
 ·split at h
  ·omega
  ·refine⟨by omega,by grind,by grind,by grind,by grind,by grind⟩
theorem Cu{v:ek}(h:kW v=0):mq v∧v.n≤1152921504606846976∧(v.kind=4→v.s.size≤64∧jP v.s 32)∧(v.kind=5→1≤v.s.size∧v.s.size≤32∧jP v.s 33):=by
 unfold kW at h
 split at h
 ·omega
 ·split at h
  ·omega
  ·split at h
   ·omega
   ·rename_i h1 h2 h3
    refine⟨by grind,by omega,fun h4=>⟨by omega,by grind⟩,fun h5=>⟨?_,by omega,by grind⟩⟩
    have:¬v.s=⟨#[]⟩:=fun e=>h3 (.inr ⟨h5,.inl e⟩)
    have h0:v.s.size≠0:=fun e=>this (tR.1 e)
    omega
theorem NT{s:af}{low:Nat}(h:jP s low)(hl:32≤low):∀ c∈bL s,(c != 34 && c != 10)=true∧¬(c.toNat<32∨c.toNat>126∨c=92)∧low≤c.toNat:=fun c hc=>by
 have:=IY (P:=fun b=>pr low b) h c hc
 unfold pr at this
 have h1:c≠34:=fun e=>this.2.2.1 (by rw[e];rfl)
 have h2:c≠10:=fun e=>by rw[e]at this;have:=this.1;simp at this;omega
 have h3:c≠92:=fun e=>this.2.2.2 (by rw[e];rfl)
 refine⟨by simp[h1,h2],?_,this.1⟩
 rintro(k|k|k)
 ·omega
 ·omega
 ·exact h3 k
theorem O5{s:af}{low:Nat}(h:jP s low)(hl:32≤low)(hs:s.size≤64)(r:Bs):oL (tT s) r:=by
 have ha:=NT h hl
 refine⟨(show(1:Int)≤4∧(4:Int)≤5 by decide),by rw[zD];simp,?_⟩
 rw[zD]
 have:=F0 (r:=r) (W:=bL s) fun x hx=>(ha x hx).1
 have e:(34::(bL s++[34]))++r=34::(bL s++34::r):=by simp
 rw[e,this]
 have hu:tZ (bL s)=0:=by
  unfold tZ
  rw[if_neg (show¬(bL s).length>64 by show¬s.size>64;omega),if_neg (fun⟨c,hc,k⟩=>(ha c hc).2.1 k)]
 rw[hu]
 simp[tT]
theorem MS:∀ (k x:Nat),∀ c∈dS k x,dG c.toNat
 |0,x,c,hc=>by cases hc
 |k+1,x,c,hc=>by
  rw[dS]at hc
  rcases Zm.1 hc with hc|hc
  ·exact MS k _ c hc
  ·rw[Y3.1 hc,v7 (by omega)];unfold dG;omega
theorem Ng:∀ (k x:Nat) (l:Bs),ei (l++dS k x) 0=ei l 0 * 10 ^ k+x % 10 ^ k
 |0,x,l=>by simp[dS,Nat.mod_one]
 |k+1,x,l=>by
  rw[dS,← ZA,FF,Ng k (x / 10) l,v7 (by omega)]
  have h1:x % 10 ^ (k+1)=x % 10+10 * (x / 10 % 10 ^ k):=by rw[Nat.pow_succ,YC (10 ^ k),Nat.mod_mul]
  rw[h1,Nat.pow_succ]
  have:10 * (ei l 0 * 10 ^ k+x / 10 % 10 ^ k)=ei l 0 * (10 ^ k * 10)+10 * (x / 10 % 10 ^ k):=by
   rw[Nat.mul_add,← Nat.mul_assoc,YC 10 (ei l 0),Nat.mul_assoc,YC 10]
  omega
theorem AD(n:Nat):bL (gY n)=Lib.decDigits (n / 10 ^ 6)++46::dS 6 n:=by simp[bL,gY]
theorem Jz(n:Nat):((bL (gY n)).takeWhile fun b=>b != 46)=Lib.decDigits (n / 10 ^ 6)∧((bL (gY n)).dropWhile fun b=>b != 46).drop 1=dS 6 n:=by
 have hd:=(Ga (n / 10 ^ 6)).2
 have h1:∀ c∈Lib.decDigits (n / 10 ^ 6),(c != 46)=true:=fun c hc=>by
  have:=hd c hc
  unfold dG at this
  rw[bne_iff_ne]
  rintro rfl
  revert this;decide
 rw[AD]
 have e1:∀ l:Bs,(∀ c∈l,(c != 46)=true)→((l++46::dS 6 n).takeWhile fun b=>b != 46)=l∧((l++46::dS 6 n).dropWhile fun b=>b != 46)=46::dS 6 n:=fun l=>by
  induction l with
  |nil=>intro _;exact⟨rfl,rfl⟩
  |cons c l ih=>
   intro h
   obtain⟨i1,i2⟩:=ih fun x hx=>h x (ZX _ hx)
   have hc:=h c ZU
   simp only[ZD,ZG,List.dropWhile_cons,hc,Y7,i1,i2]
   exact⟨trivial,trivial⟩
 obtain⟨a,b⟩:=e1 _ h1
 exact⟨a,by rw[b];rfl⟩
theorem JE(n:Nat):ei (Lib.decDigits (n / 10 ^ 6)++dS 6 n) 0=n:=by
 rw[Ng,BH];exact Nat.div_add_mod' n (10 ^ 6)
theorem Va(n:Nat):nE (gY n)=n:=by
 obtain⟨h1,h2⟩:=Jz n
 unfold nE
 simp only
 show(ei (((bL (gY n)).takeWhile fun b=>b != 46)++((bL (gY n)).dropWhile fun b=>b != 46).drop 1) 0:Int) * 10 ^ (6-(((bL (gY n)).dropWhile fun b=>b != 46).drop 1).length)=_
 rw[h1,h2,JE,oo];simp
theorem ayo{n:Nat}(hn:n≤1152921504606846976){r:Bs}(hr:Fl r):oL (tD n) r:=by
 obtain⟨q1,q2⟩:=Ga (n / 10 ^ 6)
 obtain⟨h1,h2⟩:=Jz n
 have hE:jV (bL (gY n))=0:=by
  unfold jV
  simp only
  rw[h1,h2,JE,oo,if_neg (by decide),if_neg (by omega)]
 refine⟨(show(1:Int)≤3∧(3:Int)≤5 by decide),by rw[B9,AD];simp,?_⟩
 rw[B9]
 have hb:=AD n
 have hV:∀ x∈dS 6 n,aO x=true:=fun x hx=>Zi (xw (MS 6 n x hx))
 have hv:dS 6 n≠[]:=by intro e;have:=oo 6 n;rw[e]at this;cases this
 cases e:Lib.decDigits (n / 10 ^ 6)with
 |nil=>exact absurd e q1
 |cons c W=>
  rw[e]at hb q2
  have hW:∀ x∈c::W,aO x=true:=fun x hx=>Zi (xw (q2 x hx))
  have:=FV (r:=r) (xw (q2 c ZU)) hW hV hv hr.d
  have e2:bL (gY n)++r=c::(W++46::(dS 6 n++r)):=by rw[hb];simp
  rw[e2,this]
  have e3:c::(W++46::dS 6 n)=bL (gY n):=by rw[hb];rfl
  rw[e3,hE,hb]
  simp[tD];omega
theorem ayp:∀ s∈iC,∀ t:Bs,oL (gQ s) (32::t):=by
 intro s hs t
 have hf:Fl (32::t):= .cons (by decide) (by decide)
 have one:∀ c:UInt8,aC c=7→oL (tS c) (32::t):=fun c hc=>wB hc fun⟨_,h⟩=>absurd (Zf h) (by decide)
 have two:∀ c:UInt8,(aC c=7∨aC c=8)→(c=61∨c=33∨c=60)→oL (tO ⟨#[c,61]⟩) (32::t):=fun c h1 h2=>⟨(show(1:Int)≤5∧(5:Int)≤5 by decide),by rw[ayd];simp[bL],by
  show ax (c::61::32::t)=_
  rw[F1 _ h1 h2];rfl⟩
 simp only[iC,ZV,Yj,or_false]at hs
 rcases hs with rfl|rfl|rfl|rfl|rfl|rfl|rfl|rfl|rfl|rfl
 ·exact one 43 (by decide)
 ·exact one 45 (by decide)
 ·exact one 42 (by decide)
 ·exact one 47 (by decide)
 ·exact two 61 (by decide) (by decide)
 ·exact two 33 (by decide) (by decide)
 ·exact one 60 (by decide)
 ·exact two 60 (by decide) (by decide)
 ·exact wC (by decide) hf.w
 ·exact wC (by decide) hf.w
set_option linter.unusedSectionVars false
section
variable {R:List Pc}
theorem fU(h:cq R):cq (sp::R):=⟨by decide,h⟩
theorem az4:Fl (aM (sp::R)):= .cons (by decide) (by decide)
theorem ie{s:af}(hs:Word s)(hf:Fl (aM R))(h:cq R):cq (pw s::R):=⟨wC hs hf.w,h⟩
theorem mT{c:UInt8}(hc:aC c=7)(hn:¬(c=61∨c=60))(h:cq R):cq (ps c::R):=⟨wB hc (ng hn),h⟩
theorem yL{n:Nat}(hn:n≤1152921504606846976)(hf:Fl (aM R))(h:cq R):cq (.inr (tI n)::R):=⟨Gy hn hf.d hf.dot,h⟩
theorem sw{c:UInt8}(hc:aC c=7):Fl (aM (ps c::R)):=by
 have h:Fl (c::aM R):= .cons (by unfold ey;simp[hc]) (fun e=>by subst e;revert hc;decide)
 exact h
theorem ade{u:List aq}(hu:∀ f∈u,Word f.name∧f.exp.natAbs≤1152921504606846976)(h:cq R):cq (fF u++R):=by
 unfold fF
 split
 ·exact h
 ·have e:(sp::cM (pT u))++R=sp::(ps 91::(cM (eX u)++ps 93::R)):=by simp[pT]
  rw[e]
  exact fU (mT (by decide) (by decide) (Kd hu (mT (by decide) (by decide) h) ⟨93,_,rfl,by decide⟩))
theorem Wy{u:List aq}(h:Fl (aM R)):Fl (aM (fF u++R)):=by
 unfold fF
 split
 ·exact h
 ·exact az4
theorem ayZ{u:List aq}(hN:∀ f∈u,Name f.name)(hE:gS u=0):∀ f∈u,Word f.name∧f.exp.natAbs≤1152921504606846976:=fun f hf=>by
 have:=(Cr hE).2 f hf
 unfold gn at this
 exact⟨(hN f hf).1,by omega⟩
theorem adb{x:Ex}(hx:ji x)(hf:Fl (aM R))(h:cq R):cq (iJ x++R):=by
 obtain⟨h1,h2,h3,h4⟩:=hx
 obtain⟨v1,v2,v3,v4⟩:=Cu h1
 obtain⟨t1,t2,t3,t4,t5,t6⟩:=Co h3
 simp only at t1 t2 t3 t4 t5 t6
 have hu:=ade (R:=R) (ayZ t5 t6) h
 have vj:=Wy (u:=x.unit) hf
 unfold iJ
 by_cases k5:x.val.kind=5
 ·rw[if_pos k5]
  obtain⟨q1,q2,q3⟩:=v4 k5
  exact mT (by decide) (by decide) (ie (t3 k5).1 az4 (fU ⟨O5 q3 (by decide) (by omega) _,h⟩))
 rw[if_neg k5]
 by_cases k1:x.val.kind=1
 ·rw[if_pos k1]
  refine ie ?_ vj hu
  unfold ga
  split<;>decide
 rw[if_neg k1]
 by_cases k2:x.val.kind=2
 ·rw[if_pos k2]
  exact yL (by omega) vj hu
 rw[if_neg k2]
 by_cases k3:x.val.kind=3
 ·rw[if_pos k3]
  exact⟨ayo (by omega) vj,hu⟩
 rw[if_neg k3]
 obtain⟨q1,q2⟩:=v3 (by omega)
 exact⟨O5 q2 (by decide) q1 _,hu⟩
theorem FJ{T:List Pc}(hT:∀ R,Fl (aM R)→cq R→cq (T++R))(h:cq R):cq (cB T++R):=by
 have e:cB T++R=ps 40::(T++ps 41::R):=by simp[cB]
 rw[e]
 exact mT (by decide) (by decide) (hT _ (sw (by decide)) (mT (by decide) (by decide) h))
theorem aBR{x:Ex}{T:Nat→List Pc}{i:Nat}{r:Int}(hT:∀ R,Fl (aM R)→cq R→cq (T i++R))(hf:Fl (aM R))(h:cq R):cq (fb x T i r++R):=by
 unfold fb
 split
 ·exact FJ hT h
 ·exact hT R hf h
theorem adf{w:fq}(hw:iN w)(hf:Fl (aM R))(h:cq R):cq (gA w++R):=by
 unfold iN at hw
 unfold gA
 split
 ·exact ie (by decide) az4 (fU (yL (by omega) hf h))
 split
 ·exact ie (by decide) az4 (fU (yL (by omega) hf h))
 split
 ·exact ie (by decide) az4 (fU (yL (by omega) hf h))
 ·exact ie (by decide) hf h
theorem Tr:∀ y∈jv,Word y:=by decide
theorem ada{x:Ex}(hx:az6 x){T:Nat→List Pc}(h0:∀ R,Fl (aM R)→cq R→cq (T 0++R))(h1:∀ R,Fl (aM R)→cq R→cq (T 1++R))(h:cq R):cq (pE x T++R):=by
 obtain⟨⟨y,hy,bT⟩,hN,hw,hp,_⟩:=hx
 have ET:x.param.toNat≤1152921504606846976:=by
  unfold kM at hp
  split at hp
  ·omega
  ·split at hp<;>omega
 have KE:cq (ps 41::R):=mT (by decide) (by decide) h
 have OA:Fl (aM (ps 41::R)):=sw (by decide)
 have e:pE x T++R=pw x.op::ps 40::pw x.table::((if x.op=cZ then[]else ps 44::sp::T 0)++((if x.param=0 then[]else[ps 44,sp,.inr (tI x.param.toNat)])
  ++(ps 44::sp::(gA x.win++((if x.args.getD 1 default=dD then[]else sp::pw eI::sp::T 1)++ps 41::R))))):=by simp[pE]
 have w1:cq ((if x.args.getD 1 default=dD then[]else sp::pw eI::sp::T 1)++ps 41::R)∧Fl (aM ((if x.args.getD 1 default=dD then[]else sp::pw eI::sp::T 1)++ps 41::R)):=by
  split
  ·exact⟨KE,OA⟩
  ·exact⟨fU (ie (by decide) az4 (fU (h1 _ OA KE))),az4⟩
 have w2:cq (ps 44::sp::(gA x.win++((if x.args.getD 1 default=dD then[]else sp::pw eI::sp::T 1)++ps 41::R))):=mT (by decide) (by decide) (fU (adf hw w1.2 w1.1))
 have f2:Fl (aM (ps 44::sp::(gA x.win++((if x.args.getD 1 default=dD then[]else sp::pw eI::sp::T 1)++ps 41::R)))):=sw (by decide)
 rw[e]
 generalize (ps 44::sp::(gA x.win++((if x.args.getD 1 default=dD then[]else sp::pw eI::sp::T 1)++ps 41::R)))=Q at w2 f2
 have w3:cq ((if x.param=0 then[]else[ps 44,sp,.inr (tI x.param.toNat)])++Q)∧Fl (aM ((if x.param=0 then[]else[ps 44,sp,.inr (tI x.param.toNat)])++Q)):=by
  split
  ·exact⟨w2,f2⟩
  ·exact⟨mT (by decide) (by decide) (fU (yL ET f2 w2)),sw (by decide)⟩
 generalize ((if x.param=0 then[]else[ps 44,sp,.inr (tI x.param.toNat)])++Q)=Q2 at w3
 have w4:cq ((if x.op=cZ then[]else ps 44::sp::T 0)++Q2)∧Fl (aM ((if x.op=cZ then[]else ps 44::sp::T 0)++Q2)):=by
  split
  ·exact w3
  ·exact⟨mT (by decide) (by decide) (fU (h0 _ w3.2 w3.1)),sw (by decide)⟩
 exact ie (bT ▸ Tr y hy) (sw (by decide)) (mT (by decide) (by decide) (ie hN.1 w4.2 w4.1))
end
theorem NI(x:Ex):∀ ins,form ins x=true→∀ R,Fl (aM R)→cq R→cq (pc x++R):=by
 induction x using Ex.ind with
 |h x ih=>
 intro ins hf R hR hok
 have F:=lj.of hf
 have bO:∀ i,i<x.args.length→∀ R,Fl (aM R)→cq R→cq (dJ x i++R):=fun i hi R h1 h2=>by
  rw[iK hi]
  exact ih _ (cW hi) _ (F.sub _ (cW hi)) R h1 h2
 have hn:=F.nn
 have hb:=F.nb
 rw[j9]
 unfold jk
 unfold dC at hb
 by_cases k1:x.kind=1
 ·rw[if_pos k1]at hb ⊢;exact adb hb hR hok
 rw[if_neg k1]at hb ⊢
 unfold fS at hn
 by_cases k4:x.kind=4
 ·rw[if_pos k4]
  rw[if_neg (by omega),if_pos (.inr k4)]at hb
  rw[if_pos (.inl k4)]at hn
  exact ie hb.2.1.1 az4 (fU (ie (by decide) az4 (fU (FJ (bO 0 (by omega)) hok))))
 rw[if_neg k4]
 by_cases k5:x.kind=5
 ·rw[if_pos k5]
  rw[if_neg (by omega),if_neg (by omega),if_pos k5]at hb
  rw[if_neg (by omega),if_pos (.inl k5)]at hn
  exact ada hb.2 (bO 0 (by omega)) (bO 1 (by omega)) hok
 rw[if_neg k5]
 by_cases k6:x.kind=6
 ·rw[if_pos k6]
  rw[if_pos (.inr k6)]at hn
  unfold pH
  split
  ·exact mT (by decide) (by decide) (aBR (bO 0 (by omega)) hR hok)
  split
  ·exact ie (by decide) az4 (fU (aBR (bO 0 (by omega)) hR hok))
  ·exact ie (by decide) (sw (by decide)) (FJ (bO 0 (by omega)) hok)
 rw[if_neg k6]
 by_cases k7:x.kind=7
 ·rw[if_pos k7]
  rw[if_neg (by omega),if_neg (by omega),if_neg (by omega),if_neg (by omega),if_pos k7]at hb
  rw[if_neg (by omega),if_pos (.inr (.inl k7))]at hn
  obtain⟨_,y,hy,bT⟩:=hb
  have e:tE x (dJ x)++R=fb x (dJ x) 0 (iI x)++(sp:: .inr (gQ x.op)::sp::(fb x (dJ x) 1 (aK x+1)++R)):=by simp[tE]
  rw[e]
  exact aBR (bO 0 (by omega)) az4 (fU ⟨ayp _ (bT ▸ hy) _,fU (aBR (bO 1 (by omega)) hR hok)⟩)
 rw[if_neg k7]
 by_cases k8:x.kind=8
 ·rw[if_pos k8]
  rw[if_neg (by omega),if_neg (by omega),if_pos k8]at hn
  have e:tH (dJ x)++R=pw eR::sp::(dJ x 0++(sp::pw jo::sp::(dJ x 1++(sp::pw fI::sp::(dJ x 2++R))))):=by simp[tH]
  rw[e]
  exact ie (by decide) az4 (fU (bO 0 (by omega) _ az4 (fU (ie (by decide) az4 (fU (bO 1 (by omega) _ az4 (fU (ie (by decide) az4 (fU (bO 2 (by omega) _ hR hok))))))))))
 rw[if_neg k8]
 by_cases k9:x.kind=9
 ·rw[if_pos k9]
  rw[if_neg (by omega),if_pos (.inr (.inr k9))]at hn
  have e:tG x (dJ x)++R=fb x (dJ x) 0 1++(sp::pw fY::sp::(fb x (dJ x) 1 2++R)):=by simp[tG]
  rw[e]
  exact aBR (bO 0 (by omega)) az4 (fU (ie (by decide) az4 (fU (aBR (bO 1 (by omega)) hR hok))))
 rw[if_neg k9]
 have hN:Word x.name:=by
  by_cases k2:x.kind=2
  ·rw[if_pos k2]at hb;exact hb.2.1.1
  ·rw[if_neg k2]at hb
   by_cases k3:x.kind=3
   ·rw[if_pos (.inl k3)]at hb;exact hb.2.1.1
   ·rw[if_neg (by omega),if_neg k5,if_neg k6,if_neg k7,if_neg (by omega)]at hb;exact hb.elim
 exact ie hN hR hok
set_option linter.unusedSectionVars false
theorem eW:∀ (L:List Pc) (p:Int),ck (ak p L)∧(ak p L).length≤L.length+1
 |[],p=>⟨⟨[],_,rfl,rfl⟩,ZI _⟩
 | .inl b::L,p=>by
  obtain⟨h1,h2⟩:=eW L (p+1)
  exact⟨h1,by show(ak (p+1) L).length≤_;rw[Z9];omega⟩
 | .inr t::L,p=>by
  obtain⟨⟨M,e,h1,h3⟩,h2⟩:=eW L (p+(ar t).length)
  refine⟨⟨⟨t.kind,t.text,p⟩::M,e,?_,h3⟩,?_⟩
  ·show _::ak _ L=_
   rw[h1];rfl
  ·show(_::ak _ L).length≤_
   rw[Z9,Z9];omega
theorem xY:∀ (L:List Pc) (p q:Int),(hd (ak p L)).kind=(hd (ak q L)).kind∧(hd (ak p L)).text=(hd (ak q L)).text
 |[],p,q=>⟨rfl,rfl⟩
 | .inl b::L,p,q=>xY L (p+1) (q+1)
 | .inr t::L,p,q=>⟨rfl,rfl⟩
theorem ij(k:Int)(s:af)(L:List Pc)(p:Int):au k s (ak p L)=au k s (ak 0 L):=by
 unfold au
 rw[(xY L p 0).1,(xY L p 0).2]
theorem N8(L:List Pc)(p:Int):bo (ak p L)=bo (ak 0 L):=by
 unfold bo
 simp only
 rw[(xY L p 0).1,(xY L p 0).2]
abbrev rk(R:List Pc):Nat:=bo (ak 0 R)
structure Fo(R:List Pc):Prop where
 unit:au 5 (ch 91) (ak 0 R)=false
 of:au 1 gj (ak 0 R)=false
abbrev df(R:List Pc):Bool:=au 1 fY (ak 0 R)
section
variable {i:Bool}{L:List Tok}
theorem DM(h:ck L)(hl:L.length≤100000):bD N0 i L=if au 1 eR L then(bD N0 i L.tail).bind fun a L1=>(py jo L1).bind fun _ L2=>(bD N0 i L2).bind fun b L3=>(py fI L3).bind fun _ L4=>(bD N0 i L4).bind fun c L5=> .ok (.mk 8 ⟨#[]⟩ ⟨#[]⟩ ⟨#[]⟩ v0 [] 0 w0 [a,b,c]) L5
  else(dN N0 1 i L).bind fun x L1=>dZ N0 i x L1:=
 ((jY N0 (N0+1)).expr i L h (by show _≤1000000;omega) (by show _≤1000001;omega)).trans (by rw[bD])
theorem JG{x:Ex}(h:ck L)(hl:L.length≤100000):dZ N0 i x L=if au 1 fY L then(dN N0 1 i L.tail).bind fun y L1=>dZ N0 i (.mk 9 ⟨#[]⟩ ⟨#[]⟩ ⟨#[]⟩ v0 [] 0 w0 [x,y]) L1 else .ok x L:=
 ((jY N0 (N0+1)).lz i x L h (by show _≤1000000;omega) (by show _≤1000001;omega)).trans (by rw[dZ])
theorem IV{l:Nat}(h:ck L)(hl:L.length≤100000):dN N0 l i L=(eC N0 l i L).bind fun x L1=>eg N0 l (if decide (l≤3) && au 1 cE L then 2 else 7) i x L1:=
 ((jY N0 (N0+1)).bin l i L h (by show _≤1000000;omega) (by show _≤1000001;omega)).trans (by rw[dN])
theorem Nv{l m:Nat}{x:Ex}(h:ck L)(hl:L.length≤100000):eg N0 l m i x L=if bo L≥l∧bo L≠0∧bo L≤m then(dN N0 (bo L+1) i L.tail).bind fun y L1=>eg N0 l (if bo L=4 then 3 else bo L) i (oP (hd L).text x y) L1 else .ok x L:=
 ((jY N0 (N0+1)).ops l m i x L h (by show _≤1000000;omega) (by show _≤1000001;omega)).trans (by rw[eg])
theorem FP{l:Nat}(h:ck L)(hl:L.length≤100000):eC N0 l i L=if decide (l≤3) && au 1 cE L then(dN N0 3 i L.tail).map (kS cE)else if au 5 (ch 45) L then(eC N0 7 i L.tail).map (kS (ch 45))else fi N0 i L:=
 ((jY N0 (N0+1)).operand l i L h (by show _≤1000000;omega) (by show _≤1000001;omega)).trans (by rw[eC])
theorem F7(h:ck L)(hl:L.length≤100000):fi N0 i L=if(hd L).kind=2 then(az2 L).bind fun k L1=>(iq L1).map fun u=>jh ⟨2,k,⟨#[]⟩⟩ u ⟨#[]⟩
  else if(hd L).kind=3 then(dM 3 L).bind fun t L1=>(iq L1).map fun u=>jh ⟨3,nE t.text,⟨#[]⟩⟩ u ⟨#[]⟩
  else if(hd L).kind=4 then(dM 4 L).map fun t=>jh ⟨4,0,t.text⟩ [] ⟨#[]⟩
  else if(hd L).kind=1 then fJ N0 i L
  else if au 5 (ch 64) L then px L.tail else aJf N0 i L:=
 ((jY N0 (N0+1)).mU i L h (by show _≤1000000;omega) (by show _≤1000001;omega)).trans (by rw[fi])
theorem WW(h:ck L)(hl:L.length≤100000):aJf N0 i L=(dt (ch 40) L).bind fun _ L1=>(bD N0 i L1).bind fun x L2=>(dt (ch 41) L2).map fun _=>x:=
 ((jY N0 (N0+1)).group i L h (by show _≤1000000;omega) (by show _≤1000001;omega)).trans (by rw[aJf])
theorem zU(h:ck L)(hk:(hd L).kind≠6)(hl:L.length≤100000):fJ N0 i L=if(hd L).text=uf∨(hd L).text=zS then .ok (gB (if(hd L).text=uf then 1 else 0)) L.tail
  else if(hd L).text=iw then(aJf N0 i L.tail).map (kS iw)
  else if(hd L).text∈jv∧i=false then gC N0 (hd L).text L.tail
  else(fh L).bind fun s L1=>if i=true then .ok (kK 2 s []) L1
   else if au 1 gj L1 then(aJf N0 i L1.tail).map fun x=>kK 4 s [x]else .ok (kK 3 s []) L1:=
 ((jY N0 (N0+1)).word i L h hk (by show _≤1000000;omega) (by show _≤1000001;omega)).trans (by rw[fJ])
theorem Tq{op:af}(h:ck L)(hl:L.length≤100000):gC N0 op L=(dt (ch 40) L).bind fun _ L1=>(fh L1).bind fun tb L2=>(dt (ch 44) L2).bind fun _ L3=>
  (if op≠wN then(bD N0 true L3).bind fun x L4=>(dt (ch 44) L4).map fun _=>x else .ok (gB 1) L3).bind fun a L5=>
  (if op=rL∨op=rK then(az2 L5).bind fun k L6=>(dt (ch 44) L6).map fun _=>k else .ok 0 L5).bind fun p L7=>
  (rM L7).bind fun w L8=>(if au 1 eI L8 then bD N0 true L8.tail else .ok (gB 1) L8).bind fun c L9=>
  (dt (ch 41) L9).map fun _=> .mk 5 op ⟨#[]⟩ tb v0 [] p w [a,c]:=
 ((jY N0 (N0+1)).agg op L h (by show _≤1000000;omega) (by show _≤1000001;omega)).trans (by rw[gC])
end
theorem ac2{u:List aq}(h:gS u=0):gz u=(u,0):=by
 obtain⟨hl,_⟩:=Cr h
 have hL:im none u=0:=by
  unfold gS at h
  rwa [if_neg (by omega)]at h
 have key:∀ (u:List aq) (p:Option af),im p u=0→(nu (u.map aq.name)∧∀ f∈u,f.exp≠0∧-8≤f.exp∧f.exp≤8)∧∀ q,p=some q→∀ f∈u,iL q f.name=true:=fun u=>by
  induction u with
  |nil=>intro p _;exact⟨⟨OW,by simp⟩,by simp⟩
  |cons f u ih=>
   intro p hp
   rw[im]at hp
   split at hp
   ·rename_i h0
    obtain⟨⟨i1,i2⟩,i3⟩:=ih _ hp
    have hf:(f.exp≠0∧-8≤f.exp∧f.exp≤8)∧∀ q,p=some q→iL q f.name=true:=by
     unfold jW at h0
     split at h0
     ·cases h0
     ·split at h0
      ·cases h0
      ·rename_i h1 h2
       refine⟨by omega,fun q hq=> ?_⟩
       subst hq
       simp only at h0
       split at h0
       ·cases h0
       ·rename_i h3
        unfold vH at h3
        simp only[Zl,ZB,not_or,Yt]at h3
        by_cases e:iL q f.name=true
        ·exact e
        ·exact absurd (OC h3.1 (by simpa using e)) h3.2
    refine⟨⟨Yd.2 ⟨fun x hx=> ?_,i1⟩,fun g hg=> ?_⟩,fun q hq g hg=> ?_⟩
    ·obtain⟨g,hg,rfl⟩:=YS.1 hx
     exact i3 f.name rfl g hg
    ·rcases ZV.1 hg with rfl|hg
     ·exact hf.1
     ·exact i2 g hg
    ·rcases ZV.1 hg with rfl|hg
     ·exact hf.2 q hq
     ·exact Gm (hf.2 q hq) (i3 f.name rfl g hg)
   ·rename_i h0;exact absurd hp h0
 obtain⟨⟨hs,hb⟩,_⟩:=key u none hL
 have E2:jm (u.map aq.name)=u.map aq.name:=Ca (wy _) hs fun x=>wx
 have K9:∀ f∈u,eL u f.name=f.exp:=fun f hf=>by
  have hnd:=OX hs
  have:∀ l:List aq,(l.map aq.name).Nodup→f∈l→((l.filter fun g=>decide (g.name=f.name)).map aq.exp).sum=f.exp:=fun l=>by
   induction l with
   |nil=>intro _ h;cases h
   |cons g l ih=>
    intro hn hm
    simp only[ZH,YF]at hn
    by_cases e:g.name=f.name
    ·have hg:g=f:=by
      rcases ZV.1 hm with rfl|hm
      ·rfl
      ·exact absurd (YS.2 ⟨f,hm,e.symm⟩) hn.1
     subst hg
     have fA:l.filter (fun x=>decide (x.name=g.name))=[]:=by
      rw[Yv]
      intro x hx
      simp only[ZB]
      exact fun e2=>hn.1 (YS.2 ⟨x,hx,e2⟩)
     rw[List.filter_cons_of_pos (by simp),fA]
     simp
    ·rw[List.filter_cons_of_neg (by simpa using e)]
     rcases ZV.1 hm with rfl|hm
     ·exact absurd rfl e
     ·exact ih hn.2 hm
  exact this u hnd hf
 have aat:((u.map aq.name).map fun n=>(⟨n,eL u n⟩:aq))=u:=by
  rw[Yw]
  conv=>rhs;rw[← List.map_id u]
  refine List.map_congr_left fun f hf=> ?_
  show(⟨f.name,eL u f.name⟩:aq)=f
  rw[K9 f hf]
 have aag:(u.filter fun f=>decide (f.exp≠0))=u:=List.filter_eq_self.2 fun f hf=>by simpa using(hb f hf).1
 unfold gz
 simp only
 rw[E2,if_neg,aat,aag,if_neg (by omega)]
 rintro⟨n,hn,k⟩
 obtain⟨f,hf,rfl⟩:=YS.1 hn
 rw[K9 f hf]at k
 have:=(hb f hf).2
 omega
theorem PC{u:List aq}(hN:∀ f∈u,Name f.name)(hE:gS u=0){R:List Pc}(hf:Fo R)(p:Int):∃ q,iq (ak p (fF u++R))= .ok u (ak q R):=by
 unfold fF
 by_cases h:u=[]
 ·subst h
  refine⟨p,?_⟩
  rw[if_pos rfl,Ze]
  unfold iq
  rw[ij,hf.unit,if_neg (by decide)]
 ·rw[if_neg h]
  have hb:=(Cr hE)
  obtain⟨q,hq⟩:=ayY u h (fun f hf=>⟨hN f hf,by have:=hb.2 f hf;unfold gn at this;omega⟩) (by omega) R (p+1)
  rw[ac2 hE]at hq
  exact⟨q,hq⟩
set_option linter.unusedSectionVars false
section
variable {Z R:List Pc}{p:Int}{i:Bool}{s:af}{c:UInt8}{n:Nat}{x:Ex}{T:List Pc}
theorem ln(h:Z.length≤90000)(p:Int):(ak p Z).length≤100000:=by have:=(eW Z p).2;omega
theorem tP:dt (ch c) (ak p (ps c::Z))= .ok () (ak (p+1) Z):=by
 show(if au 5 (ch c) (⟨5,ch c,p⟩::ak (p+((ar (tS c)).length:Int)) Z)=true then _ else _)=_
 rw[if_pos (by simp[Gp])];rfl
theorem Fv:∃ q,py s (ak p (pw s::Z))= .ok () (ak q Z):=by
 refine⟨p+((ar (tW s)).length:Int),?_⟩
 show(if au 1 s (⟨1,s,p⟩::ak (p+((ar (tW s)).length:Int)) Z)=true then _ else _)=_
 rw[if_pos (by simp[Gp])];rfl
theorem BD(h:Name s):∃ q,fh (ak p (pw s::Z))= .ok s (ak q Z):=by
 refine⟨p+((ar (tW s)).length:Int),?_⟩
 show fh (⟨1,s,p⟩::ak (p+((ar (tW s)).length:Int)) Z)=_
 unfold fh
 exact(if_neg (show¬¬Name s from fun k=>k h)).trans rfl
theorem yI:∃ q,az2 (ak p (.inr (tI n)::Z))= .ok (n:Int) (ak q Z):=by
 refine⟨p+((ar (tI n)).length:Int),?_⟩
 have:tC (tI n).text=(n:Int):=by
  show((ei (Lib.decDigits n) 0:Nat):Int)=_
  rw[BH]
 show PR.ok (tC (tI n).text) (ak (p+((ar (tI n)).length:Int)) Z)=_
 rw[this]
theorem qY(h:Name s){k:af}(hk:KW k):¬s=k:=fun e=>h.2 (e ▸ hk)
theorem IG:∀ y∈jv,KW y:=by decide
theorem adG(hZ:(pw s::Z).length≤90000):fi N0 i (ak p (pw s::Z))=fJ N0 i (ak p (pw s::Z)):=by
 rw[F7 (eW _ p).1 (ln hZ p)]
 have hk:(hd (ak p (pw s::Z))).kind=1:=rfl
 rw[hk,if_neg (by decide),if_neg (by decide),if_neg (by decide),if_pos rfl]
theorem azA(h:Name s)(hZ:(pw s::R).length≤90000)(hf:Fo R):∃ q,fJ N0 i (ak p (pw s::R))= .ok (kK (if i=true then 2 else 3) s []) (ak q R):=by
 rw[zU (eW (pw s::R) p).1 (show(1:Int)≠6 by decide) (ln hZ p)]
 have ht:(hd (ak p (pw s::R))).text=s:=rfl
 obtain⟨q,hq⟩:=BD (p:=p) (Z:=R) h
 rw[ht,if_neg (by rintro(e|e)<;>exact qY h (by decide) e),if_neg (qY h (by decide)),if_neg (fun e=>h.2 (IG _ e.1)),hq,PR.aJ]
 refine⟨q,?_⟩
 by_cases hi:i=true
 ·rw[if_pos hi,if_pos hi]
 ·rw[if_neg hi,if_neg hi,ij,hf.of,if_neg (by decide)]
theorem D0(hT:∀ p,∃ q,bD N0 i (ak p (T++ps 41::R))= .ok x (ak q (ps 41::R)))(hZ:(cB T++R).length≤90000):∃ q,aJf N0 i (ak p (cB T++R))= .ok x (ak q R):=by
 have e:cB T++R=ps 40::(T++ps 41::R):=by simp[cB]
 rw[e]at hZ ⊢
 rw[WW (eW _ p).1 (ln hZ p),tP,PR.aJ]
 obtain⟨q,hq⟩:=hT (p+1)
 rw[hq,PR.aJ]
 unfold PR.map
 rw[tP]
 exact⟨q+1,rfl⟩
theorem FO{l:Nat}(hZ:Z.length≤90000)(h1:au 1 cE (ak 0 Z)=false)(h2:au 5 (ch 45) (ak 0 Z)=false):eC N0 l i (ak p Z)=fi N0 i (ak p Z):=by
 rw[FP (eW Z p).1 (ln hZ p),ij,h1,ij,h2,Bool.and_false,if_neg (by decide),if_neg (by decide)]
theorem FN{l:Nat}(hT:∀ p,∃ q,bD N0 i (ak p (T++ps 41::R))= .ok x (ak q (ps 41::R)))(hZ:(cB T++R).length≤90000):∃ q,eC N0 l i (ak p (cB T++R))= .ok x (ak q R):=by
 obtain⟨q,hq⟩:=D0 (p:=p) hT hZ
 refine⟨q,?_⟩
 rw[FO hZ (by rfl) (by rfl),F7 (eW _ p).1 (ln hZ p)]
 have hk:(hd (ak p (cB T++R))).kind=5:=rfl
 rw[hk,if_neg (by decide),if_neg (by decide),if_neg (by decide),if_neg (by decide),ij 5 (ch 64),show au 5 (ch 64) (ak 0 (cB T++R))=false from rfl,if_neg (by decide),hq]
theorem Dm{l:Nat}(hZ:(T++R).length≤90000)(h:∃ q,eC N0 l i (ak p (T++R))= .ok x (ak q R))(hn:au 1 cE (ak 0 (T++R))=false):∃ q,dN N0 l i (ak p (T++R))=eg N0 l 7 i x (ak q R):=by
 obtain⟨q,hq⟩:=h
 refine⟨q,?_⟩
 rw[IV (eW _ p).1 (ln hZ p),hq,PR.aJ,ij,hn,Bool.and_false,if_neg (by decide)]
theorem yO{l m:Nat}(hZ:R.length≤90000)(h:rk R<l∨rk R=0∨m<rk R):eg N0 l m i x (ak p R)= .ok x (ak p R):=by
 have h:bo (ak 0 R)<l∨bo (ak 0 R)=0∨m<bo (ak 0 R):=h
 rw[Nv (eW R p).1 (ln hZ p),N8,if_neg (by omega)]
theorem JF(hZ:R.length≤90000)(h:df R=false):dZ N0 i x (ak p R)= .ok x (ak p R):=by
 have h:au 1 fY (ak 0 R)=false:=h
 rw[JG (eW R p).1 (ln hZ p),ij,h,if_neg (by decide)]
end
theorem acz{x:Ex}(hk:x.kind=1)(hF:x.Flat (vK x))(ha:x.args=[]):jh x.val x.unit x.name=x:=by
 cases x
 obtain⟨h1,h2,h3,h4,h5,h6,h7,h8⟩:=hF
 simp only[Ex.kind,Ex.op,Ex.name,Ex.table,Ex.val,Ex.unit,Ex.param,Ex.win,Ex.args,vK]at *
 subst hk h2 h4 h7 h8 ha
 rfl
theorem acB{x:Ex}(hk:x.kind=1)(hx:ji x)(ha:x.args=[]){R:List Pc}(hf:Fo R)(hZ:(iJ x++R).length≤90000)(i:Bool)(p:Int):∃ q,fi N0 i (ak p (iJ x++R))= .ok x (ak q R):=by
 obtain⟨h1,h2,h3,h4⟩:=hx
 obtain⟨v1,v2,v3,v4⟩:=Cu h1
 obtain⟨_,_,f3,_,f5,f6⟩:=v1
 obtain⟨t1,t2,t3,t4,t5,t6⟩:=Co h3
 simp only at t1 t2 t3 t4 t5 t6
 have aae:=acz hk h4 ha
 have hval:∀ k n s,x.val.kind=k→x.val.n=n→x.val.s=s→(⟨k,n,s⟩:ek)=x.val:=fun k n s a b c=>by subst a b c;rfl
 have E6:¬Num ⟨x.val.kind,x.unit,x.name⟩→x.unit=[]:=fun h=>Y4.1 fun k=>h (t2 k)
 have fin:∀ (v:ek) (u:List aq) (m:af) (q:Int),v=x.val→u=x.unit→m=x.name→(PR.ok (jh v u m) (ak q R))= .ok x (ak q R):=fun v u m q a b c=>by rw[a,b,c,aae]
 rw[F7 (eW _ p).1 (ln hZ p)]
 unfold iJ at hZ ⊢
 by_cases k5:x.val.kind=5
 ·rw[if_pos k5]at hZ ⊢
  obtain⟨q1,q2,q3⟩:=v4 k5
  have e:[ps 64,pw x.name,sp,.inr (tT x.val.s)]++R=ps 64::pw x.name::sp:: .inr (tT x.val.s)::R:=rfl
  rw[e]
  have lI:(hd (ak p (ps 64::pw x.name::sp:: .inr (tT x.val.s)::R))).kind=5:=rfl
  rw[lI,if_neg (by decide),if_neg (by decide),if_neg (by decide),if_neg (by decide),if_pos (by rw[ij];rfl)]
  show∃ q,px (ak (p+1) (pw x.name::sp:: .inr (tT x.val.s)::R))=_
  obtain⟨q,hq⟩:=BD (p:=p+1) (Z:=sp:: .inr (tT x.val.s)::R) (t3 k5)
  unfold px
  rw[hq,PR.aJ]
  refine⟨q+1+((ar (tT x.val.s)).length:Int),?_⟩
  show(PR.ok (⟨4,x.val.s,q+1⟩:Tok) (ak (q+1+((ar (tT x.val.s)).length:Int)) R)).bind _=_
  rw[PR.aJ]
  have fA:¬(x.val.s.size<1∨x.val.s.size>32∨(32:UInt8)∈x.val.s.data.toList):=by
   rintro(k|k|k)
   ·omega
   ·omega
   ·have:=(NT q3 (by decide) 32 k).2.2
    revert this;decide
  simp only
  rw[if_neg fA]
  exact fin _ _ _ _ (hval 5 0 _ k5 (f6 (by omega)) rfl) (E6 (by unfold Num;simp only;omega)).symm rfl
 rw[if_neg k5]at hZ ⊢
 have yg:x.name=⟨#[]⟩:=t4 k5
 by_cases k1:x.val.kind=1
 ·rw[if_pos k1]at hZ ⊢
  have hu:x.unit=[]:=E6 (by unfold Num;simp only;omega)
  have e:(pw (ga x.val.n)::fF x.unit)++R=pw (ga x.val.n)::R:=by rw[hu];rfl
  rw[e]at hZ ⊢
  have lI:(hd (ak p (pw (ga x.val.n)::R))).kind=1:=rfl
  rw[lI,if_neg (by decide),if_neg (by decide),if_neg (by decide),if_pos rfl,zU (eW (pw (ga x.val.n)::R) p).1 (show(1:Int)≠6 by decide) (ln hZ p)]
  have ht:(hd (ak p (pw (ga x.val.n)::R))).text=ga x.val.n:=rfl
  refine⟨p+((ar (tW (ga x.val.n))).length:Int),?_⟩
  have hs:x.val.s=⟨#[]⟩:=f3 (by omega)
  rcases f5 k1 with h0|h0
  ·have hb:ga x.val.n=zS:=by unfold ga;rw[h0];rfl
   rw[ht,hb,if_pos (.inr rfl),if_neg (by decide)]
   exact fin _ _ _ _ (hval 1 0 _ k1 h0 hs) hu.symm yg.symm
  ·have hb:ga x.val.n=uf:=by unfold ga;rw[h0];rfl
   rw[ht,hb,if_pos (.inl rfl),if_pos rfl]
   exact fin _ _ _ _ (hval 1 1 _ k1 h0 hs) hu.symm yg.symm
 rw[if_neg k1]at hZ ⊢
 by_cases k2:x.val.kind=2
 ·rw[if_pos k2]at hZ ⊢
  rw[ZD]at hZ ⊢
  have lI:(hd (ak p (.inr (tI x.val.n.toNat)::(fF x.unit++R)))).kind=2:=rfl
  obtain⟨q,hq⟩:=yI (p:=p) (n:=x.val.n.toNat) (Z:=fF x.unit++R)
  obtain⟨q2,dQ⟩:=PC t5 t6 hf q
  rw[lI,if_pos rfl,hq,PR.aJ]
  unfold PR.map
  rw[dQ,PR.aJ]
  exact⟨q2,fin _ _ _ _ (hval 2 _ _ k2 (by omega) (f3 (by omega))) rfl yg.symm⟩
 rw[if_neg k2]at hZ ⊢
 by_cases k3:x.val.kind=3
 ·rw[if_pos k3]at hZ ⊢
  rw[ZD]at hZ ⊢
  have lI:(hd (ak p (.inr (tD x.val.n.toNat)::(fF x.unit++R)))).kind=3:=rfl
  obtain⟨q2,dQ⟩:=PC t5 t6 hf (p+((ar (tD x.val.n.toNat)).length:Int))
  rw[lI,if_neg (by decide),if_pos rfl]
  show∃ q,(PR.ok (⟨3,gY x.val.n.toNat,p⟩:Tok) (ak (p+((ar (tD x.val.n.toNat)).length:Int)) (fF x.unit++R))).bind _=_
  rw[PR.aJ]
  unfold PR.map
  rw[dQ,PR.aJ]
  refine⟨q2,?_⟩
  simp only
  rw[Va]
  exact fin _ _ _ _ (hval 3 _ _ k3 (by omega) (f3 (by omega))) rfl yg.symm
 rw[if_neg k3]at hZ ⊢
 have k4:x.val.kind=4:=by omega
 have hu:x.unit=[]:=E6 (by unfold Num;simp only;omega)
 have e:(.inr (tT x.val.s)::fF x.unit)++R= .inr (tT x.val.s)::R:=by rw[hu];rfl
 rw[e]
 have lI:(hd (ak p (.inr (tT x.val.s)::R))).kind=4:=rfl
 rw[lI,if_neg (by decide),if_neg (by decide),if_pos rfl]
 refine⟨p+((ar (tT x.val.s)).length:Int),?_⟩
 show PR.ok (jh ⟨4,0,x.val.s⟩ [] ⟨#[]⟩) (ak (p+((ar (tT x.val.s)).length:Int)) R)=_
 exact fin _ _ _ _ (hval 4 0 _ k4 (f6 (by omega)) rfl) hu.symm yg.symm
set_option linter.unusedSectionVars false
set_option maxHeartbeats 1000000
def mM(r:Int):Nat:=if r=4 then 2 else if r≥8 then 7 else(r-1).toNat
def mP(r:Int):Nat:=if r=4 then 2 else if r≥8 then 7 else if r=5 then 3 else(r-1).toNat
structure cG(x:Ex)(i:Bool):Prop where
 q1:8≤aK x→∀ R,Fo R→(pc x++R).length≤90000→∀ l p,∃ q,eC N0 l i (ak p (pc x++R))= .ok x (ak q R)
 q2:∀ l:Nat,1≤l→(l:Int)≤aK x-1→l≤7→∀ R,Fo R→rk R≤mM (aK x)→(pc x++R).length≤90000→∀ p,∃ q,dN N0 l i (ak p (pc x++R))=eg N0 l (mP (aK x)) i x (ak q R)
 q3:1≤aK x→∀ R,Fo R→rk R=0→(pc x++R).length≤90000→∀ p,∃ q,bD N0 i (ak p (pc x++R))=dZ N0 i x (ak q R)
 q4:∀ R,Fo R→rk R=0→df R=false→(pc x++R).length≤90000→∀ p,∃ q,bD N0 i (ak p (pc x++R))= .ok x (ak q R)
 h1:1≤aK x→∀ R,au 1 eR (ak 0 (pc x++R))=false
 h2:5≤aK x→∀ R,au 1 cE (ak 0 (pc x++R))=false
theorem lu{A R:List Pc}(h:(A++R).length≤90000):R.length≤90000:=by rw[Z7]at h;omega
section
variable {x:Ex}{i:Bool}
theorem cG.of3(hr:aK x=1)(h1:∀ R,au 1 eR (ak 0 (pc x++R))=false)(q3:∀ R,Fo R→rk R=0→(pc x++R).length≤90000→∀ p,∃ q,bD N0 i (ak p (pc x++R))=dZ N0 i x (ak q R)):cG x i where
 q1:=fun h=>by omega
 q2:=fun l h h2=>by omega
 q3:=fun _=>q3
 q4:=fun R hf hk hd hl p=>by
  obtain⟨q,hq⟩:=q3 R hf hk hl p
  exact⟨q,by rw[hq,JF (lu hl) hd]⟩
 h1:=fun _=>h1
 h2:=fun h=>by omega
theorem cG.FH(hr:2≤aK x)(q1:8≤aK x→∀ R,Fo R→(pc x++R).length≤90000→∀ l p,∃ q,eC N0 l i (ak p (pc x++R))= .ok x (ak q R))(h1:∀ R,au 1 eR (ak 0 (pc x++R))=false)(h2:5≤aK x→∀ R,au 1 cE (ak 0 (pc x++R))=false)
  (q2:∀ l:Nat,1≤l→(l:Int)≤aK x-1→l≤7→∀ R,Fo R→rk R≤mM (aK x)→(pc x++R).length≤90000→∀ p,∃ q,dN N0 l i (ak p (pc x++R))=eg N0 l (mP (aK x)) i x (ak q R)):cG x i:=by
 have q3:∀ R,Fo R→rk R=0→(pc x++R).length≤90000→∀ p,∃ q,bD N0 i (ak p (pc x++R))=dZ N0 i x (ak q R):=fun R hf hk hl p=>by
  obtain⟨q,hq⟩:=q2 1 (ZI _) (by omega) (by decide) R hf (by rw[hk];exact ZK _) hl p
  refine⟨q,?_⟩
  rw[DM (eW _ p).1 (ln hl p),ij,h1 R,if_neg (by decide),hq,yO (lu hl) (.inr (.inl hk)),PR.aJ]
 refine⟨q1,q2,fun _=>q3,fun R hf hk hd hl p=> ?_,fun _=>h1,h2⟩
 obtain⟨q,hq⟩:=q3 R hf hk hl p
 exact⟨q,by rw[hq,JF (lu hl) hd]⟩
theorem cG.FG(hr:8≤aK x)(h1:∀ R,au 1 eR (ak 0 (pc x++R))=false)(h2:∀ R,au 1 cE (ak 0 (pc x++R))=false)(q1:∀ R,Fo R→(pc x++R).length≤90000→∀ l p,∃ q,eC N0 l i (ak p (pc x++R))= .ok x (ak q R)):cG x i:=by
 refine cG.FH (by omega) (fun _=>q1) h1 (fun _=>h2) fun l hl1 hl2 Bd R hf hk hl p=> ?_
 have hm:mP (aK x)=7:=by unfold mP;rw[if_neg (by omega),if_pos hr]
 rw[hm]
 exact Dm hl (q1 R hf hl l p) (h2 R)
end
theorem Kv(R:List Pc):Fo (ps 41::R):=⟨rfl,rfl⟩
theorem cG.par{y:Ex}{i:Bool}(hy:cG y i){R:List Pc}(hl:(cB (pc y)++R).length≤90000)(p:Int):∃ q,bD N0 i (ak p (pc y++ps 41::R))= .ok y (ak q (ps 41::R)):=
 hy.q4 (ps 41::R) (Kv R) rfl rfl (by have e:cB (pc y)++R=ps 40::(pc y++ps 41::R):=by simp[cB]
                                     rw[e,Z9]at hl;omega) p
abbrev bV(y:Ex)(r:Int):List Pc:=if aK y<r then cB (pc y)else pc y
theorem Ap{y:Ex}{i:Bool}(hy:cG y i){r:Int}{l:Nat}(h1:1≤l)(hr:(l:Int)≤r-1)(h7:l≤7){R:List Pc}(hf:Fo R)(hk:aK y<r∨rk R≤mM (aK y))(hl:(bV y r++R).length≤90000)(p:Int):
  ∃ q,dN N0 l i (ak p (bV y r++R))=eg N0 l (if aK y<r then 7 else mP (aK y)) i y (ak q R):=by
 by_cases h:aK y<r
 ·have e:bV y r=cB (pc y):=if_pos h
  rw[e]at hl ⊢
  rw[if_pos h]
  exact Dm hl (FN (hy.par hl) hl) rfl
 ·have e:bV y r=pc y:=if_neg h
  rw[e]at hl ⊢
  rw[if_neg h]
  exact hy.q2 l h1 (by omega) h7 R hf (hk.resolve_left h) hl p
theorem IL{y:Ex}{i:Bool}(hy:cG y i){r:Int}(hr:1≤r)(R:List Pc):au 1 eR (ak 0 (bV y r++R))=false:=by
 by_cases h:aK y<r
 ·have e:bV y r=cB (pc y):=if_pos h
  rw[e];rfl
 ·have e:bV y r=pc y:=if_neg h
  rw[e];exact hy.h1 (by omega) R
theorem TG{y:Ex}{i:Bool}(hy:cG y i){r:Int}(hr:5≤r)(R:List Pc):au 1 cE (ak 0 (bV y r++R))=false:=by
 by_cases h:aK y<r
 ·have e:bV y r=cB (pc y):=if_pos h
  rw[e];rfl
 ·have e:bV y r=pc y:=if_neg h
  rw[e];exact hy.h2 (by omega) R
theorem adi:∀ s∈iC,∀ x:Ex,x.kind=7→x.op=s→∃ k:Nat,aK x=(k:Int)+1∧(k=1∨k=2∨k=4∨k=5∨k=6)∧∀ Z,rk (sp:: .inr (gQ s)::Z)=k∧(gQ s).text=s∧Fo (sp:: .inr (gQ s)::Z):=by
 intro s hs x hk bT
 have mI:aK x=if x.op=⟨#[111,114]⟩then 2 else if x.op=⟨#[97,110,100]⟩then 3 else if x.op=⟨#[43]⟩∨x.op=⟨#[45]⟩then 6 else if x.op=⟨#[42]⟩∨x.op=⟨#[47]⟩then 7 else 5:=by
  unfold aK
  rw[if_neg (by omega),if_neg (by omega),if_neg (by omega),if_pos hk]
 rw[bT]at mI
 simp only[iC,ZV,Yj,or_false]at hs
 rcases hs with rfl|rfl|rfl|rfl|rfl|rfl|rfl|rfl|rfl|rfl
 ·exact⟨5,mI.trans (by decide),by decide,fun Z=>⟨rfl,rfl,rfl,rfl⟩⟩
 ·exact⟨5,mI.trans (by decide),by decide,fun Z=>⟨rfl,rfl,rfl,rfl⟩⟩
 ·exact⟨6,mI.trans (by decide),by decide,fun Z=>⟨rfl,rfl,rfl,rfl⟩⟩
 ·exact⟨6,mI.trans (by decide),by decide,fun Z=>⟨rfl,rfl,rfl,rfl⟩⟩
 ·exact⟨4,mI.trans (by decide),by decide,fun Z=>⟨rfl,rfl,rfl,rfl⟩⟩
 ·exact⟨4,mI.trans (by decide),by decide,fun Z=>⟨rfl,rfl,rfl,rfl⟩⟩
 ·exact⟨4,mI.trans (by decide),by decide,fun Z=>⟨rfl,rfl,rfl,rfl⟩⟩
 ·exact⟨4,mI.trans (by decide),by decide,fun Z=>⟨rfl,rfl,rfl,rfl⟩⟩
 ·exact⟨2,mI.trans (by decide),by decide,fun Z=>⟨rfl,rfl,rfl,rfl⟩⟩
 ·exact⟨1,mI.trans (by decide),by decide,fun Z=>⟨rfl,rfl,rfl,rfl⟩⟩
theorem vU{x:Ex}(h:x.Flat (j7 x)):x= .mk x.kind x.op ⟨#[]⟩ ⟨#[]⟩ v0 [] 0 w0 x.args:=by
 cases x
 obtain⟨h1,h2,h3,h4,h5,h6,h7,h8⟩:=h
 simp only[Ex.kind,Ex.op,Ex.name,Ex.table,Ex.val,Ex.unit,Ex.param,Ex.win,Ex.args,j7]at *
 subst h3 h4 h5 h6 h7 h8
 rfl
theorem M7{x:Ex}(h:x.Flat (yF x)):x=kK x.kind x.name x.args:=by
 cases x
 obtain⟨h1,h2,h3,h4,h5,h6,h7,h8⟩:=h
 simp only[Ex.kind,Ex.op,Ex.name,Ex.table,Ex.val,Ex.unit,Ex.param,Ex.win,Ex.args,yF]at *
 subst h2 h4 h5 h6 h7 h8
 rfl
theorem Tm{x:Ex}(hk:x.kind=5)(h:x.Flat (uH x)):x= .mk 5 x.op ⟨#[]⟩ x.table v0 [] x.param x.win x.args:=by
 cases x
 obtain⟨h1,h2,h3,h4,h5,h6,h7,h8⟩:=h
 simp only[Ex.kind,Ex.op,Ex.name,Ex.table,Ex.val,Ex.unit,Ex.param,Ex.win,Ex.args,uH]at *
 subst hk h3 h5 h6
 rfl
theorem TW{x a b:Ex}{i:Bool}(hk:x.kind=7)(hF:x.Flat (j7 x))(bT:x.op∈iC)(ha:x.args=[a,b])(ra:cG a i)(rb:cG b i):cG x i:=by
 obtain⟨k,hr,vl,aax⟩:=adi x.op bT x hk rfl
 have hx:x=oP x.op a b:=by
  have:=vU hF
  rw[hk,ha]at this
  exact this
 have xO:iI x=if k=4 then 6 else(k:Int)+1:=by
  unfold iI
  by_cases h4:k=4
  ·rw[if_pos (by omega),if_pos h4]
  ·rw[if_neg (by omega),if_neg h4,hr]
 have e0:fb x (dJ x) 0 (iI x)=bV a (iI x):=by
  unfold fb
  rw[iK (by rw[ha];simp),ha];rfl
 have e1:fb x (dJ x) 1 (aK x+1)=bV b (aK x+1):=by
  unfold fb
  rw[iK (by rw[ha];simp),ha];rfl
 have DF:∀ R,pc x++R=bV a (iI x)++(sp:: .inr (gQ x.op)::sp::(bV b (aK x+1)++R)):=fun R=>by
  rw[j9]
  unfold jk
  rw[if_neg (by omega),if_neg (by omega),if_neg (by omega),if_neg (by omega),if_pos hk]
  unfold tE
  rw[e0,e1];simp
 have cy:2≤iI x:=by rw[xO];split<;>omega
 refine cG.FH (by omega) (fun h=>by omega) (fun R=>by rw[DF];exact IL ra (by omega) _) (fun h R=>by rw[DF];exact TG ra (by rw[xO];split<;>omega) _) fun l hl1 hl2 Bd R hf mC hl p=> ?_
 rw[DF]at hl ⊢
 obtain⟨o1,o2,o3⟩:=aax (sp::(bV b (aK x+1)++R))
 have azP:rk R≤k:=by
  unfold mM at mC
  rw[if_neg (by omega),if_neg (by omega)]at mC
  omega
 have ya:aK a<iI x∨rk (sp:: .inr (gQ x.op)::sp::(bV b (aK x+1)++R))≤mM (aK a):=by
  by_cases h:aK a<iI x
  ·exact .inl h
  ·right
   rw[o1]
   unfold mM
   rw[xO]at h
   split
   ·split at h<;>omega
   ·split
    ·omega
    ·split at h<;>omega
 obtain⟨q1,jc⟩:=Ap ra hl1 (by rw[xO];split<;>omega) Bd o3 ya hl p
 have hm:k≤(if aK a<iI x then 7 else mP (aK a)):=by
  by_cases h:aK a<iI x
  ·rw[if_pos h];omega
  ·rw[if_neg h]
   unfold mP
   rw[xO]at h
   split
   ·split at h<;>omega
   ·split
    ·omega
    ·split
     ·split at h<;>omega
     ·split at h<;>omega
 have Lq:=lu hl
 have Lr:(bV b (aK x+1)++R).length≤90000:=by simp only[Z9]at Lq;omega
 have aao:aK b<aK x+1∨rk R≤mM (aK b):=by
  by_cases h:aK b<aK x+1
  ·exact .inl h
  ·right
   unfold mM
   split
   ·omega
   ·split
    ·omega
    ·omega
 obtain⟨q2,dQ⟩:=Ap rb (l:=k+1) (by omega) (by omega) (by omega) hf aao Lr (q1+1+((ar (gQ x.op)).length:Int)+1)
 refine⟨q2,?_⟩
 rw[jc,Nv (eW _ q1).1 (ln Lq q1),N8]
 have o1':bo (ak 0 (sp:: .inr (gQ x.op)::sp::(bV b (aK x+1)++R)))=k:=o1
 rw[o1',if_pos ⟨by omega,by omega,hm⟩]
 have ht:(ak q1 (sp:: .inr (gQ x.op)::sp::(bV b (aK x+1)++R))).tail=ak (q1+1+((ar (gQ x.op)).length:Int)+1) (bV b (aK x+1)++R):=rfl
 have htx:(hd (ak q1 (sp:: .inr (gQ x.op)::sp::(bV b (aK x+1)++R)))).text=x.op:=o2
 rw[ht,htx,dQ,yO (lu Lr) (.inl (by show rk R<k+1;omega)),PR.aJ,← hx]
 have hmm:mP (aK x)=if k=4 then 3 else k:=by
  unfold mP
  rw[if_neg (by omega),if_neg (by omega)]
  by_cases h4:k=4
  ·rw[if_pos (by omega),if_pos h4]
  ·rw[if_neg (by omega),if_neg h4];omega
 rw[hmm]
set_option linter.unusedSectionVars false
set_option maxHeartbeats 1000000
theorem CA{x:Ex}{i:Bool}{s:af}{A:List Pc}(hr:aK x=9)(e:pc x=pw s::A)(h1:s≠eR)(h2:s≠cE)(h:∀ R,Fo R→(pc x++R).length≤90000→∀ p,∃ q,fJ N0 i (ak p (pc x++R))= .ok x (ak q R)):cG x i:=by
 have g1:∀ R,au 1 eR (ak 0 (pc x++R))=false:=fun R=>by
  rw[e]
  show(decide ((1:Int)=1) && decide (s=eR))=false
  simp[h1]
 have g2:∀ R,au 1 cE (ak 0 (pc x++R))=false:=fun R=>by
  rw[e]
  show(decide ((1:Int)=1) && decide (s=cE))=false
  simp[h2]
 refine cG.FG (by omega) g1 g2 fun R hf hl l p=> ?_
 obtain⟨q,hq⟩:=h R hf hl p
 refine⟨q,?_⟩
 have g3:au 5 (ch 45) (ak 0 (pc x++R))=false:=by
  rw[e]
  show(decide ((1:Int)=5) && _)=false
  simp
 rw[FO hl (g2 R) g3]
 have e2:pc x++R=pw s::(A++R):=by rw[e];rfl
 rw[e2]at hl hq ⊢
 rw[adG hl,hq]
theorem BT{x:Ex}(h:x.kind=1∨x.kind=2∨x.kind=3∨x.kind=4∨x.kind=5):aK x=9:=by
 unfold aK
 rw[if_neg (by omega),if_neg (by omega),if_neg (by omega),if_neg (by omega)]
theorem acC{x:Ex}(hk:x.kind=1)(hx:ji x)(ha:x.args=[])(i:Bool):cG x i:=by
 have e:pc x=iJ x:=by rw[j9];unfold jk;rw[if_pos hk]
 have A8:∀ R,au 1 eR (ak 0 (iJ x++R))=false∧au 1 cE (ak 0 (iJ x++R))=false∧au 5 (ch 45) (ak 0 (iJ x++R))=false:=fun R=>by
  unfold iJ
  split
  ·exact⟨rfl,rfl,rfl⟩
  split
  ·unfold ga
   split<;>exact⟨rfl,rfl,rfl⟩
  split
  ·exact⟨rfl,rfl,rfl⟩
  split
  ·exact⟨rfl,rfl,rfl⟩
  ·exact⟨rfl,rfl,rfl⟩
 refine cG.FG (by rw[BT (.inl hk)];decide) (fun R=>by rw[e];exact(A8 R).1) (fun R=>by rw[e];exact(A8 R).2.1) fun R hf hl l p=> ?_
 rw[e]at hl ⊢
 rw[FO hl (A8 R).2.1 (A8 R).2.2]
 exact acB hk hx ha hf hl i p
theorem M8{x:Ex}{i:Bool}(hk:(x.kind=2∧i=true)∨(x.kind=3∧i=false))(hx:jj x)(ha:x.args=[]):cG x i:=by
 obtain⟨hN,hF⟩:=hx
 have e:pc x=[pw x.name]:=by
  rw[j9];unfold jk
  rw[if_neg (by omega),if_neg (by omega),if_neg (by omega),if_neg (by omega),if_neg (by omega),if_neg (by omega),if_neg (by omega)]
 have dm:kK (if i=true then 2 else 3) x.name []=x:=by
  have:=M7 hF
  rw[ha]at this
  rcases hk with⟨h1,h2⟩|⟨h1,h2⟩
  ·rw[h2,if_pos rfl,← h1];exact this.symm
  ·rw[h2,if_neg (by decide),← h1];exact this.symm
 refine CA (BT (by omega)) e (qY hN (by decide)) (qY hN (by decide)) fun R hf hl p=> ?_
 rw[e]at hl ⊢
 obtain⟨q,hq⟩:=azA (p:=p) (i:=i) hN hl hf
 exact⟨q,by rw[← dm];exact hq⟩
theorem acG{x y:Ex}{i:Bool}(hk:x.kind=4)(hi:i=false)(hx:jj x)(ha:x.args=[y])(ry:cG y i):cG x i:=by
 obtain⟨hN,hF⟩:=hx
 have e:pc x=pw x.name::sp::pw gj::sp::cB (pc y):=by
  rw[j9];unfold jk
  rw[if_neg (by omega),if_pos hk,iK (by rw[ha];simp),ha];rfl
 have dm:kK 4 x.name [y]=x:=by
  have:=M7 hF
  rw[ha,hk]at this
  exact this.symm
 refine CA (BT (by omega)) e (qY hN (by decide)) (qY hN (by decide)) fun R hf hl p=> ?_
 rw[e]at hl ⊢
 have e2:(pw x.name::sp::pw gj::sp::cB (pc y))++R=pw x.name::sp::pw gj::sp::(cB (pc y)++R):=rfl
 rw[e2]at hl ⊢
 have j2:(cB (pc y)++R).length≤90000:=by simp only[Z9]at hl;omega
 rw[zU (eW (pw x.name::sp::pw gj::sp::(cB (pc y)++R)) p).1 (show(1:Int)≠6 by decide) (ln hl p)]
 have ht:(hd (ak p (pw x.name::sp::pw gj::sp::(cB (pc y)++R)))).text=x.name:=rfl
 obtain⟨q,hq⟩:=BD (p:=p) (Z:=sp::pw gj::sp::(cB (pc y)++R)) hN
 rw[ht,if_neg (by rintro(e|e)<;>exact qY hN (by decide) e),if_neg (qY hN (by decide)),if_neg (fun e=>hN.2 (IG _ e.1)),hq,PR.aJ,if_neg (by rw[hi];decide),ij]
 have hs:au 1 gj (ak 0 (sp::pw gj::sp::(cB (pc y)++R)))=true:=rfl
 rw[hs,if_pos rfl]
 obtain⟨q2,dQ⟩:=D0 (p:=q+1+((ar (tW gj)).length:Int)+1) (i:=i) (fun p=>ry.par j2 p) j2
 have fP:(ak q (sp::pw gj::sp::(cB (pc y)++R))).tail=ak (q+1+((ar (tW gj)).length:Int)+1) (cB (pc y)++R):=rfl
 unfold PR.map
 rw[fP,dQ,PR.aJ]
 simp only[dm]
 exact⟨q2,rfl⟩
theorem ac6{x y:Ex}{i:Bool}(hk:x.kind=6)(bT:x.op=iw)(hF:x.Flat (j7 x))(ha:x.args=[y])(ry:cG y i):cG x i:=by
 have e:pc x=pw iw::cB (pc y):=by
  rw[j9];unfold jk
  rw[if_neg (by omega),if_neg (by omega),if_neg (by omega),if_pos hk]
  unfold pH
  rw[bT,if_neg (by decide),if_neg (by decide),iK (by rw[ha];simp),ha];rfl
 have dm:kS iw y=x:=by
  have:=vU hF
  rw[ha,hk,bT]at this
  exact this.symm
 have hr:aK x=9:=by
  unfold aK
  rw[if_neg (by omega),if_neg (by omega),if_pos hk,bT,if_neg (by decide),if_neg (by decide)]
 refine CA hr e (by decide) (by decide) fun R hf hl p=> ?_
 rw[e]at hl ⊢
 rw[ZD]at hl ⊢
 have j2:(cB (pc y)++R).length≤90000:=by simp only[Z9]at hl;omega
 rw[zU (eW (pw iw::(cB (pc y)++R)) p).1 (show(1:Int)≠6 by decide) (ln hl p)]
 have ht:(hd (ak p (pw iw::(cB (pc y)++R)))).text=iw:=rfl
 rw[ht,if_neg (by decide),if_pos rfl]
 obtain⟨q2,dQ⟩:=D0 (p:=p+((ar (tW iw)).length:Int)) (i:=i) (fun p=>ry.par j2 p) j2
 have fP:(ak p (pw iw::(cB (pc y)++R))).tail=ak (p+((ar (tW iw)).length:Int)) (cB (pc y)++R):=rfl
 unfold PR.map
 rw[fP,dQ,PR.aJ,dm]
 exact⟨q2,rfl⟩
theorem acU{x y:Ex}{i:Bool}(hk:x.kind=6)(bT:x.op=ch 45)(hF:x.Flat (j7 x))(ha:x.args=[y])(ry:cG y i):cG x i:=by
 have e:∀ R,pc x++R=ps 45::(bV y 8++R):=fun R=>by
  rw[j9];unfold jk
  rw[if_neg (by omega),if_neg (by omega),if_neg (by omega),if_pos hk]
  unfold pH fb
  rw[bT,if_pos rfl,iK (by rw[ha];simp),ha];rfl
 have dm:kS (ch 45) y=x:=by
  have:=vU hF
  rw[ha,hk,bT]at this
  exact this.symm
 have hr:aK x=8:=by
  unfold aK
  rw[if_neg (by omega),if_neg (by omega),if_pos hk,bT,if_pos rfl]
 refine cG.FG (by omega) (fun R=>by rw[e];rfl) (fun R=>by rw[e];rfl) fun R hf hl l p=> ?_
 rw[e]at hl ⊢
 have j2:(bV y 8++R).length≤90000:=by simp only[Z9]at hl;omega
 rw[FP (eW (ps 45::(bV y 8++R)) p).1 (ln hl p),ij 1 cE,ij 5 (ch 45)]
 have s1:au 1 cE (ak 0 (ps 45::(bV y 8++R)))=false:=rfl
 have s2:au 5 (ch 45) (ak 0 (ps 45::(bV y 8++R)))=true:=rfl
 rw[s1,s2,Bool.and_false,if_neg (by decide),if_pos rfl]
 have fP:(ak p (ps 45::(bV y 8++R))).tail=ak (p+((ar (tS 45)).length:Int)) (bV y 8++R):=rfl
 have aay:∃ q,eC N0 7 i (ak (p+((ar (tS 45)).length:Int)) (bV y 8++R))= .ok y (ak q R):=by
  by_cases h:aK y<8
  ·have e:bV y 8=cB (pc y):=if_pos h
   rw[e]at j2 ⊢
   exact FN (fun p=>ry.par j2 p) j2
  ·have e:bV y 8=pc y:=if_neg h
   rw[e]at j2 ⊢
   exact ry.q1 (by omega) R hf j2 7 _
 obtain⟨q,hq⟩:=aay
 unfold PR.map
 rw[fP,hq,PR.aJ,dm]
 exact⟨q,rfl⟩
theorem ac4{x y:Ex}{i:Bool}(hk:x.kind=6)(bT:x.op=cE)(hF:x.Flat (j7 x))(ha:x.args=[y])(ry:cG y i):cG x i:=by
 have e:∀ R,pc x++R=pw cE::sp::(bV y 4++R):=fun R=>by
  rw[j9];unfold jk
  rw[if_neg (by omega),if_neg (by omega),if_neg (by omega),if_pos hk]
  unfold pH fb
  rw[bT,if_neg (by decide),if_pos rfl,iK (by rw[ha];simp),ha];rfl
 have dm:kS cE y=x:=by
  have:=vU hF
  rw[ha,hk,bT]at this
  exact this.symm
 have hr:aK x=4:=by
  unfold aK
  rw[if_neg (by omega),if_neg (by omega),if_pos hk,bT,if_neg (by decide),if_pos rfl]
 refine cG.FH (by omega) (fun h=>by omega) (fun R=>by rw[e];rfl) (fun h=>by omega) fun l hl1 hl2 Bd R hf mC hl p=> ?_
 have j1:rk R≤2:=by
  unfold mM at mC
  rw[if_pos hr]at mC;exact mC
 rw[e]at hl ⊢
 have j2:(bV y 4++R).length≤90000:=by simp only[Z9]at hl;omega
 have s1:au 1 cE (ak 0 (pw cE::sp::(bV y 4++R)))=true:=rfl
 rw[IV (eW (pw cE::sp::(bV y 4++R)) p).1 (ln hl p),FP (eW (pw cE::sp::(bV y 4++R)) p).1 (ln hl p),ij,s1,Bool.and_true,Zi (show l≤3 by omega),if_pos rfl,if_pos rfl]
 have fP:(ak p (pw cE::sp::(bV y 4++R))).tail=ak (p+((ar (tW cE)).length:Int)+1) (bV y 4++R):=rfl
 have ya:aK y<4∨rk R≤mM (aK y):=by
  by_cases h:aK y<4
  ·exact .inl h
  ·right
   unfold mM
   split
   ·omega
   ·split<;>omega
 obtain⟨q,hq⟩:=Ap ry (r:=4) (l:=3) (by omega) (by omega) (by omega) hf ya j2 (p+((ar (tW cE)).length:Int)+1)
 have hm:mP (aK x)=2:=by unfold mP;rw[if_pos hr]
 unfold PR.map
 rw[fP,hq,yO (lu j2) (.inl (by show rk R<3;omega)),PR.aJ,PR.aJ,dm,hm]
 exact⟨q,rfl⟩
theorem aaS{x a b c:Ex}{i:Bool}(hk:x.kind=8)(bT:x.op=⟨#[]⟩)(hF:x.Flat (j7 x))(ha:x.args=[a,b,c])(ra:cG a i)(rb:cG b i)(rc:cG c i):cG x i:=by
 have e:∀ R,pc x++R=pw eR::sp::(pc a++(sp::pw jo::sp::(pc b++(sp::pw fI::sp::(pc c++R))))):=fun R=>by
  rw[j9];unfold jk
  rw[if_neg (by omega),if_neg (by omega),if_neg (by omega),if_neg (by omega),if_neg (by omega),if_pos hk]
  unfold tH
  rw[iK (by rw[ha];simp),iK (by rw[ha];simp),iK (by rw[ha];simp),ha];simp
 have dm:(.mk 8 ⟨#[]⟩ ⟨#[]⟩ ⟨#[]⟩ v0 [] 0 w0 [a,b,c]:Ex)=x:=by
  have:=vU hF
  rw[ha,hk,bT]at this
  exact this.symm
 have hr:aK x=0:=by unfold aK;rw[if_pos hk]
 refine⟨fun h=>by omega,fun l h h2=>by omega,fun h=>by omega,fun R hf mC hd hl p=> ?_,fun h=>by omega,fun h=>by omega⟩
 rw[e]at hl ⊢
 have l1:(pc a++(sp::pw jo::sp::(pc b++(sp::pw fI::sp::(pc c++R))))).length≤90000:=by simp only[Z9]at hl;omega
 have l2:(pc b++(sp::pw fI::sp::(pc c++R))).length≤90000:=by have:=lu l1;simp only[Z9]at this;omega
 have l3:(pc c++R).length≤90000:=by have:=lu l2;simp only[Z9]at this;omega
 have s1:au 1 eR (ak 0 (pw eR::sp::(pc a++(sp::pw jo::sp::(pc b++(sp::pw fI::sp::(pc c++R)))))))=true:=rfl
 rw[DM (eW _ p).1 (ln hl p),ij,s1,if_pos rfl]
 have fP:(ak p (pw eR::sp::(pc a++(sp::pw jo::sp::(pc b++(sp::pw fI::sp::(pc c++R))))))).tail=ak (p+((ar (tW eR)).length:Int)+1) (pc a++(sp::pw jo::sp::(pc b++(sp::pw fI::sp::(pc c++R))))):=rfl
 obtain⟨q1,jc⟩:=ra.q4 (sp::pw jo::sp::(pc b++(sp::pw fI::sp::(pc c++R)))) ⟨rfl,rfl⟩ rfl rfl l1 (p+((ar (tW eR)).length:Int)+1)
 obtain⟨q2,dQ⟩:=Fv (s:=jo) (p:=q1+1) (Z:=sp::(pc b++(sp::pw fI::sp::(pc c++R))))
 obtain⟨q3,vr⟩:=rb.q4 (sp::pw fI::sp::(pc c++R)) ⟨rfl,rfl⟩ rfl rfl l2 (q2+1)
 obtain⟨q4,vu⟩:=Fv (s:=fI) (p:=q3+1) (Z:=sp::(pc c++R))
 obtain⟨q5,Bg⟩:=rc.q4 R hf mC hd l3 (q4+1)
 have c1:ak q1 (sp::pw jo::sp::(pc b++(sp::pw fI::sp::(pc c++R))))=ak (q1+1) (pw jo::sp::(pc b++(sp::pw fI::sp::(pc c++R)))):=rfl
 have c2:ak q2 (sp::(pc b++(sp::pw fI::sp::(pc c++R))))=ak (q2+1) (pc b++(sp::pw fI::sp::(pc c++R))):=rfl
 have c3:ak q3 (sp::pw fI::sp::(pc c++R))=ak (q3+1) (pw fI::sp::(pc c++R)):=rfl
 have c4:ak q4 (sp::(pc c++R))=ak (q4+1) (pc c++R):=rfl
 rw[fP,jc,PR.aJ,c1,dQ,PR.aJ,c2,vr,PR.aJ,c3,vu,PR.aJ,c4,Bg,PR.aJ,dm]
 exact⟨q5,rfl⟩
theorem Vj{x a b:Ex}{i:Bool}(hk:x.kind=9)(bT:x.op=⟨#[]⟩)(hF:x.Flat (j7 x))(ha:x.args=[a,b])(ra:cG a i)(rb:cG b i):cG x i:=by
 have e:∀ R,pc x++R=bV a 1++(sp::pw fY::sp::(bV b 2++R)):=fun R=>by
  rw[j9];unfold jk
  rw[if_neg (by omega),if_neg (by omega),if_neg (by omega),if_neg (by omega),if_neg (by omega),if_neg (by omega),if_pos hk]
  unfold tG fb
  rw[iK (by rw[ha];simp),iK (by rw[ha];simp),ha];simp
 have dm:(.mk 9 ⟨#[]⟩ ⟨#[]⟩ ⟨#[]⟩ v0 [] 0 w0 [a,b]:Ex)=x:=by
  have:=vU hF
  rw[ha,hk,bT]at this
  exact this.symm
 have hr:aK x=1:=by unfold aK;rw[if_neg (by omega),if_pos hk]
 refine cG.of3 hr (fun R=>by rw[e];exact IL ra (by omega) _) fun R hf mC hl p=> ?_
 rw[e]at hl ⊢
 have l2:(bV b 2++R).length≤90000:=by have:=lu hl;simp only[Z9]at this;omega
 have Xt:∃ q,bD N0 i (ak p (bV a 1++(sp::pw fY::sp::(bV b 2++R))))=dZ N0 i a (ak q (sp::pw fY::sp::(bV b 2++R))):=by
  by_cases h:aK a<1
  ·have e2:bV a 1=cB (pc a):=if_pos h
   rw[e2]at hl ⊢
   obtain⟨q,hq⟩:=Dm (l:=1) (p:=p) hl (FN (fun p=>ra.par hl p) hl) rfl
   refine⟨q,?_⟩
   have s1:au 1 eR (ak 0 (cB (pc a)++(sp::pw fY::sp::(bV b 2++R))))=false:=rfl
   rw[DM (eW _ p).1 (ln hl p),ij,s1,if_neg (by decide),hq,yO (lu hl) (.inr (.inl rfl)),PR.aJ]
  ·have e2:bV a 1=pc a:=if_neg h
   rw[e2]at hl ⊢
   exact ra.q3 (by omega) _ ⟨rfl,rfl⟩ rfl hl p
 obtain⟨q1,jc⟩:=Xt
 obtain⟨q2,dQ⟩:=Ap rb (r:=2) (l:=1) (by omega) (by omega) (by omega) hf (.inr (by rw[mC];exact ZK _)) l2 (q1+1+((ar (tW fY)).length:Int)+1)
 have s2:au 1 fY (ak 0 (sp::pw fY::sp::(bV b 2++R)))=true:=rfl
 have fP:(ak q1 (sp::pw fY::sp::(bV b 2++R))).tail=ak (q1+1+((ar (tW fY)).length:Int)+1) (bV b 2++R):=rfl
 refine⟨q2,?_⟩
 rw[jc,JG (eW _ q1).1 (ln (lu hl) q1),ij,s2,if_pos rfl,fP,dQ,yO (lu l2) (.inr (.inl mC)),PR.aJ,dm]
set_option linter.unusedSectionVars false
set_option maxHeartbeats 1000000
theorem azu{w:fq}(hw:iN w)(Z:List Pc)(p:Int):∃ q,rM (ak p (gA w++Z))= .ok w (ak q Z):=by
 obtain⟨k,z⟩:=w
 unfold iN at hw
 simp only at hw
 have hz:∀ q:Int,k≠1→(q:Int)=q→((z.toNat:Nat):Int)=z:=fun q h _=>by omega
 unfold gA rM
 simp only
 by_cases k2:k=2
 ·subst k2
  rw[if_pos rfl]
  obtain⟨q,hq⟩:=yI (p:=p+((ar (tW kX)).length:Int)+1) (n:=z.toNat) (Z:=Z)
  have s1:au 1 mY (ak p ([pw kX,sp,.inr (tI z.toNat)]++Z))=false:=rfl
  have s2:au 1 kX (ak p ([pw kX,sp,.inr (tI z.toNat)]++Z))=true:=rfl
  have t:(ak p ([pw kX,sp,.inr (tI z.toNat)]++Z)).tail=ak (p+((ar (tW kX)).length:Int)+1) (.inr (tI z.toNat)::Z):=rfl
  refine⟨q,?_⟩
  rw[s1,s2,if_neg (by decide),if_pos rfl,t]
  unfold PR.map
  rw[hq,PR.aJ,hz 0 (by decide) rfl]
 rw[if_neg k2]
 by_cases k3:k=3
 ·subst k3
  rw[if_pos rfl]
  obtain⟨q,hq⟩:=yI (p:=p+((ar (tW kY)).length:Int)+1) (n:=z.toNat) (Z:=Z)
  have s1:au 1 mY (ak p ([pw kY,sp,.inr (tI z.toNat)]++Z))=false:=rfl
  have s2:au 1 kX (ak p ([pw kY,sp,.inr (tI z.toNat)]++Z))=false:=rfl
  have s3:au 1 kY (ak p ([pw kY,sp,.inr (tI z.toNat)]++Z))=true:=rfl
  have t:(ak p ([pw kY,sp,.inr (tI z.toNat)]++Z)).tail=ak (p+((ar (tW kY)).length:Int)+1) (.inr (tI z.toNat)::Z):=rfl
  refine⟨q,?_⟩
  rw[s1,s2,s3,if_neg (by decide),if_neg (by decide),if_pos rfl,t]
  unfold PR.map
  rw[hq,PR.aJ,hz 0 (by decide) rfl]
 rw[if_neg k3]
 by_cases k4:k=4
 ·subst k4
  rw[if_pos rfl]
  obtain⟨q0,sZ⟩:=Fv (s:=oF) (p:=p) (Z:=sp:: .inr (tI z.toNat)::Z)
  obtain⟨q,hq⟩:=yI (p:=q0+1) (n:=z.toNat) (Z:=Z)
  have e:[pw oF,sp,.inr (tI z.toNat)]++Z=pw oF::sp:: .inr (tI z.toNat)::Z:=rfl
  have s1:au 1 mY (ak p (pw oF::sp:: .inr (tI z.toNat)::Z))=false:=rfl
  have s2:au 1 kX (ak p (pw oF::sp:: .inr (tI z.toNat)::Z))=false:=rfl
  have s3:au 1 kY (ak p (pw oF::sp:: .inr (tI z.toNat)::Z))=false:=rfl
  have t:ak q0 (sp:: .inr (tI z.toNat)::Z)=ak (q0+1) (.inr (tI z.toNat)::Z):=rfl
  refine⟨q,?_⟩
  rw[e,s1,s2,s3,if_neg (by decide),if_neg (by decide),if_neg (by decide),sZ,PR.aJ,t]
  unfold PR.map
  rw[hq,PR.aJ,hz 0 (by decide) rfl]
 ·rw[if_neg k4]
  obtain⟨rfl,rfl⟩:k=1∧z=0:=by omega
  have s1:au 1 mY (ak p ([pw mY]++Z))=true:=rfl
  refine⟨p+((ar (tW mY)).length:Int),?_⟩
  rw[s1,if_pos rfl];rfl
theorem Tn:∀ s∈jv,s≠eR∧s≠cE∧¬(s=uf∨s=zS)∧s≠iw:=by decide
theorem Tp{x a b:Ex}(hk:x.kind=5)(hx:az6 x)(ha:x.args=[a,b])(hc:x.op=cZ→a=dD)(ra:cG a true)(rb:cG b true):cG x false:=by
 obtain⟨⟨y,hy,bT⟩,hN,hw,hp,hF⟩:=hx
 have fg:x.op∈jv:=bT ▸ hy
 obtain⟨n1,n2,n3,n4⟩:=Tn _ fg
 have dm:(.mk 5 x.op ⟨#[]⟩ x.table v0 [] x.param x.win [a,b]:Ex)=x:=by
  have:=Tm hk hF
  rw[ha]at this
  exact this.symm
 have e0:pc x=pw x.op::(ps 40::pw x.table::((if x.op=cZ then[]else ps 44::sp::pc a)++((if x.param=0 then[]else[ps 44,sp,.inr (tI x.param.toNat)])
   ++(ps 44::sp::(gA x.win++((if b=dD then[]else sp::pw eI::sp::pc b)++[ps 41])))))):=by
  rw[j9];unfold jk
  rw[if_neg (by omega),if_neg (by omega),if_pos hk]
  unfold pE
  rw[iK (by rw[ha];simp),iK (by rw[ha];simp),ha];rfl
 refine CA (BT (by omega)) e0 n1 n2 fun R hf hl p=> ?_
 generalize W7:(if b=dD then([]:List Pc)else sp::pw eI::sp::pc b)=A2 at *
 have xR:∃ Zw,Zw=gA x.win++(A2++ps 41::R):=⟨_,rfl⟩
 obtain⟨Zw,xR⟩:=xR
 obtain⟨P,hP⟩:∃ P,P=if x.param=0 then sp::Zw else sp:: .inr (tI x.param.toNat)::ps 44::sp::Zw:=⟨_,rfl⟩
 obtain⟨Q,hQ⟩:∃ Q,Q=if x.op=cZ then P else sp::(pc a++ps 44::P):=⟨_,rfl⟩
 have e1:(if x.param=0 then([]:List Pc)else[ps 44,sp,.inr (tI x.param.toNat)])++(ps 44::sp::Zw)=ps 44::P:=by
  rw[hP];split<;>rfl
 have e2:(if x.op=cZ then([]:List Pc)else ps 44::sp::pc a)++(ps 44::P)=ps 44::Q:=by
  rw[hQ];split
  ·rfl
  ·simp
 have e:pc x++R=pw x.op::ps 40::pw x.table::ps 44::Q:=by
  rw[e0,← e2,← e1,xR];simp
 rw[e]at hl ⊢
 have lQ:Q.length≤89996:=by simp only[Z9]at hl;omega
 have lP:P.length≤89996:=by
  rw[hQ]at lQ
  split at lQ
  ·exact lQ
  ·simp only[Z9,Z7]at lQ;omega
 have lZ:Zw.length≤89996:=by
  rw[hP]at lP
  split at lP
  ·simp only[Z9]at lP;omega
  ·simp only[Z9]at lP;omega
 rw[zU (eW (pw x.op::ps 40::pw x.table::ps 44::Q) p).1 (show(1:Int)≠6 by decide) (ln hl p)]
 have ht:(hd (ak p (pw x.op::ps 40::pw x.table::ps 44::Q))).text=x.op:=rfl
 have fP:(ak p (pw x.op::ps 40::pw x.table::ps 44::Q)).tail=ak (p+((ar (tW x.op)).length:Int)) (ps 40::pw x.table::ps 44::Q):=rfl
 rw[ht,if_neg n3,if_neg n4,if_pos ⟨fg,rfl⟩,fP]
 obtain⟨q1,jc⟩:=BD (p:=p+((ar (tW x.op)).length:Int)+1) (Z:=ps 44::Q) hN
 rw[Tq (eW (ps 40::pw x.table::ps 44::Q) _).1 (ln (by simp only[Z9]at hl ⊢;omega) _),tP,PR.aJ,jc,PR.aJ,tP,PR.aJ]
 have hval:∃ q,(if x.op≠wN then(bD N0 true (ak (q1+1) Q)).bind fun x L4=>(dt (ch 44) L4).map fun _=>x else .ok (gB 1) (ak (q1+1) Q))= .ok a (ak q P):=by
  by_cases h:x.op=cZ
  ·rw[if_neg (fun k=>k h),hQ,if_pos h,hc h]
   exact⟨_,rfl⟩
  ·rw[if_pos (show x.op≠wN from h),hQ,if_neg h]
   rw[hQ,if_neg h]at lQ
   obtain⟨q,hq⟩:=ra.q4 (ps 44::P) ⟨rfl,rfl⟩ rfl rfl (by rw[Z9]at lQ;omega) (q1+1+1)
   have t:ak (q1+1) (sp::(pc a++ps 44::P))=ak (q1+1+1) (pc a++ps 44::P):=rfl
   rw[t,hq,PR.aJ]
   unfold PR.map
   rw[tP]
   exact⟨q+1,rfl⟩
 obtain⟨q2,dQ⟩:=hval
 rw[dQ,PR.aJ]
 have ET:∃ q,(if x.op=rL∨x.op=rK then(az2 (ak q2 P)).bind fun k L6=>(dt (ch 44) L6).map fun _=>k else .ok 0 (ak q2 P))= .ok x.param (ak q (sp::Zw)):=by
  unfold kM at hp
  by_cases h0:x.param=0
  ·have fA:¬(x.op=rL∨x.op=rK):=by
    rintro(h|h)
    ·rw[if_pos h]at hp;omega
    ·rw[if_neg (by rw[h];decide),if_pos h]at hp;omega
   rw[if_neg fA,hP,if_pos h0,h0]
   exact⟨_,rfl⟩
  ·have LZ:x.op=rL∨x.op=rK:=by
    by_cases h1:x.op=rL
    ·exact .inl h1
    ·rw[if_neg h1]at hp
     by_cases h2:x.op=rK
     ·exact .inr h2
     ·rw[if_neg h2]at hp;exact absurd hp h0
   have nW:((x.param.toNat:Nat):Int)=x.param:=by
    rcases LZ with h|h
    ·rw[if_pos h]at hp;omega
    ·rw[if_neg (by rw[h];decide),if_pos h]at hp;omega
   rw[if_pos LZ,hP,if_neg h0]
   obtain⟨q,hq⟩:=yI (p:=q2+1) (n:=x.param.toNat) (Z:=ps 44::sp::Zw)
   have t:ak q2 (sp:: .inr (tI x.param.toNat)::ps 44::sp::Zw)=ak (q2+1) (.inr (tI x.param.toNat)::ps 44::sp::Zw):=rfl
   rw[t,hq,PR.aJ]
   unfold PR.map
   rw[tP,PR.aJ,nW]
   exact⟨q+1,rfl⟩
 obtain⟨q3,vr⟩:=ET
 rw[vr,PR.aJ]
 obtain⟨q4,vu⟩:=azu hw (A2++ps 41::R) (q3+1)
 have t3:ak q3 (sp::Zw)=ak (q3+1) (gA x.win++(A2++ps 41::R)):=by rw[xR];rfl
 rw[t3,vu,PR.aJ]
 have lA:(A2++ps 41::R).length≤89996:=by rw[xR,Z7]at lZ;omega
 have xX:∃ q,(if au 1 eI (ak q4 (A2++ps 41::R))then bD N0 true (ak q4 (A2++ps 41::R)).tail else .ok (gB 1) (ak q4 (A2++ps 41::R)))= .ok b (ak q (ps 41::R)):=by
  rw[← W7]at lA ⊢
  by_cases h:b=dD
  ·rw[if_pos h,h,ij]
   have s1:au 1 eI (ak 0 ([]++ps 41::R))=false:=rfl
   rw[s1,if_neg (by decide)]
   exact⟨_,rfl⟩
  ·rw[if_neg h]at lA ⊢
   rw[ij]
   have s1:au 1 eI (ak 0 ((sp::pw eI::sp::pc b)++ps 41::R))=true:=rfl
   have t:(ak q4 ((sp::pw eI::sp::pc b)++ps 41::R)).tail=ak (q4+1+((ar (tW eI)).length:Int)+1) (pc b++ps 41::R):=rfl
   rw[s1,if_pos rfl,t]
   exact rb.q4 (ps 41::R) (Kv R) rfl rfl (by simp only[Z9,Z7]at lA ⊢;omega) _
 obtain⟨q5,Bg⟩:=xX
 rw[Bg,PR.aJ]
 unfold PR.map
 rw[tP,PR.aJ,dm]
 exact⟨q5+1,rfl⟩
theorem Nu{l:List Ex}(h:l.length=1):∃ a,l=[a]:=by
 match l,h with
 |[a],_=>exact⟨a,rfl⟩
theorem GN{l:List Ex}(h:l.length=2):∃ a b,l=[a,b]:=by
 match l,h with
 |[a,b],_=>exact⟨a,b,rfl⟩
theorem ayD{l:List Ex}(h:l.length=3):∃ a b c,l=[a,b,c]:=by
 match l,h with
 |[a,b,c],_=>exact⟨a,b,c,rfl⟩
theorem adU(x:Ex):∀ ins,form ins x=true→cG x ins:=by
 induction x using Ex.ind with
 |h x ih=>
 intro ins hf
 have F:=lj.of hf
 have hn:=F.nn
 have hb:=F.nb
 have bO:=F.sub
 unfold dC at hb
 unfold fS at hn
 by_cases k1:x.kind=1
 ·rw[if_pos k1]at hb
  rw[if_neg (by omega),if_neg (by omega),if_neg (by omega)]at hn
  exact acC k1 hb (ZO (by omega)) ins
 rw[if_neg k1]at hb
 by_cases k2:x.kind=2
 ·rw[if_pos k2]at hb
  rw[if_neg (by omega),if_neg (by omega),if_neg (by omega)]at hn
  exact M8 (.inl ⟨k2,hb.1⟩) hb.2 (ZO (by omega))
 rw[if_neg k2]at hb
 by_cases k3:x.kind=3
 ·rw[if_pos (.inl k3)]at hb
  rw[if_neg (by omega),if_neg (by omega),if_neg (by omega)]at hn
  exact M8 (.inr ⟨k3,hb.1⟩) hb.2 (ZO (by omega))
 have x7:x.kind≠5→(ins || decide (x.kind=5))=ins:=fun h=>by rw[Zp h,Bool.or_false]
 by_cases k4:x.kind=4
 ·rw[if_pos (.inr k4)]at hb
  rw[if_pos (.inl k4)]at hn
  obtain⟨y,hy⟩:=Nu (l:=x.args) (by omega)
  have h0:=bO y (by rw[hy];simp)
  rw[x7 (by omega)]at h0
  exact acG k4 hb.1 hb.2 hy (ih y (by rw[hy];simp) ins h0)
 rw[if_neg (by omega)]at hb
 by_cases k5:x.kind=5
 ·rw[if_pos k5]at hb
  rw[if_neg (by omega),if_pos (.inl k5)]at hn
  obtain⟨a,b,eo⟩:=GN (l:=x.args) (by omega)
  have h0:=bO a (by rw[eo];simp)
  have h1:=bO b (by rw[eo];simp)
  rw[Zi k5,Bool.or_true]at h0 h1
  have hc:x.op=cZ→a=dD:=fun h=>by
   have:=F.cn k5 h
   rw[eo]at this
   exact this
  rw[hb.1]
  exact Tp k5 hb.2 eo hc (ih a (by rw[eo];simp) true h0) (ih b (by rw[eo];simp) true h1)
 rw[if_neg k5]at hb
 by_cases k6:x.kind=6
 ·rw[if_pos k6]at hb
  rw[if_pos (.inr k6)]at hn
  obtain⟨y,hy⟩:=Nu (l:=x.args) (by omega)
  have h0:=bO y (by rw[hy];simp)
  rw[x7 (by omega)]at h0
  have ry:=ih y (by rw[hy];simp) ins h0
  obtain⟨hF,o,ho,bT⟩:=hb
  simp only[wI,ZV,Yj,or_false]at ho
  rcases ho with rfl|rfl|rfl
  ·exact acU k6 bT hF hy ry
  ·exact ac4 k6 bT hF hy ry
  ·exact ac6 k6 bT hF hy ry
 rw[if_neg k6]at hb
 by_cases k7:x.kind=7
 ·rw[if_pos k7]at hb
  rw[if_neg (by omega),if_pos (.inr (.inl k7))]at hn
  obtain⟨a,b,eo⟩:=GN (l:=x.args) (by omega)
  have h0:=bO a (by rw[eo];simp)
  have h1:=bO b (by rw[eo];simp)
  rw[x7 (by omega)]at h0 h1
  obtain⟨hF,o,ho,bT⟩:=hb
  exact TW k7 hF (bT ▸ ho) eo (ih a (by rw[eo];simp) ins h0) (ih b (by rw[eo];simp) ins h1)
 rw[if_neg k7]at hb
 by_cases k8:x.kind=8
 ·rw[if_pos (.inl k8)]at hb
  rw[if_neg (by omega),if_neg (by omega),if_pos k8]at hn
  obtain⟨a,b,c,eo⟩:=ayD (l:=x.args) (by omega)
  have h0:=bO a (by rw[eo];simp)
  have h1:=bO b (by rw[eo];simp)
  have h2:=bO c (by rw[eo];simp)
  rw[x7 (by omega)]at h0 h1 h2
  exact aaS k8 hb.2 hb.1 eo (ih a (by rw[eo];simp) ins h0) (ih b (by rw[eo];simp) ins h1) (ih c (by rw[eo];simp) ins h2)
 by_cases k9:x.kind=9
 ·rw[if_pos (.inr k9)]at hb
  rw[if_neg (by omega),if_pos (.inr (.inr k9))]at hn
  obtain⟨a,b,eo⟩:=GN (l:=x.args) (by omega)
  have h0:=bO a (by rw[eo];simp)
  have h1:=bO b (by rw[eo];simp)
  rw[x7 (by omega)]at h0 h1
  exact Vj k9 hb.2 hb.1 eo (ih a (by rw[eo];simp) ins h0) (ih b (by rw[eo];simp) ins h1)
 ·rw[if_neg (by omega)]at hb;exact hb.elim
theorem FX:∀ L:List Pc,cq L→L.length≤(aM L).length
 |[],_=>ZI _
 | .inl b::L,h=>by have:=FX L h.2;simp only[aM,Z9];omega
 | .inr t::L,h=>by
  have:=FX L h.2
  have h2:=Y1.2 h.1.ne
  simp only[aM,Z9,Z7];omega
set_option linter.unusedSectionVars false
def aJh(t:Ty):List Pc:=
 if t.kind=1 then[pw aza]else if t.kind=4 then[pw azk]else if t.kind=5 then[pw azi,sp,pw t.of]
 else if t.kind=2 then pw azg::fF t.unit else pw azb::fF t.unit
theorem aD3(t:Ty):aM (aJh t)=bL (tX t):=by
 unfold aJh tX
 by_cases k1:t.kind=1
 ·rw[if_pos k1,if_pos k1];rfl
 rw[if_neg k1,if_neg k1]
 by_cases k4:t.kind=4
 ·rw[if_pos k4,if_pos k4];rfl
 rw[if_neg k4,if_neg k4]
 by_cases k5:t.kind=5
 ·rw[if_pos k5,if_pos k5,eK,kN,j8,kN,vW,Zn];rfl
 rw[if_neg k5,if_neg k5]
 by_cases k2:t.kind=2
 ·rw[if_pos k2,if_pos k2,eK,kN,Cq]
 ·rw[if_neg k2,if_neg k2,eK,kN,Cq]
theorem aD4{t:Ty}(ht:il t=0){R:List Pc}(hf:Fl (aM R))(h:cq R):cq (aJh t++R):=by
 obtain⟨t1,t2,t3,t4,t5,t6⟩:=Co ht
 have hu:=ade (R:=R) (ayZ t5 t6) h
 have vj:=Wy (u:=t.unit) hf
 unfold aJh
 split
 ·exact ie (by decide) hf h
 split
 ·exact ie (by decide) hf h
 split
 ·rename_i k
  exact ie (by decide) az4 (fU (ie (t3 k).1 hf h))
 split
 ·exact ie (by decide) vj hu
 ·exact ie (by decide) vj hu
theorem aD5{t:Ty}(ht:il t=0){R:List Pc}(hf:Fo R)(p:Int):∃ q,Bu (ak p (aJh t++R))= .ok t (ak q R):=by
 obtain⟨t1,t2,t3,t4,t5,t6⟩:=Co ht
 obtain⟨k,u,o⟩:=t
 simp only at t1 t2 t3 t4 t5 t6
 have hu:¬(k=2∨k=3)→u=[]:=fun h=>Y4.1 fun hn=>h (t2 hn)
 unfold aJh Bu
 simp only
 by_cases k1:k=1
 ·subst k1
  rw[if_pos rfl,hu (by decide),t4 (by decide)]
  refine⟨p+((ar (tW aza)).length:Int),?_⟩
  rw[show au 1 aza (ak p ([pw aza]++R))=true from rfl,if_pos rfl];rfl
 rw[if_neg k1]
 by_cases k4:k=4
 ·subst k4
  rw[if_pos rfl,hu (by decide),t4 (by decide)]
  refine⟨p+((ar (tW azk)).length:Int),?_⟩
  rw[show au 1 aza (ak p ([pw azk]++R))=false from rfl,if_neg (by decide),show au 1 azk (ak p ([pw azk]++R))=true from rfl,if_pos rfl];rfl
 rw[if_neg k4]
 by_cases k5:k=5
 ·subst k5
  rw[if_pos rfl,hu (by decide)]
  obtain⟨q,hq⟩:=BD (p:=p+((ar (tW azi)).length:Int)+1) (Z:=R) (t3 rfl)
  refine⟨q,?_⟩
  rw[show au 1 aza (ak p ([pw azi,sp,pw o]++R))=false from rfl,if_neg (by decide),show au 1 azk (ak p ([pw azi,sp,pw o]++R))=false from rfl,if_neg (by decide),show au 1 azi (ak p ([pw azi,sp,pw o]++R))=true from rfl,if_pos rfl,show(ak p ([pw azi,sp,pw o]++R)).tail=ak (p+((ar (tW azi)).length:Int)+1) (pw o::R)from rfl]
  unfold PR.map
  rw[hq,PR.aJ]
 rw[if_neg k5]
 by_cases k2:k=2
 ·subst k2
  rw[if_pos rfl,t4 (by decide)]
  obtain⟨q,hq⟩:=PC t5 t6 hf (p+((ar (tW azg)).length:Int))
  refine⟨q,?_⟩
  rw[show au 1 aza (ak p (pw azg::fF u++R))=false from rfl,if_neg (by decide),show au 1 azk (ak p (pw azg::fF u++R))=false from rfl,if_neg (by decide),show au 1 azi (ak p (pw azg::fF u++R))=false from rfl,if_neg (by decide),show au 1 azg (ak p (pw azg::fF u++R))=true from rfl,if_pos rfl,show(ak p (pw azg::fF u++R)).tail=ak (p+((ar (tW azg)).length:Int)) (fF u++R)from rfl]
  unfold PR.map
  rw[hq,PR.aJ]
 ·have k3:k=3:=by omega
  subst k3
  rw[if_neg k2,t4 (by decide)]
  obtain⟨q,hq⟩:=PC t5 t6 hf (p+((ar (tW azb)).length:Int))
  refine⟨q,?_⟩
  rw[show au 1 aza (ak p (pw azb::fF u++R))=false from rfl,if_neg (by decide),show au 1 azk (ak p (pw azb::fF u++R))=false from rfl,if_neg (by decide),show au 1 azi (ak p (pw azb::fF u++R))=false from rfl,if_neg (by decide),show au 1 azg (ak p (pw azb::fF u++R))=false from rfl,if_neg (by decide)]
  have e:py azb (ak p (pw azb::fF u++R))= .ok () (ak (p+((ar (tW azb)).length:Int)) (fF u++R)):=rfl
  rw[e,PR.aJ]
  unfold PR.map
  rw[hq,PR.aJ]
end Go.Proofs.YtbihckigennlhaaGreatDoor
