/- ParserRecovers, plain: a wrong item turns nothing in front of it or behind it. -/
import Derived.Test.YtbihckigennlhaaGreatDoorTj
import Derived.Lib.ItoaMem
import Derived.Test.YtbihckigennlhaaGreatDoorPc
import Derived.Test.YtbihckigennlhaaGreatDoorYa
set_option linter.unusedVariables false
set_option linter.unusedSimpArgs false
set_option maxRecDepth 100000
namespace Go.Proofs.YtbihckigennlhaaGreatDoor
open Go.Sx Go.Proofs
structure WrongI(w:Bs)(p:Int):Prop where
 len:w.length≤100
 pos:0≤p∧p<w.length
 lex:(lexL w.length 0 (-1) w).2=[]
 item:∀ A e,(lexL w.length 0 (-1) w).1=A++[e]→∀ B,B≠[]→(hd (A++B)).kind≠6∧itemP (A++B)= .err p 90∧behindP p (A++B)=B
theorem WrongI.of{w:Bs}{p:Int}{A:List Tok}(h1:w.length≤100)(h2:0≤p∧p<w.length)(h3:lexL w.length 0 (-1) w=(A++[⟨6,⟨#[]⟩,(w.length:Int)⟩],[]))(h4:∀ b B,(hd (A++b::B)).kind≠6∧itemP (A++b::B)= .err p 90∧behindP p (A++b::B)=b::B):WrongI w p:=by
 refine⟨h1,h2,by rw[h3],fun A' e he B hB=> ?_⟩
 rw[h3]at he
 obtain⟨e1,_⟩:=List.append_inj' he rfl
 subst e1
 cases B with
 |nil=>exact absurd rfl hB
 |cons b B=>exact h4 b B
set_option linter.unusedSectionVars false
def srcT(t:Tok):Bs:=if t.kind=4 then 34::(t.text.data.toList++[34])else t.text.data.toList
def StpB(p:UInt8→Bool)(r:Bs):Prop:=r=[]∨∃ x t,r=x::t∧p x=false
def Sepr(r:Bs):Prop:=r=[]∨∃ t,r=32::t
theorem Sepr.stop{r:Bs}(h:Sepr r){p:UInt8→Bool}(hp:p 32=false):StpB p r:=by
 rcases h with rfl|⟨t,rfl⟩
 ·exact .inl rfl
 ·exact .inr ⟨_,_,rfl,hp⟩
theorem tw_app{p:UInt8→Bool}{r:Bs}(hr:StpB p r):∀ u:Bs,(∀ c∈u,p c=true)→(u++r).takeWhile p=u
 |[],_=>by rcases hr with rfl|⟨x,t,rfl,hx⟩<;>simp[List.takeWhile, *]
 |c::u,h=>by
  rw[List.cons_append,List.takeWhile_cons,h c List.mem_cons_self,if_pos rfl,tw_app hr u fun x hx=>h x (List.mem_cons_of_mem _ hx)]
theorem span_stop{p:UInt8→Bool}{r:Bs}(hr:StpB p r){u:Bs}(h:∀ c∈u,p c=true):spanN p (u++r)=u.length:=by unfold spanN;rw[tw_app hr u h]
theorem pc_word{c:UInt8}{W r:Bs}(hc:clsB c=2)(hW:∀ x∈c::W,isW x=true)(hr:StpB isW r):pieceL (c::(W++r))=(1,W.length+1,if W.length+1>24 then 2 else 0):=by
 have h:spanN isW (c::(W++r))=W.length+1:=span_stop (u:=c::W) hr hW
 unfold pieceL;simp[hc,h]
theorem pc_int{c:UInt8}{W r:Bs}(hc:clsB c=3)(hW:∀ x∈c::W,isD x=true)(hr:StpB isD r)(hn:¬(r.head? =some 46∧spanN isD (r.drop 1)>0)):pieceL (c::(W++r))=(2,W.length+1,intE (c::W)):=by
 have h:spanN isD (c::(W++r))=W.length+1:=span_stop (u:=c::W) hr hW
 have h2:(c::(W++r)).drop (W.length+1)=r:=by simp
 have h3:(c::(W++r)).take (W.length+1)=c::W:=by simp
 unfold pieceL;simp only[h,h2,h3,hc]
 rw[if_neg (by decide),if_neg (by decide),if_neg (by decide),if_pos trivial,if_neg hn]
theorem pc_dec{c:UInt8}{W V r:Bs}(hc:clsB c=3)(hW:∀ x∈c::W,isD x=true)(hV:∀ x∈V,isD x=true)(hv:V≠[])(hr:StpB isD r):pieceL (c::(W++(46::(V++r))))=(3,W.length+1+1+V.length,decE (c::(W++46::V))):=by
 have h:spanN isD (c::(W++(46::(V++r))))=W.length+1:=span_stop (u:=c::W) (.inr ⟨46,_,rfl,by decide⟩) hW
 have h2:(c::(W++(46::(V++r)))).drop (W.length+1)=46::(V++r):=by simp
 have h4:spanN isD (V++r)=V.length:=span_stop hr hV
 have h3:(c::(W++(46::(V++r)))).take (W.length+1+1+V.length)=c::(W++46::V):=by
  have:c::(W++(46::(V++r)))=(c::(W++46::V))++r:=by simp
  rw[this,List.take_append_of_le_length (by simp;omega),List.take_of_length_le (by simp;omega)]
 unfold pieceL;simp only[h,h2,hc,List.drop_succ_cons,List.drop_zero,h4,List.head?_cons]
 rw[if_neg (by decide),if_neg (by decide),if_neg (by decide),if_pos trivial,if_pos ⟨trivial,List.length_pos_iff.2 hv⟩,h3]
theorem pc_text{W r:Bs}(hW:∀ x∈W,(x != 34 && x != 10)=true):pieceL (34::(W++34::r))=(4,W.length+2,unfitE W):=by
 have h:spanN (fun b=>b != 34 && b != 10) (W++34::r)=W.length:=span_stop (.inr ⟨34,_,rfl,by decide⟩) hW
 have hc:clsB 34=5:=by decide
 unfold pieceL;simp[h,hc]
theorem pc_two{c:UInt8}(r:Bs)(hc:clsB c=7∨clsB c=8)(h:c=61∨c=33∨c=60):pieceL (c::61::r)=(5,2,0):=by
 unfold pieceL
 simp only
 rw[if_neg (by omega),if_neg (by omega),if_neg (by omega),if_neg (by omega),if_neg (by omega),if_pos hc,if_pos ⟨rfl,h⟩]
theorem pc_one{c:UInt8}{r:Bs}(hc:clsB c=7∨clsB c=8)(h:c≠33)(hr:¬(r.head? =some 61∧(c=61∨c=33∨c=60))):pieceL (c::r)=(5,1,0):=by
 unfold pieceL
 simp only
 rw[if_neg (by omega),if_neg (by omega),if_neg (by omega),if_neg (by omega),if_neg (by omega),if_pos hc,if_neg hr,if_pos h]
def Up:Int→List Tok→Prop
 |_,[]=>True
 |lo,t::L=>lo≤t.at_∧Up (t.at_+1) L
theorem Up.mono:∀ {L:List Tok} {lo lo':Int},Up lo L→lo'≤lo→Up lo' L
 |[],_,_,_,_=>trivial
 |t::L,lo,lo',h,hl=>⟨by have:=h.1;omega,h.2⟩
theorem ba_toList(s:Str):(⟨s.data.toList.toArray⟩:Str)=s:=by cases s;simp
where piece_ge:∀ u:Bs, -1≤(pieceL u).1
 |[]=>by decide
 |c::r=>by
  unfold pieceL
  simp only
  repeat' split
  all_goals first|decide|(simp only;omega)
set_option linter.unusedSectionVars false
abbrev Pc:=UInt8 ⊕ Tok
def pcS:List Pc→Bs
 |[]=>[]
 | .inl b::L=>b::pcS L
 | .inr t::L=>srcT t++pcS L
def pcT:Int→List Pc→List Tok
 |p,[]=>[⟨6,⟨#[]⟩,p⟩]
 |p,.inl _::L=>pcT (p+1) L
 |p,.inr t::L=>⟨t.kind,t.text,p⟩::pcT (p+(srcT t).length) L
structure TkOk(t:Tok)(r:Bs):Prop where
 kind:1≤t.kind∧t.kind≤5
 ne:srcT t≠[]
 self:pieceL (srcT t++r)=(t.kind,(srcT t).length,0)
def PcOk:List Pc→Prop
 |[]=>True
 | .inl b::L=>clsB b=1∧PcOk L
 | .inr t::L=>TkOk t (pcS L)∧PcOk L
theorem lex_pc:∀ (L:List Pc) (n:Nat) (p:Int),PcOk L→(pcS L).length≤n→lexL n p (-1) (pcS L)=(pcT p L,[])
 |[],n,p,_,_=>by show lexL n p (-1) []=_;rw[lex_nil];rfl
 | .inl b::L,n,p,hg,hn=>by
  simp only[pcS,List.length_cons]at hn
  obtain⟨m,rfl⟩:∃ m,n=m+1:=⟨n-1,by omega⟩
  have hp:pieceL (b::pcS L)=(0,1,0):=by unfold pieceL;simp only;rw[if_pos hg.1]
  rw[pcS,lex_step _ _ _ (by simp),hp]
  simp only
  rw[if_neg (by decide),if_neg (by decide),if_neg (by decide),if_neg (by decide)]
  exact lex_pc L m _ hg.2 (by omega)
 | .inr t::L,n,p,hg,hn=>by
  obtain⟨⟨g1,g2,g3⟩,hg2⟩:=hg
  have hlen:1≤(srcT t).length:=List.length_pos_iff.2 g2
  simp only[pcS,List.length_append]at hn
  obtain⟨m,rfl⟩:∃ m,n=m+1:=⟨n-1,by omega⟩
  have hne:srcT t++pcS L≠[]:=by
   intro h;have:=congrArg List.length h;rw[List.length_append]at this;simp at this;exact g2 this.1
  rw[pcS,lex_step _ _ _ hne,g3]
  simp only
  have hk1:¬t.kind= -1:=by omega
  rw[if_neg hk1,if_neg (by simp)]
  have hdrop:(srcT t++pcS L).drop (srcT t).length=pcS L:=by simp
  have htake:(srcT t++pcS L).take (srcT t).length=srcT t:=by simp
  rw[hdrop,htake,lex_pc L m _ hg2 (by omega)]
  simp only
  by_cases h4:t.kind=4
  ·rw[if_pos h4]
   have hsrc:srcT t=34::(t.text.data.toList++[34]):=by unfold srcT;rw[if_pos h4]
   have:(((srcT t++pcS L).take ((srcT t).length-1)).drop 1)=t.text.data.toList:=by
    rw[hsrc];simp
   rw[this,← h4,ba_toList,pcT]
  ·rw[if_neg h4,if_pos (by omega)]
   have hsrc:(⟨(srcT t).toArray⟩:Str)=t.text:=(congrArg (fun l:Bs=>(⟨l.toArray⟩:Str)) (show srcT t=t.text.data.toList from if_neg h4)).trans (ba_toList _)
   rw[hsrc,pcT]
theorem toks_pc{L:List Pc}(hg:PcOk L):toksL (pcS L)=(pcT 0 L,[]):=by
 unfold toksL
 simp only
 rw[lex_pc L _ 0 hg (Nat.le_refl _)];rfl
theorem pcS_app(A B:List Pc):pcS (A++B)=pcS A++pcS B:=by
 induction A with
 |nil=>rfl
 |cons a A ih=>cases a<;>simp[pcS,ih]
def tW(s:Str):Tok:=⟨1,s,0⟩
def tI(n:Nat):Tok:=⟨2,⟨(Lib.decDigits n).toArray⟩,0⟩
def tS(c:UInt8):Tok:=⟨5,ch c,0⟩
theorem isW_low{n:UInt8}(h:Low n.toNat):clsB n=2:=by
 unfold Low at h
 unfold clsB
 rw[if_neg (by rintro(h|h|h|h)<;>(subst h;revert h;decide)),if_pos (by omega)]
theorem isW_w{n:UInt8}(h:Wch n.toNat):isW n=true:=by
 have key:clsB n=2∨clsB n=3∨clsB n=4:=by
  rcases h with h|h|h
  ·exact .inl (isW_low h)
  ·unfold Dig at h
   unfold clsB
   rw[if_neg (by rintro(h|h|h|h)<;>(subst h;revert h;decide)),if_neg (by omega),if_pos (by omega)]
   exact .inr (.inl rfl)
  ·have:n=95:=UInt8.toNat_inj.1 h
   subst this;decide
 exact decide_eq_true key
theorem cls_dig{n:UInt8}(h:Dig n.toNat):clsB n=3:=by
 unfold Dig at h
 unfold clsB
 rw[if_neg (by rintro(h|h|h|h)<;>(subst h;revert h;decide)),if_neg (by omega),if_pos (by omega)]
theorem bytes_all{s:Str}{P:UInt8→Prop}(h:∀ i,i<s.size→P (byteAt s i)):∀ c∈s.data.toList,P c:=fun c hc=>by
 obtain⟨i,hi,rfl⟩:=List.mem_iff_getElem.1 hc
 have:=h i (by simpa using hi)
 unfold byteAt at this
 rwa [List.getD_eq_getElem?_getD,List.getElem?_eq_getElem hi]at this
theorem tW_ok{s:Str}(h:Word s){r:Bs}(hr:StpB isW r):TkOk (tW s) r:=by
 obtain⟨h1,h2,h3,h4⟩:=h
 have hsrc:srcT (tW s)=s.data.toList:=by unfold srcT tW;exact if_neg (show¬(1:Int)=4 by decide)
 have hall:∀ x∈s.data.toList,isW x=true:=bytes_all fun i hi=>isW_w (h4 i hi)
 have hsz:s.data.toList.length=s.size:=rfl
 refine⟨(show(1:Int)≤1∧(1:Int)≤5 by decide),by rw[hsrc];intro e;rw[e]at hsz;simp at hsz;omega,?_⟩
 rw[hsrc]
 unfold byteAt at h3
 cases e:s.data.toList with
 |nil=>rw[e]at hsz;simp at hsz;omega
 |cons c W=>
  rw[e]at h3 hall hsz
  have h3:Low c.toNat:=h3
  rw[List.cons_append,pc_word (isW_low h3) hall hr,if_neg (by simp at hsz;omega)];rfl
theorem qd_small{n:Nat}(h:n<10):Lib.decDigits n=[UInt8.ofNat (48+n)]:=by rw[Lib.decDigits,dif_pos h]
theorem qd_big{n:Nat}(h:¬n<10):Lib.decDigits n=Lib.decDigits (n / 10)++[UInt8.ofNat (48+n % 10)]:=by rw[Lib.decDigits,dif_neg h]
theorem qd_nat{d:Nat}(h:d<10):(UInt8.ofNat (48+d)).toNat=48+d:=by
 rw[UInt8.toNat_ofNat'];omega
theorem numL_sn(c:UInt8):∀ (l:Bs) (a:Nat),numL (l++[c]) a=10 * numL l a+(c.toNat-48)
 |[],a=>rfl
 |b::l,a=>numL_sn c l _
theorem numL_dd(n:Nat):numL (Lib.decDigits n) 0=n:=by
 induction n using Nat.strongRecOn with
 |_ n ih=>
  by_cases h:n<10
  ·rw[qd_small h];show 10 * 0+_=_;rw[qd_nat h];omega
  ·rw[qd_big h,numL_sn,ih _ (by omega),qd_nat (by omega)];omega
theorem qd_dig(n:Nat):Lib.decDigits n≠[]∧∀ c∈Lib.decDigits n,Dig c.toNat:=by
 induction n using Nat.strongRecOn with
 |_ n ih=>
  by_cases h:n<10
  ·rw[qd_small h];refine⟨by simp,fun c hc=> ?_⟩;rw[List.mem_singleton.1 hc,qd_nat h];unfold Dig;omega
  ·rw[qd_big h];refine⟨by simp,fun c hc=> ?_⟩
   rcases List.mem_append.1 hc with hc|hc
   ·exact(ih _ (by omega)).2 c hc
   ·rw[List.mem_singleton.1 hc,qd_nat (by omega)];unfold Dig;omega
theorem tI_ok{n:Nat}(h:n≤1152921504606846976){r:Bs}(hr:StpB isD r)(hp:r.head?≠some 46):TkOk (tI n) r:=by
 obtain⟨h1,h2⟩:=qd_dig n
 have hsrc:srcT (tI n)=Lib.decDigits n:=by unfold srcT tI;exact if_neg (show¬(2:Int)=4 by decide)
 refine⟨(show(1:Int)≤2∧(2:Int)≤5 by decide),by rw[hsrc];exact h1,?_⟩
 rw[hsrc]
 have hI:intE (Lib.decDigits n)=0:=by unfold intE;rw[numL_dd,if_neg (by omega)]
 have hall:∀ x∈Lib.decDigits n,isD x=true:=fun x hx=>decide_eq_true (cls_dig (h2 x hx))
 cases e:Lib.decDigits n with
 |nil=>exact absurd e h1
 |cons c W=>
  rw[e]at h2 hI hall
  rw[List.cons_append,pc_int (cls_dig (h2 c List.mem_cons_self)) hall hr (fun h=>hp h.1),hI];rfl
theorem tS_ok{c:UInt8}(hc:clsB c=7){r:Bs}(hr:¬((c=61∨c=60)∧r.head? =some 61)):TkOk (tS c) r:=by
 have hsrc:srcT (tS c)=[c]:=rfl
 refine⟨(show(1:Int)≤5∧(5:Int)≤5 by decide),by rw[hsrc];simp,?_⟩
 rw[hsrc]
 have h33:c≠33:=fun e=>by subst e;revert hc;decide
 exact pc_one (.inl hc) h33 fun⟨h1,h2⟩=>hr ⟨h2.elim .inl fun h=>h.elim (fun h=>absurd h h33) .inr,h1⟩
def facP(f:Fac):List Tok:=tW f.name::(if f.exp=1 then[]else tS 94::(if f.exp<0 then[tS 45,tI f.exp.natAbs]else[tI f.exp.natAbs]))
def facsP:List Fac→List Tok
 |[]=>[]
 |[f]=>facP f
 |f::g::l=>facP f++tS 42::facsP (g::l)
abbrev pcs(l:List Tok):List Pc:=l.map .inr
theorem ng{c:UInt8}(h:¬(c=61∨c=60)){p:Prop}:¬((c=61∨c=60)∧p):=fun h2=>h h2.1
def Sgn(r:Bs):Prop:=∃ c t,r=c::t∧clsB c=7
theorem Sgn.stop{r:Bs}(h:Sgn r):StpB isW r∧StpB isD r∧r.head?≠some 46:=by
 obtain⟨c,t,rfl,hc⟩:=h
 have h1:isW c=false:=by unfold isW;simp[hc]
 have h2:isD c=false:=by unfold isD;simp[hc]
 refine⟨.inr ⟨_,_,rfl,h1⟩,.inr ⟨_,_,rfl,h2⟩,fun e=> ?_⟩
 simp only[List.head?_cons,Option.some.injEq]at e
 subst e;revert hc;decide
theorem facP_ok{f:Fac}(hw:Word f.name)(he:f.exp.natAbs≤1152921504606846976){R:List Pc}(hR:PcOk R)(hs:Sgn (pcS R)):PcOk (pcs (facP f)++R):=by
 obtain⟨s1,s2,s3⟩:=hs.stop
 have h94:clsB 94=7:=by decide
 have h45:clsB 45=7:=by decide
 unfold facP
 split
 ·exact⟨tW_ok hw s1,hR⟩
 ·split
  ·exact⟨tW_ok hw (.inr ⟨94,_,rfl,by decide⟩),tS_ok h94 (ng (by decide)),tS_ok h45 (ng (by decide)),tI_ok he s2 s3,hR⟩
  ·exact⟨tW_ok hw (.inr ⟨94,_,rfl,by decide⟩),tS_ok h94 (ng (by decide)),tI_ok he s2 s3,hR⟩
theorem facsP_ok:∀ {l:List Fac},(∀ f∈l,Word f.name∧f.exp.natAbs≤1152921504606846976)→∀ {R:List Pc},PcOk R→Sgn (pcS R)→PcOk (pcs (facsP l)++R)
 |[],_,R,hR,_=>hR
 |[f],h,R,hR,hs=>facP_ok (h f (by simp)).1 (h f (by simp)).2 hR hs
 |f::g::l,h,R,hR,hs=>by
  have ih:=facsP_ok (l:=g::l) (fun x hx=>h x (List.mem_cons_of_mem _ hx)) hR hs
  have:pcs (facsP (f::g::l))++R=pcs (facP f)++(.inr (tS 42)::(pcs (facsP (g::l))++R)):=by simp[facsP,pcs]
  rw[this]
  exact facP_ok (h f (by simp)).1 (h f (by simp)).2 ⟨tS_ok (by decide) (ng (by decide)),ih⟩ ⟨42,_,rfl,by decide⟩
theorem see_t{k:Int}{s:Str}{t:Tok}{L:List Tok}:see k s (t::L)=(decide (t.kind=k) && decide (t.text=s)):=rfl
theorem factor_back{f:Fac}(hn:Name f.name)(he:f.exp.natAbs≤1000)(R:List Pc)(hR:∀ p,see 5 (ch 94) (pcT p R)=false)(p:Int):∃ q,factorP (pcT p (pcs (facP f)++R))= .ok f (pcT q R):=by
 have hname:∀ L:List Tok,nameP (⟨1,f.name,p⟩::L)= .ok f.name L:=fun L=>by
  unfold nameP
  exact(if_neg (show¬¬Name f.name from fun h=>h hn)).trans rfl
 have hnum:∀ (q:Int) (L:List Tok),numP (⟨2,(tI f.exp.natAbs).text,q⟩::L)= .ok (f.exp.natAbs:Int) L:=fun q L=>by
  have:numS (tI f.exp.natAbs).text=(f.exp.natAbs:Int):=by
   show((numL (Lib.decDigits f.exp.natAbs) 0:Nat):Int)=_
   rw[numL_dd]
  show PR.ok (numS (tI f.exp.natAbs).text) L=_
  rw[this]
 have hf:∀ n e,n=f.name→e=f.exp→(⟨n,e⟩:Fac)=f:=fun n e h1 h2=>by subst h1 h2;rfl
 unfold facP
 split
 ·rename_i h1
  refine⟨p+(srcT (tW f.name)).length,?_⟩
  show factorP (⟨1,f.name,p⟩::pcT (p+(srcT (tW f.name)).length) R)=_
  unfold factorP
  rw[hname,PR.bind_ok,if_neg (by rw[hR];decide),hf _ _ rfl h1.symm]
 ·rename_i h1
  split
  ·rename_i h2
   refine⟨p+(srcT (tW f.name)).length+(srcT (tS 94)).length+(srcT (tS 45)).length+(srcT (tI f.exp.natAbs)).length,?_⟩
   show factorP (⟨1,f.name,p⟩::⟨5,ch 94,p+(srcT (tW f.name)).length⟩::⟨5,ch 45,p+(srcT (tW f.name)).length+(srcT (tS 94)).length⟩::⟨2,(tI f.exp.natAbs).text,p+(srcT (tW f.name)).length+(srcT (tS 94)).length+(srcT (tS 45)).length⟩::pcT _ R)=_
   unfold factorP
   rw[hname,PR.bind_ok,if_pos (by rfl),List.tail_cons,if_pos (by rfl),List.tail_cons,hnum]
   refine congrArg (fun x=>PR.ok x _) (hf _ _ rfl ?_)
   omega
  ·rename_i h2
   refine⟨p+(srcT (tW f.name)).length+(srcT (tS 94)).length+(srcT (tI f.exp.natAbs)).length,?_⟩
   show factorP (⟨1,f.name,p⟩::⟨5,ch 94,p+(srcT (tW f.name)).length⟩::⟨2,(tI f.exp.natAbs).text,p+(srcT (tW f.name)).length+(srcT (tS 94)).length⟩::pcT _ R)=_
   unfold factorP
   rw[hname,PR.bind_ok,if_pos (by rfl),List.tail_cons,if_neg (by simp[see_t]),hnum]
   refine congrArg (fun x=>PR.ok x _) (hf _ _ rfl ?_)
   omega
theorem many_back:∀ (l:List Fac),(∀ f∈l,Name f.name∧f.exp.natAbs≤1000)→∀ (n:Nat) (acc:List Fac) (R:List Pc),l.length≤n→(∀ p,see 5 (ch 94) (pcT p R)=false)→(∀ p,see 5 (ch 42) (pcT p R)=false)→
  ∀ p,∃ q,manyP (ch 42) factorP n (pcT p ((l.flatMap fun f=> .inr (tS 42)::pcs (facP f))++R)) acc= .ok (acc++l) (pcT q R)
 |[],_,n,acc,R,_,_,h2,p=>⟨p,by cases n<;>simp[manyP,h2]⟩
 |f::l,hf,0,acc,R,hn,_,_,p=>by simp at hn
 |f::l,hf,n+1,acc,R,hn,h1,h2,p=>by
  have hrest:∀ p,see 5 (ch 94) (pcT p ((l.flatMap fun f=> .inr (tS 42)::pcs (facP f))++R))=false:=fun p=>by
   cases l with
   |nil=>exact h1 p
   |cons g l=>rfl
  obtain⟨q,hq⟩:=factor_back (hf f (by simp)).1 (hf f (by simp)).2 _ hrest (p+(srcT (tS 42)).length)
  obtain⟨q2,hq2⟩:=many_back l (fun x hx=>hf x (List.mem_cons_of_mem _ hx)) n (acc++[f]) R (by simp at hn;omega) h1 h2 q
  refine⟨q2,?_⟩
  have e:pcT p (((f::l).flatMap fun f=> .inr (tS 42)::pcs (facP f))++R)=⟨5,ch 42,p⟩::pcT (p+(srcT (tS 42)).length) (pcs (facP f)++((l.flatMap fun f=> .inr (tS 42)::pcs (facP f))++R)):=by
   simp only[List.flatMap_cons,List.cons_append,List.append_assoc];rfl
  rw[e]
  unfold manyP
  rw[if_pos (by rfl),List.tail_cons,hq,PR.bind_ok,hq2]
  simp
theorem facsP_cons(f:Fac):∀ (l:List Fac),pcs (facsP (f::l))=pcs (facP f)++(l.flatMap fun f=> .inr (tS 42)::pcs (facP f))
 |[]=>by simp[facsP]
 |g::l=>by
  have:=facsP_cons g l
  show pcs (facP f++tS 42::facsP (g::l))=_
  simp only[pcs,List.map_append,List.map_cons]at this ⊢
  rw[this];simp
theorem list_back(l:List Fac)(hl:l≠[])(hf:∀ f∈l,Name f.name∧f.exp.natAbs≤1000)(hn:l.length≤1000)(R:List Pc)(h1:∀ p,see 5 (ch 94) (pcT p R)=false)(h2:∀ p,see 5 (ch 42) (pcT p R)=false)(p:Int):∃ q,listP (ch 42) factorP (pcT p (pcs (facsP l)++R))= .ok l (pcT q R):=by
 cases l with
 |nil=>exact absurd rfl hl
 |cons f l=>
  have hrest:∀ p,see 5 (ch 94) (pcT p ((l.flatMap fun f=> .inr (tS 42)::pcs (facP f))++R))=false:=fun p=>by
   cases l with
   |nil=>exact h1 p
   |cons g l=>rfl
  obtain⟨q,hq⟩:=factor_back (hf f (by simp)).1 (hf f (by simp)).2 _ hrest p
  obtain⟨q2,hq2⟩:=many_back l (fun x hx=>hf x (List.mem_cons_of_mem _ hx)) N0 [f] R (by simp at hn;show _≤1000000;omega) h1 h2 q
  refine⟨q2,?_⟩
  rw[facsP_cons,List.append_assoc]
  unfold listP
  rw[hq,PR.bind_ok,hq2];rfl
def unitB(l:List Fac):List Tok:=tS 91::(facsP l++[tS 93])
theorem unit_back(l:List Fac)(hl:l≠[])(hf:∀ f∈l,Name f.name∧f.exp.natAbs≤1000)(hn:l.length≤1000)(R:List Pc)(p:Int):
  ∃ q,unitP (pcT p (pcs (unitB l)++R))=if(normU l).2≠0 then .err p (normU l).2 else .ok (normU l).1 (pcT q R):=by
 have e:pcs (unitB l)++R= .inr (tS 91)::(pcs (facsP l)++ .inr (tS 93)::R):=by simp[unitB]
 obtain⟨q,hq⟩:=list_back l hl hf hn (.inr (tS 93)::R) (fun p=>by rfl) (fun p=>by rfl) (p+(srcT (tS 91)).length)
 refine⟨q+(srcT (tS 93)).length,?_⟩
 rw[e]
 unfold unitP
 rw[if_pos (by rfl)]
 show(listP (ch 42) factorP (pcT (p+(srcT (tS 91)).length) (pcs (facsP l)++ .inr (tS 93)::R))).bind _=_
 rw[hq,PR.bind_ok]
 rfl
set_option linter.unusedSectionVars false
def tO(s:Str):Tok:=⟨5,s,0⟩
def tT(s:Str):Tok:=⟨4,s,0⟩
def tD(n:Nat):Tok:=⟨3,decS n,0⟩
abbrev sp:Pc:= .inl 32
abbrev pw(s:Str):Pc:= .inr (tW s)
abbrev ps(c:UInt8):Pc:= .inr (tS c)
def tOp(s:Str):Tok:=if s=wOr∨s=wAnd then tW s else tO s
def pcUnit(u:List Fac):List Pc:=if u=[]then[]else sp::pcs (unitB u)
def pcLit(x:Ex):List Pc:=
 if x.val.kind=5 then[ps 64,pw x.name,sp,.inr (tT x.val.s)]
 else if x.val.kind=1 then pw (boolS x.val.n)::pcUnit x.unit
 else if x.val.kind=2 then .inr (tI x.val.n.toNat)::pcUnit x.unit
 else if x.val.kind=3 then .inr (tD x.val.n.toNat)::pcUnit x.unit
 else .inr (tT x.val.s)::pcUnit x.unit
def pcPar(T:List Pc):List Pc:=ps 40::(T++[ps 41])
def pcAt(x:Ex)(T:Nat→List Pc)(i:Nat)(r:Int):List Pc:=if rank (x.args.getD i default)<r then pcPar (T i)else T i
def pcWin(w:Win):List Pc:=
 if w.kind=2 then[pw wSli,sp,.inr (tI w.size.toNat)]else if w.kind=3 then[pw wTum,sp,.inr (tI w.size.toNat)]
 else if w.kind=4 then[pw wSes,sp,.inr (tI w.size.toNat)]else[pw wAll]
def pcAgg(x:Ex)(T:Nat→List Pc):List Pc:=
 pw x.op::ps 40::pw x.table::((if x.op=cnt then[]else ps 44::sp::T 0)++((if x.param=0 then[]else[ps 44,sp,.inr (tI x.param.toNat)])
  ++(ps 44::sp::(pcWin x.win++((if x.args.getD 1 default=tru then[]else sp::pw wWhere::sp::T 1)++[ps 41])))))
def pcUn(x:Ex)(T:Nat→List Pc):List Pc:=
 if x.op=ch 45 then ps 45::pcAt x T 0 8 else if x.op=wNot then pw wNot::sp::pcAt x T 0 4 else pw wNull::pcPar (T 0)
def pcBin(x:Ex)(T:Nat→List Pc):List Pc:=pcAt x T 0 (leftR x)++(sp:: .inr (tOp x.op)::sp::pcAt x T 1 (rank x+1))
def pcIf(T:Nat→List Pc):List Pc:=pw wIf::sp::(T 0++(sp::pw wThen::sp::(T 1++(sp::pw wElse::sp::T 2))))
def pcDef(x:Ex)(T:Nat→List Pc):List Pc:=pcAt x T 0 1++(sp::pw wDef::sp::pcAt x T 1 2)
def pcF(x:Ex)(T:Nat→List Pc):List Pc:=
 if x.kind=1 then pcLit x else if x.kind=4 then pw x.name::sp::pw wOf::sp::pcPar (T 0)else if x.kind=5 then pcAgg x T
 else if x.kind=6 then pcUn x T else if x.kind=7 then pcBin x T else if x.kind=8 then pcIf T else if x.kind=9 then pcDef x T else[pw x.name]
mutual
def pc:Ex→List Pc
 | .mk k o n t v u p w ks=>pcF (.mk k o n t v u p w ks) (fun i=>(pcL ks).getD i [])
def pcL:List Ex→List (List Pc)
 |[]=>[]
 |x::l=>pc x::pcL l
end
def pca(x:Ex)(i:Nat):List Pc:=(pcL x.args).getD i []
theorem pc_eq(x:Ex):pc x=pcF x (pca x):=by cases x;rfl
theorem pcL_at:∀ (l:List Ex) (i:Nat),i<l.length→(pcL l).getD i []=pc (l.getD i default)
 |[],_,h=>absurd h (by simp)
 |x::l,0,_=>rfl
 |x::l,i+1,h=>by
  have:=pcL_at l i (by simpa using h)
  simpa[pcL]using this
theorem pca_at{x:Ex}{i:Nat}(h:i<x.args.length):pca x i=pc (x.args.getD i default):=pcL_at _ _ h
def bL(s:Str):Bs:=s.data.toList
theorem bL_app(a b:Str):bL (a++b)=bL a++bL b:=str_app a b
theorem src_tO(s:Str):srcT (tO s)=bL s:=rfl
theorem src_tT(s:Str):srcT (tT s)=34::(bL s++[34]):=rfl
theorem src_tD(n:Nat):srcT (tD n)=bL (decS n):=rfl
theorem src_tI(n:Nat):srcT (tI n)=Lib.decDigits n:=rfl
theorem src_tOp(s:Str):srcT (tOp s)=bL s:=by unfold tOp;split<;>rfl
theorem pcS_w(s:Str)(L:List Pc):pcS (pw s::L)=bL s++pcS L:=rfl
theorem pcS_s(c:UInt8)(L:List Pc):pcS (ps c::L)=c::pcS L:=rfl
theorem pcS_b(c:UInt8)(L:List Pc):pcS (.inl c::L)=c::pcS L:=rfl
theorem pcS_t(t:Tok)(L:List Pc):pcS (.inr t::L)=srcT t++pcS L:=rfl
theorem pcS_nil:pcS []=[]:=rfl
theorem unitS_b(u:List Fac):bL (unitS u)=[42].intercalate (u.map fun f=>bL (facS f)):=by
 show[42].intercalate ((u.map facS).map (·.data.toList))=_
 rw[List.map_map];rfl
theorem itoa_b(n:Int):bL (itoaS n)=if n<0 then 45::Lib.decDigits n.natAbs else Lib.decDigits n.natAbs:=by
 unfold bL itoaS
 by_cases h:n<0
 ·obtain⟨d,rfl⟩:∃ d:Nat,n= -(d:Int):=⟨n.natAbs,by omega⟩
  rw[if_pos h,Lib.itoa_neg d (by omega),Int.natAbs_neg,Int.natAbs_natCast]
 ·obtain⟨d,rfl⟩:∃ d:Nat,n=(d:Int):=⟨n.toNat,by omega⟩
  rw[if_neg h,Lib.itoa_nonneg,Int.natAbs_natCast]
theorem facP_b(f:Fac):pcS (pcs (facP f))=bL (facS f):=by
 unfold facP facS
 by_cases h:f.exp=1
 ·rw[if_pos h,if_pos h]
  show bL f.name++[]=_
  rw[List.append_nil]
 ·rw[if_neg h,if_neg h,bL_app,bL_app,itoa_b]
  by_cases h2:f.exp<0
  ·rw[if_pos h2,if_pos h2]
   show bL f.name++([94]++([45]++(Lib.decDigits f.exp.natAbs++[])))=bL f.name++([94]++_)
   simp
  ·rw[if_neg h2,if_neg h2]
   show bL f.name++([94]++(Lib.decDigits f.exp.natAbs++[]))=bL f.name++([94]++_)
   simp
theorem intc_cons(a b:Bs)(l:List Bs):[42].intercalate (a::b::l)=a++42::[42].intercalate (b::l):=by simp[List.intercalate,List.intersperse]
theorem facsP_b:∀ l:List Fac,pcS (pcs (facsP l))=bL (unitS l)
 |[]=>rfl
 |[f]=>by
  rw[unitS_b]
  show pcS (pcs (facP f))=[42].intercalate [bL (facS f)]
  rw[facP_b];simp[List.intercalate]
 |f::g::l=>by
  have e:bL (unitS (f::g::l))=bL (facS f)++42::bL (unitS (g::l)):=by
   rw[unitS_b,unitS_b];exact intc_cons _ _ _
  have e2:pcs (facsP (f::g::l))=pcs (facP f)++(.inr (tS 42)::pcs (facsP (g::l))):=by simp[facsP,pcs]
  rw[e,e2,pcS_app,facP_b]
  show _++([42]++pcS (pcs (facsP (g::l))))=_
  rw[facsP_b (g::l)];rfl
theorem unit_b(u:List Fac):pcS (pcUnit u)=bL (unitT u):=by
 unfold pcUnit unitT
 by_cases h:u=[]
 ·rw[if_pos h,if_pos h];rfl
 ·rw[if_neg h,if_neg h]
  have e:pcs (unitB u)= .inr (tS 91)::(pcs (facsP u)++[.inr (tS 93)]):=by simp[unitB]
  rw[e]
  show 32::91::pcS (pcs (facsP u)++[.inr (tS 93)])=_
  rw[pcS_app,facsP_b,bL_app,bL_app];rfl
theorem int_b(n:Int):bL (intS n)=Lib.decDigits n.toNat:=rfl
theorem lit_b{x:Ex}(hk:x.val.kind=1∨x.val.kind=2∨x.val.kind=3∨x.val.kind=4∨x.val.kind=5):pcS (pcLit x)=bL (litT x):=by
 unfold pcLit litT
 by_cases k5:x.val.kind=5
 ·rw[if_pos k5,if_pos k5]
  simp only[bL_app,pcS_w,pcS_s,pcS_b,pcS_t,pcS_nil,src_tT]
  show 64::(bL x.name++32::(34::(bL x.val.s++[34])++[]))=[64]++(bL x.name++([32,34]++(bL x.val.s++[34])))
  simp
 rw[if_neg k5,if_neg k5,bL_app]
 unfold valS
 by_cases k1:x.val.kind=1
 ·rw[if_pos k1,if_pos k1,pcS_w,unit_b]
 rw[if_neg k1,if_neg k1]
 by_cases k2:x.val.kind=2
 ·rw[if_pos k2,if_pos k2,pcS_t,unit_b,src_tI,int_b]
 rw[if_neg k2,if_neg k2]
 by_cases k3:x.val.kind=3
 ·rw[if_pos k3,if_pos k3,pcS_t,unit_b,src_tD]
 have k4:x.val.kind=4:=by omega
 rw[if_neg k3,if_neg k3,if_pos k4,pcS_t,unit_b,src_tT,bL_app,bL_app]
 rfl
theorem par_b{T:List Pc}{s:Str}(h:pcS T=bL s):pcS (pcPar T)=bL (par s):=by
 unfold pcPar par
 rw[pcS_s,pcS_app,h,bL_app,bL_app];rfl
theorem at_b{x:Ex}{T:Nat→List Pc}{S:Nat→Str}{i:Nat}{r:Int}(h:pcS (T i)=bL (S i)):pcS (pcAt x T i r)=bL (atF x S i r):=by
 unfold pcAt atF
 split
 ·exact par_b h
 ·exact h
theorem win_b(w:Win):pcS (pcWin w)=bL (winT w):=by
 unfold pcWin winT
 split
 ·rw[bL_app,int_b];simp only[pcS_w,pcS_b,pcS_t,pcS_nil,src_tI,List.append_nil];rfl
 split
 ·rw[bL_app,int_b];simp only[pcS_w,pcS_b,pcS_t,pcS_nil,src_tI,List.append_nil];rfl
 split
 ·rw[bL_app,int_b];simp only[pcS_w,pcS_b,pcS_t,pcS_nil,src_tI,List.append_nil];rfl
 ·rfl
theorem agg_b{x:Ex}{T:Nat→List Pc}{S:Nat→Str}(h0:pcS (T 0)=bL (S 0))(h1:pcS (T 1)=bL (S 1)):pcS (pcAgg x T)=bL (aggT x S):=by
 unfold pcAgg aggT
 simp only[bL_app,pcS_w,pcS_s,pcS_app,win_b]
 have e1:pcS (if x.op=cnt then[]else ps 44::sp::T 0)=bL (if x.op=cnt then⟨#[]⟩else⟨#[44,32]⟩++S 0):=by
  split
  ·rfl
  ·rw[bL_app,← h0];rfl
 have e2:pcS (if x.param=0 then[]else[ps 44,sp,.inr (tI x.param.toNat)])=bL (if x.param=0 then⟨#[]⟩else⟨#[44,32]⟩++intS x.param):=by
  split
  ·rfl
  ·rw[bL_app,int_b,pcS_s,pcS_b,pcS_t,src_tI,pcS_nil,List.append_nil];rfl
 have e3:pcS (if x.args.getD 1 default=tru then[]else sp::pw wWhere::sp::T 1)=bL (if x.args.getD 1 default=tru then⟨#[]⟩else⟨#[32,119,104,101,114,101,32]⟩++S 1):=by
  split
  ·rfl
  ·rw[bL_app,← h1];rfl
 rw[e1,e2]
 show bL x.op++40::(bL x.table++(_++(_++(44::pcS (sp::(pcWin x.win++(_++[ps 41])))))))=_
 rw[pcS_b,pcS_app,pcS_app,win_b,e3]
 rfl
theorem un_b{x:Ex}{T:Nat→List Pc}{S:Nat→Str}(h0:pcS (T 0)=bL (S 0)):pcS (pcUn x T)=bL (unT x S):=by
 unfold pcUn unT
 split
 ·rw[pcS_s,at_b h0,bL_app];rfl
 split
 ·rw[pcS_w,pcS_b,at_b h0,bL_app];rfl
 ·rw[pcS_w,par_b h0,bL_app]
  unfold par
  rw[bL_app,bL_app];rfl
theorem bin_b{x:Ex}{T:Nat→List Pc}{S:Nat→Str}(h0:pcS (T 0)=bL (S 0))(h1:pcS (T 1)=bL (S 1)):pcS (pcBin x T)=bL (binT x S):=by
 unfold pcBin binT
 rw[pcS_app,at_b h0,pcS_b,pcS_t,src_tOp,pcS_b,at_b h1]
 simp only[bL_app];rfl
theorem if_b{T:Nat→List Pc}{S:Nat→Str}{x:Ex}(h0:pcS (T 0)=bL (S 0))(h1:pcS (T 1)=bL (S 1))(h2:pcS (T 2)=bL (S 2)):pcS (pcIf T)=bL (ifT x S):=by
 unfold pcIf ifT
 simp only[pcS_w,pcS_b,pcS_app,h0,h1,h2,bL_app];rfl
theorem def_b{x:Ex}{T:Nat→List Pc}{S:Nat→Str}(h0:pcS (T 0)=bL (S 0))(h1:pcS (T 1)=bL (S 1)):pcS (pcDef x T)=bL (defT x S):=by
 unfold pcDef defT
 rw[pcS_app,at_b h0,pcS_b,pcS_w,pcS_b,at_b h1]
 simp only[bL_app];rfl
theorem lit_kinds{x:Ex}(h:litOK x):x.val.kind=1∨x.val.kind=2∨x.val.kind=3∨x.val.kind=4∨x.val.kind=5:=by
 have h3:=h.2.2.1
 unfold tyErr at h3
 split at h3
 ·omega
 ·rename_i h4
  simp only at h4
  omega
theorem nodeB_lit{x:Ex}{ins:Bool}(h:nodeB x ins)(hk:x.kind=1):litOK x:=by
 unfold nodeB at h
 rwa [if_pos hk]at h
theorem pc_b(x:Ex):∀ ins,form ins x=true→pcS (pc x)=bL (text x):=by
 induction x using Ex.ind with
 |h x ih=>
 intro ins hf
 have F:=FOK.of hf
 have hsub:∀ i,i<x.args.length→pcS (pca x i)=bL (tx x i):=fun i hi=>by
  rw[pca_at hi,tx_at hi]
  exact ih _ (getD_mem hi) _ (F.sub _ (getD_mem hi))
 have hn:=F.nn
 rw[pc_eq,text_eq]
 unfold pcF textF
 by_cases k1:x.kind=1
 ·rw[if_pos k1,if_pos k1];exact lit_b (lit_kinds (nodeB_lit F.nb k1))
 rw[if_neg k1,if_neg k1]
 unfold nodeN at hn
 by_cases k4:x.kind=4
 ·rw[if_pos k4,if_pos k4]
  rw[if_pos (.inl k4)]at hn
  rw[pcS_w,pcS_b,pcS_w,pcS_b,par_b (hsub 0 (by omega))]
  unfold par
  simp only[bL_app];rfl
 rw[if_neg k4,if_neg k4]
 by_cases k5:x.kind=5
 ·rw[if_pos k5,if_pos k5]
  rw[if_neg (by omega),if_pos (.inl k5)]at hn
  exact agg_b (hsub 0 (by omega)) (hsub 1 (by omega))
 rw[if_neg k5,if_neg k5]
 by_cases k6:x.kind=6
 ·rw[if_pos k6,if_pos k6]
  rw[if_pos (.inr k6)]at hn
  exact un_b (hsub 0 (by omega))
 rw[if_neg k6,if_neg k6]
 by_cases k7:x.kind=7
 ·rw[if_pos k7,if_pos k7]
  rw[if_neg (by omega),if_pos (.inr (.inl k7))]at hn
  exact bin_b (hsub 0 (by omega)) (hsub 1 (by omega))
 rw[if_neg k7,if_neg k7]
 by_cases k8:x.kind=8
 ·rw[if_pos k8,if_pos k8]
  rw[if_neg (by omega),if_neg (by omega),if_pos k8]at hn
  exact if_b (hsub 0 (by omega)) (hsub 1 (by omega)) (hsub 2 (by omega))
 rw[if_neg k8,if_neg k8]
 by_cases k9:x.kind=9
 ·rw[if_pos k9,if_pos k9]
  rw[if_neg (by omega),if_pos (.inr (.inr k9))]at hn
  exact def_b (hsub 0 (by omega)) (hsub 1 (by omega))
 rw[if_neg k9,if_neg k9,pcS_w,pcS_nil,List.append_nil]
set_option linter.unusedSectionVars false
structure Fl(r:Bs):Prop where
 w:StpB isW r
 dot:r.head?≠some 46
theorem Fl.cons{c:UInt8}{r:Bs}(h:isW c=false)(h2:c≠46):Fl (c::r):=⟨.inr ⟨c,r,rfl,h⟩,fun e=>h2 (Option.some.inj e)⟩
theorem Fl.nil:Fl []:=⟨.inl rfl,by simp⟩
theorem Fl.d{r:Bs}(h:Fl r):StpB isD r:=by
 rcases h.w with h1|⟨x,t,h1,h2⟩
 ·exact .inl h1
 ·refine .inr ⟨x,t,h1,?_⟩
  unfold isW at h2
  unfold isD
  simp only[decide_eq_false_iff_not]at h2 ⊢
  exact fun e=>h2 (.inr (.inl e))
theorem tyB{t:Ty}(h:tyErr t=0):(1≤t.kind∧t.kind≤5)∧(t.unit≠[]→Num t)∧(t.kind=5→Name t.of)∧(t.kind≠5→t.of=⟨#[]⟩)∧(∀ f∈t.unit,Name f.name)∧unitErr t.unit=0:=by
 unfold tyErr at h
 split at h
 ·omega
 ·split at h
  ·omega
  ·refine⟨by omega,by grind,by grind,by grind,by grind,by grind⟩
theorem valB{v:Val}(h:valErr v=0):fieldsOK v∧v.n≤1152921504606846976∧(v.kind=4→v.s.size≤64∧Prt v.s 32)∧(v.kind=5→1≤v.s.size∧v.s.size≤32∧Prt v.s 33):=by
 unfold valErr at h
 split at h
 ·omega
 ·split at h
  ·omega
  ·split at h
   ·omega
   ·rename_i h1 h2 h3
    refine⟨by grind,by omega,fun h4=>⟨by omega,by grind⟩,fun h5=>⟨?_,by omega,by grind⟩⟩
    have:¬v.s=⟨#[]⟩:=fun e=>h3 (.inr ⟨h5,.inl e⟩)
    have h0:v.s.size≠0:=fun e=>this (size_zero.1 e)
    omega
theorem prt_all{s:Str}{low:Nat}(h:Prt s low)(hl:32≤low):∀ c∈bL s,(c != 34 && c != 10)=true∧¬(c.toNat<32∨c.toNat>126∨c=92)∧low≤c.toNat:=fun c hc=>by
 have:=bytes_all (P:=fun b=>pr low b) h c hc
 unfold pr at this
 have h1:c≠34:=fun e=>this.2.2.1 (by rw[e];rfl)
 have h2:c≠10:=fun e=>by rw[e]at this;have:=this.1;simp at this;omega
 have h3:c≠92:=fun e=>this.2.2.2 (by rw[e];rfl)
 refine⟨by simp[h1,h2],?_,this.1⟩
 rintro(k|k|k)
 ·omega
 ·omega
 ·exact h3 k
theorem tT_ok{s:Str}{low:Nat}(h:Prt s low)(hl:32≤low)(hs:s.size≤64)(r:Bs):TkOk (tT s) r:=by
 have ha:=prt_all h hl
 refine⟨(show(1:Int)≤4∧(4:Int)≤5 by decide),by rw[src_tT];simp,?_⟩
 rw[src_tT]
 have:=pc_text (r:=r) (W:=bL s) fun x hx=>(ha x hx).1
 have e:(34::(bL s++[34]))++r=34::(bL s++34::r):=by simp
 rw[e,this]
 have hu:unfitE (bL s)=0:=by
  unfold unfitE
  rw[if_neg (show¬(bL s).length>64 by show¬s.size>64;omega),if_neg (fun⟨c,hc,k⟩=>(ha c hc).2.1 k)]
 rw[hu]
 simp[tT]
theorem lowD_d:∀ (k x:Nat),∀ c∈lowD k x,Dig c.toNat
 |0,x,c,hc=>by cases hc
 |k+1,x,c,hc=>by
  rw[lowD]at hc
  rcases List.mem_append.1 hc with hc|hc
  ·exact lowD_d k _ c hc
  ·rw[List.mem_singleton.1 hc,qd_nat (by omega)];unfold Dig;omega
theorem numL_low:∀ (k x:Nat) (l:Bs),numL (l++lowD k x) 0=numL l 0 * 10 ^ k+x % 10 ^ k
 |0,x,l=>by simp[lowD,Nat.mod_one]
 |k+1,x,l=>by
  rw[lowD,← List.append_assoc,numL_sn,numL_low k (x / 10) l,qd_nat (by omega)]
  have h1:x % 10 ^ (k+1)=x % 10+10 * (x / 10 % 10 ^ k):=by rw[Nat.pow_succ,Nat.mul_comm (10 ^ k),Nat.mod_mul]
  rw[h1,Nat.pow_succ]
  have:10 * (numL l 0 * 10 ^ k+x / 10 % 10 ^ k)=numL l 0 * (10 ^ k * 10)+10 * (x / 10 % 10 ^ k):=by
   rw[Nat.mul_add,← Nat.mul_assoc,Nat.mul_comm 10 (numL l 0),Nat.mul_assoc,Nat.mul_comm 10]
  omega
theorem decS_b(n:Nat):bL (decS n)=Lib.decDigits (n / 10 ^ 6)++46::lowD 6 n:=by simp[bL,decS]
theorem dcp(n:Nat):((bL (decS n)).takeWhile fun b=>b != 46)=Lib.decDigits (n / 10 ^ 6)∧((bL (decS n)).dropWhile fun b=>b != 46).drop 1=lowD 6 n:=by
 have hd:=(qd_dig (n / 10 ^ 6)).2
 have h1:∀ c∈Lib.decDigits (n / 10 ^ 6),(c != 46)=true:=fun c hc=>by
  have:=hd c hc
  unfold Dig at this
  rw[bne_iff_ne]
  rintro rfl
  revert this;decide
 rw[decS_b]
 have e1:∀ l:Bs,(∀ c∈l,(c != 46)=true)→((l++46::lowD 6 n).takeWhile fun b=>b != 46)=l∧((l++46::lowD 6 n).dropWhile fun b=>b != 46)=46::lowD 6 n:=fun l=>by
  induction l with
  |nil=>intro _;exact⟨rfl,rfl⟩
  |cons c l ih=>
   intro h
   obtain⟨i1,i2⟩:=ih fun x hx=>h x (List.mem_cons_of_mem _ hx)
   have hc:=h c List.mem_cons_self
   simp only[List.cons_append,List.takeWhile_cons,List.dropWhile_cons,hc,if_true,i1,i2]
   exact⟨trivial,trivial⟩
 obtain⟨a,b⟩:=e1 _ h1
 exact⟨a,by rw[b];rfl⟩
theorem dec_num(n:Nat):numL (Lib.decDigits (n / 10 ^ 6)++lowD 6 n) 0=n:=by
 rw[numL_low,numL_dd];exact Nat.div_add_mod' n (10 ^ 6)
theorem decV_b(n:Nat):decV (decS n)=n:=by
 obtain⟨h1,h2⟩:=dcp n
 unfold decV
 simp only
 show(numL (((bL (decS n)).takeWhile fun b=>b != 46)++((bL (decS n)).dropWhile fun b=>b != 46).drop 1) 0:Int) * 10 ^ (6-(((bL (decS n)).dropWhile fun b=>b != 46).drop 1).length)=_
 rw[h1,h2,dec_num,lowD_len];simp
theorem tD_ok{n:Nat}(hn:n≤1152921504606846976){r:Bs}(hr:Fl r):TkOk (tD n) r:=by
 obtain⟨q1,q2⟩:=qd_dig (n / 10 ^ 6)
 obtain⟨h1,h2⟩:=dcp n
 have hE:decE (bL (decS n))=0:=by
  unfold decE
  simp only
  rw[h1,h2,dec_num,lowD_len,if_neg (by decide),if_neg (by omega)]
 refine⟨(show(1:Int)≤3∧(3:Int)≤5 by decide),by rw[src_tD,decS_b];simp,?_⟩
 rw[src_tD]
 have hb:=decS_b n
 have hV:∀ x∈lowD 6 n,isD x=true:=fun x hx=>decide_eq_true (cls_dig (lowD_d 6 n x hx))
 have hv:lowD 6 n≠[]:=by intro e;have:=lowD_len 6 n;rw[e]at this;cases this
 cases e:Lib.decDigits (n / 10 ^ 6)with
 |nil=>exact absurd e q1
 |cons c W=>
  rw[e]at hb q2
  have hW:∀ x∈c::W,isD x=true:=fun x hx=>decide_eq_true (cls_dig (q2 x hx))
  have:=pc_dec (r:=r) (cls_dig (q2 c List.mem_cons_self)) hW hV hv hr.d
  have e2:bL (decS n)++r=c::(W++46::(lowD 6 n++r)):=by rw[hb];simp
  rw[e2,this]
  have e3:c::(W++46::lowD 6 n)=bL (decS n):=by rw[hb];rfl
  rw[e3,hE,hb]
  simp[tD];omega
theorem tOp_ok:∀ s∈binL,∀ t:Bs,TkOk (tOp s) (32::t):=by
 intro s hs t
 have hf:Fl (32::t):= .cons (by decide) (by decide)
 have one:∀ c:UInt8,clsB c=7→TkOk (tS c) (32::t):=fun c hc=>tS_ok hc fun⟨_,h⟩=>absurd (Option.some.inj h) (by decide)
 have two:∀ c:UInt8,(clsB c=7∨clsB c=8)→(c=61∨c=33∨c=60)→TkOk (tO ⟨#[c,61]⟩) (32::t):=fun c h1 h2=>⟨(show(1:Int)≤5∧(5:Int)≤5 by decide),by rw[src_tO];simp[bL],by
  show pieceL (c::61::32::t)=_
  rw[pc_two _ h1 h2];rfl⟩
 simp only[binL,List.mem_cons,List.not_mem_nil,or_false]at hs
 rcases hs with rfl|rfl|rfl|rfl|rfl|rfl|rfl|rfl|rfl|rfl
 ·exact one 43 (by decide)
 ·exact one 45 (by decide)
 ·exact one 42 (by decide)
 ·exact one 47 (by decide)
 ·exact two 61 (by decide) (by decide)
 ·exact two 33 (by decide) (by decide)
 ·exact one 60 (by decide)
 ·exact two 60 (by decide) (by decide)
 ·exact tW_ok (by decide) hf.w
 ·exact tW_ok (by decide) hf.w
set_option linter.unusedSectionVars false
section
variable {R:List Pc}
theorem ok_sp(h:PcOk R):PcOk (sp::R):=⟨by decide,h⟩
theorem fl_sp:Fl (pcS (sp::R)):= .cons (by decide) (by decide)
theorem ok_w{s:Str}(hs:Word s)(hf:Fl (pcS R))(h:PcOk R):PcOk (pw s::R):=⟨tW_ok hs hf.w,h⟩
theorem ok_s{c:UInt8}(hc:clsB c=7)(hn:¬(c=61∨c=60))(h:PcOk R):PcOk (ps c::R):=⟨tS_ok hc (ng hn),h⟩
theorem ok_i{n:Nat}(hn:n≤1152921504606846976)(hf:Fl (pcS R))(h:PcOk R):PcOk (.inr (tI n)::R):=⟨tI_ok hn hf.d hf.dot,h⟩
theorem fl_s{c:UInt8}(hc:clsB c=7):Fl (pcS (ps c::R)):=by
 have h:Fl (c::pcS R):= .cons (by unfold isW;simp[hc]) (fun e=>by subst e;revert hc;decide)
 exact h
theorem ok_unit{u:List Fac}(hu:∀ f∈u,Word f.name∧f.exp.natAbs≤1152921504606846976)(h:PcOk R):PcOk (pcUnit u++R):=by
 unfold pcUnit
 split
 ·exact h
 ·have e:(sp::pcs (unitB u))++R=sp::(ps 91::(pcs (facsP u)++ps 93::R)):=by simp[unitB]
  rw[e]
  exact ok_sp (ok_s (by decide) (by decide) (facsP_ok hu (ok_s (by decide) (by decide) h) ⟨93,_,rfl,by decide⟩))
theorem fl_unit{u:List Fac}(h:Fl (pcS R)):Fl (pcS (pcUnit u++R)):=by
 unfold pcUnit
 split
 ·exact h
 ·exact fl_sp
theorem unit_words{u:List Fac}(hN:∀ f∈u,Name f.name)(hE:unitErr u=0):∀ f∈u,Word f.name∧f.exp.natAbs≤1152921504606846976:=fun f hf=>by
 have:=(unit_facs hE).2 f hf
 unfold FacOK at this
 exact⟨(hN f hf).1,by omega⟩
theorem ok_lit{x:Ex}(hx:litOK x)(hf:Fl (pcS R))(h:PcOk R):PcOk (pcLit x++R):=by
 obtain⟨h1,h2,h3,h4⟩:=hx
 obtain⟨v1,v2,v3,v4⟩:=valB h1
 obtain⟨t1,t2,t3,t4,t5,t6⟩:=tyB h3
 simp only at t1 t2 t3 t4 t5 t6
 have hu:=ok_unit (R:=R) (unit_words t5 t6) h
 have hfu:=fl_unit (u:=x.unit) hf
 unfold pcLit
 by_cases k5:x.val.kind=5
 ·rw[if_pos k5]
  obtain⟨q1,q2,q3⟩:=v4 k5
  exact ok_s (by decide) (by decide) (ok_w (t3 k5).1 fl_sp (ok_sp ⟨tT_ok q3 (by decide) (by omega) _,h⟩))
 rw[if_neg k5]
 by_cases k1:x.val.kind=1
 ·rw[if_pos k1]
  refine ok_w ?_ hfu hu
  unfold boolS
  split<;>decide
 rw[if_neg k1]
 by_cases k2:x.val.kind=2
 ·rw[if_pos k2]
  exact ok_i (by omega) hfu hu
 rw[if_neg k2]
 by_cases k3:x.val.kind=3
 ·rw[if_pos k3]
  exact⟨tD_ok (by omega) hfu,hu⟩
 rw[if_neg k3]
 obtain⟨q1,q2⟩:=v3 (by omega)
 exact⟨tT_ok q2 (by decide) q1 _,hu⟩
theorem ok_par{T:List Pc}(hT:∀ R,Fl (pcS R)→PcOk R→PcOk (T++R))(h:PcOk R):PcOk (pcPar T++R):=by
 have e:pcPar T++R=ps 40::(T++ps 41::R):=by simp[pcPar]
 rw[e]
 exact ok_s (by decide) (by decide) (hT _ (fl_s (by decide)) (ok_s (by decide) (by decide) h))
theorem ok_at{x:Ex}{T:Nat→List Pc}{i:Nat}{r:Int}(hT:∀ R,Fl (pcS R)→PcOk R→PcOk (T i++R))(hf:Fl (pcS R))(h:PcOk R):PcOk (pcAt x T i r++R):=by
 unfold pcAt
 split
 ·exact ok_par hT h
 ·exact hT R hf h
theorem ok_win{w:Win}(hw:winOK w)(hf:Fl (pcS R))(h:PcOk R):PcOk (pcWin w++R):=by
 unfold winOK at hw
 unfold pcWin
 split
 ·exact ok_w (by decide) fl_sp (ok_sp (ok_i (by omega) hf h))
 split
 ·exact ok_w (by decide) fl_sp (ok_sp (ok_i (by omega) hf h))
 split
 ·exact ok_w (by decide) fl_sp (ok_sp (ok_i (by omega) hf h))
 ·exact ok_w (by decide) hf h
theorem agg_word:∀ y∈aggL,Word y:=by decide
theorem ok_agg{x:Ex}(hx:aggOK x){T:Nat→List Pc}(h0:∀ R,Fl (pcS R)→PcOk R→PcOk (T 0++R))(h1:∀ R,Fl (pcS R)→PcOk R→PcOk (T 1++R))(h:PcOk R):PcOk (pcAgg x T++R):=by
 obtain⟨⟨y,hy,hop⟩,hN,hw,hp,_⟩:=hx
 have hpar:x.param.toNat≤1152921504606846976:=by
  unfold parOK at hp
  split at hp
  ·omega
  ·split at hp<;>omega
 have h41:PcOk (ps 41::R):=ok_s (by decide) (by decide) h
 have s41:Fl (pcS (ps 41::R)):=fl_s (by decide)
 have e:pcAgg x T++R=pw x.op::ps 40::pw x.table::((if x.op=cnt then[]else ps 44::sp::T 0)++((if x.param=0 then[]else[ps 44,sp,.inr (tI x.param.toNat)])
  ++(ps 44::sp::(pcWin x.win++((if x.args.getD 1 default=tru then[]else sp::pw wWhere::sp::T 1)++ps 41::R))))):=by simp[pcAgg]
 have w1:PcOk ((if x.args.getD 1 default=tru then[]else sp::pw wWhere::sp::T 1)++ps 41::R)∧Fl (pcS ((if x.args.getD 1 default=tru then[]else sp::pw wWhere::sp::T 1)++ps 41::R)):=by
  split
  ·exact⟨h41,s41⟩
  ·exact⟨ok_sp (ok_w (by decide) fl_sp (ok_sp (h1 _ s41 h41))),fl_sp⟩
 have w2:PcOk (ps 44::sp::(pcWin x.win++((if x.args.getD 1 default=tru then[]else sp::pw wWhere::sp::T 1)++ps 41::R))):=ok_s (by decide) (by decide) (ok_sp (ok_win hw w1.2 w1.1))
 have f2:Fl (pcS (ps 44::sp::(pcWin x.win++((if x.args.getD 1 default=tru then[]else sp::pw wWhere::sp::T 1)++ps 41::R)))):=fl_s (by decide)
 rw[e]
 generalize (ps 44::sp::(pcWin x.win++((if x.args.getD 1 default=tru then[]else sp::pw wWhere::sp::T 1)++ps 41::R)))=Q at w2 f2
 have w3:PcOk ((if x.param=0 then[]else[ps 44,sp,.inr (tI x.param.toNat)])++Q)∧Fl (pcS ((if x.param=0 then[]else[ps 44,sp,.inr (tI x.param.toNat)])++Q)):=by
  split
  ·exact⟨w2,f2⟩
  ·exact⟨ok_s (by decide) (by decide) (ok_sp (ok_i hpar f2 w2)),fl_s (by decide)⟩
 generalize ((if x.param=0 then[]else[ps 44,sp,.inr (tI x.param.toNat)])++Q)=Q2 at w3
 have w4:PcOk ((if x.op=cnt then[]else ps 44::sp::T 0)++Q2)∧Fl (pcS ((if x.op=cnt then[]else ps 44::sp::T 0)++Q2)):=by
  split
  ·exact w3
  ·exact⟨ok_s (by decide) (by decide) (ok_sp (h0 _ w3.2 w3.1)),fl_s (by decide)⟩
 exact ok_w (hop ▸ agg_word y hy) (fl_s (by decide)) (ok_s (by decide) (by decide) (ok_w hN.1 w4.2 w4.1))
end
theorem pc_ok(x:Ex):∀ ins,form ins x=true→∀ R,Fl (pcS R)→PcOk R→PcOk (pc x++R):=by
 induction x using Ex.ind with
 |h x ih=>
 intro ins hf R hR hok
 have F:=FOK.of hf
 have hsub:∀ i,i<x.args.length→∀ R,Fl (pcS R)→PcOk R→PcOk (pca x i++R):=fun i hi R h1 h2=>by
  rw[pca_at hi]
  exact ih _ (getD_mem hi) _ (F.sub _ (getD_mem hi)) R h1 h2
 have hn:=F.nn
 have hb:=F.nb
 rw[pc_eq]
 unfold pcF
 unfold nodeB at hb
 by_cases k1:x.kind=1
 ·rw[if_pos k1]at hb ⊢;exact ok_lit hb hR hok
 rw[if_neg k1]at hb ⊢
 unfold nodeN at hn
 by_cases k4:x.kind=4
 ·rw[if_pos k4]
  rw[if_neg (by omega),if_pos (.inr k4)]at hb
  rw[if_pos (.inl k4)]at hn
  exact ok_w hb.2.1.1 fl_sp (ok_sp (ok_w (by decide) fl_sp (ok_sp (ok_par (hsub 0 (by omega)) hok))))
 rw[if_neg k4]
 by_cases k5:x.kind=5
 ·rw[if_pos k5]
  rw[if_neg (by omega),if_neg (by omega),if_pos k5]at hb
  rw[if_neg (by omega),if_pos (.inl k5)]at hn
  exact ok_agg hb.2 (hsub 0 (by omega)) (hsub 1 (by omega)) hok
 rw[if_neg k5]
 by_cases k6:x.kind=6
 ·rw[if_pos k6]
  rw[if_pos (.inr k6)]at hn
  unfold pcUn
  split
  ·exact ok_s (by decide) (by decide) (ok_at (hsub 0 (by omega)) hR hok)
  split
  ·exact ok_w (by decide) fl_sp (ok_sp (ok_at (hsub 0 (by omega)) hR hok))
  ·exact ok_w (by decide) (fl_s (by decide)) (ok_par (hsub 0 (by omega)) hok)
 rw[if_neg k6]
 by_cases k7:x.kind=7
 ·rw[if_pos k7]
  rw[if_neg (by omega),if_neg (by omega),if_neg (by omega),if_neg (by omega),if_pos k7]at hb
  rw[if_neg (by omega),if_pos (.inr (.inl k7))]at hn
  obtain⟨_,y,hy,hop⟩:=hb
  have e:pcBin x (pca x)++R=pcAt x (pca x) 0 (leftR x)++(sp:: .inr (tOp x.op)::sp::(pcAt x (pca x) 1 (rank x+1)++R)):=by simp[pcBin]
  rw[e]
  exact ok_at (hsub 0 (by omega)) fl_sp (ok_sp ⟨tOp_ok _ (hop ▸ hy) _,ok_sp (ok_at (hsub 1 (by omega)) hR hok)⟩)
 rw[if_neg k7]
 by_cases k8:x.kind=8
 ·rw[if_pos k8]
  rw[if_neg (by omega),if_neg (by omega),if_pos k8]at hn
  have e:pcIf (pca x)++R=pw wIf::sp::(pca x 0++(sp::pw wThen::sp::(pca x 1++(sp::pw wElse::sp::(pca x 2++R))))):=by simp[pcIf]
  rw[e]
  exact ok_w (by decide) fl_sp (ok_sp (hsub 0 (by omega) _ fl_sp (ok_sp (ok_w (by decide) fl_sp (ok_sp (hsub 1 (by omega) _ fl_sp (ok_sp (ok_w (by decide) fl_sp (ok_sp (hsub 2 (by omega) _ hR hok))))))))))
 rw[if_neg k8]
 by_cases k9:x.kind=9
 ·rw[if_pos k9]
  rw[if_neg (by omega),if_pos (.inr (.inr k9))]at hn
  have e:pcDef x (pca x)++R=pcAt x (pca x) 0 1++(sp::pw wDef::sp::(pcAt x (pca x) 1 2++R)):=by simp[pcDef]
  rw[e]
  exact ok_at (hsub 0 (by omega)) fl_sp (ok_sp (ok_w (by decide) fl_sp (ok_sp (ok_at (hsub 1 (by omega)) hR hok))))
 rw[if_neg k9]
 have hN:Word x.name:=by
  by_cases k2:x.kind=2
  ·rw[if_pos k2]at hb;exact hb.2.1.1
  ·rw[if_neg k2]at hb
   by_cases k3:x.kind=3
   ·rw[if_pos (.inl k3)]at hb;exact hb.2.1.1
   ·rw[if_neg (by omega),if_neg k5,if_neg k6,if_neg k7,if_neg (by omega)]at hb;exact hb.elim
 exact ok_w hN hR hok
theorem toks_text{x:Ex}{ins:Bool}(h:form ins x=true):toksL (bL (text x))=(pcT 0 (pc x),[]):=by
 rw[← pc_b x ins h]
 have:=pc_ok x ins h [] (by exact Fl.nil) trivial
 rw[List.append_nil]at this
 exact toks_pc this
set_option linter.unusedSectionVars false
theorem end_pc:∀ (L:List Pc) (p:Int),EndL (pcT p L)∧(pcT p L).length≤L.length+1
 |[],p=>⟨⟨[],_,rfl,rfl⟩,Nat.le_refl _⟩
 | .inl b::L,p=>by
  obtain⟨h1,h2⟩:=end_pc L (p+1)
  exact⟨h1,by show(pcT (p+1) L).length≤_;rw[List.length_cons];omega⟩
 | .inr t::L,p=>by
  obtain⟨⟨M,e,h1,h3⟩,h2⟩:=end_pc L (p+(srcT t).length)
  refine⟨⟨⟨t.kind,t.text,p⟩::M,e,?_,h3⟩,?_⟩
  ·show _::pcT _ L=_
   rw[h1];rfl
  ·show(_::pcT _ L).length≤_
   rw[List.length_cons,List.length_cons];omega
theorem hd_pc:∀ (L:List Pc) (p q:Int),(hd (pcT p L)).kind=(hd (pcT q L)).kind∧(hd (pcT p L)).text=(hd (pcT q L)).text
 |[],p,q=>⟨rfl,rfl⟩
 | .inl b::L,p,q=>hd_pc L (p+1) (q+1)
 | .inr t::L,p,q=>⟨rfl,rfl⟩
theorem see_pc(k:Int)(s:Str)(L:List Pc)(p:Int):see k s (pcT p L)=see k s (pcT 0 L):=by
 unfold see
 rw[(hd_pc L p 0).1,(hd_pc L p 0).2]
theorem rank_pc(L:List Pc)(p:Int):rankP (pcT p L)=rankP (pcT 0 L):=by
 unfold rankP
 simp only
 rw[(hd_pc L p 0).1,(hd_pc L p 0).2]
abbrev rk(R:List Pc):Nat:=rankP (pcT 0 R)
structure Fo(R:List Pc):Prop where
 unit:see 5 (ch 91) (pcT 0 R)=false
 of:see 1 wOf (pcT 0 R)=false
abbrev df(R:List Pc):Bool:=see 1 wDef (pcT 0 R)
section
variable {i:Bool}{L:List Tok}
theorem expr_un(h:EndL L)(hl:L.length≤100000):exprP N0 i L=if see 1 wIf L then(exprP N0 i L.tail).bind fun a L1=>(keyP wThen L1).bind fun _ L2=>(exprP N0 i L2).bind fun b L3=>(keyP wElse L3).bind fun _ L4=>(exprP N0 i L4).bind fun c L5=> .ok (.mk 8 ⟨#[]⟩ ⟨#[]⟩ ⟨#[]⟩ v0 [] 0 w0 [a,b,c]) L5
  else(binP N0 1 i L).bind fun x L1=>defP N0 i x L1:=
 ((fuE N0 (N0+1)).expr i L h (by show _≤1000000;omega) (by show _≤1000001;omega)).trans (by rw[exprP])
theorem def_un{x:Ex}(h:EndL L)(hl:L.length≤100000):defP N0 i x L=if see 1 wDef L then(binP N0 1 i L.tail).bind fun y L1=>defP N0 i (.mk 9 ⟨#[]⟩ ⟨#[]⟩ ⟨#[]⟩ v0 [] 0 w0 [x,y]) L1 else .ok x L:=
 ((fuE N0 (N0+1)).def_ i x L h (by show _≤1000000;omega) (by show _≤1000001;omega)).trans (by rw[defP])
theorem bin_un{l:Nat}(h:EndL L)(hl:L.length≤100000):binP N0 l i L=(operandP N0 l i L).bind fun x L1=>opsP N0 l (if decide (l≤3) && see 1 wNot L then 2 else 7) i x L1:=
 ((fuE N0 (N0+1)).bin l i L h (by show _≤1000000;omega) (by show _≤1000001;omega)).trans (by rw[binP])
theorem ops_un{l m:Nat}{x:Ex}(h:EndL L)(hl:L.length≤100000):opsP N0 l m i x L=if rankP L≥l∧rankP L≠0∧rankP L≤m then(binP N0 (rankP L+1) i L.tail).bind fun y L1=>opsP N0 l (if rankP L=4 then 3 else rankP L) i (binE (hd L).text x y) L1 else .ok x L:=
 ((fuE N0 (N0+1)).ops l m i x L h (by show _≤1000000;omega) (by show _≤1000001;omega)).trans (by rw[opsP])
theorem operand_un{l:Nat}(h:EndL L)(hl:L.length≤100000):operandP N0 l i L=if decide (l≤3) && see 1 wNot L then(binP N0 3 i L.tail).map (unE wNot)else if see 5 (ch 45) L then(operandP N0 7 i L.tail).map (unE (ch 45))else primP N0 i L:=
 ((fuE N0 (N0+1)).operand l i L h (by show _≤1000000;omega) (by show _≤1000001;omega)).trans (by rw[operandP])
theorem prim_un(h:EndL L)(hl:L.length≤100000):primP N0 i L=if(hd L).kind=2 then(numP L).bind fun k L1=>(unitP L1).map fun u=>litE ⟨2,k,⟨#[]⟩⟩ u ⟨#[]⟩
  else if(hd L).kind=3 then(tokP 3 L).bind fun t L1=>(unitP L1).map fun u=>litE ⟨3,decV t.text,⟨#[]⟩⟩ u ⟨#[]⟩
  else if(hd L).kind=4 then(tokP 4 L).map fun t=>litE ⟨4,0,t.text⟩ [] ⟨#[]⟩
  else if(hd L).kind=1 then wordP N0 i L
  else if see 5 (ch 64) L then keyAtP L.tail else groupP N0 i L:=
 ((fuE N0 (N0+1)).prim i L h (by show _≤1000000;omega) (by show _≤1000001;omega)).trans (by rw[primP])
theorem group_un(h:EndL L)(hl:L.length≤100000):groupP N0 i L=(signP (ch 40) L).bind fun _ L1=>(exprP N0 i L1).bind fun x L2=>(signP (ch 41) L2).map fun _=>x:=
 ((fuE N0 (N0+1)).group i L h (by show _≤1000000;omega) (by show _≤1000001;omega)).trans (by rw[groupP])
theorem word_un(h:EndL L)(hk:(hd L).kind≠6)(hl:L.length≤100000):wordP N0 i L=if(hd L).text=wTrue∨(hd L).text=wFalse then .ok (truE (if(hd L).text=wTrue then 1 else 0)) L.tail
  else if(hd L).text=wNull then(groupP N0 i L.tail).map (unE wNull)
  else if(hd L).text∈aggL∧i=false then aggP N0 (hd L).text L.tail
  else(nameP L).bind fun s L1=>if i=true then .ok (nmE 2 s []) L1
   else if see 1 wOf L1 then(groupP N0 i L1.tail).map fun x=>nmE 4 s [x]else .ok (nmE 3 s []) L1:=
 ((fuE N0 (N0+1)).word i L h hk (by show _≤1000000;omega) (by show _≤1000001;omega)).trans (by rw[wordP])
theorem agg_un{op:Str}(h:EndL L)(hl:L.length≤100000):aggP N0 op L=(signP (ch 40) L).bind fun _ L1=>(nameP L1).bind fun tb L2=>(signP (ch 44) L2).bind fun _ L3=>
  (if op≠wCount then(exprP N0 true L3).bind fun x L4=>(signP (ch 44) L4).map fun _=>x else .ok (truE 1) L3).bind fun a L5=>
  (if op=wQuant∨op=wDecay then(numP L5).bind fun k L6=>(signP (ch 44) L6).map fun _=>k else .ok 0 L5).bind fun p L7=>
  (windowP L7).bind fun w L8=>(if see 1 wWhere L8 then exprP N0 true L8.tail else .ok (truE 1) L8).bind fun c L9=>
  (signP (ch 41) L9).map fun _=> .mk 5 op ⟨#[]⟩ tb v0 [] p w [a,c]:=
 ((fuE N0 (N0+1)).agg op L h (by show _≤1000000;omega) (by show _≤1000001;omega)).trans (by rw[aggP])
end
theorem norm_id{u:List Fac}(h:unitErr u=0):normU u=(u,0):=by
 obtain⟨hl,_⟩:=unit_facs h
 have hL:unitErrL none u=0:=by
  unfold unitErr at h
  rwa [if_neg (by omega)]at h
 have key:∀ (u:List Fac) (p:Option Str),unitErrL p u=0→(Srt (u.map Fac.name)∧∀ f∈u,f.exp≠0∧-8≤f.exp∧f.exp≤8)∧∀ q,p=some q→∀ f∈u,sLt q f.name=true:=fun u=>by
  induction u with
  |nil=>intro p _;exact⟨⟨srt_nil,by simp⟩,by simp⟩
  |cons f u ih=>
   intro p hp
   rw[unitErrL]at hp
   split at hp
   ·rename_i h0
    obtain⟨⟨i1,i2⟩,i3⟩:=ih _ hp
    have hf:(f.exp≠0∧-8≤f.exp∧f.exp≤8)∧∀ q,p=some q→sLt q f.name=true:=by
     unfold facErr at h0
     split at h0
     ·cases h0
     ·split at h0
      ·cases h0
      ·rename_i h1 h2
       refine⟨by omega,fun q hq=> ?_⟩
       subst hq
       simp only at h0
       split at h0
       ·cases h0
       ·rename_i h3
        unfold leS at h3
        simp only[Bool.or_eq_true,decide_eq_true_eq,not_or,Bool.not_eq_true]at h3
        by_cases e:sLt q f.name=true
        ·exact e
        ·exact absurd (sLt_tri h3.1 (by simpa using e)) h3.2
    refine⟨⟨List.pairwise_cons.2 ⟨fun x hx=> ?_,i1⟩,fun g hg=> ?_⟩,fun q hq g hg=> ?_⟩
    ·obtain⟨g,hg,rfl⟩:=List.mem_map.1 hx
     exact i3 f.name rfl g hg
    ·rcases List.mem_cons.1 hg with rfl|hg
     ·exact hf.1
     ·exact i2 g hg
    ·rcases List.mem_cons.1 hg with rfl|hg
     ·exact hf.2 q hq
     ·exact sLt_trans (hf.2 q hq) (i3 f.name rfl g hg)
   ·rename_i h0;exact absurd hp h0
 obtain⟨⟨hs,hb⟩,_⟩:=key u none hL
 have hsort:sortL (u.map Fac.name)=u.map Fac.name:=srt_ext (sortL_srt _) hs fun x=>sortL_mem
 have hexp:∀ f∈u,expU u f.name=f.exp:=fun f hf=>by
  have hnd:=srt_nodup hs
  have:∀ l:List Fac,(l.map Fac.name).Nodup→f∈l→((l.filter fun g=>decide (g.name=f.name)).map Fac.exp).sum=f.exp:=fun l=>by
   induction l with
   |nil=>intro _ h;cases h
   |cons g l ih=>
    intro hn hm
    simp only[List.map_cons,List.nodup_cons]at hn
    by_cases e:g.name=f.name
    ·have hg:g=f:=by
      rcases List.mem_cons.1 hm with rfl|hm
      ·rfl
      ·exact absurd (List.mem_map.2 ⟨f,hm,e.symm⟩) hn.1
     subst hg
     have hno:l.filter (fun x=>decide (x.name=g.name))=[]:=by
      rw[List.filter_eq_nil_iff]
      intro x hx
      simp only[decide_eq_true_eq]
      exact fun e2=>hn.1 (List.mem_map.2 ⟨x,hx,e2⟩)
     rw[List.filter_cons_of_pos (by simp),hno]
     simp
    ·rw[List.filter_cons_of_neg (by simpa using e)]
     rcases List.mem_cons.1 hm with rfl|hm
     ·exact absurd rfl e
     ·exact ih hn.2 hm
  exact this u hnd hf
 have hmap:((u.map Fac.name).map fun n=>(⟨n,expU u n⟩:Fac))=u:=by
  rw[List.map_map]
  conv=>rhs;rw[← List.map_id u]
  refine List.map_congr_left fun f hf=> ?_
  show(⟨f.name,expU u f.name⟩:Fac)=f
  rw[hexp f hf]
 have hfil:(u.filter fun f=>decide (f.exp≠0))=u:=List.filter_eq_self.2 fun f hf=>by simpa using(hb f hf).1
 unfold normU
 simp only
 rw[hsort,if_neg,hmap,hfil,if_neg (by omega)]
 rintro⟨n,hn,k⟩
 obtain⟨f,hf,rfl⟩:=List.mem_map.1 hn
 rw[hexp f hf]at k
 have:=(hb f hf).2
 omega
theorem unit_read{u:List Fac}(hN:∀ f∈u,Name f.name)(hE:unitErr u=0){R:List Pc}(hf:Fo R)(p:Int):∃ q,unitP (pcT p (pcUnit u++R))= .ok u (pcT q R):=by
 unfold pcUnit
 by_cases h:u=[]
 ·subst h
  refine⟨p,?_⟩
  rw[if_pos rfl,List.nil_append]
  unfold unitP
  rw[see_pc,hf.unit,if_neg (by decide)]
 ·rw[if_neg h]
  have hb:=(unit_facs hE)
  obtain⟨q,hq⟩:=unit_back u h (fun f hf=>⟨hN f hf,by have:=hb.2 f hf;unfold FacOK at this;omega⟩) (by omega) R (p+1)
  rw[norm_id hE]at hq
  exact⟨q,hq⟩
set_option linter.unusedSectionVars false
section
variable {Z R:List Pc}{p:Int}{i:Bool}{s:Str}{c:UInt8}{n:Nat}{x:Ex}{T:List Pc}
theorem ln(h:Z.length≤90000)(p:Int):(pcT p Z).length≤100000:=by have:=(end_pc Z p).2;omega
theorem sign_ok:signP (ch c) (pcT p (ps c::Z))= .ok () (pcT (p+1) Z):=by
 show(if see 5 (ch c) (⟨5,ch c,p⟩::pcT (p+((srcT (tS c)).length:Int)) Z)=true then _ else _)=_
 rw[if_pos (by simp[see_t])];rfl
theorem keyP_ok:∃ q,keyP s (pcT p (pw s::Z))= .ok () (pcT q Z):=by
 refine⟨p+((srcT (tW s)).length:Int),?_⟩
 show(if see 1 s (⟨1,s,p⟩::pcT (p+((srcT (tW s)).length:Int)) Z)=true then _ else _)=_
 rw[if_pos (by simp[see_t])];rfl
theorem name_rd(h:Name s):∃ q,nameP (pcT p (pw s::Z))= .ok s (pcT q Z):=by
 refine⟨p+((srcT (tW s)).length:Int),?_⟩
 show nameP (⟨1,s,p⟩::pcT (p+((srcT (tW s)).length:Int)) Z)=_
 unfold nameP
 exact(if_neg (show¬¬Name s from fun k=>k h)).trans rfl
theorem num_rd:∃ q,numP (pcT p (.inr (tI n)::Z))= .ok (n:Int) (pcT q Z):=by
 refine⟨p+((srcT (tI n)).length:Int),?_⟩
 have:numS (tI n).text=(n:Int):=by
  show((numL (Lib.decDigits n) 0:Nat):Int)=_
  rw[numL_dd]
 show PR.ok (numS (tI n).text) (pcT (p+((srcT (tI n)).length:Int)) Z)=_
 rw[this]
theorem name_kwB(h:Name s){k:Str}(hk:KW k):¬s=k:=fun e=>h.2 (e ▸ hk)
theorem agg_kw:∀ y∈aggL,KW y:=by decide
theorem prim_word(hZ:(pw s::Z).length≤90000):primP N0 i (pcT p (pw s::Z))=wordP N0 i (pcT p (pw s::Z)):=by
 rw[prim_un (end_pc _ p).1 (ln hZ p)]
 have hk:(hd (pcT p (pw s::Z))).kind=1:=rfl
 rw[hk,if_neg (by decide),if_neg (by decide),if_neg (by decide),if_pos rfl]
theorem word_name(h:Name s)(hZ:(pw s::R).length≤90000)(hf:Fo R):∃ q,wordP N0 i (pcT p (pw s::R))= .ok (nmE (if i=true then 2 else 3) s []) (pcT q R):=by
 rw[word_un (end_pc (pw s::R) p).1 (show(1:Int)≠6 by decide) (ln hZ p)]
 have ht:(hd (pcT p (pw s::R))).text=s:=rfl
 obtain⟨q,hq⟩:=name_rd (p:=p) (Z:=R) h
 rw[ht,if_neg (by rintro(e|e)<;>exact name_kwB h (by decide) e),if_neg (name_kwB h (by decide)),if_neg (fun e=>h.2 (agg_kw _ e.1)),hq,PR.bind_ok]
 refine⟨q,?_⟩
 by_cases hi:i=true
 ·rw[if_pos hi,if_pos hi]
 ·rw[if_neg hi,if_neg hi,see_pc,hf.of,if_neg (by decide)]
theorem group_read(hT:∀ p,∃ q,exprP N0 i (pcT p (T++ps 41::R))= .ok x (pcT q (ps 41::R)))(hZ:(pcPar T++R).length≤90000):∃ q,groupP N0 i (pcT p (pcPar T++R))= .ok x (pcT q R):=by
 have e:pcPar T++R=ps 40::(T++ps 41::R):=by simp[pcPar]
 rw[e]at hZ ⊢
 rw[group_un (end_pc _ p).1 (ln hZ p),sign_ok,PR.bind_ok]
 obtain⟨q,hq⟩:=hT (p+1)
 rw[hq,PR.bind_ok]
 unfold PR.map
 rw[sign_ok]
 exact⟨q+1,rfl⟩
theorem op_prim{l:Nat}(hZ:Z.length≤90000)(h1:see 1 wNot (pcT 0 Z)=false)(h2:see 5 (ch 45) (pcT 0 Z)=false):operandP N0 l i (pcT p Z)=primP N0 i (pcT p Z):=by
 rw[operand_un (end_pc Z p).1 (ln hZ p),see_pc,h1,see_pc,h2,Bool.and_false,if_neg (by decide),if_neg (by decide)]
theorem op_par{l:Nat}(hT:∀ p,∃ q,exprP N0 i (pcT p (T++ps 41::R))= .ok x (pcT q (ps 41::R)))(hZ:(pcPar T++R).length≤90000):∃ q,operandP N0 l i (pcT p (pcPar T++R))= .ok x (pcT q R):=by
 obtain⟨q,hq⟩:=group_read (p:=p) hT hZ
 refine⟨q,?_⟩
 rw[op_prim hZ (by rfl) (by rfl),prim_un (end_pc _ p).1 (ln hZ p)]
 have hk:(hd (pcT p (pcPar T++R))).kind=5:=rfl
 rw[hk,if_neg (by decide),if_neg (by decide),if_neg (by decide),if_neg (by decide),see_pc 5 (ch 64),show see 5 (ch 64) (pcT 0 (pcPar T++R))=false from rfl,if_neg (by decide),hq]
theorem bin_of{l:Nat}(hZ:(T++R).length≤90000)(h:∃ q,operandP N0 l i (pcT p (T++R))= .ok x (pcT q R))(hn:see 1 wNot (pcT 0 (T++R))=false):∃ q,binP N0 l i (pcT p (T++R))=opsP N0 l 7 i x (pcT q R):=by
 obtain⟨q,hq⟩:=h
 refine⟨q,?_⟩
 rw[bin_un (end_pc _ p).1 (ln hZ p),hq,PR.bind_ok,see_pc,hn,Bool.and_false,if_neg (by decide)]
theorem ops_stopB{l m:Nat}(hZ:R.length≤90000)(h:rk R<l∨rk R=0∨m<rk R):opsP N0 l m i x (pcT p R)= .ok x (pcT p R):=by
 have h:rankP (pcT 0 R)<l∨rankP (pcT 0 R)=0∨m<rankP (pcT 0 R):=h
 rw[ops_un (end_pc R p).1 (ln hZ p),rank_pc,if_neg (by omega)]
theorem def_stopB(hZ:R.length≤90000)(h:df R=false):defP N0 i x (pcT p R)= .ok x (pcT p R):=by
 have h:see 1 wDef (pcT 0 R)=false:=h
 rw[def_un (end_pc R p).1 (ln hZ p),see_pc,h,if_neg (by decide)]
end
theorem lit_etaB{x:Ex}(hk:x.kind=1)(hF:x.Flat (litEx x))(ha:x.args=[]):litE x.val x.unit x.name=x:=by
 cases x
 obtain⟨h1,h2,h3,h4,h5,h6,h7,h8⟩:=hF
 simp only[Ex.kind,Ex.op,Ex.name,Ex.table,Ex.val,Ex.unit,Ex.param,Ex.win,Ex.args,litEx]at *
 subst hk h2 h4 h7 h8 ha
 rfl
theorem lit_prim{x:Ex}(hk:x.kind=1)(hx:litOK x)(ha:x.args=[]){R:List Pc}(hf:Fo R)(hZ:(pcLit x++R).length≤90000)(i:Bool)(p:Int):∃ q,primP N0 i (pcT p (pcLit x++R))= .ok x (pcT q R):=by
 obtain⟨h1,h2,h3,h4⟩:=hx
 obtain⟨v1,v2,v3,v4⟩:=valB h1
 obtain⟨_,_,f3,_,f5,f6⟩:=v1
 obtain⟨t1,t2,t3,t4,t5,t6⟩:=tyB h3
 simp only at t1 t2 t3 t4 t5 t6
 have heta:=lit_etaB hk h4 ha
 have hval:∀ k n s,x.val.kind=k→x.val.n=n→x.val.s=s→(⟨k,n,s⟩:Val)=x.val:=fun k n s a b c=>by subst a b c;rfl
 have hun:¬Num ⟨x.val.kind,x.unit,x.name⟩→x.unit=[]:=fun h=>Decidable.not_not.1 fun k=>h (t2 k)
 have fin:∀ (v:Val) (u:List Fac) (m:Str) (q:Int),v=x.val→u=x.unit→m=x.name→(PR.ok (litE v u m) (pcT q R))= .ok x (pcT q R):=fun v u m q a b c=>by rw[a,b,c,heta]
 rw[prim_un (end_pc _ p).1 (ln hZ p)]
 unfold pcLit at hZ ⊢
 by_cases k5:x.val.kind=5
 ·rw[if_pos k5]at hZ ⊢
  obtain⟨q1,q2,q3⟩:=v4 k5
  have e:[ps 64,pw x.name,sp,.inr (tT x.val.s)]++R=ps 64::pw x.name::sp:: .inr (tT x.val.s)::R:=rfl
  rw[e]
  have hkd:(hd (pcT p (ps 64::pw x.name::sp:: .inr (tT x.val.s)::R))).kind=5:=rfl
  rw[hkd,if_neg (by decide),if_neg (by decide),if_neg (by decide),if_neg (by decide),if_pos (by rw[see_pc];rfl)]
  show∃ q,keyAtP (pcT (p+1) (pw x.name::sp:: .inr (tT x.val.s)::R))=_
  obtain⟨q,hq⟩:=name_rd (p:=p+1) (Z:=sp:: .inr (tT x.val.s)::R) (t3 k5)
  unfold keyAtP
  rw[hq,PR.bind_ok]
  refine⟨q+1+((srcT (tT x.val.s)).length:Int),?_⟩
  show(PR.ok (⟨4,x.val.s,q+1⟩:Tok) (pcT (q+1+((srcT (tT x.val.s)).length:Int)) R)).bind _=_
  rw[PR.bind_ok]
  have hno:¬(x.val.s.size<1∨x.val.s.size>32∨(32:UInt8)∈x.val.s.data.toList):=by
   rintro(k|k|k)
   ·omega
   ·omega
   ·have:=(prt_all q3 (by decide) 32 k).2.2
    revert this;decide
  simp only
  rw[if_neg hno]
  exact fin _ _ _ _ (hval 5 0 _ k5 (f6 (by omega)) rfl) (hun (by unfold Num;simp only;omega)).symm rfl
 rw[if_neg k5]at hZ ⊢
 have hnm:x.name=⟨#[]⟩:=t4 k5
 by_cases k1:x.val.kind=1
 ·rw[if_pos k1]at hZ ⊢
  have hu:x.unit=[]:=hun (by unfold Num;simp only;omega)
  have e:(pw (boolS x.val.n)::pcUnit x.unit)++R=pw (boolS x.val.n)::R:=by rw[hu];rfl
  rw[e]at hZ ⊢
  have hkd:(hd (pcT p (pw (boolS x.val.n)::R))).kind=1:=rfl
  rw[hkd,if_neg (by decide),if_neg (by decide),if_neg (by decide),if_pos rfl,word_un (end_pc (pw (boolS x.val.n)::R) p).1 (show(1:Int)≠6 by decide) (ln hZ p)]
  have ht:(hd (pcT p (pw (boolS x.val.n)::R))).text=boolS x.val.n:=rfl
  refine⟨p+((srcT (tW (boolS x.val.n))).length:Int),?_⟩
  have hs:x.val.s=⟨#[]⟩:=f3 (by omega)
  rcases f5 k1 with h0|h0
  ·have hb:boolS x.val.n=wFalse:=by unfold boolS;rw[h0];rfl
   rw[ht,hb,if_pos (.inr rfl),if_neg (by decide)]
   exact fin _ _ _ _ (hval 1 0 _ k1 h0 hs) hu.symm hnm.symm
  ·have hb:boolS x.val.n=wTrue:=by unfold boolS;rw[h0];rfl
   rw[ht,hb,if_pos (.inl rfl),if_pos rfl]
   exact fin _ _ _ _ (hval 1 1 _ k1 h0 hs) hu.symm hnm.symm
 rw[if_neg k1]at hZ ⊢
 by_cases k2:x.val.kind=2
 ·rw[if_pos k2]at hZ ⊢
  rw[List.cons_append]at hZ ⊢
  have hkd:(hd (pcT p (.inr (tI x.val.n.toNat)::(pcUnit x.unit++R)))).kind=2:=rfl
  obtain⟨q,hq⟩:=num_rd (p:=p) (n:=x.val.n.toNat) (Z:=pcUnit x.unit++R)
  obtain⟨q2,hq2⟩:=unit_read t5 t6 hf q
  rw[hkd,if_pos rfl,hq,PR.bind_ok]
  unfold PR.map
  rw[hq2,PR.bind_ok]
  exact⟨q2,fin _ _ _ _ (hval 2 _ _ k2 (by omega) (f3 (by omega))) rfl hnm.symm⟩
 rw[if_neg k2]at hZ ⊢
 by_cases k3:x.val.kind=3
 ·rw[if_pos k3]at hZ ⊢
  rw[List.cons_append]at hZ ⊢
  have hkd:(hd (pcT p (.inr (tD x.val.n.toNat)::(pcUnit x.unit++R)))).kind=3:=rfl
  obtain⟨q2,hq2⟩:=unit_read t5 t6 hf (p+((srcT (tD x.val.n.toNat)).length:Int))
  rw[hkd,if_neg (by decide),if_pos rfl]
  show∃ q,(PR.ok (⟨3,decS x.val.n.toNat,p⟩:Tok) (pcT (p+((srcT (tD x.val.n.toNat)).length:Int)) (pcUnit x.unit++R))).bind _=_
  rw[PR.bind_ok]
  unfold PR.map
  rw[hq2,PR.bind_ok]
  refine⟨q2,?_⟩
  simp only
  rw[decV_b]
  exact fin _ _ _ _ (hval 3 _ _ k3 (by omega) (f3 (by omega))) rfl hnm.symm
 rw[if_neg k3]at hZ ⊢
 have k4:x.val.kind=4:=by omega
 have hu:x.unit=[]:=hun (by unfold Num;simp only;omega)
 have e:(.inr (tT x.val.s)::pcUnit x.unit)++R= .inr (tT x.val.s)::R:=by rw[hu];rfl
 rw[e]
 have hkd:(hd (pcT p (.inr (tT x.val.s)::R))).kind=4:=rfl
 rw[hkd,if_neg (by decide),if_neg (by decide),if_pos rfl]
 refine⟨p+((srcT (tT x.val.s)).length:Int),?_⟩
 show PR.ok (litE ⟨4,0,x.val.s⟩ [] ⟨#[]⟩) (pcT (p+((srcT (tT x.val.s)).length:Int)) R)=_
 exact fin _ _ _ _ (hval 4 0 _ k4 (f6 (by omega)) rfl) hu.symm hnm.symm
set_option linter.unusedSectionVars false
set_option maxHeartbeats 1000000
def limR(r:Int):Nat:=if r=4 then 2 else if r≥8 then 7 else(r-1).toNat
def mstR(r:Int):Nat:=if r=4 then 2 else if r≥8 then 7 else if r=5 then 3 else(r-1).toNat
structure RdE(x:Ex)(i:Bool):Prop where
 q1:8≤rank x→∀ R,Fo R→(pc x++R).length≤90000→∀ l p,∃ q,operandP N0 l i (pcT p (pc x++R))= .ok x (pcT q R)
 q2:∀ l:Nat,1≤l→(l:Int)≤rank x-1→l≤7→∀ R,Fo R→rk R≤limR (rank x)→(pc x++R).length≤90000→∀ p,∃ q,binP N0 l i (pcT p (pc x++R))=opsP N0 l (mstR (rank x)) i x (pcT q R)
 q3:1≤rank x→∀ R,Fo R→rk R=0→(pc x++R).length≤90000→∀ p,∃ q,exprP N0 i (pcT p (pc x++R))=defP N0 i x (pcT q R)
 q4:∀ R,Fo R→rk R=0→df R=false→(pc x++R).length≤90000→∀ p,∃ q,exprP N0 i (pcT p (pc x++R))= .ok x (pcT q R)
 h1:1≤rank x→∀ R,see 1 wIf (pcT 0 (pc x++R))=false
 h2:5≤rank x→∀ R,see 1 wNot (pcT 0 (pc x++R))=false
theorem appl{A R:List Pc}(h:(A++R).length≤90000):R.length≤90000:=by rw[List.length_append]at h;omega
section
variable {x:Ex}{i:Bool}
theorem RdE.of3(hr:rank x=1)(h1:∀ R,see 1 wIf (pcT 0 (pc x++R))=false)(q3:∀ R,Fo R→rk R=0→(pc x++R).length≤90000→∀ p,∃ q,exprP N0 i (pcT p (pc x++R))=defP N0 i x (pcT q R)):RdE x i where
 q1:=fun h=>by omega
 q2:=fun l h h2=>by omega
 q3:=fun _=>q3
 q4:=fun R hf hk hd hl p=>by
  obtain⟨q,hq⟩:=q3 R hf hk hl p
  exact⟨q,by rw[hq,def_stopB (appl hl) hd]⟩
 h1:=fun _=>h1
 h2:=fun h=>by omega
theorem RdE.of2(hr:2≤rank x)(q1:8≤rank x→∀ R,Fo R→(pc x++R).length≤90000→∀ l p,∃ q,operandP N0 l i (pcT p (pc x++R))= .ok x (pcT q R))(h1:∀ R,see 1 wIf (pcT 0 (pc x++R))=false)(h2:5≤rank x→∀ R,see 1 wNot (pcT 0 (pc x++R))=false)
  (q2:∀ l:Nat,1≤l→(l:Int)≤rank x-1→l≤7→∀ R,Fo R→rk R≤limR (rank x)→(pc x++R).length≤90000→∀ p,∃ q,binP N0 l i (pcT p (pc x++R))=opsP N0 l (mstR (rank x)) i x (pcT q R)):RdE x i:=by
 have q3:∀ R,Fo R→rk R=0→(pc x++R).length≤90000→∀ p,∃ q,exprP N0 i (pcT p (pc x++R))=defP N0 i x (pcT q R):=fun R hf hk hl p=>by
  obtain⟨q,hq⟩:=q2 1 (Nat.le_refl _) (by omega) (by decide) R hf (by rw[hk];exact Nat.zero_le _) hl p
  refine⟨q,?_⟩
  rw[expr_un (end_pc _ p).1 (ln hl p),see_pc,h1 R,if_neg (by decide),hq,ops_stopB (appl hl) (.inr (.inl hk)),PR.bind_ok]
 refine⟨q1,q2,fun _=>q3,fun R hf hk hd hl p=> ?_,fun _=>h1,h2⟩
 obtain⟨q,hq⟩:=q3 R hf hk hl p
 exact⟨q,by rw[hq,def_stopB (appl hl) hd]⟩
theorem RdE.of1(hr:8≤rank x)(h1:∀ R,see 1 wIf (pcT 0 (pc x++R))=false)(h2:∀ R,see 1 wNot (pcT 0 (pc x++R))=false)(q1:∀ R,Fo R→(pc x++R).length≤90000→∀ l p,∃ q,operandP N0 l i (pcT p (pc x++R))= .ok x (pcT q R)):RdE x i:=by
 refine RdE.of2 (by omega) (fun _=>q1) h1 (fun _=>h2) fun l hl1 hl2 hl7 R hf hk hl p=> ?_
 have hm:mstR (rank x)=7:=by unfold mstR;rw[if_neg (by omega),if_pos hr]
 rw[hm]
 exact bin_of hl (q1 R hf hl l p) (h2 R)
end
theorem fo_close(R:List Pc):Fo (ps 41::R):=⟨rfl,rfl⟩
theorem RdE.par{y:Ex}{i:Bool}(hy:RdE y i){R:List Pc}(hl:(pcPar (pc y)++R).length≤90000)(p:Int):∃ q,exprP N0 i (pcT p (pc y++ps 41::R))= .ok y (pcT q (ps 41::R)):=
 hy.q4 (ps 41::R) (fo_close R) rfl rfl (by have e:pcPar (pc y)++R=ps 40::(pc y++ps 41::R):=by simp[pcPar]
                                           rw[e,List.length_cons]at hl;omega) p
abbrev ptAB(y:Ex)(r:Int):List Pc:=if rank y<r then pcPar (pc y)else pc y
theorem at_bin{y:Ex}{i:Bool}(hy:RdE y i){r:Int}{l:Nat}(h1:1≤l)(hr:(l:Int)≤r-1)(h7:l≤7){R:List Pc}(hf:Fo R)(hk:rank y<r∨rk R≤limR (rank y))(hl:(ptAB y r++R).length≤90000)(p:Int):
  ∃ q,binP N0 l i (pcT p (ptAB y r++R))=opsP N0 l (if rank y<r then 7 else mstR (rank y)) i y (pcT q R):=by
 by_cases h:rank y<r
 ·have e:ptAB y r=pcPar (pc y):=if_pos h
  rw[e]at hl ⊢
  rw[if_pos h]
  exact bin_of hl (op_par (hy.par hl) hl) rfl
 ·have e:ptAB y r=pc y:=if_neg h
  rw[e]at hl ⊢
  rw[if_neg h]
  exact hy.q2 l h1 (by omega) h7 R hf (hk.resolve_left h) hl p
theorem at_if{y:Ex}{i:Bool}(hy:RdE y i){r:Int}(hr:1≤r)(R:List Pc):see 1 wIf (pcT 0 (ptAB y r++R))=false:=by
 by_cases h:rank y<r
 ·have e:ptAB y r=pcPar (pc y):=if_pos h
  rw[e];rfl
 ·have e:ptAB y r=pc y:=if_neg h
  rw[e];exact hy.h1 (by omega) R
theorem at_not{y:Ex}{i:Bool}(hy:RdE y i){r:Int}(hr:5≤r)(R:List Pc):see 1 wNot (pcT 0 (ptAB y r++R))=false:=by
 by_cases h:rank y<r
 ·have e:ptAB y r=pcPar (pc y):=if_pos h
  rw[e];rfl
 ·have e:ptAB y r=pc y:=if_neg h
  rw[e];exact hy.h2 (by omega) R
theorem op_facts:∀ s∈binL,∀ x:Ex,x.kind=7→x.op=s→∃ k:Nat,rank x=(k:Int)+1∧(k=1∨k=2∨k=4∨k=5∨k=6)∧∀ Z,rk (sp:: .inr (tOp s)::Z)=k∧(tOp s).text=s∧Fo (sp:: .inr (tOp s)::Z):=by
 intro s hs x hk hop
 have hrk:rank x=if x.op=⟨#[111,114]⟩then 2 else if x.op=⟨#[97,110,100]⟩then 3 else if x.op=⟨#[43]⟩∨x.op=⟨#[45]⟩then 6 else if x.op=⟨#[42]⟩∨x.op=⟨#[47]⟩then 7 else 5:=by
  unfold rank
  rw[if_neg (by omega),if_neg (by omega),if_neg (by omega),if_pos hk]
 rw[hop]at hrk
 simp only[binL,List.mem_cons,List.not_mem_nil,or_false]at hs
 rcases hs with rfl|rfl|rfl|rfl|rfl|rfl|rfl|rfl|rfl|rfl
 ·exact⟨5,hrk.trans (by decide),by decide,fun Z=>⟨rfl,rfl,rfl,rfl⟩⟩
 ·exact⟨5,hrk.trans (by decide),by decide,fun Z=>⟨rfl,rfl,rfl,rfl⟩⟩
 ·exact⟨6,hrk.trans (by decide),by decide,fun Z=>⟨rfl,rfl,rfl,rfl⟩⟩
 ·exact⟨6,hrk.trans (by decide),by decide,fun Z=>⟨rfl,rfl,rfl,rfl⟩⟩
 ·exact⟨4,hrk.trans (by decide),by decide,fun Z=>⟨rfl,rfl,rfl,rfl⟩⟩
 ·exact⟨4,hrk.trans (by decide),by decide,fun Z=>⟨rfl,rfl,rfl,rfl⟩⟩
 ·exact⟨4,hrk.trans (by decide),by decide,fun Z=>⟨rfl,rfl,rfl,rfl⟩⟩
 ·exact⟨4,hrk.trans (by decide),by decide,fun Z=>⟨rfl,rfl,rfl,rfl⟩⟩
 ·exact⟨2,hrk.trans (by decide),by decide,fun Z=>⟨rfl,rfl,rfl,rfl⟩⟩
 ·exact⟨1,hrk.trans (by decide),by decide,fun Z=>⟨rfl,rfl,rfl,rfl⟩⟩
theorem op_etaB{x:Ex}(h:x.Flat (opEx x)):x= .mk x.kind x.op ⟨#[]⟩ ⟨#[]⟩ v0 [] 0 w0 x.args:=by
 cases x
 obtain⟨h1,h2,h3,h4,h5,h6,h7,h8⟩:=h
 simp only[Ex.kind,Ex.op,Ex.name,Ex.table,Ex.val,Ex.unit,Ex.param,Ex.win,Ex.args,opEx]at *
 subst h3 h4 h5 h6 h7 h8
 rfl
theorem nam_etaB{x:Ex}(h:x.Flat (namEx x)):x=nmE x.kind x.name x.args:=by
 cases x
 obtain⟨h1,h2,h3,h4,h5,h6,h7,h8⟩:=h
 simp only[Ex.kind,Ex.op,Ex.name,Ex.table,Ex.val,Ex.unit,Ex.param,Ex.win,Ex.args,namEx]at *
 subst h2 h4 h5 h6 h7 h8
 rfl
theorem agg_etaB{x:Ex}(hk:x.kind=5)(h:x.Flat (aggEx x)):x= .mk 5 x.op ⟨#[]⟩ x.table v0 [] x.param x.win x.args:=by
 cases x
 obtain⟨h1,h2,h3,h4,h5,h6,h7,h8⟩:=h
 simp only[Ex.kind,Ex.op,Ex.name,Ex.table,Ex.val,Ex.unit,Ex.param,Ex.win,Ex.args,aggEx]at *
 subst hk h3 h5 h6
 rfl
theorem bin_read{x a b:Ex}{i:Bool}(hk:x.kind=7)(hF:x.Flat (opEx x))(hop:x.op∈binL)(ha:x.args=[a,b])(ra:RdE a i)(rb:RdE b i):RdE x i:=by
 obtain⟨k,hr,hkk,hop2⟩:=op_facts x.op hop x hk rfl
 have hx:x=binE x.op a b:=by
  have:=op_etaB hF
  rw[hk,ha]at this
  exact this
 have hLr:leftR x=if k=4 then 6 else(k:Int)+1:=by
  unfold leftR
  by_cases h4:k=4
  ·rw[if_pos (by omega),if_pos h4]
  ·rw[if_neg (by omega),if_neg h4,hr]
 have e0:pcAt x (pca x) 0 (leftR x)=ptAB a (leftR x):=by
  unfold pcAt
  rw[pca_at (by rw[ha];simp),ha];rfl
 have e1:pcAt x (pca x) 1 (rank x+1)=ptAB b (rank x+1):=by
  unfold pcAt
  rw[pca_at (by rw[ha];simp),ha];rfl
 have epc:∀ R,pc x++R=ptAB a (leftR x)++(sp:: .inr (tOp x.op)::sp::(ptAB b (rank x+1)++R)):=fun R=>by
  rw[pc_eq]
  unfold pcF
  rw[if_neg (by omega),if_neg (by omega),if_neg (by omega),if_neg (by omega),if_pos hk]
  unfold pcBin
  rw[e0,e1];simp
 have hL2:2≤leftR x:=by rw[hLr];split<;>omega
 refine RdE.of2 (by omega) (fun h=>by omega) (fun R=>by rw[epc];exact at_if ra (by omega) _) (fun h R=>by rw[epc];exact at_not ra (by rw[hLr];split<;>omega) _) fun l hl1 hl2 hl7 R hf hkR hl p=> ?_
 rw[epc]at hl ⊢
 obtain⟨o1,o2,o3⟩:=hop2 (sp::(ptAB b (rank x+1)++R))
 have hkR2:rk R≤k:=by
  unfold limR at hkR
  rw[if_neg (by omega),if_neg (by omega)]at hkR
  omega
 have hlim:rank a<leftR x∨rk (sp:: .inr (tOp x.op)::sp::(ptAB b (rank x+1)++R))≤limR (rank a):=by
  by_cases h:rank a<leftR x
  ·exact .inl h
  ·right
   rw[o1]
   unfold limR
   rw[hLr]at h
   split
   ·split at h<;>omega
   ·split
    ·omega
    ·split at h<;>omega
 obtain⟨q1,hq1⟩:=at_bin ra hl1 (by rw[hLr];split<;>omega) hl7 o3 hlim hl p
 have hm:k≤(if rank a<leftR x then 7 else mstR (rank a)):=by
  by_cases h:rank a<leftR x
  ·rw[if_pos h];omega
  ·rw[if_neg h]
   unfold mstR
   rw[hLr]at h
   split
   ·split at h<;>omega
   ·split
    ·omega
    ·split
     ·split at h<;>omega
     ·split at h<;>omega
 have hlZ:=appl hl
 have hlb:(ptAB b (rank x+1)++R).length≤90000:=by simp only[List.length_cons]at hlZ;omega
 have hlim2:rank b<rank x+1∨rk R≤limR (rank b):=by
  by_cases h:rank b<rank x+1
  ·exact .inl h
  ·right
   unfold limR
   split
   ·omega
   ·split
    ·omega
    ·omega
 obtain⟨q2,hq2⟩:=at_bin rb (l:=k+1) (by omega) (by omega) (by omega) hf hlim2 hlb (q1+1+((srcT (tOp x.op)).length:Int)+1)
 refine⟨q2,?_⟩
 rw[hq1,ops_un (end_pc _ q1).1 (ln hlZ q1),rank_pc]
 have o1':rankP (pcT 0 (sp:: .inr (tOp x.op)::sp::(ptAB b (rank x+1)++R)))=k:=o1
 rw[o1',if_pos ⟨by omega,by omega,hm⟩]
 have ht:(pcT q1 (sp:: .inr (tOp x.op)::sp::(ptAB b (rank x+1)++R))).tail=pcT (q1+1+((srcT (tOp x.op)).length:Int)+1) (ptAB b (rank x+1)++R):=rfl
 have htx:(hd (pcT q1 (sp:: .inr (tOp x.op)::sp::(ptAB b (rank x+1)++R)))).text=x.op:=o2
 rw[ht,htx,hq2,ops_stopB (appl hlb) (.inl (by show rk R<k+1;omega)),PR.bind_ok,← hx]
 have hmm:mstR (rank x)=if k=4 then 3 else k:=by
  unfold mstR
  rw[if_neg (by omega),if_neg (by omega)]
  by_cases h4:k=4
  ·rw[if_pos (by omega),if_pos h4]
  ·rw[if_neg (by omega),if_neg h4];omega
 rw[hmm]
set_option linter.unusedSectionVars false
set_option maxHeartbeats 1000000
theorem word_prim{x:Ex}{i:Bool}{s:Str}{A:List Pc}(hr:rank x=9)(e:pc x=pw s::A)(h1:s≠wIf)(h2:s≠wNot)(h:∀ R,Fo R→(pc x++R).length≤90000→∀ p,∃ q,wordP N0 i (pcT p (pc x++R))= .ok x (pcT q R)):RdE x i:=by
 have g1:∀ R,see 1 wIf (pcT 0 (pc x++R))=false:=fun R=>by
  rw[e]
  show(decide ((1:Int)=1) && decide (s=wIf))=false
  simp[h1]
 have g2:∀ R,see 1 wNot (pcT 0 (pc x++R))=false:=fun R=>by
  rw[e]
  show(decide ((1:Int)=1) && decide (s=wNot))=false
  simp[h2]
 refine RdE.of1 (by omega) g1 g2 fun R hf hl l p=> ?_
 obtain⟨q,hq⟩:=h R hf hl p
 refine⟨q,?_⟩
 have g3:see 5 (ch 45) (pcT 0 (pc x++R))=false:=by
  rw[e]
  show(decide ((1:Int)=5) && _)=false
  simp
 rw[op_prim hl (g2 R) g3]
 have e2:pc x++R=pw s::(A++R):=by rw[e];rfl
 rw[e2]at hl hq ⊢
 rw[prim_word hl,hq]
theorem rank9{x:Ex}(h:x.kind=1∨x.kind=2∨x.kind=3∨x.kind=4∨x.kind=5):rank x=9:=by
 unfold rank
 rw[if_neg (by omega),if_neg (by omega),if_neg (by omega),if_neg (by omega)]
theorem lit_rd{x:Ex}(hk:x.kind=1)(hx:litOK x)(ha:x.args=[])(i:Bool):RdE x i:=by
 have e:pc x=pcLit x:=by rw[pc_eq];unfold pcF;rw[if_pos hk]
 have hd3:∀ R,see 1 wIf (pcT 0 (pcLit x++R))=false∧see 1 wNot (pcT 0 (pcLit x++R))=false∧see 5 (ch 45) (pcT 0 (pcLit x++R))=false:=fun R=>by
  unfold pcLit
  split
  ·exact⟨rfl,rfl,rfl⟩
  split
  ·unfold boolS
   split<;>exact⟨rfl,rfl,rfl⟩
  split
  ·exact⟨rfl,rfl,rfl⟩
  split
  ·exact⟨rfl,rfl,rfl⟩
  ·exact⟨rfl,rfl,rfl⟩
 refine RdE.of1 (by rw[rank9 (.inl hk)];decide) (fun R=>by rw[e];exact(hd3 R).1) (fun R=>by rw[e];exact(hd3 R).2.1) fun R hf hl l p=> ?_
 rw[e]at hl ⊢
 rw[op_prim hl (hd3 R).2.1 (hd3 R).2.2]
 exact lit_prim hk hx ha hf hl i p
theorem nam_rd{x:Ex}{i:Bool}(hk:(x.kind=2∧i=true)∨(x.kind=3∧i=false))(hx:namOK x)(ha:x.args=[]):RdE x i:=by
 obtain⟨hN,hF⟩:=hx
 have e:pc x=[pw x.name]:=by
  rw[pc_eq];unfold pcF
  rw[if_neg (by omega),if_neg (by omega),if_neg (by omega),if_neg (by omega),if_neg (by omega),if_neg (by omega),if_neg (by omega)]
 have hx2:nmE (if i=true then 2 else 3) x.name []=x:=by
  have:=nam_etaB hF
  rw[ha]at this
  rcases hk with⟨h1,h2⟩|⟨h1,h2⟩
  ·rw[h2,if_pos rfl,← h1];exact this.symm
  ·rw[h2,if_neg (by decide),← h1];exact this.symm
 refine word_prim (rank9 (by omega)) e (name_kwB hN (by decide)) (name_kwB hN (by decide)) fun R hf hl p=> ?_
 rw[e]at hl ⊢
 obtain⟨q,hq⟩:=word_name (p:=p) (i:=i) hN hl hf
 exact⟨q,by rw[← hx2];exact hq⟩
theorem look_rd{x y:Ex}{i:Bool}(hk:x.kind=4)(hi:i=false)(hx:namOK x)(ha:x.args=[y])(ry:RdE y i):RdE x i:=by
 obtain⟨hN,hF⟩:=hx
 have e:pc x=pw x.name::sp::pw wOf::sp::pcPar (pc y):=by
  rw[pc_eq];unfold pcF
  rw[if_neg (by omega),if_pos hk,pca_at (by rw[ha];simp),ha];rfl
 have hx2:nmE 4 x.name [y]=x:=by
  have:=nam_etaB hF
  rw[ha,hk]at this
  exact this.symm
 refine word_prim (rank9 (by omega)) e (name_kwB hN (by decide)) (name_kwB hN (by decide)) fun R hf hl p=> ?_
 rw[e]at hl ⊢
 have e2:(pw x.name::sp::pw wOf::sp::pcPar (pc y))++R=pw x.name::sp::pw wOf::sp::(pcPar (pc y)++R):=rfl
 rw[e2]at hl ⊢
 have hlP:(pcPar (pc y)++R).length≤90000:=by simp only[List.length_cons]at hl;omega
 rw[word_un (end_pc (pw x.name::sp::pw wOf::sp::(pcPar (pc y)++R)) p).1 (show(1:Int)≠6 by decide) (ln hl p)]
 have ht:(hd (pcT p (pw x.name::sp::pw wOf::sp::(pcPar (pc y)++R)))).text=x.name:=rfl
 obtain⟨q,hq⟩:=name_rd (p:=p) (Z:=sp::pw wOf::sp::(pcPar (pc y)++R)) hN
 rw[ht,if_neg (by rintro(e|e)<;>exact name_kwB hN (by decide) e),if_neg (name_kwB hN (by decide)),if_neg (fun e=>hN.2 (agg_kw _ e.1)),hq,PR.bind_ok,if_neg (by rw[hi];decide),see_pc]
 have hs:see 1 wOf (pcT 0 (sp::pw wOf::sp::(pcPar (pc y)++R)))=true:=rfl
 rw[hs,if_pos rfl]
 obtain⟨q2,hq2⟩:=group_read (p:=q+1+((srcT (tW wOf)).length:Int)+1) (i:=i) (fun p=>ry.par hlP p) hlP
 have ht2:(pcT q (sp::pw wOf::sp::(pcPar (pc y)++R))).tail=pcT (q+1+((srcT (tW wOf)).length:Int)+1) (pcPar (pc y)++R):=rfl
 unfold PR.map
 rw[ht2,hq2,PR.bind_ok]
 simp only[hx2]
 exact⟨q2,rfl⟩
theorem null_rd{x y:Ex}{i:Bool}(hk:x.kind=6)(hop:x.op=wNull)(hF:x.Flat (opEx x))(ha:x.args=[y])(ry:RdE y i):RdE x i:=by
 have e:pc x=pw wNull::pcPar (pc y):=by
  rw[pc_eq];unfold pcF
  rw[if_neg (by omega),if_neg (by omega),if_neg (by omega),if_pos hk]
  unfold pcUn
  rw[hop,if_neg (by decide),if_neg (by decide),pca_at (by rw[ha];simp),ha];rfl
 have hx2:unE wNull y=x:=by
  have:=op_etaB hF
  rw[ha,hk,hop]at this
  exact this.symm
 have hr:rank x=9:=by
  unfold rank
  rw[if_neg (by omega),if_neg (by omega),if_pos hk,hop,if_neg (by decide),if_neg (by decide)]
 refine word_prim hr e (by decide) (by decide) fun R hf hl p=> ?_
 rw[e]at hl ⊢
 rw[List.cons_append]at hl ⊢
 have hlP:(pcPar (pc y)++R).length≤90000:=by simp only[List.length_cons]at hl;omega
 rw[word_un (end_pc (pw wNull::(pcPar (pc y)++R)) p).1 (show(1:Int)≠6 by decide) (ln hl p)]
 have ht:(hd (pcT p (pw wNull::(pcPar (pc y)++R)))).text=wNull:=rfl
 rw[ht,if_neg (by decide),if_pos rfl]
 obtain⟨q2,hq2⟩:=group_read (p:=p+((srcT (tW wNull)).length:Int)) (i:=i) (fun p=>ry.par hlP p) hlP
 have ht2:(pcT p (pw wNull::(pcPar (pc y)++R))).tail=pcT (p+((srcT (tW wNull)).length:Int)) (pcPar (pc y)++R):=rfl
 unfold PR.map
 rw[ht2,hq2,PR.bind_ok,hx2]
 exact⟨q2,rfl⟩
theorem neg_rd{x y:Ex}{i:Bool}(hk:x.kind=6)(hop:x.op=ch 45)(hF:x.Flat (opEx x))(ha:x.args=[y])(ry:RdE y i):RdE x i:=by
 have e:∀ R,pc x++R=ps 45::(ptAB y 8++R):=fun R=>by
  rw[pc_eq];unfold pcF
  rw[if_neg (by omega),if_neg (by omega),if_neg (by omega),if_pos hk]
  unfold pcUn pcAt
  rw[hop,if_pos rfl,pca_at (by rw[ha];simp),ha];rfl
 have hx2:unE (ch 45) y=x:=by
  have:=op_etaB hF
  rw[ha,hk,hop]at this
  exact this.symm
 have hr:rank x=8:=by
  unfold rank
  rw[if_neg (by omega),if_neg (by omega),if_pos hk,hop,if_pos rfl]
 refine RdE.of1 (by omega) (fun R=>by rw[e];rfl) (fun R=>by rw[e];rfl) fun R hf hl l p=> ?_
 rw[e]at hl ⊢
 have hlP:(ptAB y 8++R).length≤90000:=by simp only[List.length_cons]at hl;omega
 rw[operand_un (end_pc (ps 45::(ptAB y 8++R)) p).1 (ln hl p),see_pc 1 wNot,see_pc 5 (ch 45)]
 have s1:see 1 wNot (pcT 0 (ps 45::(ptAB y 8++R)))=false:=rfl
 have s2:see 5 (ch 45) (pcT 0 (ps 45::(ptAB y 8++R)))=true:=rfl
 rw[s1,s2,Bool.and_false,if_neg (by decide),if_pos rfl]
 have ht2:(pcT p (ps 45::(ptAB y 8++R))).tail=pcT (p+((srcT (tS 45)).length:Int)) (ptAB y 8++R):=rfl
 have hop7:∃ q,operandP N0 7 i (pcT (p+((srcT (tS 45)).length:Int)) (ptAB y 8++R))= .ok y (pcT q R):=by
  by_cases h:rank y<8
  ·have e:ptAB y 8=pcPar (pc y):=if_pos h
   rw[e]at hlP ⊢
   exact op_par (fun p=>ry.par hlP p) hlP
  ·have e:ptAB y 8=pc y:=if_neg h
   rw[e]at hlP ⊢
   exact ry.q1 (by omega) R hf hlP 7 _
 obtain⟨q,hq⟩:=hop7
 unfold PR.map
 rw[ht2,hq,PR.bind_ok,hx2]
 exact⟨q,rfl⟩
theorem not_rd{x y:Ex}{i:Bool}(hk:x.kind=6)(hop:x.op=wNot)(hF:x.Flat (opEx x))(ha:x.args=[y])(ry:RdE y i):RdE x i:=by
 have e:∀ R,pc x++R=pw wNot::sp::(ptAB y 4++R):=fun R=>by
  rw[pc_eq];unfold pcF
  rw[if_neg (by omega),if_neg (by omega),if_neg (by omega),if_pos hk]
  unfold pcUn pcAt
  rw[hop,if_neg (by decide),if_pos rfl,pca_at (by rw[ha];simp),ha];rfl
 have hx2:unE wNot y=x:=by
  have:=op_etaB hF
  rw[ha,hk,hop]at this
  exact this.symm
 have hr:rank x=4:=by
  unfold rank
  rw[if_neg (by omega),if_neg (by omega),if_pos hk,hop,if_neg (by decide),if_pos rfl]
 refine RdE.of2 (by omega) (fun h=>by omega) (fun R=>by rw[e];rfl) (fun h=>by omega) fun l hl1 hl2 hl7 R hf hkR hl p=> ?_
 have hk2:rk R≤2:=by
  unfold limR at hkR
  rw[if_pos hr]at hkR;exact hkR
 rw[e]at hl ⊢
 have hlP:(ptAB y 4++R).length≤90000:=by simp only[List.length_cons]at hl;omega
 have s1:see 1 wNot (pcT 0 (pw wNot::sp::(ptAB y 4++R)))=true:=rfl
 rw[bin_un (end_pc (pw wNot::sp::(ptAB y 4++R)) p).1 (ln hl p),operand_un (end_pc (pw wNot::sp::(ptAB y 4++R)) p).1 (ln hl p),see_pc,s1,Bool.and_true,decide_eq_true (show l≤3 by omega),if_pos rfl,if_pos rfl]
 have ht2:(pcT p (pw wNot::sp::(ptAB y 4++R))).tail=pcT (p+((srcT (tW wNot)).length:Int)+1) (ptAB y 4++R):=rfl
 have hlim:rank y<4∨rk R≤limR (rank y):=by
  by_cases h:rank y<4
  ·exact .inl h
  ·right
   unfold limR
   split
   ·omega
   ·split<;>omega
 obtain⟨q,hq⟩:=at_bin ry (r:=4) (l:=3) (by omega) (by omega) (by omega) hf hlim hlP (p+((srcT (tW wNot)).length:Int)+1)
 have hm:mstR (rank x)=2:=by unfold mstR;rw[if_pos hr]
 unfold PR.map
 rw[ht2,hq,ops_stopB (appl hlP) (.inl (by show rk R<3;omega)),PR.bind_ok,PR.bind_ok,hx2,hm]
 exact⟨q,rfl⟩
theorem if_rd{x a b c:Ex}{i:Bool}(hk:x.kind=8)(hop:x.op=⟨#[]⟩)(hF:x.Flat (opEx x))(ha:x.args=[a,b,c])(ra:RdE a i)(rb:RdE b i)(rc:RdE c i):RdE x i:=by
 have e:∀ R,pc x++R=pw wIf::sp::(pc a++(sp::pw wThen::sp::(pc b++(sp::pw wElse::sp::(pc c++R))))):=fun R=>by
  rw[pc_eq];unfold pcF
  rw[if_neg (by omega),if_neg (by omega),if_neg (by omega),if_neg (by omega),if_neg (by omega),if_pos hk]
  unfold pcIf
  rw[pca_at (by rw[ha];simp),pca_at (by rw[ha];simp),pca_at (by rw[ha];simp),ha];simp
 have hx2:(.mk 8 ⟨#[]⟩ ⟨#[]⟩ ⟨#[]⟩ v0 [] 0 w0 [a,b,c]:Ex)=x:=by
  have:=op_etaB hF
  rw[ha,hk,hop]at this
  exact this.symm
 have hr:rank x=0:=by unfold rank;rw[if_pos hk]
 refine⟨fun h=>by omega,fun l h h2=>by omega,fun h=>by omega,fun R hf hkR hd hl p=> ?_,fun h=>by omega,fun h=>by omega⟩
 rw[e]at hl ⊢
 have l1:(pc a++(sp::pw wThen::sp::(pc b++(sp::pw wElse::sp::(pc c++R))))).length≤90000:=by simp only[List.length_cons]at hl;omega
 have l2:(pc b++(sp::pw wElse::sp::(pc c++R))).length≤90000:=by have:=appl l1;simp only[List.length_cons]at this;omega
 have l3:(pc c++R).length≤90000:=by have:=appl l2;simp only[List.length_cons]at this;omega
 have s1:see 1 wIf (pcT 0 (pw wIf::sp::(pc a++(sp::pw wThen::sp::(pc b++(sp::pw wElse::sp::(pc c++R)))))))=true:=rfl
 rw[expr_un (end_pc _ p).1 (ln hl p),see_pc,s1,if_pos rfl]
 have ht2:(pcT p (pw wIf::sp::(pc a++(sp::pw wThen::sp::(pc b++(sp::pw wElse::sp::(pc c++R))))))).tail=pcT (p+((srcT (tW wIf)).length:Int)+1) (pc a++(sp::pw wThen::sp::(pc b++(sp::pw wElse::sp::(pc c++R))))):=rfl
 obtain⟨q1,hq1⟩:=ra.q4 (sp::pw wThen::sp::(pc b++(sp::pw wElse::sp::(pc c++R)))) ⟨rfl,rfl⟩ rfl rfl l1 (p+((srcT (tW wIf)).length:Int)+1)
 obtain⟨q2,hq2⟩:=keyP_ok (s:=wThen) (p:=q1+1) (Z:=sp::(pc b++(sp::pw wElse::sp::(pc c++R))))
 obtain⟨q3,hq3⟩:=rb.q4 (sp::pw wElse::sp::(pc c++R)) ⟨rfl,rfl⟩ rfl rfl l2 (q2+1)
 obtain⟨q4,hq4⟩:=keyP_ok (s:=wElse) (p:=q3+1) (Z:=sp::(pc c++R))
 obtain⟨q5,hq5⟩:=rc.q4 R hf hkR hd l3 (q4+1)
 have c1:pcT q1 (sp::pw wThen::sp::(pc b++(sp::pw wElse::sp::(pc c++R))))=pcT (q1+1) (pw wThen::sp::(pc b++(sp::pw wElse::sp::(pc c++R)))):=rfl
 have c2:pcT q2 (sp::(pc b++(sp::pw wElse::sp::(pc c++R))))=pcT (q2+1) (pc b++(sp::pw wElse::sp::(pc c++R))):=rfl
 have c3:pcT q3 (sp::pw wElse::sp::(pc c++R))=pcT (q3+1) (pw wElse::sp::(pc c++R)):=rfl
 have c4:pcT q4 (sp::(pc c++R))=pcT (q4+1) (pc c++R):=rfl
 rw[ht2,hq1,PR.bind_ok,c1,hq2,PR.bind_ok,c2,hq3,PR.bind_ok,c3,hq4,PR.bind_ok,c4,hq5,PR.bind_ok,hx2]
 exact⟨q5,rfl⟩
theorem def_rd{x a b:Ex}{i:Bool}(hk:x.kind=9)(hop:x.op=⟨#[]⟩)(hF:x.Flat (opEx x))(ha:x.args=[a,b])(ra:RdE a i)(rb:RdE b i):RdE x i:=by
 have e:∀ R,pc x++R=ptAB a 1++(sp::pw wDef::sp::(ptAB b 2++R)):=fun R=>by
  rw[pc_eq];unfold pcF
  rw[if_neg (by omega),if_neg (by omega),if_neg (by omega),if_neg (by omega),if_neg (by omega),if_neg (by omega),if_pos hk]
  unfold pcDef pcAt
  rw[pca_at (by rw[ha];simp),pca_at (by rw[ha];simp),ha];simp
 have hx2:(.mk 9 ⟨#[]⟩ ⟨#[]⟩ ⟨#[]⟩ v0 [] 0 w0 [a,b]:Ex)=x:=by
  have:=op_etaB hF
  rw[ha,hk,hop]at this
  exact this.symm
 have hr:rank x=1:=by unfold rank;rw[if_neg (by omega),if_pos hk]
 refine RdE.of3 hr (fun R=>by rw[e];exact at_if ra (by omega) _) fun R hf hkR hl p=> ?_
 rw[e]at hl ⊢
 have l2:(ptAB b 2++R).length≤90000:=by have:=appl hl;simp only[List.length_cons]at this;omega
 have ha2:∃ q,exprP N0 i (pcT p (ptAB a 1++(sp::pw wDef::sp::(ptAB b 2++R))))=defP N0 i a (pcT q (sp::pw wDef::sp::(ptAB b 2++R))):=by
  by_cases h:rank a<1
  ·have e2:ptAB a 1=pcPar (pc a):=if_pos h
   rw[e2]at hl ⊢
   obtain⟨q,hq⟩:=bin_of (l:=1) (p:=p) hl (op_par (fun p=>ra.par hl p) hl) rfl
   refine⟨q,?_⟩
   have s1:see 1 wIf (pcT 0 (pcPar (pc a)++(sp::pw wDef::sp::(ptAB b 2++R))))=false:=rfl
   rw[expr_un (end_pc _ p).1 (ln hl p),see_pc,s1,if_neg (by decide),hq,ops_stopB (appl hl) (.inr (.inl rfl)),PR.bind_ok]
  ·have e2:ptAB a 1=pc a:=if_neg h
   rw[e2]at hl ⊢
   exact ra.q3 (by omega) _ ⟨rfl,rfl⟩ rfl hl p
 obtain⟨q1,hq1⟩:=ha2
 obtain⟨q2,hq2⟩:=at_bin rb (r:=2) (l:=1) (by omega) (by omega) (by omega) hf (.inr (by rw[hkR];exact Nat.zero_le _)) l2 (q1+1+((srcT (tW wDef)).length:Int)+1)
 have s2:see 1 wDef (pcT 0 (sp::pw wDef::sp::(ptAB b 2++R)))=true:=rfl
 have ht2:(pcT q1 (sp::pw wDef::sp::(ptAB b 2++R))).tail=pcT (q1+1+((srcT (tW wDef)).length:Int)+1) (ptAB b 2++R):=rfl
 refine⟨q2,?_⟩
 rw[hq1,def_un (end_pc _ q1).1 (ln (appl hl) q1),see_pc,s2,if_pos rfl,ht2,hq2,ops_stopB (appl l2) (.inr (.inl hkR)),PR.bind_ok,hx2]
set_option linter.unusedSectionVars false
set_option maxHeartbeats 1000000
theorem win_rd{w:Win}(hw:winOK w)(Z:List Pc)(p:Int):∃ q,windowP (pcT p (pcWin w++Z))= .ok w (pcT q Z):=by
 obtain⟨k,z⟩:=w
 unfold winOK at hw
 simp only at hw
 have hz:∀ q:Int,k≠1→(q:Int)=q→((z.toNat:Nat):Int)=z:=fun q h _=>by omega
 unfold pcWin windowP
 simp only
 by_cases k2:k=2
 ·subst k2
  rw[if_pos rfl]
  obtain⟨q,hq⟩:=num_rd (p:=p+((srcT (tW wSli)).length:Int)+1) (n:=z.toNat) (Z:=Z)
  have s1:see 1 wAll (pcT p ([pw wSli,sp,.inr (tI z.toNat)]++Z))=false:=rfl
  have s2:see 1 wSli (pcT p ([pw wSli,sp,.inr (tI z.toNat)]++Z))=true:=rfl
  have t:(pcT p ([pw wSli,sp,.inr (tI z.toNat)]++Z)).tail=pcT (p+((srcT (tW wSli)).length:Int)+1) (.inr (tI z.toNat)::Z):=rfl
  refine⟨q,?_⟩
  rw[s1,s2,if_neg (by decide),if_pos rfl,t]
  unfold PR.map
  rw[hq,PR.bind_ok,hz 0 (by decide) rfl]
 rw[if_neg k2]
 by_cases k3:k=3
 ·subst k3
  rw[if_pos rfl]
  obtain⟨q,hq⟩:=num_rd (p:=p+((srcT (tW wTum)).length:Int)+1) (n:=z.toNat) (Z:=Z)
  have s1:see 1 wAll (pcT p ([pw wTum,sp,.inr (tI z.toNat)]++Z))=false:=rfl
  have s2:see 1 wSli (pcT p ([pw wTum,sp,.inr (tI z.toNat)]++Z))=false:=rfl
  have s3:see 1 wTum (pcT p ([pw wTum,sp,.inr (tI z.toNat)]++Z))=true:=rfl
  have t:(pcT p ([pw wTum,sp,.inr (tI z.toNat)]++Z)).tail=pcT (p+((srcT (tW wTum)).length:Int)+1) (.inr (tI z.toNat)::Z):=rfl
  refine⟨q,?_⟩
  rw[s1,s2,s3,if_neg (by decide),if_neg (by decide),if_pos rfl,t]
  unfold PR.map
  rw[hq,PR.bind_ok,hz 0 (by decide) rfl]
 rw[if_neg k3]
 by_cases k4:k=4
 ·subst k4
  rw[if_pos rfl]
  obtain⟨q0,hq0⟩:=keyP_ok (s:=wSes) (p:=p) (Z:=sp:: .inr (tI z.toNat)::Z)
  obtain⟨q,hq⟩:=num_rd (p:=q0+1) (n:=z.toNat) (Z:=Z)
  have e:[pw wSes,sp,.inr (tI z.toNat)]++Z=pw wSes::sp:: .inr (tI z.toNat)::Z:=rfl
  have s1:see 1 wAll (pcT p (pw wSes::sp:: .inr (tI z.toNat)::Z))=false:=rfl
  have s2:see 1 wSli (pcT p (pw wSes::sp:: .inr (tI z.toNat)::Z))=false:=rfl
  have s3:see 1 wTum (pcT p (pw wSes::sp:: .inr (tI z.toNat)::Z))=false:=rfl
  have t:pcT q0 (sp:: .inr (tI z.toNat)::Z)=pcT (q0+1) (.inr (tI z.toNat)::Z):=rfl
  refine⟨q,?_⟩
  rw[e,s1,s2,s3,if_neg (by decide),if_neg (by decide),if_neg (by decide),hq0,PR.bind_ok,t]
  unfold PR.map
  rw[hq,PR.bind_ok,hz 0 (by decide) rfl]
 ·rw[if_neg k4]
  obtain⟨rfl,rfl⟩:k=1∧z=0:=by omega
  have s1:see 1 wAll (pcT p ([pw wAll]++Z))=true:=rfl
  refine⟨p+((srcT (tW wAll)).length:Int),?_⟩
  rw[s1,if_pos rfl];rfl
theorem agg_facts:∀ s∈aggL,s≠wIf∧s≠wNot∧¬(s=wTrue∨s=wFalse)∧s≠wNull:=by decide
theorem agg_rd{x a b:Ex}(hk:x.kind=5)(hx:aggOK x)(ha:x.args=[a,b])(hc:x.op=cnt→a=tru)(ra:RdE a true)(rb:RdE b true):RdE x false:=by
 obtain⟨⟨y,hy,hop⟩,hN,hw,hp,hF⟩:=hx
 have hmem:x.op∈aggL:=hop ▸ hy
 obtain⟨n1,n2,n3,n4⟩:=agg_facts _ hmem
 have hx2:(.mk 5 x.op ⟨#[]⟩ x.table v0 [] x.param x.win [a,b]:Ex)=x:=by
  have:=agg_etaB hk hF
  rw[ha]at this
  exact this.symm
 have e0:pc x=pw x.op::(ps 40::pw x.table::((if x.op=cnt then[]else ps 44::sp::pc a)++((if x.param=0 then[]else[ps 44,sp,.inr (tI x.param.toNat)])
   ++(ps 44::sp::(pcWin x.win++((if b=tru then[]else sp::pw wWhere::sp::pc b)++[ps 41])))))):=by
  rw[pc_eq];unfold pcF
  rw[if_neg (by omega),if_neg (by omega),if_pos hk]
  unfold pcAgg
  rw[pca_at (by rw[ha];simp),pca_at (by rw[ha];simp),ha];rfl
 refine word_prim (rank9 (by omega)) e0 n1 n2 fun R hf hl p=> ?_
 generalize hA2:(if b=tru then([]:List Pc)else sp::pw wWhere::sp::pc b)=A2 at *
 have hZw:∃ Zw,Zw=pcWin x.win++(A2++ps 41::R):=⟨_,rfl⟩
 obtain⟨Zw,hZw⟩:=hZw
 obtain⟨P,hP⟩:∃ P,P=if x.param=0 then sp::Zw else sp:: .inr (tI x.param.toNat)::ps 44::sp::Zw:=⟨_,rfl⟩
 obtain⟨Q,hQ⟩:∃ Q,Q=if x.op=cnt then P else sp::(pc a++ps 44::P):=⟨_,rfl⟩
 have e1:(if x.param=0 then([]:List Pc)else[ps 44,sp,.inr (tI x.param.toNat)])++(ps 44::sp::Zw)=ps 44::P:=by
  rw[hP];split<;>rfl
 have e2:(if x.op=cnt then([]:List Pc)else ps 44::sp::pc a)++(ps 44::P)=ps 44::Q:=by
  rw[hQ];split
  ·rfl
  ·simp
 have e:pc x++R=pw x.op::ps 40::pw x.table::ps 44::Q:=by
  rw[e0,← e2,← e1,hZw];simp
 rw[e]at hl ⊢
 have lQ:Q.length≤89996:=by simp only[List.length_cons]at hl;omega
 have lP:P.length≤89996:=by
  rw[hQ]at lQ
  split at lQ
  ·exact lQ
  ·simp only[List.length_cons,List.length_append]at lQ;omega
 have lZ:Zw.length≤89996:=by
  rw[hP]at lP
  split at lP
  ·simp only[List.length_cons]at lP;omega
  ·simp only[List.length_cons]at lP;omega
 rw[word_un (end_pc (pw x.op::ps 40::pw x.table::ps 44::Q) p).1 (show(1:Int)≠6 by decide) (ln hl p)]
 have ht:(hd (pcT p (pw x.op::ps 40::pw x.table::ps 44::Q))).text=x.op:=rfl
 have ht2:(pcT p (pw x.op::ps 40::pw x.table::ps 44::Q)).tail=pcT (p+((srcT (tW x.op)).length:Int)) (ps 40::pw x.table::ps 44::Q):=rfl
 rw[ht,if_neg n3,if_neg n4,if_pos ⟨hmem,rfl⟩,ht2]
 obtain⟨q1,hq1⟩:=name_rd (p:=p+((srcT (tW x.op)).length:Int)+1) (Z:=ps 44::Q) hN
 rw[agg_un (end_pc (ps 40::pw x.table::ps 44::Q) _).1 (ln (by simp only[List.length_cons]at hl ⊢;omega) _),sign_ok,PR.bind_ok,hq1,PR.bind_ok,sign_ok,PR.bind_ok]
 have hval:∃ q,(if x.op≠wCount then(exprP N0 true (pcT (q1+1) Q)).bind fun x L4=>(signP (ch 44) L4).map fun _=>x else .ok (truE 1) (pcT (q1+1) Q))= .ok a (pcT q P):=by
  by_cases h:x.op=cnt
  ·rw[if_neg (fun k=>k h),hQ,if_pos h,hc h]
   exact⟨_,rfl⟩
  ·rw[if_pos (show x.op≠wCount from h),hQ,if_neg h]
   rw[hQ,if_neg h]at lQ
   obtain⟨q,hq⟩:=ra.q4 (ps 44::P) ⟨rfl,rfl⟩ rfl rfl (by rw[List.length_cons]at lQ;omega) (q1+1+1)
   have t:pcT (q1+1) (sp::(pc a++ps 44::P))=pcT (q1+1+1) (pc a++ps 44::P):=rfl
   rw[t,hq,PR.bind_ok]
   unfold PR.map
   rw[sign_ok]
   exact⟨q+1,rfl⟩
 obtain⟨q2,hq2⟩:=hval
 rw[hq2,PR.bind_ok]
 have hpar:∃ q,(if x.op=wQuant∨x.op=wDecay then(numP (pcT q2 P)).bind fun k L6=>(signP (ch 44) L6).map fun _=>k else .ok 0 (pcT q2 P))= .ok x.param (pcT q (sp::Zw)):=by
  unfold parOK at hp
  by_cases h0:x.param=0
  ·have hno:¬(x.op=wQuant∨x.op=wDecay):=by
    rintro(h|h)
    ·rw[if_pos h]at hp;omega
    ·rw[if_neg (by rw[h];decide),if_pos h]at hp;omega
   rw[if_neg hno,hP,if_pos h0,h0]
   exact⟨_,rfl⟩
  ·have hyes:x.op=wQuant∨x.op=wDecay:=by
    by_cases h1:x.op=wQuant
    ·exact .inl h1
    ·rw[if_neg h1]at hp
     by_cases h2:x.op=wDecay
     ·exact .inr h2
     ·rw[if_neg h2]at hp;exact absurd hp h0
   have hpos:((x.param.toNat:Nat):Int)=x.param:=by
    rcases hyes with h|h
    ·rw[if_pos h]at hp;omega
    ·rw[if_neg (by rw[h];decide),if_pos h]at hp;omega
   rw[if_pos hyes,hP,if_neg h0]
   obtain⟨q,hq⟩:=num_rd (p:=q2+1) (n:=x.param.toNat) (Z:=ps 44::sp::Zw)
   have t:pcT q2 (sp:: .inr (tI x.param.toNat)::ps 44::sp::Zw)=pcT (q2+1) (.inr (tI x.param.toNat)::ps 44::sp::Zw):=rfl
   rw[t,hq,PR.bind_ok]
   unfold PR.map
   rw[sign_ok,PR.bind_ok,hpos]
   exact⟨q+1,rfl⟩
 obtain⟨q3,hq3⟩:=hpar
 rw[hq3,PR.bind_ok]
 obtain⟨q4,hq4⟩:=win_rd hw (A2++ps 41::R) (q3+1)
 have t3:pcT q3 (sp::Zw)=pcT (q3+1) (pcWin x.win++(A2++ps 41::R)):=by rw[hZw];rfl
 rw[t3,hq4,PR.bind_ok]
 have lA:(A2++ps 41::R).length≤89996:=by rw[hZw,List.length_append]at lZ;omega
 have hcond:∃ q,(if see 1 wWhere (pcT q4 (A2++ps 41::R))then exprP N0 true (pcT q4 (A2++ps 41::R)).tail else .ok (truE 1) (pcT q4 (A2++ps 41::R)))= .ok b (pcT q (ps 41::R)):=by
  rw[← hA2]at lA ⊢
  by_cases h:b=tru
  ·rw[if_pos h,h,see_pc]
   have s1:see 1 wWhere (pcT 0 ([]++ps 41::R))=false:=rfl
   rw[s1,if_neg (by decide)]
   exact⟨_,rfl⟩
  ·rw[if_neg h]at lA ⊢
   rw[see_pc]
   have s1:see 1 wWhere (pcT 0 ((sp::pw wWhere::sp::pc b)++ps 41::R))=true:=rfl
   have t:(pcT q4 ((sp::pw wWhere::sp::pc b)++ps 41::R)).tail=pcT (q4+1+((srcT (tW wWhere)).length:Int)+1) (pc b++ps 41::R):=rfl
   rw[s1,if_pos rfl,t]
   exact rb.q4 (ps 41::R) (fo_close R) rfl rfl (by simp only[List.length_cons,List.length_append]at lA ⊢;omega) _
 obtain⟨q5,hq5⟩:=hcond
 rw[hq5,PR.bind_ok]
 unfold PR.map
 rw[sign_ok,PR.bind_ok,hx2]
 exact⟨q5+1,rfl⟩
theorem one_arg{l:List Ex}(h:l.length=1):∃ a,l=[a]:=by
 match l,h with
 |[a],_=>exact⟨a,rfl⟩
theorem two_args{l:List Ex}(h:l.length=2):∃ a b,l=[a,b]:=by
 match l,h with
 |[a,b],_=>exact⟨a,b,rfl⟩
theorem three_args{l:List Ex}(h:l.length=3):∃ a b c,l=[a,b,c]:=by
 match l,h with
 |[a,b,c],_=>exact⟨a,b,c,rfl⟩
theorem rd_all(x:Ex):∀ ins,form ins x=true→RdE x ins:=by
 induction x using Ex.ind with
 |h x ih=>
 intro ins hf
 have F:=FOK.of hf
 have hn:=F.nn
 have hb:=F.nb
 have hsub:=F.sub
 unfold nodeB at hb
 unfold nodeN at hn
 by_cases k1:x.kind=1
 ·rw[if_pos k1]at hb
  rw[if_neg (by omega),if_neg (by omega),if_neg (by omega)]at hn
  exact lit_rd k1 hb (List.eq_nil_of_length_eq_zero (by omega)) ins
 rw[if_neg k1]at hb
 by_cases k2:x.kind=2
 ·rw[if_pos k2]at hb
  rw[if_neg (by omega),if_neg (by omega),if_neg (by omega)]at hn
  exact nam_rd (.inl ⟨k2,hb.1⟩) hb.2 (List.eq_nil_of_length_eq_zero (by omega))
 rw[if_neg k2]at hb
 by_cases k3:x.kind=3
 ·rw[if_pos (.inl k3)]at hb
  rw[if_neg (by omega),if_neg (by omega),if_neg (by omega)]at hn
  exact nam_rd (.inr ⟨k3,hb.1⟩) hb.2 (List.eq_nil_of_length_eq_zero (by omega))
 have hins:x.kind≠5→(ins || decide (x.kind=5))=ins:=fun h=>by rw[decide_eq_false h,Bool.or_false]
 by_cases k4:x.kind=4
 ·rw[if_pos (.inr k4)]at hb
  rw[if_pos (.inl k4)]at hn
  obtain⟨y,hy⟩:=one_arg (l:=x.args) (by omega)
  have h0:=hsub y (by rw[hy];simp)
  rw[hins (by omega)]at h0
  exact look_rd k4 hb.1 hb.2 hy (ih y (by rw[hy];simp) ins h0)
 rw[if_neg (by omega)]at hb
 by_cases k5:x.kind=5
 ·rw[if_pos k5]at hb
  rw[if_neg (by omega),if_pos (.inl k5)]at hn
  obtain⟨a,b,hab⟩:=two_args (l:=x.args) (by omega)
  have h0:=hsub a (by rw[hab];simp)
  have h1:=hsub b (by rw[hab];simp)
  rw[decide_eq_true k5,Bool.or_true]at h0 h1
  have hc:x.op=cnt→a=tru:=fun h=>by
   have:=F.cn k5 h
   rw[hab]at this
   exact this
  rw[hb.1]
  exact agg_rd k5 hb.2 hab hc (ih a (by rw[hab];simp) true h0) (ih b (by rw[hab];simp) true h1)
 rw[if_neg k5]at hb
 by_cases k6:x.kind=6
 ·rw[if_pos k6]at hb
  rw[if_pos (.inr k6)]at hn
  obtain⟨y,hy⟩:=one_arg (l:=x.args) (by omega)
  have h0:=hsub y (by rw[hy];simp)
  rw[hins (by omega)]at h0
  have ry:=ih y (by rw[hy];simp) ins h0
  obtain⟨hF,o,ho,hop⟩:=hb
  simp only[unL,List.mem_cons,List.not_mem_nil,or_false]at ho
  rcases ho with rfl|rfl|rfl
  ·exact neg_rd k6 hop hF hy ry
  ·exact not_rd k6 hop hF hy ry
  ·exact null_rd k6 hop hF hy ry
 rw[if_neg k6]at hb
 by_cases k7:x.kind=7
 ·rw[if_pos k7]at hb
  rw[if_neg (by omega),if_pos (.inr (.inl k7))]at hn
  obtain⟨a,b,hab⟩:=two_args (l:=x.args) (by omega)
  have h0:=hsub a (by rw[hab];simp)
  have h1:=hsub b (by rw[hab];simp)
  rw[hins (by omega)]at h0 h1
  obtain⟨hF,o,ho,hop⟩:=hb
  exact bin_read k7 hF (hop ▸ ho) hab (ih a (by rw[hab];simp) ins h0) (ih b (by rw[hab];simp) ins h1)
 rw[if_neg k7]at hb
 by_cases k8:x.kind=8
 ·rw[if_pos (.inl k8)]at hb
  rw[if_neg (by omega),if_neg (by omega),if_pos k8]at hn
  obtain⟨a,b,c,hab⟩:=three_args (l:=x.args) (by omega)
  have h0:=hsub a (by rw[hab];simp)
  have h1:=hsub b (by rw[hab];simp)
  have h2:=hsub c (by rw[hab];simp)
  rw[hins (by omega)]at h0 h1 h2
  exact if_rd k8 hb.2 hb.1 hab (ih a (by rw[hab];simp) ins h0) (ih b (by rw[hab];simp) ins h1) (ih c (by rw[hab];simp) ins h2)
 by_cases k9:x.kind=9
 ·rw[if_pos (.inr k9)]at hb
  rw[if_neg (by omega),if_pos (.inr (.inr k9))]at hn
  obtain⟨a,b,hab⟩:=two_args (l:=x.args) (by omega)
  have h0:=hsub a (by rw[hab];simp)
  have h1:=hsub b (by rw[hab];simp)
  rw[hins (by omega)]at h0 h1
  exact def_rd k9 hb.2 hb.1 hab (ih a (by rw[hab];simp) ins h0) (ih b (by rw[hab];simp) ins h1)
 ·rw[if_neg (by omega)]at hb;exact hb.elim
theorem pc_len:∀ L:List Pc,PcOk L→L.length≤(pcS L).length
 |[],_=>Nat.le_refl _
 | .inl b::L,h=>by have:=pc_len L h.2;simp only[pcS,List.length_cons];omega
 | .inr t::L,h=>by
  have:=pc_len L h.2
  have h2:=List.length_pos_iff.2 h.1.ne
  simp only[pcS,List.length_cons,List.length_append];omega
theorem text_back{x:Ex}(h:form false x=true)(hs:(text x).size≤16384):∃ L,toksL (bL (text x))=(L,[])∧∃ q,exprP N0 false L= .ok x (pcT q []):=by
 have hT:=toks_text h
 have hok:=pc_ok x false h [] (by exact Fl.nil) trivial
 rw[List.append_nil]at hok
 have hlen:=pc_len _ hok
 rw[pc_b x false h]at hlen
 have hlen2:(bL (text x)).length=(text x).size:=rfl
 obtain⟨q,hq⟩:=(rd_all x false h).q4 [] ⟨rfl,rfl⟩ rfl rfl (by rw[List.append_nil];omega) 0
 rw[List.append_nil]at hq
 exact⟨_,hT,q,hq⟩
set_option linter.unusedSectionVars false
theorem valS_num{v:Val}(hn:v.n≤1152921504606846976)(hk:v.kind=2∨v.kind=3):(valS v).size≤40:=by
 have hd:(Lib.decDigits v.n.toNat).length≤21:=dd_len (by omega)
 have hq:(Lib.decDigits (v.n.toNat / 10 ^ 6)).length≤21:=dd_len (by omega)
 unfold valS
 rw[if_neg (by omega)]
 split
 ·show(Lib.decDigits v.n.toNat).toArray.size≤40
  rw[List.size_toArray];omega
 ·rw[if_pos (by omega)]
  show(Lib.decDigits (v.n.toNat / 10 ^ 6)++46::lowD 6 v.n.toNat).toArray.size≤40
  rw[List.size_toArray,List.length_append,List.length_cons,lowD_len];omega
theorem litT_small{x:Ex}(h:litOK x):(litT x).size≤250:=by
 obtain⟨h1,h2,h3,h4⟩:=h
 have hv:VOK x.val:=⟨h1,h2⟩
 have hk:=hv.kinds
 have hs:=valS_size hv
 obtain⟨hl,hu,ho⟩:=tyErr_unit h3
 have hn:=(tyB h3).2.1
 have hu:(unitT x.unit).size≤210:=unitT_size hu hl
 have hb:=(valB h1).2.1
 simp only at ho hn
 unfold litT
 split
 ·((simp only[List.length_cons,List.length_nil,List.length_append,List.length_map,List.length_take,app_size,szl,str_len,List.size_toArray];omega))
 ·rw[app_size]
  by_cases hu0:x.unit=[]
  ·rw[hu0]
   have:(unitT []).size=0:=rfl
   omega
  ·have:=valS_num hb (hn hu0)
   omega
theorem text_small(x:Ex):∀ ins,form ins x=true→(text x).size≤250 * x.size:=by
 induction x using Ex.ind with
 |h x ih=>
 intro ins hf
 have h:=FOK.of hf
 have hT:∀ i,i<x.args.length→(tx x i).size≤250 * (x.args.getD i default).size:=fun i hi=>by
  rw[tx_at hi];exact ih _ (getD_mem hi) _ (h.sub _ (getD_mem hi))
 have hs:=Ex.size_args x
 have hb:=h.nb
 have hn:=h.nn
 have hn3:=hn
 rw[text_eq]
 unfold textF
 unfold nodeN at hn
 by_cases h1:x.kind=1
 ·rw[if_pos h1]
  have:=litT_small (x:=x) (by unfold nodeB at hb;rwa [if_pos h1]at hb)
  omega
 rw[if_neg h1]
 by_cases h4:x.kind=4
 ·rw[if_pos h4]
  rw[if_pos (.inl h4)]at hn
  have hN:namOK x:=by unfold nodeB at hb;rw[if_neg (by omega),if_neg (by omega),if_pos (.inr h4)]at hb;exact hb.2
  have h5:=hN.1.1.2.1
  have h6:=hT 0 (by omega)
  have h7:=sizeL_le1 (l:=x.args) (by omega)
  ((simp only[List.length_cons,List.length_nil,List.length_append,List.length_map,List.length_take,app_size,szl,str_len,List.size_toArray];omega))
 rw[if_neg h4]
 by_cases h5:x.kind=5
 ·rw[if_pos h5]
  rw[if_neg (by omega),if_pos (.inl h5)]at hn
  have hA:aggOK x:=by unfold nodeB at hb;rw[if_neg (by omega),if_neg (by omega),if_neg (by omega),if_pos h5]at hb;exact hb.2
  obtain⟨⟨y,hy,ho⟩,ht,hw,hp, -⟩:=hA
  have e1:=aggL_size y hy
  rw[← ho]at e1
  have e2:=ht.1.2.1
  have e3:=winT_size hw
  have e4:(intS x.param).size≤21:=intS_size (by unfold parOK at hp;repeat' split at hp
                                                all_goals omega)
  have e6:=hT 0 (by omega)
  have e7:=hT 1 (by omega)
  have e8:=sizeL_le2 (l:=x.args) (by omega)
  have a1:(if x.op=cnt then(⟨#[]⟩:Str)else⟨#[44,32]⟩++tx x 0).size≤2+(tx x 0).size:=by
   split
   ·rw[szl];exact Nat.zero_le _
   ·rw[app_size,szl];exact Nat.le_refl _
  have a2:(if x.param=0 then(⟨#[]⟩:Str)else⟨#[44,32]⟩++intS x.param).size≤23:=by
   split
   ·decide
   ·rw[app_size,szl];show 2+_≤_;omega
  have a3:(if x.args.getD 1 default=tru then(⟨#[]⟩:Str)else⟨#[32,119,104,101,114,101,32]⟩++tx x 1).size≤7+(tx x 1).size:=by
   split
   ·rw[szl];exact Nat.zero_le _
   ·rw[app_size,szl];exact Nat.le_refl _
  unfold aggT
  ((simp only[List.length_cons,List.length_nil,List.length_append,List.length_map,List.length_take,app_size,szl,str_len,List.size_toArray];omega))
 rw[if_neg h5]
 by_cases h6:x.kind=6
 ·rw[if_pos h6]
  rw[if_pos (.inr h6)]at hn
  have e6:=hT 0 (by omega)
  have e7:=sizeL_le1 (l:=x.args) (by omega)
  have e8:= @atF_size x (tx x) 0 8
  have e9:= @atF_size x (tx x) 0 4
  unfold unT
  repeat' split
  all_goals((simp only[List.length_cons,List.length_nil,List.length_append,List.length_map,List.length_take,app_size,szl,str_len,List.size_toArray];omega))
 rw[if_neg h6]
 by_cases h7:x.kind=7
 ·rw[if_pos h7]
  rw[if_neg (by omega),if_pos (.inr (.inl h7))]at hn
  have hB:∃ y∈binL,x.op=y:=by unfold nodeB at hb;rw[if_neg (by omega),if_neg (by omega),if_neg (by omega),if_neg (by omega),if_neg (by omega),if_pos h7]at hb;exact hb.2
  obtain⟨y,hy,ho⟩:=hB
  have e1:=binL_size y hy
  rw[← ho]at e1
  have e6:=hT 0 (by omega)
  have e7:=hT 1 (by omega)
  have e8:=sizeL_le2 (l:=x.args) (by omega)
  have e9:= @atF_size x (tx x) 0 (leftR x)
  have e10:= @atF_size x (tx x) 1 (rank x+1)
  unfold binT
  ((simp only[List.length_cons,List.length_nil,List.length_append,List.length_map,List.length_take,app_size,szl,str_len,List.size_toArray];omega))
 rw[if_neg h7]
 by_cases h8:x.kind=8
 ·rw[if_pos h8]
  rw[if_neg (by omega),if_neg (by omega),if_pos h8]at hn
  have e6:=hT 0 (by omega)
  have e7:=hT 1 (by omega)
  have e5:=hT 2 (by omega)
  have e8:=sizeL_le3 (l:=x.args) (by omega)
  unfold ifT
  ((simp only[List.length_cons,List.length_nil,List.length_append,List.length_map,List.length_take,app_size,szl,str_len,List.size_toArray];omega))
 rw[if_neg h8]
 by_cases h9:x.kind=9
 ·rw[if_pos h9]
  rw[if_neg (by omega),if_pos (.inr (.inr h9))]at hn
  have e6:=hT 0 (by omega)
  have e7:=hT 1 (by omega)
  have e8:=sizeL_le2 (l:=x.args) (by omega)
  have e9:= @atF_size x (tx x) 0 1
  have e10:= @atF_size x (tx x) 1 2
  unfold defT
  ((simp only[List.length_cons,List.length_nil,List.length_append,List.length_map,List.length_take,app_size,szl,str_len,List.size_toArray];omega))
 rw[if_neg h9]
 have hN:namOK x:=by
  unfold nodeB at hb
  rw[if_neg h1]at hb
  split at hb
  ·exact hb.2
  ·split at hb
   ·exact hb.2
   ·rw[if_neg (by omega)]at hb;exact hb.elim
 have h5:=hN.1.1.2.1
 omega
def pcTy(t:Ty):List Pc:=
 if t.kind=1 then[pw wBool]else if t.kind=4 then[pw wText]else if t.kind=5 then[pw wKey,sp,pw t.of]
 else if t.kind=2 then pw wInt::pcUnit t.unit else pw wDec::pcUnit t.unit
theorem ty_b(t:Ty):pcS (pcTy t)=bL (tyS t):=by
 unfold pcTy tyS
 by_cases k1:t.kind=1
 ·rw[if_pos k1,if_pos k1];rfl
 rw[if_neg k1,if_neg k1]
 by_cases k4:t.kind=4
 ·rw[if_pos k4,if_pos k4];rfl
 rw[if_neg k4,if_neg k4]
 by_cases k5:t.kind=5
 ·rw[if_pos k5,if_pos k5,bL_app,pcS_w,pcS_b,pcS_w,pcS_nil,List.append_nil];rfl
 rw[if_neg k5,if_neg k5]
 by_cases k2:t.kind=2
 ·rw[if_pos k2,if_pos k2,bL_app,pcS_w,unit_b]
 ·rw[if_neg k2,if_neg k2,bL_app,pcS_w,unit_b]
theorem ty_ok{t:Ty}(ht:tyErr t=0){R:List Pc}(hf:Fl (pcS R))(h:PcOk R):PcOk (pcTy t++R):=by
 obtain⟨t1,t2,t3,t4,t5,t6⟩:=tyB ht
 have hu:=ok_unit (R:=R) (unit_words t5 t6) h
 have hfu:=fl_unit (u:=t.unit) hf
 unfold pcTy
 split
 ·exact ok_w (by decide) hf h
 split
 ·exact ok_w (by decide) hf h
 split
 ·rename_i k
  exact ok_w (by decide) fl_sp (ok_sp (ok_w (t3 k).1 hf h))
 split
 ·exact ok_w (by decide) hfu hu
 ·exact ok_w (by decide) hfu hu
theorem ty_rd{t:Ty}(ht:tyErr t=0){R:List Pc}(hf:Fo R)(p:Int):∃ q,kindP (pcT p (pcTy t++R))= .ok t (pcT q R):=by
 obtain⟨t1,t2,t3,t4,t5,t6⟩:=tyB ht
 obtain⟨k,u,o⟩:=t
 simp only at t1 t2 t3 t4 t5 t6
 have hu:¬(k=2∨k=3)→u=[]:=fun h=>Decidable.not_not.1 fun hn=>h (t2 hn)
 unfold pcTy kindP
 simp only
 by_cases k1:k=1
 ·subst k1
  rw[if_pos rfl,hu (by decide),t4 (by decide)]
  refine⟨p+((srcT (tW wBool)).length:Int),?_⟩
  rw[show see 1 wBool (pcT p ([pw wBool]++R))=true from rfl,if_pos rfl];rfl
 rw[if_neg k1]
 by_cases k4:k=4
 ·subst k4
  rw[if_pos rfl,hu (by decide),t4 (by decide)]
  refine⟨p+((srcT (tW wText)).length:Int),?_⟩
  rw[show see 1 wBool (pcT p ([pw wText]++R))=false from rfl,if_neg (by decide),show see 1 wText (pcT p ([pw wText]++R))=true from rfl,if_pos rfl];rfl
 rw[if_neg k4]
 by_cases k5:k=5
 ·subst k5
  rw[if_pos rfl,hu (by decide)]
  obtain⟨q,hq⟩:=name_rd (p:=p+((srcT (tW wKey)).length:Int)+1) (Z:=R) (t3 rfl)
  refine⟨q,?_⟩
  rw[show see 1 wBool (pcT p ([pw wKey,sp,pw o]++R))=false from rfl,if_neg (by decide),show see 1 wText (pcT p ([pw wKey,sp,pw o]++R))=false from rfl,if_neg (by decide),show see 1 wKey (pcT p ([pw wKey,sp,pw o]++R))=true from rfl,if_pos rfl,show(pcT p ([pw wKey,sp,pw o]++R)).tail=pcT (p+((srcT (tW wKey)).length:Int)+1) (pw o::R)from rfl]
  unfold PR.map
  rw[hq,PR.bind_ok]
 rw[if_neg k5]
 by_cases k2:k=2
 ·subst k2
  rw[if_pos rfl,t4 (by decide)]
  obtain⟨q,hq⟩:=unit_read t5 t6 hf (p+((srcT (tW wInt)).length:Int))
  refine⟨q,?_⟩
  rw[show see 1 wBool (pcT p (pw wInt::pcUnit u++R))=false from rfl,if_neg (by decide),show see 1 wText (pcT p (pw wInt::pcUnit u++R))=false from rfl,if_neg (by decide),show see 1 wKey (pcT p (pw wInt::pcUnit u++R))=false from rfl,if_neg (by decide),show see 1 wInt (pcT p (pw wInt::pcUnit u++R))=true from rfl,if_pos rfl,show(pcT p (pw wInt::pcUnit u++R)).tail=pcT (p+((srcT (tW wInt)).length:Int)) (pcUnit u++R)from rfl]
  unfold PR.map
  rw[hq,PR.bind_ok]
 ·have k3:k=3:=by omega
  subst k3
  rw[if_neg k2,t4 (by decide)]
  obtain⟨q,hq⟩:=unit_read t5 t6 hf (p+((srcT (tW wDec)).length:Int))
  refine⟨q,?_⟩
  rw[show see 1 wBool (pcT p (pw wDec::pcUnit u++R))=false from rfl,if_neg (by decide),show see 1 wText (pcT p (pw wDec::pcUnit u++R))=false from rfl,if_neg (by decide),show see 1 wKey (pcT p (pw wDec::pcUnit u++R))=false from rfl,if_neg (by decide),show see 1 wInt (pcT p (pw wDec::pcUnit u++R))=false from rfl,if_neg (by decide)]
  have e:keyP wDec (pcT p (pw wDec::pcUnit u++R))= .ok () (pcT (p+((srcT (tW wDec)).length:Int)) (pcUnit u++R)):=rfl
  rw[e,PR.bind_ok]
  unfold PR.map
  rw[hq,PR.bind_ok]
theorem ty_back{t:Ty}(ht:tyErr t=0):∃ L,toksL (bL (tyS t))=(L,[])∧∃ q,kindP L= .ok t (pcT q []):=by
 have hok:=ty_ok (R:=[]) ht (by exact Fl.nil) trivial
 have hT:=toks_pc hok
 rw[List.append_nil,ty_b]at hT
 obtain⟨q,hq⟩:=ty_rd (R:=[]) ht ⟨rfl,rfl⟩ 0
 rw[List.append_nil]at hq
 exact⟨_,hT,q,hq⟩
theorem whole_text{x:Ex}(h:form false x=true)(hs:x.size≤64)(z:Ex):wholeP (exprP N0 false) z (bL (text x))=(x,0,0):=by
 have hl:(text x).size≤16384:=by have:=text_small x false h;omega
 obtain⟨L,hL,q,hq⟩:=text_back h hl
 unfold wholeP
 rw[if_neg (show¬(bL (text x)).length>16384 from fun k=>by have:(bL (text x)).length=(text x).size:=rfl;omega),hL]
 simp only[hq,PR.bind_ok]
 rfl
theorem whole_ty{t:Ty}(h:tyErr t=0)(z:Ty):wholeP kindP z (bL (tyS t))=(t,0,0):=by
 have hl:(tyS t).size≤16384:=by
  obtain⟨h1,h2,h3⟩:=tyErr_unit h
  have:=unitT_size h2 h1
  unfold tyS
  repeat' split
  all_goals first|decide|((simp only[List.length_cons,List.length_nil,List.length_append,List.length_map,List.length_take,app_size,szl,str_len,List.size_toArray];omega))
 obtain⟨L,hL,q,hq⟩:=ty_back h
 unfold wholeP
 rw[if_neg (show¬(bL (tyS t)).length>16384 from fun k=>by have:(bL (tyS t)).length=(tyS t).size:=rfl;omega),hL]
 simp only[hq,PR.bind_ok]
 rfl
end Go.Proofs.YtbihckigennlhaaGreatDoor
