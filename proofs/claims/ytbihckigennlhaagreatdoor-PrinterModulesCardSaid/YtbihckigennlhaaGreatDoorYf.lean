/- units.Normal. -/
import Derived.Test.YtbihckigennlhaaGreatDoorYe
import Derived.Test.YtbihckigennlhaaGreatDoorUi
set_option linter.unusedSimpArgs false
set_option linter.unusedVariables false
set_option maxRecDepth 100000
set_option maxHeartbeats 4000000
namespace Go.Proofs.YtbihckigennlhaaGreatDoor
open Go.Sx Go.Proofs Go.Tb
abbrev BF:AV:= .v (.slice none 0 0)
def ju(es:List (af×Int))(f:aq):List (af×Int):=gP es f.name (dI es f.name+f.exp)
def ik(l:List aq):List (af×Int):=l.foldl ju []
theorem aym{l:List aq}{i:Nat}(h:i<l.length):ik (l.take (i+1))=ju (ik (l.take i)) (l.getD i default):=by
 unfold ik
 rw[Zv h,List.foldl_append,← getD_eq h];rfl
theorem Kz(s t:af)(v:Int):∀ es,dI (gP es s v) t=if t=s then v else dI es t
 |[]=>by
  simp only[gP,dI]
  by_cases h:s=t
  ·rw[if_pos h,if_pos h.symm]
  ·rw[if_neg h,if_neg fun e=>h e.symm]
 |p::es=>by
  have ih:=Kz s t v es
  by_cases hp:p.1=s
  ·subst hp
   simp only[gP,Y7,dI]
   by_cases h:p.1=t
   ·rw[if_pos h,if_pos h.symm]
   ·rw[if_neg h,if_neg fun e=>h e.symm,if_neg h]
  ·simp only[gP,if_neg hp,dI]
   by_cases h:p.1=t
   ·rw[if_pos h,if_pos h,if_neg fun e=>hp (h.trans e)]
   ·rw[if_neg h,if_neg h,ih]
theorem N1(s:af)(v:Int):∀ es,(gP es s v).map Prod.fst=if s∈es.map Prod.fst then es.map Prod.fst else es.map Prod.fst++[s]
 |[]=>by simp[gP]
 |p::es=>by
  have ih:=N1 s v es
  by_cases hp:p.1=s
  ·subst hp;simp[gP]
  ·have qI:¬s=p.1:=fun e=>hp e.symm
   simp only[gP,if_neg hp,ZH,ih,ZV,qI,false_or]
   split<;>simp
theorem J2(f:aq)(l:List aq)(s:af):eL (f::l) s=(if f.name=s then f.exp else 0)+eL l s:=by
 unfold eL
 by_cases h:f.name=s
 ·simp[h]
 ·simp[h]
theorem Ky(s:af):∀ (l:List aq) (es:List (af×Int)),dI (l.foldl ju es) s=dI es s+eL l s
 |[],es=>by simp[eL]
 |f::l,es=>by
  rw[List.foldl_cons,Ky s l,J2,ju,Kz]
  by_cases h:f.name=s
  ·rw[if_pos h,if_pos h.symm,h];omega
  ·rw[if_neg h,if_neg fun e=>h e.symm];omega
theorem DX(l:List aq)(s:af):dI (ik l) s=eL l s:=by unfold ik;rw[Ky];simp[dI]
theorem O4:∀ (l:List aq) (es:List (af×Int)),(es.map Prod.fst).Nodup→((l.foldl ju es).map Prod.fst).Nodup∧(∀ s,s∈(l.foldl ju es).map Prod.fst↔s∈es.map Prod.fst∨s∈l.map aq.name)∧(l.foldl ju es).length≤es.length+l.length
 |[],es,h=>⟨h,fun s=>by simp,ZI _⟩
 |f::l,es,h=>by
  have hk:=N1 f.name (dI es f.name+f.exp) es
  have hl:(ju es f).length≤es.length+1:=by
   have h2:=congrArg List.length hk
   simp only[Z3]at h2
   unfold ju
   rw[h2];split<;>simp
  have hm:∀ s,s∈(ju es f).map Prod.fst↔s∈es.map Prod.fst∨s=f.name:=fun s=>by
   unfold ju;rw[hk]
   split
   ·rename_i h1
    exact⟨.inl,fun h=>h.elim id fun e=>by rw[e];exact h1⟩
   ·simp
  have hn:((ju es f).map Prod.fst).Nodup:=by
   unfold ju;rw[hk]
   split
   ·exact h
   ·rename_i h1
    exact XT.2 ⟨h,by simp,fun a ha b hb e=>by rw[Y3]at hb;subst hb;subst e;exact h1 ha⟩
  obtain⟨g1,g2,g3⟩:=O4 l (ju es f) hn
  refine⟨g1,fun s=> ?_,by rw[List.foldl_cons,Z9];omega⟩
  rw[List.foldl_cons,g2,hm,ZH,ZV,or_assoc]
theorem DJ(s:af):∀ (l:List aq),(∀ f∈l, -1099511627776≤f.exp∧f.exp≤1099511627776)→-1099511627776 * (l.length:Int)≤eL l s∧eL l s≤1099511627776 * (l.length:Int)
 |[],_=>by simp[eL]
 |f::l,h=>by
  have h1:=DJ s l fun f hf=>h f (ZX _ hf)
  have h2:=h f ZU
  rw[J2,Z9]
  split<;>omega
def mg(oi:Nat)(rows:List (List AV))(x:AV)(τ:Store):Prop:=(rows=[]∧x=BF∧τ=[])∨∃ b u c,x= .own 2 oi b u c rows∧τ=[(oi,b,.tail u c)]
theorem mg.z{oi:Nat}:mg oi [] BF []:= .inl ⟨rfl,rfl,rfl⟩
theorem mg.n{oi:Nat}{rows:List (List AV)}(h:rows=[]):mg oi rows BF []:= .inl ⟨h,rfl,rfl⟩
theorem mg.s{oi b u c:Nat}{rows rows':List (List AV)}(h:rows'=rows):mg oi rows (.own 2 oi b u c rows') [(oi,b,.tail u c)]:= .inr ⟨b,u,c,by rw[h],rfl⟩
def qu(l:List aq)(L:List af):List aq:=(L.map fun n=>(⟨n,eL l n⟩:aq)).filter fun f=>decide (f.exp≠0)
theorem Wl{l:List aq}{N:List af}{i:Nat}(h:i<N.length):qu l (N.take (i+1))=qu l (N.take i)++if eL l (N.getD i default)≠0 then[⟨N.getD i default,eL l (N.getD i default)⟩]else[]:=by
 unfold qu
 rw[Zv h,← getD_eq h,Y2,List.filter_append,List.map_singleton,Yi]
 simp
theorem Wj(l:List aq)(L:List af):(qu l L).length≤L.length:=YG (XO _ _) (by rw[Z3];exact ZI _)
theorem ac3(l:List aq)(hw:∀ f∈l,Word f.name)(hb:∀ f∈l, -1099511627776≤f.exp∧f.exp≤1099511627776)(hl:l.length≤20000):Pure Tryz.prog 156 [.sl false 2 (l.map aq.cells)] (.aI [.sl false 2 ((gz l).1.map aq.cells),iv (gz l).2]):=by
 refine abN.p fun σ=> ?_
 repeat'(first|exact .nil|refine .k0 ?_|refine .k1 ?_|refine .k2 ?_|refine .k6 ?_|refine .r1 ?_ ?_|(refine .m2 ?_ ?_;intro hlen)|(refine .l3 ?_;intro b)|fail)
 all_goals(try simp only[BL]at *)
 rename Nat=>b1
 refine cQ (fun m rg σ'=>∃ (i:Nat),i≤l.length∧m=l.length-i∧σ'=(11,b1,.map (wE (ik (l.take i))) (ik (l.take i)).length)::σ∧rg=[(2,BF),(4,.eA 11 b1),(12,.sl false 2 (l.map aq.cells)),(13,iv l.length),(14,iv i)]) l.length rfl ⟨_,_,Zr,Zs,0,ZK _,rfl,rfl,rfl⟩ ?_
 rintro m _ _ ⟨i,hi,hm,rfl,rfl⟩
 have D6:i<l.length→-576460752303423488≤(l.getD i default).exp∧(l.getD i default).exp≤576460752303423488:=fun h=>by
  have:=hb _ (cW h);omega
 have KN:∀ s, -576460752303423488≤dI (ik (l.take i)) s∧dI (ik (l.take i)) s≤576460752303423488:=fun s=>by
  have h1:=DJ s (l.take i) fun f hf=>hb f (List.mem_of_mem_take hf)
  rw[ZT]at h1
  rw[DX];omega
 repeat'((fail_if_success (show WK _ _ _ _ (.azZ _) _ _ _));(first|exact .nil|refine .k0 ?_|refine .k1 ?_|refine .k2 ?_|refine .k6 ?_|refine .k7 ?_|refine .k8 ?_|refine .k9 ?_|(refine .cd ?_ ?_<;>(intro hc;skip))|refine .r1 ?_ ?_|(refine .l1 ?_;intro b)|refine .t1 ?_ ?_ ?_|refine .an rfl (by intro bx;first|exact P2 _|fail) ?_ ?_|fail))
 try any_goals((intro bx;first|(simp_all;done)|fail))
 all_goals(try simp only[BL]at *)
 ·exact absurd (hw _ (cW (by omega))) hc
 ·have bz:i<l.length:=by omega
  refine Sb 28 rfl rfl rfl ?_
  repeat'(first|exact .nil|refine .k0 ?_|refine .r1 ?_ ?_|fail)
  refine RQ rfl rfl rfl OB.nil ?_
  repeat'(first|exact .nil|refine .k0 ?_|refine .k1 ?_|refine .k2 ?_|refine .r1 ?_ ?_|refine .an rfl (by intro bx;first|exact Nl (D6 (by first|omega|fail))|exact Ti (KN _) (D6 (by first|omega|fail))|fail) ?_ ?_|fail)
  all_goals(try simp only[BL]at *)
  refine Ru (es:=ik (l.take i)) (s:=(l.getD i default).name) (v:=dI (ik (l.take i)) (l.getD i default).name+(l.getD i default).exp) rfl rfl rfl rfl OB.nil ?_
  repeat'(first|exact .nil|refine .k0 ?_|refine .k1 ?_|refine .k2 ?_|refine .r1 ?_ ?_|fail)
  all_goals(try simp only[BL]at *)
  refine⟨m-1,by omega,_,(11,b1,.map (wE (ik (l.take (i+1)))) (ik (l.take (i+1))).length)::σ,Zr,by rw[aym bz];repeat' first|exact .refl _|refine .cons ?_,i+1,by omega,by omega,rfl,by rw[eD (n:=l.length) (by omega) (by assumption)]⟩
 ·have bz:i=l.length:=by omega
  subst bz
  rw[List.take_length]
  have hK:=O4 l [] List.nodup_nil
  have vo:jm ((ik l).map Prod.fst)=jm (l.map aq.name):=Ca (wy _) (wy _) fun x=>by
   rw[wx,wx];exact(hK.2.1 x).trans (by simp)
  refine se rfl (ax4 (es:=ik l) rfl hK.1 (fun p hp=> ?_) (by have:=hK.2.2;simp only[Z4]at this;show(l.foldl ju []).length≤_;omega)) OB.nil (fun x σ' hR=> ?_) (fun ch σ' hR=> ?_)
  ·have h1:=(hK.2.1 p.1).1 (YS.2 ⟨p,hp,rfl⟩)
   rcases h1 with h1|h1
   ·cases h1
   ·obtain⟨f,hf,e⟩:=YS.1 h1
    have:=(hw f hf).2.1
    rw[← e];unfold maxLen;omega
  rotate_left
  ·exact nomatch hR.1
  obtain⟨e1,e2⟩:=hR
  cases e1
  subst e2
  rw[vo]
  have Eb:gz l=if∃ n∈jm (l.map aq.name),eL l n>8∨eL l n< -8 then([],70)else if(qu l (jm (l.map aq.name))).length>4 then([],2)else(qu l (jm (l.map aq.name)),0):=rfl
  have hNl:(jm (l.map aq.name)).length≤20000:=by
   have:=Nb (OX (wy (l.map aq.name))) fun x hx=>wx.1 hx
   rw[Z3]at this;omega
  generalize jm (l.map aq.name)=N at *
  repeat'(first|exact .nil|refine .k0 ?_|refine .k1 ?_|refine .k6 ?_|refine .r1 ?_ ?_|(refine .m2 ?_ ?_;intro hlen)|fail)
  all_goals(try simp only[BL]at *)
  clear D6 KN vo hK hi hm hc
  have Xb:∀ s, -576460752303423488≤dI (ik l) s∧dI (ik l) s≤576460752303423488:=fun s=>by
   have h1:=DJ s l hb
   rw[DX];omega
  have hG:=fun s=>DX l s
  generalize ik l=es at *
  refine cQ (fun m rg σ'=>∃ (i:Nat) (x:AV) (τ:Store),i≤N.length∧m=N.length-i∧(∀ n∈N.take i,¬(eL l n>8∨eL l n< -8))∧mg 61 ((qu l (N.take i)).map aq.cells) x τ∧σ'=τ++(11,b1,.map (wE es) es.length)::σ∧rg=[(2,x),(4,.eA 11 b1),(35,Gx N),(36,iv N.length),(37,iv i)]) N.length rfl ⟨_,_,Zr,Zs,0,_,_,ZK _,rfl,(fun n h=>by cases h),mg.z,rfl,rfl⟩ ?_
  rintro m2 _ _ ⟨i,x,τ,hi,hm,hP,hR,rfl,rfl⟩
  have La:(qu l (N.take i)).length≤20000:=YG (Wj _ _) (by rw[ZT];omega)
  have vx:=fun(h:i<N.length)=>Wl (l:=l) h
  have KT:i<N.length→¬(eL l (N.getD i default)>8∨eL l (N.getD i default)< -8)→∀ n∈N.take (i+1),¬(eL l n>8∨eL l n< -8):=fun h h1 n hn=>by
   rw[Zv h,← getD_eq h,Zm,Y3]at hn
   rcases hn with hn|rfl
   ·exact hP n hn
   ·exact h1
  rcases hR with⟨hE,rfl,rfl⟩|⟨b3,u3,c3,rfl,rfl⟩
  all_goals
   repeat'(first|exact .nil|refine .k0 ?_|refine .k1 ?_|refine .k2 ?_|refine .k6 ?_|refine .k7 ?_|refine .k8 ?_|refine .k9 ?_|(refine .cd ?_ ?_<;>(intro hc;skip))|refine .r1 ?_ ?_|(refine .m2 ?_ ?_;intro hlen)|refine .t1 ?_ ?_ ?_|refine .r8 ?_ ?_|fail)
   refine Ri rfl rfl rfl OB.nil ?_
   repeat'(first|exact .nil|refine .k0 ?_|refine .k1 ?_|refine .k2 ?_|refine .k7 ?_|refine .k9 ?_|(refine .cd ?_ ?_<;>(intro hc;skip))|refine .r1 ?_ ?_|refine .u1 ?_ ?_ ?_ (fun b u c=> ?_)|refine .u2 ?_ ?_ ?_ (fun b u c=> ?_)|refine .an rfl (by intro bx;first|exact Ny _ 8 (by decide)|exact Vu (Xb _)) ?_ ?_|(show List.all _ _=true;rfl)|fail)
   try any_goals((intro bx;first|(simp_all;done)|fail))
   all_goals(try simp only[BL]at *)
   ·rw[Eb,if_pos ⟨N.getD i default,cW (by omega),by rw[hG]at hc;exact hc⟩]
    exact Zw
   ·show _≤1000000;simp only[Z9,Z4];omega
   ·show _ * _≤_;simp only[Z3,Z9,Z4];omega
   ·have ye:¬(dI es (N.getD i default)>8∨dI es (N.getD i default)< -8):=by assumption
    rw[hG]at hc ye
    refine⟨m2-1,by omega,_,_,Zr,Zs,i+1,_,_,by omega,by omega,KT (by omega) ye,mg.s ?_,rfl,by rw[eD (n:=N.length) (by omega) (by assumption)]⟩
    rw[vx (by omega),if_pos hc,Y2,hG]
    first|(rw[hE];rfl)|rfl
   ·have ye:¬(dI es (N.getD i default)>8∨dI es (N.getD i default)< -8):=by assumption
    rw[hG]at hc ye
    refine⟨m2-1,by omega,_,_,Zr,Zs,i+1,_,_,by omega,by omega,KT (by omega) ye,?_,rfl,by rw[eD (n:=N.length) (by omega) (by assumption)]⟩
    rw[vx (by omega),if_neg (by rw[hc];simp),Zn]
    first|exact mg.n hE|exact mg.s rfl
   ·have o6:N.take i=N:=ZC (by omega)
    rw[o6]at hP
    try rw[o6]at hE
    try rw[o6]at hc
    try rw[o6]
    rw[Eb,if_neg (by rintro⟨n,hn,fx⟩;exact hP n hn fx)]
    first
     |exact absurd hc (by decide)
     |(rw[if_pos (by omega)];(refine Sx.Fin.wk Zs ?_;repeat' first|exact .refl _|exact .nil|refine .cons ?_ ?_|refine .aI ?_|fail))
   ·have o6:N.take i=N:=ZC (by omega)
    rw[o6]at hP
    try rw[o6]at hE
    try rw[o6]at hc
    try rw[o6]
    rw[Eb,if_neg (by rintro⟨n,hn,fx⟩;exact hP n hn fx)]
    first
     |(rw[YO.1 hE,if_neg (by decide)];refine Sx.Fin.wk Zs (.aI (.cons .nil (.cons (.refl _) .nil)));done)
     |(rw[if_neg (by omega)];(refine Sx.Fin.wk Zs ?_;repeat' first|exact .refl _|refine .cons ?_ ?_|refine .aI ?_|exact .own _))
end Go.Proofs.YtbihckigennlhaaGreatDoor
set_option linter.unusedSectionVars false
namespace Go.Proofs.YtbihckigennlhaaGreatDoor
open Go.Sx Go.Proofs
abbrev fE:AV:= .v (.slice none 0 0)
def CV(e tg lp lb bp bl b:Nat)(cK:Store)(rows:List (List AV))(τ:Store):Prop:=
 (rows=[]∧τ=(lp,bp,.cells [.lp 1000 b 0])::(lb,bl,.cells [fE])::cK)∨(rows≠[]∧∃ bb u c,τ=(lp,bp,.cells [.lp 1000 b 0])::(lb,bl,.cells [.own e tg bb u c rows])::(tg,bb,.tail u c)::cK)
def rW(f:aq):Prop:=Word f.name∧-1099511627776≤f.exp∧f.exp≤1099511627776
def rZ:Prop:=∀ l:List aq,l≠[]→(∀ f∈l,rW f)→l.length≤20000→Pure Tryz.prog 156 [.sl false 2 (l.map aq.cells)] (.aI [.sl false 2 ((gz l).1.map aq.cells),iv (gz l).2])
theorem Nh{L L':List Tok}{k:Int}(h:az2 L= .ok k L'):0≤k:=by
 unfold az2 PR.map at h
 cases e:dM 2 L with
 |ok t L1=>rw[e,PR.aJ]at h;cases h;exact Int.natCast_nonneg _
 |err p c=>rw[e]at h;cases h
theorem ayU(hw:iQ)(bp bl b:Nat)(rest:List AV)(cK:Store)(ins:Bool):
  HF 153 [.lp 1 bp 0,.lp 4 bl 0] dP ins b rest cK (fun acc τ=>CV 2 20 1 4 bp bl b cK (acc.map aq.cells) τ):=by
 intro acc L τ hL Xu hS
 refine qg.spec ?_
 have nI:∀ (x:AV) (qc:Store),τ=(1,bp,.cells [.lp 1000 b 0])::(4,bl,.cells [x])::qc→((acc=[]∧x=fE∧qc=cK)∨(acc≠[]∧∃ bb u c,x= .own 2 20 bb u c (acc.map aq.cells)∧qc=(20,bb,.tail u c)::cK))→AV.one x=true→
   Sx.Spec Tryz.prog 153 [.lp 1 bp 0,.lp 4 bl 0] ((1000,b,.cells (bh L ins++rest))::τ) (qg ins rest cK ((dP L).map fun a=>acc++[a]) (fun acc τ=>CV 2 20 1 4 bp bl b cK (acc.map aq.cells) τ) b):=by
  rintro x qc rfl hx h1
  have ep:Sub cK qc:=by
   rcases hx with⟨_,_,rfl⟩|⟨_,_,_,_,_,rfl⟩
   ·exact .refl _
   ·exact .cons (.refl _)
  refine Spec.cY (fun _=>0) Tryz.func153 UC VN (Z8 rfl) ?_
  unfold dP
  repeat'(first|exact .nil|refine .k0 ?_|refine .k1 ?_|refine .k2 ?_|refine .r1 ?_ ?_|fail)
  refine bI rfl (BU hw L hL ins) rfl rfl rfl .nil ?_ (fun _ _ h=>aR (qg.cL ep (val:=fun _=> .any) (τ:=qc) h)) (fun _=>Zs) (fun nm L1 aX bj=> ?_)
  ·exact fun p c h=>by rw[h];rfl
  have jc:=(Pos.name L hL.e).ok _ _ aX
  rw[aX,PR.aJ]
  simp(decide:=true)only[aL,aP]
  repeat'((fail_if_success (show WK _ _ _ _ _ _ _ _));(first|exact .nil|refine .k0 ?_|refine .k1 ?_|refine .r1 ?_ ?_|(refine .l1 ?_;intro b)|fail))
  rename Nat=>b2
  refine jQ rfl ?_
  refine lq (fun rg σ'=>∃ (f:aq) (L2:List Tok),Gd L2∧(if au 5 (ch 94) L1 then if au 5 (ch 45) L1.tail then(az2 L1.tail.tail).map fun k=>(⟨nm, -(min k 1099511627776)⟩:aq)else(az2 L1.tail).map fun k=>⟨nm,min k 1099511627776⟩else .ok ⟨nm,1⟩ L1)= .ok f L2∧
   σ'=(2,b2,.cells f.cells)::(1000,b,.cells (bh L2 ins++rest))::(1,bp,.cells [.lp 1000 b 0])::(4,bl,.cells [x])::qc∧rg=[(1,.lp 4 bl 0),(2,.lp 2 b2 0)]) ?_ ?_
  ·repeat'(first|exact .nil|refine .k0 ?_|refine .k1 ?_|refine .k2 ?_|refine .r1 ?_ ?_|fail)
   by_cases qA:au 5 (ch 94) L1=true
   ·have mJ:=bj.tail (cr (k:=5) (by decide) L1 qA)
    refine nz rfl (fX L1 bj ins 5 (by decide) (ch 94)) (jI qA) rfl rfl rfl .nil (fun _=> ?_)
    simp(decide:=true)only[aL,aP]
    rw[if_pos qA]
    (repeat'((fail_if_success (show WK _ _ _ _ (.seq (.seq _ _) (.keep _ _)) _ _ _));(first|exact .nil|refine .k0 ?_|refine .k1 ?_|refine .k2 ?_|(refine .cd ?_ ?_<;>first|with_reducible exact tF|(intro hc;skip))|refine .r1 ?_ ?_|fail)))<;>(try(simp at hc;done))
    refine lq (fun rg σ'=>∃ (L2:List Tok) (sg:Int),Gd L2∧((au 5 (ch 45) L1.tail=true∧L2=L1.tail.tail∧sg= -1)∨(¬au 5 (ch 45) L1.tail=true∧L2=L1.tail∧sg=1))∧
     σ'=(2,b2,.cells [sv nm,iv 1])::(1000,b,.cells (bh L2 ins++rest))::(1,bp,.cells [.lp 1000 b 0])::(4,bl,.cells [x])::qc∧rg=[(0,.lp 1 bp 0),(1,.lp 4 bl 0),(2,.lp 2 b2 0),(3,iv sg)]) ?_ ?_
    ·repeat'(first|exact .nil|refine .k0 ?_|refine .k1 ?_|refine .k2 ?_|refine .r1 ?_ ?_|fail)
     by_cases sE:au 5 (ch 45) L1.tail=true
     ·have fP:=mJ.1.tail (cr (k:=5) (by decide) L1.tail sE)
      refine nz (L:=L1.tail) (ins:=ins) rfl (fX L1.tail mJ.1 ins 5 (by decide) (ch 45)) (jI sE) rfl rfl rfl .nil (fun _=> ?_)
      simp(decide:=true)only[aL,aP]
      (repeat'(first|exact .nil|refine .k0 ?_|refine .k1 ?_|refine .k2 ?_|(refine .cd ?_ ?_<;>first|with_reducible exact tF|(intro hc;skip))|refine .r1 ?_ ?_|fail))<;>(try(simp at hc;done))
      exact dH.intro rfl ⟨_, -1,fP.1,.inl ⟨sE,rfl,rfl⟩,rfl,rfl⟩
     ·refine nz (L:=L1.tail) (ins:=ins) rfl (fX L1.tail mJ.1 ins 5 (by decide) (ch 45)) (jH sE) rfl rfl rfl .nil (fun _=> ?_)
      simp(decide:=true)only[aL,aP]
      (repeat'(first|refine .k0 ?_|refine .k1 ?_|refine .k2 ?_|refine .k9 ?_|(refine .cd ?_ ?_<;>first|with_reducible exact fT|(intro hc;skip))|fail))<;>(try(simp at hc;done))
      exact dH.intro rfl ⟨_,1,mJ.1,.inr ⟨sE,rfl,rfl⟩,rfl,rfl⟩
    ·rintro _ _ ⟨L2,sg,cy,lK,rfl,rfl⟩
     have K7:(if au 5 (ch 45) L1.tail=true then(az2 L1.tail.tail).map fun k=>(⟨nm, -(min k 1099511627776)⟩:aq)else(az2 L1.tail).map fun k=>⟨nm,min k 1099511627776⟩)=(az2 L2).map fun k=>(⟨nm,sg * min k 1099511627776⟩:aq):=by
      rcases lK with⟨h1,rfl,rfl⟩|⟨h1,rfl,rfl⟩
      ·rw[if_pos h1];congr 1;funext k;rw[Int.neg_mul,Int.one_mul]
      ·rw[if_neg h1];congr 1;funext k;rw[Int.one_mul]
     have ew:sg= -1∨sg=1:=lK.elim (fun h=> .inl h.2.2) fun h=> .inr h.2.2
     rw[K7]
     clear K7 lK
     repeat'(first|exact .nil|refine .k0 ?_|refine .k2 ?_|refine .r1 ?_ ?_|fail)
     refine bI rfl (wg hw L2 cy ins) rfl rfl rfl .nil ?_ (fun _ _ h=>aR (qg.cL ep (val:=fun _=> .any) (τ:=qc) h)) (fun _=>Zs) (fun k L3 nX nF=> ?_)
     ·exact fun p c h=>by rw[h];rfl
     simp(decide:=true)only[aL,aP]
     have o7:=Nh nX
     have yb:IntKind.i64.wrap (sg * if true=true then if 1099511627776<k then 1099511627776 else k else if 1099511627776>k then 1099511627776 else k)=sg * min k 1099511627776:=by
      have e1:(if true=true then if 1099511627776<k then 1099511627776 else k else if 1099511627776>k then 1099511627776 else k)=min k 1099511627776:=by
       rw[if_pos rfl];split<;>omega
      rw[e1,aW]
      rcases ew with rfl|rfl<;>omega
     repeat'(first|exact .nil|refine .k0 ?_|refine .k1 ?_|refine .k2 ?_|refine .r1 ?_ ?_|fail)
     exact dH.intro rfl ⟨⟨nm,sg * min k 1099511627776⟩,L3,nF,by rw[nX];rfl,rfl,rfl⟩ (hs:=by rw[yb];exact Zs)
   ·refine nz rfl (fX L1 bj ins 5 (by decide) (ch 94)) (jH qA) rfl rfl rfl .nil (fun _=> ?_)
    simp(decide:=true)only[aL,aP]
    (repeat'(first|refine .k0 ?_|refine .k1 ?_|refine .k2 ?_|refine .k9 ?_|(refine .cd ?_ ?_<;>first|with_reducible exact fT|(intro hc;skip))|fail))<;>(try(simp at hc;done))
    exact dH.intro rfl ⟨⟨nm,1⟩,L1,bj,by rw[if_neg qA],rfl,rfl⟩
  ·rintro _ _ ⟨f,L2,cy,hf,rfl,rfl⟩
   rw[hf]
   rcases hx with⟨rfl,rfl,rfl⟩|⟨aQ,bb,u,c,rfl,rfl⟩
   ·repeat'(first|exact .nil|refine .k0 ?_|refine .k1 ?_|refine .k2 ?_|refine .k3 ?_|refine .r1 ?_ ?_|refine .u1 ?_ ?_ ?_ (fun b u c=> ?_)|fail)
    ·exact Z8 rfl
    ·simp
    ·show _ * _≤_;simp only[Z9,Z4];omega
    ·exact⟨_,_,.inr ⟨by simp,_,_,_,rfl⟩,cy,rfl,by exact Zs,(Yk (l₁:=[_,_,_])).symm⟩
   ·repeat'(first|exact .nil|refine .k0 ?_|refine .k1 ?_|refine .k2 ?_|refine .k3 ?_|refine .r1 ?_ ?_|refine .u2 ?_ ?_ ?_ (fun b u c=> ?_)|(show List.all _ _=true;rfl)|fail)
    ·exact Z8 rfl
    ·show _ * _≤_;simp only[Z3,Z9,Z4];omega
    ·exact⟨_,_,.inr ⟨by simp,b,u,c,by rw[Y2]⟩,cy,rfl,by exact Zs,List.Perm.refl _⟩
 rcases hS with⟨h1,rfl⟩|⟨h1,bb,u,c,rfl⟩
 ·exact nI fE cK rfl (.inl ⟨YO.1 h1,rfl,rfl⟩) rfl
 ·exact nI _ _ rfl (.inr ⟨fun h=>h1 (by rw[h];rfl),bb,u,c,rfl,rfl⟩) rfl
theorem acS{L L':List Tok}{s:af}(h:fh L= .ok s L'):Word s:=by
 unfold fh at h
 split at h
 ·cases h
 ·rename_i hn
  unfold PR.map at h
  cases e:dM 1 L with
  |err p c=>rw[e]at h;cases h
  |ok t L1=>
   rw[e,PR.aJ]at h
   cases h
   unfold dM at e
   split at e
   ·cases e
   ·cases e;exact(Y4.1 hn).1
theorem Kf{L L':List Tok}{f:aq}(h:dP L= .ok f L'):rW f:=by
 unfold dP at h
 cases e:fh L with
 |err p c=>rw[e]at h;cases h
 |ok nm L1=>
  rw[e,PR.aJ]at h
  have hw:=acS e
  have key:∀ (L2:List Tok) (g:Int→aq),(∀ k,0≤k→rW (g k))→(az2 L2).map g= .ok f L'→rW f:=fun L2 g hg h=>by
   unfold PR.map at h
   cases e2:az2 L2 with
   |err p c=>rw[e2]at h;cases h
   |ok k L3=>rw[e2,PR.aJ]at h;cases h;exact hg k (Nh e2)
  split at h
  ·split at h
   ·exact key _ _ (fun k hk=>⟨hw,by show -1099511627776≤-(min k 1099511627776);omega,by show -(min k 1099511627776)≤1099511627776;omega⟩) h
   ·exact key _ _ (fun k hk=>⟨hw,by show -1099511627776≤min k 1099511627776;omega,by show min k 1099511627776≤1099511627776;omega⟩) h
  ·cases h;exact⟨hw,by show -1099511627776≤(1:Int);decide,by show(1:Int)≤1099511627776;decide⟩
theorem MV:∀ (k:Nat) (L:List Tok) (acc l:List aq) (L':List Tok),ck L→acc≠[]→(∀ f∈acc,rW f)→j4 (ch 42) dP k L acc= .ok l L'→l≠[]∧(∀ f∈l,rW f)∧l.length+L'.length≤acc.length+L.length
 |0,L,acc,l,L',hL,h0,ha,h=>by cases h;exact⟨h0,ha,ZI _⟩
 |k+1,L,acc,l,L',hL,h0,ha,h=>by
  rw[j4]at h
  by_cases hs:au 5 (ch 42) L=true
  ·rw[if_pos hs]at h
   have ht:=hL.tail (cr (k:=5) (by decide) L hs)
   cases e:dP L.tail with
   |err p c=>rw[e]at h;cases h
   |ok a L1=>
    rw[e,PR.aJ]at h
    have hp:=(Pos.uW L.tail ht.1).ok a L1 e
    obtain⟨g1,g2,g3⟩:=MV k L1 (acc++[a]) l L' hp.2.1 (by simp) (fun f hf=>by
     rcases Zm.1 hf with hf|hf
     ·exact ha f hf
     ·rw[Y3]at hf;subst hf;exact Kf e) h
    refine⟨g1,g2,?_⟩
    have:(acc++[a]).length=acc.length+1:=by simp
    omega
  ·rw[if_neg hs]at h;cases h;exact⟨h0,ha,ZI _⟩
theorem acu{L L':List Tok}{l:List aq}(hL:ck L)(h:gy (ch 42) dP L= .ok l L'):l≠[]∧(∀ f∈l,rW f)∧l.length+L'.length≤L.length:=by
 unfold gy at h
 cases e:dP L with
 |err p c=>rw[e]at h;cases h
 |ok a L1=>
  rw[e,PR.aJ]at h
  have hp:=(Pos.uW L hL).ok a L1 e
  obtain⟨g1,g2,g3⟩:=MV N0 L1 [a] l L' hp.2.1 (by simp) (fun f hf=>by rw[Y3]at hf;subst hf;exact Kf e) h
  refine⟨g1,g2,?_⟩
  simp only[Z9,Z4]at g3
  omega
theorem adp{α:Type}(a b c:α)(l:List α):(a::b::c::l).Perm (c::b::a::l):=
 (List.Perm.swap b a _).trans ((List.Perm.cons b (List.Perm.swap c a l)).trans (List.Perm.swap c b _))
theorem Od(hw:iQ)(hN:rZ)(L:List Tok)(hL:Gd L)(ins:Bool):bG 111 [] ins L (iq L) fun u=> .sl false 2 (u.map aq.cells):=by
 refine bG.intro fun b1 rest τ=> ?_
 refine Spec.cY (fun _=>0) Tryz.func111 Ut VD (Z8 rfl) ?_
 unfold iq
 have hp:=hL.pos
 have hcell:(bh L ins++rest)=[.sl false 3 (L.map Tok.cells),.v (.bool ins)]++rest:=rfl
 rw[hcell]
 repeat'(first|exact .nil|refine .k0 ?_|refine .k1 ?_|refine .k2 ?_|refine .r1 ?_ ?_|(refine .m1 ?_ ?_;intro b)|refine .t1 ?_ ?_ ?_|fail)
 any_goals omega
 rename Nat=>bp
 simp only[show Int.toNat 0=0 from rfl,lF]
 by_cases hs:au 5 (ch 91) L=true
 ·have ht:=hL.tail (cr (k:=5) (by decide) L hs)
  rw[if_pos hs]
  refine nz (rest:=rest) rfl (fX L hL ins 5 (by decide) (ch 91)) (jI hs) rfl rfl rfl .nil (fun _=> ?_)
  simp(decide:=true)only[aL,aP]
  (repeat'(first|exact .nil|refine .k0 ?_|refine .k1 ?_|refine .k2 ?_|refine .k7 ?_|refine .k9 ?_|(refine .cd ?_ ?_<;>(intro hc;skip))|refine .r1 ?_ ?_|(refine .l1 ?_;intro b)|fail))<;>(try(simp at hc;done))
  rename Nat=>bl
  refine se rfl ((acv (c:= #[.pointer (some ⟨bp,0,none⟩),.pointer (some ⟨bl,0,none⟩)]) (S:=fun acc cU=>CV 2 20 1 4 bp bl b1 τ (acc.map aq.cells) cU) (by rfl) (.cons .raw (.cons .raw .nil)) (ayU hw bp bl b1 rest τ ins) Pos.uW (ch 42) L.tail _ ht.1 (.inl ⟨rfl,rfl⟩)).permA ?_) .nil (fun x σ' hR=> ?_) (fun c σ' hR=> ?_)
  ·exact adp _ _ _ _
  ·cases hr:gy (ch 42) dP L.tail with
   |err p c=>rw[hr]at hR;cases hR.1
   |ok l L1=>
    rw[hr]at hR
    obtain⟨ke,hS,bj,hx,rfl⟩:=hR
    cases hx
    obtain⟨kA,hlf,pd⟩:=acu ht.1.e hr
    have pd:l.length≤20000:=by have:=ht.1.n;omega
    rcases hS with⟨h0,_⟩|⟨_,bb,u,c,rfl⟩
    ·exact absurd (YO.1 h0) kA
    rw[PR.aJ]
    repeat'(first|exact .nil|refine .k0 ?_|refine .k1 ?_|refine .k2 ?_|refine .r1 ?_ ?_|fail)
    refine bI rfl (rq hw L1 bj ins (ch 93)) rfl rfl rfl .nil ?_ (fun _ _ h=>aR h) (fun _=>Zs) (fun a2 L2 cJ cy=> ?_)
    ·exact fun p c h=>by rw[h];rfl
    rw[cJ,PR.aJ]
    simp(decide:=true)only[aL,aP]
    repeat'(first|exact .nil|refine .k0 ?_|refine .k1 ?_|refine .k2 ?_|refine .k7 ?_|refine .k9 ?_|(refine .cd ?_ ?_<;>(intro hc;skip))|refine .r1 ?_ ?_|refine .an rfl (by intro bx;(refine(hN l kA hlf pd).wk ?_;(repeat' first|exact .refl _|refine .cons ?_ ?_|exact .own _);done)) ?_ ?_|fail)
    all_goals(try simp only[BL]at *)
    ·refine C3 rfl rfl .nil ?_
     refine aR ?_
     exact oA (cs:=bh L2 ins++rest) (by rw[if_pos hc];exact⟨rfl,_,_,rfl⟩)
    ·exact dc (a:=(gz l).1) (by rw[if_neg (fun h=>h hc)]) cy (.refl _)
  ·refine aR ?_
   cases hr:gy (ch 42) dP L.tail with
   |ok l L1=>rw[hr]at hR;obtain⟨_,_,_,h,_⟩:=hR;cases h
   |err p c=>rw[hr]at hR;obtain⟨e,L',i',h⟩:=hR;cases e;exact oA (cs:=bh L' i'++rest) ⟨rfl,L',i',rfl⟩ h
 ·rw[if_neg hs]
  refine nz (rest:=rest) rfl (fX L hL ins 5 (by decide) (ch 91)) (jH hs) rfl rfl rfl .nil (fun _=> ?_)
  simp(decide:=true)only[aL,aP]
  (repeat'(first|exact .nil|refine .k0 ?_|refine .k1 ?_|refine .k2 ?_|refine .k7 ?_|refine .k9 ?_|(refine .cd ?_ ?_<;>(intro hc;skip))|refine .r1 ?_ ?_|(refine .l1 ?_;intro b)|fail))<;>(try(simp at hc;done))
  exact dc (a:=[]) rfl hL .nil
theorem aDJ(hw:iQ)(hN:rZ)(L:List Tok)(hL:Gd L)(ins:Bool):bG 58 [] ins L (Bu L) fun t=> .agg [iv t.kind,.sl false 2 (t.unit.map aq.cells),sv t.of]:=by
 refine bG.intro fun b1 rest τ=> ?_
 refine Spec.cY (fun _=>0) Tryz.func58 aEp aED (Z8 rfl) ?_
 unfold Bu
 repeat'(first|exact .nil|refine .k0 ?_|refine .k1 ?_|refine .k2 ?_|refine .k6 ?_|refine .r1 ?_ ?_|(refine .l1 ?_;intro b)|fail)
 by_cases aBV:au 1 aza L=true
 ·have ht:=hL.tail (cr (k:=1) (by decide) L aBV)
  rw[if_pos aBV]
  refine nz rfl (fX L hL ins 1 (by decide) aza) (jI aBV) rfl rfl rfl .nil (fun _=> ?_)
  simp(decide:=true)only[aL,aP]
  (repeat'(first|exact .nil|refine .k0 ?_|refine .k1 ?_|refine .k2 ?_|refine .k7 ?_|(refine .cd ?_ ?_<;>first|with_reducible exact tF|(intro hc;skip))|refine .r1 ?_ ?_|fail))<;>(try(simp at hc;done))
  refine dc (a:=(⟨1,[],⟨#[]⟩⟩:Ty)) rfl ht.1 ?_
  repeat' first|exact .refl _|exact .nil|refine .cons ?_ ?_|refine .agg ?_
 ·rw[if_neg aBV]
  refine nz rfl (fX L hL ins 1 (by decide) aza) (jH aBV) rfl rfl rfl .nil (fun _=> ?_)
  simp(decide:=true)only[aL,aP]
  (repeat'(first|exact .nil|refine .k0 ?_|refine .k1 ?_|refine .k2 ?_|(refine .cd ?_ ?_<;>first|with_reducible exact fT|(intro hc;skip))|refine .r1 ?_ ?_|fail))<;>(try(simp at hc;done))
  by_cases aBY:au 1 azk L=true
  ·have ht:=hL.tail (cr (k:=1) (by decide) L aBY)
   rw[if_pos aBY]
   refine nz rfl (fX L hL ins 1 (by decide) azk) (jI aBY) rfl rfl rfl .nil (fun _=> ?_)
   simp(decide:=true)only[aL,aP]
   (repeat'(first|exact .nil|refine .k0 ?_|refine .k1 ?_|refine .k2 ?_|refine .k7 ?_|(refine .cd ?_ ?_<;>first|with_reducible exact tF|(intro hc;skip))|refine .r1 ?_ ?_|fail))<;>(try(simp at hc;done))
   refine dc (a:=(⟨4,[],⟨#[]⟩⟩:Ty)) rfl ht.1 ?_
   repeat' first|exact .refl _|exact .nil|refine .cons ?_ ?_|refine .agg ?_
  ·rw[if_neg aBY]
   refine nz rfl (fX L hL ins 1 (by decide) azk) (jH aBY) rfl rfl rfl .nil (fun _=> ?_)
   simp(decide:=true)only[aL,aP]
   (repeat'(first|exact .nil|refine .k0 ?_|refine .k1 ?_|refine .k2 ?_|(refine .cd ?_ ?_<;>first|with_reducible exact fT|(intro hc;skip))|refine .r1 ?_ ?_|fail))<;>(try(simp at hc;done))
   by_cases aBX:au 1 azi L=true
   ·have ht:=hL.tail (cr (k:=1) (by decide) L aBX)
    rw[if_pos aBX]
    refine nz rfl (fX L hL ins 1 (by decide) azi) (jI aBX) rfl rfl rfl .nil (fun _=> ?_)
    simp(decide:=true)only[aL,aP]
    (repeat'(first|exact .nil|refine .k0 ?_|refine .k1 ?_|refine .k2 ?_|(refine .cd ?_ ?_<;>first|with_reducible exact tF|(intro hc;skip))|refine .r1 ?_ ?_|fail))<;>(try(simp at hc;done))
    refine bI rfl (BU hw L.tail ht.1 ins) rfl rfl rfl .nil ?_ (fun _ _ h=>aR h) (fun _=>Zs) (fun a L1 aX bj=> ?_)
    ·exact fun p c h=>by rw[h];rfl
    simp(decide:=true)only[aL,aP]
    repeat'(first|exact .nil|refine .k0 ?_|refine .k1 ?_|refine .k7 ?_|refine .r1 ?_ ?_|fail)
    refine dc (a:=(⟨5,[],a⟩:Ty)) (by rw[aX];rfl) bj ?_
    repeat' first|exact .refl _|exact .nil|refine .cons ?_ ?_|refine .agg ?_
   ·rw[if_neg aBX]
    refine nz rfl (fX L hL ins 1 (by decide) azi) (jH aBX) rfl rfl rfl .nil (fun _=> ?_)
    simp(decide:=true)only[aL,aP]
    (repeat'(first|exact .nil|refine .k0 ?_|refine .k1 ?_|refine .k2 ?_|(refine .cd ?_ ?_<;>first|with_reducible exact fT|(intro hc;skip))|refine .r1 ?_ ?_|fail))<;>(try(simp at hc;done))
    by_cases aBW:au 1 azg L=true
    ·have ht:=hL.tail (cr (k:=1) (by decide) L aBW)
     rw[if_pos aBW]
     refine nz rfl (fX L hL ins 1 (by decide) azg) (jI aBW) rfl rfl rfl .nil (fun _=> ?_)
     simp(decide:=true)only[aL,aP]
     (repeat'(first|exact .nil|refine .k0 ?_|refine .k1 ?_|refine .k2 ?_|(refine .cd ?_ ?_<;>first|with_reducible exact tF|(intro hc;skip))|refine .r1 ?_ ?_|fail))<;>(try(simp at hc;done))
     refine bI rfl (Od hw hN L.tail ht.1 ins) rfl rfl rfl .nil ?_ (fun _ _ h=>aR h) (fun _=>Zs) (fun a L1 aX bj=> ?_)
     ·exact fun p c h=>by rw[h];rfl
     simp(decide:=true)only[aL,aP]
     repeat'(first|exact .nil|refine .k0 ?_|refine .k1 ?_|refine .k7 ?_|refine .r1 ?_ ?_|fail)
     refine dc (a:=(⟨2,a,⟨#[]⟩⟩:Ty)) (by rw[aX];rfl) bj ?_
     repeat' first|exact .refl _|fail
    ·rw[if_neg aBW]
     refine nz rfl (fX L hL ins 1 (by decide) azg) (jH aBW) rfl rfl rfl .nil (fun _=> ?_)
     simp(decide:=true)only[aL,aP]
     (repeat'(first|exact .nil|refine .k0 ?_|refine .k1 ?_|refine .k2 ?_|refine .k9 ?_|(refine .cd ?_ ?_<;>first|with_reducible exact fT|(intro hc;skip))|refine .r1 ?_ ?_|fail))<;>(try(simp at hc;done))
     refine bI rfl (Gb hw L hL ins azb) rfl rfl rfl .nil ?_ (fun _ _ h=>aR h) (fun _=>Zs) (fun a L1 aX bj=> ?_)
     ·exact fun p c h=>by rw[h];rfl
     rw[aX,PR.aJ]
     simp(decide:=true)only[aL,aP]
     repeat'(first|exact .nil|refine .k0 ?_|refine .k1 ?_|refine .k2 ?_|refine .r1 ?_ ?_|fail)
     refine bI rfl (Od hw hN L1 bj ins) rfl rfl rfl .nil ?_ (fun _ _ h=>aR h) (fun _=>Zs) (fun u L2 cJ cy=> ?_)
     ·exact fun p c h=>by rw[h];rfl
     simp(decide:=true)only[aL,aP]
     repeat'(first|exact .nil|refine .k0 ?_|refine .k1 ?_|refine .k7 ?_|refine .r1 ?_ ?_|fail)
     refine dc (a:=(⟨3,u,⟨#[]⟩⟩:Ty)) (by rw[cJ];rfl) cy ?_
     repeat' first|exact .refl _|fail
def mo(c:UInt8):List UInt8→Nat→Int
 |[],_=> -1
 |b::l,i=>if c=b then i else mo c l (i+1)
theorem J4(c:UInt8):∀ (l:List UInt8) (i:Nat),(0≤mo c l i)↔c∈l
 |[],i=>by simp[mo]
 |b::l,i=>by
  have ih:=J4 c l (i+1)
  unfold mo
  by_cases h:c=b
  ·rw[if_pos h];simp[h]
  ·rw[if_neg h,ih];simp[h]
theorem J3{c:UInt8}{l:List UInt8}{i:Nat}(h:i<l.length):mo c (l.drop i) i=if c=l.getD i 0 then(i:Int)else mo c (l.drop (i+1)) (i+1):=by
 rw[Y9 h,mo,Z1,Z6 h];rfl
theorem aaX(l:List UInt8)(c:UInt8)(nn:Bool):Pure Tryz.prog 235 [.sl nn 1 (l.map bn),.v (.int .u8 c.toNat)] (iv (mo c l 0)):=by
 refine ab7.p fun σ=> ?_
 repeat'(first|exact .nil|refine .k0 ?_|refine .k1 ?_|refine .k2 ?_|refine .k6 ?_|refine .r1 ?_ ?_|(refine .m2 ?_ ?_;intro hlen)|fail)
 all_goals(try simp only[BL]at *)
 refine cQ (fun m rg σ'=>∃ i:Nat,i≤l.length∧m=l.length-i∧mo c l 0=mo c (l.drop i) i∧σ'=σ∧rg=[(0,.sl nn 1 (l.map bn)),(1,.v (.int .u8 c.toNat)),(7,iv l.length),(8,iv i)]) l.length rfl ⟨_,_,Zr,Zs,0,ZK _,rfl,rfl,rfl,rfl⟩ ?_
 rintro m _ _ ⟨i,hi,hm,he,rfl,rfl⟩
 rw[he]
 repeat'(first|exact .nil|refine .k0 ?_|refine .k1 ?_|refine .k2 ?_|refine .k6 ?_|refine .k7 ?_|refine .k8 ?_|refine .k9 ?_|(refine .cd ?_ ?_<;>(intro hc;skip))|refine .r1 ?_ ?_|refine .t1 ?_ ?_ ?_|fail)
 try any_goals(exact Zo)
 all_goals(try simp only[BL]at *)
 ·have bz:i<l.length:=by omega
  rw[J3 bz,if_pos (show c=l.getD i 0 from Yy.1 (Int.ofNat_inj.1 hc))]
  exact Zw
 ·have bz:i<l.length:=by omega
  refine⟨m-1,by omega,_,_,Zr,Zs,i+1,by omega,by omega,?_,rfl,by rw[eD bz hlen]⟩
  rw[J3 bz,if_neg (fun h=>hc (by rw[h];rfl))]
 ·have bz:i=l.length:=by omega
  subst bz
  rw[List.drop_length]
  exact Zw
theorem U0(l:List UInt8)(c:UInt8)(nn:Bool):Pure Tryz.prog 221 [.sl nn 1 (l.map bn),.v (.int .u8 c.toNat)] (.v (.bool (decide (c∈l)))):=by
 refine ab5.p fun σ=> ?_
 repeat'(first|exact .nil|refine .k0 ?_|refine .k1 ?_|refine .k2 ?_|refine .k7 ?_|refine .r1 ?_ ?_|refine .an rfl (by intro bx;exact aaX _ _ _) ?_ ?_|fail)
 all_goals(try simp only[BL]at *)
 rw[show decide (0≤mo c l 0)=decide (c∈l) by simp only[J4]]
 exact Zw
theorem rd_key(hw:iQ)(L:List Tok)(hL:Gd L)(ins:Bool):bG 194 [] ins L (px L) gG:=by
 refine bG.intro fun b1 rest τ=> ?_
 refine Spec.cY (fun _=>0) Tryz.func194 UI VT (Z8 rfl) ?_
 unfold px
 repeat'(first|exact .nil|refine .k0 ?_|refine .k1 ?_|refine .k2 ?_|refine .r1 ?_ ?_|(refine .l1 ?_;intro b)|fail)
 refine bI rfl (BU hw L hL ins) rfl rfl rfl .nil ?_ (fun _ _ h=>aR h) (fun _=>Zs) (fun nm L1 aX bj=> ?_)
 ·exact fun p c h=>by rw[h];rfl
 rw[aX,PR.aJ]
 simp(decide:=true)only[aL,aP]
 repeat'(first|exact .nil|refine .k0 ?_|refine .k1 ?_|refine .k2 ?_|refine .r1 ?_ ?_|(refine .l1 ?_;intro b)|fail)
 refine bI rfl (yV hw L1 bj ins 4 (by decide)) rfl rfl rfl .nil ?_ (fun _ _ h=>aR h) (fun _=>Zs) (fun t L2 cJ cy=> ?_)
 ·exact fun p c h=>by rw[h];rfl
 rw[cJ,PR.aJ]
 simp(decide:=true)only[aL,aP]
 have hsz:t.text.size≤16384:=by
  unfold dM at cJ;split at cJ
  ·cases cJ
  ·cases cJ;exact(bj.t _ (vf bj.e.ne)).sz
 repeat'(first|exact .nil|refine .k0 ?_|refine .k1 ?_|refine .k2 ?_|refine .k4 ?_|refine .k7 ?_|refine .k9 ?_|(refine .cd ?_ ?_<;>(intro hc;skip))|refine .r1 ?_ ?_|(refine .l1 ?_;intro b)|refine .an rfl (by intro bx;exact U0 _ 32 true) ?_ ?_|refine .t7 ?_ ?_ ?_|fail)
 try any_goals(exact Zo)
 all_goals(try simp only[BL]at *)
 ·refine C3 rfl rfl .nil ?_
  refine aR ?_
  exact oA (cs:=bh L2 ins++rest) (by rw[if_pos (by rcases hc with(h|h)|h<;>first|exact .inr (.inr h)|exact .inl (by omega)|exact .inr (.inl (by omega)))];exact⟨rfl,_,_,rfl⟩)
 ·refine dc (a:=jh ⟨5,0,t.text⟩ [] nm) (by rw[if_neg (by rintro(h|h|h)<;>first|exact hc.2 h|exact hc.1.1 (by omega)|fail)]) cy ?_
  repeat' first|exact .refl _|exact .nil|refine .cons ?_ ?_|refine .agg ?_
end Go.Proofs.YtbihckigennlhaaGreatDoor
