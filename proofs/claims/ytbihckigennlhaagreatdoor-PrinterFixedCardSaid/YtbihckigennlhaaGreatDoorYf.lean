/- units.Normal. -/
import Derived.Test.YtbihckigennlhaaGreatDoorYe
import Derived.Test.YtbihckigennlhaaGreatDoorUi
set_option linter.unusedSimpArgs false
set_option linter.unusedVariables false
set_option maxRecDepth 100000
set_option maxHeartbeats 4000000
namespace Go.Proofs.YtbihckigennlhaaGreatDoor
open Go.Sx Go.Proofs Go.Tb
abbrev Ad:AV:= .v (.slice none 0 0)
def iL(es:List (ag×Int))(f:aq):List (ag×Int):=gr es f.name (dx es f.name+f.exp)
def gJ(l:List aq):List (ag×Int):=l.foldl iL []
theorem asu{l:List aq}{i:Nat}(h:i<l.length):gJ (l.take (i+1))=iL (gJ (l.take i)) (l.getD i default):=by
 unfold gJ
 rw[Zt h,List.foldl_append,← getD_eq h];rfl
theorem IU(s t:ag)(v:Int):∀ es,dx (gr es s v) t=if t=s then v else dx es t
 |[]=>by
  simp only[gr,dx]
  by_cases h:s=t
  ·rw[if_pos h,if_pos h.symm]
  ·rw[if_neg h,if_neg fun e=>h e.symm]
 |p::es=>by
  have ih:=IU s t v es
  by_cases hp:p.1=s
  ·subst hp
   simp only[gr,Ze,dx]
   by_cases h:p.1=t
   ·rw[if_pos h,if_pos h.symm]
   ·rw[if_neg h,if_neg fun e=>h e.symm,if_neg h]
  ·simp only[gr,if_neg hp,dx]
   by_cases h:p.1=t
   ·rw[if_pos h,if_pos h,if_neg fun e=>hp (h.trans e)]
   ·rw[if_neg h,if_neg h,ih]
theorem LH(s:ag)(v:Int):∀ es,(gr es s v).map Prod.fst=if s∈es.map Prod.fst then es.map Prod.fst else es.map Prod.fst++[s]
 |[]=>by simp[gr]
 |p::es=>by
  have ih:=LH s v es
  by_cases hp:p.1=s
  ·subst hp;simp[gr]
  ·have pH:¬s=p.1:=fun e=>hp e.symm
   simp only[gr,if_neg hp,ZL,ih,ZU,pH,false_or]
   split<;>simp
theorem Ie(f:aq)(l:List aq)(s:ag):eo (f::l) s=(if f.name=s then f.exp else 0)+eo l s:=by
 unfold eo
 by_cases h:f.name=s
 ·simp[h]
 ·simp[h]
theorem IQ(s:ag):∀ (l:List aq) (es:List (ag×Int)),dx (l.foldl iL es) s=dx es s+eo l s
 |[],es=>by simp[eo]
 |f::l,es=>by
  rw[List.foldl_cons,IQ s l,Ie,iL,IU]
  by_cases h:f.name=s
  ·rw[if_pos h,if_pos h.symm,h];omega
  ·rw[if_neg h,if_neg fun e=>h e.symm];omega
theorem Cu(l:List aq)(s:ag):dx (gJ l) s=eo l s:=by unfold gJ;rw[IQ];simp[dx]
theorem MJ:∀ (l:List aq) (es:List (ag×Int)),(es.map Prod.fst).Nodup→((l.foldl iL es).map Prod.fst).Nodup∧(∀ s,s∈(l.foldl iL es).map Prod.fst↔s∈es.map Prod.fst∨s∈l.map aq.name)∧(l.foldl iL es).length≤es.length+l.length
 |[],es,h=>⟨h,fun s=>by simp,ZK _⟩
 |f::l,es,h=>by
  have hk:=LH f.name (dx es f.name+f.exp) es
  have hl:(iL es f).length≤es.length+1:=by
   have h2:=congrArg List.length hk
   simp only[Z5]at h2
   unfold iL
   rw[h2];split<;>simp
  have hm:∀ s,s∈(iL es f).map Prod.fst↔s∈es.map Prod.fst∨s=f.name:=fun s=>by
   unfold iL;rw[hk]
   split
   ·rename_i h1
    exact⟨.inl,fun h=>h.elim id fun e=>by rw[e];exact h1⟩
   ·simp
  have hn:((iL es f).map Prod.fst).Nodup:=by
   unfold iL;rw[hk]
   split
   ·exact h
   ·rename_i h1
    exact X7.2 ⟨h,by simp,fun a ha b hb e=>by rw[Y0]at hb;subst hb;subst e;exact h1 ha⟩
  obtain⟨g1,g2,g3⟩:=MJ l (iL es f) hn
  refine⟨g1,fun s=> ?_,by rw[List.foldl_cons,Z8];omega⟩
  rw[List.foldl_cons,g2,hm,ZL,ZU,or_assoc]
theorem Ci(s:ag):∀ (l:List aq),(∀ f∈l, -1099511627776≤f.exp∧f.exp≤1099511627776)→-1099511627776 * (l.length:Int)≤eo l s∧eo l s≤1099511627776 * (l.length:Int)
 |[],_=>by simp[eo]
 |f::l,h=>by
  have h1:=Ci s l fun f hf=>h f (ZX _ hf)
  have h2:=h f ZR
  rw[Ie,Z8]
  split<;>omega
def la(np:Nat)(rows:List (List AV))(x:AV)(τ:Store):Prop:=(rows=[]∧x=Ad∧τ=[])∨∃ b u c,x= .own 2 np b u c rows∧τ=[(np,b,.tail u c)]
theorem la.z{np:Nat}:la np [] Ad []:= .inl ⟨rfl,rfl,rfl⟩
theorem la.n{np:Nat}{rows:List (List AV)}(h:rows=[]):la np rows Ad []:= .inl ⟨h,rfl,rfl⟩
theorem la.s{np b u c:Nat}{rows rows':List (List AV)}(h:rows'=rows):la np rows (.own 2 np b u c rows') [(np,b,.tail u c)]:= .inr ⟨b,u,c,by rw[h],rfl⟩
def pj(l:List aq)(L:List ag):List aq:=(L.map fun n=>(⟨n,eo l n⟩:aq)).filter fun f=>decide (f.exp≠0)
theorem TA{l:List aq}{N:List ag}{i:Nat}(h:i<N.length):pj l (N.take (i+1))=pj l (N.take i)++if eo l (N.getD i default)≠0 then[⟨N.getD i default,eo l (N.getD i default)⟩]else[]:=by
 unfold pj
 rw[Zt h,← getD_eq h,Y2,List.filter_append,List.map_singleton,Yp]
 simp
theorem Tz(l:List aq)(L:List ag):(pj l L).length≤L.length:=YJ (X3 _ _) (by rw[Z5];exact ZK _)
theorem aaV(l:List aq)(hw:∀ f∈l,Word f.name)(hb:∀ f∈l, -1099511627776≤f.exp∧f.exp≤1099511627776)(hl:l.length≤20000):Pure Tryz.prog 156 [.sl false 2 (l.map aq.cells)] (.aL [.sl false 2 ((fZ l).1.map aq.cells),iv (fZ l).2]):=by
 refine Xd.p fun σ=> ?_
 repeat'(first|exact .nil|refine .k0 ?_|refine .k1 ?_|refine .k2 ?_|refine .k6 ?_|refine .r1 ?_ ?_|(refine .m2 ?_ ?_;intro hlen)|(refine .l3 ?_;intro b)|fail)
 all_goals(try simp only[BL]at *)
 rename Nat=>b1
 refine dU (fun m rg σ'=>∃ (i:Nat),i≤l.length∧m=l.length-i∧σ'=(11,b1,.map (wE (gJ (l.take i))) (gJ (l.take i)).length)::σ∧rg=[(2,Ad),(4,.dY 11 b1),(12,.sl false 2 (l.map aq.cells)),(13,iv l.length),(14,iv i)]) l.length rfl ⟨_,_,Zr,Zs,0,ZF _,rfl,rfl,rfl⟩ ?_
 rintro m _ _ ⟨i,hi,hm,rfl,rfl⟩
 have CB:i<l.length→-576460752303423488≤(l.getD i default).exp∧(l.getD i default).exp≤576460752303423488:=fun h=>by
  have:=hb _ (ei h);omega
 have I9:∀ s, -576460752303423488≤dx (gJ (l.take i)) s∧dx (gJ (l.take i)) s≤576460752303423488:=fun s=>by
  have h1:=Ci s (l.take i) fun f hf=>hb f (List.mem_of_mem_take hf)
  rw[ZW]at h1
  rw[Cu];omega
 repeat'((fail_if_success (show WK _ _ _ _ (.dc _) _ _ _));(first|exact .nil|refine .k0 ?_|refine .k1 ?_|refine .k2 ?_|refine .k6 ?_|refine .k7 ?_|refine .k8 ?_|refine .k9 ?_|(refine .cd ?_ ?_<;>(intro hc;skip))|refine .r1 ?_ ?_|(refine .l1 ?_;intro b)|refine .t1 ?_ ?_ ?_|refine .an rfl (by intro aO;first|exact NB _|fail) ?_ ?_|fail))
 try any_goals((intro aO;first|(simp_all;done)|fail))
 all_goals(try simp only[BL]at *)
 ·exact absurd (hw _ (ei (by omega))) hc
 ·have br:i<l.length:=by omega
  refine PV 28 rfl rfl rfl ?_
  repeat'(first|exact .nil|refine .k0 ?_|refine .r1 ?_ ?_|fail)
  refine Px rfl rfl rfl OB.nil ?_
  repeat'(first|exact .nil|refine .k0 ?_|refine .k1 ?_|refine .k2 ?_|refine .r1 ?_ ?_|refine .an rfl (by intro aO;first|exact K7 (CB (by first|omega|fail))|exact QD (I9 _) (CB (by first|omega|fail))|fail) ?_ ?_|fail)
  all_goals(try simp only[BL]at *)
  refine Pb (es:=gJ (l.take i)) (s:=(l.getD i default).name) (v:=dx (gJ (l.take i)) (l.getD i default).name+(l.getD i default).exp) rfl rfl rfl rfl OB.nil ?_
  repeat'(first|exact .nil|refine .k0 ?_|refine .k1 ?_|refine .k2 ?_|refine .r1 ?_ ?_|fail)
  all_goals(try simp only[BL]at *)
  refine⟨m-1,by omega,_,(11,b1,.map (wE (gJ (l.take (i+1)))) (gJ (l.take (i+1))).length)::σ,Zr,by rw[asu br];repeat' first|exact .refl _|refine .cons ?_,i+1,by omega,by omega,rfl,by rw[fL (n:=l.length) (by omega) (by assumption)]⟩
 ·have br:i=l.length:=by omega
  subst br
  rw[List.take_length]
  have hK:=MJ l [] List.nodup_nil
  have uj:iH ((gJ l).map Prod.fst)=iH (l.map aq.name):=AK (ve _) (ve _) fun x=>by
   rw[vd,vd];exact(hK.2.1 x).trans (by simp)
  refine qH rfl (asb (es:=gJ l) rfl hK.1 (fun p hp=> ?_) (by have:=hK.2.2;simp only[Z2]at this;show(l.foldl iL []).length≤_;omega)) OB.nil (fun x σ' hR=> ?_) (fun ch σ' hR=> ?_)
  ·have h1:=(hK.2.1 p.1).1 (YZ.2 ⟨p,hp,rfl⟩)
   rcases h1 with h1|h1
   ·cases h1
   ·obtain⟨f,hf,e⟩:=YZ.1 h1
    have:=(hw f hf).2.1
    rw[← e];unfold maxLen;omega
  rotate_left
  ·exact nomatch hR.1
  obtain⟨e1,e2⟩:=hR
  cases e1
  subst e2
  rw[uj]
  have CJ:fZ l=if∃ n∈iH (l.map aq.name),eo l n>8∨eo l n< -8 then([],70)else if(pj l (iH (l.map aq.name))).length>4 then([],2)else(pj l (iH (l.map aq.name)),0):=rfl
  have hNl:(iH (l.map aq.name)).length≤20000:=by
   have:=K0 (ME (ve (l.map aq.name))) fun x hx=>vd.1 hx
   rw[Z5]at this;omega
  generalize iH (l.map aq.name)=N at *
  repeat'(first|exact .nil|refine .k0 ?_|refine .k1 ?_|refine .k6 ?_|refine .r1 ?_ ?_|(refine .m2 ?_ ?_;intro hlen)|fail)
  all_goals(try simp only[BL]at *)
  clear CB I9 uj hK hi hm hc
  have Ul:∀ s, -576460752303423488≤dx (gJ l) s∧dx (gJ l) s≤576460752303423488:=fun s=>by
   have h1:=Ci s l hb
   rw[Cu];omega
  have hG:=fun s=>Cu l s
  generalize gJ l=es at *
  refine dU (fun m rg σ'=>∃ (i:Nat) (x:AV) (τ:Store),i≤N.length∧m=N.length-i∧(∀ n∈N.take i,¬(eo l n>8∨eo l n< -8))∧la 61 ((pj l (N.take i)).map aq.cells) x τ∧σ'=τ++(11,b1,.map (wE es) es.length)::σ∧rg=[(2,x),(4,.dY 11 b1),(35,EK N),(36,iv N.length),(37,iv i)]) N.length rfl ⟨_,_,Zr,Zs,0,_,_,ZF _,rfl,(fun n h=>by cases h),la.z,rfl,rfl⟩ ?_
  rintro m2 _ _ ⟨i,x,τ,hi,hm,hP,hR,rfl,rfl⟩
  have Jt:(pj l (N.take i)).length≤20000:=YJ (Tz _ _) (by rw[ZW];omega)
  have uw:=fun(h:i<N.length)=>TA (l:=l) h
  have Jf:i<N.length→¬(eo l (N.getD i default)>8∨eo l (N.getD i default)< -8)→∀ n∈N.take (i+1),¬(eo l n>8∨eo l n< -8):=fun h h1 n hn=>by
   rw[Zt h,← getD_eq h,Zl,Y0]at hn
   rcases hn with hn|rfl
   ·exact hP n hn
   ·exact h1
  rcases hR with⟨hE,rfl,rfl⟩|⟨b3,u3,c3,rfl,rfl⟩
  all_goals
   repeat'(first|exact .nil|refine .k0 ?_|refine .k1 ?_|refine .k2 ?_|refine .k6 ?_|refine .k7 ?_|refine .k8 ?_|refine .k9 ?_|(refine .cd ?_ ?_<;>(intro hc;skip))|refine .r1 ?_ ?_|(refine .m2 ?_ ?_;intro hlen)|refine .t1 ?_ ?_ ?_|refine .r8 ?_ ?_|fail)
   refine OZ rfl rfl rfl OB.nil ?_
   repeat'(first|exact .nil|refine .k0 ?_|refine .k1 ?_|refine .k2 ?_|refine .k7 ?_|refine .k9 ?_|(refine .cd ?_ ?_<;>(intro hc;skip))|refine .r1 ?_ ?_|refine .u1 ?_ ?_ ?_ (fun b u c=> ?_)|refine .u2 ?_ ?_ ?_ (fun b u c=> ?_)|refine .an rfl (by intro aO;first|exact Li _ 8 (by decide)|exact SG (Ul _)) ?_ ?_|(show List.all _ _=true;rfl)|fail)
   try any_goals((intro aO;first|(simp_all;done)|fail))
   all_goals(try simp only[BL]at *)
   ·rw[CJ,if_pos ⟨N.getD i default,ei (by omega),by rw[hG]at hc;exact hc⟩]
    exact Zw
   ·show _≤1000000;simp only[Z8,Z2];omega
   ·show _ * _≤_;simp only[Z5,Z8,Z2];omega
   ·have wY:¬(dx es (N.getD i default)>8∨dx es (N.getD i default)< -8):=by assumption
    rw[hG]at hc wY
    refine⟨m2-1,by omega,_,_,Zr,Zs,i+1,_,_,by omega,by omega,Jf (by omega) wY,la.s ?_,rfl,by rw[fL (n:=N.length) (by omega) (by assumption)]⟩
    rw[uw (by omega),if_pos hc,Y2,hG]
    first|(rw[hE];rfl)|rfl
   ·have wY:¬(dx es (N.getD i default)>8∨dx es (N.getD i default)< -8):=by assumption
    rw[hG]at hc wY
    refine⟨m2-1,by omega,_,_,Zr,Zs,i+1,_,_,by omega,by omega,Jf (by omega) wY,?_,rfl,by rw[fL (n:=N.length) (by omega) (by assumption)]⟩
    rw[uw (by omega),if_neg (by rw[hc];simp),Zx]
    first|exact la.n hE|exact la.s rfl
   ·have oc:N.take i=N:=ZD (by omega)
    rw[oc]at hP
    try rw[oc]at hE
    try rw[oc]at hc
    try rw[oc]
    rw[CJ,if_neg (by rintro⟨n,hn,eW⟩;exact hP n hn eW)]
    first
     |exact absurd hc (by decide)
     |(rw[if_pos (by omega)];(refine Sx.Fin.wk Zs ?_;repeat' first|exact .refl _|exact .nil|refine .cons ?_ ?_|refine .aL ?_|fail))
   ·have oc:N.take i=N:=ZD (by omega)
    rw[oc]at hP
    try rw[oc]at hE
    try rw[oc]at hc
    try rw[oc]
    rw[CJ,if_neg (by rintro⟨n,hn,eW⟩;exact hP n hn eW)]
    first
     |(rw[YV.1 hE,if_neg (by decide)];refine Sx.Fin.wk Zs (.aL (.cons .nil (.cons (.refl _) .nil)));done)
     |(rw[if_neg (by omega)];(refine Sx.Fin.wk Zs ?_;repeat' first|exact .refl _|refine .cons ?_ ?_|refine .aL ?_|exact .own _))
end Go.Proofs.YtbihckigennlhaaGreatDoor
set_option linter.unusedSectionVars false
namespace Go.Proofs.YtbihckigennlhaaGreatDoor
open Go.Sx Go.Proofs
abbrev fJ:AV:= .v (.slice none 0 0)
def Bq(e tg lp lb bp bl b:Nat)(cB:Store)(rows:List (List AV))(τ:Store):Prop:=
 (rows=[]∧τ=(lp,bp,.cells [.lp 1000 b 0])::(lb,bl,.cells [fJ])::cB)∨(rows≠[]∧∃ bb u c,τ=(lp,bp,.cells [.lp 1000 b 0])::(lb,bl,.cells [.own e tg bb u c rows])::(tg,bb,.tail u c)::cB)
def qA(f:aq):Prop:=Word f.name∧-1099511627776≤f.exp∧f.exp≤1099511627776
def qD:Prop:=∀ l:List aq,l≠[]→(∀ f∈l,qA f)→l.length≤20000→Pure Tryz.prog 156 [.sl false 2 (l.map aq.cells)] (.aL [.sl false 2 ((fZ l).1.map aq.cells),iv (fZ l).2])
theorem K3{L L':List Tok}{k:Int}(h:dZ L= .ok k L'):0≤k:=by
 unfold dZ PR.map at h
 cases e:dC 2 L with
 |ok t L1=>rw[e,PR.aD]at h;cases h;exact Int.natCast_nonneg _
 |err p c=>rw[e]at h;cases h
theorem as0(hw:ib)(bp bl b:Nat)(rest:List AV)(cB:Store)(ins:Bool):
  FM 153 [.lp 1 bp 0,.lp 4 bl 0] dG ins b rest cB (fun acc τ=>Bq 2 20 1 4 bp bl b cB (acc.map aq.cells) τ):=by
 intro acc L τ hL UE hS
 refine o0.spec ?_
 have mK:∀ (x:AV) (oW:Store),τ=(1,bp,.cells [.lp 1000 b 0])::(4,bl,.cells [x])::oW→((acc=[]∧x=fJ∧oW=cB)∨(acc≠[]∧∃ bb u c,x= .own 2 20 bb u c (acc.map aq.cells)∧oW=(20,bb,.tail u c)::cB))→AV.one x=true→
   Sx.Spec Tryz.prog 153 [.lp 1 bp 0,.lp 4 bl 0] ((1000,b,.cells (aZ L ins++rest))::τ) (o0 ins rest cB ((dG L).map fun a=>acc++[a]) (fun acc τ=>Bq 2 20 1 4 bp bl b cB (acc.map aq.cells) τ) b):=by
  rintro x oW rfl hx h1
  have dW:Sub cB oW:=by
   rcases hx with⟨_,_,rfl⟩|⟨_,_,_,_,_,rfl⟩
   ·exact .refl _
   ·exact .cons (.refl _)
  refine Spec.cN (fun _=>0) Tryz.func153 RN S3 (Z9 rfl) ?_
  unfold dG
  repeat'(first|exact .nil|refine .k0 ?_|refine .k1 ?_|refine .k2 ?_|refine .r1 ?_ ?_|fail)
  refine bG rfl (Ap hw L hL ins) rfl rfl rfl .nil ?_ (fun _ _ h=>aP (o0.cC dW (val:=fun _=> .any) (τ:=oW) h)) (fun _=>Zs) (fun nm L1 aU bg=> ?_)
  ·exact fun p c h=>by rw[h];rfl
  have iA:=(Pos.name L hL.e).ok _ _ aU
  rw[aU,PR.aD]
  simp(decide:=true)only[aH,aN]
  repeat'((fail_if_success (show WK _ _ _ _ _ _ _ _));(first|exact .nil|refine .k0 ?_|refine .k1 ?_|refine .r1 ?_ ?_|(refine .l1 ?_;intro b)|fail))
  rename Nat=>b2
  refine ji rfl ?_
  refine kb (fun rg σ'=>∃ (f:aq) (L2:List Tok),Gd L2∧(if ar 5 (ch 94) L1 then if ar 5 (ch 45) L1.tail then(dZ L1.tail.tail).map fun k=>(⟨nm, -(min k 1099511627776)⟩:aq)else(dZ L1.tail).map fun k=>⟨nm,min k 1099511627776⟩else .ok ⟨nm,1⟩ L1)= .ok f L2∧
   σ'=(2,b2,.cells f.cells)::(1000,b,.cells (aZ L2 ins++rest))::(1,bp,.cells [.lp 1000 b 0])::(4,bl,.cells [x])::oW∧rg=[(1,.lp 4 bl 0),(2,.lp 2 b2 0)]) ?_ ?_
  ·repeat'(first|exact .nil|refine .k0 ?_|refine .k1 ?_|refine .k2 ?_|refine .r1 ?_ ?_|fail)
   by_cases pz:ar 5 (ch 94) L1=true
   ·have lO:=bg.tail (bJ (k:=5) (by decide) L1 pz)
    refine mA rfl (fA L1 bg ins 5 (by decide) (ch 94)) (ja pz) rfl rfl rfl .nil (fun _=> ?_)
    simp(decide:=true)only[aH,aN]
    rw[if_pos pz]
    (repeat'((fail_if_success (show WK _ _ _ _ (.seq (.seq _ _) (.keep _ _)) _ _ _));(first|exact .nil|refine .k0 ?_|refine .k1 ?_|refine .k2 ?_|(refine .cd ?_ ?_<;>first|with_reducible exact tF|(intro hc;skip))|refine .r1 ?_ ?_|fail)))<;>(try(simp at hc;done))
    refine kb (fun rg σ'=>∃ (L2:List Tok) (sg:Int),Gd L2∧((ar 5 (ch 45) L1.tail=true∧L2=L1.tail.tail∧sg= -1)∨(¬ar 5 (ch 45) L1.tail=true∧L2=L1.tail∧sg=1))∧
     σ'=(2,b2,.cells [sv nm,iv 1])::(1000,b,.cells (aZ L2 ins++rest))::(1,bp,.cells [.lp 1000 b 0])::(4,bl,.cells [x])::oW∧rg=[(0,.lp 1 bp 0),(1,.lp 4 bl 0),(2,.lp 2 b2 0),(3,iv sg)]) ?_ ?_
    ·repeat'(first|exact .nil|refine .k0 ?_|refine .k1 ?_|refine .k2 ?_|refine .r1 ?_ ?_|fail)
     by_cases qV:ar 5 (ch 45) L1.tail=true
     ·have ft:=lO.1.tail (bJ (k:=5) (by decide) L1.tail qV)
      refine mA (L:=L1.tail) (ins:=ins) rfl (fA L1.tail lO.1 ins 5 (by decide) (ch 45)) (ja qV) rfl rfl rfl .nil (fun _=> ?_)
      simp(decide:=true)only[aH,aN]
      (repeat'(first|exact .nil|refine .k0 ?_|refine .k1 ?_|refine .k2 ?_|(refine .cd ?_ ?_<;>first|with_reducible exact tF|(intro hc;skip))|refine .r1 ?_ ?_|fail))<;>(try(simp at hc;done))
      exact dw.intro rfl ⟨_, -1,ft.1,.inl ⟨qV,rfl,rfl⟩,rfl,rfl⟩
     ·refine mA (L:=L1.tail) (ins:=ins) rfl (fA L1.tail lO.1 ins 5 (by decide) (ch 45)) (iZ qV) rfl rfl rfl .nil (fun _=> ?_)
      simp(decide:=true)only[aH,aN]
      (repeat'(first|refine .k0 ?_|refine .k1 ?_|refine .k2 ?_|refine .k9 ?_|(refine .cd ?_ ?_<;>first|with_reducible exact fT|(intro hc;skip))|fail))<;>(try(simp at hc;done))
      exact dw.intro rfl ⟨_,1,lO.1,.inr ⟨qV,rfl,rfl⟩,rfl,rfl⟩
    ·rintro _ _ ⟨L2,sg,cq,kB,rfl,rfl⟩
     have Jq:(if ar 5 (ch 45) L1.tail=true then(dZ L1.tail.tail).map fun k=>(⟨nm, -(min k 1099511627776)⟩:aq)else(dZ L1.tail).map fun k=>⟨nm,min k 1099511627776⟩)=(dZ L2).map fun k=>(⟨nm,sg * min k 1099511627776⟩:aq):=by
      rcases kB with⟨h1,rfl,rfl⟩|⟨h1,rfl,rfl⟩
      ·rw[if_pos h1];congr 1;funext k;rw[Int.neg_mul,Int.one_mul]
      ·rw[if_neg h1];congr 1;funext k;rw[Int.one_mul]
     have dz:sg= -1∨sg=1:=kB.elim (fun h=> .inl h.2.2) fun h=> .inr h.2.2
     rw[Jq]
     clear Jq kB
     repeat'(first|exact .nil|refine .k0 ?_|refine .k2 ?_|refine .r1 ?_ ?_|fail)
     refine bG rfl (u0 hw L2 cq ins) rfl rfl rfl .nil ?_ (fun _ _ h=>aP (o0.cC dW (val:=fun _=> .any) (τ:=oW) h)) (fun _=>Zs) (fun k L3 mZ mI=> ?_)
     ·exact fun p c h=>by rw[h];rfl
     simp(decide:=true)only[aH,aN]
     have od:=K3 mZ
     have wW:IntKind.i64.wrap (sg * if true=true then if 1099511627776<k then 1099511627776 else k else if 1099511627776>k then 1099511627776 else k)=sg * min k 1099511627776:=by
      have e1:(if true=true then if 1099511627776<k then 1099511627776 else k else if 1099511627776>k then 1099511627776 else k)=min k 1099511627776:=by
       rw[if_pos rfl];split<;>omega
      rw[e1,bw]
      rcases dz with rfl|rfl<;>omega
     repeat'(first|exact .nil|refine .k0 ?_|refine .k1 ?_|refine .k2 ?_|refine .r1 ?_ ?_|fail)
     exact dw.intro rfl ⟨⟨nm,sg * min k 1099511627776⟩,L3,mI,by rw[mZ];rfl,rfl,rfl⟩ (hs:=by rw[wW];exact Zs)
   ·refine mA rfl (fA L1 bg ins 5 (by decide) (ch 94)) (iZ pz) rfl rfl rfl .nil (fun _=> ?_)
    simp(decide:=true)only[aH,aN]
    (repeat'(first|refine .k0 ?_|refine .k1 ?_|refine .k2 ?_|refine .k9 ?_|(refine .cd ?_ ?_<;>first|with_reducible exact fT|(intro hc;skip))|fail))<;>(try(simp at hc;done))
    exact dw.intro rfl ⟨⟨nm,1⟩,L1,bg,by rw[if_neg pz],rfl,rfl⟩
  ·rintro _ _ ⟨f,L2,cq,hf,rfl,rfl⟩
   rw[hf]
   rcases hx with⟨rfl,rfl,rfl⟩|⟨aR,bb,u,c,rfl,rfl⟩
   ·repeat'(first|exact .nil|refine .k0 ?_|refine .k1 ?_|refine .k2 ?_|refine .k3 ?_|refine .r1 ?_ ?_|refine .u1 ?_ ?_ ?_ (fun b u c=> ?_)|fail)
    ·exact Z9 rfl
    ·simp
    ·show _ * _≤_;simp only[Z8,Z2];omega
    ·exact⟨_,_,.inr ⟨by simp,_,_,_,rfl⟩,cq,rfl,by exact Zs,(Yq (l₁:=[_,_,_])).symm⟩
   ·repeat'(first|exact .nil|refine .k0 ?_|refine .k1 ?_|refine .k2 ?_|refine .k3 ?_|refine .r1 ?_ ?_|refine .u2 ?_ ?_ ?_ (fun b u c=> ?_)|(show List.all _ _=true;rfl)|fail)
    ·exact Z9 rfl
    ·show _ * _≤_;simp only[Z5,Z8,Z2];omega
    ·exact⟨_,_,.inr ⟨by simp,b,u,c,by rw[Y2]⟩,cq,rfl,by exact Zs,List.Perm.refl _⟩
 rcases hS with⟨h1,rfl⟩|⟨h1,bb,u,c,rfl⟩
 ·exact mK fJ cB rfl (.inl ⟨YV.1 h1,rfl,rfl⟩) rfl
 ·exact mK _ _ rfl (.inr ⟨fun h=>h1 (by rw[h];rfl),bb,u,c,rfl,rfl⟩) rfl
theorem aaM{L L':List Tok}{s:ag}(h:eN L= .ok s L'):Word s:=by
 unfold eN at h
 split at h
 ·cases h
 ·rename_i hn
  unfold PR.map at h
  cases e:dC 1 L with
  |err p c=>rw[e]at h;cases h
  |ok t L1=>
   rw[e,PR.aD]at h
   cases h
   unfold dC at e
   split at e
   ·cases e
   ·cases e;exact(Zd.1 hn).1
theorem Iv{L L':List Tok}{f:aq}(h:dG L= .ok f L'):qA f:=by
 unfold dG at h
 cases e:eN L with
 |err p c=>rw[e]at h;cases h
 |ok nm L1=>
  rw[e,PR.aD]at h
  have hw:=aaM e
  have key:∀ (L2:List Tok) (g:Int→aq),(∀ k,0≤k→qA (g k))→(dZ L2).map g= .ok f L'→qA f:=fun L2 g hg h=>by
   unfold PR.map at h
   cases e2:dZ L2 with
   |err p c=>rw[e2]at h;cases h
   |ok k L3=>rw[e2,PR.aD]at h;cases h;exact hg k (K3 e2)
  split at h
  ·split at h
   ·exact key _ _ (fun k hk=>⟨hw,by show -1099511627776≤-(min k 1099511627776);omega,by show -(min k 1099511627776)≤1099511627776;omega⟩) h
   ·exact key _ _ (fun k hk=>⟨hw,by show -1099511627776≤min k 1099511627776;omega,by show min k 1099511627776≤1099511627776;omega⟩) h
  ·cases h;exact⟨hw,by show -1099511627776≤(1:Int);decide,by show(1:Int)≤1099511627776;decide⟩
theorem KM:∀ (k:Nat) (L:List Tok) (acc l:List aq) (L':List Tok),bF L→acc≠[]→(∀ f∈acc,qA f)→jv (ch 42) dG k L acc= .ok l L'→l≠[]∧(∀ f∈l,qA f)∧l.length+L'.length≤acc.length+L.length
 |0,L,acc,l,L',hL,h0,ha,h=>by cases h;exact⟨h0,ha,ZK _⟩
 |k+1,L,acc,l,L',hL,h0,ha,h=>by
  rw[jv]at h
  by_cases hs:ar 5 (ch 42) L=true
  ·rw[if_pos hs]at h
   have ht:=hL.tail (bJ (k:=5) (by decide) L hs)
   cases e:dG L.tail with
   |err p c=>rw[e]at h;cases h
   |ok a L1=>
    rw[e,PR.aD]at h
    have hp:=(Pos.tG L.tail ht.1).ok a L1 e
    obtain⟨g1,g2,g3⟩:=KM k L1 (acc++[a]) l L' hp.2.1 (by simp) (fun f hf=>by
     rcases Zl.1 hf with hf|hf
     ·exact ha f hf
     ·rw[Y0]at hf;subst hf;exact Iv e) h
    refine⟨g1,g2,?_⟩
    have:(acc++[a]).length=acc.length+1:=by simp
    omega
  ·rw[if_neg hs]at h;cases h;exact⟨h0,ha,ZK _⟩
theorem aap{L L':List Tok}{l:List aq}(hL:bF L)(h:fX (ch 42) dG L= .ok l L'):l≠[]∧(∀ f∈l,qA f)∧l.length+L'.length≤L.length:=by
 unfold fX at h
 cases e:dG L with
 |err p c=>rw[e]at h;cases h
 |ok a L1=>
  rw[e,PR.aD]at h
  have hp:=(Pos.tG L hL).ok a L1 e
  obtain⟨g1,g2,g3⟩:=KM N0 L1 [a] l L' hp.2.1 (by simp) (fun f hf=>by rw[Y0]at hf;subst hf;exact Iv e) h
  refine⟨g1,g2,?_⟩
  simp only[Z8,Z2]at g3
  omega
theorem abk{α:Type}(a b c:α)(l:List α):(a::b::c::l).Perm (c::b::a::l):=
 (List.Perm.swap b a _).trans ((List.Perm.cons b (List.Perm.swap c a l)).trans (List.Perm.swap c b _))
theorem LS(hw:ib)(hN:qD)(L:List Tok)(hL:Gd L)(ins:Bool):bC 111 [] ins L (gK L) fun u=> .sl false 2 (u.map aq.cells):=by
 refine bC.intro fun b1 rest τ=> ?_
 refine Spec.cN (fun _=>0) Tryz.func111 RA SS (Z9 rfl) ?_
 unfold gK
 have hp:=hL.pos
 have hcell:(aZ L ins++rest)=[.sl false 3 (L.map Tok.cells),.v (.bool ins)]++rest:=rfl
 rw[hcell]
 repeat'(first|exact .nil|refine .k0 ?_|refine .k1 ?_|refine .k2 ?_|refine .r1 ?_ ?_|(refine .m1 ?_ ?_;intro b)|refine .t1 ?_ ?_ ?_|fail)
 any_goals omega
 rename Nat=>bp
 simp only[show Int.toNat 0=0 from rfl,ku]
 by_cases hs:ar 5 (ch 91) L=true
 ·have ht:=hL.tail (bJ (k:=5) (by decide) L hs)
  rw[if_pos hs]
  refine mA (rest:=rest) rfl (fA L hL ins 5 (by decide) (ch 91)) (ja hs) rfl rfl rfl .nil (fun _=> ?_)
  simp(decide:=true)only[aH,aN]
  (repeat'(first|exact .nil|refine .k0 ?_|refine .k1 ?_|refine .k2 ?_|refine .k7 ?_|refine .k9 ?_|(refine .cd ?_ ?_<;>(intro hc;skip))|refine .r1 ?_ ?_|(refine .l1 ?_;intro b)|fail))<;>(try(simp at hc;done))
  rename Nat=>bl
  refine qH rfl ((aaq (c:= #[.pointer (some ⟨bp,0,none⟩),.pointer (some ⟨bl,0,none⟩)]) (S:=fun acc cL=>Bq 2 20 1 4 bp bl b1 τ (acc.map aq.cells) cL) (by rfl) (.cons .raw (.cons .raw .nil)) (as0 hw bp bl b1 rest τ ins) Pos.tG (ch 42) L.tail _ ht.1 (.inl ⟨rfl,rfl⟩)).permA ?_) .nil (fun x σ' hR=> ?_) (fun c σ' hR=> ?_)
  ·exact abk _ _ _ _
  ·cases hr:fX (ch 42) dG L.tail with
   |err p c=>rw[hr]at hR;cases hR.1
   |ok l L1=>
    rw[hr]at hR
    obtain⟨jE,hS,bg,hx,rfl⟩:=hR
    cases hx
    obtain⟨jN,Vn,oj⟩:=aap ht.1.e hr
    have oj:l.length≤20000:=by have:=ht.1.n;omega
    rcases hS with⟨h0,_⟩|⟨_,bb,u,c,rfl⟩
    ·exact absurd (YV.1 h0) jN
    rw[PR.aD]
    repeat'(first|exact .nil|refine .k0 ?_|refine .k1 ?_|refine .k2 ?_|refine .r1 ?_ ?_|fail)
    refine bG rfl (qf hw L1 bg ins (ch 93)) rfl rfl rfl .nil ?_ (fun _ _ h=>aP h) (fun _=>Zs) (fun a2 L2 cI cq=> ?_)
    ·exact fun p c h=>by rw[h];rfl
    rw[cI,PR.aD]
    simp(decide:=true)only[aH,aN]
    repeat'(first|exact .nil|refine .k0 ?_|refine .k1 ?_|refine .k2 ?_|refine .k7 ?_|refine .k9 ?_|(refine .cd ?_ ?_<;>(intro hc;skip))|refine .r1 ?_ ?_|refine .an rfl (by intro aO;(refine(hN l jN Vn oj).wk ?_;(repeat' first|exact .refl _|refine .cons ?_ ?_|exact .own _);done)) ?_ ?_|fail)
    all_goals(try simp only[BL]at *)
    ·refine BA rfl rfl .nil ?_
     refine aP ?_
     exact nB (cs:=aZ L2 ins++rest) (by rw[if_pos hc];exact⟨rfl,_,_,rfl⟩)
    ·exact cQ (a:=(fZ l).1) (by rw[if_neg (fun h=>h hc)]) cq (.refl _)
  ·refine aP ?_
   cases hr:fX (ch 42) dG L.tail with
   |ok l L1=>rw[hr]at hR;obtain⟨_,_,_,h,_⟩:=hR;cases h
   |err p c=>rw[hr]at hR;obtain⟨e,L',i',h⟩:=hR;cases e;exact nB (cs:=aZ L' i'++rest) ⟨rfl,L',i',rfl⟩ h
 ·rw[if_neg hs]
  refine mA (rest:=rest) rfl (fA L hL ins 5 (by decide) (ch 91)) (iZ hs) rfl rfl rfl .nil (fun _=> ?_)
  simp(decide:=true)only[aH,aN]
  (repeat'(first|exact .nil|refine .k0 ?_|refine .k1 ?_|refine .k2 ?_|refine .k7 ?_|refine .k9 ?_|(refine .cd ?_ ?_<;>(intro hc;skip))|refine .r1 ?_ ?_|(refine .l1 ?_;intro b)|fail))<;>(try(simp at hc;done))
  exact cQ (a:=[]) rfl hL .nil
def lu(c:UInt8):List UInt8→Nat→Int
 |[],_=> -1
 |b::l,i=>if c=b then i else lu c l (i+1)
theorem Ik(c:UInt8):∀ (l:List UInt8) (i:Nat),(0≤lu c l i)↔c∈l
 |[],i=>by simp[lu]
 |b::l,i=>by
  have ih:=Ik c l (i+1)
  unfold lu
  by_cases h:c=b
  ·rw[if_pos h];simp[h]
  ·rw[if_neg h,ih];simp[h]
theorem Ij{c:UInt8}{l:List UInt8}{i:Nat}(h:i<l.length):lu c (l.drop i) i=if c=l.getD i 0 then(i:Int)else lu c (l.drop (i+1)) (i+1):=by
 rw[Zi h,lu,ZV,Z1 h];rfl
theorem WG(l:List UInt8)(c:UInt8)(nn:Bool):Pure Tryz.prog 235 [.sl nn 1 (l.map bA),.v (.int .u8 c.toNat)] (iv (lu c l 0)):=by
 refine Xp.p fun σ=> ?_
 repeat'(first|exact .nil|refine .k0 ?_|refine .k1 ?_|refine .k2 ?_|refine .k6 ?_|refine .r1 ?_ ?_|(refine .m2 ?_ ?_;intro hlen)|fail)
 all_goals(try simp only[BL]at *)
 refine dU (fun m rg σ'=>∃ i:Nat,i≤l.length∧m=l.length-i∧lu c l 0=lu c (l.drop i) i∧σ'=σ∧rg=[(0,.sl nn 1 (l.map bA)),(1,.v (.int .u8 c.toNat)),(7,iv l.length),(8,iv i)]) l.length rfl ⟨_,_,Zr,Zs,0,ZF _,rfl,rfl,rfl,rfl⟩ ?_
 rintro m _ _ ⟨i,hi,hm,he,rfl,rfl⟩
 rw[he]
 repeat'(first|exact .nil|refine .k0 ?_|refine .k1 ?_|refine .k2 ?_|refine .k6 ?_|refine .k7 ?_|refine .k8 ?_|refine .k9 ?_|(refine .cd ?_ ?_<;>(intro hc;skip))|refine .r1 ?_ ?_|refine .t1 ?_ ?_ ?_|fail)
 try any_goals(exact Zo)
 all_goals(try simp only[BL]at *)
 ·have br:i<l.length:=by omega
  rw[Ij br,if_pos (show c=l.getD i 0 from YD.1 (Int.ofNat_inj.1 hc))]
  exact Zw
 ·have br:i<l.length:=by omega
  refine⟨m-1,by omega,_,_,Zr,Zs,i+1,by omega,by omega,?_,rfl,by rw[fL br hlen]⟩
  rw[Ij br,if_neg (fun h=>hc (by rw[h];rfl))]
 ·have br:i=l.length:=by omega
  subst br
  rw[List.drop_length]
  exact Zw
theorem Sb(l:List UInt8)(c:UInt8)(nn:Bool):Pure Tryz.prog 221 [.sl nn 1 (l.map bA),.v (.int .u8 c.toNat)] (.v (.bool (decide (c∈l)))):=by
 refine Xo.p fun σ=> ?_
 repeat'(first|exact .nil|refine .k0 ?_|refine .k1 ?_|refine .k2 ?_|refine .k7 ?_|refine .r1 ?_ ?_|refine .an rfl (by intro aO;exact WG _ _ _) ?_ ?_|fail)
 all_goals(try simp only[BL]at *)
 rw[show decide (0≤lu c l 0)=decide (c∈l) by simp only[Ik]]
 exact Zw
theorem rd_key(hw:ib)(L:List Tok)(hL:Gd L)(ins:Bool):bC 194 [] ins L (nk L) gh:=by
 refine bC.intro fun b1 rest τ=> ?_
 refine Spec.cN (fun _=>0) Tryz.func194 RU S9 (Z9 rfl) ?_
 unfold nk
 repeat'(first|exact .nil|refine .k0 ?_|refine .k1 ?_|refine .k2 ?_|refine .r1 ?_ ?_|(refine .l1 ?_;intro b)|fail)
 refine bG rfl (Ap hw L hL ins) rfl rfl rfl .nil ?_ (fun _ _ h=>aP h) (fun _=>Zs) (fun nm L1 aU bg=> ?_)
 ·exact fun p c h=>by rw[h];rfl
 rw[aU,PR.aD]
 simp(decide:=true)only[aH,aN]
 repeat'(first|exact .nil|refine .k0 ?_|refine .k1 ?_|refine .k2 ?_|refine .r1 ?_ ?_|(refine .l1 ?_;intro b)|fail)
 refine bG rfl (xM hw L1 bg ins 4 (by decide)) rfl rfl rfl .nil ?_ (fun _ _ h=>aP h) (fun _=>Zs) (fun t L2 cI cq=> ?_)
 ·exact fun p c h=>by rw[h];rfl
 rw[cI,PR.aD]
 simp(decide:=true)only[aH,aN]
 have aT:t.text.size≤16384:=by
  unfold dC at cI;split at cI
  ·cases cI
  ·cases cI;exact(bg.t _ (ua bg.e.ne)).sz
 repeat'(first|exact .nil|refine .k0 ?_|refine .k1 ?_|refine .k2 ?_|refine .k4 ?_|refine .k7 ?_|refine .k9 ?_|(refine .cd ?_ ?_<;>(intro hc;skip))|refine .r1 ?_ ?_|(refine .l1 ?_;intro b)|refine .an rfl (by intro aO;exact Sb _ 32 true) ?_ ?_|refine .t7 ?_ ?_ ?_|fail)
 try any_goals(exact Zo)
 all_goals(try simp only[BL]at *)
 ·refine BA rfl rfl .nil ?_
  refine aP ?_
  exact nB (cs:=aZ L2 ins++rest) (by rw[if_pos (by rcases hc with(h|h)|h<;>first|exact .inr (.inr h)|exact .inl (by omega)|exact .inr (.inl (by omega)))];exact⟨rfl,_,_,rfl⟩)
 ·refine cQ (a:=fY ⟨5,0,t.text⟩ [] nm) (by rw[if_neg (by rintro(h|h|h)<;>first|exact hc.2 h|exact hc.1.1 (by omega)|fail)]) cq ?_
  repeat' first|exact .refl _|exact .nil|refine .cons ?_ ?_|refine .agg ?_
end Go.Proofs.YtbihckigennlhaaGreatDoor
