/- units.Normal. -/
import Derived.Test.YtcccbdelfhgmlaaGreatDoorYe
import Derived.Test.YtcccbdelfhgmlaaGreatDoorTz
set_option linter.unusedSimpArgs false
set_option linter.unusedVariables false
set_option maxRecDepth 100000
set_option maxHeartbeats 4000000
namespace Go.Proofs.YtcccbdelfhgmlaaGreatDoor
open Go.Sx Go.Proofs Go.Tb
abbrev EP:AV:= .v (.slice none 0 0)
def jY(es:List (ae×Int))(f:ar):List (ae×Int):=iP es f.name (en es f.name+f.exp)
def jf(l:List ar):List (ae×Int):=l.foldl jY []
theorem awO{l:List ar}{i:Nat}(h:i<l.length):jf (l.take (i+1))=jY (jf (l.take i)) (l.getD i default):=by
 unfold jf
 rw[ZF h,List.foldl_append,← getD_eq h];rfl
theorem PL(s t:ae)(v:Int):∀ es,en (iP es s v) t=if t=s then v else en es t
 |[]=>by
  simp only[iP,en]
  by_cases h:s=t
  ·rw[Z8 h,Z8 h.symm]
  ·rw[Z9 h,Z9 fun e=>h e.symm]
 |p::es=>by
  have ih:=PL s t v es
  by_cases hp:p.1=s
  ·subst hp
   simp only[iP,Y4,en]
   by_cases h:p.1=t
   ·rw[Z8 h,Z8 h.symm]
   ·rw[Z9 h,Z9 fun e=>h e.symm,Z9 h]
  ·simp only[iP,Z9 hp,en]
   by_cases h:p.1=t
   ·rw[Z8 h,Z8 h,Z9 fun e=>hp (h.trans e)]
   ·rw[Z9 h,Z9 h,ih]
theorem TB(s:ae)(v:Int):∀ es,(iP es s v).map Prod.fst=if s∈es.map Prod.fst then es.map Prod.fst else es.map Prod.fst++[s]
 |[]=>by simp[iP]
 |p::es=>by
  have ih:=TB s v es
  by_cases hp:p.1=s
  ·subst hp;simp[iP]
  ·have ot:¬s=p.1:=fun e=>hp e.symm
   simp only[iP,Z9 hp,Zu,ih,ZV,ot,false_or]
   split<;>simp
theorem O2(f:ar)(l:List ar)(s:ae):ft (f::l) s=(if f.name=s then f.exp else 0)+ft l s:=by
 unfold ft
 by_cases h:f.name=s
 ·simp[h]
 ·simp[h]
theorem PK(s:ae):∀ (l:List ar) (es:List (ae×Int)),en (l.foldl jY es) s=en es s+ft l s
 |[],es=>by simp[ft]
 |f::l,es=>by
  rw[List.foldl_cons,PK s l,O2,jY,PL]
  by_cases h:f.name=s
  ·rw[Z8 h,Z8 h.symm,h];omega
  ·rw[Z9 h,Z9 fun e=>h e.symm];omega
theorem H8(l:List ar)(s:ae):en (jf l) s=ft l s:=by unfold jf;rw[PK];simp[en]
theorem UN:∀ (l:List ar) (es:List (ae×Int)),(es.map Prod.fst).Nodup→((l.foldl jY es).map Prod.fst).Nodup∧(∀ s,s∈(l.foldl jY es).map Prod.fst↔s∈es.map Prod.fst∨s∈l.map ar.name)∧(l.foldl jY es).length≤es.length+l.length
 |[],es,h=>⟨h,fun s=>by simp,ZR _⟩
 |f::l,es,h=>by
  have hk:=TB f.name (en es f.name+f.exp) es
  have hl:(jY es f).length≤es.length+1:=by
   have h2:=Zy List.length hk
   simp only[Z3]at h2
   unfold jY
   rw[h2];split<;>simp
  have hm:∀ s,s∈(jY es f).map Prod.fst↔s∈es.map Prod.fst∨s=f.name:=fun s=>by
   unfold jY;rw[hk]
   split
   ·rename_i h1
    exact⟨.inl,fun h=>h.elim id fun e=>by rw[e];exact h1⟩
   ·simp
  have hn:((jY es f).map Prod.fst).Nodup:=by
   unfold jY;rw[hk]
   split
   ·exact h
   ·rename_i h1
    exact Yh.2 ⟨h,by simp,fun a ha b hb e=>by rw[ZI]at hb;subst hb;subst e;exact h1 ha⟩
  obtain⟨g1,g2,g3⟩:=UN l (jY es f) hn
  refine⟨g1,fun s=> ?_,by rw[List.foldl_cons,Z6];omega⟩
  rw[List.foldl_cons,g2,hm,Zu,ZV,or_assoc]
theorem Hq(s:ae):∀ (l:List ar),(∀ f∈l, -1099511627776≤f.exp∧f.exp≤1099511627776)→-1099511627776 * (l.length:Int)≤ft l s∧ft l s≤1099511627776 * (l.length:Int)
 |[],_=>by simp[ft]
 |f::l,h=>by
  have h1:=Hq s l fun f hf=>h f (ZU _ hf)
  have h2:=h f ZJ
  rw[O2,Z6]
  split<;>omega
def nM(pY:Nat)(rows:List (List AV))(x:AV)(τ:Store):Prop:=(rows=[]∧x=EP∧τ=[])∨∃ b u c,x= .own 2 pY b u c rows∧τ=[(pY,b,.tail u c)]
theorem nM.z{pY:Nat}:nM pY [] EP []:= .inl ⟨rfl,rfl,rfl⟩
theorem nM.n{pY:Nat}{rows:List (List AV)}(h:rows=[]):nM pY rows EP []:= .inl ⟨h,rfl,rfl⟩
theorem nM.s{pY b u c:Nat}{rows rows':List (List AV)}(h:rows'=rows):nM pY rows (.own 2 pY b u c rows') [(pY,b,.tail u c)]:= .inr ⟨b,u,c,by rw[h],rfl⟩
def sR(l:List ar)(L:List ae):List ar:=(L.map fun n=>(⟨n,ft l n⟩:ar)).filter fun f=>decide (f.exp≠0)
theorem adX{l:List ar}{N:List ae}{i:Nat}(h:i<N.length):sR l (N.take (i+1))=sR l (N.take i)++if ft l (N.getD i default)≠0 then[⟨N.getD i default,ft l (N.getD i default)⟩]else[]:=by
 unfold sR
 rw[ZF h,← getD_eq h,YS,List.filter_append,List.map_singleton,List.filter_cons]
 simp
theorem adW(l:List ar)(L:List ae):(sR l L).length≤L.length:=Zk (XE _ _) (by rw[Z3];exact ZR _)
theorem agQ(l:List ar)(hw:∀ f∈l,Word f.name)(hb:∀ f∈l, -1099511627776≤f.exp∧f.exp≤1099511627776)(hl:l.length≤20000):Pure Tryz.prog 188 [.sl false 2 (l.map ar.cells)] (.aT [.sl false 2 ((ig l).1.map ar.cells),iv (ig l).2]):=by
 refine afP.p fun σ=> ?_
 repeat'(first|exact .nil|refine .k0 ?_|refine .k1 ?_|refine .k2 ?_|refine .k6 ?_|refine .r1 ?_ ?_|(refine .m2 ?_ ?_;intro hlen)|(refine .l3 ?_;intro b)|fail)
 all_goals(try simp only[BL]at *)
 rename Nat=>b1
 refine dU (fun m rg σ'=>∃ (i:Nat),i≤l.length∧m=l.length-i∧σ'=(11,b1,.map (wE (jf (l.take i))) (jf (l.take i)).length)::σ∧rg=[(2,EP),(4,.eu 11 b1),(12,.sl false 2 (l.map ar.cells)),(13,iv l.length),(14,iv i)]) l.length rfl ⟨_,_,Zr,Zs,0,ZH _,rfl,rfl,rfl⟩ ?_
 rintro m _ _ ⟨i,hi,hm,rfl,rfl⟩
 have Ij:i<l.length→-576460752303423488≤(l.getD i default).exp∧(l.getD i default).exp≤576460752303423488:=fun h=>by
  have:=hb _ (gb h);omega
 have P5:∀ s, -576460752303423488≤en (jf (l.take i)) s∧en (jf (l.take i)) s≤576460752303423488:=fun s=>by
  have h1:=Hq s (l.take i) fun f hf=>hb f (List.mem_of_mem_take hf)
  rw[ZK]at h1
  rw[H8];omega
 repeat'((fail_if_success (show WK _ _ _ _ (.dV _) _ _ _));(first|exact .nil|refine .k0 ?_|refine .k1 ?_|refine .k2 ?_|refine .k6 ?_|refine .k7 ?_|refine .k8 ?_|refine .k9 ?_|(refine .cd ?_ ?_<;>(intro hc;skip))|refine .r1 ?_ ?_|(refine .l1 ?_;intro b)|refine .t1 ?_ ?_ ?_|refine .an rfl (by intro br;first|exact VG _|fail) ?_ ?_|fail))
 try any_goals((intro br;first|(simp_all;done)|fail))
 all_goals(try simp only[BL]at *)
 ·exact absurd (hw _ (gb (by omega))) hc
 ·have bJ:i<l.length:=by omega
  refine aaA 28 rfl rfl rfl ?_
  repeat'(first|exact .nil|refine .k0 ?_|refine .r1 ?_ ?_|fail)
  refine aag rfl rfl rfl OB.nil ?_
  repeat'(first|exact .nil|refine .k0 ?_|refine .k1 ?_|refine .k2 ?_|refine .r1 ?_ ?_|refine .an rfl (by intro br;first|exact SN (Ij (by first|omega|fail))|exact aaT (P5 _) (Ij (by first|omega|fail))|fail) ?_ ?_|fail)
  all_goals(try simp only[BL]at *)
  refine Xq (es:=jf (l.take i)) (s:=(l.getD i default).name) (v:=en (jf (l.take i)) (l.getD i default).name+(l.getD i default).exp) rfl rfl rfl rfl OB.nil ?_
  repeat'(first|exact .nil|refine .k0 ?_|refine .k1 ?_|refine .k2 ?_|refine .r1 ?_ ?_|fail)
  all_goals(try simp only[BL]at *)
  refine⟨m-1,by omega,_,(11,b1,.map (wE (jf (l.take (i+1)))) (jf (l.take (i+1))).length)::σ,Zr,by rw[awO bJ];repeat' first|exact .refl _|refine .cons ?_,i+1,by omega,by omega,rfl,by rw[iQ (n:=l.length) (by omega) (by assumption)]⟩
 ·have bJ:i=l.length:=by omega
  subst bJ
  rw[XU]
  have hK:=UN l [] XJ
  have ye:jT ((jf l).map Prod.fst)=jT (l.map ar.name):=oP (y8 _) (y8 _) fun x=>by
   rw[y7,y7];exact(hK.2.1 x).trans (by simp)
  refine uL rfl (awu (es:=jf l) rfl hK.1 (fun p hp=> ?_) (by have:=hK.2.2;simp only[ZW]at this;show(l.foldl jY []).length≤_;omega)) OB.nil (fun x σ' hR=> ?_) (fun ch σ' hR=> ?_)
  ·have h1:=(hK.2.1 p.1).1 (YX.2 ⟨p,hp,rfl⟩)
   rcases h1 with h1|h1
   ·cases h1
   ·obtain⟨f,hf,e⟩:=YX.1 h1
    have:=(hw f hf).2.1
    rw[← e];unfold maxLen;omega
  rotate_left
  ·exact nomatch hR.1
  obtain⟨e1,e2⟩:=hR
  cases e1
  subst e2
  rw[ye]
  have Iq:ig l=if∃ n∈jT (l.map ar.name),ft l n>8∨ft l n< -8 then([],70)else if(sR l (jT (l.map ar.name))).length>4 then([],2)else(sR l (jT (l.map ar.name)),0):=rfl
  have hNl:(jT (l.map ar.name)).length≤20000:=by
   have:=iN (wj (y8 (l.map ar.name))) fun x hx=>y7.1 hx
   rw[Z3]at this;omega
  generalize jT (l.map ar.name)=N at *
  repeat'(first|exact .nil|refine .k0 ?_|refine .k1 ?_|refine .k6 ?_|refine .r1 ?_ ?_|(refine .m2 ?_ ?_;intro hlen)|fail)
  all_goals(try simp only[BL]at *)
  clear Ij P5 ye hK hi hm hc
  have hE7:∀ s, -576460752303423488≤en (jf l) s∧en (jf l) s≤576460752303423488:=fun s=>by
   have h1:=Hq s l hb
   rw[H8];omega
  have hG:=fun s=>H8 l s
  generalize jf l=es at *
  refine dU (fun m rg σ'=>∃ (i:Nat) (x:AV) (τ:Store),i≤N.length∧m=N.length-i∧(∀ n∈N.take i,¬(ft l n>8∨ft l n< -8))∧nM 61 ((sR l (N.take i)).map ar.cells) x τ∧σ'=τ++(11,b1,.map (wE es) es.length)::σ∧rg=[(2,x),(4,.eu 11 b1),(35,jU N),(36,iv N.length),(37,iv i)]) N.length rfl ⟨_,_,Zr,Zs,0,_,_,ZH _,rfl,(fun n h=>by cases h),nM.z,rfl,rfl⟩ ?_
  rintro m2 _ _ ⟨i,x,τ,hi,hm,hP,hR,rfl,rfl⟩
  have Qz:(sR l (N.take i)).length≤20000:=Zk (adW _ _) (by rw[ZK];omega)
  have yk:=fun(h:i<N.length)=>adX (l:=l) h
  have Qd:i<N.length→¬(ft l (N.getD i default)>8∨ft l (N.getD i default)< -8)→∀ n∈N.take (i+1),¬(ft l n>8∨ft l n< -8):=fun h h1 n hn=>by
   rw[ZF h,← getD_eq h,ZG,ZI]at hn
   rcases hn with hn|rfl
   ·exact hP n hn
   ·exact h1
  rcases hR with⟨hE,rfl,rfl⟩|⟨b3,u3,c3,rfl,rfl⟩
  all_goals
   repeat'(first|exact .nil|refine .k0 ?_|refine .k1 ?_|refine .k2 ?_|refine .k6 ?_|refine .k7 ?_|refine .k8 ?_|refine .k9 ?_|(refine .cd ?_ ?_<;>(intro hc;skip))|refine .r1 ?_ ?_|(refine .m2 ?_ ?_;intro hlen)|refine .t1 ?_ ?_ ?_|refine .r8 ?_ ?_|fail)
   refine Xe rfl rfl rfl OB.nil ?_
   repeat'(first|exact .nil|refine .k0 ?_|refine .k1 ?_|refine .k2 ?_|refine .k7 ?_|refine .k9 ?_|(refine .cd ?_ ?_<;>(intro hc;skip))|refine .r1 ?_ ?_|refine .u1 ?_ ?_ ?_ (fun b u c=> ?_)|refine .u2 ?_ ?_ ?_ (fun b u c=> ?_)|refine .an rfl (by intro br;first|exact S4 _ 8 (by decide)|exact ac0 (hE7 _)) ?_ ?_|(show List.all _ _=true;rfl)|fail)
   try any_goals((intro br;first|(simp_all;done)|fail))
   all_goals(try simp only[BL]at *)
   ·rw[Iq,Z8 ⟨N.getD i default,gb (by omega),by rw[hG]at hc;exact hc⟩]
    exact Zw
   ·show _≤1000000;simp only[Z6,ZW];omega
   ·show _ * _≤_;simp only[Z3,Z6,ZW];omega
   ·have BA:¬(en es (N.getD i default)>8∨en es (N.getD i default)< -8):=by assumption
    rw[hG]at hc BA
    refine⟨m2-1,by omega,_,_,Zr,Zs,i+1,_,_,by omega,by omega,Qd (by omega) BA,nM.s ?_,rfl,by rw[iQ (n:=N.length) (by omega) (by assumption)]⟩
    rw[yk (by omega),Z8 hc,YS,hG]
    first|(rw[hE];rfl)|rfl
   ·have BA:¬(en es (N.getD i default)>8∨en es (N.getD i default)< -8):=by assumption
    rw[hG]at hc BA
    refine⟨m2-1,by omega,_,_,Zr,Zs,i+1,_,_,by omega,by omega,Qd (by omega) BA,?_,rfl,by rw[iQ (n:=N.length) (by omega) (by assumption)]⟩
    rw[yk (by omega),Z9 (by rw[hc];simp),Zg]
    first|exact nM.n hE|exact nM.s rfl
   ·have qV:N.take i=N:=ZD (by omega)
    rw[qV]at hP
    try rw[qV]at hE
    try rw[qV]at hc
    try rw[qV]
    rw[Iq,Z9 (by rintro⟨n,hn,cW⟩;exact hP n hn cW)]
    first
     |exact absurd hc (by decide)
     |(rw[Z8 (by omega)];(refine Sx.Fin.wk Zs ?_;repeat' first|exact .refl _|exact .nil|refine .cons ?_ ?_|refine .aT ?_|fail))
   ·have qV:N.take i=N:=ZD (by omega)
    rw[qV]at hP
    try rw[qV]at hE
    try rw[qV]at hc
    try rw[qV]
    rw[Iq,Z9 (by rintro⟨n,hn,cW⟩;exact hP n hn cW)]
    first
     |(rw[YQ.1 hE,Z9 (by decide)];refine Sx.Fin.wk Zs (.aT (.cons .nil (.cons (.refl _) .nil)));done)
     |(rw[Z9 (by omega)];(refine Sx.Fin.wk Zs ?_;repeat' first|exact .refl _|refine .cons ?_ ?_|refine .aT ?_|exact .own _))
end Go.Proofs.YtcccbdelfhgmlaaGreatDoor
set_option linter.unusedSectionVars false
namespace Go.Proofs.YtcccbdelfhgmlaaGreatDoor
open Go.Sx Go.Proofs
abbrev gQ:AV:= .v (.slice none 0 0)
def Gg(e tg lp lb bp bl b:Nat)(dh:Store)(rows:List (List AV))(τ:Store):Prop:=
 (rows=[]∧τ=(lp,bp,.cells [.lp 1000 b 0])::(lb,bl,.cells [gQ])::dh)∨(rows≠[]∧∃ bb u c,τ=(lp,bp,.cells [.lp 1000 b 0])::(lb,bl,.cells [.own e tg bb u c rows])::(tg,bb,.tail u c)::dh)
def uD(f:ar):Prop:=Word f.name∧-1099511627776≤f.exp∧f.exp≤1099511627776
def uG:Prop:=∀ l:List ar,l≠[]→(∀ f∈l,uD f)→l.length≤20000→Pure Tryz.prog 188 [.sl false 2 (l.map ar.cells)] (.aT [.sl false 2 ((ig l).1.map ar.cells),iv (ig l).2])
theorem SJ{L L':List Tok}{k:Int}(h:eZ L= .ok k L'):0≤k:=by
 unfold eZ PR.map at h
 cases e:eA 2 L with
 |ok t L1=>rw[e,PR.aH]at h;cases h;exact Int.natCast_nonneg _
 |err p c=>rw[e]at h;cases h
theorem axs(hw:jE)(bp bl b:Nat)(rest:List AV)(dh:Store)(ins:Bool):
  Ma 185 [.lp 1 bp 0,.lp 4 bl 0] eE ins b rest dh (fun acc τ=>Gg 2 20 1 4 bp bl b dh (acc.map ar.cells) τ):=by
 intro acc L τ hL hal hS
 refine sq.spec ?_
 have kP:∀ (x:AV) (sd:Store),τ=(1,bp,.cells [.lp 1000 b 0])::(4,bl,.cells [x])::sd→((acc=[]∧x=gQ∧sd=dh)∨(acc≠[]∧∃ bb u c,x= .own 2 20 bb u c (acc.map ar.cells)∧sd=(20,bb,.tail u c)::dh))→AV.one x=true→
   Sx.Spec Tryz.prog 185 [.lp 1 bp 0,.lp 4 bl 0] ((1000,b,.cells (bD L ins++rest))::τ) (sq ins rest dh ((eE L).map fun a=>acc++[a]) (fun acc τ=>Gg 2 20 1 4 bp bl b dh (acc.map ar.cells) τ) b):=by
  rintro x sd rfl hx h1
  have er:Sub dh sd:=by
   rcases hx with⟨_,_,rfl⟩|⟨_,_,_,_,_,rfl⟩
   ·exact .refl _
   ·exact .cons (.refl _)
  refine Spec.dF (fun _=>0) Tryz.func185 ab2 adl (Z7 rfl) ?_
  unfold eE
  repeat'(first|exact .nil|refine .k0 ?_|refine .k1 ?_|refine .k2 ?_|refine .r1 ?_ ?_|fail)
  refine bY rfl (E7 hw L hL ins) rfl rfl rfl .nil ?_ (fun _ _ h=>bn (sq.dn er (val:=fun _=> .any) (τ:=sd) h)) (fun _=>Zs) (fun nm L1 bg bE=> ?_)
  ·exact fun p c h=>by rw[h];rfl
  have jP:=(Pos.name L hL.e).ok _ _ bg
  rw[bg,PR.aH]
  simp(decide:=true)only[aM,aZ]
  repeat'((fail_if_success (show WK _ _ _ _ _ _ _ _));(first|exact .nil|refine .k0 ?_|refine .k1 ?_|refine .r1 ?_ ?_|(refine .l1 ?_;intro b)|fail))
  rename Nat=>b2
  refine kH rfl ?_
  refine mM (fun rg σ'=>∃ (f:ar) (L2:List Tok),Gd L2∧(if au 5 (ch 94) L1 then if au 5 (ch 45) L1.tail then(eZ L1.tail.tail).map fun k=>(⟨nm, -(min k 1099511627776)⟩:ar)else(eZ L1.tail).map fun k=>⟨nm,min k 1099511627776⟩else .ok ⟨nm,1⟩ L1)= .ok f L2∧
   σ'=(2,b2,.cells f.cells)::(1000,b,.cells (bD L2 ins++rest))::(1,bp,.cells [.lp 1000 b 0])::(4,bl,.cells [x])::sd∧rg=[(1,.lp 4 bl 0),(2,.lp 2 b2 0)]) ?_ ?_
  ·repeat'(first|exact .nil|refine .k0 ?_|refine .k1 ?_|refine .k2 ?_|refine .r1 ?_ ?_|fail)
   by_cases sX:au 5 (ch 94) L1=true
   ·have oA:=bE.tail (cL (k:=5) (by decide) L1 sX)
    refine o6 rfl (gK L1 bE ins 5 (by decide) (ch 94)) (kr sX) rfl rfl rfl .nil (fun _=> ?_)
    simp(decide:=true)only[aM,aZ]
    rw[Z8 sX]
    (repeat'((fail_if_success (show WK _ _ _ _ (.seq (.seq _ _) (.keep _ _)) _ _ _));(first|exact .nil|refine .k0 ?_|refine .k1 ?_|refine .k2 ?_|(refine .cd ?_ ?_<;>first|with_reducible exact tF|(intro hc;skip))|refine .r1 ?_ ?_|fail)))<;>(try(simp at hc;done))
    refine mM (fun rg σ'=>∃ (L2:List Tok) (sg:Int),Gd L2∧((au 5 (ch 45) L1.tail=true∧L2=L1.tail.tail∧sg= -1)∨(¬au 5 (ch 45) L1.tail=true∧L2=L1.tail∧sg=1))∧
     σ'=(2,b2,.cells [sv nm,iv 1])::(1000,b,.cells (bD L2 ins++rest))::(1,bp,.cells [.lp 1000 b 0])::(4,bl,.cells [x])::sd∧rg=[(0,.lp 1 bp 0),(1,.lp 4 bl 0),(2,.lp 2 b2 0),(3,iv sg)]) ?_ ?_
    ·repeat'(first|exact .nil|refine .k0 ?_|refine .k1 ?_|refine .k2 ?_|refine .r1 ?_ ?_|fail)
     by_cases uZ:au 5 (ch 45) L1.tail=true
     ·have gC:=oA.1.tail (cL (k:=5) (by decide) L1.tail uZ)
      refine o6 (L:=L1.tail) (ins:=ins) rfl (gK L1.tail oA.1 ins 5 (by decide) (ch 45)) (kr uZ) rfl rfl rfl .nil (fun _=> ?_)
      simp(decide:=true)only[aM,aZ]
      (repeat'(first|exact .nil|refine .k0 ?_|refine .k1 ?_|refine .k2 ?_|(refine .cd ?_ ?_<;>first|with_reducible exact tF|(intro hc;skip))|refine .r1 ?_ ?_|fail))<;>(try(simp at hc;done))
      exact ek.intro rfl ⟨_, -1,gC.1,.inl ⟨uZ,rfl,rfl⟩,rfl,rfl⟩
     ·refine o6 (L:=L1.tail) (ins:=ins) rfl (gK L1.tail oA.1 ins 5 (by decide) (ch 45)) (kq uZ) rfl rfl rfl .nil (fun _=> ?_)
      simp(decide:=true)only[aM,aZ]
      (repeat'(first|refine .k0 ?_|refine .k1 ?_|refine .k2 ?_|refine .k9 ?_|(refine .cd ?_ ?_<;>first|with_reducible exact fT|(intro hc;skip))|fail))<;>(try(simp at hc;done))
      exact ek.intro rfl ⟨_,1,oA.1,.inr ⟨uZ,rfl,rfl⟩,rfl,rfl⟩
    ·rintro _ _ ⟨L2,sg,cN,nj,rfl,rfl⟩
     have Qw:(if au 5 (ch 45) L1.tail=true then(eZ L1.tail.tail).map fun k=>(⟨nm, -(min k 1099511627776)⟩:ar)else(eZ L1.tail).map fun k=>⟨nm,min k 1099511627776⟩)=(eZ L2).map fun k=>(⟨nm,sg * min k 1099511627776⟩:ar):=by
      rcases nj with⟨h1,rfl,rfl⟩|⟨h1,rfl,rfl⟩
      ·rw[Z8 h1];congr 1;funext k;rw[Int.neg_mul,Int.one_mul]
      ·rw[Z9 h1];congr 1;funext k;rw[Int.one_mul]
     have cI:sg= -1∨sg=1:=nj.elim (fun h=> .inl h.2.2) fun h=> .inr h.2.2
     rw[Qw]
     clear Qw nj
     repeat'(first|exact .nil|refine .k0 ?_|refine .k2 ?_|refine .r1 ?_ ?_|fail)
     refine bY rfl (yV hw L2 cN ins) rfl rfl rfl .nil ?_ (fun _ _ h=>bn (sq.dn er (val:=fun _=> .any) (τ:=sd) h)) (fun _=>Zs) (fun k L3 fz pA=> ?_)
     ·exact fun p c h=>by rw[h];rfl
     simp(decide:=true)only[aM,aZ]
     have tc:=SJ fz
     have Bx:IntKind.i64.wrap (sg * if true=true then if 1099511627776<k then 1099511627776 else k else if 1099511627776>k then 1099511627776 else k)=sg * min k 1099511627776:=by
      have e1:(if true=true then if 1099511627776<k then 1099511627776 else k else if 1099511627776>k then 1099511627776 else k)=min k 1099511627776:=by
       rw[Z8 rfl];split<;>omega
      rw[e1,bG]
      rcases cI with rfl|rfl<;>omega
     repeat'(first|exact .nil|refine .k0 ?_|refine .k1 ?_|refine .k2 ?_|refine .r1 ?_ ?_|fail)
     exact ek.intro rfl ⟨⟨nm,sg * min k 1099511627776⟩,L3,pA,by rw[fz];rfl,rfl,rfl⟩ (hs:=by rw[Bx];exact Zs)
   ·refine o6 rfl (gK L1 bE ins 5 (by decide) (ch 94)) (kq sX) rfl rfl rfl .nil (fun _=> ?_)
    simp(decide:=true)only[aM,aZ]
    (repeat'(first|refine .k0 ?_|refine .k1 ?_|refine .k2 ?_|refine .k9 ?_|(refine .cd ?_ ?_<;>first|with_reducible exact fT|(intro hc;skip))|fail))<;>(try(simp at hc;done))
    exact ek.intro rfl ⟨⟨nm,1⟩,L1,bE,by rw[Z9 sX],rfl,rfl⟩
  ·rintro _ _ ⟨f,L2,cN,hf,rfl,rfl⟩
   rw[hf]
   rcases hx with⟨rfl,rfl,rfl⟩|⟨aJ,bb,u,c,rfl,rfl⟩
   ·repeat'(first|exact .nil|refine .k0 ?_|refine .k1 ?_|refine .k2 ?_|refine .k3 ?_|refine .r1 ?_ ?_|refine .u1 ?_ ?_ ?_ (fun b u c=> ?_)|fail)
    ·exact Z7 rfl
    ·simp
    ·show _ * _≤_;simp only[Z6,ZW];omega
    ·exact⟨_,_,.inr ⟨by simp,_,_,_,rfl⟩,cN,rfl,by exact Zs,(Yb (l₁:=[_,_,_])).symm⟩
   ·repeat'(first|exact .nil|refine .k0 ?_|refine .k1 ?_|refine .k2 ?_|refine .k3 ?_|refine .r1 ?_ ?_|refine .u2 ?_ ?_ ?_ (fun b u c=> ?_)|(show List.all _ _=true;rfl)|fail)
    ·exact Z7 rfl
    ·show _ * _≤_;simp only[Z3,Z6,ZW];omega
    ·exact⟨_,_,.inr ⟨by simp,b,u,c,by rw[YS]⟩,cN,rfl,by exact Zs,List.Perm.refl _⟩
 rcases hS with⟨h1,rfl⟩|⟨h1,bb,u,c,rfl⟩
 ·exact kP gQ dh rfl (.inl ⟨YQ.1 h1,rfl,rfl⟩) rfl
 ·exact kP _ _ rfl (.inr ⟨fun h=>h1 (by rw[h];rfl),bb,u,c,rfl,rfl⟩) rfl
theorem agD{L L':List Tok}{s:ae}(h:fR L= .ok s L'):Word s:=by
 unfold fR at h
 split at h
 ·cases h
 ·rename_i hn
  unfold PR.map at h
  cases e:eA 1 L with
  |err p c=>rw[e]at h;cases h
  |ok t L1=>
   rw[e,PR.aH]at h
   cases h
   unfold eA at e
   split at e
   ·cases e
   ·cases e;exact(Y3.1 hn).1
theorem Pm{L L':List Tok}{f:ar}(h:eE L= .ok f L'):uD f:=by
 unfold eE at h
 cases e:fR L with
 |err p c=>rw[e]at h;cases h
 |ok nm L1=>
  rw[e,PR.aH]at h
  have hw:=agD e
  have key:∀ (L2:List Tok) (g:Int→ar),(∀ k,0≤k→uD (g k))→(eZ L2).map g= .ok f L'→uD f:=fun L2 g hg h=>by
   unfold PR.map at h
   cases e2:eZ L2 with
   |err p c=>rw[e2]at h;cases h
   |ok k L3=>rw[e2,PR.aH]at h;cases h;exact hg k (SJ e2)
  split at h
  ·split at h
   ·exact key _ _ (fun k hk=>⟨hw,by show -1099511627776≤-(min k 1099511627776);omega,by show -(min k 1099511627776)≤1099511627776;omega⟩) h
   ·exact key _ _ (fun k hk=>⟨hw,by show -1099511627776≤min k 1099511627776;omega,by show min k 1099511627776≤1099511627776;omega⟩) h
  ·cases h;exact⟨hw,by show -1099511627776≤(1:Int);decide,by show(1:Int)≤1099511627776;decide⟩
theorem Sq:∀ (k:Nat) (L:List Tok) (acc l:List ar) (L':List Tok),dj L→acc≠[]→(∀ f∈acc,uD f)→kX (ch 42) eE k L acc= .ok l L'→l≠[]∧(∀ f∈l,uD f)∧l.length+L'.length≤acc.length+L.length
 |0,L,acc,l,L',hL,h0,ha,h=>by cases h;exact⟨h0,ha,ZR _⟩
 |k+1,L,acc,l,L',hL,h0,ha,h=>by
  rw[kX]at h
  by_cases hs:au 5 (ch 42) L=true
  ·rw[Z8 hs]at h
   have ht:=hL.tail (cL (k:=5) (by decide) L hs)
   cases e:eE L.tail with
   |err p c=>rw[e]at h;cases h
   |ok a L1=>
    rw[e,PR.aH]at h
    have hp:=(Pos.xC L.tail ht.1).ok a L1 e
    obtain⟨g1,g2,g3⟩:=Sq k L1 (acc++[a]) l L' hp.2.1 (by simp) (fun f hf=>by
     rcases ZG.1 hf with hf|hf
     ·exact ha f hf
     ·rw[ZI]at hf;subst hf;exact Pm e) h
    refine⟨g1,g2,?_⟩
    have:(acc++[a]).length=acc.length+1:=by simp
    omega
  ·rw[Z9 hs]at h;cases h;exact⟨h0,ha,ZR _⟩
theorem agb{L L':List Tok}{l:List ar}(hL:dj L)(h:ic (ch 42) eE L= .ok l L'):l≠[]∧(∀ f∈l,uD f)∧l.length+L'.length≤L.length:=by
 unfold ic at h
 cases e:eE L with
 |err p c=>rw[e]at h;cases h
 |ok a L1=>
  rw[e,PR.aH]at h
  have hp:=(Pos.xC L hL).ok a L1 e
  obtain⟨g1,g2,g3⟩:=Sq N0 L1 [a] l L' hp.2.1 (by simp) (fun f hf=>by rw[ZI]at hf;subst hf;exact Pm e) h
  refine⟨g1,g2,?_⟩
  simp only[Z6,ZW]at g3
  omega
theorem ahj{α:Type}(a b c:α)(l:List α):(a::b::c::l).Perm (c::b::a::l):=
 (List.Perm.swap b a _).trans ((List.Perm.cons b (List.Perm.swap c a l)).trans (List.Perm.swap c b _))
theorem TS(hw:jE)(hN:uG)(L:List Tok)(hL:Gd L)(ins:Bool):bU 149 [] ins L (jg L) fun u=> .sl false 2 (u.map ar.cells):=by
 refine bU.intro fun b1 rest τ=> ?_
 refine Spec.dF (fun _=>0) Tryz.func149 abW adf (Z7 rfl) ?_
 unfold jg
 have hp:=hL.pos
 have hcell:(bD L ins++rest)=[.sl false 3 (L.map Tok.cells),.v (.bool ins)]++rest:=rfl
 rw[hcell]
 repeat'(first|exact .nil|refine .k0 ?_|refine .k1 ?_|refine .k2 ?_|refine .r1 ?_ ?_|(refine .m1 ?_ ?_;intro b)|refine .t1 ?_ ?_ ?_|fail)
 any_goals omega
 rename Nat=>bp
 simp only[show Int.toNat 0=0 from rfl,mW]
 by_cases hs:au 5 (ch 91) L=true
 ·have ht:=hL.tail (cL (k:=5) (by decide) L hs)
  rw[Z8 hs]
  refine o6 (rest:=rest) rfl (gK L hL ins 5 (by decide) (ch 91)) (kr hs) rfl rfl rfl .nil (fun _=> ?_)
  simp(decide:=true)only[aM,aZ]
  (repeat'(first|exact .nil|refine .k0 ?_|refine .k1 ?_|refine .k2 ?_|refine .k7 ?_|refine .k9 ?_|(refine .cd ?_ ?_<;>(intro hc;skip))|refine .r1 ?_ ?_|(refine .l1 ?_;intro b)|fail))<;>(try(simp at hc;done))
  rename Nat=>bl
  refine uL rfl ((agc (c:= #[.pointer (some ⟨bp,0,none⟩),.pointer (some ⟨bl,0,none⟩)]) (S:=fun acc dv=>Gg 2 20 1 4 bp bl b1 τ (acc.map ar.cells) dv) (by rfl) (.cons .raw (.cons .raw .nil)) (axs hw bp bl b1 rest τ ins) Pos.xC (ch 42) L.tail _ ht.1 (.inl ⟨rfl,rfl⟩)).permA ?_) .nil (fun x σ' hR=> ?_) (fun c σ' hR=> ?_)
  ·exact ahj _ _ _ _
  ·cases hr:ic (ch 42) eE L.tail with
   |err p c=>rw[hr]at hR;cases hR.1
   |ok l L1=>
    rw[hr]at hR
    obtain⟨lB,hS,bE,hx,rfl⟩:=hR
    cases hx
    obtain⟨kS,QO,qY⟩:=agb ht.1.e hr
    have qY:l.length≤20000:=by have:=ht.1.n;omega
    rcases hS with⟨h0,_⟩|⟨_,bb,u,c,rfl⟩
    ·exact absurd (YQ.1 h0) kS
    rw[PR.aH]
    repeat'(first|exact .nil|refine .k0 ?_|refine .k1 ?_|refine .k2 ?_|refine .r1 ?_ ?_|fail)
    refine bY rfl (tY hw L1 bE ins (ch 93)) rfl rfl rfl .nil ?_ (fun _ _ h=>bn h) (fun _=>Zs) (fun a2 L2 aY cN=> ?_)
    ·exact fun p c h=>by rw[h];rfl
    rw[aY,PR.aH]
    simp(decide:=true)only[aM,aZ]
    repeat'(first|exact .nil|refine .k0 ?_|refine .k1 ?_|refine .k2 ?_|refine .k7 ?_|refine .k9 ?_|(refine .cd ?_ ?_<;>(intro hc;skip))|refine .r1 ?_ ?_|refine .an rfl (by intro br;(refine(hN l kS QO qY).wk ?_;(repeat' first|exact .refl _|refine .cons ?_ ?_|exact .own _);done)) ?_ ?_|fail)
    all_goals(try simp only[BL]at *)
    ·refine Gt rfl rfl .nil ?_
     refine bn ?_
     exact ql (cs:=bD L2 ins++rest) (by rw[Z8 hc];exact⟨rfl,_,_,rfl⟩)
    ·exact dE (a:=(ig l).1) (by rw[Z9 (fun h=>h hc)]) cN (.refl _)
  ·refine bn ?_
   cases hr:ic (ch 42) eE L.tail with
   |ok l L1=>rw[hr]at hR;obtain⟨_,_,_,h,_⟩:=hR;cases h
   |err p c=>rw[hr]at hR;obtain⟨e,L',i',h⟩:=hR;cases e;exact ql (cs:=bD L' i'++rest) ⟨rfl,L',i',rfl⟩ h
 ·rw[Z9 hs]
  refine o6 (rest:=rest) rfl (gK L hL ins 5 (by decide) (ch 91)) (kq hs) rfl rfl rfl .nil (fun _=> ?_)
  simp(decide:=true)only[aM,aZ]
  (repeat'(first|exact .nil|refine .k0 ?_|refine .k1 ?_|refine .k2 ?_|refine .k7 ?_|refine .k9 ?_|(refine .cd ?_ ?_<;>(intro hc;skip))|refine .r1 ?_ ?_|(refine .l1 ?_;intro b)|fail))<;>(try(simp at hc;done))
  exact dE (a:=[]) rfl hL .nil
def nV(c:UInt8):List UInt8→Nat→Int
 |[],_=> -1
 |b::l,i=>if c=b then i else nV c l (i+1)
theorem O9(c:UInt8):∀ (l:List UInt8) (i:Nat),(0≤nV c l i)↔c∈l
 |[],i=>by simp[nV]
 |b::l,i=>by
  have ih:=O9 c l (i+1)
  unfold nV
  by_cases h:c=b
  ·rw[Z8 h];simp[h]
  ·rw[Z9 h,ih];simp[h]
theorem O8{c:UInt8}{l:List UInt8}{i:Nat}(h:i<l.length):nV c (l.drop i) i=if c=l.getD i 0 then(i:Int)else nV c (l.drop (i+1)) (i+1):=by
 rw[Y8 h,nV,ZY,Z4 h];rfl
theorem afv(l:List UInt8)(c:UInt8)(nn:Bool):Pure Tryz.prog 214 [.sl nn 1 (l.map ck),.v (.int .u8 c.toNat)] (iv (nV c l 0)):=by
 refine afU.p fun σ=> ?_
 repeat'(first|exact .nil|refine .k0 ?_|refine .k1 ?_|refine .k2 ?_|refine .k6 ?_|refine .r1 ?_ ?_|(refine .m2 ?_ ?_;intro hlen)|fail)
 all_goals(try simp only[BL]at *)
 refine dU (fun m rg σ'=>∃ i:Nat,i≤l.length∧m=l.length-i∧nV c l 0=nV c (l.drop i) i∧σ'=σ∧rg=[(0,.sl nn 1 (l.map ck)),(1,.v (.int .u8 c.toNat)),(7,iv l.length),(8,iv i)]) l.length rfl ⟨_,_,Zr,Zs,0,ZH _,rfl,rfl,rfl,rfl⟩ ?_
 rintro m _ _ ⟨i,hi,hm,he,rfl,rfl⟩
 rw[he]
 repeat'(first|exact .nil|refine .k0 ?_|refine .k1 ?_|refine .k2 ?_|refine .k6 ?_|refine .k7 ?_|refine .k8 ?_|refine .k9 ?_|(refine .cd ?_ ?_<;>(intro hc;skip))|refine .r1 ?_ ?_|refine .t1 ?_ ?_ ?_|fail)
 try any_goals(exact Zo)
 all_goals(try simp only[BL]at *)
 ·have bJ:i<l.length:=by omega
  rw[O8 bJ,Z8 (show c=l.getD i 0 from Yr.1 (Int.ofNat_inj.1 hc))]
  exact Zw
 ·have bJ:i<l.length:=by omega
  refine⟨m-1,by omega,_,_,Zr,Zs,i+1,by omega,by omega,?_,rfl,by rw[iQ bJ hlen]⟩
  rw[O8 bJ,Z9 (fun h=>hc (by rw[h];rfl))]
 ·have bJ:i=l.length:=by omega
  subst bJ
  rw[List.drop_length]
  exact Zw
theorem acq(l:List UInt8)(c:UInt8)(nn:Bool):Pure Tryz.prog 191 [.sl nn 1 (l.map ck),.v (.int .u8 c.toNat)] (.v (.bool (decide (c∈l)))):=by
 refine afR.p fun σ=> ?_
 repeat'(first|exact .nil|refine .k0 ?_|refine .k1 ?_|refine .k2 ?_|refine .k7 ?_|refine .r1 ?_ ?_|refine .an rfl (by intro br;exact afv _ _ _) ?_ ?_|fail)
 all_goals(try simp only[BL]at *)
 rw[show decide (0≤nV c l 0)=decide (c∈l) by simp only[O9]]
 exact Zw
theorem rd_key(hw:jE)(L:List Tok)(hL:Gd L)(ins:Bool):bU 152 [] ins L (rB L) iC:=by
 refine bU.intro fun b1 rest τ=> ?_
 refine Spec.dF (fun _=>0) Tryz.func152 abZ adi (Z7 rfl) ?_
 unfold rB
 repeat'(first|exact .nil|refine .k0 ?_|refine .k1 ?_|refine .k2 ?_|refine .r1 ?_ ?_|(refine .l1 ?_;intro b)|fail)
 refine bY rfl (E7 hw L hL ins) rfl rfl rfl .nil ?_ (fun _ _ h=>bn h) (fun _=>Zs) (fun nm L1 bg bE=> ?_)
 ·exact fun p c h=>by rw[h];rfl
 rw[bg,PR.aH]
 simp(decide:=true)only[aM,aZ]
 repeat'(first|exact .nil|refine .k0 ?_|refine .k1 ?_|refine .k2 ?_|refine .r1 ?_ ?_|(refine .l1 ?_;intro b)|fail)
 refine bY rfl (Ci hw L1 bE ins 4 (by decide)) rfl rfl rfl .nil ?_ (fun _ _ h=>bn h) (fun _=>Zs) (fun t L2 aY cN=> ?_)
 ·exact fun p c h=>by rw[h];rfl
 rw[aY,PR.aH]
 simp(decide:=true)only[aM,aZ]
 have aQ:t.text.size≤16384:=by
  unfold eA at aY;split at aY
  ·cases aY
  ·cases aY;exact(bE.t _ (xZ bE.e.ne)).sz
 repeat'(first|exact .nil|refine .k0 ?_|refine .k1 ?_|refine .k2 ?_|refine .k4 ?_|refine .k7 ?_|refine .k9 ?_|(refine .cd ?_ ?_<;>(intro hc;skip))|refine .r1 ?_ ?_|(refine .l1 ?_;intro b)|refine .an rfl (by intro br;exact acq _ 32 true) ?_ ?_|refine .t7 ?_ ?_ ?_|fail)
 try any_goals(exact Zo)
 all_goals(try simp only[BL]at *)
 ·refine Gt rfl rfl .nil ?_
  refine bn ?_
  exact ql (cs:=bD L2 ins++rest) (by rw[Z8 (by rcases hc with(h|h)|h<;>first|exact .inr (.inr h)|exact .inl (by omega)|exact .inr (.inl (by omega)))];exact⟨rfl,_,_,rfl⟩)
 ·refine dE (a:=jQ ⟨5,0,t.text⟩ [] nm) (by rw[Z9 (by rintro(h|h|h)<;>first|exact hc.2 h|exact hc.1.1 (by omega)|fail)]) cN ?_
  repeat' first|exact .refl _|exact .nil|refine .cons ?_ ?_|refine .agg ?_
end Go.Proofs.YtcccbdelfhgmlaaGreatDoor
