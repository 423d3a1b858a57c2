/- units.Normal. -/
import Derived.Test.YtbihckigennlhaaGreatDoorYe
import Derived.Test.YtbihckigennlhaaGreatDoorUi
set_option linter.unusedSimpArgs false
set_option linter.unusedVariables false
set_option maxRecDepth 100000
set_option maxHeartbeats 4000000
namespace Go.Proofs.YtbihckigennlhaaGreatDoor
open Go.Sx Go.Proofs Go.Tb
abbrev nilA:AV:= .v (.slice none 0 0)
def addE(es:List (Str×Int))(f:Fac):List (Str×Int):=putW es f.name (getW es f.name+f.exp)
def sumE(l:List Fac):List (Str×Int):=l.foldl addE []
theorem sumE_snoc{l:List Fac}{i:Nat}(h:i<l.length):sumE (l.take (i+1))=addE (sumE (l.take i)) (l.getD i default):=by
 unfold sumE
 rw[List.take_succ_eq_append_getElem h,List.foldl_append,← getD_eq h];rfl
theorem getW_put(s t:Str)(v:Int):∀ es,getW (putW es s v) t=if t=s then v else getW es t
 |[]=>by
  simp only[putW,getW]
  by_cases h:s=t
  ·rw[if_pos h,if_pos h.symm]
  ·rw[if_neg h,if_neg fun e=>h e.symm]
 |p::es=>by
  have ih:=getW_put s t v es
  by_cases hp:p.1=s
  ·subst hp
   simp only[putW,if_true,getW]
   by_cases h:p.1=t
   ·rw[if_pos h,if_pos h.symm]
   ·rw[if_neg h,if_neg fun e=>h e.symm,if_neg h]
  ·simp only[putW,if_neg hp,getW]
   by_cases h:p.1=t
   ·rw[if_pos h,if_pos h,if_neg fun e=>hp (h.trans e)]
   ·rw[if_neg h,if_neg h,ih]
theorem putW_keys(s:Str)(v:Int):∀ es,(putW es s v).map Prod.fst=if s∈es.map Prod.fst then es.map Prod.fst else es.map Prod.fst++[s]
 |[]=>by simp[putW]
 |p::es=>by
  have ih:=putW_keys s v es
  by_cases hp:p.1=s
  ·subst hp;simp[putW]
  ·have hp':¬s=p.1:=fun e=>hp e.symm
   simp only[putW,if_neg hp,List.map_cons,ih,List.mem_cons,hp',false_or]
   split<;>simp
theorem expU_cons(f:Fac)(l:List Fac)(s:Str):expU (f::l) s=(if f.name=s then f.exp else 0)+expU l s:=by
 unfold expU
 by_cases h:f.name=s
 ·simp[h]
 ·simp[h]
theorem getW_fold(s:Str):∀ (l:List Fac) (es:List (Str×Int)),getW (l.foldl addE es) s=getW es s+expU l s
 |[],es=>by simp[expU]
 |f::l,es=>by
  rw[List.foldl_cons,getW_fold s l,expU_cons,addE,getW_put]
  by_cases h:f.name=s
  ·rw[if_pos h,if_pos h.symm,h];omega
  ·rw[if_neg h,if_neg fun e=>h e.symm];omega
theorem getW_sum(l:List Fac)(s:Str):getW (sumE l) s=expU l s:=by unfold sumE;rw[getW_fold];simp[getW]
theorem sum_keys:∀ (l:List Fac) (es:List (Str×Int)),(es.map Prod.fst).Nodup→((l.foldl addE es).map Prod.fst).Nodup∧(∀ s,s∈(l.foldl addE es).map Prod.fst↔s∈es.map Prod.fst∨s∈l.map Fac.name)∧(l.foldl addE es).length≤es.length+l.length
 |[],es,h=>⟨h,fun s=>by simp,Nat.le_refl _⟩
 |f::l,es,h=>by
  have hk:=putW_keys f.name (getW es f.name+f.exp) es
  have hl:(addE es f).length≤es.length+1:=by
   have h2:=congrArg List.length hk
   simp only[List.length_map]at h2
   unfold addE
   rw[h2];split<;>simp
  have hm:∀ s,s∈(addE es f).map Prod.fst↔s∈es.map Prod.fst∨s=f.name:=fun s=>by
   unfold addE;rw[hk]
   split
   ·rename_i h1
    exact⟨.inl,fun h=>h.elim id fun e=>by rw[e];exact h1⟩
   ·simp
  have hn:((addE es f).map Prod.fst).Nodup:=by
   unfold addE;rw[hk]
   split
   ·exact h
   ·rename_i h1
    exact List.nodup_append.2 ⟨h,by simp,fun a ha b hb e=>by rw[List.mem_singleton]at hb;subst hb;subst e;exact h1 ha⟩
  obtain⟨g1,g2,g3⟩:=sum_keys l (addE es f) hn
  refine⟨g1,fun s=> ?_,by rw[List.foldl_cons,List.length_cons];omega⟩
  rw[List.foldl_cons,g2,hm,List.map_cons,List.mem_cons,or_assoc]
theorem expU_bd(s:Str):∀ (l:List Fac),(∀ f∈l, -1099511627776≤f.exp∧f.exp≤1099511627776)→-1099511627776 * (l.length:Int)≤expU l s∧expU l s≤1099511627776 * (l.length:Int)
 |[],_=>by simp[expU]
 |f::l,h=>by
  have h1:=expU_bd s l fun f hf=>h f (List.mem_cons_of_mem _ hf)
  have h2:=h f List.mem_cons_self
  rw[expU_cons,List.length_cons]
  split<;>omega
def Gr2(lab:Nat)(rows:List (List AV))(x:AV)(τ:Store):Prop:=(rows=[]∧x=nilA∧τ=[])∨∃ b u c,x= .own 2 lab b u c rows∧τ=[(lab,b,.tail u c)]
theorem Gr2.z{lab:Nat}:Gr2 lab [] nilA []:= .inl ⟨rfl,rfl,rfl⟩
theorem Gr2.n{lab:Nat}{rows:List (List AV)}(h:rows=[]):Gr2 lab rows nilA []:= .inl ⟨h,rfl,rfl⟩
theorem Gr2.s{lab b u c:Nat}{rows rows':List (List AV)}(h:rows'=rows):Gr2 lab rows (.own 2 lab b u c rows') [(lab,b,.tail u c)]:= .inr ⟨b,u,c,by rw[h],rfl⟩
def facU(l:List Fac)(L:List Str):List Fac:=(L.map fun n=>(⟨n,expU l n⟩:Fac)).filter fun f=>decide (f.exp≠0)
theorem facU_snoc{l:List Fac}{N:List Str}{i:Nat}(h:i<N.length):facU l (N.take (i+1))=facU l (N.take i)++if expU l (N.getD i default)≠0 then[⟨N.getD i default,expU l (N.getD i default)⟩]else[]:=by
 unfold facU
 rw[List.take_succ_eq_append_getElem h,← getD_eq h,List.map_append,List.filter_append,List.map_singleton,List.filter_cons]
 simp
theorem facU_len(l:List Fac)(L:List Str):(facU l L).length≤L.length:=Nat.le_trans (List.length_filter_le _ _) (by rw[List.length_map];exact Nat.le_refl _)
theorem normal_ok(l:List Fac)(hw:∀ f∈l,Word f.name)(hb:∀ f∈l, -1099511627776≤f.exp∧f.exp≤1099511627776)(hl:l.length≤20000):Pure Tryz.prog 156 [.sl false 2 (l.map Fac.cells)] (.tup [.sl false 2 ((normU l).1.map Fac.cells),iv (normU l).2]):=by
 refine Pure.runk (fun _=>0) Tryz.func156 comp156 era156 (Nat.le_of_ble_eq_true rfl) fun σ=> ?_
 repeat'(first|exact .nil|refine .k0 ?_|refine .k1 ?_|refine .k2 ?_|refine .k6 ?_|refine .r1 ?_ ?_|(refine .m2 ?_ ?_;intro hlen)|(refine .l3 ?_;intro b)|fail)
 all_goals(try simp only[BL]at *)
 rename Nat=>b1
 refine WK_loop (fun m rg σ'=>∃ (i:Nat),i≤l.length∧m=l.length-i∧σ'=(11,b1,.map (wE (sumE (l.take i))) (sumE (l.take i)).length)::σ∧rg=[(2,nilA),(4,.mpt 11 b1),(12,.sl false 2 (l.map Fac.cells)),(13,iv l.length),(14,iv i)]) l.length rfl ⟨_,_,Zr,Zs,0,Nat.zero_le _,rfl,rfl,rfl⟩ ?_
 rintro m _ _ ⟨i,hi,hm,rfl,rfl⟩
 have hE8:i<l.length→-576460752303423488≤(l.getD i default).exp∧(l.getD i default).exp≤576460752303423488:=fun h=>by
  have:=hb _ (getD_mem h);omega
 have hE9:∀ s, -576460752303423488≤getW (sumE (l.take i)) s∧getW (sumE (l.take i)) s≤576460752303423488:=fun s=>by
  have h1:=expU_bd s (l.take i) fun f hf=>hb f (List.mem_of_mem_take hf)
  rw[List.length_take]at h1
  rw[getW_sum];omega
 repeat'((fail_if_success (show WK _ _ _ _ (.dreg _) _ _ _));(first|exact .nil|refine .k0 ?_|refine .k1 ?_|refine .k2 ?_|refine .k6 ?_|refine .k7 ?_|refine .k8 ?_|refine .k9 ?_|(refine .cd ?_ ?_<;>(intro hc;skip))|refine .r1 ?_ ?_|(refine .l1 ?_;intro b)|refine .t1 ?_ ?_ ?_|refine .an rfl (by intro hob;first|exact word_ok _|fail) ?_ ?_|fail))
 try any_goals((intro hob;first|(simp_all;done)|fail))
 all_goals(try simp only[BL]at *)
 ·exact absurd (hw _ (getD_mem (by omega))) hc
 ·have hil:i<l.length:=by omega
  refine WK_dregL 28 rfl rfl rfl ?_
  repeat'(first|exact .nil|refine .k0 ?_|refine .r1 ?_ ?_|fail)
  refine VY_lkw rfl rfl rfl OB.nil ?_
  repeat'(first|exact .nil|refine .k0 ?_|refine .k1 ?_|refine .k2 ?_|refine .r1 ?_ ?_|refine .an rfl (by intro hob;first|exact ofC_ok (hE8 (by first|omega|fail))|exact addC_ok (hE9 _) (hE8 (by first|omega|fail))|fail) ?_ ?_|fail)
  all_goals(try simp only[BL]at *)
  refine VX_upw (es:=sumE (l.take i)) (s:=(l.getD i default).name) (v:=getW (sumE (l.take i)) (l.getD i default).name+(l.getD i default).exp) rfl rfl rfl rfl OB.nil ?_
  repeat'(first|exact .nil|refine .k0 ?_|refine .k1 ?_|refine .k2 ?_|refine .r1 ?_ ?_|fail)
  all_goals(try simp only[BL]at *)
  refine⟨m-1,by omega,_,(11,b1,.map (wE (sumE (l.take (i+1)))) (sumE (l.take (i+1))).length)::σ,Zr,by rw[sumE_snoc hil];repeat' first|exact .refl _|refine .cons ?_,i+1,by omega,by omega,rfl,by rw[up1 (n:=l.length) (by omega) (by assumption)]⟩
 ·have hil:i=l.length:=by omega
  subst hil
  rw[List.take_length]
  have hK:=sum_keys l [] List.nodup_nil
  have hns:sortL ((sumE l).map Prod.fst)=sortL (l.map Fac.name):=srt_ext (sortL_srt _) (sortL_srt _) fun x=>by
   rw[sortL_mem,sortL_mem];exact(hK.2.1 x).trans (by simp)
  refine VX_spec rfl (sortedW_ok (es:=sumE l) rfl hK.1 (fun p hp=> ?_) (by have:=hK.2.2;simp only[List.length_nil]at this;show(l.foldl addE []).length≤_;omega)) OB.nil (fun x σ' hR=> ?_) (fun ch σ' hR=> ?_)
  ·have h1:=(hK.2.1 p.1).1 (List.mem_map.2 ⟨p,hp,rfl⟩)
   rcases h1 with h1|h1
   ·cases h1
   ·obtain⟨f,hf,e⟩:=List.mem_map.1 h1
    have:=(hw f hf).2.1
    rw[← e];unfold maxLen;omega
  rotate_left
  ·exact nomatch hR.1
  obtain⟨e1,e2⟩:=hR
  cases e1
  subst e2
  rw[hns]
  have hN0:normU l=if∃ n∈sortL (l.map Fac.name),expU l n>8∨expU l n< -8 then([],70)else if(facU l (sortL (l.map Fac.name))).length>4 then([],2)else(facU l (sortL (l.map Fac.name)),0):=rfl
  have hNl:(sortL (l.map Fac.name)).length≤20000:=by
   have:=nodup_le (srt_nodup (sortL_srt (l.map Fac.name))) fun x hx=>sortL_mem.1 hx
   rw[List.length_map]at this;omega
  generalize sortL (l.map Fac.name)=N at *
  repeat'(first|exact .nil|refine .k0 ?_|refine .k1 ?_|refine .k6 ?_|refine .r1 ?_ ?_|(refine .m2 ?_ ?_;intro hlen)|fail)
  all_goals(try simp only[BL]at *)
  clear hE8 hE9 hns hK hi hm hc
  have hE7:∀ s, -576460752303423488≤getW (sumE l) s∧getW (sumE l) s≤576460752303423488:=fun s=>by
   have h1:=expU_bd s l hb
   rw[getW_sum];omega
  have hG:=fun s=>getW_sum l s
  generalize sumE l=es at *
  refine WK_loop (fun m rg σ'=>∃ (i:Nat) (x:AV) (τ:Store),i≤N.length∧m=N.length-i∧(∀ n∈N.take i,¬(expU l n>8∨expU l n< -8))∧Gr2 61 ((facU l (N.take i)).map Fac.cells) x τ∧σ'=τ++(11,b1,.map (wE es) es.length)::σ∧rg=[(2,x),(4,.mpt 11 b1),(35,strsV N),(36,iv N.length),(37,iv i)]) N.length rfl ⟨_,_,Zr,Zs,0,_,_,Nat.zero_le _,rfl,(fun n h=>by cases h),Gr2.z,rfl,rfl⟩ ?_
  rintro m2 _ _ ⟨i,x,τ,hi,hm,hP,hR,rfl,rfl⟩
  have hfl:(facU l (N.take i)).length≤20000:=Nat.le_trans (facU_len _ _) (by rw[List.length_take];omega)
  have hsn:=fun(h:i<N.length)=>facU_snoc (l:=l) h
  have hP2:i<N.length→¬(expU l (N.getD i default)>8∨expU l (N.getD i default)< -8)→∀ n∈N.take (i+1),¬(expU l n>8∨expU l n< -8):=fun h h1 n hn=>by
   rw[List.take_succ_eq_append_getElem h,← getD_eq h,List.mem_append,List.mem_singleton]at hn
   rcases hn with hn|rfl
   ·exact hP n hn
   ·exact h1
  rcases hR with⟨hE,rfl,rfl⟩|⟨b3,u3,c3,rfl,rfl⟩
  all_goals
   repeat'(first|exact .nil|refine .k0 ?_|refine .k1 ?_|refine .k2 ?_|refine .k6 ?_|refine .k7 ?_|refine .k8 ?_|refine .k9 ?_|(refine .cd ?_ ?_<;>(intro hc;skip))|refine .r1 ?_ ?_|(refine .m2 ?_ ?_;intro hlen)|refine .t1 ?_ ?_ ?_|refine .r8 ?_ ?_|fail)
   refine VX_lkw rfl rfl rfl OB.nil ?_
   repeat'(first|exact .nil|refine .k0 ?_|refine .k1 ?_|refine .k2 ?_|refine .k7 ?_|refine .k9 ?_|(refine .cd ?_ ?_<;>(intro hc;skip))|refine .r1 ?_ ?_|refine .u1 ?_ ?_ ?_ (fun b u c=> ?_)|refine .u2 ?_ ?_ ?_ (fun b u c=> ?_)|refine .an rfl (by intro hob;first|exact outside_ok _ 8 (by decide)|exact divideC_ok (hE7 _)) ?_ ?_|(show List.all _ _=true;rfl)|fail)
   try any_goals((intro hob;first|(simp_all;done)|fail))
   all_goals(try simp only[BL]at *)
   ·rw[hN0,if_pos ⟨N.getD i default,getD_mem (by omega),by rw[hG]at hc;exact hc⟩]
    exact Zw
   ·show _≤1000000;simp only[List.length_cons,List.length_nil];omega
   ·show _ * _≤_;simp only[List.length_map,List.length_cons,List.length_nil];omega
   ·have hnb:¬(getW es (N.getD i default)>8∨getW es (N.getD i default)< -8):=by assumption
    rw[hG]at hc hnb
    refine⟨m2-1,by omega,_,_,Zr,Zs,i+1,_,_,by omega,by omega,hP2 (by omega) hnb,Gr2.s ?_,rfl,by rw[up1 (n:=N.length) (by omega) (by assumption)]⟩
    rw[hsn (by omega),if_pos hc,List.map_append,hG]
    first|(rw[hE];rfl)|rfl
   ·have hnb:¬(getW es (N.getD i default)>8∨getW es (N.getD i default)< -8):=by assumption
    rw[hG]at hc hnb
    refine⟨m2-1,by omega,_,_,Zr,Zs,i+1,_,_,by omega,by omega,hP2 (by omega) hnb,?_,rfl,by rw[up1 (n:=N.length) (by omega) (by assumption)]⟩
    rw[hsn (by omega),if_neg (by rw[hc];simp),List.append_nil]
    first|exact Gr2.n hE|exact Gr2.s rfl
   ·have hiN:N.take i=N:=List.take_of_length_le (by omega)
    rw[hiN]at hP
    try rw[hiN]at hE
    try rw[hiN]at hc
    try rw[hiN]
    rw[hN0,if_neg (by rintro⟨n,hn,hb2⟩;exact hP n hn hb2)]
    first
     |exact absurd hc (by decide)
     |(rw[if_pos (by omega)];(refine Sx.Fin.wk Zs ?_;repeat' first|exact .refl _|exact .nil|refine .cons ?_ ?_|refine .tup ?_|fail))
   ·have hiN:N.take i=N:=List.take_of_length_le (by omega)
    rw[hiN]at hP
    try rw[hiN]at hE
    try rw[hiN]at hc
    try rw[hiN]
    rw[hN0,if_neg (by rintro⟨n,hn,hb2⟩;exact hP n hn hb2)]
    first
     |(rw[List.map_eq_nil_iff.1 hE,if_neg (by decide)];refine Sx.Fin.wk Zs (.tup (.cons .nil (.cons (.refl _) .nil)));done)
     |(rw[if_neg (by omega)];(refine Sx.Fin.wk Zs ?_;repeat' first|exact .refl _|refine .cons ?_ ?_|refine .tup ?_|exact .own _))
end Go.Proofs.YtbihckigennlhaaGreatDoor
set_option linter.unusedSectionVars false
namespace Go.Proofs.YtbihckigennlhaaGreatDoor
open Go.Sx Go.Proofs
abbrev nilS:AV:= .v (.slice none 0 0)
def BoxS(e tg lp lb bp bl b:Nat)(τ0:Store)(rows:List (List AV))(τ:Store):Prop:=
 (rows=[]∧τ=(lp,bp,.cells [.lp 1000 b 0])::(lb,bl,.cells [nilS])::τ0)∨(rows≠[]∧∃ bb u c,τ=(lp,bp,.cells [.lp 1000 b 0])::(lb,bl,.cells [.own e tg bb u c rows])::(tg,bb,.tail u c)::τ0)
def FacOk(f:Fac):Prop:=Word f.name∧-1099511627776≤f.exp∧f.exp≤1099511627776
def NormOk:Prop:=∀ l:List Fac,l≠[]→(∀ f∈l,FacOk f)→l.length≤20000→Pure Tryz.prog 156 [.sl false 2 (l.map Fac.cells)] (.tup [.sl false 2 ((normU l).1.map Fac.cells),iv (normU l).2])
theorem num_nn{L L':List Tok}{k:Int}(h:numP L= .ok k L'):0≤k:=by
 unfold numP PR.map at h
 cases e:tokP 2 L with
 |ok t L1=>rw[e,PR.bind_ok]at h;cases h;exact Int.natCast_nonneg _
 |err p c=>rw[e]at h;cases h
theorem unit1_ok(hw:WrongOk)(bp bl b:Nat)(rest:List AV)(τ0:Store)(ins:Bool):
  ElemOk 153 [.lp 1 bp 0,.lp 4 bl 0] factorP ins b rest τ0 (fun acc τ=>BoxS 2 20 1 4 bp bl b τ0 (acc.map Fac.cells) τ):=by
 intro acc L τ hL hal hS
 refine LiF.spec ?_
 have hcase:∀ (x:AV) (τt:Store),τ=(1,bp,.cells [.lp 1000 b 0])::(4,bl,.cells [x])::τt→((acc=[]∧x=nilS∧τt=τ0)∨(acc≠[]∧∃ bb u c,x= .own 2 20 bb u c (acc.map Fac.cells)∧τt=(20,bb,.tail u c)::τ0))→AV.one x=true→
   Sx.Spec Tryz.prog 153 [.lp 1 bp 0,.lp 4 bl 0] ((1000,b,.cells (rdC L ins++rest))::τ) (LiF ins rest τ0 ((factorP L).map fun a=>acc++[a]) (fun acc τ=>BoxS 2 20 1 4 bp bl b τ0 (acc.map Fac.cells) τ) b):=by
  rintro x τt rfl hx h1
  have hst:Sub τ0 τt:=by
   rcases hx with⟨_,_,rfl⟩|⟨_,_,_,_,_,rfl⟩
   ·exact .refl _
   ·exact .cons (.refl _)
  refine Spec.runk (fun _=>0) Tryz.func153 comp153 era153 (Nat.le_of_ble_eq_true rfl) ?_
  unfold factorP
  repeat'(first|exact .nil|refine .k0 ?_|refine .k1 ?_|refine .k2 ?_|refine .r1 ?_ ?_|fail)
  refine VX_rdc rfl (rd_name hw L hL ins) rfl rfl rfl .nil ?_ (fun _ _ h=>FK_pan (LiF.pan hst (val:=fun _=> .any) (τ:=τt) h)) (fun _=>Zs) (fun nm L1 hr1 hL1=> ?_)
  ·exact fun p c h=>by rw[h];rfl
  have hq1:=(Pos.name L hL.e).ok _ _ hr1
  rw[hr1,PR.bind_ok]
  simp(decide:=true)only[upt_hd,upt_ne]
  repeat'((fail_if_success (show WK _ _ _ _ _ _ _ _));(first|exact .nil|refine .k0 ?_|refine .k1 ?_|refine .r1 ?_ ?_|(refine .l1 ?_;intro b)|fail))
  rename Nat=>b2
  refine WK_keep rfl ?_
  refine WK_join (fun rg σ'=>∃ (f:Fac) (L2:List Tok),Gd L2∧(if see 5 (ch 94) L1 then if see 5 (ch 45) L1.tail then(numP L1.tail.tail).map fun k=>(⟨nm, -(min k 1099511627776)⟩:Fac)else(numP L1.tail).map fun k=>⟨nm,min k 1099511627776⟩else .ok ⟨nm,1⟩ L1)= .ok f L2∧
   σ'=(2,b2,.cells f.cells)::(1000,b,.cells (rdC L2 ins++rest))::(1,bp,.cells [.lp 1000 b 0])::(4,bl,.cells [x])::τt∧rg=[(1,.lp 4 bl 0),(2,.lp 2 b2 0)]) ?_ ?_
  ·repeat'(first|exact .nil|refine .k0 ?_|refine .k1 ?_|refine .k2 ?_|refine .r1 ?_ ?_|fail)
   by_cases h94:see 5 (ch 94) L1=true
   ·have ht1:=hL1.tail (see_kind (k:=5) (by decide) L1 h94)
    refine VX_rdo rfl (rd_skip L1 hL1 ins 5 (by decide) (ch 94)) (skipP_t h94) rfl rfl rfl .nil (fun _=> ?_)
    simp(decide:=true)only[upt_hd,upt_ne]
    rw[if_pos h94]
    (repeat'((fail_if_success (show WK _ _ _ _ (.seq (.seq _ _) (.keep _ _)) _ _ _));(first|exact .nil|refine .k0 ?_|refine .k1 ?_|refine .k2 ?_|(refine .cd ?_ ?_<;>first|with_reducible exact tF|(intro hc;skip))|refine .r1 ?_ ?_|fail)))<;>(try(simp at hc;done))
    refine WK_join (fun rg σ'=>∃ (L2:List Tok) (sg:Int),Gd L2∧((see 5 (ch 45) L1.tail=true∧L2=L1.tail.tail∧sg= -1)∨(¬see 5 (ch 45) L1.tail=true∧L2=L1.tail∧sg=1))∧
     σ'=(2,b2,.cells [sv nm,iv 1])::(1000,b,.cells (rdC L2 ins++rest))::(1,bp,.cells [.lp 1000 b 0])::(4,bl,.cells [x])::τt∧rg=[(0,.lp 1 bp 0),(1,.lp 4 bl 0),(2,.lp 2 b2 0),(3,iv sg)]) ?_ ?_
    ·repeat'(first|exact .nil|refine .k0 ?_|refine .k1 ?_|refine .k2 ?_|refine .r1 ?_ ?_|fail)
     by_cases h45:see 5 (ch 45) L1.tail=true
     ·have ht2:=ht1.1.tail (see_kind (k:=5) (by decide) L1.tail h45)
      refine VX_rdo (L:=L1.tail) (ins:=ins) rfl (rd_skip L1.tail ht1.1 ins 5 (by decide) (ch 45)) (skipP_t h45) rfl rfl rfl .nil (fun _=> ?_)
      simp(decide:=true)only[upt_hd,upt_ne]
      (repeat'(first|exact .nil|refine .k0 ?_|refine .k1 ?_|refine .k2 ?_|(refine .cd ?_ ?_<;>first|with_reducible exact tF|(intro hc;skip))|refine .r1 ?_ ?_|fail))<;>(try(simp at hc;done))
      exact JoinW.intro rfl ⟨_, -1,ht2.1,.inl ⟨h45,rfl,rfl⟩,rfl,rfl⟩
     ·refine VX_rdo (L:=L1.tail) (ins:=ins) rfl (rd_skip L1.tail ht1.1 ins 5 (by decide) (ch 45)) (skipP_f h45) rfl rfl rfl .nil (fun _=> ?_)
      simp(decide:=true)only[upt_hd,upt_ne]
      (repeat'(first|refine .k0 ?_|refine .k1 ?_|refine .k2 ?_|refine .k9 ?_|(refine .cd ?_ ?_<;>first|with_reducible exact fT|(intro hc;skip))|fail))<;>(try(simp at hc;done))
      exact JoinW.intro rfl ⟨_,1,ht1.1,.inr ⟨h45,rfl,rfl⟩,rfl,rfl⟩
    ·rintro _ _ ⟨L2,sg,hL2,hsg,rfl,rfl⟩
     have hee:(if see 5 (ch 45) L1.tail=true then(numP L1.tail.tail).map fun k=>(⟨nm, -(min k 1099511627776)⟩:Fac)else(numP L1.tail).map fun k=>⟨nm,min k 1099511627776⟩)=(numP L2).map fun k=>(⟨nm,sg * min k 1099511627776⟩:Fac):=by
      rcases hsg with⟨h1,rfl,rfl⟩|⟨h1,rfl,rfl⟩
      ·rw[if_pos h1];congr 1;funext k;rw[Int.neg_mul,Int.one_mul]
      ·rw[if_neg h1];congr 1;funext k;rw[Int.one_mul]
     have hs2:sg= -1∨sg=1:=hsg.elim (fun h=> .inl h.2.2) fun h=> .inr h.2.2
     rw[hee]
     clear hee hsg
     repeat'(first|exact .nil|refine .k0 ?_|refine .k2 ?_|refine .r1 ?_ ?_|fail)
     refine VX_rdc rfl (rd_number hw L2 hL2 ins) rfl rfl rfl .nil ?_ (fun _ _ h=>FK_pan (LiF.pan hst (val:=fun _=> .any) (τ:=τt) h)) (fun _=>Zs) (fun k L3 hr3 hL3=> ?_)
     ·exact fun p c h=>by rw[h];rfl
     simp(decide:=true)only[upt_hd,upt_ne]
     have hk0:=num_nn hr3
     have hmin:IntKind.i64.wrap (sg * if true=true then if 1099511627776<k then 1099511627776 else k else if 1099511627776>k then 1099511627776 else k)=sg * min k 1099511627776:=by
      have e1:(if true=true then if 1099511627776<k then 1099511627776 else k else if 1099511627776>k then 1099511627776 else k)=min k 1099511627776:=by
       rw[if_pos rfl];split<;>omega
      rw[e1,i64w]
      rcases hs2 with rfl|rfl<;>omega
     repeat'(first|exact .nil|refine .k0 ?_|refine .k1 ?_|refine .k2 ?_|refine .r1 ?_ ?_|fail)
     exact JoinW.intro rfl ⟨⟨nm,sg * min k 1099511627776⟩,L3,hL3,by rw[hr3];rfl,rfl,rfl⟩ (hs:=by rw[hmin];exact Zs)
   ·refine VX_rdo rfl (rd_skip L1 hL1 ins 5 (by decide) (ch 94)) (skipP_f h94) rfl rfl rfl .nil (fun _=> ?_)
    simp(decide:=true)only[upt_hd,upt_ne]
    (repeat'(first|refine .k0 ?_|refine .k1 ?_|refine .k2 ?_|refine .k9 ?_|(refine .cd ?_ ?_<;>first|with_reducible exact fT|(intro hc;skip))|fail))<;>(try(simp at hc;done))
    exact JoinW.intro rfl ⟨⟨nm,1⟩,L1,hL1,by rw[if_neg h94],rfl,rfl⟩
  ·rintro _ _ ⟨f,L2,hL2,hf,rfl,rfl⟩
   rw[hf]
   rcases hx with⟨rfl,rfl,rfl⟩|⟨hne,bb,u,c,rfl,rfl⟩
   ·repeat'(first|exact .nil|refine .k0 ?_|refine .k1 ?_|refine .k2 ?_|refine .k3 ?_|refine .r1 ?_ ?_|refine .u1 ?_ ?_ ?_ (fun b u c=> ?_)|fail)
    ·exact Nat.le_of_ble_eq_true rfl
    ·simp
    ·show _ * _≤_;simp only[List.length_cons,List.length_nil];omega
    ·exact⟨_,_,.inr ⟨by simp,_,_,_,rfl⟩,hL2,rfl,by exact Zs,(List.perm_middle (l₁:=[_,_,_])).symm⟩
   ·repeat'(first|exact .nil|refine .k0 ?_|refine .k1 ?_|refine .k2 ?_|refine .k3 ?_|refine .r1 ?_ ?_|refine .u2 ?_ ?_ ?_ (fun b u c=> ?_)|(show List.all _ _=true;rfl)|fail)
    ·exact Nat.le_of_ble_eq_true rfl
    ·show _ * _≤_;simp only[List.length_map,List.length_cons,List.length_nil];omega
    ·exact⟨_,_,.inr ⟨by simp,b,u,c,by rw[List.map_append]⟩,hL2,rfl,by exact Zs,List.Perm.refl _⟩
 rcases hS with⟨h1,rfl⟩|⟨h1,bb,u,c,rfl⟩
 ·exact hcase nilS τ0 rfl (.inl ⟨List.map_eq_nil_iff.1 h1,rfl,rfl⟩) rfl
 ·exact hcase _ _ rfl (.inr ⟨fun h=>h1 (by rw[h];rfl),bb,u,c,rfl,rfl⟩) rfl
theorem name_word{L L':List Tok}{s:Str}(h:nameP L= .ok s L'):Word s:=by
 unfold nameP at h
 split at h
 ·cases h
 ·rename_i hn
  unfold PR.map at h
  cases e:tokP 1 L with
  |err p c=>rw[e]at h;cases h
  |ok t L1=>
   rw[e,PR.bind_ok]at h
   cases h
   unfold tokP at e
   split at e
   ·cases e
   ·cases e;exact(Decidable.not_not.1 hn).1
theorem factor_ok{L L':List Tok}{f:Fac}(h:factorP L= .ok f L'):FacOk f:=by
 unfold factorP at h
 cases e:nameP L with
 |err p c=>rw[e]at h;cases h
 |ok nm L1=>
  rw[e,PR.bind_ok]at h
  have hw:=name_word e
  have key:∀ (L2:List Tok) (g:Int→Fac),(∀ k,0≤k→FacOk (g k))→(numP L2).map g= .ok f L'→FacOk f:=fun L2 g hg h=>by
   unfold PR.map at h
   cases e2:numP L2 with
   |err p c=>rw[e2]at h;cases h
   |ok k L3=>rw[e2,PR.bind_ok]at h;cases h;exact hg k (num_nn e2)
  split at h
  ·split at h
   ·exact key _ _ (fun k hk=>⟨hw,by show -1099511627776≤-(min k 1099511627776);omega,by show -(min k 1099511627776)≤1099511627776;omega⟩) h
   ·exact key _ _ (fun k hk=>⟨hw,by show -1099511627776≤min k 1099511627776;omega,by show min k 1099511627776≤1099511627776;omega⟩) h
  ·cases h;exact⟨hw,by show -1099511627776≤(1:Int);decide,by show(1:Int)≤1099511627776;decide⟩
theorem many_facts:∀ (k:Nat) (L:List Tok) (acc l:List Fac) (L':List Tok),EndL L→acc≠[]→(∀ f∈acc,FacOk f)→manyP (ch 42) factorP k L acc= .ok l L'→l≠[]∧(∀ f∈l,FacOk f)∧l.length+L'.length≤acc.length+L.length
 |0,L,acc,l,L',hL,h0,ha,h=>by cases h;exact⟨h0,ha,Nat.le_refl _⟩
 |k+1,L,acc,l,L',hL,h0,ha,h=>by
  rw[manyP]at h
  by_cases hs:see 5 (ch 42) L=true
  ·rw[if_pos hs]at h
   have ht:=hL.tail (see_kind (k:=5) (by decide) L hs)
   cases e:factorP L.tail with
   |err p c=>rw[e]at h;cases h
   |ok a L1=>
    rw[e,PR.bind_ok]at h
    have hp:=(Pos.factor L.tail ht.1).ok a L1 e
    obtain⟨g1,g2,g3⟩:=many_facts k L1 (acc++[a]) l L' hp.2.1 (by simp) (fun f hf=>by
     rcases List.mem_append.1 hf with hf|hf
     ·exact ha f hf
     ·rw[List.mem_singleton]at hf;subst hf;exact factor_ok e) h
    refine⟨g1,g2,?_⟩
    have:(acc++[a]).length=acc.length+1:=by simp
    omega
  ·rw[if_neg hs]at h;cases h;exact⟨h0,ha,Nat.le_refl _⟩
theorem list_facts{L L':List Tok}{l:List Fac}(hL:EndL L)(h:listP (ch 42) factorP L= .ok l L'):l≠[]∧(∀ f∈l,FacOk f)∧l.length+L'.length≤L.length:=by
 unfold listP at h
 cases e:factorP L with
 |err p c=>rw[e]at h;cases h
 |ok a L1=>
  rw[e,PR.bind_ok]at h
  have hp:=(Pos.factor L hL).ok a L1 e
  obtain⟨g1,g2,g3⟩:=many_facts N0 L1 [a] l L' hp.2.1 (by simp) (fun f hf=>by rw[List.mem_singleton]at hf;subst hf;exact factor_ok e) h
  refine⟨g1,g2,?_⟩
  simp only[List.length_cons,List.length_nil]at g3
  omega
theorem perm3{α:Type}(a b c:α)(l:List α):(a::b::c::l).Perm (c::b::a::l):=
 (List.Perm.swap b a _).trans ((List.Perm.cons b (List.Perm.swap c a l)).trans (List.Perm.swap c b _))
theorem rd_unit(hw:WrongOk)(hN:NormOk)(L:List Tok)(hL:Gd L)(ins:Bool):RdS 111 [] ins L (unitP L) fun u=> .sl false 2 (u.map Fac.cells):=by
 refine RdS.intro fun b1 rest τ=> ?_
 refine Spec.runk (fun _=>0) Tryz.func111 comp111 era111 (Nat.le_of_ble_eq_true rfl) ?_
 unfold unitP
 have hp:=hL.pos
 have hcell:(rdC L ins++rest)=[.sl false 3 (L.map Tok.cells),.v (.bool ins)]++rest:=rfl
 rw[hcell]
 repeat'(first|exact .nil|refine .k0 ?_|refine .k1 ?_|refine .k2 ?_|refine .r1 ?_ ?_|(refine .m1 ?_ ?_;intro b)|refine .t1 ?_ ?_ ?_|fail)
 any_goals omega
 rename Nat=>bp
 simp only[show Int.toNat 0=0 from rfl,hd_getD]
 by_cases hs:see 5 (ch 91) L=true
 ·have ht:=hL.tail (see_kind (k:=5) (by decide) L hs)
  rw[if_pos hs]
  refine VX_rdo (rest:=rest) rfl (rd_skip L hL ins 5 (by decide) (ch 91)) (skipP_t hs) rfl rfl rfl .nil (fun _=> ?_)
  simp(decide:=true)only[upt_hd,upt_ne]
  (repeat'(first|exact .nil|refine .k0 ?_|refine .k1 ?_|refine .k2 ?_|refine .k7 ?_|refine .k9 ?_|(refine .cd ?_ ?_<;>(intro hc;skip))|refine .r1 ?_ ?_|(refine .l1 ?_;intro b)|fail))<;>(try(simp at hc;done))
  rename Nat=>bl
  refine VX_spec rfl ((list_ok (c:= #[.pointer (some ⟨bp,0,none⟩),.pointer (some ⟨bl,0,none⟩)]) (S:=fun acc τ'=>BoxS 2 20 1 4 bp bl b1 τ (acc.map Fac.cells) τ') (by rfl) (.cons .raw (.cons .raw .nil)) (unit1_ok hw bp bl b1 rest τ ins) Pos.factor (ch 42) L.tail _ ht.1 (.inl ⟨rfl,rfl⟩)).permA ?_) .nil (fun x σ' hR=> ?_) (fun c σ' hR=> ?_)
  ·exact perm3 _ _ _ _
  ·cases hr:listP (ch 42) factorP L.tail with
   |err p c=>rw[hr]at hR;cases hR.1
   |ok l L1=>
    rw[hr]at hR
    obtain⟨τ1,hS,hL1,hx,rfl⟩:=hR
    cases hx
    obtain⟨hl0,hlf,hln⟩:=list_facts ht.1.e hr
    have hln:l.length≤20000:=by have:=ht.1.n;omega
    rcases hS with⟨h0,_⟩|⟨_,bb,u,c,rfl⟩
    ·exact absurd (List.map_eq_nil_iff.1 h0) hl0
    rw[PR.bind_ok]
    repeat'(first|exact .nil|refine .k0 ?_|refine .k1 ?_|refine .k2 ?_|refine .r1 ?_ ?_|fail)
    refine VX_rdc rfl (rd_sign hw L1 hL1 ins (ch 93)) rfl rfl rfl .nil ?_ (fun _ _ h=>FK_pan h) (fun _=>Zs) (fun a2 L2 hr2 hL2=> ?_)
    ·exact fun p c h=>by rw[h];rfl
    rw[hr2,PR.bind_ok]
    simp(decide:=true)only[upt_hd,upt_ne]
    repeat'(first|exact .nil|refine .k0 ?_|refine .k1 ?_|refine .k2 ?_|refine .k7 ?_|refine .k9 ?_|(refine .cd ?_ ?_<;>(intro hc;skip))|refine .r1 ?_ ?_|refine .an rfl (by intro hob;(refine(hN l hl0 hlf hln).wk ?_;(repeat' first|exact .refl _|refine .cons ?_ ?_|exact .own _);done)) ?_ ?_|fail)
    all_goals(try simp only[BL]at *)
    ·refine VX_panic rfl rfl .nil ?_
     refine FK_pan ?_
     exact rd_pan (cs:=rdC L2 ins++rest) (by rw[if_pos hc];exact⟨rfl,_,_,rfl⟩)
    ·exact rd_ret (a:=(normU l).1) (by rw[if_neg (fun h=>h hc)]) hL2 (.refl _)
  ·refine FK_pan ?_
   cases hr:listP (ch 42) factorP L.tail with
   |ok l L1=>rw[hr]at hR;obtain⟨_,_,_,h,_⟩:=hR;cases h
   |err p c=>rw[hr]at hR;obtain⟨e,L',i',h⟩:=hR;cases e;exact rd_pan (cs:=rdC L' i'++rest) ⟨rfl,L',i',rfl⟩ h
 ·rw[if_neg hs]
  refine VX_rdo (rest:=rest) rfl (rd_skip L hL ins 5 (by decide) (ch 91)) (skipP_f hs) rfl rfl rfl .nil (fun _=> ?_)
  simp(decide:=true)only[upt_hd,upt_ne]
  (repeat'(first|exact .nil|refine .k0 ?_|refine .k1 ?_|refine .k2 ?_|refine .k7 ?_|refine .k9 ?_|(refine .cd ?_ ?_<;>(intro hc;skip))|refine .r1 ?_ ?_|(refine .l1 ?_;intro b)|fail))<;>(try(simp at hc;done))
  exact rd_ret (a:=[]) rfl hL .nil
theorem rd_kind(hw:WrongOk)(hN:NormOk)(L:List Tok)(hL:Gd L)(ins:Bool):RdS 58 [] ins L (kindP L) fun t=> .agg [iv t.kind,.sl false 2 (t.unit.map Fac.cells),sv t.of]:=by
 refine RdS.intro fun b1 rest τ=> ?_
 refine Spec.runk (fun _=>0) Tryz.func58 comp58 era58 (Nat.le_of_ble_eq_true rfl) ?_
 unfold kindP
 repeat'(first|exact .nil|refine .k0 ?_|refine .k1 ?_|refine .k2 ?_|refine .k6 ?_|refine .r1 ?_ ?_|(refine .l1 ?_;intro b)|fail)
 by_cases hBool:see 1 wBool L=true
 ·have ht:=hL.tail (see_kind (k:=1) (by decide) L hBool)
  rw[if_pos hBool]
  refine VX_rdo rfl (rd_skip L hL ins 1 (by decide) wBool) (skipP_t hBool) rfl rfl rfl .nil (fun _=> ?_)
  simp(decide:=true)only[upt_hd,upt_ne]
  (repeat'(first|exact .nil|refine .k0 ?_|refine .k1 ?_|refine .k2 ?_|refine .k7 ?_|(refine .cd ?_ ?_<;>first|with_reducible exact tF|(intro hc;skip))|refine .r1 ?_ ?_|fail))<;>(try(simp at hc;done))
  refine rd_ret (a:=(⟨1,[],⟨#[]⟩⟩:Ty)) rfl ht.1 ?_
  repeat' first|exact .refl _|exact .nil|refine .cons ?_ ?_|refine .agg ?_
 ·rw[if_neg hBool]
  refine VX_rdo rfl (rd_skip L hL ins 1 (by decide) wBool) (skipP_f hBool) rfl rfl rfl .nil (fun _=> ?_)
  simp(decide:=true)only[upt_hd,upt_ne]
  (repeat'(first|exact .nil|refine .k0 ?_|refine .k1 ?_|refine .k2 ?_|(refine .cd ?_ ?_<;>first|with_reducible exact fT|(intro hc;skip))|refine .r1 ?_ ?_|fail))<;>(try(simp at hc;done))
  by_cases hText:see 1 wText L=true
  ·have ht:=hL.tail (see_kind (k:=1) (by decide) L hText)
   rw[if_pos hText]
   refine VX_rdo rfl (rd_skip L hL ins 1 (by decide) wText) (skipP_t hText) rfl rfl rfl .nil (fun _=> ?_)
   simp(decide:=true)only[upt_hd,upt_ne]
   (repeat'(first|exact .nil|refine .k0 ?_|refine .k1 ?_|refine .k2 ?_|refine .k7 ?_|(refine .cd ?_ ?_<;>first|with_reducible exact tF|(intro hc;skip))|refine .r1 ?_ ?_|fail))<;>(try(simp at hc;done))
   refine rd_ret (a:=(⟨4,[],⟨#[]⟩⟩:Ty)) rfl ht.1 ?_
   repeat' first|exact .refl _|exact .nil|refine .cons ?_ ?_|refine .agg ?_
  ·rw[if_neg hText]
   refine VX_rdo rfl (rd_skip L hL ins 1 (by decide) wText) (skipP_f hText) rfl rfl rfl .nil (fun _=> ?_)
   simp(decide:=true)only[upt_hd,upt_ne]
   (repeat'(first|exact .nil|refine .k0 ?_|refine .k1 ?_|refine .k2 ?_|(refine .cd ?_ ?_<;>first|with_reducible exact fT|(intro hc;skip))|refine .r1 ?_ ?_|fail))<;>(try(simp at hc;done))
   by_cases hKey:see 1 wKey L=true
   ·have ht:=hL.tail (see_kind (k:=1) (by decide) L hKey)
    rw[if_pos hKey]
    refine VX_rdo rfl (rd_skip L hL ins 1 (by decide) wKey) (skipP_t hKey) rfl rfl rfl .nil (fun _=> ?_)
    simp(decide:=true)only[upt_hd,upt_ne]
    (repeat'(first|exact .nil|refine .k0 ?_|refine .k1 ?_|refine .k2 ?_|(refine .cd ?_ ?_<;>first|with_reducible exact tF|(intro hc;skip))|refine .r1 ?_ ?_|fail))<;>(try(simp at hc;done))
    refine VX_rdc rfl (rd_name hw L.tail ht.1 ins) rfl rfl rfl .nil ?_ (fun _ _ h=>FK_pan h) (fun _=>Zs) (fun a L1 hr1 hL1=> ?_)
    ·exact fun p c h=>by rw[h];rfl
    simp(decide:=true)only[upt_hd,upt_ne]
    repeat'(first|exact .nil|refine .k0 ?_|refine .k1 ?_|refine .k7 ?_|refine .r1 ?_ ?_|fail)
    refine rd_ret (a:=(⟨5,[],a⟩:Ty)) (by rw[hr1];rfl) hL1 ?_
    repeat' first|exact .refl _|exact .nil|refine .cons ?_ ?_|refine .agg ?_
   ·rw[if_neg hKey]
    refine VX_rdo rfl (rd_skip L hL ins 1 (by decide) wKey) (skipP_f hKey) rfl rfl rfl .nil (fun _=> ?_)
    simp(decide:=true)only[upt_hd,upt_ne]
    (repeat'(first|exact .nil|refine .k0 ?_|refine .k1 ?_|refine .k2 ?_|(refine .cd ?_ ?_<;>first|with_reducible exact fT|(intro hc;skip))|refine .r1 ?_ ?_|fail))<;>(try(simp at hc;done))
    by_cases hInt:see 1 wInt L=true
    ·have ht:=hL.tail (see_kind (k:=1) (by decide) L hInt)
     rw[if_pos hInt]
     refine VX_rdo rfl (rd_skip L hL ins 1 (by decide) wInt) (skipP_t hInt) rfl rfl rfl .nil (fun _=> ?_)
     simp(decide:=true)only[upt_hd,upt_ne]
     (repeat'(first|exact .nil|refine .k0 ?_|refine .k1 ?_|refine .k2 ?_|(refine .cd ?_ ?_<;>first|with_reducible exact tF|(intro hc;skip))|refine .r1 ?_ ?_|fail))<;>(try(simp at hc;done))
     refine VX_rdc rfl (rd_unit hw hN L.tail ht.1 ins) rfl rfl rfl .nil ?_ (fun _ _ h=>FK_pan h) (fun _=>Zs) (fun a L1 hr1 hL1=> ?_)
     ·exact fun p c h=>by rw[h];rfl
     simp(decide:=true)only[upt_hd,upt_ne]
     repeat'(first|exact .nil|refine .k0 ?_|refine .k1 ?_|refine .k7 ?_|refine .r1 ?_ ?_|fail)
     refine rd_ret (a:=(⟨2,a,⟨#[]⟩⟩:Ty)) (by rw[hr1];rfl) hL1 ?_
     repeat' first|exact .refl _|fail
    ·rw[if_neg hInt]
     refine VX_rdo rfl (rd_skip L hL ins 1 (by decide) wInt) (skipP_f hInt) rfl rfl rfl .nil (fun _=> ?_)
     simp(decide:=true)only[upt_hd,upt_ne]
     (repeat'(first|exact .nil|refine .k0 ?_|refine .k1 ?_|refine .k2 ?_|refine .k9 ?_|(refine .cd ?_ ?_<;>first|with_reducible exact fT|(intro hc;skip))|refine .r1 ?_ ?_|fail))<;>(try(simp at hc;done))
     refine VX_rdc rfl (rd_keyword hw L hL ins wDec) rfl rfl rfl .nil ?_ (fun _ _ h=>FK_pan h) (fun _=>Zs) (fun a L1 hr1 hL1=> ?_)
     ·exact fun p c h=>by rw[h];rfl
     rw[hr1,PR.bind_ok]
     simp(decide:=true)only[upt_hd,upt_ne]
     repeat'(first|exact .nil|refine .k0 ?_|refine .k1 ?_|refine .k2 ?_|refine .r1 ?_ ?_|fail)
     refine VX_rdc rfl (rd_unit hw hN L1 hL1 ins) rfl rfl rfl .nil ?_ (fun _ _ h=>FK_pan h) (fun _=>Zs) (fun u L2 hr2 hL2=> ?_)
     ·exact fun p c h=>by rw[h];rfl
     simp(decide:=true)only[upt_hd,upt_ne]
     repeat'(first|exact .nil|refine .k0 ?_|refine .k1 ?_|refine .k7 ?_|refine .r1 ?_ ?_|fail)
     refine rd_ret (a:=(⟨3,u,⟨#[]⟩⟩:Ty)) (by rw[hr2];rfl) hL2 ?_
     repeat' first|exact .refl _|fail
def fIx(c:UInt8):List UInt8→Nat→Int
 |[],_=> -1
 |b::l,i=>if c=b then i else fIx c l (i+1)
theorem fIx_mem(c:UInt8):∀ (l:List UInt8) (i:Nat),(0≤fIx c l i)↔c∈l
 |[],i=>by simp[fIx]
 |b::l,i=>by
  have ih:=fIx_mem c l (i+1)
  unfold fIx
  by_cases h:c=b
  ·rw[if_pos h];simp[h]
  ·rw[if_neg h,ih];simp[h]
theorem fIx_at{c:UInt8}{l:List UInt8}{i:Nat}(h:i<l.length):fIx c (l.drop i) i=if c=l.getD i 0 then(i:Int)else fIx c (l.drop (i+1)) (i+1):=by
 rw[List.drop_eq_getElem_cons h,fIx,List.getD_eq_getElem?_getD,List.getElem?_eq_getElem h];rfl
theorem index_ok(l:List UInt8)(c:UInt8)(nn:Bool):Pure Tryz.prog 235 [.sl nn 1 (l.map byteRow),.v (.int .u8 c.toNat)] (iv (fIx c l 0)):=by
 refine Pure.runk (fun _=>0) Tryz.func235 comp235 era235 (Nat.le_of_ble_eq_true rfl) fun σ=> ?_
 repeat'(first|exact .nil|refine .k0 ?_|refine .k1 ?_|refine .k2 ?_|refine .k6 ?_|refine .r1 ?_ ?_|(refine .m2 ?_ ?_;intro hlen)|fail)
 all_goals(try simp only[BL]at *)
 refine WK_loop (fun m rg σ'=>∃ i:Nat,i≤l.length∧m=l.length-i∧fIx c l 0=fIx c (l.drop i) i∧σ'=σ∧rg=[(0,.sl nn 1 (l.map byteRow)),(1,.v (.int .u8 c.toNat)),(7,iv l.length),(8,iv i)]) l.length rfl ⟨_,_,Zr,Zs,0,Nat.zero_le _,rfl,rfl,rfl,rfl⟩ ?_
 rintro m _ _ ⟨i,hi,hm,he,rfl,rfl⟩
 rw[he]
 repeat'(first|exact .nil|refine .k0 ?_|refine .k1 ?_|refine .k2 ?_|refine .k6 ?_|refine .k7 ?_|refine .k8 ?_|refine .k9 ?_|(refine .cd ?_ ?_<;>(intro hc;skip))|refine .r1 ?_ ?_|refine .t1 ?_ ?_ ?_|fail)
 try any_goals(exact Zo)
 all_goals(try simp only[BL]at *)
 ·have hil:i<l.length:=by omega
  rw[fIx_at hil,if_pos (show c=l.getD i 0 from UInt8.toNat_inj.1 (Int.ofNat_inj.1 hc))]
  exact Zw
 ·have hil:i<l.length:=by omega
  refine⟨m-1,by omega,_,_,Zr,Zs,i+1,by omega,by omega,?_,rfl,by rw[up1 hil hlen]⟩
  rw[fIx_at hil,if_neg (fun h=>hc (by rw[h];rfl))]
 ·have hil:i=l.length:=by omega
  subst hil
  rw[List.drop_length]
  exact Zw
theorem containsB_ok(l:List UInt8)(c:UInt8)(nn:Bool):Pure Tryz.prog 221 [.sl nn 1 (l.map byteRow),.v (.int .u8 c.toNat)] (.v (.bool (decide (c∈l)))):=by
 refine Pure.runk (fun _=>0) Tryz.func221 comp221 era221 (Nat.le_of_ble_eq_true rfl) fun σ=> ?_
 repeat'(first|exact .nil|refine .k0 ?_|refine .k1 ?_|refine .k2 ?_|refine .k7 ?_|refine .r1 ?_ ?_|refine .an rfl (by intro hob;exact index_ok _ _ _) ?_ ?_|fail)
 all_goals(try simp only[BL]at *)
 rw[show decide (0≤fIx c l 0)=decide (c∈l) by simp only[fIx_mem]]
 exact Zw
theorem rd_key(hw:WrongOk)(L:List Tok)(hL:Gd L)(ins:Bool):RdS 194 [] ins L (keyAtP L) exV:=by
 refine RdS.intro fun b1 rest τ=> ?_
 refine Spec.runk (fun _=>0) Tryz.func194 comp194 era194 (Nat.le_of_ble_eq_true rfl) ?_
 unfold keyAtP
 repeat'(first|exact .nil|refine .k0 ?_|refine .k1 ?_|refine .k2 ?_|refine .r1 ?_ ?_|(refine .l1 ?_;intro b)|fail)
 refine VX_rdc rfl (rd_name hw L hL ins) rfl rfl rfl .nil ?_ (fun _ _ h=>FK_pan h) (fun _=>Zs) (fun nm L1 hr1 hL1=> ?_)
 ·exact fun p c h=>by rw[h];rfl
 rw[hr1,PR.bind_ok]
 simp(decide:=true)only[upt_hd,upt_ne]
 repeat'(first|exact .nil|refine .k0 ?_|refine .k1 ?_|refine .k2 ?_|refine .r1 ?_ ?_|(refine .l1 ?_;intro b)|fail)
 refine VX_rdc rfl (rd_token hw L1 hL1 ins 4 (by decide)) rfl rfl rfl .nil ?_ (fun _ _ h=>FK_pan h) (fun _=>Zs) (fun t L2 hr2 hL2=> ?_)
 ·exact fun p c h=>by rw[h];rfl
 rw[hr2,PR.bind_ok]
 simp(decide:=true)only[upt_hd,upt_ne]
 have hsz:t.text.size≤16384:=by
  unfold tokP at hr2;split at hr2
  ·cases hr2
  ·cases hr2;exact(hL1.t _ (hd_mem hL1.e.ne)).sz
 repeat'(first|exact .nil|refine .k0 ?_|refine .k1 ?_|refine .k2 ?_|refine .k4 ?_|refine .k7 ?_|refine .k9 ?_|(refine .cd ?_ ?_<;>(intro hc;skip))|refine .r1 ?_ ?_|(refine .l1 ?_;intro b)|refine .an rfl (by intro hob;exact containsB_ok _ 32 true) ?_ ?_|refine .t7 ?_ ?_ ?_|fail)
 try any_goals(exact Zo)
 all_goals(try simp only[BL]at *)
 ·refine VX_panic rfl rfl .nil ?_
  refine FK_pan ?_
  exact rd_pan (cs:=rdC L2 ins++rest) (by rw[if_pos (by rcases hc with(h|h)|h<;>first|exact .inr (.inr h)|exact .inl (by omega)|exact .inr (.inl (by omega)))];exact⟨rfl,_,_,rfl⟩)
 ·refine rd_ret (a:=litE ⟨5,0,t.text⟩ [] nm) (by rw[if_neg (by rintro(h|h|h)<;>first|exact hc.2 h|exact hc.1.1 (by omega)|fail)]) hL2 ?_
  repeat' first|exact .refl _|exact .nil|refine .cons ?_ ?_|refine .agg ?_
end Go.Proofs.YtbihckigennlhaaGreatDoor
