/- The reader's aggregate. -/
import Derived.Test.YtcccbdelfhgmlaaGreatDoorTz
import Derived.Test.YtcccbdelfhgmlaaGreatDoorYf
set_option linter.unusedSimpArgs false
set_option linter.unusedVariables false
set_option maxRecDepth 100000
set_option maxHeartbeats 4000000
namespace Go.Proofs.YtcccbdelfhgmlaaGreatDoor
open Go.Sx Go.Proofs
theorem Le(n:Int):Pure Tryz.prog 189 [iv n] (iC (ij n)):=by
 refine afQ.p fun σ=> ?_
 repeat'(first|exact .nil|refine .k0 ?_|refine .k1 ?_|refine .k2 ?_|refine .k7 ?_|refine .r1 ?_ ?_|(refine .l1 ?_;intro b)|fail)
 all_goals(try simp only[BL]at *)
 all_goals(refine Sx.Fin.wk Zs ?_;repeat' first|exact .refl _|exact .nil|refine .cons ?_ ?_|refine .agg ?_)
theorem ahQ{α:Type}{ins:Bool}{rest:List AV}{r:PR α}{val:α→AV}{a:α}{l l':List AV}{L':List Tok}{b t bb e:Nat}{rows:List (List AV)}{τ σ' az:Store}(h:r= .ok a L')(hL:Gd L')(hf:qy t bb rows.flatten σ' az)(hr:∀ r∈rows,r.length=e)(hn:rows.length≤maxLen)(hl:qx bb e rows l l')(hx:Wk (.agg l') (val a))(hs:Sub ((1000,b,.cells (bD L' ins++rest))::τ) az):
  Mo ins rest r val b τ (.ret (.agg l)) σ':= .inr ⟨l,l',t,bb,e,rows,az,rfl,hf,hr,hn,hl,dE h hL hx hs⟩
theorem aaI{x y:Ex}:Wk (.sl false 12 [x.row,y.row]) (.sl false 12 ([x,y].map Ex.cells)):=by
 rw[Ex.j1];exact .refl _
theorem ahA(hw:jE){n:Nat}(ih:su n)(op:ae)(L:List Tok)(hL:Gd L)(hn:8 * L.length+3≤n+1):bU 190 [sv op] false L (iw (n+1) op L) iC:=by
 refine bU.afz fun b rest τ=> ?_
 refine Spec.dF (fun i=>bif Nat.beq i 9 then 2 else 0) Tryz.func190 ab5 ado (Z7 rfl) ?_
 rw[iw]
 repeat'(first|exact .nil|refine .k0 ?_|refine .k1 ?_|refine .k2 ?_|refine .r1 ?_ ?_|(refine .l1 ?_;intro b)|refine .an rfl (by intro br;exact Le 1) ?_ ?_|fail)
 all_goals(try simp only[BL]at *)
 refine Xh ((ij 1).row++(ij 1).row) 2 rfl rfl rfl .nil rfl (by decide) rfl fun b9=> ?_
 repeat'(first|exact .nil|refine .k0 ?_|refine .k1 ?_|refine .k2 ?_|refine .r1 ?_ ?_|(refine .l1 ?_;intro b)|fail)
 all_goals(try simp only[BL]at *)
 rename_i b1 b4
 rename Nat=>b5
 refine bY rfl (tY hw L hL false (ch 40)) rfl rfl rfl .nil ?_ (fun _ _ h=>bn (.inl h)) (fun _=>Zs) (fun a1 L1 bg bE=> ?_)
 ·exact fun p c h=>by rw[h];rfl
 rw[bg,PR.aH]
 have jP:=(Pos.ct (k:=5) (s:=ch 40) (by decide) L hL.e).ok _ _ bg
 simp(decide:=true)only[aM,aZ]
 repeat'(first|exact .nil|refine .k0 ?_|refine .k1 ?_|refine .k2 ?_|refine .r1 ?_ ?_|fail)
 all_goals(try simp only[BL]at *)
 refine bY rfl (E7 hw L1 bE false) rfl rfl rfl .nil ?_ (fun _ _ h=>bn (.inl h)) (fun _=>Zs) (fun tb L2 aY cN=> ?_)
 ·exact fun p c h=>by rw[h];rfl
 rw[aY,PR.aH]
 have eG:=(Pos.name L1 bE.e).ok _ _ aY
 simp(decide:=true)only[aM,aZ]
 repeat'(first|exact .nil|refine .k0 ?_|refine .k1 ?_|refine .k2 ?_|refine .r1 ?_ ?_|fail)
 all_goals(try simp only[BL]at *)
 refine bY rfl (tY hw L2 cN false (ch 44)) rfl rfl rfl .nil ?_ (fun _ _ h=>bn (.inl h)) (fun _=>Zs) (fun a3 L3 fz pA=> ?_)
 ·exact fun p c h=>by rw[h];rfl
 rw[fz,PR.aH]
 have yh:=(Pos.ct (k:=5) (s:=ch 44) (by decide) L2 cN.e).ok _ _ fz
 simp(decide:=true)only[aM,aZ]
 repeat'(first|exact .nil|refine .k0 ?_|refine .k1 ?_|refine .k2 ?_|refine .r8 ?_ ?_|fail)
 all_goals(try simp only[BL]at *)
 refine o7 (cs':=bD L3 true++rest) rfl rfl rfl rfl rfl ⟨rfl,by simp[bD]⟩ .nil ?_
 simp(decide:=true)only[aM,aZ]
 repeat'((fail_if_success (show WK _ _ _ _ _ _ _ _));(first|refine .k0 ?_|refine .k1 ?_|fail))
 refine kH rfl ?_
 refine mM (fun rg σ'=>∃ (ea:Ex) (L5:List Tok),Gd L5∧L5.length≤L3.length∧(if op≠zM then(bW n true L3).bind fun x L4=>(dR (ch 44) L4).map fun _=>x else .ok (ij 1) L3)= .ok ea L5∧
  σ'=(5,b5,.cells [iv 5,sv op,sv ⟨#[]⟩,sv tb,iv 0,iv 0,sv ⟨#[]⟩,.v (.slice none 0 0),iv 0,iv 0,iv 0,.ms 9 b9 0 2 2])::(9,b9,.cells (ea.row++(ij 1).row))::(4,b4,.cells [iv 0,sv ⟨#[]⟩,sv ⟨#[]⟩,sv ⟨#[]⟩,iv 0,iv 0,sv ⟨#[]⟩,.v (.slice none 0 0),iv 0,iv 0,iv 0,.v (.slice none 0 0)])::(1000,b1,.cells (bD L5 true++rest))::τ∧
  rg=[(0,.lp 1000 b1 0),(1,sv op),(4,.lp 4 b4 0),(5,.lp 5 b5 0)]) ?_ ?_
 ·repeat'((fail_if_success (show WK _ _ _ _ (.dC _ _) _ _ _));(first|exact .nil|refine .k0 ?_|refine .k1 ?_|refine .k2 ?_|refine .k9 ?_|(refine .cd ?_ ?_<;>(intro hc;skip))|refine .r1 ?_ ?_|fail))
  all_goals(try simp only[BL]at *)
  ·refine Am [1000] 26 rfl rfl rfl rfl ?_
   repeat'(first|exact .nil|refine .k0 ?_|refine .r1 ?_ ?_|fail)
   refine Al rfl rfl (ih.expr true L3 pA (by omega)) rfl rfl rfl .nil ?_ (fun _ _ h=>bn (.inl h)) (fun _=>Zs) (fun ea L4 pO A1=> ?_)
   ·exact fun p c h=>by rw[Z8 hc,h];rfl
   have yi:=((mC n).expr true L3 pA.e).ok _ _ pO
   simp(decide:=true)only[aM,aZ]
   repeat'(first|exact .nil|refine .k0 ?_|refine .k1 ?_|refine .k2 ?_|refine .r1 ?_ ?_|refine .r8 ?_ ?_|fail)
   ·exact⟨by decide,by decide⟩
   refine bY rfl (tY hw L4 A1 true (ch 44)) rfl rfl rfl .nil ?_ (fun _ _ h=>bn (.inl h)) (fun _=>Zs) (fun a5 L5 pP ve=> ?_)
   ·exact fun p c h=>by rw[Z8 hc,pO,PR.aH,PR.map,h];rfl
   have BC:=(Pos.ct (k:=5) (s:=ch 44) (by decide) L4 A1.e).ok _ _ pP
   simp(decide:=true)only[aM,aZ]
   repeat'(first|refine .k1 ?_|refine .k2 ?_|fail)
   exact ek.intro rfl ⟨ea,L5,ve,by omega,by rw[Z8 hc,pO,PR.aH,PR.map,pP];rfl,rfl,rfl⟩
  ·exact ek.intro rfl ⟨ij 1,L3,pA,ZR _,by rw[Z9 (fun h=>h hc)],rfl,rfl⟩
 ·rintro _ _ ⟨ea,L5,ve,Ja,pP,rfl,rfl⟩
  rw[pP,PR.aH]
  refine mM (fun rg σ'=>∃ (p:Int) (L7:List Tok),Gd L7∧L7.length≤L5.length∧(if op=ur∨op=uq then(eZ L5).bind fun k L6=>(dR (ch 44) L6).map fun _=>k else .ok 0 L5)= .ok p L7∧
   σ'=(5,b5,.cells [iv 5,sv op,sv ⟨#[]⟩,sv tb,iv 0,iv 0,sv ⟨#[]⟩,.v (.slice none 0 0),iv p,iv 0,iv 0,.ms 9 b9 0 2 2])::(9,b9,.cells (ea.row++(ij 1).row))::(4,b4,.cells [iv 0,sv ⟨#[]⟩,sv ⟨#[]⟩,sv ⟨#[]⟩,iv 0,iv 0,sv ⟨#[]⟩,.v (.slice none 0 0),iv 0,iv 0,iv 0,.v (.slice none 0 0)])::(1000,b1,.cells (bD L7 true++rest))::τ∧
   rg=[(0,.lp 1000 b1 0),(4,.lp 4 b4 0),(5,.lp 5 b5 0)]) ?_ ?_
  ·repeat'(first|exact .nil|refine .k0 ?_|refine .k1 ?_|refine .k2 ?_|refine .k4 ?_|refine .k9 ?_|(refine .cd ?_ ?_<;>(intro hc;skip))|refine .r1 ?_ ?_|fail)
   try any_goals(exact Zo)
   all_goals(try simp only[BL]at *)
   ·refine bY rfl (yV hw L5 ve true) rfl rfl rfl .nil ?_ (fun _ _ h=>bn (.inl h)) (fun _=>Zs) (fun p L6 yj DQ=> ?_)
    ·exact fun p c h=>by rw[Z8 hc,h];rfl
    have hq6:=(Pos.num L5 ve.e).ok _ _ yj
    simp(decide:=true)only[aM,aZ]
    repeat'(first|exact .nil|refine .k0 ?_|refine .k1 ?_|refine .k2 ?_|refine .r1 ?_ ?_|fail)
    refine bY rfl (tY hw L6 DQ true (ch 44)) rfl rfl rfl .nil ?_ (fun _ _ h=>bn (.inl h)) (fun _=>Zs) (fun a7 L7 vy DR=> ?_)
    ·exact fun p c h=>by rw[Z8 hc,yj,PR.aH,PR.map,h];rfl
    have hq7:=(Pos.ct (k:=5) (s:=ch 44) (by decide) L6 DQ.e).ok _ _ vy
    simp(decide:=true)only[aM,aZ]
    repeat'(first|refine .k1 ?_|refine .k2 ?_|fail)
    exact ek.intro rfl ⟨p,L7,DR,by omega,by rw[Z8 hc,yj,PR.aH,PR.map,vy];rfl,rfl,rfl⟩
   ·exact ek.intro rfl ⟨0,L5,ve,ZR _,by rw[Z9 (fun h=>h.elim hc.1 hc.2)],rfl,rfl⟩
  ·rintro _ _ ⟨p,L7,DR,D6,vy,rfl,rfl⟩
   rw[vy,PR.aH]
   repeat'(first|exact .nil|refine .k1 ?_|refine .k2 ?_|refine .r1 ?_ ?_|fail)
   refine bY rfl (ahW hw L7 DR true) rfl rfl rfl .nil ?_ (fun _ _ h=>bn (.inl h)) (fun _=>Zs) (fun w L8 Q9 Ip=> ?_)
   ·exact fun p c h=>by rw[h];rfl
   have hq8:=(Pos.CQ L7 DR.e).ok _ _ Q9
   rw[Q9,PR.aH]
   simp(decide:=true)only[aM,aZ]
   repeat'((fail_if_success (show WK _ _ _ _ _ _ _ _));(first|exact .nil|refine .k0 ?_|refine .k1 ?_|refine .r1 ?_ ?_|fail))
   refine kH rfl ?_
   refine mM (fun rg σ'=>∃ (ec:Ex) (L9:List Tok),Gd L9∧(if au 1 gm L8 then bW n true L8.tail else .ok (ij 1) L8)= .ok ec L9∧
    σ'=(5,b5,.cells [iv 5,sv op,sv ⟨#[]⟩,sv tb,iv 0,iv 0,sv ⟨#[]⟩,.v (.slice none 0 0),iv p,iv w.kind,iv w.size,.ms 9 b9 0 2 2])::(9,b9,.cells (ea.row++ec.row))::(4,b4,.cells [iv 0,sv ⟨#[]⟩,sv ⟨#[]⟩,sv ⟨#[]⟩,iv 0,iv 0,sv ⟨#[]⟩,.v (.slice none 0 0),iv 0,iv 0,iv 0,.v (.slice none 0 0)])::(1000,b1,.cells (bD L9 true++rest))::τ∧
    rg=[(0,.lp 1000 b1 0),(4,.lp 4 b4 0),(5,.lp 5 b5 0)]) ?_ ?_
   ·repeat'(first|exact .nil|refine .k1 ?_|refine .k2 ?_|refine .r1 ?_ ?_|fail)
    refine bY rfl (gK L8 Ip true 1 (by decide) gm) rfl rfl rfl .nil (fun _ _ h=>qm h) (fun _ _ h=>bn (.inl h)) (fun _=>Zs) (fun a L9 tq DS=> ?_)
    simp(decide:=true)only[aM,aZ]
    by_cases hs:au 1 gm L8=true
    ·rw[kr hs]at tq;cases tq
     have ht:=Ip.tail (cL (k:=1) (by decide) L8 hs)
     (repeat'((fail_if_success (show WK _ _ _ _ (.dC _ _) _ _ _));(first|refine .k0 ?_|refine .k1 ?_|(refine .cd ?_ ?_<;>first|with_reducible exact tF|(intro hc;skip))|fail)))<;>(try(simp at hc;done))
     refine Am [1000] 49 rfl rfl rfl rfl ?_
     repeat'(first|exact .nil|refine .k0 ?_|refine .r1 ?_ ?_|fail)
     refine Al rfl rfl (ih.expr true L8.tail ht.1 (by omega)) rfl rfl rfl .nil ?_ (fun _ _ h=>bn (.inl h)) (fun _=>Zs) (fun ec L9 tq DS=> ?_)
     ·exact fun p c h=>by rw[Z8 hs,h];rfl
     simp(decide:=true)only[aM,aZ]
     repeat'(first|exact .nil|refine .k0 ?_|refine .k1 ?_|refine .k2 ?_|refine .r1 ?_ ?_|refine .r8 ?_ ?_|fail)
     ·exact⟨by decide,by decide⟩
     exact ek.intro rfl ⟨ec,L9,DS,by rw[Z8 hs,tq],rfl,rfl⟩
    ·rw[kq hs]at tq;cases tq
     (repeat'(first|refine .k0 ?_|refine .k1 ?_|refine .k2 ?_|refine .k9 ?_|(refine .cd ?_ ?_<;>first|with_reducible exact fT|(intro hc;skip))|fail))<;>(try(simp at hc;done))
     exact ek.intro rfl ⟨ij 1,L8,Ip,by rw[Z9 hs],rfl,rfl⟩
   ·rintro _ _ ⟨ec,L9,DS,tq,rfl,rfl⟩
    rw[tq,PR.aH]
    repeat'(first|exact .nil|refine .k1 ?_|refine .k2 ?_|refine .r8 ?_ ?_|fail)
    refine o7 (cs':=bD L9 false++rest) rfl rfl rfl rfl rfl ⟨rfl,by simp[bD]⟩ .nil ?_
    simp(decide:=true)only[aM,aZ]
    repeat'(first|exact .nil|refine .k0 ?_|refine .k1 ?_|refine .k2 ?_|refine .r1 ?_ ?_|fail)
    refine bY rfl (tY hw L9 DS false (ch 41)) rfl rfl rfl .nil ?_ (fun _ _ h=>bn (.inl h)) (fun _=>Zs) (fun MP L10 ae9 aev=> ?_)
    ·exact fun p c h=>by rw[PR.map,h];rfl
    simp(decide:=true)only[aM,aZ]
    repeat'(first|exact .nil|refine .k0 ?_|refine .k1 ?_|refine .k2 ?_|refine .k7 ?_|refine .r1 ?_ ?_|fail)
    refine ahQ (e:=12) (rows:=[ea.row,ec.row]) (a:= .mk 5 op ⟨#[]⟩ tb v0 [] p w [ea,ec]) (by rw[PR.map,ae9];rfl) aev (.there .here) (fun r hr=> ?_) (Z7 rfl) (.same <| .same <| .same <| .same <| .same <| .same <| .same <| .same <| .same <| .same <| .same <| .m .nil) ?_ Zs
    ·simp only[ZV,YE,or_false]at hr
     rcases hr with rfl|rfl<;>rfl
    ·repeat' first|exact aaI|exact .refl _|exact .nil|refine .cons ?_ ?_|refine .agg ?_
abbrev z12:List AV:=[iv 0,sv ⟨#[]⟩,sv ⟨#[]⟩,sv ⟨#[]⟩,iv 0,iv 0,sv ⟨#[]⟩,.v (.slice none 0 0),iv 0,iv 0,iv 0,.v (.slice none 0 0)]
theorem ahN(hw:jE){n:Nat}(ih:su n)(i:Bool)(L:List Tok)(hL:Gd L)(hn:8 * L.length+3≤n+1):bU 153 [] i L (eR (n+1) i L) iC:=
 ahM hw n (fun L hL hn i=>ih.expr i L hL hn) L hL (by omega) i
theorem ahX(hw:jE){n:Nat}(ih:su n)(i:Bool)(L:List Tok)(hL:Gd L)(hk:(hd L).kind≠6)(hn:8 * L.length+3≤n+1):bU 151 [] i L (gn (n+1) i L) iC:=by
 refine bU.intro fun b1 rest τ=> ?_
 refine Spec.dF (fun _=>0) Tryz.func151 abY adh (Z7 rfl) ?_
 have hp:=hL.pos
 have ht:=hL.tail hk
 rw[gn]
 unfold bD
 first|refine .k1 ?_|fail
 first|refine .k2 ?_|fail
 repeat'((fail_if_success (show WK _ _ _ _ _ _ _ _));(first|refine .k0 ?_|refine .k1 ?_|(refine .l1 ?_;intro b)|fail))
 rename Nat=>b2
 refine kH rfl ?_
 refine mM (fun rg σ'=>¬((hd L).text=wD∨(hd L).text=CP)∧(hd L).text≠jy∧¬((hd L).text∈lI∧i=false)∧σ'=(2,b2,.cells z12)::(1000,b1,.cells (bD L i++rest))::τ∧rg=[(0,.lp 1000 b1 0),(2,.lp 2 b2 0)]) ?_ ?_
 ·repeat'((fail_if_success (show WK _ _ _ _ (.seq (.seq (.cE T7) _) (.keep _ _)) _ _ _));(first|exact .nil|refine .k0 ?_|refine .k1 ?_|refine .k2 ?_|refine .k6 ?_|refine .k9 ?_|(refine .cd ?_ ?_<;>(intro hc;first|exact kf hc (by assumption)|skip))|refine .r1 ?_ ?_|refine .t1 ?_ ?_ ?_|refine .t3 ?_ ?_ ?_|refine .r8 ?_ ?_|fail))
  any_goals omega
  all_goals(try simp only[BL]at *)
  all_goals simp only[mW]at *
  ·refine o7 (cs':=[.sl false 3 ((L.drop 1).map Tok.cells),.v (.bool i)]++rest) rfl rfl rfl rfl rfl ⟨rfl,by simp⟩ .nil ?_
   simp(decide:=true)only[aM,aZ,XL]
   repeat'(first|exact .nil|refine .k0 ?_|refine .k1 ?_|refine .k2 ?_|refine .k7 ?_|refine .r1 ?_ ?_|refine .an rfl (by intro br;exact Le _) ?_ ?_|fail)
   exact dE (a:=ij 1) (by rw[Z8 (.inl hc),Z8 hc]) ht.1 (.oK (by rw[hc];rfl))
  ·rename_i fx
   refine o7 (cs':=[.sl false 3 ((L.drop 1).map Tok.cells),.v (.bool i)]++rest) rfl rfl rfl rfl rfl ⟨rfl,by simp⟩ .nil ?_
   simp(decide:=true)only[aM,aZ,XL]
   repeat'(first|exact .nil|refine .k0 ?_|refine .k1 ?_|refine .k2 ?_|refine .k7 ?_|refine .r1 ?_ ?_|refine .an rfl (by intro br;exact Le _) ?_ ?_|fail)
   exact dE (a:=ij 0) (by rw[Z8 (.inr hc),Z9 fx]) ht.1 (.oK (by rw[hc];rfl))
  ·rename_i fx fy
   rw[Z9 (fun h=>h.elim fx fy),Z8 hc]
   refine o7 (cs':=[.sl false 3 ((L.drop 1).map Tok.cells),.v (.bool i)]++rest) rfl rfl rfl rfl rfl ⟨rfl,by simp⟩ .nil ?_
   simp(decide:=true)only[aM,aZ,XL]
   repeat'(first|exact .nil|refine .k0 ?_|refine .k1 ?_|refine .k2 ?_|refine .r1 ?_ ?_|fail)
   refine bY (L:=L.tail) (ins:=i) rfl (ih.group i L.tail ht.1 (by omega)) rfl rfl rfl .nil ?_ (fun _ _ h=>bn h) (fun _=>Zs) (fun x L1 bg bE=> ?_)
   ·exact fun p c h=>by rw[h];rfl
   simp(decide:=true)only[aM,aZ]
   repeat'(first|exact .nil|refine .k0 ?_|refine .k1 ?_|refine .k7 ?_|refine .r1 ?_ ?_|fail)
   ·simp
   refine dE (a:=lu jy x) (by rw[bg];rfl) bE ?_
   rw[hc]
   repeat' first|exact An|exact .refl _|exact .nil|refine .cons ?_ ?_|refine .agg ?_
  ·rename_i fx fy
   have ob:=hc
   refine mM (fun rg σ'=>∃ q:Bool,(q=true↔(hd L).text∈lI)∧σ'=(2,b2,.cells z12)::(1000,b1,.cells (bD L i++rest))::τ∧rg=[(0,.lp 1000 b1 0),(2,.lp 2 b2 0),(3,sv (hd L).text),(43,.v (.bool q))]) ?_ ?_
   ·repeat'(first|exact .nil|refine .k0 ?_|refine .k1 ?_|refine .k2 ?_|refine .k9 ?_|(refine .cd ?_ ?_<;>(intro hc;skip))|refine .r1 ?_ ?_|fail)
    all_goals(try simp only[BL]at *)
    all_goals(refine ek.intro rfl ⟨_,?_,rfl,rfl⟩;simp_all [lI])
   ·rintro _ _ ⟨q,hq,rfl,rfl⟩
    unfold bD
    repeat'(first|exact .nil|refine .k0 ?_|refine .k1 ?_|refine .k2 ?_|refine .k9 ?_|(refine .cd ?_ ?_<;>(intro hc;skip))|refine .r1 ?_ ?_|refine .t3 ?_ ?_ ?_|refine .r8 ?_ ?_|fail)
    any_goals omega
    all_goals(try simp only[BL]at *)
    ·rename_i jP
     subst hc
     rw[Z9 (fun h=>h.elim fx fy),Z9 ob,Z8 ⟨hq.1 jP,rfl⟩]
     refine o7 (cs':=[.sl false 3 ((L.drop 1).map Tok.cells),.v (.bool false)]++rest) rfl rfl rfl rfl rfl ⟨rfl,by simp⟩ .nil ?_
     simp(decide:=true)only[aM,aZ,XL]
     repeat'(first|exact .nil|refine .k0 ?_|refine .k1 ?_|refine .k2 ?_|refine .r1 ?_ ?_|fail)
     refine bY (L:=L.tail) (ins:=false) rfl (ih.agg (hd L).text L.tail ht.1 (by omega)) rfl rfl rfl .nil ?_ (fun _ _ h=>bn h) (fun _=>Zs) (fun x L1 bg bE=> ?_)
     ·exact fun p c h=>h
     simp(decide:=true)only[aM,aZ]
     repeat'(first|exact .nil|refine .k0 ?_|refine .k1 ?_|refine .k7 ?_|refine .r1 ?_ ?_|fail)
     exact dE (a:=x) bg bE (.refl _)
    ·exact ek.intro rfl ⟨fun h=>h.elim fx fy,ob,by simp[hc],rfl,rfl⟩
    ·exact ek.intro rfl ⟨fun h=>h.elim fx fy,ob,(fun h=>by rw[hq.2 h.1]at hc;cases hc),rfl,rfl⟩
 ·rintro _ _ ⟨h1,h2,h3,rfl,rfl⟩
  rw[Z9 h1,Z9 h2,Z9 h3]
  repeat'(first|exact .nil|refine .k1 ?_|refine .k2 ?_|refine .r1 ?_ ?_|fail)
  refine bY rfl (E7 hw L hL i) rfl rfl rfl .nil ?_ (fun _ _ h=>bn h) (fun _=>Zs) (fun s L1 bg bE=> ?_)
  ·exact fun p c h=>by rw[h];rfl
  have jP:=(Pos.name L hL.e).ok _ _ bg
  rw[bg,PR.aH]
  simp(decide:=true)only[aM,aZ]
  unfold bD
  repeat'(first|exact .nil|refine .k0 ?_|refine .k1 ?_|refine .k2 ?_|refine .k6 ?_|refine .k7 ?_|(refine .cd ?_ ?_<;>(intro hc;skip))|refine .r1 ?_ ?_|fail)
  all_goals(try simp only[BL]at *)
  ·refine dE (a:=mw 2 s []) (by rw[Z8 hc]) bE ?_
   repeat' first|exact .refl _|exact .nil|refine .cons ?_ ?_|refine .agg ?_
  ·subst hc
   rw[Z9 (by decide)]
   refine bY (L:=L1) (ins:=false) rfl (gK L1 bE false 1 (by decide) ik) rfl rfl rfl .nil (fun _ _ h=>qm h) (fun _ _ h=>bn h) (fun _=>Zs) (fun a L2 aY cN=> ?_)
   simp(decide:=true)only[aM,aZ]
   by_cases hs:au 1 ik L1=true
   ·rw[kr hs]at aY;cases aY
    have oA:=bE.tail (cL (k:=1) (by decide) L1 hs)
    rw[Z8 hs]
    (repeat'(first|exact .nil|refine .k0 ?_|refine .k1 ?_|refine .k2 ?_|(refine .cd ?_ ?_<;>first|with_reducible exact tF|(intro hc;skip))|refine .r1 ?_ ?_|fail))<;>(try(simp at hc;done))
    refine bY rfl (ih.group false L1.tail oA.1 (by omega)) rfl rfl rfl .nil ?_ (fun _ _ h=>bn h) (fun _=>Zs) (fun x L2 aY cN=> ?_)
    ·exact fun p c h=>by rw[h];rfl
    simp(decide:=true)only[aM,aZ]
    repeat'(first|exact .nil|refine .k0 ?_|refine .k1 ?_|refine .k7 ?_|refine .r1 ?_ ?_|fail)
    ·simp
    refine dE (a:=mw 4 s [x]) (by rw[aY];rfl) cN ?_
    repeat' first|exact An|exact .refl _|exact .nil|refine .cons ?_ ?_|refine .agg ?_
   ·rw[kq hs]at aY;cases aY
    rw[Z9 hs]
    (repeat'(first|exact .nil|refine .k0 ?_|refine .k1 ?_|refine .k2 ?_|refine .k7 ?_|refine .k9 ?_|(refine .cd ?_ ?_<;>first|with_reducible exact fT|(intro hc;skip))|refine .r1 ?_ ?_|fail))<;>(try(simp at hc;done))
    refine dE (a:=mw 3 s []) rfl bE ?_
    repeat' first|exact .refl _|exact .nil|refine .cons ?_ ?_|refine .agg ?_
theorem zO:jE:=fun L hL ins=>by
 refine bU.intro fun b rest τ=> ?_
 refine Spec.dF (fun _=>0) Tryz.func44 aca adr (Z7 rfl) ?_
 have hp:=hL.pos
 unfold bD
 repeat'(first|exact .nil|refine .k0 ?_|refine .k1 ?_|refine .k2 ?_|refine .r1 ?_ ?_|refine .t1 ?_ ?_ ?_|fail)
 try any_goals(exact Zo)
 all_goals(try simp only[BL]at *)
 refine Gt rfl rfl .nil ?_
 refine bn ?_
 rw[mW]
 exact ql (cs:=bD L ins++rest) ⟨rfl,_,_,rfl⟩
set_option linter.unusedSectionVars false
def wS:Prop:=∀ t:Tok,o0 t→t.kind=3→Pure Tryz.prog 138 [sv t.text] (.aT [iv (pq t.text),iv 0])
theorem axe{k:Int}{L L':List Tok}{t:Tok}(h:eA k L= .ok t L'):t=hd L∧t.kind=k:=by
 unfold eA at h
 split at h
 ·cases h
 ·cases h;exact⟨rfl,Y3.1 (by assumption)⟩
theorem ahP(hw:jE)(hN:uG)(hD:wS){n:Nat}(ih:su n)(i:Bool)(L:List Tok)(hL:Gd L)(hn:8 * L.length+4≤n+1):bU 110 [] i L (fU (n+1) i L) iC:=by
 refine bU.intro fun b1 rest τ=> ?_
 refine Spec.dF (fun _=>0) Tryz.func110 abT ada (Z7 rfl) ?_
 rw[fU]
 have hp:=hL.pos
 have hcell:(bD L i++rest)=[.sl false 3 (L.map Tok.cells),.v (.bool i)]++rest:=rfl
 rw[hcell]
 repeat'(first|exact .nil|refine .k0 ?_|refine .k1 ?_|refine .k2 ?_|refine .k6 ?_|refine .k9 ?_|(refine .cd ?_ ?_<;>(intro hc;skip))|refine .r1 ?_ ?_|(refine .l1 ?_;intro b)|refine .t1 ?_ ?_ ?_|fail)
 any_goals omega
 all_goals(try simp only[BL]at *)
 all_goals simp only[mW]at *
 ·rw[Z8 hc]
  refine bY (rest:=rest) rfl (yV hw L hL i) rfl rfl rfl .nil ?_ (fun _ _ h=>bn h) (fun _=>Zs) (fun k L1 bg bE=> ?_)
  ·exact fun p c h=>by rw[h];rfl
  rw[bg,PR.aH]
  simp(decide:=true)only[aM,aZ]
  repeat'(first|exact .nil|refine .k0 ?_|refine .k1 ?_|refine .k2 ?_|refine .r1 ?_ ?_|fail)
  refine bY (rest:=rest) rfl (TS hw hN L1 bE i) rfl rfl rfl .nil ?_ (fun _ _ h=>bn h) (fun _=>Zs) (fun u L2 aY cN=> ?_)
  ·exact fun p c h=>by rw[h];rfl
  simp(decide:=true)only[aM,aZ]
  repeat'(first|exact .nil|refine .k0 ?_|refine .k1 ?_|refine .k2 ?_|refine .k7 ?_|refine .r1 ?_ ?_|fail)
  refine dE (a:=jQ ⟨2,k,⟨#[]⟩⟩ u ⟨#[]⟩) (by rw[aY];rfl) cN ?_
  repeat' first|exact .refl _|exact .nil|refine .cons ?_ ?_|refine .agg ?_
 ·rename_i h2
  rw[Z9 h2,Z8 hc]
  refine bY (rest:=rest) rfl (Ci hw L hL i 3 (by decide)) rfl rfl rfl .nil ?_ (fun _ _ h=>bn h) (fun _=>Zs) (fun t3 L1 bg bE=> ?_)
  ·exact fun p c h=>by rw[h];rfl
  rw[bg,PR.aH]
  obtain⟨et,Bp⟩:=axe bg
  have xQ:o0 t3:=by rw[et];exact hL.t _ (xZ hL.e.ne)
  simp(decide:=true)only[aM,aZ]
  repeat'(first|exact .nil|refine .k0 ?_|refine .k1 ?_|refine .k2 ?_|refine .r1 ?_ ?_|refine .an rfl (by intro br;exact hD t3 xQ Bp) ?_ ?_|fail)
  refine bY (rest:=rest) rfl (TS hw hN L1 bE i) rfl rfl rfl .nil ?_ (fun _ _ h=>bn h) (fun _=>Zs) (fun u L2 aY cN=> ?_)
  ·exact fun p c h=>by rw[h];rfl
  simp(decide:=true)only[aM,aZ]
  repeat'(first|exact .nil|refine .k0 ?_|refine .k1 ?_|refine .k2 ?_|refine .k7 ?_|refine .r1 ?_ ?_|fail)
  refine dE (a:=jQ ⟨3,pq t3.text,⟨#[]⟩⟩ u ⟨#[]⟩) (by rw[aY];rfl) cN ?_
  repeat' first|exact .refl _|exact .nil|refine .cons ?_ ?_|refine .agg ?_
 ·rename_i h2 h3
  rw[Z9 h2,Z9 h3,Z8 hc]
  refine bY (rest:=rest) rfl (Ci hw L hL i 4 (by decide)) rfl rfl rfl .nil ?_ (fun _ _ h=>bn h) (fun _=>Zs) (fun t L1 bg bE=> ?_)
  ·exact fun p c h=>by rw[h];rfl
  simp(decide:=true)only[aM,aZ]
  repeat'(first|exact .nil|refine .k0 ?_|refine .k1 ?_|refine .k2 ?_|refine .k7 ?_|refine .r1 ?_ ?_|fail)
  refine dE (a:=jQ ⟨4,0,t.text⟩ [] ⟨#[]⟩) (by rw[bg];rfl) bE ?_
  repeat' first|exact .refl _|exact .nil|refine .cons ?_ ?_|refine .agg ?_
 ·rename_i h2 h3 h4
  rw[Z9 h2,Z9 h3,Z9 h4,Z8 hc]
  refine bY (rest:=rest) rfl (ih.word i L hL (by rw[hc];decide) (by omega)) rfl rfl rfl .nil (fun _ _ h=>h) (fun _ _ h=>bn h) (fun _=>Zs) (fun x L1 bg bE=> ?_)
  simp(decide:=true)only[aM,aZ]
  repeat'(first|exact .nil|refine .k0 ?_|refine .k1 ?_|refine .k7 ?_|refine .r1 ?_ ?_|fail)
  exact dE (a:=x) bg bE (.refl _)
 ·rename_i h2 h3 h4
  rw[Z9 h2,Z9 h3,Z9 h4,Z9 hc]
  by_cases hs:au 5 (ch 64) L=true
  ·have ht:=hL.tail (cL (k:=5) (by decide) L hs)
   rw[Z8 hs]
   refine o6 (rest:=rest) rfl (gK L hL i 5 (by decide) (ch 64)) (kr hs) rfl rfl rfl .nil (fun _=> ?_)
   simp(decide:=true)only[aM,aZ]
   (repeat'(first|exact .nil|refine .k0 ?_|refine .k1 ?_|refine .k2 ?_|(refine .cd ?_ ?_<;>first|with_reducible exact tF|(intro hc;skip))|refine .r1 ?_ ?_|fail))<;>(try(simp at hc;done))
   refine bY rfl (rd_key hw L.tail ht.1 i) rfl rfl rfl .nil (fun _ _ h=>h) (fun _ _ h=>bn h) (fun _=>Zs) (fun x L1 bg bE=> ?_)
   simp(decide:=true)only[aM,aZ]
   repeat'(first|exact .nil|refine .k0 ?_|refine .k1 ?_|refine .k7 ?_|refine .r1 ?_ ?_|fail)
   exact dE (a:=x) bg bE (.refl _)
  ·rw[Z9 hs]
   refine o6 (rest:=rest) rfl (gK L hL i 5 (by decide) (ch 64)) (kq hs) rfl rfl rfl .nil (fun _=> ?_)
   simp(decide:=true)only[aM,aZ]
   (repeat'(first|exact .nil|refine .k0 ?_|refine .k1 ?_|refine .k2 ?_|refine .k9 ?_|(refine .cd ?_ ?_<;>first|with_reducible exact fT|(intro hc;skip))|refine .r1 ?_ ?_|fail))<;>(try(simp at hc;done))
   refine bY rfl (ih.group i L hL (by omega)) rfl rfl rfl .nil (fun _ _ h=>h) (fun _ _ h=>bn h) (fun _=>Zs) (fun x L1 bg bE=> ?_)
   simp(decide:=true)only[aM,aZ]
   repeat'(first|exact .nil|refine .k0 ?_|refine .k1 ?_|refine .k7 ?_|refine .r1 ?_ ?_|fail)
   exact dE (a:=x) bg bE (.refl _)
theorem tZ(hN:uG)(hD:wS):∀ n,su n
 |0=>⟨fun _ _ _ h=>absurd h (by omega),fun _ _ _ _ h=>absurd h (by omega),fun _ _ _ _ h=>absurd h (by omega),fun _ _ _ h=>absurd h (by omega),fun _ _ _ h=>absurd h (by omega),fun _ _ _ _ h=>absurd h (by omega),fun _ _ _ h=>absurd h (by omega)⟩
 |n+1=>⟨fun i L hL hn=>ahE zO (tZ hN hD n) i L hL hn,fun l i L hL hn=>ahC (tZ hN hD n) l i L hL hn,fun l i L hL hn=>ahO (tZ hN hD n) l i L hL hn,fun i L hL hn=>ahP zO hN hD (tZ hN hD n) i L hL hn,
   fun i L hL hn=>ahN zO (tZ hN hD n) i L hL hn,fun i L hL hk hn=>ahX zO (tZ hN hD n) i L hL hk hn,fun op L hL hn=>ahA zO (tZ hN hD n) op L hL hn⟩
theorem adR(hN:uG)(hD:wS)(i:Bool)(L:List Tok)(hL:Gd L):bU 20 [] i L (bW N0 i L) iC:=(tZ hN hD N0).expr i L hL (by have:=hL.n;show _≤1000000;omega)
set_option linter.unusedSectionVars false
def uC(e tg:Nat)(rows:List (List AV))(x:AV)(τ:Store):Prop:=(rows=[]∧x=gQ∧τ=[])∨(rows≠[]∧∃ bb u c,x= .own e tg bb u c rows∧τ=[(tg,bb,.tail u c)])
structure Mj(m:qA)(x1 x2:AV)(lB mK:Store):Prop where
 t:uC 4 49 (m.tables.map gV.cells) x1 lB
 f:uC 18 40 (m.features.map aq.cells) x2 mK
def Wl(b:Nat)(dh:Store)(m:qA)(x1 x2:AV)(lB mK:Store)(r:PR uE)(x:dH)(σ':Store):Prop:=match r with
 | .ok a L'=>∃ y1 y2 wM wN,Mj (Nh m a) y1 y2 wM wN∧Gd L'∧x= .ret (.aT [])∧σ'=(1000,b,.cells (bD L' false++[y1,y2]))::(wM++wN++dh)
 | .err p c=>x= .dn [{v:=uW p c,recovered:=false}]∧∃ L' i',σ'=(1000,b,.cells (bD L' i'++[x1,x2]))::(lB++mK++dh)
def C3(b:Nat)(dh:Store)(m:qA)(x1 x2:AV)(lB mK:Store)(r:PR uE)(x:dH)(σ':Store):Prop:=match r with
 | .ok a L'=>∃ y1 y2 wM wN az,Mj (Nh m a) y1 y2 wM wN∧Gd L'∧x= .ret (.aT [])∧Sub az σ'∧az.Perm ((1000,b,.cells (bD L' false++[y1,y2]))::(wM++wN++dh))
 | .err p c=>x= .dn [{v:=uW p c,recovered:=false}]∧∃ L' i',Sub ((1000,b,.cells (bD L' i'++[x1,x2]))::(lB++mK++dh)) σ'
theorem C3.spec{f:FuncId}{ys:List AV}{σ:Store}{b:Nat}{dh:Store}{m:qA}{x1 x2:AV}{lB mK:Store}{r:PR uE}(h:Sx.Spec Tryz.prog f ys σ (C3 b dh m x1 x2 lB mK r)):Sx.Spec Tryz.prog f ys σ (Wl b dh m x1 x2 lB mK r):=by
 intro M w0 w vs hI hR
 refine(h M w0 w vs hI hR).mono fun e w' ⟨M',x,σ',hM,aP,hx,hq⟩=> ?_
 cases r with
 |ok a L'=>obtain⟨y1,y2,wM,wN,az,h1,h2,h3,h4,h5⟩:=hq;exact⟨M',x,_,hM,(aP.sub h4).perm h5,hx,y1,y2,wM,wN,h1,h2,h3,rfl⟩
 |err p c=>obtain⟨h1,L',i',h2⟩:=hq;exact⟨M',x,_,hM,aP.sub h2,hx,h1,L',i',rfl⟩
theorem C3.dn{b:Nat}{dh τ:Store}{m:qA}{x1 x2:AV}{lB mK:Store}{r:PR uE}(hs:τ=lB++mK++dh){val:uE→AV}{ch:List PanicEntry}{σ':Store}(h:oZ false [x1,x2] r val b τ (.dn ch) σ'):C3 b dh m x1 x2 lB mK r (.dn ch) σ':=by
 obtain⟨x,cs',h1,h2,h3⟩:=h
 subst hs
 cases r with
 |ok a L'=>obtain⟨_,e,_⟩:=h1;subst e;exact h3.elim
 |err p c=>obtain⟨e,L',i',rfl⟩:=h1;subst e;exact⟨Zy _ h3,L',i',h2⟩
end Go.Proofs.YtcccbdelfhgmlaaGreatDoor
