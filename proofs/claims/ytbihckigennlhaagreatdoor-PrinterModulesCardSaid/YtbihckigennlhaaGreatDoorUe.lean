/- The reader's aggregate. -/
import Derived.Test.YtbihckigennlhaaGreatDoorUc
import Derived.Test.YtbihckigennlhaaGreatDoorTz
import Derived.Test.YtbihckigennlhaaGreatDoorYf
set_option linter.unusedSimpArgs false
set_option linter.unusedVariables false
set_option maxRecDepth 100000
set_option maxHeartbeats 4000000
namespace Go.Proofs.YtbihckigennlhaaGreatDoor
open Go.Sx Go.Proofs
theorem GL(n:Int):Pure Tryz.prog 219 [iv n] (gG (gB n)):=by
 refine ab4.p fun σ=> ?_
 repeat'(first|exact .nil|refine .k0 ?_|refine .k1 ?_|refine .k2 ?_|refine .k7 ?_|refine .r1 ?_ ?_|(refine .l1 ?_;intro b)|fail)
 all_goals(try simp only[BL]at *)
 all_goals(refine Sx.Fin.wk Zs ?_;repeat' first|exact .refl _|exact .nil|refine .cons ?_ ?_|refine .agg ?_)
theorem ad3{α:Type}{ins:Bool}{rest:List AV}{r:PR α}{val:α→AV}{a:α}{l l':List AV}{L':List Tok}{b t bb e:Nat}{rows:List (List AV)}{τ σ' σ2:Store}(h:r= .ok a L')(hL:Gd L')(hf:oI t bb rows.flatten σ' σ2)(hr:∀ r∈rows,r.length=e)(hn:rows.length≤maxLen)(hl:oH bb e rows l l')(hx:Wk (.agg l') (val a))(hs:Sub ((1000,b,.cells (bh L' ins++rest))::τ) σ2):
  HR ins rest r val b τ (.ret (.agg l)) σ':= .inr ⟨l,l',t,bb,e,rows,σ2,rfl,hf,hr,hn,hl,dc h hL hx hs⟩
theorem Sj{x y:Ex}:Wk (.sl false 12 [x.row,y.row]) (.sl false 12 ([x,y].map Ex.cells)):=by
 rw[Ex.oR];exact .refl _
theorem adT(hw:iQ){n:Nat}(ih:qi n)(op:af)(L:List Tok)(hL:Gd L)(hn:8 * L.length+3≤n+1):bG 220 [sv op] false L (gC (n+1) op L) gG:=by
 refine bG.aa1 fun b rest τ=> ?_
 refine Spec.cY (fun i=>bif Nat.beq i 9 then 2 else 0) Tryz.func220 UK VW (Z8 rfl) ?_
 rw[gC]
 repeat'(first|exact .nil|refine .k0 ?_|refine .k1 ?_|refine .k2 ?_|refine .r1 ?_ ?_|(refine .l1 ?_;intro b)|refine .an rfl (by intro bx;exact GL 1) ?_ ?_|fail)
 all_goals(try simp only[BL]at *)
 refine Rl ((gB 1).row++(gB 1).row) 2 rfl rfl rfl .nil rfl (by decide) rfl fun b9=> ?_
 repeat'(first|exact .nil|refine .k0 ?_|refine .k1 ?_|refine .k2 ?_|refine .r1 ?_ ?_|(refine .l1 ?_;intro b)|fail)
 all_goals(try simp only[BL]at *)
 rename_i b1 b4
 rename Nat=>b5
 refine bI rfl (rq hw L hL false (ch 40)) rfl rfl rfl .nil ?_ (fun _ _ h=>aR (.inl h)) (fun _=>Zs) (fun a1 L1 aX bj=> ?_)
 ·exact fun p c h=>by rw[h];rfl
 rw[aX,PR.aJ]
 have jc:=(Pos.bU (k:=5) (s:=ch 40) (by decide) L hL.e).ok _ _ aX
 simp(decide:=true)only[aL,aP]
 repeat'(first|exact .nil|refine .k0 ?_|refine .k1 ?_|refine .k2 ?_|refine .r1 ?_ ?_|fail)
 all_goals(try simp only[BL]at *)
 refine bI rfl (BU hw L1 bj false) rfl rfl rfl .nil ?_ (fun _ _ h=>aR (.inl h)) (fun _=>Zs) (fun tb L2 cJ cy=> ?_)
 ·exact fun p c h=>by rw[h];rfl
 rw[cJ,PR.aJ]
 have dQ:=(Pos.name L1 bj.e).ok _ _ cJ
 simp(decide:=true)only[aL,aP]
 repeat'(first|exact .nil|refine .k0 ?_|refine .k1 ?_|refine .k2 ?_|refine .r1 ?_ ?_|fail)
 all_goals(try simp only[BL]at *)
 refine bI rfl (rq hw L2 cy false (ch 44)) rfl rfl rfl .nil ?_ (fun _ _ h=>aR (.inl h)) (fun _=>Zs) (fun a3 L3 nX nF=> ?_)
 ·exact fun p c h=>by rw[h];rfl
 rw[nX,PR.aJ]
 have vr:=(Pos.bU (k:=5) (s:=ch 44) (by decide) L2 cy.e).ok _ _ nX
 simp(decide:=true)only[aL,aP]
 repeat'(first|exact .nil|refine .k0 ?_|refine .k1 ?_|refine .k2 ?_|refine .r8 ?_ ?_|fail)
 all_goals(try simp only[BL]at *)
 refine nA (cs':=bh L3 true++rest) rfl rfl rfl rfl rfl ⟨rfl,by simp[bh]⟩ .nil ?_
 simp(decide:=true)only[aL,aP]
 repeat'((fail_if_success (show WK _ _ _ _ _ _ _ _));(first|refine .k0 ?_|refine .k1 ?_|fail))
 refine jQ rfl ?_
 refine lq (fun rg σ'=>∃ (ea:Ex) (L5:List Tok),Gd L5∧L5.length≤L3.length∧(if op≠wN then(bD n true L3).bind fun x L4=>(dt (ch 44) L4).map fun _=>x else .ok (gB 1) L3)= .ok ea L5∧
  σ'=(5,b5,.cells [iv 5,sv op,sv ⟨#[]⟩,sv tb,iv 0,iv 0,sv ⟨#[]⟩,.v (.slice none 0 0),iv 0,iv 0,iv 0,.ms 9 b9 0 2 2])::(9,b9,.cells (ea.row++(gB 1).row))::(4,b4,.cells [iv 0,sv ⟨#[]⟩,sv ⟨#[]⟩,sv ⟨#[]⟩,iv 0,iv 0,sv ⟨#[]⟩,.v (.slice none 0 0),iv 0,iv 0,iv 0,.v (.slice none 0 0)])::(1000,b1,.cells (bh L5 true++rest))::τ∧
  rg=[(0,.lp 1000 b1 0),(1,sv op),(4,.lp 4 b4 0),(5,.lp 5 b5 0)]) ?_ ?_
 ·repeat'((fail_if_success (show WK _ _ _ _ (.dr _ _) _ _ _));(first|exact .nil|refine .k0 ?_|refine .k1 ?_|refine .k2 ?_|refine .k9 ?_|(refine .cd ?_ ?_<;>(intro hc;skip))|refine .r1 ?_ ?_|fail))
  all_goals(try simp only[BL]at *)
  ·refine xj [1000] 26 rfl rfl rfl rfl ?_
   repeat'(first|exact .nil|refine .k0 ?_|refine .r1 ?_ ?_|fail)
   refine xi rfl rfl (ih.expr true L3 nF (by omega)) rfl rfl rfl .nil ?_ (fun _ _ h=>aR (.inl h)) (fun _=>Zs) (fun ea L4 hr4 xN=> ?_)
   ·exact fun p c h=>by rw[if_pos hc,h];rfl
   have vu:=((kO n).expr true L3 nF.e).ok _ _ hr4
   simp(decide:=true)only[aL,aP]
   repeat'(first|exact .nil|refine .k0 ?_|refine .k1 ?_|refine .k2 ?_|refine .r1 ?_ ?_|refine .r8 ?_ ?_|fail)
   ·exact⟨by decide,by decide⟩
   refine bI rfl (rq hw L4 xN true (ch 44)) rfl rfl rfl .nil ?_ (fun _ _ h=>aR (.inl h)) (fun _=>Zs) (fun a5 L5 hr5 sH=> ?_)
   ·exact fun p c h=>by rw[if_pos hc,hr4,PR.aJ,PR.map,h];rfl
   have Bg:=(Pos.bU (k:=5) (s:=ch 44) (by decide) L4 xN.e).ok _ _ hr5
   simp(decide:=true)only[aL,aP]
   repeat'(first|refine .k1 ?_|refine .k2 ?_|fail)
   exact dH.intro rfl ⟨ea,L5,sH,by omega,by rw[if_pos hc,hr4,PR.aJ,PR.map,hr5];rfl,rfl,rfl⟩
  ·exact dH.intro rfl ⟨gB 1,L3,nF,ZI _,by rw[if_neg (fun h=>h hc)],rfl,rfl⟩
 ·rintro _ _ ⟨ea,L5,sH,hl5,hr5,rfl,rfl⟩
  rw[hr5,PR.aJ]
  refine lq (fun rg σ'=>∃ (p:Int) (L7:List Tok),Gd L7∧L7.length≤L5.length∧(if op=rL∨op=rK then(az2 L5).bind fun k L6=>(dt (ch 44) L6).map fun _=>k else .ok 0 L5)= .ok p L7∧
   σ'=(5,b5,.cells [iv 5,sv op,sv ⟨#[]⟩,sv tb,iv 0,iv 0,sv ⟨#[]⟩,.v (.slice none 0 0),iv p,iv 0,iv 0,.ms 9 b9 0 2 2])::(9,b9,.cells (ea.row++(gB 1).row))::(4,b4,.cells [iv 0,sv ⟨#[]⟩,sv ⟨#[]⟩,sv ⟨#[]⟩,iv 0,iv 0,sv ⟨#[]⟩,.v (.slice none 0 0),iv 0,iv 0,iv 0,.v (.slice none 0 0)])::(1000,b1,.cells (bh L7 true++rest))::τ∧
   rg=[(0,.lp 1000 b1 0),(4,.lp 4 b4 0),(5,.lp 5 b5 0)]) ?_ ?_
  ·repeat'(first|exact .nil|refine .k0 ?_|refine .k1 ?_|refine .k2 ?_|refine .k4 ?_|refine .k9 ?_|(refine .cd ?_ ?_<;>(intro hc;skip))|refine .r1 ?_ ?_|fail)
   try any_goals(exact Zo)
   all_goals(try simp only[BL]at *)
   ·refine bI rfl (wg hw L5 sH true) rfl rfl rfl .nil ?_ (fun _ _ h=>aR (.inl h)) (fun _=>Zs) (fun p L6 vw A0=> ?_)
    ·exact fun p c h=>by rw[if_pos hc,h];rfl
    have hq6:=(Pos.num L5 sH.e).ok _ _ vw
    simp(decide:=true)only[aL,aP]
    repeat'(first|exact .nil|refine .k0 ?_|refine .k1 ?_|refine .k2 ?_|refine .r1 ?_ ?_|fail)
    refine bI rfl (rq hw L6 A0 true (ch 44)) rfl rfl rfl .nil ?_ (fun _ _ h=>aR (.inl h)) (fun _=>Zs) (fun a7 L7 Bh A1=> ?_)
    ·exact fun p c h=>by rw[if_pos hc,vw,PR.aJ,PR.map,h];rfl
    have hq7:=(Pos.bU (k:=5) (s:=ch 44) (by decide) L6 A0.e).ok _ _ Bh
    simp(decide:=true)only[aL,aP]
    repeat'(first|refine .k1 ?_|refine .k2 ?_|fail)
    exact dH.intro rfl ⟨p,L7,A1,by omega,by rw[if_pos hc,vw,PR.aJ,PR.map,Bh];rfl,rfl,rfl⟩
   ·exact dH.intro rfl ⟨0,L5,sH,ZI _,by rw[if_neg (fun h=>h.elim hc.1 hc.2)],rfl,rfl⟩
  ·rintro _ _ ⟨p,L7,A1,Bd,Bh,rfl,rfl⟩
   rw[Bh,PR.aJ]
   repeat'(first|exact .nil|refine .k1 ?_|refine .k2 ?_|refine .r1 ?_ ?_|fail)
   refine bI rfl (ad5 hw L7 A1 true) rfl rfl rfl .nil ?_ (fun _ _ h=>aR (.inl h)) (fun _=>Zs) (fun w L8 LG Ea=> ?_)
   ·exact fun p c h=>by rw[h];rfl
   have hq8:=(Pos.zT L7 A1.e).ok _ _ LG
   rw[LG,PR.aJ]
   simp(decide:=true)only[aL,aP]
   repeat'((fail_if_success (show WK _ _ _ _ _ _ _ _));(first|exact .nil|refine .k0 ?_|refine .k1 ?_|refine .r1 ?_ ?_|fail))
   refine jQ rfl ?_
   refine lq (fun rg σ'=>∃ (ec:Ex) (L9:List Tok),Gd L9∧(if au 1 eI L8 then bD n true L8.tail else .ok (gB 1) L8)= .ok ec L9∧
    σ'=(5,b5,.cells [iv 5,sv op,sv ⟨#[]⟩,sv tb,iv 0,iv 0,sv ⟨#[]⟩,.v (.slice none 0 0),iv p,iv w.kind,iv w.size,.ms 9 b9 0 2 2])::(9,b9,.cells (ea.row++ec.row))::(4,b4,.cells [iv 0,sv ⟨#[]⟩,sv ⟨#[]⟩,sv ⟨#[]⟩,iv 0,iv 0,sv ⟨#[]⟩,.v (.slice none 0 0),iv 0,iv 0,iv 0,.v (.slice none 0 0)])::(1000,b1,.cells (bh L9 true++rest))::τ∧
    rg=[(0,.lp 1000 b1 0),(4,.lp 4 b4 0),(5,.lp 5 b5 0)]) ?_ ?_
   ·repeat'(first|exact .nil|refine .k1 ?_|refine .k2 ?_|refine .r1 ?_ ?_|fail)
    refine bI rfl (fX L8 Ea true 1 (by decide) eI) rfl rfl rfl .nil (fun _ _ h=>oC h) (fun _ _ h=>aR (.inl h)) (fun _=>Zs) (fun a L9 qK A3=> ?_)
    simp(decide:=true)only[aL,aP]
    by_cases hs:au 1 eI L8=true
    ·rw[jI hs]at qK;cases qK
     have ht:=Ea.tail (cr (k:=1) (by decide) L8 hs)
     (repeat'((fail_if_success (show WK _ _ _ _ (.dr _ _) _ _ _));(first|refine .k0 ?_|refine .k1 ?_|(refine .cd ?_ ?_<;>first|with_reducible exact tF|(intro hc;skip))|fail)))<;>(try(simp at hc;done))
     refine xj [1000] 49 rfl rfl rfl rfl ?_
     repeat'(first|exact .nil|refine .k0 ?_|refine .r1 ?_ ?_|fail)
     refine xi rfl rfl (ih.expr true L8.tail ht.1 (by omega)) rfl rfl rfl .nil ?_ (fun _ _ h=>aR (.inl h)) (fun _=>Zs) (fun ec L9 qK A3=> ?_)
     ·exact fun p c h=>by rw[if_pos hs,h];rfl
     simp(decide:=true)only[aL,aP]
     repeat'(first|exact .nil|refine .k0 ?_|refine .k1 ?_|refine .k2 ?_|refine .r1 ?_ ?_|refine .r8 ?_ ?_|fail)
     ·exact⟨by decide,by decide⟩
     exact dH.intro rfl ⟨ec,L9,A3,by rw[if_pos hs,qK],rfl,rfl⟩
    ·rw[jH hs]at qK;cases qK
     (repeat'(first|refine .k0 ?_|refine .k1 ?_|refine .k2 ?_|refine .k9 ?_|(refine .cd ?_ ?_<;>first|with_reducible exact fT|(intro hc;skip))|fail))<;>(try(simp at hc;done))
     exact dH.intro rfl ⟨gB 1,L8,Ea,by rw[if_neg hs],rfl,rfl⟩
   ·rintro _ _ ⟨ec,L9,A3,qK,rfl,rfl⟩
    rw[qK,PR.aJ]
    repeat'(first|exact .nil|refine .k1 ?_|refine .k2 ?_|refine .r8 ?_ ?_|fail)
    refine nA (cs':=bh L9 false++rest) rfl rfl rfl rfl rfl ⟨rfl,by simp[bh]⟩ .nil ?_
    simp(decide:=true)only[aL,aP]
    repeat'(first|exact .nil|refine .k0 ?_|refine .k1 ?_|refine .k2 ?_|refine .r1 ?_ ?_|fail)
    refine bI rfl (rq hw L9 A3 false (ch 41)) rfl rfl rfl .nil ?_ (fun _ _ h=>aR (.inl h)) (fun _=>Zs) (fun Ii L10 aaA Xd=> ?_)
    ·exact fun p c h=>by rw[PR.map,h];rfl
    simp(decide:=true)only[aL,aP]
    repeat'(first|exact .nil|refine .k0 ?_|refine .k1 ?_|refine .k2 ?_|refine .k7 ?_|refine .r1 ?_ ?_|fail)
    refine ad3 (e:=12) (rows:=[ea.row,ec.row]) (a:= .mk 5 op ⟨#[]⟩ tb v0 [] p w [ea,ec]) (by rw[PR.map,aaA];rfl) Xd (.there .here) (fun r hr=> ?_) (Z8 rfl) (.same <| .same <| .same <| .same <| .same <| .same <| .same <| .same <| .same <| .same <| .same <| .m .nil) ?_ Zs
    ·simp only[ZV,Yj,or_false]at hr
     rcases hr with rfl|rfl<;>rfl
    ·repeat' first|exact Sj|exact .refl _|exact .nil|refine .cons ?_ ?_|refine .agg ?_
abbrev z12:List AV:=[iv 0,sv ⟨#[]⟩,sv ⟨#[]⟩,sv ⟨#[]⟩,iv 0,iv 0,sv ⟨#[]⟩,.v (.slice none 0 0),iv 0,iv 0,iv 0,.v (.slice none 0 0)]
theorem ad0(hw:iQ){n:Nat}(ih:qi n)(i:Bool)(L:List Tok)(hL:Gd L)(hn:8 * L.length+3≤n+1):bG 195 [] i L (aJf (n+1) i L) gG:=
 adZ hw n (fun L hL hn i=>ih.expr i L hL hn) L hL (by omega) i
theorem ad6(hw:iQ){n:Nat}(ih:qi n)(i:Bool)(L:List Tok)(hL:Gd L)(hk:(hd L).kind≠6)(hn:8 * L.length+3≤n+1):bG 193 [] i L (fJ (n+1) i L) gG:=by
 refine bG.intro fun b1 rest τ=> ?_
 refine Spec.cY (fun _=>0) Tryz.func193 UH VS (Z8 rfl) ?_
 have hp:=hL.pos
 have ht:=hL.tail hk
 rw[fJ]
 unfold bh
 first|refine .k1 ?_|fail
 first|refine .k2 ?_|fail
 repeat'((fail_if_success (show WK _ _ _ _ _ _ _ _));(first|refine .k0 ?_|refine .k1 ?_|(refine .l1 ?_;intro b)|fail))
 rename Nat=>b2
 refine jQ rfl ?_
 refine lq (fun rg σ'=>¬((hd L).text=uf∨(hd L).text=zS)∧(hd L).text≠iw∧¬((hd L).text∈jv∧i=false)∧σ'=(2,b2,.cells z12)::(1000,b1,.cells (bh L i++rest))::τ∧rg=[(0,.lp 1000 b1 0),(2,.lp 2 b2 0)]) ?_ ?_
 ·repeat'((fail_if_success (show WK _ _ _ _ (.seq (.seq (.cj Ou) _) (.keep _ _)) _ _ _));(first|exact .nil|refine .k0 ?_|refine .k1 ?_|refine .k2 ?_|refine .k6 ?_|refine .k9 ?_|(refine .cd ?_ ?_<;>(intro hc;first|exact kf hc (by assumption)|skip))|refine .r1 ?_ ?_|refine .t1 ?_ ?_ ?_|refine .t3 ?_ ?_ ?_|refine .r8 ?_ ?_|fail))
  any_goals omega
  all_goals(try simp only[BL]at *)
  all_goals simp only[lF]at *
  ·refine nA (cs':=[.sl false 3 ((L.drop 1).map Tok.cells),.v (.bool i)]++rest) rfl rfl rfl rfl rfl ⟨rfl,by simp⟩ .nil ?_
   simp(decide:=true)only[aL,aP,XY]
   repeat'(first|exact .nil|refine .k0 ?_|refine .k1 ?_|refine .k2 ?_|refine .k7 ?_|refine .r1 ?_ ?_|refine .an rfl (by intro bx;exact GL _) ?_ ?_|fail)
   exact dc (a:=gB 1) (by rw[if_pos (.inl hc),if_pos hc]) ht.1 (.mS (by rw[hc];rfl))
  ·rename_i eN
   refine nA (cs':=[.sl false 3 ((L.drop 1).map Tok.cells),.v (.bool i)]++rest) rfl rfl rfl rfl rfl ⟨rfl,by simp⟩ .nil ?_
   simp(decide:=true)only[aL,aP,XY]
   repeat'(first|exact .nil|refine .k0 ?_|refine .k1 ?_|refine .k2 ?_|refine .k7 ?_|refine .r1 ?_ ?_|refine .an rfl (by intro bx;exact GL _) ?_ ?_|fail)
   exact dc (a:=gB 0) (by rw[if_pos (.inr hc),if_neg eN]) ht.1 (.mS (by rw[hc];rfl))
  ·rename_i eN ia
   rw[if_neg (fun h=>h.elim eN ia),if_pos hc]
   refine nA (cs':=[.sl false 3 ((L.drop 1).map Tok.cells),.v (.bool i)]++rest) rfl rfl rfl rfl rfl ⟨rfl,by simp⟩ .nil ?_
   simp(decide:=true)only[aL,aP,XY]
   repeat'(first|exact .nil|refine .k0 ?_|refine .k1 ?_|refine .k2 ?_|refine .r1 ?_ ?_|fail)
   refine bI (L:=L.tail) (ins:=i) rfl (ih.group i L.tail ht.1 (by omega)) rfl rfl rfl .nil ?_ (fun _ _ h=>aR h) (fun _=>Zs) (fun x L1 aX bj=> ?_)
   ·exact fun p c h=>by rw[h];rfl
   simp(decide:=true)only[aL,aP]
   repeat'(first|exact .nil|refine .k0 ?_|refine .k1 ?_|refine .k7 ?_|refine .r1 ?_ ?_|fail)
   ·simp
   refine dc (a:=kS iw x) (by rw[aX];rfl) bj ?_
   rw[hc]
   repeat' first|exact xk|exact .refl _|exact .nil|refine .cons ?_ ?_|refine .agg ?_
  ·rename_i eN ia
   have mA:=hc
   refine lq (fun rg σ'=>∃ q:Bool,(q=true↔(hd L).text∈jv)∧σ'=(2,b2,.cells z12)::(1000,b1,.cells (bh L i++rest))::τ∧rg=[(0,.lp 1000 b1 0),(2,.lp 2 b2 0),(3,sv (hd L).text),(43,.v (.bool q))]) ?_ ?_
   ·repeat'(first|exact .nil|refine .k0 ?_|refine .k1 ?_|refine .k2 ?_|refine .k9 ?_|(refine .cd ?_ ?_<;>(intro hc;skip))|refine .r1 ?_ ?_|fail)
    all_goals(try simp only[BL]at *)
    all_goals(refine dH.intro rfl ⟨_,?_,rfl,rfl⟩;simp_all [jv])
   ·rintro _ _ ⟨q,hq,rfl,rfl⟩
    unfold bh
    repeat'(first|exact .nil|refine .k0 ?_|refine .k1 ?_|refine .k2 ?_|refine .k9 ?_|(refine .cd ?_ ?_<;>(intro hc;skip))|refine .r1 ?_ ?_|refine .t3 ?_ ?_ ?_|refine .r8 ?_ ?_|fail)
    any_goals omega
    all_goals(try simp only[BL]at *)
    ·rename_i jc
     subst hc
     rw[if_neg (fun h=>h.elim eN ia),if_neg mA,if_pos ⟨hq.1 jc,rfl⟩]
     refine nA (cs':=[.sl false 3 ((L.drop 1).map Tok.cells),.v (.bool false)]++rest) rfl rfl rfl rfl rfl ⟨rfl,by simp⟩ .nil ?_
     simp(decide:=true)only[aL,aP,XY]
     repeat'(first|exact .nil|refine .k0 ?_|refine .k1 ?_|refine .k2 ?_|refine .r1 ?_ ?_|fail)
     refine bI (L:=L.tail) (ins:=false) rfl (ih.agg (hd L).text L.tail ht.1 (by omega)) rfl rfl rfl .nil ?_ (fun _ _ h=>aR h) (fun _=>Zs) (fun x L1 aX bj=> ?_)
     ·exact fun p c h=>h
     simp(decide:=true)only[aL,aP]
     repeat'(first|exact .nil|refine .k0 ?_|refine .k1 ?_|refine .k7 ?_|refine .r1 ?_ ?_|fail)
     exact dc (a:=x) aX bj (.refl _)
    ·exact dH.intro rfl ⟨fun h=>h.elim eN ia,mA,by simp[hc],rfl,rfl⟩
    ·exact dH.intro rfl ⟨fun h=>h.elim eN ia,mA,(fun h=>by rw[hq.2 h.1]at hc;cases hc),rfl,rfl⟩
 ·rintro _ _ ⟨h1,h2,h3,rfl,rfl⟩
  rw[if_neg h1,if_neg h2,if_neg h3]
  repeat'(first|exact .nil|refine .k1 ?_|refine .k2 ?_|refine .r1 ?_ ?_|fail)
  refine bI rfl (BU hw L hL i) rfl rfl rfl .nil ?_ (fun _ _ h=>aR h) (fun _=>Zs) (fun s L1 aX bj=> ?_)
  ·exact fun p c h=>by rw[h];rfl
  have jc:=(Pos.name L hL.e).ok _ _ aX
  rw[aX,PR.aJ]
  simp(decide:=true)only[aL,aP]
  unfold bh
  repeat'(first|exact .nil|refine .k0 ?_|refine .k1 ?_|refine .k2 ?_|refine .k6 ?_|refine .k7 ?_|(refine .cd ?_ ?_<;>(intro hc;skip))|refine .r1 ?_ ?_|fail)
  all_goals(try simp only[BL]at *)
  ·refine dc (a:=kK 2 s []) (by rw[if_pos hc]) bj ?_
   repeat' first|exact .refl _|exact .nil|refine .cons ?_ ?_|refine .agg ?_
  ·subst hc
   rw[if_neg (by decide)]
   refine bI (L:=L1) (ins:=false) rfl (fX L1 bj false 1 (by decide) gj) rfl rfl rfl .nil (fun _ _ h=>oC h) (fun _ _ h=>aR h) (fun _=>Zs) (fun a L2 cJ cy=> ?_)
   simp(decide:=true)only[aL,aP]
   by_cases hs:au 1 gj L1=true
   ·rw[jI hs]at cJ;cases cJ
    have mJ:=bj.tail (cr (k:=1) (by decide) L1 hs)
    rw[if_pos hs]
    (repeat'(first|exact .nil|refine .k0 ?_|refine .k1 ?_|refine .k2 ?_|(refine .cd ?_ ?_<;>first|with_reducible exact tF|(intro hc;skip))|refine .r1 ?_ ?_|fail))<;>(try(simp at hc;done))
    refine bI rfl (ih.group false L1.tail mJ.1 (by omega)) rfl rfl rfl .nil ?_ (fun _ _ h=>aR h) (fun _=>Zs) (fun x L2 cJ cy=> ?_)
    ·exact fun p c h=>by rw[h];rfl
    simp(decide:=true)only[aL,aP]
    repeat'(first|exact .nil|refine .k0 ?_|refine .k1 ?_|refine .k7 ?_|refine .r1 ?_ ?_|fail)
    ·simp
    refine dc (a:=kK 4 s [x]) (by rw[cJ];rfl) cy ?_
    repeat' first|exact xk|exact .refl _|exact .nil|refine .cons ?_ ?_|refine .agg ?_
   ·rw[jH hs]at cJ;cases cJ
    rw[if_neg hs]
    (repeat'(first|exact .nil|refine .k0 ?_|refine .k1 ?_|refine .k2 ?_|refine .k7 ?_|refine .k9 ?_|(refine .cd ?_ ?_<;>first|with_reducible exact fT|(intro hc;skip))|refine .r1 ?_ ?_|fail))<;>(try(simp at hc;done))
    refine dc (a:=kK 3 s []) rfl bj ?_
    repeat' first|exact .refl _|exact .nil|refine .cons ?_ ?_|refine .agg ?_
theorem wO:iQ:=fun L hL ins=>by
 refine bG.intro fun b rest τ=> ?_
 refine Spec.cY (fun _=>0) Tryz.func76 UR V3 (Z8 rfl) ?_
 have hp:=hL.pos
 unfold bh
 repeat'(first|exact .nil|refine .k0 ?_|refine .k1 ?_|refine .k2 ?_|refine .r1 ?_ ?_|refine .t1 ?_ ?_ ?_|fail)
 try any_goals(exact Zo)
 all_goals(try simp only[BL]at *)
 refine C3 rfl rfl .nil ?_
 refine aR ?_
 rw[lF]
 exact oA (cs:=bh L ins++rest) ⟨rfl,_,_,rfl⟩
set_option linter.unusedSectionVars false
def uw:Prop:=∀ t:Tok,nw t→t.kind=3→Pure Tryz.prog 135 [sv t.text] (.aI [iv (nE t.text),iv 0])
theorem ayH{k:Int}{L L':List Tok}{t:Tok}(h:dM k L= .ok t L'):t=hd L∧t.kind=k:=by
 unfold dM at h
 split at h
 ·cases h
 ·cases h;exact⟨rfl,Y4.1 (by assumption)⟩
theorem ad2(hw:iQ)(hN:rZ)(hD:uw){n:Nat}(ih:qi n)(i:Bool)(L:List Tok)(hL:Gd L)(hn:8 * L.length+4≤n+1):bG 166 [] i L (fi (n+1) i L) gG:=by
 refine bG.intro fun b1 rest τ=> ?_
 refine Spec.cY (fun _=>0) Tryz.func166 UG VR (Z8 rfl) ?_
 rw[fi]
 have hp:=hL.pos
 have hcell:(bh L i++rest)=[.sl false 3 (L.map Tok.cells),.v (.bool i)]++rest:=rfl
 rw[hcell]
 repeat'(first|exact .nil|refine .k0 ?_|refine .k1 ?_|refine .k2 ?_|refine .k6 ?_|refine .k9 ?_|(refine .cd ?_ ?_<;>(intro hc;skip))|refine .r1 ?_ ?_|(refine .l1 ?_;intro b)|refine .t1 ?_ ?_ ?_|fail)
 any_goals omega
 all_goals(try simp only[BL]at *)
 all_goals simp only[lF]at *
 ·rw[if_pos hc]
  refine bI (rest:=rest) rfl (wg hw L hL i) rfl rfl rfl .nil ?_ (fun _ _ h=>aR h) (fun _=>Zs) (fun k L1 aX bj=> ?_)
  ·exact fun p c h=>by rw[h];rfl
  rw[aX,PR.aJ]
  simp(decide:=true)only[aL,aP]
  repeat'(first|exact .nil|refine .k0 ?_|refine .k1 ?_|refine .k2 ?_|refine .r1 ?_ ?_|fail)
  refine bI (rest:=rest) rfl (Od hw hN L1 bj i) rfl rfl rfl .nil ?_ (fun _ _ h=>aR h) (fun _=>Zs) (fun u L2 cJ cy=> ?_)
  ·exact fun p c h=>by rw[h];rfl
  simp(decide:=true)only[aL,aP]
  repeat'(first|exact .nil|refine .k0 ?_|refine .k1 ?_|refine .k2 ?_|refine .k7 ?_|refine .r1 ?_ ?_|fail)
  refine dc (a:=jh ⟨2,k,⟨#[]⟩⟩ u ⟨#[]⟩) (by rw[cJ];rfl) cy ?_
  repeat' first|exact .refl _|exact .nil|refine .cons ?_ ?_|refine .agg ?_
 ·rename_i h2
  rw[if_neg h2,if_pos hc]
  refine bI (rest:=rest) rfl (yV hw L hL i 3 (by decide)) rfl rfl rfl .nil ?_ (fun _ _ h=>aR h) (fun _=>Zs) (fun t3 L1 aX bj=> ?_)
  ·exact fun p c h=>by rw[h];rfl
  rw[aX,PR.aJ]
  obtain⟨et,hk3⟩:=ayH aX
  have Eg:nw t3:=by rw[et];exact hL.t _ (vf hL.e.ne)
  simp(decide:=true)only[aL,aP]
  repeat'(first|exact .nil|refine .k0 ?_|refine .k1 ?_|refine .k2 ?_|refine .r1 ?_ ?_|refine .an rfl (by intro bx;exact hD t3 Eg hk3) ?_ ?_|fail)
  refine bI (rest:=rest) rfl (Od hw hN L1 bj i) rfl rfl rfl .nil ?_ (fun _ _ h=>aR h) (fun _=>Zs) (fun u L2 cJ cy=> ?_)
  ·exact fun p c h=>by rw[h];rfl
  simp(decide:=true)only[aL,aP]
  repeat'(first|exact .nil|refine .k0 ?_|refine .k1 ?_|refine .k2 ?_|refine .k7 ?_|refine .r1 ?_ ?_|fail)
  refine dc (a:=jh ⟨3,nE t3.text,⟨#[]⟩⟩ u ⟨#[]⟩) (by rw[cJ];rfl) cy ?_
  repeat' first|exact .refl _|exact .nil|refine .cons ?_ ?_|refine .agg ?_
 ·rename_i h2 h3
  rw[if_neg h2,if_neg h3,if_pos hc]
  refine bI (rest:=rest) rfl (yV hw L hL i 4 (by decide)) rfl rfl rfl .nil ?_ (fun _ _ h=>aR h) (fun _=>Zs) (fun t L1 aX bj=> ?_)
  ·exact fun p c h=>by rw[h];rfl
  simp(decide:=true)only[aL,aP]
  repeat'(first|exact .nil|refine .k0 ?_|refine .k1 ?_|refine .k2 ?_|refine .k7 ?_|refine .r1 ?_ ?_|fail)
  refine dc (a:=jh ⟨4,0,t.text⟩ [] ⟨#[]⟩) (by rw[aX];rfl) bj ?_
  repeat' first|exact .refl _|exact .nil|refine .cons ?_ ?_|refine .agg ?_
 ·rename_i h2 h3 h4
  rw[if_neg h2,if_neg h3,if_neg h4,if_pos hc]
  refine bI (rest:=rest) rfl (ih.word i L hL (by rw[hc];decide) (by omega)) rfl rfl rfl .nil (fun _ _ h=>h) (fun _ _ h=>aR h) (fun _=>Zs) (fun x L1 aX bj=> ?_)
  simp(decide:=true)only[aL,aP]
  repeat'(first|exact .nil|refine .k0 ?_|refine .k1 ?_|refine .k7 ?_|refine .r1 ?_ ?_|fail)
  exact dc (a:=x) aX bj (.refl _)
 ·rename_i h2 h3 h4
  rw[if_neg h2,if_neg h3,if_neg h4,if_neg hc]
  by_cases hs:au 5 (ch 64) L=true
  ·have ht:=hL.tail (cr (k:=5) (by decide) L hs)
   rw[if_pos hs]
   refine nz (rest:=rest) rfl (fX L hL i 5 (by decide) (ch 64)) (jI hs) rfl rfl rfl .nil (fun _=> ?_)
   simp(decide:=true)only[aL,aP]
   (repeat'(first|exact .nil|refine .k0 ?_|refine .k1 ?_|refine .k2 ?_|(refine .cd ?_ ?_<;>first|with_reducible exact tF|(intro hc;skip))|refine .r1 ?_ ?_|fail))<;>(try(simp at hc;done))
   refine bI rfl (rd_key hw L.tail ht.1 i) rfl rfl rfl .nil (fun _ _ h=>h) (fun _ _ h=>aR h) (fun _=>Zs) (fun x L1 aX bj=> ?_)
   simp(decide:=true)only[aL,aP]
   repeat'(first|exact .nil|refine .k0 ?_|refine .k1 ?_|refine .k7 ?_|refine .r1 ?_ ?_|fail)
   exact dc (a:=x) aX bj (.refl _)
  ·rw[if_neg hs]
   refine nz (rest:=rest) rfl (fX L hL i 5 (by decide) (ch 64)) (jH hs) rfl rfl rfl .nil (fun _=> ?_)
   simp(decide:=true)only[aL,aP]
   (repeat'(first|exact .nil|refine .k0 ?_|refine .k1 ?_|refine .k2 ?_|refine .k9 ?_|(refine .cd ?_ ?_<;>first|with_reducible exact fT|(intro hc;skip))|refine .r1 ?_ ?_|fail))<;>(try(simp at hc;done))
   refine bI rfl (ih.group i L hL (by omega)) rfl rfl rfl .nil (fun _ _ h=>h) (fun _ _ h=>aR h) (fun _=>Zs) (fun x L1 aX bj=> ?_)
   simp(decide:=true)only[aL,aP]
   repeat'(first|exact .nil|refine .k0 ?_|refine .k1 ?_|refine .k7 ?_|refine .r1 ?_ ?_|fail)
   exact dc (a:=x) aX bj (.refl _)
theorem ru(hN:rZ)(hD:uw):∀ n,qi n
 |0=>⟨fun _ _ _ h=>absurd h (by omega),fun _ _ _ _ h=>absurd h (by omega),fun _ _ _ _ h=>absurd h (by omega),fun _ _ _ h=>absurd h (by omega),fun _ _ _ h=>absurd h (by omega),fun _ _ _ _ h=>absurd h (by omega),fun _ _ _ h=>absurd h (by omega)⟩
 |n+1=>⟨fun i L hL hn=>adW wO (ru hN hD n) i L hL hn,fun l i L hL hn=>adV (ru hN hD n) l i L hL hn,fun l i L hL hn=>ad1 (ru hN hD n) l i L hL hn,fun i L hL hn=>ad2 wO hN hD (ru hN hD n) i L hL hn,
   fun i L hL hn=>ad0 wO (ru hN hD n) i L hL hn,fun i L hL hk hn=>ad6 wO (ru hN hD n) i L hL hk hn,fun op L hL hn=>adT wO (ru hN hD n) op L hL hn⟩
theorem Wg(hN:rZ)(hD:uw)(i:Bool)(L:List Tok)(hL:Gd L):bG 38 [] i L (bD N0 i L) gG:=(ru hN hD N0).expr i L hL (by have:=hL.n;show _≤1000000;omega)
set_option linter.unusedSectionVars false
theorem aDK(hw:iQ)(L:List Tok)(hL:Gd L)(ins:Bool):bG 158 [] ins L (FI L) fun p=> .aI [sv p.1,sv p.2]:=by
 refine bG.intro fun b1 rest τ=> ?_
 refine Spec.cY (fun _=>0) Tryz.func158 aEi aEx (Z8 rfl) ?_
 unfold FI
 repeat'(first|exact .nil|refine .k0 ?_|refine .k1 ?_|refine .k2 ?_|refine .r1 ?_ ?_|fail)
 refine bI rfl (BU hw L hL ins) rfl rfl rfl .nil ?_ (fun _ _ h=>aR h) (fun _=>Zs) (fun nm L1 aX bj=> ?_)
 ·exact fun p c h=>by rw[h];rfl
 rw[aX,PR.aJ]
 simp(decide:=true)only[aL,aP]
 repeat'(first|exact .nil|refine .k0 ?_|refine .k1 ?_|refine .k2 ?_|refine .r1 ?_ ?_|fail)
 refine bI rfl (Gb hw L1 bj ins gj) rfl rfl rfl .nil ?_ (fun _ _ h=>aR h) (fun _=>Zs) (fun a2 L2 cJ cy=> ?_)
 ·exact fun p c h=>by rw[h];rfl
 rw[cJ,PR.aJ]
 simp(decide:=true)only[aL,aP]
 repeat'(first|exact .nil|refine .k0 ?_|refine .k1 ?_|refine .k2 ?_|refine .r1 ?_ ?_|fail)
 refine bI rfl (BU hw L2 cy ins) rfl rfl rfl .nil ?_ (fun _ _ h=>aR h) (fun _=>Zs) (fun en L3 nX nF=> ?_)
 ·exact fun p c h=>by rw[h];rfl
 simp(decide:=true)only[aL,aP]
 repeat'(first|exact .nil|refine .k0 ?_|refine .k1 ?_|refine .k7 ?_|refine .r1 ?_ ?_|fail)
 exact dc (a:=(nm,en)) (by rw[nX];rfl) nF (.refl _)
def aBM(lb bp bl b:Nat)(n e:af)(cK:Store)(acc:List dX)(τ:Store):Prop:=
 (acc=[]∧τ=(1,bp,.cells [.lp 1000 b 0])::(lb,bl,.cells [sv n,sv e,fE,iv 0])::cK)∨(acc≠[]∧∃ bb u c,τ=(1,bp,.cells [.lp 1000 b 0])::(lb,bl,.cells [sv n,sv e,.own 4 21 bb u c (acc.map dX.cells),iv 0])::(21,bb,.tail u c)::cK)
theorem aBM.aBS{lb lb' bp bl b:Nat}{n e:af}{cK τ:Store}{acc:List dX}(h:aBM lb bp bl b n e cK acc τ):∃ cU,aBM lb' bp bl b n e cK acc cU∧Sub cU τ:=by
 rcases h with⟨h0,rfl⟩|⟨h0,bb,u,c,rfl⟩
 ·exact⟨_,.inl ⟨h0,rfl⟩,.same (.same (.refl _))⟩
 ·exact⟨_,.inr ⟨h0,bb,u,c,rfl⟩,.same (.same (.refl _))⟩
theorem CY.aBS{α:Type}{f:FuncId}{ys:List AV}{σ:Store}{ins:Bool}{rest:List AV}{cK:Store}{r:PR α}{S S':α→Store→Prop}{b:Nat}(hS:∀ a τ,S a τ→∃ cU,S' a cU∧Sub cU τ)(h:Sx.Spec Tryz.prog f ys σ (CY ins rest cK r S b)):Sx.Spec Tryz.prog f ys σ (CY ins rest cK r S' b):=by
 refine qg.spec (h.mono fun x σ' hR=> ?_)
 cases r with
 |ok a L'=>obtain⟨cU,h1,h2,h3,rfl⟩:=hR;obtain⟨lh,h4,h5⟩:=hS _ _ h1;exact⟨lh,_,h4,h2,h3,.same h5,.refl _⟩
 |err p c=>exact hR
theorem Spec.aIT{P:Program}[Glob P]{f:FuncId}{ys:List AV}{σ σ':Store}{R:dj→Store→Prop}(h:Sx.Spec P f ys σ' R)(hs:Sub σ' σ):Sx.Spec P f ys σ R:=fun M w0 w cs hI hl=>h M w0 w cs (hI.sub hs) hl
theorem aIZ(hw:iQ)(hN:rZ)(bp bl b:Nat)(n e:af)(rest:List AV)(cK:Store)(ins:Bool):
  HF 159 [.lp 1 bp 0,.lp 3000 bl 0] Km ins b rest cK (aBM 3000 bp bl b n e cK):=by
 intro acc L τ hL Xu hS
 refine qg.spec ?_
 have nI:∀ (x:AV) (qc:Store),τ=(1,bp,.cells [.lp 1000 b 0])::(3000,bl,.cells [sv n,sv e,x,iv 0])::qc→((acc=[]∧x=fE∧qc=cK)∨(acc≠[]∧∃ bb u c,x= .own 4 21 bb u c (acc.map dX.cells)∧qc=(21,bb,.tail u c)::cK))→
   Sx.Spec Tryz.prog 159 [.lp 1 bp 0,.lp 3000 bl 0] ((1000,b,.cells (bh L ins++rest))::τ) (qg ins rest cK ((Km L).map fun a=>acc++[a]) (aBM 3000 bp bl b n e cK) b):=by
  rintro x qc rfl hx
  have ep:Sub cK qc:=by
   rcases hx with⟨_,_,rfl⟩|⟨_,_,_,_,_,rfl⟩
   ·exact .refl _
   ·exact .cons (.refl _)
  refine Spec.cY (fun _=>0) Tryz.func159 aEj aEy (Z8 rfl) ?_
  unfold Km
  repeat'(first|exact .nil|refine .k0 ?_|refine .k1 ?_|refine .k2 ?_|refine .r1 ?_ ?_|fail)
  refine bI rfl (BU hw L hL ins) rfl rfl rfl .nil ?_ (fun _ _ h=>aR (qg.cL ep (val:=fun _=> .any) (τ:=qc) h)) (fun _=>Zs) (fun nm L1 aX bj=> ?_)
  ·exact fun p c h=>by rw[h];rfl
  rw[aX,PR.aJ]
  simp(decide:=true)only[aL,aP]
  repeat'(first|exact .nil|refine .k0 ?_|refine .k1 ?_|refine .k2 ?_|refine .r1 ?_ ?_|(refine .l1 ?_;intro b)|fail)
  refine bI rfl (rq hw L1 bj ins (ch 58)) rfl rfl rfl .nil ?_ (fun _ _ h=>aR (qg.cL ep (val:=fun _=> .any) (τ:=qc) h)) (fun _=>Zs) (fun a2 L2 cJ cy=> ?_)
  ·exact fun p c h=>by rw[h];rfl
  rw[cJ,PR.aJ]
  simp(decide:=true)only[aL,aP]
  repeat'(first|exact .nil|refine .k0 ?_|refine .k1 ?_|refine .k2 ?_|refine .r1 ?_ ?_|fail)
  refine bI rfl (aDJ hw hN L2 cy ins) rfl rfl rfl .nil ?_ (fun _ _ h=>aR (qg.cL ep (val:=fun _=> .any) (τ:=qc) h)) (fun _=>Zs) (fun ty L3 nX nF=> ?_)
  ·exact fun p c h=>by rw[h];rfl
  rw[nX]
  simp(decide:=true)only[aL,aP]
  rename Nat=>b2
  rcases hx with⟨rfl,rfl,rfl⟩|⟨aQ,bb,u,c,rfl,rfl⟩
  ·repeat'(first|exact .nil|refine .k0 ?_|refine .k1 ?_|refine .k2 ?_|refine .k3 ?_|refine .r1 ?_ ?_|refine .u1 ?_ ?_ ?_ (fun b u c=> ?_)|fail)
   ·exact Z8 rfl
   ·simp
   ·show _ * _≤_;simp only[Z9,Z4];omega
   ·exact⟨_,_,.inr ⟨by simp,_,_,_,rfl⟩,nF,rfl,by exact Zs,(Yk (l₁:=[_,_,_])).symm⟩
  ·repeat'(first|exact .nil|refine .k0 ?_|refine .k1 ?_|refine .k2 ?_|refine .k3 ?_|refine .r1 ?_ ?_|refine .u2 ?_ ?_ ?_ (fun b u c=> ?_)|(show List.all _ _=true;rfl)|fail)
   ·exact Z8 rfl
   ·show _ * _≤_;simp only[Z3,Z9,Z4];omega
   ·exact⟨_,_,.inr ⟨by simp,b,u,c,by rw[Y2]⟩,nF,rfl,by exact Zs,List.Perm.refl _⟩
 rcases hS with⟨h1,rfl⟩|⟨h1,bb,u,c,rfl⟩
 ·exact nI fE cK rfl (.inl ⟨h1,rfl,rfl⟩)
 ·exact nI _ _ rfl (.inr ⟨h1,bb,u,c,rfl,rfl⟩)
set_option linter.unusedSectionVars false
def rV(e tg:Nat)(rows:List (List AV))(x:AV)(τ:Store):Prop:=(rows=[]∧x=fE∧τ=[])∨(rows≠[]∧∃ bb u c,x= .own e tg bb u c rows∧τ=[(tg,bb,.tail u c)])
structure HK(m:oK)(x1 x2:AV)(ke lh:Store):Prop where
 t:rV 4 49 (m.tables.map gp.cells) x1 ke
 f:rV 18 40 (m.AK.map mb.cells) x2 lh
def Qn(b:Nat)(cK:Store)(m:oK)(x1 x2:AV)(ke lh:Store)(r:PR rX)(x:dj)(σ':Store):Prop:=match r with
 | .ok a L'=>∃ y1 y2 um uo,HK (IE m a) y1 y2 um uo∧Gd L'∧x= .ret (.aI [])∧σ'=(1000,b,.cells (bh L' false++[y1,y2]))::(um++uo++cK)
 | .err p c=>x= .cL [{v:=sA p c,recovered:=false}]∧∃ L' i',σ'=(1000,b,.cells (bh L' i'++[x1,x2]))::(ke++lh++cK)
def Ae(b:Nat)(cK:Store)(m:oK)(x1 x2:AV)(ke lh:Store)(r:PR rX)(x:dj)(σ':Store):Prop:=match r with
 | .ok a L'=>∃ y1 y2 um uo σ2,HK (IE m a) y1 y2 um uo∧Gd L'∧x= .ret (.aI [])∧Sub σ2 σ'∧σ2.Perm ((1000,b,.cells (bh L' false++[y1,y2]))::(um++uo++cK))
 | .err p c=>x= .cL [{v:=sA p c,recovered:=false}]∧∃ L' i',Sub ((1000,b,.cells (bh L' i'++[x1,x2]))::(ke++lh++cK)) σ'
theorem Ae.spec{f:FuncId}{ys:List AV}{σ:Store}{b:Nat}{cK:Store}{m:oK}{x1 x2:AV}{ke lh:Store}{r:PR rX}(h:Sx.Spec Tryz.prog f ys σ (Ae b cK m x1 x2 ke lh r)):Sx.Spec Tryz.prog f ys σ (Qn b cK m x1 x2 ke lh r):=by
 intro M w0 w vs hI hR
 refine(h M w0 w vs hI hR).mono fun e w' ⟨M',x,σ',hM,hI',hx,hq⟩=> ?_
 cases r with
 |ok a L'=>obtain⟨y1,y2,um,uo,σ2,h1,h2,h3,h4,h5⟩:=hq;exact⟨M',x,_,hM,(hI'.sub h4).perm h5,hx,y1,y2,um,uo,h1,h2,h3,rfl⟩
 |err p c=>obtain⟨h1,L',i',h2⟩:=hq;exact⟨M',x,_,hM,hI'.sub h2,hx,h1,L',i',rfl⟩
theorem Ae.cL{b:Nat}{cK τ:Store}{m:oK}{x1 x2:AV}{ke lh:Store}{r:PR rX}(hs:τ=ke++lh++cK){val:rX→AV}{ch:List PanicEntry}{σ':Store}(h:nt false [x1,x2] r val b τ (.cL ch) σ'):Ae b cK m x1 x2 ke lh r (.cL ch) σ':=by
 obtain⟨x,cs',h1,h2,h3⟩:=h
 subst hs
 cases r with
 |ok a L'=>obtain⟨_,e,_⟩:=h1;subst e;exact h3.elim
 |err p c=>obtain⟨e,L',i',rfl⟩:=h1;subst e;exact⟨congrArg _ h3,L',i',h2⟩
theorem aFC:Pos 1 Km:=(Pos.bind (n:=1) (m:=2) Pos.name fun n=>Pos.bind (n:=1) (m:=1) (Pos.bU (by decide)) fun _=>Pos.map Pos.kind).le (by omega)
theorem aI1(hw:iQ)(hN:rZ)(b0:Nat)(m:oK)(hm:m.tables.length≤100000)(x1 x2:AV)(cK ke lh:Store)(hS:HK m x1 x2 ke lh)(L:List Tok)(hL:Gd L):
  Sx.Spec Tryz.prog 114 [.lp 1000 b0 0] ((1000,b0,.cells (bh L false++[x1,x2]))::(ke++lh++cK)) (Qn b0 cK m x1 x2 ke lh ((O8 L).map .O6)):=by
 refine Ae.spec ?_
 generalize zE:ke++lh++cK=τ
 refine Spec.cY (fun _=>0) Tryz.func114 aEf aEu (Z8 rfl) ?_
 unfold O8
 repeat'(first|exact .nil|refine .k0 ?_|refine .k1 ?_|refine .k2 ?_|refine .r1 ?_ ?_|(refine .l1 ?_;intro b)|(refine .m1 ?_ ?_;intro b)|fail)
 rename_i bp
 rename Nat=>b2
 refine bI rfl (aDK hw L hL false) rfl rfl rfl .nil ?_ (fun _ _ h=>aR (Ae.cL zE.symm (val:=fun _=> .any) h)) (fun _=>Zs) (fun ne L1 aX bj=> ?_)
 ·exact fun p c h=>by rw[h];rfl
 rw[aX,PR.aJ]
 simp(decide:=true)only[aL,aP]
 repeat'(first|exact .nil|refine .k0 ?_|refine .k1 ?_|refine .k2 ?_|refine .r1 ?_ ?_|fail)
 refine bI rfl (rq hw L1 bj false (ch 123)) rfl rfl rfl .nil ?_ (fun _ _ h=>aR (Ae.cL zE.symm (val:=fun _=> .any) h)) (fun _=>Zs) (fun a2 L2 cJ cy=> ?_)
 ·exact fun p c h=>by rw[h];rfl
 rw[cJ,PR.aJ]
 simp(decide:=true)only[aL,aP]
 repeat'((fail_if_success (show WK _ _ _ _ _ _ _ _));(first|refine .k0 ?_|refine .k1 ?_|fail))
 refine jQ rfl ?_
 refine lq (fun rg σ'=>∃ (l:List dX) (L3:List Tok),Gd L3∧Kn L2= .ok l L3∧σ'=(2,b2,.cells [sv ne.1,sv ne.2,.sl false 4 (l.map dX.cells),iv 0])::(1,bp,.cells [.lp 1000 b0 0])::(1000,b0,.cells (bh L3 false++[x1,x2]))::τ∧rg=[(1,.lp 1 bp 0),(2,.lp 2 b2 0)]) ?_ ?_
 ·repeat'(first|exact .nil|refine .k0 ?_|refine .k1 ?_|refine .k2 ?_|refine .r1 ?_ ?_|fail)
  unfold Kn
  by_cases hs:au 5 (ch 125) L2=true
  ·have ht:=cy.tail (cr (k:=5) (by decide) L2 hs)
   refine nz rfl (fX L2 cy false 5 (by decide) (ch 125)) (jI hs) rfl rfl rfl .nil (fun _=> ?_)
   simp(decide:=true)only[aL,aP]
   rw[if_pos hs]
   (repeat'(first|exact .nil|refine .k0 ?_|refine .k1 ?_|refine .k2 ?_|refine .k9 ?_|(refine .cd ?_ ?_<;>(intro hc;skip))|refine .r1 ?_ ?_|fail))<;>(try(simp at hc;done))
   exact dH.vC (ks:=[1,2]) rfl ⟨[],L2.tail,ht.1,rfl,rfl,rfl⟩ (.here (.cons (.refl _) (.cons (.refl _) (.cons .nil (.cons (.refl _) .nil)))) (.refl _))
  ·refine nz rfl (fX L2 cy false 5 (by decide) (ch 125)) (jH hs) rfl rfl rfl .nil (fun _=> ?_)
   simp(decide:=true)only[aL,aP]
   rw[if_neg hs]
   (repeat'(first|exact .nil|refine .k0 ?_|refine .k1 ?_|refine .k2 ?_|refine .k9 ?_|(refine .cd ?_ ?_<;>(intro hc;skip))|refine .r1 ?_ ?_|fail))<;>(try(simp at hc;done))
   refine se rfl (CY.aBS (S':=aBM 2 bp b2 b0 ne.1 ne.2 τ) (fun _ _ h=>h.aBS) ((Spec.aIT (acv (c:= #[.pointer (some ⟨bp,0,none⟩),.pointer (some ⟨b2,0,none⟩)]) (by rfl) (.cons .raw (.cons .raw .nil)) (aIZ hw hN bp b2 b0 ne.1 ne.2 [x1,x2] τ false) aFC (ch 44) L2 _ cy (.inl ⟨rfl,rfl⟩)) (.same (.same (.same (.refl _))))).permA (adp _ _ _ _))) .nil (fun x σ' hR=> ?_) (fun c σ' hR=> ?_)
   ·cases hr:gy (ch 44) Km L2 with
    |err p c=>rw[hr]at hR;cases hR.1
    |ok l L3=>
     rw[hr]at hR
     obtain⟨υ,KU,nF,hx,rfl⟩:=hR
     cases hx
     rw[PR.aJ]
     rcases KU with⟨h0,rfl⟩|⟨h0,bb,u,c,rfl⟩
     ·repeat'(first|exact .nil|refine .k0 ?_|refine .k1 ?_|refine .k2 ?_|refine .r1 ?_ ?_|fail)
      refine bI rfl (rq hw L3 nF false (ch 125)) rfl rfl rfl .nil ?_ (fun _ _ h=>aR (Ae.cL zE.symm (val:=fun _=> .any) h)) (fun _=>Zs) (fun a4 L4 hr4 xN=> ?_)
      ·exact fun p c h=>by rw[h];rfl
      simp(decide:=true)only[aL,aP]
      repeat'(first|refine .k1 ?_|refine .k2 ?_|fail)
      exact dH.vC (ks:=[1,2]) rfl ⟨l,L4,xN,by rw[hr4];rfl,rfl,rfl⟩ (.perm (adp _ _ _ _) (.here (l':=[sv ne.1,sv ne.2,.sl false 4 (l.map dX.cells),iv 0]) (.cons (.refl _) (.cons (.refl _) (.cons (by rw[h0];exact .nil) (.cons (.refl _) .nil)))) (.refl _)))
     ·repeat'(first|exact .nil|refine .k0 ?_|refine .k1 ?_|refine .k2 ?_|refine .r1 ?_ ?_|fail)
      refine bI rfl (rq hw L3 nF false (ch 125)) rfl rfl rfl .nil ?_ (fun _ _ h=>aR (Ae.cL zE.symm (val:=fun _=> .any) h)) (fun _=>Zs) (fun a4 L4 hr4 xN=> ?_)
      ·exact fun p c h=>by rw[h];rfl
      simp(decide:=true)only[aL,aP]
      repeat'(first|refine .k1 ?_|refine .k2 ?_|fail)
      exact dH.vC (ks:=[1,2]) rfl ⟨l,L4,xN,by rw[hr4];rfl,rfl,rfl⟩ (.perm (adp _ _ _ _) (.here (.cons (.refl _) (.cons (.refl _) (.cons (.own false) (.cons (.refl _) .nil)))) (.refl _)))
   ·refine aR ?_
    cases hr:gy (ch 44) Km L2 with
    |ok l L1=>rw[hr]at hR;obtain⟨_,_,_,h,_⟩:=hR;cases h
    |err p c=>rw[hr]at hR;obtain⟨e,L',i',h⟩:=hR;cases e;exact⟨rfl,L',i',by rw[zE];exact h⟩
 ·rintro _ _ ⟨l,L3,nF,nX,rfl,rfl⟩
  rw[nX,PR.aJ]
  refine lq (fun rg σ'=>∃ (k:Int) (L4:List Tok),Gd L4∧Mw L3= .ok k L4∧σ'=(2,b2,.cells [sv ne.1,sv ne.2,.sl false 4 (l.map dX.cells),iv k])::(1,bp,.cells [.lp 1000 b0 0])::(1000,b0,.cells (bh L4 false++[x1,x2]))::τ∧rg=[(1,.lp 1 bp 0),(2,.lp 2 b2 0)]) ?_ ?_
  ·repeat'(first|exact .nil|refine .k0 ?_|refine .k1 ?_|refine .k2 ?_|refine .r1 ?_ ?_|fail)
   unfold Mw
   by_cases hs:au 1 azh L3=true
   ·have ht:=nF.tail (cr (k:=1) (by decide) L3 hs)
    refine nz rfl (fX L3 nF false 1 (by decide) azh) (jI hs) rfl rfl rfl .nil (fun _=> ?_)
    simp(decide:=true)only[aL,aP]
    rw[if_pos hs]
    (repeat'(first|exact .nil|refine .k0 ?_|refine .k1 ?_|refine .k2 ?_|(refine .cd ?_ ?_<;>first|with_reducible exact tF|(intro hc;skip))|refine .r1 ?_ ?_|fail))<;>(try(simp at hc;done))
    refine bI rfl (wg hw L3.tail ht.1 false) rfl rfl rfl .nil ?_ (fun _ _ h=>aR (Ae.cL zE.symm (val:=fun _=> .any) h)) (fun _=>Zs) (fun k L4 hr4 xN=> ?_)
    ·exact fun p c h=>by rw[h];rfl
    simp(decide:=true)only[aL,aP]
    repeat'(first|exact .nil|refine .k0 ?_|refine .k1 ?_|refine .k2 ?_|refine .r1 ?_ ?_|fail)
    exact dH.intro (ks:=[1,2]) rfl ⟨k,L4,xN,hr4,rfl,rfl⟩
   ·refine nz rfl (fX L3 nF false 1 (by decide) azh) (jH hs) rfl rfl rfl .nil (fun _=> ?_)
    simp(decide:=true)only[aL,aP]
    rw[if_neg hs]
    (repeat'(first|refine .k0 ?_|refine .k1 ?_|refine .k2 ?_|refine .k9 ?_|(refine .cd ?_ ?_<;>first|with_reducible exact fT|(intro hc;skip))|fail))<;>(try(simp at hc;done))
    exact dH.intro (ks:=[1,2]) rfl ⟨0,L3,nF,rfl,rfl,rfl⟩
  ·rintro _ _ ⟨k,L4,xN,hr4,rfl,rfl⟩
   rw[hr4,PR.aJ]
   repeat'(first|exact .nil|refine .k0 ?_|refine .k1 ?_|refine .k2 ?_|refine .r1 ?_ ?_|fail)
   refine bI rfl (rq hw L4 xN false (ch 59)) rfl rfl rfl .nil ?_ (fun _ _ h=>aR (Ae.cL zE.symm (val:=fun _=> .any) h)) (fun _=>Zs) (fun a5 L5 hr5 sH=> ?_)
   ·exact fun p c h=>by rw[h];rfl
   simp(decide:=true)only[aL,aP]
   rw[hr5]
   obtain⟨Ef,Xo⟩:=hS
   subst zE
   rcases Ef with⟨h0,rfl,rfl⟩|⟨h0,bb,u,c,rfl,rfl⟩
   ·repeat'(first|exact .nil|refine .k0 ?_|refine .k1 ?_|refine .k3 ?_|refine .r1 ?_ ?_|refine .u1 ?_ ?_ ?_ (fun b u c=> ?_)|refine .r8 ?_ ?_|fail)
    ·exact Z8 rfl
    ·simp
    ·exact Z8 rfl
    refine aJy (cs':=bh L5 false++[.own 4 49 b u c [gp.cells ⟨ne.1,ne.2,l,k⟩],x2]) rfl rfl rfl rfl rfl ⟨rfl,by simp[bh]⟩ (by rfl) .nil ?_
    repeat'(first|exact .nil|refine .k1 ?_|refine .k3 ?_|refine .r1 ?_ ?_|fail)
    refine⟨_,_,_,_,_,⟨.inr ⟨by simp[IE],b,u,c,?_,rfl⟩,Xo⟩,sH,rfl,by exact Zs,List.Perm.swap _ _ _⟩
    simp[IE,YO.1 h0]
   ·repeat'(first|exact .nil|refine .k0 ?_|refine .k1 ?_|refine .k3 ?_|refine .r1 ?_ ?_|refine .u2 ?_ ?_ ?_ (fun b u c=> ?_)|refine .r8 ?_ ?_|(show List.all _ _=true;rfl)|fail)
    ·exact Z8 rfl
    ·show _ * _≤_;simp only[Z3,Z9,Z4];omega
    refine aJy (cs':=bh L5 false++[.own 4 49 b u c (m.tables.map gp.cells++[gp.cells ⟨ne.1,ne.2,l,k⟩]),x2]) rfl rfl rfl rfl rfl ⟨rfl,by simp[bh]⟩ (by rfl) .nil ?_
    repeat'(first|exact .nil|refine .k1 ?_|refine .k3 ?_|refine .r1 ?_ ?_|fail)
    refine⟨_,_,_,_,_,⟨.inr ⟨by simp[IE],b,u,c,?_,rfl⟩,Xo⟩,sH,rfl,by exact Zs,.refl _⟩
    simp[IE]
set_option linter.unusedSectionVars false
theorem aFA{α:Type}(a e:α)(l1 l2:List α):(e::a::(l1++[]++l2)).Perm (a::(l1++[e]++l2)):=
 (List.Perm.swap a e _).trans (.cons a (by rw[Zn,ZA];exact List.perm_middle.symm))
theorem aEN(hw:iQ)(hN:rZ)(hD:uw)(b0:Nat)(m:oK)(hm:m.AK.length≤100000)(x1 x2:AV)(cK ke lh:Store)(hS:HK m x1 x2 ke lh)(L:List Tok)(hL:Gd L):
  Sx.Spec Tryz.prog 115 [.lp 1000 b0 0] ((1000,b0,.cells (bh L false++[x1,x2]))::(ke++lh++cK)) (Qn b0 cK m x1 x2 ke lh ((Kh L).map .Kg)):=by
 refine Ae.spec ?_
 generalize zE:ke++lh++cK=τ
 refine Spec.cY (fun _=>0) Tryz.func115 aEg aEv (Z8 rfl) ?_
 unfold Kh
 repeat'(first|exact .nil|refine .k0 ?_|refine .k1 ?_|refine .k2 ?_|refine .r1 ?_ ?_|(refine .l1 ?_;intro b)|fail)
 rename Nat=>b2
 refine bI rfl (aDK hw L hL false) rfl rfl rfl .nil ?_ (fun _ _ h=>aR (Ae.cL zE.symm (val:=fun _=> .any) h)) (fun _=>Zs) (fun ne L1 aX bj=> ?_)
 ·exact fun p c h=>by rw[h];rfl
 rw[aX,PR.aJ]
 simp(decide:=true)only[aL,aP]
 repeat'(first|exact .nil|refine .k0 ?_|refine .k1 ?_|refine .k2 ?_|refine .r1 ?_ ?_|fail)
 refine bI rfl (rq hw L1 bj false (ch 58)) rfl rfl rfl .nil ?_ (fun _ _ h=>aR (Ae.cL zE.symm (val:=fun _=> .any) h)) (fun _=>Zs) (fun a2 L2 cJ cy=> ?_)
 ·exact fun p c h=>by rw[h];rfl
 rw[cJ,PR.aJ]
 simp(decide:=true)only[aL,aP]
 repeat'(first|exact .nil|refine .k0 ?_|refine .k1 ?_|refine .k2 ?_|refine .r1 ?_ ?_|fail)
 refine bI rfl (aDJ hw hN L2 cy false) rfl rfl rfl .nil ?_ (fun _ _ h=>aR (Ae.cL zE.symm (val:=fun _=> .any) h)) (fun _=>Zs) (fun ty L3 nX nF=> ?_)
 ·exact fun p c h=>by rw[h];rfl
 rw[nX,PR.aJ]
 simp(decide:=true)only[aL,aP]
 repeat'(first|exact .nil|refine .k0 ?_|refine .k1 ?_|refine .k2 ?_|refine .r1 ?_ ?_|fail)
 refine bI rfl (rq hw L3 nF false (ch 61)) rfl rfl rfl .nil ?_ (fun _ _ h=>aR (Ae.cL zE.symm (val:=fun _=> .any) h)) (fun _=>Zs) (fun a4 L4 hr4 xN=> ?_)
 ·exact fun p c h=>by rw[h];rfl
 rw[hr4,PR.aJ]
 simp(decide:=true)only[aL,aP]
 repeat'(first|exact .nil|refine .k0 ?_|refine .k1 ?_|refine .k2 ?_|refine .r1 ?_ ?_|fail)
 refine bI rfl (Wg hN hD false L4 xN) rfl rfl rfl .nil ?_ (fun _ _ h=>aR (Ae.cL zE.symm (val:=fun _=> .any) h)) (fun _=>Zs) (fun x L5 hr5 sH=> ?_)
 ·exact fun p c h=>by rw[h];rfl
 rw[hr5,PR.aJ]
 simp(decide:=true)only[aL,aP]
 repeat'(first|exact .nil|refine .k0 ?_|refine .k1 ?_|refine .k2 ?_|refine .r1 ?_ ?_|fail)
 refine bI rfl (rq hw L5 sH false (ch 59)) rfl rfl rfl .nil ?_ (fun _ _ h=>aR (Ae.cL zE.symm (val:=fun _=> .any) h)) (fun _=>Zs) (fun a6 L6 vw A0=> ?_)
 ·exact fun p c h=>by rw[h];rfl
 simp(decide:=true)only[aL,aP]
 rw[vw]
 obtain⟨Ef,Xo⟩:=hS
 subst zE
 rcases Xo with⟨h0,rfl,rfl⟩|⟨h0,bb,u,c,rfl,rfl⟩
 ·repeat'(first|exact .nil|refine .k0 ?_|refine .k1 ?_|refine .k3 ?_|refine .r1 ?_ ?_|refine .u1 ?_ ?_ ?_ (fun b u c=> ?_)|refine .r8 ?_ ?_|fail)
  ·exact Z8 rfl
  ·simp
  ·exact Z8 rfl
  refine aJy (cs':=bh L6 false++[x1,.own 18 40 b u c [mb.cells ⟨ne.1,ne.2,ty,x,0⟩]]) rfl rfl rfl rfl rfl ⟨rfl,by simp[bh]⟩ (by rfl) .nil ?_
  repeat'(first|exact .nil|refine .k1 ?_|refine .k3 ?_|refine .r1 ?_ ?_|fail)
  refine⟨_,_,_,_,_,⟨Ef,.inr ⟨by simp[IE],b,u,c,?_,rfl⟩⟩,A0,rfl,by exact Zs,aFA _ _ _ _⟩
  simp[IE,YO.1 h0]
 ·rcases Ef with⟨g0,rfl,rfl⟩|⟨g0,bb1,u1,c1,rfl,rfl⟩
  ·repeat'(first|exact .nil|refine .k0 ?_|refine .k1 ?_|refine .k3 ?_|refine .r1 ?_ ?_|refine .u2 ?_ ?_ ?_ (fun b u c=> ?_)|(show List.all _ _=true;rfl)|fail)
   ·exact Z8 rfl
   ·show _ * _≤_;simp only[Z3,Z9,Z4];omega
   refine⟨_,_,_,_,_,⟨.inl ⟨g0,rfl,rfl⟩,.inr ⟨by simp[IE],b,u,c,?_,rfl⟩⟩,A0,rfl,by exact Zs,.refl _⟩
   simp[IE]
   rfl
  ·repeat'(first|exact .nil|refine .k0 ?_|refine .k1 ?_|refine .k3 ?_|refine .r1 ?_ ?_|refine .u2 ?_ ?_ ?_ (fun b u c=> ?_)|(show List.all _ _=true;rfl)|fail)
   ·exact Z8 rfl
   ·show _ * _≤_;simp only[Z3,Z9,Z4];omega
   refine⟨_,_,_,_,_,⟨.inr ⟨g0,bb1,u1,c1,rfl,rfl⟩,.inr ⟨by simp[IE],b,u,c,?_,rfl⟩⟩,A0,rfl,by exact Zs,.refl _⟩
   simp[IE]
   rfl
end Go.Proofs.YtbihckigennlhaaGreatDoor
