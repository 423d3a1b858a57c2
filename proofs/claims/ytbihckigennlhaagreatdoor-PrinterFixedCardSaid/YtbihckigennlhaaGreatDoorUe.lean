/- The reader's aggregate. -/
import Derived.Test.YtbihckigennlhaaGreatDoorUc
import Derived.Test.YtbihckigennlhaaGreatDoorTz
import Derived.Test.YtbihckigennlhaaGreatDoorYf
set_option linter.unusedSimpArgs false
set_option linter.unusedVariables false
set_option maxRecDepth 100000
set_option maxHeartbeats 4000000
namespace Go.Proofs.YtbihckigennlhaaGreatDoor
open Go.Sx Go.Proofs
theorem ET(n:Int):Pure Tryz.prog 219 [iv n] (gh (ff n)):=by
 refine Xn.p fun σ=> ?_
 repeat'(first|exact .nil|refine .k0 ?_|refine .k1 ?_|refine .k2 ?_|refine .k7 ?_|refine .r1 ?_ ?_|(refine .l1 ?_;intro b)|fail)
 all_goals(try simp only[BL]at *)
 all_goals(refine Sx.Fin.wk Zs ?_;repeat' first|exact .refl _|exact .nil|refine .cons ?_ ?_|refine .agg ?_)
theorem abU{α:Type}{ins:Bool}{rest:List AV}{r:PR α}{val:α→AV}{a:α}{l l':List AV}{L':List Tok}{b t bb e:Nat}{rows:List (List AV)}{τ σ' aw:Store}(h:r= .ok a L')(hL:Gd L')(hf:nJ t bb rows.flatten σ' aw)(hr:∀ r∈rows,r.length=e)(hn:rows.length≤maxLen)(hl:nI bb e rows l l')(hx:Wk (.agg l') (val a))(hs:Sub ((1000,b,.cells (aZ L' ins++rest))::τ) aw):
  FW ins rest r val b τ (.ret (.agg l)) σ':= .inr ⟨l,l',t,bb,e,rows,aw,rfl,hf,hr,hn,hl,cQ h hL hx hs⟩
theorem P3{x y:Ex}:Wk (.sl false 12 [x.row,y.row]) (.sl false 12 ([x,y].map Ex.cells)):=by
 rw[Ex.nR];exact .refl _
theorem abK(hw:ib){n:Nat}(ih:o5 n)(op:ag)(L:List Tok)(hL:Gd L)(hn:8 * L.length+3≤n+1):bC 220 [sv op] false L (fh (n+1) op L) gh:=by
 refine bC.WL fun b rest τ=> ?_
 refine Spec.cN (fun i=>bif Nat.beq i 9 then 2 else 0) Tryz.func220 RW Tc (Z9 rfl) ?_
 rw[fh]
 repeat'(first|exact .nil|refine .k0 ?_|refine .k1 ?_|refine .k2 ?_|refine .r1 ?_ ?_|(refine .l1 ?_;intro b)|refine .an rfl (by intro aO;exact ET 1) ?_ ?_|fail)
 all_goals(try simp only[BL]at *)
 refine O2 ((ff 1).row++(ff 1).row) 2 rfl rfl rfl .nil rfl (by decide) rfl fun b9=> ?_
 repeat'(first|exact .nil|refine .k0 ?_|refine .k1 ?_|refine .k2 ?_|refine .r1 ?_ ?_|(refine .l1 ?_;intro b)|fail)
 all_goals(try simp only[BL]at *)
 rename_i b1 b4
 rename Nat=>b5
 refine bG rfl (qf hw L hL false (ch 40)) rfl rfl rfl .nil ?_ (fun _ _ h=>aP (.inl h)) (fun _=>Zs) (fun a1 L1 aU bg=> ?_)
 ·exact fun p c h=>by rw[h];rfl
 rw[aU,PR.aD]
 have iA:=(Pos.bK (k:=5) (s:=ch 40) (by decide) L hL.e).ok _ _ aU
 simp(decide:=true)only[aH,aN]
 repeat'(first|exact .nil|refine .k0 ?_|refine .k1 ?_|refine .k2 ?_|refine .r1 ?_ ?_|fail)
 all_goals(try simp only[BL]at *)
 refine bG rfl (Ap hw L1 bg false) rfl rfl rfl .nil ?_ (fun _ _ h=>aP (.inl h)) (fun _=>Zs) (fun tb L2 cI cq=> ?_)
 ·exact fun p c h=>by rw[h];rfl
 rw[cI,PR.aD]
 have dH:=(Pos.name L1 bg.e).ok _ _ cI
 simp(decide:=true)only[aH,aN]
 repeat'(first|exact .nil|refine .k0 ?_|refine .k1 ?_|refine .k2 ?_|refine .r1 ?_ ?_|fail)
 all_goals(try simp only[BL]at *)
 refine bG rfl (qf hw L2 cq false (ch 44)) rfl rfl rfl .nil ?_ (fun _ _ h=>aP (.inl h)) (fun _=>Zs) (fun a3 L3 mZ mI=> ?_)
 ·exact fun p c h=>by rw[h];rfl
 rw[mZ,PR.aD]
 have uo:=(Pos.bK (k:=5) (s:=ch 44) (by decide) L2 cq.e).ok _ _ mZ
 simp(decide:=true)only[aH,aN]
 repeat'(first|exact .nil|refine .k0 ?_|refine .k1 ?_|refine .k2 ?_|refine .r8 ?_ ?_|fail)
 all_goals(try simp only[BL]at *)
 refine mB (cs':=aZ L3 true++rest) rfl rfl rfl rfl rfl ⟨rfl,by simp[aZ]⟩ .nil ?_
 simp(decide:=true)only[aH,aN]
 repeat'((fail_if_success (show WK _ _ _ _ _ _ _ _));(first|refine .k0 ?_|refine .k1 ?_|fail))
 refine ji rfl ?_
 refine kb (fun rg σ'=>∃ (ea:Ex) (L5:List Tok),Gd L5∧L5.length≤L3.length∧(if op≠sH then(bj n true L3).bind fun x L4=>(de (ch 44) L4).map fun _=>x else .ok (ff 1) L3)= .ok ea L5∧
  σ'=(5,b5,.cells [iv 5,sv op,sv ⟨#[]⟩,sv tb,iv 0,iv 0,sv ⟨#[]⟩,.v (.slice none 0 0),iv 0,iv 0,iv 0,.ms 9 b9 0 2 2])::(9,b9,.cells (ea.row++(ff 1).row))::(4,b4,.cells [iv 0,sv ⟨#[]⟩,sv ⟨#[]⟩,sv ⟨#[]⟩,iv 0,iv 0,sv ⟨#[]⟩,.v (.slice none 0 0),iv 0,iv 0,iv 0,.v (.slice none 0 0)])::(1000,b1,.cells (aZ L5 true++rest))::τ∧
  rg=[(0,.lp 1000 b1 0),(1,sv op),(4,.lp 4 b4 0),(5,.lp 5 b5 0)]) ?_ ?_
 ·repeat'((fail_if_success (show WK _ _ _ _ (.c8 _ _) _ _ _));(first|exact .nil|refine .k0 ?_|refine .k1 ?_|refine .k2 ?_|refine .k9 ?_|(refine .cd ?_ ?_<;>(intro hc;skip))|refine .r1 ?_ ?_|fail))
  all_goals(try simp only[BL]at *)
  ·refine vN [1000] 26 rfl rfl rfl rfl ?_
   repeat'(first|exact .nil|refine .k0 ?_|refine .r1 ?_ ?_|fail)
   refine vM rfl rfl (ih.expr true L3 mI (by omega)) rfl rfl rfl .nil ?_ (fun _ _ h=>aP (.inl h)) (fun _=>Zs) (fun ea L4 ur wy=> ?_)
   ·exact fun p c h=>by rw[if_pos hc,h];rfl
   have uq:=((jz n).expr true L3 mI.e).ok _ _ ur
   simp(decide:=true)only[aH,aN]
   repeat'(first|exact .nil|refine .k0 ?_|refine .k1 ?_|refine .k2 ?_|refine .r1 ?_ ?_|refine .r8 ?_ ?_|fail)
   ·exact⟨by decide,by decide⟩
   refine bG rfl (qf hw L4 wy true (ch 44)) rfl rfl rfl .nil ?_ (fun _ _ h=>aP (.inl h)) (fun _=>Zs) (fun a5 L5 rI qY=> ?_)
   ·exact fun p c h=>by rw[if_pos hc,ur,PR.aD,PR.map,h];rfl
   have zL:=(Pos.bK (k:=5) (s:=ch 44) (by decide) L4 wy.e).ok _ _ rI
   simp(decide:=true)only[aH,aN]
   repeat'(first|refine .k1 ?_|refine .k2 ?_|fail)
   exact dw.intro rfl ⟨ea,L5,qY,by omega,by rw[if_pos hc,ur,PR.aD,PR.map,rI];rfl,rfl,rfl⟩
  ·exact dw.intro rfl ⟨ff 1,L3,mI,ZK _,by rw[if_neg (fun h=>h hc)],rfl,rfl⟩
 ·rintro _ _ ⟨ea,L5,qY,hl5,rI,rfl,rfl⟩
  rw[rI,PR.aD]
  refine kb (fun rg σ'=>∃ (p:Int) (L7:List Tok),Gd L7∧L7.length≤L5.length∧(if op=oQ∨op=oP then(dZ L5).bind fun k L6=>(de (ch 44) L6).map fun _=>k else .ok 0 L5)= .ok p L7∧
   σ'=(5,b5,.cells [iv 5,sv op,sv ⟨#[]⟩,sv tb,iv 0,iv 0,sv ⟨#[]⟩,.v (.slice none 0 0),iv p,iv 0,iv 0,.ms 9 b9 0 2 2])::(9,b9,.cells (ea.row++(ff 1).row))::(4,b4,.cells [iv 0,sv ⟨#[]⟩,sv ⟨#[]⟩,sv ⟨#[]⟩,iv 0,iv 0,sv ⟨#[]⟩,.v (.slice none 0 0),iv 0,iv 0,iv 0,.v (.slice none 0 0)])::(1000,b1,.cells (aZ L7 true++rest))::τ∧
   rg=[(0,.lp 1000 b1 0),(4,.lp 4 b4 0),(5,.lp 5 b5 0)]) ?_ ?_
  ·repeat'(first|exact .nil|refine .k0 ?_|refine .k1 ?_|refine .k2 ?_|refine .k4 ?_|refine .k9 ?_|(refine .cd ?_ ?_<;>(intro hc;skip))|refine .r1 ?_ ?_|fail)
   try any_goals(exact Zo)
   all_goals(try simp only[BL]at *)
   ·refine bG rfl (u0 hw L5 qY true) rfl rfl rfl .nil ?_ (fun _ _ h=>aP (.inl h)) (fun _=>Zs) (fun p L6 uv y0=> ?_)
    ·exact fun p c h=>by rw[if_pos hc,h];rfl
    have hq6:=(Pos.num L5 qY.e).ok _ _ uv
    simp(decide:=true)only[aH,aN]
    repeat'(first|exact .nil|refine .k0 ?_|refine .k1 ?_|refine .k2 ?_|refine .r1 ?_ ?_|fail)
    refine bG rfl (qf hw L6 y0 true (ch 44)) rfl rfl rfl .nil ?_ (fun _ _ h=>aP (.inl h)) (fun _=>Zs) (fun a7 L7 zM y5=> ?_)
    ·exact fun p c h=>by rw[if_pos hc,uv,PR.aD,PR.map,h];rfl
    have hq7:=(Pos.bK (k:=5) (s:=ch 44) (by decide) L6 y0.e).ok _ _ zM
    simp(decide:=true)only[aH,aN]
    repeat'(first|refine .k1 ?_|refine .k2 ?_|fail)
    exact dw.intro rfl ⟨p,L7,y5,by omega,by rw[if_pos hc,uv,PR.aD,PR.map,zM];rfl,rfl,rfl⟩
   ·exact dw.intro rfl ⟨0,L5,qY,ZK _,by rw[if_neg (fun h=>h.elim hc.1 hc.2)],rfl,rfl⟩
  ·rintro _ _ ⟨p,L7,y5,zI,zM,rfl,rfl⟩
   rw[zM,PR.aD]
   repeat'(first|exact .nil|refine .k1 ?_|refine .k2 ?_|refine .r1 ?_ ?_|fail)
   refine bG rfl (abV hw L7 y5 true) rfl rfl rfl .nil ?_ (fun _ _ h=>aP (.inl h)) (fun _=>Zs) (fun w L8 JW CH=> ?_)
   ·exact fun p c h=>by rw[h];rfl
   have hq8:=(Pos.vq L7 y5.e).ok _ _ JW
   rw[JW,PR.aD]
   simp(decide:=true)only[aH,aN]
   repeat'((fail_if_success (show WK _ _ _ _ _ _ _ _));(first|exact .nil|refine .k0 ?_|refine .k1 ?_|refine .r1 ?_ ?_|fail))
   refine ji rfl ?_
   refine kb (fun rg σ'=>∃ (ec:Ex) (L9:List Tok),Gd L9∧(if ar 1 eP L8 then bj n true L8.tail else .ok (ff 1) L8)= .ok ec L9∧
    σ'=(5,b5,.cells [iv 5,sv op,sv ⟨#[]⟩,sv tb,iv 0,iv 0,sv ⟨#[]⟩,.v (.slice none 0 0),iv p,iv w.kind,iv w.size,.ms 9 b9 0 2 2])::(9,b9,.cells (ea.row++ec.row))::(4,b4,.cells [iv 0,sv ⟨#[]⟩,sv ⟨#[]⟩,sv ⟨#[]⟩,iv 0,iv 0,sv ⟨#[]⟩,.v (.slice none 0 0),iv 0,iv 0,iv 0,.v (.slice none 0 0)])::(1000,b1,.cells (aZ L9 true++rest))::τ∧
    rg=[(0,.lp 1000 b1 0),(4,.lp 4 b4 0),(5,.lp 5 b5 0)]) ?_ ?_
   ·repeat'(first|exact .nil|refine .k1 ?_|refine .k2 ?_|refine .r1 ?_ ?_|fail)
    refine bG rfl (fA L8 CH true 1 (by decide) eP) rfl rfl rfl .nil (fun _ _ h=>nD h) (fun _ _ h=>aP (.inl h)) (fun _=>Zs) (fun a L9 pJ y7=> ?_)
    simp(decide:=true)only[aH,aN]
    by_cases hs:ar 1 eP L8=true
    ·rw[ja hs]at pJ;cases pJ
     have ht:=CH.tail (bJ (k:=1) (by decide) L8 hs)
     (repeat'((fail_if_success (show WK _ _ _ _ (.c8 _ _) _ _ _));(first|refine .k0 ?_|refine .k1 ?_|(refine .cd ?_ ?_<;>first|with_reducible exact tF|(intro hc;skip))|fail)))<;>(try(simp at hc;done))
     refine vN [1000] 49 rfl rfl rfl rfl ?_
     repeat'(first|exact .nil|refine .k0 ?_|refine .r1 ?_ ?_|fail)
     refine vM rfl rfl (ih.expr true L8.tail ht.1 (by omega)) rfl rfl rfl .nil ?_ (fun _ _ h=>aP (.inl h)) (fun _=>Zs) (fun ec L9 pJ y7=> ?_)
     ·exact fun p c h=>by rw[if_pos hs,h];rfl
     simp(decide:=true)only[aH,aN]
     repeat'(first|exact .nil|refine .k0 ?_|refine .k1 ?_|refine .k2 ?_|refine .r1 ?_ ?_|refine .r8 ?_ ?_|fail)
     ·exact⟨by decide,by decide⟩
     exact dw.intro rfl ⟨ec,L9,y7,by rw[if_pos hs,pJ],rfl,rfl⟩
    ·rw[iZ hs]at pJ;cases pJ
     (repeat'(first|refine .k0 ?_|refine .k1 ?_|refine .k2 ?_|refine .k9 ?_|(refine .cd ?_ ?_<;>first|with_reducible exact fT|(intro hc;skip))|fail))<;>(try(simp at hc;done))
     exact dw.intro rfl ⟨ff 1,L8,CH,by rw[if_neg hs],rfl,rfl⟩
   ·rintro _ _ ⟨ec,L9,y7,pJ,rfl,rfl⟩
    rw[pJ,PR.aD]
    repeat'(first|exact .nil|refine .k1 ?_|refine .k2 ?_|refine .r8 ?_ ?_|fail)
    refine mB (cs':=aZ L9 false++rest) rfl rfl rfl rfl rfl ⟨rfl,by simp[aZ]⟩ .nil ?_
    simp(decide:=true)only[aH,aN]
    repeat'(first|exact .nil|refine .k0 ?_|refine .k1 ?_|refine .k2 ?_|refine .r1 ?_ ?_|fail)
    refine bG rfl (qf hw L9 y7 false (ch 41)) rfl rfl rfl .nil ?_ (fun _ _ h=>aP (.inl h)) (fun _=>Zs) (fun Gl L10 VP Un=> ?_)
    ·exact fun p c h=>by rw[PR.map,h];rfl
    simp(decide:=true)only[aH,aN]
    repeat'(first|exact .nil|refine .k0 ?_|refine .k1 ?_|refine .k2 ?_|refine .k7 ?_|refine .r1 ?_ ?_|fail)
    refine abU (e:=12) (rows:=[ea.row,ec.row]) (a:= .mk 5 op ⟨#[]⟩ tb v0 [] p w [ea,ec]) (by rw[PR.map,VP];rfl) Un (.there .here) (fun r hr=> ?_) (Z9 rfl) (.same <| .same <| .same <| .same <| .same <| .same <| .same <| .same <| .same <| .same <| .same <| .m .nil) ?_ Zs
    ·simp only[ZU,List.not_mem_nil,or_false]at hr
     rcases hr with rfl|rfl<;>rfl
    ·repeat' first|exact P3|exact .refl _|exact .nil|refine .cons ?_ ?_|refine .agg ?_
abbrev z12:List AV:=[iv 0,sv ⟨#[]⟩,sv ⟨#[]⟩,sv ⟨#[]⟩,iv 0,iv 0,sv ⟨#[]⟩,.v (.slice none 0 0),iv 0,iv 0,iv 0,.v (.slice none 0 0)]
theorem abR(hw:ib){n:Nat}(ih:o5 n)(i:Bool)(L:List Tok)(hL:Gd L)(hn:8 * L.length+3≤n+1):bC 195 [] i L (dy (n+1) i L) gh:=
 abQ hw n (fun L hL hn i=>ih.expr i L hL hn) L hL (by omega) i
theorem abW(hw:ib){n:Nat}(ih:o5 n)(i:Bool)(L:List Tok)(hL:Gd L)(hk:(hd L).kind≠6)(hn:8 * L.length+3≤n+1):bC 193 [] i L (ey (n+1) i L) gh:=by
 refine bC.intro fun b1 rest τ=> ?_
 refine Spec.cN (fun _=>0) Tryz.func193 RS S8 (Z9 rfl) ?_
 have hp:=hL.pos
 have ht:=hL.tail hk
 rw[ey]
 unfold aZ
 first|refine .k1 ?_|fail
 first|refine .k2 ?_|fail
 repeat'((fail_if_success (show WK _ _ _ _ _ _ _ _));(first|refine .k0 ?_|refine .k1 ?_|(refine .l1 ?_;intro b)|fail))
 rename Nat=>b2
 refine ji rfl ?_
 refine kb (fun rg σ'=>¬((hd L).text=sI∨(hd L).text=yh)∧(hd L).text≠hU∧¬((hd L).text∈jH∧i=false)∧σ'=(2,b2,.cells z12)::(1000,b1,.cells (aZ L i++rest))::τ∧rg=[(0,.lp 1000 b1 0),(2,.lp 2 b2 0)]) ?_ ?_
 ·repeat'((fail_if_success (show WK _ _ _ _ (.seq (.seq (.bX Mg) _) (.keep _ _)) _ _ _));(first|exact .nil|refine .k0 ?_|refine .k1 ?_|refine .k2 ?_|refine .k6 ?_|refine .k9 ?_|(refine .cd ?_ ?_<;>(intro hc;first|exact kf hc (by assumption)|skip))|refine .r1 ?_ ?_|refine .t1 ?_ ?_ ?_|refine .t3 ?_ ?_ ?_|refine .r8 ?_ ?_|fail))
  any_goals omega
  all_goals(try simp only[BL]at *)
  all_goals simp only[ku]at *
  ·refine mB (cs':=[.sl false 3 ((L.drop 1).map Tok.cells),.v (.bool i)]++rest) rfl rfl rfl rfl rfl ⟨rfl,by simp⟩ .nil ?_
   simp(decide:=true)only[aH,aN,Ya]
   repeat'(first|exact .nil|refine .k0 ?_|refine .k1 ?_|refine .k2 ?_|refine .k7 ?_|refine .r1 ?_ ?_|refine .an rfl (by intro aO;exact ET _) ?_ ?_|fail)
   exact cQ (a:=ff 1) (by rw[if_pos (.inl hc),if_pos hc]) ht.1 (.lY (by rw[hc];rfl))
  ·rename_i ep
   refine mB (cs':=[.sl false 3 ((L.drop 1).map Tok.cells),.v (.bool i)]++rest) rfl rfl rfl rfl rfl ⟨rfl,by simp⟩ .nil ?_
   simp(decide:=true)only[aH,aN,Ya]
   repeat'(first|exact .nil|refine .k0 ?_|refine .k1 ?_|refine .k2 ?_|refine .k7 ?_|refine .r1 ?_ ?_|refine .an rfl (by intro aO;exact ET _) ?_ ?_|fail)
   exact cQ (a:=ff 0) (by rw[if_pos (.inr hc),if_neg ep]) ht.1 (.lY (by rw[hc];rfl))
  ·rename_i ep gC
   rw[if_neg (fun h=>h.elim ep gC),if_pos hc]
   refine mB (cs':=[.sl false 3 ((L.drop 1).map Tok.cells),.v (.bool i)]++rest) rfl rfl rfl rfl rfl ⟨rfl,by simp⟩ .nil ?_
   simp(decide:=true)only[aH,aN,Ya]
   repeat'(first|exact .nil|refine .k0 ?_|refine .k1 ?_|refine .k2 ?_|refine .r1 ?_ ?_|fail)
   refine bG (L:=L.tail) (ins:=i) rfl (ih.group i L.tail ht.1 (by omega)) rfl rfl rfl .nil ?_ (fun _ _ h=>aP h) (fun _=>Zs) (fun x L1 aU bg=> ?_)
   ·exact fun p c h=>by rw[h];rfl
   simp(decide:=true)only[aH,aN]
   repeat'(first|exact .nil|refine .k0 ?_|refine .k1 ?_|refine .k7 ?_|refine .r1 ?_ ?_|fail)
   ·simp
   refine cQ (a:=hO hU x) (by rw[aU];rfl) bg ?_
   rw[hc]
   repeat' first|exact vO|exact .refl _|exact .nil|refine .cons ?_ ?_|refine .agg ?_
  ·rename_i ep gC
   have lE:=hc
   refine kb (fun rg σ'=>∃ q:Bool,(q=true↔(hd L).text∈jH)∧σ'=(2,b2,.cells z12)::(1000,b1,.cells (aZ L i++rest))::τ∧rg=[(0,.lp 1000 b1 0),(2,.lp 2 b2 0),(3,sv (hd L).text),(43,.v (.bool q))]) ?_ ?_
   ·repeat'(first|exact .nil|refine .k0 ?_|refine .k1 ?_|refine .k2 ?_|refine .k9 ?_|(refine .cd ?_ ?_<;>(intro hc;skip))|refine .r1 ?_ ?_|fail)
    all_goals(try simp only[BL]at *)
    all_goals(refine dw.intro rfl ⟨_,?_,rfl,rfl⟩;simp_all [jH])
   ·rintro _ _ ⟨q,hq,rfl,rfl⟩
    unfold aZ
    repeat'(first|exact .nil|refine .k0 ?_|refine .k1 ?_|refine .k2 ?_|refine .k9 ?_|(refine .cd ?_ ?_<;>(intro hc;skip))|refine .r1 ?_ ?_|refine .t3 ?_ ?_ ?_|refine .r8 ?_ ?_|fail)
    any_goals omega
    all_goals(try simp only[BL]at *)
    ·rename_i iA
     subst hc
     rw[if_neg (fun h=>h.elim ep gC),if_neg lE,if_pos ⟨hq.1 iA,rfl⟩]
     refine mB (cs':=[.sl false 3 ((L.drop 1).map Tok.cells),.v (.bool false)]++rest) rfl rfl rfl rfl rfl ⟨rfl,by simp⟩ .nil ?_
     simp(decide:=true)only[aH,aN,Ya]
     repeat'(first|exact .nil|refine .k0 ?_|refine .k1 ?_|refine .k2 ?_|refine .r1 ?_ ?_|fail)
     refine bG (L:=L.tail) (ins:=false) rfl (ih.agg (hd L).text L.tail ht.1 (by omega)) rfl rfl rfl .nil ?_ (fun _ _ h=>aP h) (fun _=>Zs) (fun x L1 aU bg=> ?_)
     ·exact fun p c h=>h
     simp(decide:=true)only[aH,aN]
     repeat'(first|exact .nil|refine .k0 ?_|refine .k1 ?_|refine .k7 ?_|refine .r1 ?_ ?_|fail)
     exact cQ (a:=x) aU bg (.refl _)
    ·exact dw.intro rfl ⟨fun h=>h.elim ep gC,lE,by simp[hc],rfl,rfl⟩
    ·exact dw.intro rfl ⟨fun h=>h.elim ep gC,lE,(fun h=>by rw[hq.2 h.1]at hc;cases hc),rfl,rfl⟩
 ·rintro _ _ ⟨h1,h2,h3,rfl,rfl⟩
  rw[if_neg h1,if_neg h2,if_neg h3]
  repeat'(first|exact .nil|refine .k1 ?_|refine .k2 ?_|refine .r1 ?_ ?_|fail)
  refine bG rfl (Ap hw L hL i) rfl rfl rfl .nil ?_ (fun _ _ h=>aP h) (fun _=>Zs) (fun s L1 aU bg=> ?_)
  ·exact fun p c h=>by rw[h];rfl
  have iA:=(Pos.name L hL.e).ok _ _ aU
  rw[aU,PR.aD]
  simp(decide:=true)only[aH,aN]
  unfold aZ
  repeat'(first|exact .nil|refine .k0 ?_|refine .k1 ?_|refine .k2 ?_|refine .k6 ?_|refine .k7 ?_|(refine .cd ?_ ?_<;>(intro hc;skip))|refine .r1 ?_ ?_|fail)
  all_goals(try simp only[BL]at *)
  ·refine cQ (a:=iF 2 s []) (by rw[if_pos hc]) bg ?_
   repeat' first|exact .refl _|exact .nil|refine .cons ?_ ?_|refine .agg ?_
  ·subst hc
   rw[if_neg (by decide)]
   refine bG (L:=L1) (ins:=false) rfl (fA L1 bg false 1 (by decide) fM) rfl rfl rfl .nil (fun _ _ h=>nD h) (fun _ _ h=>aP h) (fun _=>Zs) (fun a L2 cI cq=> ?_)
   simp(decide:=true)only[aH,aN]
   by_cases hs:ar 1 fM L1=true
   ·rw[ja hs]at cI;cases cI
    have lO:=bg.tail (bJ (k:=1) (by decide) L1 hs)
    rw[if_pos hs]
    (repeat'(first|exact .nil|refine .k0 ?_|refine .k1 ?_|refine .k2 ?_|(refine .cd ?_ ?_<;>first|with_reducible exact tF|(intro hc;skip))|refine .r1 ?_ ?_|fail))<;>(try(simp at hc;done))
    refine bG rfl (ih.group false L1.tail lO.1 (by omega)) rfl rfl rfl .nil ?_ (fun _ _ h=>aP h) (fun _=>Zs) (fun x L2 cI cq=> ?_)
    ·exact fun p c h=>by rw[h];rfl
    simp(decide:=true)only[aH,aN]
    repeat'(first|exact .nil|refine .k0 ?_|refine .k1 ?_|refine .k7 ?_|refine .r1 ?_ ?_|fail)
    ·simp
    refine cQ (a:=iF 4 s [x]) (by rw[cI];rfl) cq ?_
    repeat' first|exact vO|exact .refl _|exact .nil|refine .cons ?_ ?_|refine .agg ?_
   ·rw[iZ hs]at cI;cases cI
    rw[if_neg hs]
    (repeat'(first|exact .nil|refine .k0 ?_|refine .k1 ?_|refine .k2 ?_|refine .k7 ?_|refine .k9 ?_|(refine .cd ?_ ?_<;>first|with_reducible exact fT|(intro hc;skip))|refine .r1 ?_ ?_|fail))<;>(try(simp at hc;done))
    refine cQ (a:=iF 3 s []) rfl bg ?_
    repeat' first|exact .refl _|exact .nil|refine .cons ?_ ?_|refine .agg ?_
theorem vr:ib:=fun L hL ins=>by
 refine bC.intro fun b rest τ=> ?_
 refine Spec.cN (fun _=>0) Tryz.func76 R3 Th (Z9 rfl) ?_
 have hp:=hL.pos
 unfold aZ
 repeat'(first|exact .nil|refine .k0 ?_|refine .k1 ?_|refine .k2 ?_|refine .r1 ?_ ?_|refine .t1 ?_ ?_ ?_|fail)
 try any_goals(exact Zo)
 all_goals(try simp only[BL]at *)
 refine BA rfl rfl .nil ?_
 refine aP ?_
 rw[ku]
 exact nB (cs:=aZ L ins++rest) ⟨rfl,_,_,rfl⟩
set_option linter.unusedSectionVars false
def sW:Prop:=∀ t:Tok,my t→t.kind=3→Pure Tryz.prog 135 [sv t.text] (.aL [iv (mG t.text),iv 0])
theorem asM{k:Int}{L L':List Tok}{t:Tok}(h:dC k L= .ok t L'):t=hd L∧t.kind=k:=by
 unfold dC at h
 split at h
 ·cases h
 ·cases h;exact⟨rfl,Zd.1 (by assumption)⟩
theorem abT(hw:ib)(hN:qD)(hD:sW){n:Nat}(ih:o5 n)(i:Bool)(L:List Tok)(hL:Gd L)(hn:8 * L.length+4≤n+1):bC 166 [] i L (ej (n+1) i L) gh:=by
 refine bC.intro fun b1 rest τ=> ?_
 refine Spec.cN (fun _=>0) Tryz.func166 RR S7 (Z9 rfl) ?_
 rw[ej]
 have hp:=hL.pos
 have hcell:(aZ L i++rest)=[.sl false 3 (L.map Tok.cells),.v (.bool i)]++rest:=rfl
 rw[hcell]
 repeat'(first|exact .nil|refine .k0 ?_|refine .k1 ?_|refine .k2 ?_|refine .k6 ?_|refine .k9 ?_|(refine .cd ?_ ?_<;>(intro hc;skip))|refine .r1 ?_ ?_|(refine .l1 ?_;intro b)|refine .t1 ?_ ?_ ?_|fail)
 any_goals omega
 all_goals(try simp only[BL]at *)
 all_goals simp only[ku]at *
 ·rw[if_pos hc]
  refine bG (rest:=rest) rfl (u0 hw L hL i) rfl rfl rfl .nil ?_ (fun _ _ h=>aP h) (fun _=>Zs) (fun k L1 aU bg=> ?_)
  ·exact fun p c h=>by rw[h];rfl
  rw[aU,PR.aD]
  simp(decide:=true)only[aH,aN]
  repeat'(first|exact .nil|refine .k0 ?_|refine .k1 ?_|refine .k2 ?_|refine .r1 ?_ ?_|fail)
  refine bG (rest:=rest) rfl (LS hw hN L1 bg i) rfl rfl rfl .nil ?_ (fun _ _ h=>aP h) (fun _=>Zs) (fun u L2 cI cq=> ?_)
  ·exact fun p c h=>by rw[h];rfl
  simp(decide:=true)only[aH,aN]
  repeat'(first|exact .nil|refine .k0 ?_|refine .k1 ?_|refine .k2 ?_|refine .k7 ?_|refine .r1 ?_ ?_|fail)
  refine cQ (a:=fY ⟨2,k,⟨#[]⟩⟩ u ⟨#[]⟩) (by rw[cI];rfl) cq ?_
  repeat' first|exact .refl _|exact .nil|refine .cons ?_ ?_|refine .agg ?_
 ·rename_i h2
  rw[if_neg h2,if_pos hc]
  refine bG (rest:=rest) rfl (xM hw L hL i 3 (by decide)) rfl rfl rfl .nil ?_ (fun _ _ h=>aP h) (fun _=>Zs) (fun t3 L1 aU bg=> ?_)
  ·exact fun p c h=>by rw[h];rfl
  rw[aU,PR.aD]
  obtain⟨et,Vg⟩:=asM aU
  have CO:my t3:=by rw[et];exact hL.t _ (ua hL.e.ne)
  simp(decide:=true)only[aH,aN]
  repeat'(first|exact .nil|refine .k0 ?_|refine .k1 ?_|refine .k2 ?_|refine .r1 ?_ ?_|refine .an rfl (by intro aO;exact hD t3 CO Vg) ?_ ?_|fail)
  refine bG (rest:=rest) rfl (LS hw hN L1 bg i) rfl rfl rfl .nil ?_ (fun _ _ h=>aP h) (fun _=>Zs) (fun u L2 cI cq=> ?_)
  ·exact fun p c h=>by rw[h];rfl
  simp(decide:=true)only[aH,aN]
  repeat'(first|exact .nil|refine .k0 ?_|refine .k1 ?_|refine .k2 ?_|refine .k7 ?_|refine .r1 ?_ ?_|fail)
  refine cQ (a:=fY ⟨3,mG t3.text,⟨#[]⟩⟩ u ⟨#[]⟩) (by rw[cI];rfl) cq ?_
  repeat' first|exact .refl _|exact .nil|refine .cons ?_ ?_|refine .agg ?_
 ·rename_i h2 h3
  rw[if_neg h2,if_neg h3,if_pos hc]
  refine bG (rest:=rest) rfl (xM hw L hL i 4 (by decide)) rfl rfl rfl .nil ?_ (fun _ _ h=>aP h) (fun _=>Zs) (fun t L1 aU bg=> ?_)
  ·exact fun p c h=>by rw[h];rfl
  simp(decide:=true)only[aH,aN]
  repeat'(first|exact .nil|refine .k0 ?_|refine .k1 ?_|refine .k2 ?_|refine .k7 ?_|refine .r1 ?_ ?_|fail)
  refine cQ (a:=fY ⟨4,0,t.text⟩ [] ⟨#[]⟩) (by rw[aU];rfl) bg ?_
  repeat' first|exact .refl _|exact .nil|refine .cons ?_ ?_|refine .agg ?_
 ·rename_i h2 h3 h4
  rw[if_neg h2,if_neg h3,if_neg h4,if_pos hc]
  refine bG (rest:=rest) rfl (ih.word i L hL (by rw[hc];decide) (by omega)) rfl rfl rfl .nil (fun _ _ h=>h) (fun _ _ h=>aP h) (fun _=>Zs) (fun x L1 aU bg=> ?_)
  simp(decide:=true)only[aH,aN]
  repeat'(first|exact .nil|refine .k0 ?_|refine .k1 ?_|refine .k7 ?_|refine .r1 ?_ ?_|fail)
  exact cQ (a:=x) aU bg (.refl _)
 ·rename_i h2 h3 h4
  rw[if_neg h2,if_neg h3,if_neg h4,if_neg hc]
  by_cases hs:ar 5 (ch 64) L=true
  ·have ht:=hL.tail (bJ (k:=5) (by decide) L hs)
   rw[if_pos hs]
   refine mA (rest:=rest) rfl (fA L hL i 5 (by decide) (ch 64)) (ja hs) rfl rfl rfl .nil (fun _=> ?_)
   simp(decide:=true)only[aH,aN]
   (repeat'(first|exact .nil|refine .k0 ?_|refine .k1 ?_|refine .k2 ?_|(refine .cd ?_ ?_<;>first|with_reducible exact tF|(intro hc;skip))|refine .r1 ?_ ?_|fail))<;>(try(simp at hc;done))
   refine bG rfl (rd_key hw L.tail ht.1 i) rfl rfl rfl .nil (fun _ _ h=>h) (fun _ _ h=>aP h) (fun _=>Zs) (fun x L1 aU bg=> ?_)
   simp(decide:=true)only[aH,aN]
   repeat'(first|exact .nil|refine .k0 ?_|refine .k1 ?_|refine .k7 ?_|refine .r1 ?_ ?_|fail)
   exact cQ (a:=x) aU bg (.refl _)
  ·rw[if_neg hs]
   refine mA (rest:=rest) rfl (fA L hL i 5 (by decide) (ch 64)) (iZ hs) rfl rfl rfl .nil (fun _=> ?_)
   simp(decide:=true)only[aH,aN]
   (repeat'(first|exact .nil|refine .k0 ?_|refine .k1 ?_|refine .k2 ?_|refine .k9 ?_|(refine .cd ?_ ?_<;>first|with_reducible exact fT|(intro hc;skip))|refine .r1 ?_ ?_|fail))<;>(try(simp at hc;done))
   refine bG rfl (ih.group i L hL (by omega)) rfl rfl rfl .nil (fun _ _ h=>h) (fun _ _ h=>aP h) (fun _=>Zs) (fun x L1 aU bg=> ?_)
   simp(decide:=true)only[aH,aN]
   repeat'(first|exact .nil|refine .k0 ?_|refine .k1 ?_|refine .k7 ?_|refine .r1 ?_ ?_|fail)
   exact cQ (a:=x) aU bg (.refl _)
theorem qg(hN:qD)(hD:sW):∀ n,o5 n
 |0=>⟨fun _ _ _ h=>absurd h (by omega),fun _ _ _ _ h=>absurd h (by omega),fun _ _ _ _ h=>absurd h (by omega),fun _ _ _ h=>absurd h (by omega),fun _ _ _ h=>absurd h (by omega),fun _ _ _ _ h=>absurd h (by omega),fun _ _ _ h=>absurd h (by omega)⟩
 |n+1=>⟨fun i L hL hn=>abP vr (qg hN hD n) i L hL hn,fun l i L hL hn=>abM (qg hN hD n) l i L hL hn,fun l i L hL hn=>abS (qg hN hD n) l i L hL hn,fun i L hL hn=>abT vr hN hD (qg hN hD n) i L hL hn,
   fun i L hL hn=>abR vr (qg hN hD n) i L hL hn,fun i L hL hk hn=>abW vr (qg hN hD n) i L hL hk hn,fun op L hL hn=>abK vr (qg hN hD n) op L hL hn⟩
theorem Tv(hN:qD)(hD:sW)(i:Bool)(L:List Tok)(hL:Gd L):bC 38 [] i L (bj N0 i L) gh:=(qg hN hD N0).expr i L hL (by have:=hL.n;show _≤1000000;omega)
set_option linter.unusedSectionVars false
def qz(e tg:Nat)(rows:List (List AV))(x:AV)(τ:Store):Prop:=(rows=[]∧x=fJ∧τ=[])∨(rows≠[]∧∃ bb u c,x= .own e tg bb u c rows∧τ=[(tg,bb,.tail u c)])
structure FQ(m:nK)(x1 x2:AV)(jE j9:Store):Prop where
 t:qz 4 49 (m.tables.map fQ.cells) x1 jE
 f:qz 18 40 (m.yP.map kY.cells) x2 j9
def N4(b:Nat)(cB:Store)(m:nK)(x1 x2:AV)(jE j9:Store)(r:PR qB)(x:cU)(σ':Store):Prop:=match r with
 | .ok a L'=>∃ y1 y2 sR sS,FQ (GL m a) y1 y2 sR sS∧Gd L'∧x= .ret (.aL [])∧σ'=(1000,b,.cells (aZ L' false++[y1,y2]))::(sR++sS++cB)
 | .err p c=>x= .cC [{v:=qS p c,recovered:=false}]∧∃ L' i',σ'=(1000,b,.cells (aZ L' i'++[x1,x2]))::(jE++j9++cB)
def yt(b:Nat)(cB:Store)(m:nK)(x1 x2:AV)(jE j9:Store)(r:PR qB)(x:cU)(σ':Store):Prop:=match r with
 | .ok a L'=>∃ y1 y2 sR sS aw,FQ (GL m a) y1 y2 sR sS∧Gd L'∧x= .ret (.aL [])∧Sub aw σ'∧aw.Perm ((1000,b,.cells (aZ L' false++[y1,y2]))::(sR++sS++cB))
 | .err p c=>x= .cC [{v:=qS p c,recovered:=false}]∧∃ L' i',Sub ((1000,b,.cells (aZ L' i'++[x1,x2]))::(jE++j9++cB)) σ'
theorem yt.spec{f:FuncId}{ys:List AV}{σ:Store}{b:Nat}{cB:Store}{m:nK}{x1 x2:AV}{jE j9:Store}{r:PR qB}(h:Sx.Spec Tryz.prog f ys σ (yt b cB m x1 x2 jE j9 r)):Sx.Spec Tryz.prog f ys σ (N4 b cB m x1 x2 jE j9 r):=by
 intro M w0 w vs hI hR
 refine(h M w0 w vs hI hR).mono fun e w' ⟨M',x,σ',hM,bo,hx,hq⟩=> ?_
 cases r with
 |ok a L'=>obtain⟨y1,y2,sR,sS,aw,h1,h2,h3,h4,h5⟩:=hq;exact⟨M',x,_,hM,(bo.sub h4).perm h5,hx,y1,y2,sR,sS,h1,h2,h3,rfl⟩
 |err p c=>obtain⟨h1,L',i',h2⟩:=hq;exact⟨M',x,_,hM,bo.sub h2,hx,h1,L',i',rfl⟩
theorem yt.cC{b:Nat}{cB τ:Store}{m:nK}{x1 x2:AV}{jE j9:Store}{r:PR qB}(hs:τ=jE++j9++cB){val:qB→AV}{ch:List PanicEntry}{σ':Store}(h:mu false [x1,x2] r val b τ (.cC ch) σ'):yt b cB m x1 x2 jE j9 r (.cC ch) σ':=by
 obtain⟨x,cs',h1,h2,h3⟩:=h
 subst hs
 cases r with
 |ok a L'=>obtain⟨_,e,_⟩:=h1;subst e;exact h3.elim
 |err p c=>obtain⟨e,L',i',rfl⟩:=h1;subst e;exact⟨congrArg _ h3,L',i',h2⟩
end Go.Proofs.YtbihckigennlhaaGreatDoor
