/- The reader's aggregate. -/
import Derived.Test.YtbihckigennlhaaGreatDoorUc
import Derived.Test.YtbihckigennlhaaGreatDoorTz
import Derived.Test.YtbihckigennlhaaGreatDoorYf
set_option linter.unusedSimpArgs false
set_option linter.unusedVariables false
set_option maxRecDepth 100000
set_option maxHeartbeats 4000000
namespace Go.Proofs.YtbihckigennlhaaGreatDoor
open Go.Sx Go.Proofs
theorem truth_ok(n:Int):Pure Tryz.prog 219 [iv n] (exV (truE n)):=by
 refine Pure.runk (fun _=>0) Tryz.func219 comp219 era219 (Nat.le_of_ble_eq_true rfl) fun σ=> ?_
 repeat'(first|exact .nil|refine .k0 ?_|refine .k1 ?_|refine .k2 ?_|refine .k7 ?_|refine .r1 ?_ ?_|(refine .l1 ?_;intro b)|fail)
 all_goals(try simp only[BL]at *)
 all_goals(refine Sx.Fin.wk Zs ?_;repeat' first|exact .refl _|exact .nil|refine .cons ?_ ?_|refine .agg ?_)
theorem rd_retZ{α:Type}{ins:Bool}{rest:List AV}{r:PR α}{val:α→AV}{a:α}{l l':List AV}{L':List Tok}{b t bb e:Nat}{rows:List (List AV)}{τ σ' σ2:Store}(h:r= .ok a L')(hL:Gd L')(hf:FzS t bb rows.flatten σ' σ2)(hr:∀ r∈rows,r.length=e)(hn:rows.length≤maxLen)(hl:FzL bb e rows l l')(hx:Wk (.agg l') (val a))(hs:Sub ((1000,b,.cells (rdC L' ins++rest))::τ) σ2):
  RdZ ins rest r val b τ (.ret (.agg l)) σ':= .inr ⟨l,l',t,bb,e,rows,σ2,rfl,hf,hr,hn,hl,rd_ret h hL hx hs⟩
theorem Wk_two0{x y:Ex}:Wk (.sl false 12 [x.row,y.row]) (.sl false 12 ([x,y].map Ex.cells)):=by
 rw[Ex.cells_row];exact .refl _
theorem rd_aggregate(hw:WrongOk){n:Nat}(ih:RecOk n)(op:Str)(L:List Tok)(hL:Gd L)(hn:8 * L.length+3≤n+1):RdS 220 [sv op] false L (aggP (n+1) op L) exV:=by
 refine RdS.introZ fun b rest τ=> ?_
 refine Spec.runk (fun i=>bif Nat.beq i 9 then 2 else 0) Tryz.func220 comp220 era220 (Nat.le_of_ble_eq_true rfl) ?_
 rw[aggP]
 repeat'(first|exact .nil|refine .k0 ?_|refine .k1 ?_|refine .k2 ?_|refine .r1 ?_ ?_|(refine .l1 ?_;intro b)|refine .an rfl (by intro hob;exact truth_ok 1) ?_ ?_|fail)
 all_goals(try simp only[BL]at *)
 refine VX_msl ((truE 1).row++(truE 1).row) 2 rfl rfl rfl .nil rfl (by decide) rfl fun b9=> ?_
 repeat'(first|exact .nil|refine .k0 ?_|refine .k1 ?_|refine .k2 ?_|refine .r1 ?_ ?_|(refine .l1 ?_;intro b)|fail)
 all_goals(try simp only[BL]at *)
 rename_i b1 b4
 rename Nat=>b5
 refine VX_rdc rfl (rd_sign hw L hL false (ch 40)) rfl rfl rfl .nil ?_ (fun _ _ h=>FK_pan (.inl h)) (fun _=>Zs) (fun a1 L1 hr1 hL1=> ?_)
 ·exact fun p c h=>by rw[h];rfl
 rw[hr1,PR.bind_ok]
 have hq1:=(Pos.need (k:=5) (s:=ch 40) (by decide) L hL.e).ok _ _ hr1
 simp(decide:=true)only[upt_hd,upt_ne]
 repeat'(first|exact .nil|refine .k0 ?_|refine .k1 ?_|refine .k2 ?_|refine .r1 ?_ ?_|fail)
 all_goals(try simp only[BL]at *)
 refine VX_rdc rfl (rd_name hw L1 hL1 false) rfl rfl rfl .nil ?_ (fun _ _ h=>FK_pan (.inl h)) (fun _=>Zs) (fun tb L2 hr2 hL2=> ?_)
 ·exact fun p c h=>by rw[h];rfl
 rw[hr2,PR.bind_ok]
 have hq2:=(Pos.name L1 hL1.e).ok _ _ hr2
 simp(decide:=true)only[upt_hd,upt_ne]
 repeat'(first|exact .nil|refine .k0 ?_|refine .k1 ?_|refine .k2 ?_|refine .r1 ?_ ?_|fail)
 all_goals(try simp only[BL]at *)
 refine VX_rdc rfl (rd_sign hw L2 hL2 false (ch 44)) rfl rfl rfl .nil ?_ (fun _ _ h=>FK_pan (.inl h)) (fun _=>Zs) (fun a3 L3 hr3 hL3=> ?_)
 ·exact fun p c h=>by rw[h];rfl
 rw[hr3,PR.bind_ok]
 have hq3:=(Pos.need (k:=5) (s:=ch 44) (by decide) L2 hL2.e).ok _ _ hr3
 simp(decide:=true)only[upt_hd,upt_ne]
 repeat'(first|exact .nil|refine .k0 ?_|refine .k1 ?_|refine .k2 ?_|refine .r8 ?_ ?_|fail)
 all_goals(try simp only[BL]at *)
 refine VX_st (cs':=rdC L3 true++rest) rfl rfl rfl rfl rfl ⟨rfl,by simp[rdC]⟩ .nil ?_
 simp(decide:=true)only[upt_hd,upt_ne]
 repeat'((fail_if_success (show WK _ _ _ _ _ _ _ _));(first|refine .k0 ?_|refine .k1 ?_|fail))
 refine WK_keep rfl ?_
 refine WK_join (fun rg σ'=>∃ (ea:Ex) (L5:List Tok),Gd L5∧L5.length≤L3.length∧(if op≠wCount then(exprP n true L3).bind fun x L4=>(signP (ch 44) L4).map fun _=>x else .ok (truE 1) L3)= .ok ea L5∧
  σ'=(5,b5,.cells [iv 5,sv op,sv ⟨#[]⟩,sv tb,iv 0,iv 0,sv ⟨#[]⟩,.v (.slice none 0 0),iv 0,iv 0,iv 0,.ms 9 b9 0 2 2])::(9,b9,.cells (ea.row++(truE 1).row))::(4,b4,.cells [iv 0,sv ⟨#[]⟩,sv ⟨#[]⟩,sv ⟨#[]⟩,iv 0,iv 0,sv ⟨#[]⟩,.v (.slice none 0 0),iv 0,iv 0,iv 0,.v (.slice none 0 0)])::(1000,b1,.cells (rdC L5 true++rest))::τ∧
  rg=[(0,.lp 1000 b1 0),(1,sv op),(4,.lp 4 b4 0),(5,.lp 5 b5 0)]) ?_ ?_
 ·repeat'((fail_if_success (show WK _ _ _ _ (.mreg _ _) _ _ _));(first|exact .nil|refine .k0 ?_|refine .k1 ?_|refine .k2 ?_|refine .k9 ?_|(refine .cd ?_ ?_<;>(intro hc;skip))|refine .r1 ?_ ?_|fail))
  all_goals(try simp only[BL]at *)
  ·refine WK_mregC [1000] 26 rfl rfl rfl rfl ?_
   repeat'(first|exact .nil|refine .k0 ?_|refine .r1 ?_ ?_|fail)
   refine VY_rdc rfl rfl (ih.expr true L3 hL3 (by omega)) rfl rfl rfl .nil ?_ (fun _ _ h=>FK_pan (.inl h)) (fun _=>Zs) (fun ea L4 hr4 hL4=> ?_)
   ·exact fun p c h=>by rw[if_pos hc,h];rfl
   have hq4:=((posE n).expr true L3 hL3.e).ok _ _ hr4
   simp(decide:=true)only[upt_hd,upt_ne]
   repeat'(first|exact .nil|refine .k0 ?_|refine .k1 ?_|refine .k2 ?_|refine .r1 ?_ ?_|refine .r8 ?_ ?_|fail)
   ·exact⟨by decide,by decide⟩
   refine VX_rdc rfl (rd_sign hw L4 hL4 true (ch 44)) rfl rfl rfl .nil ?_ (fun _ _ h=>FK_pan (.inl h)) (fun _=>Zs) (fun a5 L5 hr5 hL5=> ?_)
   ·exact fun p c h=>by rw[if_pos hc,hr4,PR.bind_ok,PR.map,h];rfl
   have hq5:=(Pos.need (k:=5) (s:=ch 44) (by decide) L4 hL4.e).ok _ _ hr5
   simp(decide:=true)only[upt_hd,upt_ne]
   repeat'(first|refine .k1 ?_|refine .k2 ?_|fail)
   exact JoinW.intro rfl ⟨ea,L5,hL5,by omega,by rw[if_pos hc,hr4,PR.bind_ok,PR.map,hr5];rfl,rfl,rfl⟩
  ·exact JoinW.intro rfl ⟨truE 1,L3,hL3,Nat.le_refl _,by rw[if_neg (fun h=>h hc)],rfl,rfl⟩
 ·rintro _ _ ⟨ea,L5,hL5,hl5,hr5,rfl,rfl⟩
  rw[hr5,PR.bind_ok]
  refine WK_join (fun rg σ'=>∃ (p:Int) (L7:List Tok),Gd L7∧L7.length≤L5.length∧(if op=wQuant∨op=wDecay then(numP L5).bind fun k L6=>(signP (ch 44) L6).map fun _=>k else .ok 0 L5)= .ok p L7∧
   σ'=(5,b5,.cells [iv 5,sv op,sv ⟨#[]⟩,sv tb,iv 0,iv 0,sv ⟨#[]⟩,.v (.slice none 0 0),iv p,iv 0,iv 0,.ms 9 b9 0 2 2])::(9,b9,.cells (ea.row++(truE 1).row))::(4,b4,.cells [iv 0,sv ⟨#[]⟩,sv ⟨#[]⟩,sv ⟨#[]⟩,iv 0,iv 0,sv ⟨#[]⟩,.v (.slice none 0 0),iv 0,iv 0,iv 0,.v (.slice none 0 0)])::(1000,b1,.cells (rdC L7 true++rest))::τ∧
   rg=[(0,.lp 1000 b1 0),(4,.lp 4 b4 0),(5,.lp 5 b5 0)]) ?_ ?_
  ·repeat'(first|exact .nil|refine .k0 ?_|refine .k1 ?_|refine .k2 ?_|refine .k4 ?_|refine .k9 ?_|(refine .cd ?_ ?_<;>(intro hc;skip))|refine .r1 ?_ ?_|fail)
   try any_goals(exact Zo)
   all_goals(try simp only[BL]at *)
   ·refine VX_rdc rfl (rd_number hw L5 hL5 true) rfl rfl rfl .nil ?_ (fun _ _ h=>FK_pan (.inl h)) (fun _=>Zs) (fun p L6 hr6 hL6=> ?_)
    ·exact fun p c h=>by rw[if_pos hc,h];rfl
    have hq6:=(Pos.num L5 hL5.e).ok _ _ hr6
    simp(decide:=true)only[upt_hd,upt_ne]
    repeat'(first|exact .nil|refine .k0 ?_|refine .k1 ?_|refine .k2 ?_|refine .r1 ?_ ?_|fail)
    refine VX_rdc rfl (rd_sign hw L6 hL6 true (ch 44)) rfl rfl rfl .nil ?_ (fun _ _ h=>FK_pan (.inl h)) (fun _=>Zs) (fun a7 L7 hr7 hL7=> ?_)
    ·exact fun p c h=>by rw[if_pos hc,hr6,PR.bind_ok,PR.map,h];rfl
    have hq7:=(Pos.need (k:=5) (s:=ch 44) (by decide) L6 hL6.e).ok _ _ hr7
    simp(decide:=true)only[upt_hd,upt_ne]
    repeat'(first|refine .k1 ?_|refine .k2 ?_|fail)
    exact JoinW.intro rfl ⟨p,L7,hL7,by omega,by rw[if_pos hc,hr6,PR.bind_ok,PR.map,hr7];rfl,rfl,rfl⟩
   ·exact JoinW.intro rfl ⟨0,L5,hL5,Nat.le_refl _,by rw[if_neg (fun h=>h.elim hc.1 hc.2)],rfl,rfl⟩
  ·rintro _ _ ⟨p,L7,hL7,hl7,hr7,rfl,rfl⟩
   rw[hr7,PR.bind_ok]
   repeat'(first|exact .nil|refine .k1 ?_|refine .k2 ?_|refine .r1 ?_ ?_|fail)
   refine VX_rdc rfl (rd_window hw L7 hL7 true) rfl rfl rfl .nil ?_ (fun _ _ h=>FK_pan (.inl h)) (fun _=>Zs) (fun w L8 hr8 hL8=> ?_)
   ·exact fun p c h=>by rw[h];rfl
   have hq8:=(Pos.window L7 hL7.e).ok _ _ hr8
   rw[hr8,PR.bind_ok]
   simp(decide:=true)only[upt_hd,upt_ne]
   repeat'((fail_if_success (show WK _ _ _ _ _ _ _ _));(first|exact .nil|refine .k0 ?_|refine .k1 ?_|refine .r1 ?_ ?_|fail))
   refine WK_keep rfl ?_
   refine WK_join (fun rg σ'=>∃ (ec:Ex) (L9:List Tok),Gd L9∧(if see 1 wWhere L8 then exprP n true L8.tail else .ok (truE 1) L8)= .ok ec L9∧
    σ'=(5,b5,.cells [iv 5,sv op,sv ⟨#[]⟩,sv tb,iv 0,iv 0,sv ⟨#[]⟩,.v (.slice none 0 0),iv p,iv w.kind,iv w.size,.ms 9 b9 0 2 2])::(9,b9,.cells (ea.row++ec.row))::(4,b4,.cells [iv 0,sv ⟨#[]⟩,sv ⟨#[]⟩,sv ⟨#[]⟩,iv 0,iv 0,sv ⟨#[]⟩,.v (.slice none 0 0),iv 0,iv 0,iv 0,.v (.slice none 0 0)])::(1000,b1,.cells (rdC L9 true++rest))::τ∧
    rg=[(0,.lp 1000 b1 0),(4,.lp 4 b4 0),(5,.lp 5 b5 0)]) ?_ ?_
   ·repeat'(first|exact .nil|refine .k1 ?_|refine .k2 ?_|refine .r1 ?_ ?_|fail)
    refine VX_rdc rfl (rd_skip L8 hL8 true 1 (by decide) wWhere) rfl rfl rfl .nil (fun _ _ h=>skipP_err h) (fun _ _ h=>FK_pan (.inl h)) (fun _=>Zs) (fun a L9 hr9 hL9=> ?_)
    simp(decide:=true)only[upt_hd,upt_ne]
    by_cases hs:see 1 wWhere L8=true
    ·rw[skipP_t hs]at hr9;cases hr9
     have ht:=hL8.tail (see_kind (k:=1) (by decide) L8 hs)
     (repeat'((fail_if_success (show WK _ _ _ _ (.mreg _ _) _ _ _));(first|refine .k0 ?_|refine .k1 ?_|(refine .cd ?_ ?_<;>first|with_reducible exact tF|(intro hc;skip))|fail)))<;>(try(simp at hc;done))
     refine WK_mregC [1000] 49 rfl rfl rfl rfl ?_
     repeat'(first|exact .nil|refine .k0 ?_|refine .r1 ?_ ?_|fail)
     refine VY_rdc rfl rfl (ih.expr true L8.tail ht.1 (by omega)) rfl rfl rfl .nil ?_ (fun _ _ h=>FK_pan (.inl h)) (fun _=>Zs) (fun ec L9 hr9 hL9=> ?_)
     ·exact fun p c h=>by rw[if_pos hs,h];rfl
     simp(decide:=true)only[upt_hd,upt_ne]
     repeat'(first|exact .nil|refine .k0 ?_|refine .k1 ?_|refine .k2 ?_|refine .r1 ?_ ?_|refine .r8 ?_ ?_|fail)
     ·exact⟨by decide,by decide⟩
     exact JoinW.intro rfl ⟨ec,L9,hL9,by rw[if_pos hs,hr9],rfl,rfl⟩
    ·rw[skipP_f hs]at hr9;cases hr9
     (repeat'(first|refine .k0 ?_|refine .k1 ?_|refine .k2 ?_|refine .k9 ?_|(refine .cd ?_ ?_<;>first|with_reducible exact fT|(intro hc;skip))|fail))<;>(try(simp at hc;done))
     exact JoinW.intro rfl ⟨truE 1,L8,hL8,by rw[if_neg hs],rfl,rfl⟩
   ·rintro _ _ ⟨ec,L9,hL9,hr9,rfl,rfl⟩
    rw[hr9,PR.bind_ok]
    repeat'(first|exact .nil|refine .k1 ?_|refine .k2 ?_|refine .r8 ?_ ?_|fail)
    refine VX_st (cs':=rdC L9 false++rest) rfl rfl rfl rfl rfl ⟨rfl,by simp[rdC]⟩ .nil ?_
    simp(decide:=true)only[upt_hd,upt_ne]
    repeat'(first|exact .nil|refine .k0 ?_|refine .k1 ?_|refine .k2 ?_|refine .r1 ?_ ?_|fail)
    refine VX_rdc rfl (rd_sign hw L9 hL9 false (ch 41)) rfl rfl rfl .nil ?_ (fun _ _ h=>FK_pan (.inl h)) (fun _=>Zs) (fun a10 L10 hr10 hL10=> ?_)
    ·exact fun p c h=>by rw[PR.map,h];rfl
    simp(decide:=true)only[upt_hd,upt_ne]
    repeat'(first|exact .nil|refine .k0 ?_|refine .k1 ?_|refine .k2 ?_|refine .k7 ?_|refine .r1 ?_ ?_|fail)
    refine rd_retZ (e:=12) (rows:=[ea.row,ec.row]) (a:= .mk 5 op ⟨#[]⟩ tb v0 [] p w [ea,ec]) (by rw[PR.map,hr10];rfl) hL10 (.there .here) (fun r hr=> ?_) (Nat.le_of_ble_eq_true rfl) (.same <| .same <| .same <| .same <| .same <| .same <| .same <| .same <| .same <| .same <| .same <| .m .nil) ?_ Zs
    ·simp only[List.mem_cons,List.not_mem_nil,or_false]at hr
     rcases hr with rfl|rfl<;>rfl
    ·repeat' first|exact Wk_two0|exact .refl _|exact .nil|refine .cons ?_ ?_|refine .agg ?_
abbrev z12:List AV:=[iv 0,sv ⟨#[]⟩,sv ⟨#[]⟩,sv ⟨#[]⟩,iv 0,iv 0,sv ⟨#[]⟩,.v (.slice none 0 0),iv 0,iv 0,iv 0,.v (.slice none 0 0)]
theorem rd_group'(hw:WrongOk){n:Nat}(ih:RecOk n)(i:Bool)(L:List Tok)(hL:Gd L)(hn:8 * L.length+3≤n+1):RdS 195 [] i L (groupP (n+1) i L) exV:=
 rd_group hw n (fun L hL hn i=>ih.expr i L hL hn) L hL (by omega) i
theorem rd_word(hw:WrongOk){n:Nat}(ih:RecOk n)(i:Bool)(L:List Tok)(hL:Gd L)(hk:(hd L).kind≠6)(hn:8 * L.length+3≤n+1):RdS 193 [] i L (wordP (n+1) i L) exV:=by
 refine RdS.intro fun b1 rest τ=> ?_
 refine Spec.runk (fun _=>0) Tryz.func193 comp193 era193 (Nat.le_of_ble_eq_true rfl) ?_
 have hp:=hL.pos
 have ht:=hL.tail hk
 rw[wordP]
 unfold rdC
 first|refine .k1 ?_|fail
 first|refine .k2 ?_|fail
 repeat'((fail_if_success (show WK _ _ _ _ _ _ _ _));(first|refine .k0 ?_|refine .k1 ?_|(refine .l1 ?_;intro b)|fail))
 rename Nat=>b2
 refine WK_keep rfl ?_
 refine WK_join (fun rg σ'=>¬((hd L).text=wTrue∨(hd L).text=wFalse)∧(hd L).text≠wNull∧¬((hd L).text∈aggL∧i=false)∧σ'=(2,b2,.cells z12)::(1000,b1,.cells (rdC L i++rest))::τ∧rg=[(0,.lp 1000 b1 0),(2,.lp 2 b2 0)]) ?_ ?_
 ·repeat'((fail_if_success (show WK _ _ _ _ (.seq (.seq (.reg s193_10) _) (.keep _ _)) _ _ _));(first|exact .nil|refine .k0 ?_|refine .k1 ?_|refine .k2 ?_|refine .k6 ?_|refine .k9 ?_|(refine .cd ?_ ?_<;>(intro hc;first|exact kf hc (by assumption)|skip))|refine .r1 ?_ ?_|refine .t1 ?_ ?_ ?_|refine .t3 ?_ ?_ ?_|refine .r8 ?_ ?_|fail))
  any_goals omega
  all_goals(try simp only[BL]at *)
  all_goals simp only[hd_getD]at *
  ·refine VX_st (cs':=[.sl false 3 ((L.drop 1).map Tok.cells),.v (.bool i)]++rest) rfl rfl rfl rfl rfl ⟨rfl,by simp⟩ .nil ?_
   simp(decide:=true)only[upt_hd,upt_ne,List.drop_one]
   repeat'(first|exact .nil|refine .k0 ?_|refine .k1 ?_|refine .k2 ?_|refine .k7 ?_|refine .r1 ?_ ?_|refine .an rfl (by intro hob;exact truth_ok _) ?_ ?_|fail)
   exact rd_ret (a:=truE 1) (by rw[if_pos (.inl hc),if_pos hc]) ht.1 (.ofeq (by rw[hc];rfl))
  ·rename_i hc0
   refine VX_st (cs':=[.sl false 3 ((L.drop 1).map Tok.cells),.v (.bool i)]++rest) rfl rfl rfl rfl rfl ⟨rfl,by simp⟩ .nil ?_
   simp(decide:=true)only[upt_hd,upt_ne,List.drop_one]
   repeat'(first|exact .nil|refine .k0 ?_|refine .k1 ?_|refine .k2 ?_|refine .k7 ?_|refine .r1 ?_ ?_|refine .an rfl (by intro hob;exact truth_ok _) ?_ ?_|fail)
   exact rd_ret (a:=truE 0) (by rw[if_pos (.inr hc),if_neg hc0]) ht.1 (.ofeq (by rw[hc];rfl))
  ·rename_i hc0 hc1
   rw[if_neg (fun h=>h.elim hc0 hc1),if_pos hc]
   refine VX_st (cs':=[.sl false 3 ((L.drop 1).map Tok.cells),.v (.bool i)]++rest) rfl rfl rfl rfl rfl ⟨rfl,by simp⟩ .nil ?_
   simp(decide:=true)only[upt_hd,upt_ne,List.drop_one]
   repeat'(first|exact .nil|refine .k0 ?_|refine .k1 ?_|refine .k2 ?_|refine .r1 ?_ ?_|fail)
   refine VX_rdc (L:=L.tail) (ins:=i) rfl (ih.group i L.tail ht.1 (by omega)) rfl rfl rfl .nil ?_ (fun _ _ h=>FK_pan h) (fun _=>Zs) (fun x L1 hr1 hL1=> ?_)
   ·exact fun p c h=>by rw[h];rfl
   simp(decide:=true)only[upt_hd,upt_ne]
   repeat'(first|exact .nil|refine .k0 ?_|refine .k1 ?_|refine .k7 ?_|refine .r1 ?_ ?_|fail)
   ·simp
   refine rd_ret (a:=unE wNull x) (by rw[hr1];rfl) hL1 ?_
   rw[hc]
   repeat' first|exact Wk_one|exact .refl _|exact .nil|refine .cons ?_ ?_|refine .agg ?_
  ·rename_i hc0 hc1
   have hcn:=hc
   refine WK_join (fun rg σ'=>∃ q:Bool,(q=true↔(hd L).text∈aggL)∧σ'=(2,b2,.cells z12)::(1000,b1,.cells (rdC L i++rest))::τ∧rg=[(0,.lp 1000 b1 0),(2,.lp 2 b2 0),(3,sv (hd L).text),(43,.v (.bool q))]) ?_ ?_
   ·repeat'(first|exact .nil|refine .k0 ?_|refine .k1 ?_|refine .k2 ?_|refine .k9 ?_|(refine .cd ?_ ?_<;>(intro hc;skip))|refine .r1 ?_ ?_|fail)
    all_goals(try simp only[BL]at *)
    all_goals(refine JoinW.intro rfl ⟨_,?_,rfl,rfl⟩;simp_all [aggL])
   ·rintro _ _ ⟨q,hq,rfl,rfl⟩
    unfold rdC
    repeat'(first|exact .nil|refine .k0 ?_|refine .k1 ?_|refine .k2 ?_|refine .k9 ?_|(refine .cd ?_ ?_<;>(intro hc;skip))|refine .r1 ?_ ?_|refine .t3 ?_ ?_ ?_|refine .r8 ?_ ?_|fail)
    any_goals omega
    all_goals(try simp only[BL]at *)
    ·rename_i hq1
     subst hc
     rw[if_neg (fun h=>h.elim hc0 hc1),if_neg hcn,if_pos ⟨hq.1 hq1,rfl⟩]
     refine VX_st (cs':=[.sl false 3 ((L.drop 1).map Tok.cells),.v (.bool false)]++rest) rfl rfl rfl rfl rfl ⟨rfl,by simp⟩ .nil ?_
     simp(decide:=true)only[upt_hd,upt_ne,List.drop_one]
     repeat'(first|exact .nil|refine .k0 ?_|refine .k1 ?_|refine .k2 ?_|refine .r1 ?_ ?_|fail)
     refine VX_rdc (L:=L.tail) (ins:=false) rfl (ih.agg (hd L).text L.tail ht.1 (by omega)) rfl rfl rfl .nil ?_ (fun _ _ h=>FK_pan h) (fun _=>Zs) (fun x L1 hr1 hL1=> ?_)
     ·exact fun p c h=>h
     simp(decide:=true)only[upt_hd,upt_ne]
     repeat'(first|exact .nil|refine .k0 ?_|refine .k1 ?_|refine .k7 ?_|refine .r1 ?_ ?_|fail)
     exact rd_ret (a:=x) hr1 hL1 (.refl _)
    ·exact JoinW.intro rfl ⟨fun h=>h.elim hc0 hc1,hcn,by simp[hc],rfl,rfl⟩
    ·exact JoinW.intro rfl ⟨fun h=>h.elim hc0 hc1,hcn,(fun h=>by rw[hq.2 h.1]at hc;cases hc),rfl,rfl⟩
 ·rintro _ _ ⟨h1,h2,h3,rfl,rfl⟩
  rw[if_neg h1,if_neg h2,if_neg h3]
  repeat'(first|exact .nil|refine .k1 ?_|refine .k2 ?_|refine .r1 ?_ ?_|fail)
  refine VX_rdc rfl (rd_name hw L hL i) rfl rfl rfl .nil ?_ (fun _ _ h=>FK_pan h) (fun _=>Zs) (fun s L1 hr1 hL1=> ?_)
  ·exact fun p c h=>by rw[h];rfl
  have hq1:=(Pos.name L hL.e).ok _ _ hr1
  rw[hr1,PR.bind_ok]
  simp(decide:=true)only[upt_hd,upt_ne]
  unfold rdC
  repeat'(first|exact .nil|refine .k0 ?_|refine .k1 ?_|refine .k2 ?_|refine .k6 ?_|refine .k7 ?_|(refine .cd ?_ ?_<;>(intro hc;skip))|refine .r1 ?_ ?_|fail)
  all_goals(try simp only[BL]at *)
  ·refine rd_ret (a:=nmE 2 s []) (by rw[if_pos hc]) hL1 ?_
   repeat' first|exact .refl _|exact .nil|refine .cons ?_ ?_|refine .agg ?_
  ·subst hc
   rw[if_neg (by decide)]
   refine VX_rdc (L:=L1) (ins:=false) rfl (rd_skip L1 hL1 false 1 (by decide) wOf) rfl rfl rfl .nil (fun _ _ h=>skipP_err h) (fun _ _ h=>FK_pan h) (fun _=>Zs) (fun a L2 hr2 hL2=> ?_)
   simp(decide:=true)only[upt_hd,upt_ne]
   by_cases hs:see 1 wOf L1=true
   ·rw[skipP_t hs]at hr2;cases hr2
    have ht1:=hL1.tail (see_kind (k:=1) (by decide) L1 hs)
    rw[if_pos hs]
    (repeat'(first|exact .nil|refine .k0 ?_|refine .k1 ?_|refine .k2 ?_|(refine .cd ?_ ?_<;>first|with_reducible exact tF|(intro hc;skip))|refine .r1 ?_ ?_|fail))<;>(try(simp at hc;done))
    refine VX_rdc rfl (ih.group false L1.tail ht1.1 (by omega)) rfl rfl rfl .nil ?_ (fun _ _ h=>FK_pan h) (fun _=>Zs) (fun x L2 hr2 hL2=> ?_)
    ·exact fun p c h=>by rw[h];rfl
    simp(decide:=true)only[upt_hd,upt_ne]
    repeat'(first|exact .nil|refine .k0 ?_|refine .k1 ?_|refine .k7 ?_|refine .r1 ?_ ?_|fail)
    ·simp
    refine rd_ret (a:=nmE 4 s [x]) (by rw[hr2];rfl) hL2 ?_
    repeat' first|exact Wk_one|exact .refl _|exact .nil|refine .cons ?_ ?_|refine .agg ?_
   ·rw[skipP_f hs]at hr2;cases hr2
    rw[if_neg hs]
    (repeat'(first|exact .nil|refine .k0 ?_|refine .k1 ?_|refine .k2 ?_|refine .k7 ?_|refine .k9 ?_|(refine .cd ?_ ?_<;>first|with_reducible exact fT|(intro hc;skip))|refine .r1 ?_ ?_|fail))<;>(try(simp at hc;done))
    refine rd_ret (a:=nmE 3 s []) rfl hL1 ?_
    repeat' first|exact .refl _|exact .nil|refine .cons ?_ ?_|refine .agg ?_
theorem wrong_ok:WrongOk:=fun L hL ins=>by
 refine RdS.intro fun b rest τ=> ?_
 refine Spec.runk (fun _=>0) Tryz.func76 comp76 era76 (Nat.le_of_ble_eq_true rfl) ?_
 have hp:=hL.pos
 unfold rdC
 repeat'(first|exact .nil|refine .k0 ?_|refine .k1 ?_|refine .k2 ?_|refine .r1 ?_ ?_|refine .t1 ?_ ?_ ?_|fail)
 try any_goals(exact Zo)
 all_goals(try simp only[BL]at *)
 refine VX_panic rfl rfl .nil ?_
 refine FK_pan ?_
 rw[hd_getD]
 exact rd_pan (cs:=rdC L ins++rest) ⟨rfl,_,_,rfl⟩
set_option linter.unusedSectionVars false
def DecOk:Prop:=∀ t:Tok,TokOk t→t.kind=3→Pure Tryz.prog 135 [sv t.text] (.tup [iv (decV t.text),iv 0])
theorem tok_is{k:Int}{L L':List Tok}{t:Tok}(h:tokP k L= .ok t L'):t=hd L∧t.kind=k:=by
 unfold tokP at h
 split at h
 ·cases h
 ·cases h;exact⟨rfl,Decidable.not_not.1 (by assumption)⟩
theorem rd_primary(hw:WrongOk)(hN:NormOk)(hD:DecOk){n:Nat}(ih:RecOk n)(i:Bool)(L:List Tok)(hL:Gd L)(hn:8 * L.length+4≤n+1):RdS 166 [] i L (primP (n+1) i L) exV:=by
 refine RdS.intro fun b1 rest τ=> ?_
 refine Spec.runk (fun _=>0) Tryz.func166 comp166 era166 (Nat.le_of_ble_eq_true rfl) ?_
 rw[primP]
 have hp:=hL.pos
 have hcell:(rdC L i++rest)=[.sl false 3 (L.map Tok.cells),.v (.bool i)]++rest:=rfl
 rw[hcell]
 repeat'(first|exact .nil|refine .k0 ?_|refine .k1 ?_|refine .k2 ?_|refine .k6 ?_|refine .k9 ?_|(refine .cd ?_ ?_<;>(intro hc;skip))|refine .r1 ?_ ?_|(refine .l1 ?_;intro b)|refine .t1 ?_ ?_ ?_|fail)
 any_goals omega
 all_goals(try simp only[BL]at *)
 all_goals simp only[hd_getD]at *
 ·rw[if_pos hc]
  refine VX_rdc (rest:=rest) rfl (rd_number hw L hL i) rfl rfl rfl .nil ?_ (fun _ _ h=>FK_pan h) (fun _=>Zs) (fun k L1 hr1 hL1=> ?_)
  ·exact fun p c h=>by rw[h];rfl
  rw[hr1,PR.bind_ok]
  simp(decide:=true)only[upt_hd,upt_ne]
  repeat'(first|exact .nil|refine .k0 ?_|refine .k1 ?_|refine .k2 ?_|refine .r1 ?_ ?_|fail)
  refine VX_rdc (rest:=rest) rfl (rd_unit hw hN L1 hL1 i) rfl rfl rfl .nil ?_ (fun _ _ h=>FK_pan h) (fun _=>Zs) (fun u L2 hr2 hL2=> ?_)
  ·exact fun p c h=>by rw[h];rfl
  simp(decide:=true)only[upt_hd,upt_ne]
  repeat'(first|exact .nil|refine .k0 ?_|refine .k1 ?_|refine .k2 ?_|refine .k7 ?_|refine .r1 ?_ ?_|fail)
  refine rd_ret (a:=litE ⟨2,k,⟨#[]⟩⟩ u ⟨#[]⟩) (by rw[hr2];rfl) hL2 ?_
  repeat' first|exact .refl _|exact .nil|refine .cons ?_ ?_|refine .agg ?_
 ·rename_i h2
  rw[if_neg h2,if_pos hc]
  refine VX_rdc (rest:=rest) rfl (rd_token hw L hL i 3 (by decide)) rfl rfl rfl .nil ?_ (fun _ _ h=>FK_pan h) (fun _=>Zs) (fun t3 L1 hr1 hL1=> ?_)
  ·exact fun p c h=>by rw[h];rfl
  rw[hr1,PR.bind_ok]
  obtain⟨et,hk3⟩:=tok_is hr1
  have hT3:TokOk t3:=by rw[et];exact hL.t _ (hd_mem hL.e.ne)
  simp(decide:=true)only[upt_hd,upt_ne]
  repeat'(first|exact .nil|refine .k0 ?_|refine .k1 ?_|refine .k2 ?_|refine .r1 ?_ ?_|refine .an rfl (by intro hob;exact hD t3 hT3 hk3) ?_ ?_|fail)
  refine VX_rdc (rest:=rest) rfl (rd_unit hw hN L1 hL1 i) rfl rfl rfl .nil ?_ (fun _ _ h=>FK_pan h) (fun _=>Zs) (fun u L2 hr2 hL2=> ?_)
  ·exact fun p c h=>by rw[h];rfl
  simp(decide:=true)only[upt_hd,upt_ne]
  repeat'(first|exact .nil|refine .k0 ?_|refine .k1 ?_|refine .k2 ?_|refine .k7 ?_|refine .r1 ?_ ?_|fail)
  refine rd_ret (a:=litE ⟨3,decV t3.text,⟨#[]⟩⟩ u ⟨#[]⟩) (by rw[hr2];rfl) hL2 ?_
  repeat' first|exact .refl _|exact .nil|refine .cons ?_ ?_|refine .agg ?_
 ·rename_i h2 h3
  rw[if_neg h2,if_neg h3,if_pos hc]
  refine VX_rdc (rest:=rest) rfl (rd_token hw L hL i 4 (by decide)) rfl rfl rfl .nil ?_ (fun _ _ h=>FK_pan h) (fun _=>Zs) (fun t L1 hr1 hL1=> ?_)
  ·exact fun p c h=>by rw[h];rfl
  simp(decide:=true)only[upt_hd,upt_ne]
  repeat'(first|exact .nil|refine .k0 ?_|refine .k1 ?_|refine .k2 ?_|refine .k7 ?_|refine .r1 ?_ ?_|fail)
  refine rd_ret (a:=litE ⟨4,0,t.text⟩ [] ⟨#[]⟩) (by rw[hr1];rfl) hL1 ?_
  repeat' first|exact .refl _|exact .nil|refine .cons ?_ ?_|refine .agg ?_
 ·rename_i h2 h3 h4
  rw[if_neg h2,if_neg h3,if_neg h4,if_pos hc]
  refine VX_rdc (rest:=rest) rfl (ih.word i L hL (by rw[hc];decide) (by omega)) rfl rfl rfl .nil (fun _ _ h=>h) (fun _ _ h=>FK_pan h) (fun _=>Zs) (fun x L1 hr1 hL1=> ?_)
  simp(decide:=true)only[upt_hd,upt_ne]
  repeat'(first|exact .nil|refine .k0 ?_|refine .k1 ?_|refine .k7 ?_|refine .r1 ?_ ?_|fail)
  exact rd_ret (a:=x) hr1 hL1 (.refl _)
 ·rename_i h2 h3 h4
  rw[if_neg h2,if_neg h3,if_neg h4,if_neg hc]
  by_cases hs:see 5 (ch 64) L=true
  ·have ht:=hL.tail (see_kind (k:=5) (by decide) L hs)
   rw[if_pos hs]
   refine VX_rdo (rest:=rest) rfl (rd_skip L hL i 5 (by decide) (ch 64)) (skipP_t hs) rfl rfl rfl .nil (fun _=> ?_)
   simp(decide:=true)only[upt_hd,upt_ne]
   (repeat'(first|exact .nil|refine .k0 ?_|refine .k1 ?_|refine .k2 ?_|(refine .cd ?_ ?_<;>first|with_reducible exact tF|(intro hc;skip))|refine .r1 ?_ ?_|fail))<;>(try(simp at hc;done))
   refine VX_rdc rfl (rd_key hw L.tail ht.1 i) rfl rfl rfl .nil (fun _ _ h=>h) (fun _ _ h=>FK_pan h) (fun _=>Zs) (fun x L1 hr1 hL1=> ?_)
   simp(decide:=true)only[upt_hd,upt_ne]
   repeat'(first|exact .nil|refine .k0 ?_|refine .k1 ?_|refine .k7 ?_|refine .r1 ?_ ?_|fail)
   exact rd_ret (a:=x) hr1 hL1 (.refl _)
  ·rw[if_neg hs]
   refine VX_rdo (rest:=rest) rfl (rd_skip L hL i 5 (by decide) (ch 64)) (skipP_f hs) rfl rfl rfl .nil (fun _=> ?_)
   simp(decide:=true)only[upt_hd,upt_ne]
   (repeat'(first|exact .nil|refine .k0 ?_|refine .k1 ?_|refine .k2 ?_|refine .k9 ?_|(refine .cd ?_ ?_<;>first|with_reducible exact fT|(intro hc;skip))|refine .r1 ?_ ?_|fail))<;>(try(simp at hc;done))
   refine VX_rdc rfl (ih.group i L hL (by omega)) rfl rfl rfl .nil (fun _ _ h=>h) (fun _ _ h=>FK_pan h) (fun _=>Zs) (fun x L1 hr1 hL1=> ?_)
   simp(decide:=true)only[upt_hd,upt_ne]
   repeat'(first|exact .nil|refine .k0 ?_|refine .k1 ?_|refine .k7 ?_|refine .r1 ?_ ?_|fail)
   exact rd_ret (a:=x) hr1 hL1 (.refl _)
theorem recOk(hN:NormOk)(hD:DecOk):∀ n,RecOk n
 |0=>⟨fun _ _ _ h=>absurd h (by omega),fun _ _ _ _ h=>absurd h (by omega),fun _ _ _ _ h=>absurd h (by omega),fun _ _ _ h=>absurd h (by omega),fun _ _ _ h=>absurd h (by omega),fun _ _ _ _ h=>absurd h (by omega),fun _ _ _ h=>absurd h (by omega)⟩
 |n+1=>⟨fun i L hL hn=>rd_expr wrong_ok (recOk hN hD n) i L hL hn,fun l i L hL hn=>rd_binary (recOk hN hD n) l i L hL hn,fun l i L hL hn=>rd_operand (recOk hN hD n) l i L hL hn,fun i L hL hn=>rd_primary wrong_ok hN hD (recOk hN hD n) i L hL hn,
   fun i L hL hn=>rd_group' wrong_ok (recOk hN hD n) i L hL hn,fun i L hL hk hn=>rd_word wrong_ok (recOk hN hD n) i L hL hk hn,fun op L hL hn=>rd_aggregate wrong_ok (recOk hN hD n) op L hL hn⟩
theorem expr_ok(hN:NormOk)(hD:DecOk)(i:Bool)(L:List Tok)(hL:Gd L):RdS 38 [] i L (exprP N0 i L) exV:=(recOk hN hD N0).expr i L hL (by have:=hL.n;show _≤1000000;omega)
set_option linter.unusedSectionVars false
def ColS(e tg:Nat)(rows:List (List AV))(x:AV)(τ:Store):Prop:=(rows=[]∧x=nilS∧τ=[])∨(rows≠[]∧∃ bb u c,x= .own e tg bb u c rows∧τ=[(tg,bb,.tail u c)])
structure ModS(m:Mdl)(x1 x2:AV)(τ1 τ2:Store):Prop where
 t:ColS 4 49 (m.tables.map Tab.cells) x1 τ1
 f:ColS 18 40 (m.features.map Fea.cells) x2 τ2
def ModR(b:Nat)(τ0:Store)(m:Mdl)(x1 x2:AV)(τ1 τ2:Store)(r:PR Itm)(x:Res)(σ':Store):Prop:=match r with
 | .ok a L'=>∃ y1 y2 υ1 υ2,ModS (addI m a) y1 y2 υ1 υ2∧Gd L'∧x= .ret (.tup [])∧σ'=(1000,b,.cells (rdC L' false++[y1,y2]))::(υ1++υ2++τ0)
 | .err p c=>x= .pan [{v:=fltV p c,recovered:=false}]∧∃ L' i',σ'=(1000,b,.cells (rdC L' i'++[x1,x2]))::(τ1++τ2++τ0)
def ModF(b:Nat)(τ0:Store)(m:Mdl)(x1 x2:AV)(τ1 τ2:Store)(r:PR Itm)(x:Res)(σ':Store):Prop:=match r with
 | .ok a L'=>∃ y1 y2 υ1 υ2 σ2,ModS (addI m a) y1 y2 υ1 υ2∧Gd L'∧x= .ret (.tup [])∧Sub σ2 σ'∧σ2.Perm ((1000,b,.cells (rdC L' false++[y1,y2]))::(υ1++υ2++τ0))
 | .err p c=>x= .pan [{v:=fltV p c,recovered:=false}]∧∃ L' i',Sub ((1000,b,.cells (rdC L' i'++[x1,x2]))::(τ1++τ2++τ0)) σ'
theorem ModF.spec{f:FuncId}{ys:List AV}{σ:Store}{b:Nat}{τ0:Store}{m:Mdl}{x1 x2:AV}{τ1 τ2:Store}{r:PR Itm}(h:Sx.Spec Tryz.prog f ys σ (ModF b τ0 m x1 x2 τ1 τ2 r)):Sx.Spec Tryz.prog f ys σ (ModR b τ0 m x1 x2 τ1 τ2 r):=by
 intro M w0 w vs hI hR
 refine(h M w0 w vs hI hR).mono fun e w' ⟨M',x,σ',hM,hI',hx,hq⟩=> ?_
 cases r with
 |ok a L'=>obtain⟨y1,y2,υ1,υ2,σ2,h1,h2,h3,h4,h5⟩:=hq;exact⟨M',x,_,hM,(hI'.sub h4).perm h5,hx,y1,y2,υ1,υ2,h1,h2,h3,rfl⟩
 |err p c=>obtain⟨h1,L',i',h2⟩:=hq;exact⟨M',x,_,hM,hI'.sub h2,hx,h1,L',i',rfl⟩
theorem ModF.pan{b:Nat}{τ0 τ:Store}{m:Mdl}{x1 x2:AV}{τ1 τ2:Store}{r:PR Itm}(hs:τ=τ1++τ2++τ0){val:Itm→AV}{ch:List PanicEntry}{σ':Store}(h:RdF false [x1,x2] r val b τ (.pan ch) σ'):ModF b τ0 m x1 x2 τ1 τ2 r (.pan ch) σ':=by
 obtain⟨x,cs',h1,h2,h3⟩:=h
 subst hs
 cases r with
 |ok a L'=>obtain⟨_,e,_⟩:=h1;subst e;exact h3.elim
 |err p c=>obtain⟨e,L',i',rfl⟩:=h1;subst e;exact⟨congrArg _ h3,L',i',h2⟩
end Go.Proofs.YtbihckigennlhaaGreatDoor
