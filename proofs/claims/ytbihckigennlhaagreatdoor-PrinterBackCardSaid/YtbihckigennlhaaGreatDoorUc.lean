/- The reader's methods, walked: operand. -/
import Derived.Test.YtbihckigennlhaaGreatDoorTz
import Derived.Test.YtbihckigennlhaaGreatDoorPt
import Derived.Lib.AtoiAllCases
import Derived.Test.YtbihckigennlhaaGreatDoorSxMixC
set_option linter.unusedSimpArgs false
set_option linter.unusedVariables false
set_option maxRecDepth 100000
set_option maxHeartbeats 4000000
namespace Go.Proofs.YtbihckigennlhaaGreatDoor
open Go.Sx Go.Proofs
section
variable {cfg:Nat→Nat}{K:Regs→Store→Prop}{E:List PanicEntry→Store→Prop}{σ τ:Store}{l:List CI}{d b b':Nat}{xr:XR}{ps:List Prop}{og:Option Bool}{g:Option (Nat×Bool)}{args:List Operand}{ys zs:List AV}{α β:Type}{f:FuncId}{ins ins2:Bool}{L:List Tok}{rest cs:List AV}{r:PR α}{val:α→AV}{r2:PR β}{val2:β→AV}
theorem VX_specg{P:Program}[Glob P]{R:Res→Store→Prop}(v:AV)(h:argO xr g args=some (og,zs,ps))(hp:og.getD true=true→Sx.Spec P f zs σ R)(hps:OB ps)(k:og.getD true=true→∀ x σ',R (.ret x) σ'→VX P cfg l K E ((d,.s x)::xr) σ')(e:∀ ch σ',R (.pan ch) σ'→E ch σ')
  (k0:og.getD true=false→VX P cfg l K E (putX og d v xr) σ):VX P cfg (⟨some d,.call f args,g⟩::l) K E xr σ:=by
 obtain⟨hc,he⟩:=argO_eq h
 refine VX_gen hc (fun hg=> ?_) (fun hg=> ?_)
 ·simp only[vcO,he hps hg]
  exact⟨R,hp hg,fun x σ' hr=>(k hg x σ' hr).h,e⟩
 ·rw[← putX_f hg (v:=v)];exact(k0 hg).h
theorem VX_rdcg(v:AV)(h:argO xr g args=some (og,.lp 1000 b 0::ys,ps))(hp:RdS f ys ins L r val)(hl:lkt σ 1000=some (b',.cells cs))(hb:b=b')(hc:cs=rdC L ins++rest)(hps:OB ps)
  (he:∀ p c,r= .err p c→r2= .err p c) (hE:∀ ch σ',RdF ins2 rest r2 val2 b τ (.pan ch) σ'→E ch σ') (hs:∀ cs',Sub ((1000,b,.cells cs')::τ) (upt σ 1000 b (.cells cs')))
  (k:og.getD true=true→∀ a L',r= .ok a L'→Gd L'→VX Tryz.prog cfg l K E ((d,.s (val a))::xr) (upt σ 1000 b (.cells (rdC L' ins++rest))))
  (k0:og.getD true=false→VX Tryz.prog cfg l K E (putX og d v xr) σ):VX Tryz.prog cfg (⟨some d,.call f args,g⟩::l) K E xr σ:=by
 subst hc
 subst hb
 refine VX_specg v h (fun _=>Spec.at (fun τ'=>hp b rest τ') hl) hps (fun hg x σ' ⟨cs',hR,e1⟩=> ?_) (fun ch σ' ⟨cs',hR,e1⟩=> ?_) k0
 ·subst e1
  cases hr:r with
  |ok a L'=>rw[hr]at hR;obtain⟨h1,h2,h3⟩:=hR;cases h2;subst h3;exact k hg a L' hr h1
  |err p c=>rw[hr]at hR;exact absurd hR (by nofun)
 ·subst e1
  cases hr:r with
  |ok a L'=>rw[hr]at hR;exact absurd hR.2.1 (by nofun)
  |err p c=>
   rw[hr]at hR
   refine hE ch _ (rd_pan ?_ (hs cs'))
   rw[he p c hr]
   exact hR
end
structure RecOk(n:Nat):Prop where
 expr:∀ i L,Gd L→8 * L.length+7≤n→RdS 38 [] i L (exprP n i L) exV
 bin:∀ (l:Nat) i L,Gd L→8 * L.length+6≤n→RdS 79 [iv l] i L (binP n l i L) exV
 operand:∀ (l:Nat) i L,Gd L→8 * L.length+5≤n→RdS 123 [iv l] i L (operandP n l i L) exV
 prim:∀ i L,Gd L→8 * L.length+4≤n→RdS 166 [] i L (primP n i L) exV
 group:∀ i L,Gd L→8 * L.length+3≤n→RdS 195 [] i L (groupP n i L) exV
 word:∀ i L,Gd L→(hd L).kind≠6→8 * L.length+3≤n→RdS 193 [] i L (wordP n i L) exV
 agg:∀ op L,Gd L→8 * L.length+3≤n→RdS 220 [sv op] false L (aggP n op L) exV
theorem Wk_one{x:Ex}:Wk (.sl true 12 [x.row]) (.sl false 12 ([x].map Ex.cells)):=by
 rw[Ex.cells_row];exact .sl
theorem skipP_t{k:Int}{s:Str}{L:List Tok}(h:see k s L=true):skipP k s L= .ok true L.tail:=by unfold skipP;rw[if_pos h]
theorem skipP_f{k:Int}{s:Str}{L:List Tok}(h:¬see k s L=true):skipP k s L= .ok false L:=by unfold skipP;rw[if_neg h]
theorem skipP_err{k:Int}{s:Str}{L:List Tok}{p c:Int}{α:Prop}(h:skipP k s L= .err p c):α:=by
 unfold skipP at h;split at h<;>cases h
theorem rd_operand{n:Nat}(ih:RecOk n)(l:Nat)(i:Bool)(L:List Tok)(hL:Gd L)(hn:8 * L.length+5≤n+1):RdS 123 [iv l] i L (operandP (n+1) l i L) exV:=by
 refine RdS.intro fun b rest τ=> ?_
 refine Spec.runk (fun _=>0) Tryz.func123 comp123 era123 (Nat.le_of_ble_eq_true rfl) ?_
 rw[operandP]
 repeat'(first|exact .nil|refine .k0 ?_|refine .k1 ?_|refine .k2 ?_|refine .k6 ?_|refine .r1 ?_ ?_|(refine .l1 ?_;intro b)|fail)
 all_goals(try simp only[BL]at *)
 refine VX_rdcg (.v (.bool false)) rfl (rd_skip L hL i 1 (by decide) wNot) rfl rfl rfl (.cons (fun h=>h) .nil) (fun _ _ h=>skipP_err h) (fun _ _ h=>FK_pan h) (fun _=>Zs) (fun hg a L1 hr1 hL1=> ?_) (fun hg=> ?_)
 ·have hl3:l≤3:=by have:=of_decide_eq_true hg;omega
  simp(decide:=true)only[upt_hd,upt_ne]
  by_cases hs:see 1 wNot L=true
  ·rw[skipP_t hs]at hr1;cases hr1
   have ht:=hL.tail (see_kind (k:=1) (by decide) L hs)
   rw[if_pos (by simp[hl3,hs])]
   (repeat'(first|exact .nil|refine .k0 ?_|refine .k1 ?_|refine .k2 ?_|(refine .cd ?_ ?_<;>(intro hc;skip))|refine .r1 ?_ ?_|fail))<;>(try(exact absurd hc (by simp;omega)))
   refine VX_rdc rfl (ih.bin 3 i L.tail ht.1 (by omega)) rfl rfl rfl .nil ?_ (fun _ _ h=>FK_pan h) (fun _=>Zs) (fun x L1 hr1 hL1=> ?_)
   ·exact fun p c h=>by rw[h];rfl
   simp(decide:=true)only[upt_hd,upt_ne]
   repeat'(first|exact .nil|refine .k0 ?_|refine .k1 ?_|refine .k7 ?_|refine .r1 ?_ ?_|fail)
   ·simp
   refine rd_ret (a:=unE wNot x) (by rw[hr1];rfl) hL1 ?_
   repeat' first|exact Wk_one|exact .refl _|exact .nil|refine .cons ?_ ?_|refine .agg ?_
  ·rw[skipP_f hs]at hr1;cases hr1
   rw[if_neg (by simp[hs])]
   (repeat'(first|exact .nil|refine .k0 ?_|refine .k1 ?_|refine .k2 ?_|(refine .cd ?_ ?_<;>(intro hc;skip))|refine .r1 ?_ ?_|fail))<;>(try(simp at hc;done))
   refine VX_rdc rfl (rd_skip L hL i 5 (by decide) (ch 45)) rfl rfl rfl .nil (fun _ _ h=>skipP_err h) (fun _ _ h=>FK_pan h) (fun _=>Zs) (fun a L1 hr1 hL1=> ?_)
   simp(decide:=true)only[upt_hd,upt_ne]
   by_cases hm:see 5 (ch 45) L=true
   ·rw[skipP_t hm]at hr1;cases hr1
    have ht:=hL.tail (see_kind (k:=5) (by decide) L hm)
    rw[if_pos hm]
    (repeat'(first|exact .nil|refine .k0 ?_|refine .k1 ?_|refine .k2 ?_|(refine .cd ?_ ?_<;>first|with_reducible exact tF|(intro hc;skip))|refine .r1 ?_ ?_|fail))<;>(try(simp at hc;done))
    refine VX_rdc rfl (ih.operand 7 i L.tail ht.1 (by omega)) rfl rfl rfl .nil ?_ (fun _ _ h=>FK_pan h) (fun _=>Zs) (fun x L1 hr1 hL1=> ?_)
    ·exact fun p c h=>by rw[h];rfl
    simp(decide:=true)only[upt_hd,upt_ne]
    repeat'(first|exact .nil|refine .k0 ?_|refine .k1 ?_|refine .k7 ?_|refine .r1 ?_ ?_|fail)
    ·simp
    refine rd_ret (a:=unE (ch 45) x) (by rw[hr1];rfl) hL1 ?_
    repeat' first|exact Wk_one|exact .refl _|exact .nil|refine .cons ?_ ?_|refine .agg ?_
   ·rw[skipP_f hm]at hr1;cases hr1
    rw[if_neg hm]
    (repeat'(first|exact .nil|refine .k0 ?_|refine .k1 ?_|refine .k2 ?_|refine .k9 ?_|(refine .cd ?_ ?_<;>first|with_reducible exact fT|(intro hc;skip))|refine .r1 ?_ ?_|fail))<;>(try(simp at hc;done))
    refine VX_rdc rfl (ih.prim i L hL (by omega)) rfl rfl rfl .nil (fun _ _ h=>h) (fun _ _ h=>FK_pan h) (fun _=>Zs) (fun x L1 hr1 hL1=> ?_)
    simp(decide:=true)only[upt_hd,upt_ne]
    repeat'(first|exact .nil|refine .k0 ?_|refine .k1 ?_|refine .k7 ?_|refine .r1 ?_ ?_|fail)
    exact rd_ret (a:=x) hr1 hL1 (.refl _)
 ·have hl3:¬l≤3:=by have:=of_decide_eq_false hg;omega
  rw[if_neg (by simp[hl3])]
  (repeat'(first|exact .nil|refine .k0 ?_|refine .k1 ?_|refine .k2 ?_|refine .k4 ?_|(refine .cd ?_ ?_<;>(intro hc;skip))|refine .r1 ?_ ?_|fail))<;>(try(simp at hc;done))
  refine VX_rdc rfl (rd_skip L hL i 5 (by decide) (ch 45)) rfl rfl rfl .nil (fun _ _ h=>skipP_err h) (fun _ _ h=>FK_pan h) (fun _=>Zs) (fun a L1 hr1 hL1=> ?_)
  simp(decide:=true)only[upt_hd,upt_ne]
  by_cases hm:see 5 (ch 45) L=true
  ·rw[skipP_t hm]at hr1;cases hr1
   have ht:=hL.tail (see_kind (k:=5) (by decide) L hm)
   rw[if_pos hm]
   (repeat'(first|exact .nil|refine .k0 ?_|refine .k1 ?_|refine .k2 ?_|(refine .cd ?_ ?_<;>first|with_reducible exact tF|(intro hc;skip))|refine .r1 ?_ ?_|fail))<;>(try(simp at hc;done))
   refine VX_rdc rfl (ih.operand 7 i L.tail ht.1 (by omega)) rfl rfl rfl .nil ?_ (fun _ _ h=>FK_pan h) (fun _=>Zs) (fun x L1 hr1 hL1=> ?_)
   ·exact fun p c h=>by rw[h];rfl
   simp(decide:=true)only[upt_hd,upt_ne]
   repeat'(first|exact .nil|refine .k0 ?_|refine .k1 ?_|refine .k7 ?_|refine .r1 ?_ ?_|fail)
   ·simp
   refine rd_ret (a:=unE (ch 45) x) (by rw[hr1];rfl) hL1 ?_
   repeat' first|exact Wk_one|exact .refl _|exact .nil|refine .cons ?_ ?_|refine .agg ?_
  ·rw[skipP_f hm]at hr1;cases hr1
   rw[if_neg hm]
   (repeat'(first|exact .nil|refine .k0 ?_|refine .k1 ?_|refine .k2 ?_|refine .k9 ?_|(refine .cd ?_ ?_<;>first|with_reducible exact fT|(intro hc;skip))|refine .r1 ?_ ?_|fail))<;>(try(simp at hc;done))
   refine VX_rdc rfl (ih.prim i L hL (by omega)) rfl rfl rfl .nil (fun _ _ h=>h) (fun _ _ h=>FK_pan h) (fun _=>Zs) (fun x L1 hr1 hL1=> ?_)
   simp(decide:=true)only[upt_hd,upt_ne]
   repeat'(first|exact .nil|refine .k0 ?_|refine .k1 ?_|refine .k7 ?_|refine .r1 ?_ ?_|fail)
   exact rd_ret (a:=x) hr1 hL1 (.refl _)
end Go.Proofs.YtbihckigennlhaaGreatDoor
namespace Go.Proofs.YtbihckigennlhaaGreatDoor
open Go.Sx Go.Proofs Go.RowKit
theorem below_bytes(w:World)(e:TypeId)(s:ByteArray):Below w.heap.size w (Lib.bytesWorld w e s):=by
 exact⟨rfl,rfl,rfl,by rw[Lib.bytesWorld_size];omega,fun j hj=>Lib.bytesWorld_at_old w e s j hj⟩
theorem atoi_ok(s:Str)(n:Int)(hl:s.size≤16384)(h:Lib.atoiAll s.data.toList= .ok n):Pure Tryz.prog 136 [sv s] (.tup [iv n,.v .nilIface]):=by
 refine Pure.shelf fun M w0 w σ cs hI hR=> ?_
 obtain⟨v1,rfl,h1⟩:=hR.un1
 obtain rfl:=h1.of_v
 exact(Tryz.strconv_Atoi_ok s (by omega) n h w).mono fun e w' ⟨he,hw⟩=>⟨⟨_,he,R.mk_tup (cs:=[_,_]) (RL.cons (.v _) (RL.cons (.v _) RL.nil))⟩,by
  rcases hw with rfl|⟨t,rfl⟩
  ·exact Below.refl _ _
  ·exact below_bytes w 5 t⟩
theorem numL_ge:∀ (l:List UInt8) (a:Nat),a≤numL l a
 |[],a=>Nat.le_refl _
 |b::l,a=>by
  simp only[numL]
  exact Nat.le_trans (by omega) (numL_ge l _)
theorem parse_dig:∀ (l:List UInt8) (a:Nat),(∀ c∈l,48≤c.toNat∧c.toNat≤57)→a<18446744073709551616→Lib.parseUint10 a l=if numL l a<18446744073709551616 then .ok (numL l a)else .range
 |[],a,_,ha=>by simp[Lib.parseUint10,numL,ha]
 |b::l,a,h,ha=>by
  have hb:=h b List.mem_cons_self
  have hg:=numL_ge l (10 * a+(b.toNat-48))
  have e:numL (b::l) a=numL l (10 * a+(b.toNat-48)):=rfl
  rw[e]
  generalize hv:numL l (10 * a+(b.toNat-48))=v at *
  simp only[Lib.parseUint10,if_pos hb]
  by_cases h1:1844674407370955162≤a
  ·rw[if_pos h1,if_neg (by omega)]
  ·rw[if_neg h1]
   by_cases h2:18446744073709551616≤a * 10+(b.toNat-48)
   ·rw[if_pos h2,if_neg (by omega)]
   ·rw[if_neg h2,show a * 10+(b.toNat-48)=10 * a+(b.toNat-48) by omega]
    rw[← hv]
    exact parse_dig l _ (fun c hc=>h c (List.mem_cons_of_mem _ hc)) (by omega)
theorem atoi_dig{l:List UInt8}(h:DigL l):Lib.atoiAll l=if numL l 0<9223372036854775808 then .ok (numL l 0:Nat)else .range:=by
 obtain⟨h0,h⟩:=h
 cases l with
 |nil=>exact absurd rfl h0
 |cons b r=>
  have hb:=h b List.mem_cons_self
  rw[Lib.atoiAll_plain b r (by omega) (by omega),Lib.parseMag,if_neg (by simp),parse_dig _ 0 h (by omega)]
  by_cases h1:numL (b::r) 0<18446744073709551616
  ·rw[if_pos h1]
   simp only[Lib.signless]
   by_cases h2:numL (b::r) 0<9223372036854775808
   ·rw[if_pos h2,if_neg (by omega)]
   ·rw[if_neg h2,if_pos (by omega)]
  ·rw[if_neg h1,if_neg (by omega)];rfl
theorem atoi_tok{t:Tok}(h:TokOk t)(hk:t.kind=2):Pure Tryz.prog 136 [sv t.text] (.tup [iv (numS t.text),.v .nilIface]):=by
 obtain⟨h1,h2⟩:=h.num hk
 refine atoi_ok t.text _ h.sz ?_
 rw[atoi_dig h1,if_pos (by omega)];rfl
theorem rd_number(hw:WrongOk)(L:List Tok)(hL:Gd L)(ins:Bool):RdS 154 [] ins L (numP L) iv:=by
 refine RdS.intro fun b rest τ=> ?_
 refine Spec.runk (fun _=>0) Tryz.func154 comp154 era154 (Nat.le_of_ble_eq_true rfl) ?_
 repeat'(first|exact .nil|refine .k0 ?_|refine .k1 ?_|refine .k2 ?_|refine .r1 ?_ ?_|fail)
 all_goals(try simp only[BL]at *)
 refine VX_rdc rfl (rd_token hw L hL ins 2 (by decide)) rfl rfl rfl .nil ?_ (fun _ _ h=>FK_pan h) (fun _=>Zs) (fun a L' hr hL'=> ?_)
 ·exact fun p c h=>by unfold numP;rw[h];rfl
 have ht2:TokOk a:=by
  unfold tokP at hr;split at hr
  ·cases hr
  ·cases hr;exact hL.t _ (hd_mem hL.e.ne)
 have hk2:a.kind=2:=by
  unfold tokP at hr;split at hr
  ·cases hr
  ·cases hr;rename_i hh;exact Decidable.not_not.1 hh
 simp(decide:=true)only[upt_hd,upt_ne]
 repeat'(first|exact .nil|refine .k0 ?_|refine .k1 ?_|refine .k2 ?_|refine .k7 ?_|refine .r1 ?_ ?_|refine .an rfl (by intro hob;exact atoi_tok ht2 hk2) ?_ ?_|fail)
 all_goals(try simp only[BL]at *)
 exact rd_ret (a:=numS a.text) (by unfold numP;rw[hr];rfl) hL' (.refl _)
theorem rd_window(hw:WrongOk)(L:List Tok)(hL:Gd L)(ins:Bool):RdS 234 [] ins L (windowP L) fun w=> .agg [iv w.kind,iv w.size]:=by
 refine RdS.intro fun b rest τ=> ?_
 refine Spec.runk (fun _=>0) Tryz.func234 comp234 era234 (Nat.le_of_ble_eq_true rfl) ?_
 unfold windowP
 repeat'(first|exact .nil|refine .k0 ?_|refine .k1 ?_|refine .k2 ?_|refine .k6 ?_|refine .r1 ?_ ?_|(refine .l1 ?_;intro b)|fail)
 all_goals(try simp only[BL]at *)
 refine VX_rdc rfl (rd_skip L hL ins 1 (by decide) wAll) rfl rfl rfl .nil (fun _ _ h=>skipP_err h) (fun _ _ h=>FK_pan h) (fun _=>Zs) (fun a L1 hr hL1=> ?_)
 simp(decide:=true)only[upt_hd,upt_ne]
 by_cases h0:see 1 wAll L=true
 ·rw[skipP_t h0]at hr;cases hr;rw[if_pos h0]
  (repeat'(first|exact .nil|refine .k0 ?_|refine .k1 ?_|refine .k2 ?_|refine .k7 ?_|(refine .cd ?_ ?_<;>first|with_reducible exact tF|(intro hc;skip))|refine .r1 ?_ ?_|fail))<;>(try(simp at hc;done))
  exact rd_ret (a:=(⟨1,0⟩:Win)) rfl hL1 (.refl _)
 ·rw[skipP_f h0]at hr;cases hr;rw[if_neg h0]
  (repeat'(first|exact .nil|refine .k0 ?_|refine .k1 ?_|refine .k2 ?_|(refine .cd ?_ ?_<;>first|with_reducible exact fT|(intro hc;skip))|refine .r1 ?_ ?_|fail))<;>(try(simp at hc;done))
  refine VX_rdc rfl (rd_skip L hL ins 1 (by decide) wSli) rfl rfl rfl .nil (fun _ _ h=>skipP_err h) (fun _ _ h=>FK_pan h) (fun _=>Zs) (fun a L1 hr hL1=> ?_)
  simp(decide:=true)only[upt_hd,upt_ne]
  by_cases h1:see 1 wSli L=true
  ·rw[skipP_t h1]at hr;cases hr;rw[if_pos h1]
   (repeat'(first|exact .nil|refine .k0 ?_|refine .k1 ?_|refine .k2 ?_|(refine .cd ?_ ?_<;>first|with_reducible exact tF|(intro hc;skip))|refine .r1 ?_ ?_|fail))<;>(try(simp at hc;done))
   have ht:=hL.tail (see_kind (k:=1) (by decide) L h1)
   refine VX_rdc rfl (rd_number hw L.tail ht.1 ins) rfl rfl rfl .nil ?_ (fun _ _ h=>FK_pan h) (fun _=>Zs) (fun n L1 hr hL1=> ?_)
   ·exact fun p c h=>by rw[h];rfl
   simp(decide:=true)only[upt_hd,upt_ne]
   repeat'(first|exact .nil|refine .k0 ?_|refine .k1 ?_|refine .k7 ?_|refine .r1 ?_ ?_|fail)
   exact rd_ret (a:=(⟨2,n⟩:Win)) (by rw[hr];rfl) hL1 (.refl _)
  ·rw[skipP_f h1]at hr;cases hr;rw[if_neg h1]
   (repeat'(first|exact .nil|refine .k0 ?_|refine .k1 ?_|refine .k2 ?_|(refine .cd ?_ ?_<;>first|with_reducible exact fT|(intro hc;skip))|refine .r1 ?_ ?_|fail))<;>(try(simp at hc;done))
   refine VX_rdc rfl (rd_skip L hL ins 1 (by decide) wTum) rfl rfl rfl .nil (fun _ _ h=>skipP_err h) (fun _ _ h=>FK_pan h) (fun _=>Zs) (fun a L1 hr hL1=> ?_)
   simp(decide:=true)only[upt_hd,upt_ne]
   by_cases h2:see 1 wTum L=true
   ·rw[skipP_t h2]at hr;cases hr;rw[if_pos h2]
    (repeat'(first|exact .nil|refine .k0 ?_|refine .k1 ?_|refine .k2 ?_|(refine .cd ?_ ?_<;>first|with_reducible exact tF|(intro hc;skip))|refine .r1 ?_ ?_|fail))<;>(try(simp at hc;done))
    have ht:=hL.tail (see_kind (k:=1) (by decide) L h2)
    refine VX_rdc rfl (rd_number hw L.tail ht.1 ins) rfl rfl rfl .nil ?_ (fun _ _ h=>FK_pan h) (fun _=>Zs) (fun n L1 hr hL1=> ?_)
    ·exact fun p c h=>by rw[h];rfl
    simp(decide:=true)only[upt_hd,upt_ne]
    repeat'(first|exact .nil|refine .k0 ?_|refine .k1 ?_|refine .k7 ?_|refine .r1 ?_ ?_|fail)
    exact rd_ret (a:=(⟨3,n⟩:Win)) (by rw[hr];rfl) hL1 (.refl _)
   ·rw[skipP_f h2]at hr;cases hr;rw[if_neg h2]
    (repeat'(first|exact .nil|refine .k0 ?_|refine .k1 ?_|refine .k2 ?_|refine .k9 ?_|(refine .cd ?_ ?_<;>first|with_reducible exact fT|(intro hc;skip))|refine .r1 ?_ ?_|fail))<;>(try(simp at hc;done))
    refine VX_rdc rfl (rd_keyword hw L hL ins wSes) rfl rfl rfl .nil ?_ (fun _ _ h=>FK_pan h) (fun _=>Zs) (fun a L1 hr1 hL1=> ?_)
    ·exact fun p c h=>by rw[h];rfl
    simp(decide:=true)only[upt_hd,upt_ne]
    repeat'(first|exact .nil|refine .k0 ?_|refine .k1 ?_|refine .k2 ?_|refine .r1 ?_ ?_|fail)
    refine VX_rdc rfl (rd_number hw L1 hL1 ins) rfl rfl rfl .nil ?_ (fun _ _ h=>FK_pan h) (fun _=>Zs) (fun n L2 hr2 hL2=> ?_)
    ·exact fun p c h=>by rw[hr1,PR.bind_ok,h];rfl
    simp(decide:=true)only[upt_hd,upt_ne]
    repeat'(first|exact .nil|refine .k0 ?_|refine .k1 ?_|refine .k7 ?_|refine .r1 ?_ ?_|fail)
    exact rd_ret (a:=(⟨4,n⟩:Win)) (by rw[hr1,PR.bind_ok,hr2];rfl) hL2 (.refl _)
end Go.Proofs.YtbihckigennlhaaGreatDoor
set_option linter.unusedSectionVars false
namespace Go.Sx
open Go.RowKit Go.Proofs
inductive StW:Store→Store→Prop
 |refl (σ:Store):StW σ σ
 |here {t b:Nat} {l l':List AV} {σ σ':Store} (h:WkL l l') (k:StW σ σ'):StW ((t,b,.cells l)::σ) ((t,b,.cells l')::σ')
 |there {e:Nat×Nat×Blk} {σ σ':Store} (k:StW σ σ'):StW (e::σ) (e::σ')
 |perm {σ σ1 σ':Store} (h:σ.Perm σ1) (k:StW σ1 σ'):StW σ σ'
theorem WkL.rl{M:Mem}{l l':List AV}(h:WkL l l'):∀ {vs:List Value},RL M l vs→RL M l' vs:=by
 induction h with
 |nil=>exact id
 |cons hx _ ih=>intro vs hr;obtain⟨v,vs',rfl,h1,h2⟩:=hr.uncons;exact RL.cons (hx M v h1) (ih h2)
theorem StW.at{M:Mem}{w0:Base}{w:World}{σ σ':Store}(h:StW σ σ'):(∀ e∈σ,w0.heap.size≤e.2.1∧BlkOK M w e.2.1 e.2.2)→(∀ e∈σ',w0.heap.size≤e.2.1∧BlkOK M w e.2.1 e.2.2)∧(σ'.map (fun x=>x.2.1)).Perm (σ.map (fun x=>x.2.1)):=by
 induction h with
 |refl=>exact fun hs=>⟨hs,.refl _⟩
 |perm h k ih=>
  intro hs
  obtain⟨h1,h2⟩:=ih fun e he=>hs e (h.mem_iff.2 he)
  exact⟨h1,h2.trans (h.map _).symm⟩
 | @here t b l l' σ σ' h k ih=>
  intro hs
  obtain⟨h1,h2⟩:=ih fun e he=>hs e (List.mem_cons_of_mem _ he)
  refine⟨fun e he=> ?_,.cons _ h2⟩
  rcases List.mem_cons.1 he with rfl|he
  ·obtain⟨g1,g2,cs,ty,g3,g4⟩:=hs _ List.mem_cons_self
   exact⟨g1,g2,cs,ty,g3,h.rl g4⟩
  ·exact h1 e he
 |there k ih=>
  intro hs
  obtain⟨h1,h2⟩:=ih fun e he=>hs e (List.mem_cons_of_mem _ he)
  refine⟨fun e he=> ?_,.cons _ h2⟩
  rcases List.mem_cons.1 he with rfl|he
  ·exact hs _ List.mem_cons_self
  ·exact h1 e he
theorem WK_stw{P:Program}[Glob P]{N:Nat}{cfg:Nat→Nat}{Q:Exit→Regs→Store→Prop}{a:AC}{k:List Fr}{rg:Regs}{σ σ':Store}(hs:StW σ σ')(h:WK P N cfg Q a k rg σ'):WK P N cfg Q a k rg σ:=by
 refine⟨⟨rfl,?_⟩⟩
 intro cd hcd M w0 a w hI hR hN hD
 obtain⟨h1,h2⟩:=hs.at hI.st
 exact h.h.h cd hcd M w0 a w ⟨hI.os,hI.tape,hI.output,hI.size,hI.old,hI.imm,h1,h2.nodup_iff.2 hI.nd,hI.gl,hI.gw,hI.bm⟩ hR hN hD
def JoinW(I:Regs→Store→Prop)(ks:List Nat)(rg:Regs)(σ:Store):Prop:=∃ rg1,filtO ks rg=some rg1∧∃ rg' σ1 σ',WkRL rg1 rg'∧StW σ σ1∧Sub σ' σ1∧I rg' σ'
theorem JoinW.intro{I:Regs→Store→Prop}{ks:List Nat}{rg rg1 rg':Regs}{σ σ':Store}(hk:filtO ks rg=some rg1)(h:I rg' σ')(hw:WkRL rg1 rg':=by exact Zr)(hs:Sub σ' σ:=by exact Zs):JoinW I ks rg σ:=⟨rg1,hk,rg',σ,σ',hw,.refl _,hs,h⟩
theorem JoinW.introS{I:Regs→Store→Prop}{ks:List Nat}{rg rg1 rg':Regs}{σ σ1 σ':Store}(hk:filtO ks rg=some rg1)(h:I rg' σ')(ht:StW σ σ1)(hw:WkRL rg1 rg':=by exact Zr)(hs:Sub σ' σ1:=by exact Zs):JoinW I ks rg σ:=⟨rg1,hk,rg',σ1,σ',hw,ht,hs,h⟩
theorem WK_join{P:Program}[Glob P]{N:Nat}{cfg:Nat→Nat}{Q:Exit→Regs→Store→Prop}{a b:AC}{k:List Fr}{rg:Regs}{σ:Store}{ks:List Nat}(I:Regs→Store→Prop)(h1:WK P N cfg Q a (.fn (JoinW I ks)::k) rg σ)(h2:∀ rg σ,I rg σ→WK P N cfg Q b k rg σ):WK P N cfg Q (.seq a (.keep ks b)) k rg σ:=by
 refine⟨WA_seq (h1.h.mono fun e rg2 σ2 he=> ?_)⟩
 cases e with
 |normal=>
  obtain⟨rg1,hf,rg',σ1,σ',hw,ht,hs,hi⟩:=he
  exact(WK_keep hf (WK_stw ht (WK_wk (h2 _ _ hi) hw hs))).h
 |_=>exact he
end Go.Sx
namespace Go.Proofs.YtbihckigennlhaaGreatDoor
open Go.Sx Go.Proofs
section
variable {cfg:Nat→Nat}{ts als:List Nat}{K:Regs→Store→Prop}{E:List PanicEntry→Store→Prop}{σ τ:Store}{l2:List CD}{d b b':Nat}{xr:XR}{ps:List Prop}{og:Option Bool}{args:List Operand}{ys:List AV}{α β:Type}{f:FuncId}{ins ins2:Bool}{L:List Tok}{rest cs:List AV}{r:PR α}{val:α→AV}{r2:PR β}{val2:β→AV}
theorem VY_midC{P:Program}[Glob P]{R:Res→Store→Prop}(h:argO xr none args=some (og,ys,ps))(hp:Sx.Spec P f ys σ R)(hps:OB ps)(hf:∀ x σ',R (.ret x) σ'→∀ t b l,ts.elem t=false→lkt σ t=some (b,.cells l)→lkt σ' t=some (b,.cells l))
  (k:∀ x σ',R (.ret x) σ'→VY P cfg als l2 (Cl K) ((d,.s x)::xr) σ') (e:∀ ch σ',R (.pan ch) σ'→E ch σ'):VY P cfg (ts++als) [] (MidC P cfg ts als K E d f args l2) xr σ:=by
 obtain⟨hc,he⟩:=argO_eq h
 have hog:og.getD true=true:=by
  unfold argO gX at h
  obtain⟨ps',h',_,_⟩:=needs_eq h
  split at h'<;>cases h';rfl
 refine⟨R,?_,fun x σ' hr=>⟨hf x σ' hr,(k x σ' hr).h⟩,e⟩
 rw[he hps hog];exact hp
theorem VY_rdc(hts:ts.elem 1000=true)(h:argO xr none args=some (og,.lp 1000 b 0::ys,ps))(hp:RdS f ys ins L r val)(hl:lkt σ 1000=some (b',.cells cs))(hb:b=b')(hc:cs=rdC L ins++rest)(hps:OB ps)
  (he:∀ p c,r= .err p c→r2= .err p c) (hE:∀ ch σ',RdF ins2 rest r2 val2 b τ (.pan ch) σ'→E ch σ') (hs:∀ cs',Sub ((1000,b,.cells cs')::τ) (upt σ 1000 b (.cells cs')))
  (k:∀ a L',r= .ok a L'→Gd L'→VY Tryz.prog cfg als l2 (Cl K) ((d,.s (val a))::xr) (upt σ 1000 b (.cells (rdC L' ins++rest)))):VY Tryz.prog cfg (ts++als) [] (MidC Tryz.prog cfg ts als K E d f args l2) xr σ:=by
 subst hc
 subst hb
 refine VY_midC h (Spec.at (fun τ'=>hp b rest τ') hl) hps (fun x σ' ⟨cs',hR,e1⟩ t b2 l ht hlt=> ?_) (fun x σ' ⟨cs',hR,e1⟩=> ?_) (fun ch σ' ⟨cs',hR,e1⟩=> ?_)
 ·subst e1
  rw[lkt_upt hl,if_neg (fun e=>by subst e;rw[hts]at ht;cases ht)]
  exact hlt
 ·subst e1
  cases hr:r with
  |ok a L'=>rw[hr]at hR;obtain⟨h1,h2,h3⟩:=hR;cases h2;subst h3;exact k a L' hr h1
  |err p c=>rw[hr]at hR;exact absurd hR (by nofun)
 ·subst e1
  cases hr:r with
  |ok a L'=>rw[hr]at hR;exact absurd hR.2.1 (by nofun)
  |err p c=>
   rw[hr]at hR
   refine hE ch _ (rd_pan ?_ (hs cs'))
   rw[he p c hr]
   exact hR
theorem VX_msl{P:Program}[Glob P]{t:TypeId}{esz:Nat}{l:List CI}{parts:List Operand}{rows:List (List AV)}(fl:List AV)(n:Nat)(hc:cfg d=2)(h:argO xr none parts=some (og,ys,ps))(hr:rowsOf esz ys=some rows)(hps:OB ps)(hn2:rows.length=n)(hn:n≤1000000)(hf:rows.flatten=fl)
  (k:∀ b,VX P cfg l K E ((d,.s (.ms d b 0 n n))::xr) ((d,b,.cells fl)::σ)):VX P cfg (⟨some d,.mksl t esz parts,none⟩::l) K E xr σ:=by
 obtain⟨_,he⟩:=argO_eq h
 have hog:og=none:=by
  unfold argO gX at h
  obtain⟨ps',h',_,_⟩:=needs_eq h
  split at h'<;>cases h';rfl
 subst hog
 subst hf
 subst hn2
 constructor
 simp only[vcX,vcG,vcO,he hps rfl,hr,Option.getD_some,hc]
 exact⟨hn,fun b=>(k b).h⟩
end
end Go.Proofs.YtbihckigennlhaaGreatDoor
