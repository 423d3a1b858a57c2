/- The reader's methods, walked: operand. -/
import Derived.Test.YtbihckigennlhaaGreatDoorTz
import Derived.Test.YtbihckigennlhaaGreatDoorPt
import Derived.Lib.AtoiAllCases
import Derived.Test.YtbihckigennlhaaGreatDoorSxMixC
set_option linter.unusedSimpArgs false
set_option linter.unusedVariables false
set_option maxRecDepth 100000
set_option maxHeartbeats 4000000
namespace Go.Proofs.YtbihckigennlhaaGreatDoor
open Go.Sx Go.Proofs
section
variable {cfg:Nat→Nat}{K:ae→Store→Prop}{E:List PanicEntry→Store→Prop}{σ τ:Store}{l:List CI}{d b b':Nat}{xr:XR}{ps:List Prop}{og:Option Bool}{g:Option (Nat×Bool)}{args:List Operand}{ys zs:List AV}{α β:Type}{f:FuncId}{ins xm:Bool}{L:List Tok}{rest cs:List AV}{r:PR α}{val:α→AV}{r2:PR β}{yb:β→AV}
theorem Gc{P:Program}[Glob P]{R:cU→Store→Prop}(v:AV)(h:ay xr g args=some (og,zs,ps))(hp:og.getD true=true→Sx.Spec P f zs σ R)(al:OB ps)(k:og.getD true=true→∀ x σ',R (.ret x) σ'→VX P cfg l K E ((d,.s x)::xr) σ')(e:∀ ch σ',R (.cC ch) σ'→E ch σ')
  (k0:og.getD true=false→VX P cfg l K E (bE og d v xr) σ):VX P cfg (⟨some d,.call f args,g⟩::l) K E xr σ:=by
 obtain⟨hc,he⟩:=bY h
 refine gP hc (fun hg=> ?_) (fun hg=> ?_)
 ·simp only[aj,he al hg]
  exact⟨R,hp hg,fun x σ' hr=>(k hg x σ' hr).h,e⟩
 ·rw[← eG hg (v:=v)];exact(k0 hg).h
theorem O5(v:AV)(h:ay xr g args=some (og,.lp 1000 b 0::ys,ps))(hp:bC f ys ins L r val)(hl:aK σ 1000=some (b',.cells cs))(hb:b=b')(hc:cs=aZ L ins++rest)(al:OB ps)
  (he:∀ p c,r= .err p c→r2= .err p c) (hE:∀ ch σ',mu xm rest r2 yb b τ (.cC ch) σ'→E ch σ') (hs:∀ cs',Sub ((1000,b,.cells cs')::τ) (ck σ 1000 b (.cells cs')))
  (k:og.getD true=true→∀ a L',r= .ok a L'→Gd L'→VX Tryz.prog cfg l K E ((d,.s (val a))::xr) (ck σ 1000 b (.cells (aZ L' ins++rest))))
  (k0:og.getD true=false→VX Tryz.prog cfg l K E (bE og d v xr) σ):VX Tryz.prog cfg (⟨some d,.call f args,g⟩::l) K E xr σ:=by
 subst hc
 subst hb
 refine Gc v h (fun _=>Spec.at (fun cL=>hp b rest cL) hl) al (fun hg x σ' ⟨cs',hR,e1⟩=> ?_) (fun ch σ' ⟨cs',hR,e1⟩=> ?_) k0
 ·subst e1
  cases hr:r with
  |ok a L'=>rw[hr]at hR;obtain⟨h1,h2,h3⟩:=hR;cases h2;subst h3;exact k hg a L' hr h1
  |err p c=>rw[hr]at hR;exact absurd hR (by nofun)
 ·subst e1
  cases hr:r with
  |ok a L'=>rw[hr]at hR;exact absurd hR.2.1 (by nofun)
  |err p c=>
   rw[hr]at hR
   refine hE ch _ (nB ?_ (hs cs'))
   rw[he p c hr]
   exact hR
end
structure o5(n:Nat):Prop where
 expr:∀ i L,Gd L→8 * L.length+7≤n→bC 38 [] i L (bj n i L) gh
 bin:∀ (l:Nat) i L,Gd L→8 * L.length+6≤n→bC 79 [iv l] i L (dm n l i L) gh
 operand:∀ (l:Nat) i L,Gd L→8 * L.length+5≤n→bC 123 [iv l] i L (dK n l i L) gh
 jZ:∀ i L,Gd L→8 * L.length+4≤n→bC 166 [] i L (ej n i L) gh
 group:∀ i L,Gd L→8 * L.length+3≤n→bC 195 [] i L (dy n i L) gh
 word:∀ i L,Gd L→(hd L).kind≠6→8 * L.length+3≤n→bC 193 [] i L (ey n i L) gh
 agg:∀ op L,Gd L→8 * L.length+3≤n→bC 220 [sv op] false L (fh n op L) gh
theorem vO{x:Ex}:Wk (.sl true 12 [x.row]) (.sl false 12 ([x].map Ex.cells)):=by
 rw[Ex.nR];exact .sl
theorem ja{k:Int}{s:ag}{L:List Tok}(h:ar k s L=true):j1 k s L= .ok true L.tail:=by unfold j1;rw[if_pos h]
theorem iZ{k:Int}{s:ag}{L:List Tok}(h:¬ar k s L=true):j1 k s L= .ok false L:=by unfold j1;rw[if_neg h]
theorem nD{k:Int}{s:ag}{L:List Tok}{p c:Int}{α:Prop}(h:j1 k s L= .err p c):α:=by
 unfold j1 at h;split at h<;>cases h
theorem abS{n:Nat}(ih:o5 n)(l:Nat)(i:Bool)(L:List Tok)(hL:Gd L)(hn:8 * L.length+5≤n+1):bC 123 [iv l] i L (dK (n+1) l i L) gh:=by
 refine bC.intro fun b rest τ=> ?_
 refine Spec.cN (fun _=>0) Tryz.func123 RF SY (Z9 rfl) ?_
 rw[dK]
 repeat'(first|exact .nil|refine .k0 ?_|refine .k1 ?_|refine .k2 ?_|refine .k6 ?_|refine .r1 ?_ ?_|(refine .l1 ?_;intro b)|fail)
 all_goals(try simp only[BL]at *)
 refine O5 (.v (.bool false)) rfl (fA L hL i 1 (by decide) cu) rfl rfl rfl (.cons (fun h=>h) .nil) (fun _ _ h=>nD h) (fun _ _ h=>aP h) (fun _=>Zs) (fun hg a L1 aU bg=> ?_) (fun hg=> ?_)
 ·have Dc:l≤3:=by have:=of_decide_eq_true hg;omega
  simp(decide:=true)only[aH,aN]
  by_cases hs:ar 1 cu L=true
  ·rw[ja hs]at aU;cases aU
   have ht:=hL.tail (bJ (k:=1) (by decide) L hs)
   rw[if_pos (by simp[Dc,hs])]
   (repeat'(first|exact .nil|refine .k0 ?_|refine .k1 ?_|refine .k2 ?_|(refine .cd ?_ ?_<;>(intro hc;skip))|refine .r1 ?_ ?_|fail))<;>(try(exact absurd hc (by simp;omega)))
   refine bG rfl (ih.bin 3 i L.tail ht.1 (by omega)) rfl rfl rfl .nil ?_ (fun _ _ h=>aP h) (fun _=>Zs) (fun x L1 aU bg=> ?_)
   ·exact fun p c h=>by rw[h];rfl
   simp(decide:=true)only[aH,aN]
   repeat'(first|exact .nil|refine .k0 ?_|refine .k1 ?_|refine .k7 ?_|refine .r1 ?_ ?_|fail)
   ·simp
   refine cQ (a:=hO cu x) (by rw[aU];rfl) bg ?_
   repeat' first|exact vO|exact .refl _|exact .nil|refine .cons ?_ ?_|refine .agg ?_
  ·rw[iZ hs]at aU;cases aU
   rw[if_neg (by simp[hs])]
   (repeat'(first|exact .nil|refine .k0 ?_|refine .k1 ?_|refine .k2 ?_|(refine .cd ?_ ?_<;>(intro hc;skip))|refine .r1 ?_ ?_|fail))<;>(try(simp at hc;done))
   refine bG rfl (fA L hL i 5 (by decide) (ch 45)) rfl rfl rfl .nil (fun _ _ h=>nD h) (fun _ _ h=>aP h) (fun _=>Zs) (fun a L1 aU bg=> ?_)
   simp(decide:=true)only[aH,aN]
   by_cases hm:ar 5 (ch 45) L=true
   ·rw[ja hm]at aU;cases aU
    have ht:=hL.tail (bJ (k:=5) (by decide) L hm)
    rw[if_pos hm]
    (repeat'(first|exact .nil|refine .k0 ?_|refine .k1 ?_|refine .k2 ?_|(refine .cd ?_ ?_<;>first|with_reducible exact tF|(intro hc;skip))|refine .r1 ?_ ?_|fail))<;>(try(simp at hc;done))
    refine bG rfl (ih.operand 7 i L.tail ht.1 (by omega)) rfl rfl rfl .nil ?_ (fun _ _ h=>aP h) (fun _=>Zs) (fun x L1 aU bg=> ?_)
    ·exact fun p c h=>by rw[h];rfl
    simp(decide:=true)only[aH,aN]
    repeat'(first|exact .nil|refine .k0 ?_|refine .k1 ?_|refine .k7 ?_|refine .r1 ?_ ?_|fail)
    ·simp
    refine cQ (a:=hO (ch 45) x) (by rw[aU];rfl) bg ?_
    repeat' first|exact vO|exact .refl _|exact .nil|refine .cons ?_ ?_|refine .agg ?_
   ·rw[iZ hm]at aU;cases aU
    rw[if_neg hm]
    (repeat'(first|exact .nil|refine .k0 ?_|refine .k1 ?_|refine .k2 ?_|refine .k9 ?_|(refine .cd ?_ ?_<;>first|with_reducible exact fT|(intro hc;skip))|refine .r1 ?_ ?_|fail))<;>(try(simp at hc;done))
    refine bG rfl (ih.jZ i L hL (by omega)) rfl rfl rfl .nil (fun _ _ h=>h) (fun _ _ h=>aP h) (fun _=>Zs) (fun x L1 aU bg=> ?_)
    simp(decide:=true)only[aH,aN]
    repeat'(first|exact .nil|refine .k0 ?_|refine .k1 ?_|refine .k7 ?_|refine .r1 ?_ ?_|fail)
    exact cQ (a:=x) aU bg (.refl _)
 ·have Dc:¬l≤3:=by have:=of_decide_eq_false hg;omega
  rw[if_neg (by simp[Dc])]
  (repeat'(first|exact .nil|refine .k0 ?_|refine .k1 ?_|refine .k2 ?_|refine .k4 ?_|(refine .cd ?_ ?_<;>(intro hc;skip))|refine .r1 ?_ ?_|fail))<;>(try(simp at hc;done))
  refine bG rfl (fA L hL i 5 (by decide) (ch 45)) rfl rfl rfl .nil (fun _ _ h=>nD h) (fun _ _ h=>aP h) (fun _=>Zs) (fun a L1 aU bg=> ?_)
  simp(decide:=true)only[aH,aN]
  by_cases hm:ar 5 (ch 45) L=true
  ·rw[ja hm]at aU;cases aU
   have ht:=hL.tail (bJ (k:=5) (by decide) L hm)
   rw[if_pos hm]
   (repeat'(first|exact .nil|refine .k0 ?_|refine .k1 ?_|refine .k2 ?_|(refine .cd ?_ ?_<;>first|with_reducible exact tF|(intro hc;skip))|refine .r1 ?_ ?_|fail))<;>(try(simp at hc;done))
   refine bG rfl (ih.operand 7 i L.tail ht.1 (by omega)) rfl rfl rfl .nil ?_ (fun _ _ h=>aP h) (fun _=>Zs) (fun x L1 aU bg=> ?_)
   ·exact fun p c h=>by rw[h];rfl
   simp(decide:=true)only[aH,aN]
   repeat'(first|exact .nil|refine .k0 ?_|refine .k1 ?_|refine .k7 ?_|refine .r1 ?_ ?_|fail)
   ·simp
   refine cQ (a:=hO (ch 45) x) (by rw[aU];rfl) bg ?_
   repeat' first|exact vO|exact .refl _|exact .nil|refine .cons ?_ ?_|refine .agg ?_
  ·rw[iZ hm]at aU;cases aU
   rw[if_neg hm]
   (repeat'(first|exact .nil|refine .k0 ?_|refine .k1 ?_|refine .k2 ?_|refine .k9 ?_|(refine .cd ?_ ?_<;>first|with_reducible exact fT|(intro hc;skip))|refine .r1 ?_ ?_|fail))<;>(try(simp at hc;done))
   refine bG rfl (ih.jZ i L hL (by omega)) rfl rfl rfl .nil (fun _ _ h=>h) (fun _ _ h=>aP h) (fun _=>Zs) (fun x L1 aU bg=> ?_)
   simp(decide:=true)only[aH,aN]
   repeat'(first|exact .nil|refine .k0 ?_|refine .k1 ?_|refine .k7 ?_|refine .r1 ?_ ?_|fail)
   exact cQ (a:=x) aU bg (.refl _)
end Go.Proofs.YtbihckigennlhaaGreatDoor
namespace Go.Proofs.YtbihckigennlhaaGreatDoor
open Go.Sx Go.Proofs Go.RowKit
theorem G2(w:World)(e:TypeId)(s:ByteArray):Below w.heap.size w (Lib.bytesWorld w e s):=by
 exact⟨rfl,rfl,rfl,by rw[Lib.bytesWorld_size];omega,fun j hj=>Lib.bytesWorld_at_old w e s j hj⟩
theorem QZ(s:ag)(n:Int)(hl:s.size≤16384)(h:Lib.atoiAll s.data.toList= .ok n):Pure Tryz.prog 136 [sv s] (.aL [iv n,.v .nilIface]):=by
 refine Pure.jB fun M w0 w σ cs hI hR=> ?_
 obtain⟨v1,rfl,h1⟩:=hR.dN
 obtain rfl:=h1.ax
 exact(Tryz.strconv_Atoi_ok s (by omega) n h w).mono fun e w' ⟨he,hw⟩=>⟨⟨_,he,R.D0 (cs:=[_,_]) (RL.cons (.v _) (RL.cons (.v _) RL.nil))⟩,by
  rcases hw with rfl|⟨t,rfl⟩
  ·exact Below.refl _ _
  ·exact G2 w 5 t⟩
theorem K1:∀ (l:List UInt8) (a:Nat),a≤bW l a
 |[],a=>ZK _
 |b::l,a=>by
  simp only[bW]
  exact YJ (by omega) (K1 l _)
theorem Lm:∀ (l:List UInt8) (a:Nat),(∀ c∈l,48≤c.toNat∧c.toNat≤57)→a<18446744073709551616→Lib.parseUint10 a l=if bW l a<18446744073709551616 then .ok (bW l a)else .range
 |[],a,_,ha=>by simp[Lib.parseUint10,bW,ha]
 |b::l,a,h,ha=>by
  have hb:=h b ZR
  have hg:=K1 l (10 * a+(b.toNat-48))
  have e:bW (b::l) a=bW l (10 * a+(b.toNat-48)):=rfl
  rw[e]
  generalize hv:bW l (10 * a+(b.toNat-48))=v at *
  simp only[Lib.parseUint10,if_pos hb]
  by_cases h1:1844674407370955162≤a
  ·rw[if_pos h1,if_neg (by omega)]
  ·rw[if_neg h1]
   by_cases h2:18446744073709551616≤a * 10+(b.toNat-48)
   ·rw[if_pos h2,if_neg (by omega)]
   ·rw[if_neg h2,show a * 10+(b.toNat-48)=10 * a+(b.toNat-48) by omega]
    rw[← hv]
    exact Lm l _ (fun c hc=>h c (ZX _ hc)) (by omega)
theorem GZ{l:List UInt8}(h:gN l):Lib.atoiAll l=if bW l 0<9223372036854775808 then .ok (bW l 0:Nat)else .range:=by
 obtain⟨h0,h⟩:=h
 cases l with
 |nil=>exact absurd rfl h0
 |cons b r=>
  have hb:=h b ZR
  rw[Lib.atoiAll_plain b r (by omega) (by omega),Lib.parseMag,if_neg (by simp),Lm _ 0 h (by omega)]
  by_cases h1:bW (b::r) 0<18446744073709551616
  ·rw[if_pos h1]
   simp only[Lib.signless]
   by_cases h2:bW (b::r) 0<9223372036854775808
   ·rw[if_pos h2,if_neg (by omega)]
   ·rw[if_neg h2,if_pos (by omega)]
  ·rw[if_neg h1,if_neg (by omega)];rfl
theorem Q0{t:Tok}(h:my t)(hk:t.kind=2):Pure Tryz.prog 136 [sv t.text] (.aL [iv (sd t.text),.v .nilIface]):=by
 obtain⟨h1,h2⟩:=h.num hk
 refine QZ t.text _ h.sz ?_
 rw[GZ h1,if_pos (by omega)];rfl
theorem u0(hw:ib)(L:List Tok)(hL:Gd L)(ins:Bool):bC 154 [] ins L (dZ L) iv:=by
 refine bC.intro fun b rest τ=> ?_
 refine Spec.cN (fun _=>0) Tryz.func154 RO S4 (Z9 rfl) ?_
 repeat'(first|exact .nil|refine .k0 ?_|refine .k1 ?_|refine .k2 ?_|refine .r1 ?_ ?_|fail)
 all_goals(try simp only[BL]at *)
 refine bG rfl (xM hw L hL ins 2 (by decide)) rfl rfl rfl .nil ?_ (fun _ _ h=>aP h) (fun _=>Zs) (fun a L' hr cZ=> ?_)
 ·exact fun p c h=>by unfold dZ;rw[h];rfl
 have ft:my a:=by
  unfold dC at hr;split at hr
  ·cases hr
  ·cases hr;exact hL.t _ (ua hL.e.ne)
 have jt:a.kind=2:=by
  unfold dC at hr;split at hr
  ·cases hr
  ·cases hr;rename_i hh;exact Zd.1 hh
 simp(decide:=true)only[aH,aN]
 repeat'(first|exact .nil|refine .k0 ?_|refine .k1 ?_|refine .k2 ?_|refine .k7 ?_|refine .r1 ?_ ?_|refine .an rfl (by intro aO;exact Q0 ft jt) ?_ ?_|fail)
 all_goals(try simp only[BL]at *)
 exact cQ (a:=sd a.text) (by unfold dZ;rw[hr];rfl) cZ (.refl _)
theorem abV(hw:ib)(L:List Tok)(hL:Gd L)(ins:Bool):bC 234 [] ins L (qu L) fun w=> .agg [iv w.kind,iv w.size]:=by
 refine bC.intro fun b rest τ=> ?_
 refine Spec.cN (fun _=>0) Tryz.func234 RX Td (Z9 rfl) ?_
 unfold qu
 repeat'(first|exact .nil|refine .k0 ?_|refine .k1 ?_|refine .k2 ?_|refine .k6 ?_|refine .r1 ?_ ?_|(refine .l1 ?_;intro b)|fail)
 all_goals(try simp only[BL]at *)
 refine bG rfl (fA L hL ins 1 (by decide) nH) rfl rfl rfl .nil (fun _ _ h=>nD h) (fun _ _ h=>aP h) (fun _=>Zs) (fun a L1 hr bg=> ?_)
 simp(decide:=true)only[aH,aN]
 by_cases h0:ar 1 nH L=true
 ·rw[ja h0]at hr;cases hr;rw[if_pos h0]
  (repeat'(first|exact .nil|refine .k0 ?_|refine .k1 ?_|refine .k2 ?_|refine .k7 ?_|(refine .cd ?_ ?_<;>first|with_reducible exact tF|(intro hc;skip))|refine .r1 ?_ ?_|fail))<;>(try(simp at hc;done))
  exact cQ (a:=(⟨1,0⟩:eT)) rfl bg (.refl _)
 ·rw[iZ h0]at hr;cases hr;rw[if_neg h0]
  (repeat'(first|exact .nil|refine .k0 ?_|refine .k1 ?_|refine .k2 ?_|(refine .cd ?_ ?_<;>first|with_reducible exact fT|(intro hc;skip))|refine .r1 ?_ ?_|fail))<;>(try(simp at hc;done))
  refine bG rfl (fA L hL ins 1 (by decide) kR) rfl rfl rfl .nil (fun _ _ h=>nD h) (fun _ _ h=>aP h) (fun _=>Zs) (fun a L1 hr bg=> ?_)
  simp(decide:=true)only[aH,aN]
  by_cases h1:ar 1 kR L=true
  ·rw[ja h1]at hr;cases hr;rw[if_pos h1]
   (repeat'(first|exact .nil|refine .k0 ?_|refine .k1 ?_|refine .k2 ?_|(refine .cd ?_ ?_<;>first|with_reducible exact tF|(intro hc;skip))|refine .r1 ?_ ?_|fail))<;>(try(simp at hc;done))
   have ht:=hL.tail (bJ (k:=1) (by decide) L h1)
   refine bG rfl (u0 hw L.tail ht.1 ins) rfl rfl rfl .nil ?_ (fun _ _ h=>aP h) (fun _=>Zs) (fun n L1 hr bg=> ?_)
   ·exact fun p c h=>by rw[h];rfl
   simp(decide:=true)only[aH,aN]
   repeat'(first|exact .nil|refine .k0 ?_|refine .k1 ?_|refine .k7 ?_|refine .r1 ?_ ?_|fail)
   exact cQ (a:=(⟨2,n⟩:eT)) (by rw[hr];rfl) bg (.refl _)
  ·rw[iZ h1]at hr;cases hr;rw[if_neg h1]
   (repeat'(first|exact .nil|refine .k0 ?_|refine .k1 ?_|refine .k2 ?_|(refine .cd ?_ ?_<;>first|with_reducible exact fT|(intro hc;skip))|refine .r1 ?_ ?_|fail))<;>(try(simp at hc;done))
   refine bG rfl (fA L hL ins 1 (by decide) kS) rfl rfl rfl .nil (fun _ _ h=>nD h) (fun _ _ h=>aP h) (fun _=>Zs) (fun a L1 hr bg=> ?_)
   simp(decide:=true)only[aH,aN]
   by_cases h2:ar 1 kS L=true
   ·rw[ja h2]at hr;cases hr;rw[if_pos h2]
    (repeat'(first|exact .nil|refine .k0 ?_|refine .k1 ?_|refine .k2 ?_|(refine .cd ?_ ?_<;>first|with_reducible exact tF|(intro hc;skip))|refine .r1 ?_ ?_|fail))<;>(try(simp at hc;done))
    have ht:=hL.tail (bJ (k:=1) (by decide) L h2)
    refine bG rfl (u0 hw L.tail ht.1 ins) rfl rfl rfl .nil ?_ (fun _ _ h=>aP h) (fun _=>Zs) (fun n L1 hr bg=> ?_)
    ·exact fun p c h=>by rw[h];rfl
    simp(decide:=true)only[aH,aN]
    repeat'(first|exact .nil|refine .k0 ?_|refine .k1 ?_|refine .k7 ?_|refine .r1 ?_ ?_|fail)
    exact cQ (a:=(⟨3,n⟩:eT)) (by rw[hr];rfl) bg (.refl _)
   ·rw[iZ h2]at hr;cases hr;rw[if_neg h2]
    (repeat'(first|exact .nil|refine .k0 ?_|refine .k1 ?_|refine .k2 ?_|refine .k9 ?_|(refine .cd ?_ ?_<;>first|with_reducible exact fT|(intro hc;skip))|refine .r1 ?_ ?_|fail))<;>(try(simp at hc;done))
    refine bG rfl (Ep hw L hL ins oR) rfl rfl rfl .nil ?_ (fun _ _ h=>aP h) (fun _=>Zs) (fun a L1 aU bg=> ?_)
    ·exact fun p c h=>by rw[h];rfl
    simp(decide:=true)only[aH,aN]
    repeat'(first|exact .nil|refine .k0 ?_|refine .k1 ?_|refine .k2 ?_|refine .r1 ?_ ?_|fail)
    refine bG rfl (u0 hw L1 bg ins) rfl rfl rfl .nil ?_ (fun _ _ h=>aP h) (fun _=>Zs) (fun n L2 cI cq=> ?_)
    ·exact fun p c h=>by rw[aU,PR.aD,h];rfl
    simp(decide:=true)only[aH,aN]
    repeat'(first|exact .nil|refine .k0 ?_|refine .k1 ?_|refine .k7 ?_|refine .r1 ?_ ?_|fail)
    exact cQ (a:=(⟨4,n⟩:eT)) (by rw[aU,PR.aD,cI];rfl) cq (.refl _)
end Go.Proofs.YtbihckigennlhaaGreatDoor
set_option linter.unusedSectionVars false
namespace Go.Sx
open Go.RowKit Go.Proofs
inductive jG:Store→Store→Prop
 |refl (σ:Store):jG σ σ
 |here {t b:Nat} {l l':List AV} {σ σ':Store} (h:bD l l') (k:jG σ σ'):jG ((t,b,.cells l)::σ) ((t,b,.cells l')::σ')
 |there {e:Nat×Nat×cp} {σ σ':Store} (k:jG σ σ'):jG (e::σ) (e::σ')
 |perm {σ bn σ':Store} (h:σ.Perm bn) (k:jG bn σ'):jG σ σ'
theorem bD.rl{M:Mem}{l l':List AV}(h:bD l l'):∀ {vs:List Value},RL M l vs→RL M l' vs:=by
 induction h with
 |nil=>exact id
 |cons hx _ ih=>intro vs hr;obtain⟨v,gL,rfl,h1,h2⟩:=hr.cE;exact RL.cons (hx M v h1) (ih h2)
theorem jG.at{M:Mem}{w0:Base}{w:World}{σ σ':Store}(h:jG σ σ'):(∀ e∈σ,w0.heap.size≤e.2.1∧BlkOK M w e.2.1 e.2.2)→(∀ e∈σ',w0.heap.size≤e.2.1∧BlkOK M w e.2.1 e.2.2)∧(σ'.map (fun x=>x.2.1)).Perm (σ.map (fun x=>x.2.1)):=by
 induction h with
 |refl=>exact fun hs=>⟨hs,.refl _⟩
 |perm h k ih=>
  intro hs
  obtain⟨h1,h2⟩:=ih fun e he=>hs e (h.mem_iff.2 he)
  exact⟨h1,h2.trans (h.map _).symm⟩
 | @here t b l l' σ σ' h k ih=>
  intro hs
  obtain⟨h1,h2⟩:=ih fun e he=>hs e (ZX _ he)
  refine⟨fun e he=> ?_,.cons _ h2⟩
  rcases ZU.1 he with rfl|he
  ·obtain⟨g1,g2,cs,ty,g3,g4⟩:=hs _ ZR
   exact⟨g1,g2,cs,ty,g3,h.rl g4⟩
  ·exact h1 e he
 |there k ih=>
  intro hs
  obtain⟨h1,h2⟩:=ih fun e he=>hs e (ZX _ he)
  refine⟨fun e he=> ?_,.cons _ h2⟩
  rcases ZU.1 he with rfl|he
  ·exact hs _ ZR
  ·exact h1 e he
theorem BI{P:Program}[Glob P]{N:Nat}{cfg:Nat→Nat}{Q:Exit→ae→Store→Prop}{a:AC}{k:List Fr}{rg:ae}{σ σ':Store}(hs:jG σ σ')(h:WK P N cfg Q a k rg σ'):WK P N cfg Q a k rg σ:=by
 refine⟨⟨rfl,?_⟩⟩
 intro cd UO M w0 a w hI hR hN hD
 obtain⟨h1,h2⟩:=hs.at hI.st
 exact h.h.h cd UO M w0 a w ⟨hI.os,hI.tape,hI.output,hI.size,hI.old,hI.dr,h1,h2.nodup_iff.2 hI.nd,hI.gl,hI.gw,hI.bm⟩ hR hN hD
def dw(I:ae→Store→Prop)(ks:List Nat)(rg:ae)(σ:Store):Prop:=∃ ct,gj ks rg=some ct∧∃ ao bn σ',ek ct ao∧jG σ bn∧Sub σ' bn∧I ao σ'
theorem dw.intro{I:ae→Store→Prop}{ks:List Nat}{rg ct ao:ae}{σ σ':Store}(hk:gj ks rg=some ct)(h:I ao σ')(hw:ek ct ao:=by exact Zr)(hs:Sub σ' σ:=by exact Zs):dw I ks rg σ:=⟨ct,hk,ao,σ,σ',hw,.refl _,hs,h⟩
theorem dw.uB{I:ae→Store→Prop}{ks:List Nat}{rg ct ao:ae}{σ bn σ':Store}(hk:gj ks rg=some ct)(h:I ao σ')(ht:jG σ bn)(hw:ek ct ao:=by exact Zr)(hs:Sub σ' bn:=by exact Zs):dw I ks rg σ:=⟨ct,hk,ao,bn,σ',hw,ht,hs,h⟩
theorem kb{P:Program}[Glob P]{N:Nat}{cfg:Nat→Nat}{Q:Exit→ae→Store→Prop}{a b:AC}{k:List Fr}{rg:ae}{σ:Store}{ks:List Nat}(I:ae→Store→Prop)(h1:WK P N cfg Q a (.fn (dw I ks)::k) rg σ)(h2:∀ rg σ,I rg σ→WK P N cfg Q b k rg σ):WK P N cfg Q (.seq a (.keep ks b)) k rg σ:=by
 refine⟨Gf (h1.h.mono fun e bP aw he=> ?_)⟩
 cases e with
 |normal=>
  obtain⟨ct,hf,ao,bn,σ',hw,ht,hs,hi⟩:=he
  exact(ji hf (BI ht (P1 (h2 _ _ hi) hw hs))).h
 |_=>exact he
end Go.Sx
namespace Go.Proofs.YtbihckigennlhaaGreatDoor
open Go.Sx Go.Proofs
section
variable {cfg:Nat→Nat}{ts ah:List Nat}{K:ae→Store→Prop}{E:List PanicEntry→Store→Prop}{σ τ:Store}{l2:List CD}{d b b':Nat}{xr:XR}{ps:List Prop}{og:Option Bool}{args:List Operand}{ys:List AV}{α β:Type}{f:FuncId}{ins xm:Bool}{L:List Tok}{rest cs:List AV}{r:PR α}{val:α→AV}{r2:PR β}{yb:β→AV}
theorem Py{P:Program}[Glob P]{R:cU→Store→Prop}(h:ay xr none args=some (og,ys,ps))(hp:Sx.Spec P f ys σ R)(al:OB ps)(hf:∀ x σ',R (.ret x) σ'→∀ t b l,ts.elem t=false→aK σ t=some (b,.cells l)→aK σ' t=some (b,.cells l))
  (k:∀ x σ',R (.ret x) σ'→VY P cfg ah l2 (Cl K) ((d,.s x)::xr) σ') (e:∀ ch σ',R (.cC ch) σ'→E ch σ'):VY P cfg (ts++ah) [] (o4 P cfg ts ah K E d f args l2) xr σ:=by
 obtain⟨hc,he⟩:=bY h
 have cA:og.getD true=true:=by
  unfold ay gX at h
  obtain⟨aX,h',_,_⟩:=fb h
  split at h'<;>cases h';rfl
 refine⟨R,?_,fun x σ' hr=>⟨hf x σ' hr,(k x σ' hr).h⟩,e⟩
 rw[he al cA];exact hp
theorem vM(Wa:ts.elem 1000=true)(h:ay xr none args=some (og,.lp 1000 b 0::ys,ps))(hp:bC f ys ins L r val)(hl:aK σ 1000=some (b',.cells cs))(hb:b=b')(hc:cs=aZ L ins++rest)(al:OB ps)
  (he:∀ p c,r= .err p c→r2= .err p c) (hE:∀ ch σ',mu xm rest r2 yb b τ (.cC ch) σ'→E ch σ') (hs:∀ cs',Sub ((1000,b,.cells cs')::τ) (ck σ 1000 b (.cells cs')))
  (k:∀ a L',r= .ok a L'→Gd L'→VY Tryz.prog cfg ah l2 (Cl K) ((d,.s (val a))::xr) (ck σ 1000 b (.cells (aZ L' ins++rest)))):VY Tryz.prog cfg (ts++ah) [] (o4 Tryz.prog cfg ts ah K E d f args l2) xr σ:=by
 subst hc
 subst hb
 refine Py h (Spec.at (fun cL=>hp b rest cL) hl) al (fun x σ' ⟨cs',hR,e1⟩ t b2 l ht aE=> ?_) (fun x σ' ⟨cs',hR,e1⟩=> ?_) (fun ch σ' ⟨cs',hR,e1⟩=> ?_)
 ·subst e1
  rw[r3 hl,if_neg (fun e=>by subst e;rw[Wa]at ht;cases ht)]
  exact aE
 ·subst e1
  cases hr:r with
  |ok a L'=>rw[hr]at hR;obtain⟨h1,h2,h3⟩:=hR;cases h2;subst h3;exact k a L' hr h1
  |err p c=>rw[hr]at hR;exact absurd hR (by nofun)
 ·subst e1
  cases hr:r with
  |ok a L'=>rw[hr]at hR;exact absurd hR.2.1 (by nofun)
  |err p c=>
   rw[hr]at hR
   refine hE ch _ (nB ?_ (hs cs'))
   rw[he p c hr]
   exact hR
theorem O2{P:Program}[Glob P]{t:TypeId}{af:Nat}{l:List CI}{parts:List Operand}{rows:List (List AV)}(fl:List AV)(n:Nat)(hc:cfg d=2)(h:ay xr none parts=some (og,ys,ps))(hr:rowsOf af ys=some rows)(al:OB ps)(gD:rows.length=n)(hn:n≤1000000)(hf:rows.flatten=fl)
  (k:∀ b,VX P cfg l K E ((d,.s (.ms d b 0 n n))::xr) ((d,b,.cells fl)::σ)):VX P cfg (⟨some d,.bh t af parts,none⟩::l) K E xr σ:=by
 obtain⟨_,he⟩:=bY h
 have cA:og=none:=by
  unfold ay gX at h
  obtain⟨aX,h',_,_⟩:=fb h
  split at h'<;>cases h';rfl
 subst cA
 subst hf
 subst gD
 constructor
 simp only[dO,cT,aj,he al rfl,hr,ZI,hc]
 exact⟨hn,fun b=>(k b).h⟩
end
end Go.Proofs.YtbihckigennlhaaGreatDoor
