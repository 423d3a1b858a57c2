/- The reader's methods, walked: operand. -/
import Derived.Test.YtbihckigennlhaaGreatDoorTz
import Derived.Test.YtbihckigennlhaaGreatDoorPt
import Derived.Lib.AtoiAllCases
import Derived.Test.YtbihckigennlhaaGreatDoorSxMixC
set_option linter.unusedSimpArgs false
set_option linter.unusedVariables false
set_option maxRecDepth 100000
set_option maxHeartbeats 4000000
namespace Go.Proofs.YtbihckigennlhaaGreatDoor
open Go.Sx Go.Proofs
section
variable {cfg:Nat→Nat}{K:ae→Store→Prop}{E:List PanicEntry→Store→Prop}{σ τ:Store}{l:List CI}{d b b':Nat}{xr:XR}{ps:List Prop}{og:Option Bool}{g:Option (Nat×Bool)}{args:List Operand}{ys zs:List AV}{α β:Type}{f:FuncId}{ins yw:Bool}{L:List Tok}{rest cs:List AV}{r:PR α}{val:α→AV}{r2:PR β}{zN:β→AV}
theorem H8{P:Program}[Glob P]{R:dj→Store→Prop}(v:AV)(h:aA xr g args=some (og,zs,ps))(hp:og.getD true=true→Sx.Spec P f zs σ R)(al:OB ps)(k:og.getD true=true→∀ x σ',R (.ret x) σ'→VX P cfg l K E ((d,.s x)::xr) σ')(e:∀ ch σ',R (.cL ch) σ'→E ch σ')
  (k0:og.getD true=false→VX P cfg l K E (bF og d v xr) σ):VX P cfg (⟨some d,.call f args,g⟩::l) K E xr σ:=by
 obtain⟨hc,he⟩:=bZ h
 refine gU hc (fun hg=> ?_) (fun hg=> ?_)
 ·simp only[aj,he al hg]
  exact⟨R,hp hg,fun x σ' hr=>(k hg x σ' hr).h,e⟩
 ·rw[← eO hg (v:=v)];exact(k0 hg).h
theorem Ro(v:AV)(h:aA xr g args=some (og,.lp 1000 b 0::ys,ps))(hp:bG f ys ins L r val)(hl:aN σ 1000=some (b',.cells cs))(hb:b=b')(hc:cs=bh L ins++rest)(al:OB ps)
  (he:∀ p c,r= .err p c→r2= .err p c) (hE:∀ ch σ',nt yw rest r2 zN b τ (.cL ch) σ'→E ch σ') (hs:∀ cs',Sub ((1000,b,.cells cs')::τ) (ct σ 1000 b (.cells cs')))
  (k:og.getD true=true→∀ a L',r= .ok a L'→Gd L'→VX Tryz.prog cfg l K E ((d,.s (val a))::xr) (ct σ 1000 b (.cells (bh L' ins++rest))))
  (k0:og.getD true=false→VX Tryz.prog cfg l K E (bF og d v xr) σ):VX Tryz.prog cfg (⟨some d,.call f args,g⟩::l) K E xr σ:=by
 subst hc
 subst hb
 refine H8 v h (fun _=>Spec.at (fun cU=>hp b rest cU) hl) al (fun hg x σ' ⟨cs',hR,e1⟩=> ?_) (fun ch σ' ⟨cs',hR,e1⟩=> ?_) k0
 ·subst e1
  cases hr:r with
  |ok a L'=>rw[hr]at hR;obtain⟨h1,h2,h3⟩:=hR;cases h2;subst h3;exact k hg a L' hr h1
  |err p c=>rw[hr]at hR;exact absurd hR (by nofun)
 ·subst e1
  cases hr:r with
  |ok a L'=>rw[hr]at hR;exact absurd hR.2.1 (by nofun)
  |err p c=>
   rw[hr]at hR
   refine hE ch _ (oA ?_ (hs cs'))
   rw[he p c hr]
   exact hR
end
structure qi(n:Nat):Prop where
 expr:∀ i L,Gd L→8 * L.length+7≤n→bG 38 [] i L (bD n i L) gG
 bin:∀ (l:Nat) i L,Gd L→8 * L.length+6≤n→bG 79 [iv l] i L (dN n l i L) gG
 operand:∀ (l:Nat) i L,Gd L→8 * L.length+5≤n→bG 123 [iv l] i L (eC n l i L) gG
 mU:∀ i L,Gd L→8 * L.length+4≤n→bG 166 [] i L (fi n i L) gG
 group:∀ i L,Gd L→8 * L.length+3≤n→bG 195 [] i L (aJf n i L) gG
 word:∀ i L,Gd L→(hd L).kind≠6→8 * L.length+3≤n→bG 193 [] i L (fJ n i L) gG
 agg:∀ op L,Gd L→8 * L.length+3≤n→bG 220 [sv op] false L (gC n op L) gG
theorem xk{x:Ex}:Wk (.sl true 12 [x.row]) (.sl false 12 ([x].map Ex.cells)):=by
 rw[Ex.oR];exact .sl
theorem jI{k:Int}{s:af}{L:List Tok}(h:au k s L=true):kR k s L= .ok true L.tail:=by unfold kR;rw[if_pos h]
theorem jH{k:Int}{s:af}{L:List Tok}(h:¬au k s L=true):kR k s L= .ok false L:=by unfold kR;rw[if_neg h]
theorem oC{k:Int}{s:af}{L:List Tok}{p c:Int}{α:Prop}(h:kR k s L= .err p c):α:=by
 unfold kR at h;split at h<;>cases h
theorem ad1{n:Nat}(ih:qi n)(l:Nat)(i:Bool)(L:List Tok)(hL:Gd L)(hn:8 * L.length+5≤n+1):bG 123 [iv l] i L (eC (n+1) l i L) gG:=by
 refine bG.intro fun b rest τ=> ?_
 refine Spec.cY (fun _=>0) Tryz.func123 Ux VH (Z8 rfl) ?_
 rw[eC]
 repeat'(first|exact .nil|refine .k0 ?_|refine .k1 ?_|refine .k2 ?_|refine .k6 ?_|refine .r1 ?_ ?_|(refine .l1 ?_;intro b)|fail)
 all_goals(try simp only[BL]at *)
 refine Ro (.v (.bool false)) rfl (fX L hL i 1 (by decide) cE) rfl rfl rfl (.cons (fun h=>h) .nil) (fun _ _ h=>oC h) (fun _ _ h=>aR h) (fun _=>Zs) (fun hg a L1 aX bj=> ?_) (fun hg=> ?_)
 ·have EI:l≤3:=by have:=of_decide_eq_true hg;omega
  simp(decide:=true)only[aL,aP]
  by_cases hs:au 1 cE L=true
  ·rw[jI hs]at aX;cases aX
   have ht:=hL.tail (cr (k:=1) (by decide) L hs)
   rw[if_pos (by simp[EI,hs])]
   (repeat'(first|exact .nil|refine .k0 ?_|refine .k1 ?_|refine .k2 ?_|(refine .cd ?_ ?_<;>(intro hc;skip))|refine .r1 ?_ ?_|fail))<;>(try(exact absurd hc (by simp;omega)))
   refine bI rfl (ih.bin 3 i L.tail ht.1 (by omega)) rfl rfl rfl .nil ?_ (fun _ _ h=>aR h) (fun _=>Zs) (fun x L1 aX bj=> ?_)
   ·exact fun p c h=>by rw[h];rfl
   simp(decide:=true)only[aL,aP]
   repeat'(first|exact .nil|refine .k0 ?_|refine .k1 ?_|refine .k7 ?_|refine .r1 ?_ ?_|fail)
   ·simp
   refine dc (a:=kS cE x) (by rw[aX];rfl) bj ?_
   repeat' first|exact xk|exact .refl _|exact .nil|refine .cons ?_ ?_|refine .agg ?_
  ·rw[jH hs]at aX;cases aX
   rw[if_neg (by simp[hs])]
   (repeat'(first|exact .nil|refine .k0 ?_|refine .k1 ?_|refine .k2 ?_|(refine .cd ?_ ?_<;>(intro hc;skip))|refine .r1 ?_ ?_|fail))<;>(try(simp at hc;done))
   refine bI rfl (fX L hL i 5 (by decide) (ch 45)) rfl rfl rfl .nil (fun _ _ h=>oC h) (fun _ _ h=>aR h) (fun _=>Zs) (fun a L1 aX bj=> ?_)
   simp(decide:=true)only[aL,aP]
   by_cases hm:au 5 (ch 45) L=true
   ·rw[jI hm]at aX;cases aX
    have ht:=hL.tail (cr (k:=5) (by decide) L hm)
    rw[if_pos hm]
    (repeat'(first|exact .nil|refine .k0 ?_|refine .k1 ?_|refine .k2 ?_|(refine .cd ?_ ?_<;>first|with_reducible exact tF|(intro hc;skip))|refine .r1 ?_ ?_|fail))<;>(try(simp at hc;done))
    refine bI rfl (ih.operand 7 i L.tail ht.1 (by omega)) rfl rfl rfl .nil ?_ (fun _ _ h=>aR h) (fun _=>Zs) (fun x L1 aX bj=> ?_)
    ·exact fun p c h=>by rw[h];rfl
    simp(decide:=true)only[aL,aP]
    repeat'(first|exact .nil|refine .k0 ?_|refine .k1 ?_|refine .k7 ?_|refine .r1 ?_ ?_|fail)
    ·simp
    refine dc (a:=kS (ch 45) x) (by rw[aX];rfl) bj ?_
    repeat' first|exact xk|exact .refl _|exact .nil|refine .cons ?_ ?_|refine .agg ?_
   ·rw[jH hm]at aX;cases aX
    rw[if_neg hm]
    (repeat'(first|exact .nil|refine .k0 ?_|refine .k1 ?_|refine .k2 ?_|refine .k9 ?_|(refine .cd ?_ ?_<;>first|with_reducible exact fT|(intro hc;skip))|refine .r1 ?_ ?_|fail))<;>(try(simp at hc;done))
    refine bI rfl (ih.mU i L hL (by omega)) rfl rfl rfl .nil (fun _ _ h=>h) (fun _ _ h=>aR h) (fun _=>Zs) (fun x L1 aX bj=> ?_)
    simp(decide:=true)only[aL,aP]
    repeat'(first|exact .nil|refine .k0 ?_|refine .k1 ?_|refine .k7 ?_|refine .r1 ?_ ?_|fail)
    exact dc (a:=x) aX bj (.refl _)
 ·have EI:¬l≤3:=by have:=of_decide_eq_false hg;omega
  rw[if_neg (by simp[EI])]
  (repeat'(first|exact .nil|refine .k0 ?_|refine .k1 ?_|refine .k2 ?_|refine .k4 ?_|(refine .cd ?_ ?_<;>(intro hc;skip))|refine .r1 ?_ ?_|fail))<;>(try(simp at hc;done))
  refine bI rfl (fX L hL i 5 (by decide) (ch 45)) rfl rfl rfl .nil (fun _ _ h=>oC h) (fun _ _ h=>aR h) (fun _=>Zs) (fun a L1 aX bj=> ?_)
  simp(decide:=true)only[aL,aP]
  by_cases hm:au 5 (ch 45) L=true
  ·rw[jI hm]at aX;cases aX
   have ht:=hL.tail (cr (k:=5) (by decide) L hm)
   rw[if_pos hm]
   (repeat'(first|exact .nil|refine .k0 ?_|refine .k1 ?_|refine .k2 ?_|(refine .cd ?_ ?_<;>first|with_reducible exact tF|(intro hc;skip))|refine .r1 ?_ ?_|fail))<;>(try(simp at hc;done))
   refine bI rfl (ih.operand 7 i L.tail ht.1 (by omega)) rfl rfl rfl .nil ?_ (fun _ _ h=>aR h) (fun _=>Zs) (fun x L1 aX bj=> ?_)
   ·exact fun p c h=>by rw[h];rfl
   simp(decide:=true)only[aL,aP]
   repeat'(first|exact .nil|refine .k0 ?_|refine .k1 ?_|refine .k7 ?_|refine .r1 ?_ ?_|fail)
   ·simp
   refine dc (a:=kS (ch 45) x) (by rw[aX];rfl) bj ?_
   repeat' first|exact xk|exact .refl _|exact .nil|refine .cons ?_ ?_|refine .agg ?_
  ·rw[jH hm]at aX;cases aX
   rw[if_neg hm]
   (repeat'(first|exact .nil|refine .k0 ?_|refine .k1 ?_|refine .k2 ?_|refine .k9 ?_|(refine .cd ?_ ?_<;>first|with_reducible exact fT|(intro hc;skip))|refine .r1 ?_ ?_|fail))<;>(try(simp at hc;done))
   refine bI rfl (ih.mU i L hL (by omega)) rfl rfl rfl .nil (fun _ _ h=>h) (fun _ _ h=>aR h) (fun _=>Zs) (fun x L1 aX bj=> ?_)
   simp(decide:=true)only[aL,aP]
   repeat'(first|exact .nil|refine .k0 ?_|refine .k1 ?_|refine .k7 ?_|refine .r1 ?_ ?_|fail)
   exact dc (a:=x) aX bj (.refl _)
end Go.Proofs.YtbihckigennlhaaGreatDoor
namespace Go.Proofs.YtbihckigennlhaaGreatDoor
open Go.Sx Go.Proofs Go.RowKit
theorem IU(w:World)(e:TypeId)(s:ByteArray):Below w.heap.size w (Lib.bytesWorld w e s):=by
 exact⟨rfl,rfl,rfl,by rw[Lib.bytesWorld_size];omega,fun j hj=>Lib.bytesWorld_at_old w e s j hj⟩
theorem TH(s:af)(n:Int)(hl:s.size≤16384)(h:Lib.atoiAll s.data.toList= .ok n):Pure Tryz.prog 136 [sv s] (.aI [iv n,.v .nilIface]):=by
 refine Pure.shelf fun M w0 w σ cs hI hR=> ?_
 obtain⟨v1,rfl,h1⟩:=hR.dV
 obtain rfl:=h1.az
 exact(Tryz.strconv_Atoi_ok s (by omega) n h w).mono fun e w' ⟨he,hw⟩=>⟨⟨_,he,R.FE (cs:=[_,_]) (RL.cons (.v _) (RL.cons (.v _) RL.nil))⟩,by
  rcases hw with rfl|⟨t,rfl⟩
  ·exact Below.refl _ _
  ·exact IU w 5 t⟩
theorem Nf:∀ (l:List UInt8) (a:Nat),a≤ei l a
 |[],a=>ZI _
 |b::l,a=>by
  simp only[ei]
  exact YG (by omega) (Nf l _)
theorem NC:∀ (l:List UInt8) (a:Nat),(∀ c∈l,48≤c.toNat∧c.toNat≤57)→a<18446744073709551616→Lib.parseUint10 a l=if ei l a<18446744073709551616 then .ok (ei l a)else .range
 |[],a,_,ha=>by simp[Lib.parseUint10,ei,ha]
 |b::l,a,h,ha=>by
  have hb:=h b ZU
  have hg:=Nf l (10 * a+(b.toNat-48))
  have e:ei (b::l) a=ei l (10 * a+(b.toNat-48)):=rfl
  rw[e]
  generalize hv:ei l (10 * a+(b.toNat-48))=v at *
  simp only[Lib.parseUint10,if_pos hb]
  by_cases h1:1844674407370955162≤a
  ·rw[if_pos h1,if_neg (by omega)]
  ·rw[if_neg h1]
   by_cases h2:18446744073709551616≤a * 10+(b.toNat-48)
   ·rw[if_pos h2,if_neg (by omega)]
   ·rw[if_neg h2,show a * 10+(b.toNat-48)=10 * a+(b.toNat-48) by omega]
    rw[← hv]
    exact NC l _ (fun c hc=>h c (ZX _ hc)) (by omega)
theorem IM{l:List UInt8}(h:iz l):Lib.atoiAll l=if ei l 0<9223372036854775808 then .ok (ei l 0:Nat)else .range:=by
 obtain⟨h0,h⟩:=h
 cases l with
 |nil=>exact absurd rfl h0
 |cons b r=>
  have hb:=h b ZU
  rw[Lib.atoiAll_plain b r (by omega) (by omega),Lib.parseMag,if_neg (by simp),NC _ 0 h (by omega)]
  by_cases h1:ei (b::r) 0<18446744073709551616
  ·rw[if_pos h1]
   simp only[Lib.signless]
   by_cases h2:ei (b::r) 0<9223372036854775808
   ·rw[if_pos h2,if_neg (by omega)]
   ·rw[if_neg h2,if_pos (by omega)]
  ·rw[if_neg h1,if_neg (by omega)];rfl
theorem TJ{t:Tok}(h:nw t)(hk:t.kind=2):Pure Tryz.prog 136 [sv t.text] (.aI [iv (tC t.text),.v .nilIface]):=by
 obtain⟨h1,h2⟩:=h.num hk
 refine TH t.text _ h.sz ?_
 rw[IM h1,if_pos (by omega)];rfl
theorem wg(hw:iQ)(L:List Tok)(hL:Gd L)(ins:Bool):bG 154 [] ins L (az2 L) iv:=by
 refine bG.intro fun b rest τ=> ?_
 refine Spec.cY (fun _=>0) Tryz.func154 UD VO (Z8 rfl) ?_
 repeat'(first|exact .nil|refine .k0 ?_|refine .k1 ?_|refine .k2 ?_|refine .r1 ?_ ?_|fail)
 all_goals(try simp only[BL]at *)
 refine bI rfl (yV hw L hL ins 2 (by decide)) rfl rfl rfl .nil ?_ (fun _ _ h=>aR h) (fun _=>Zs) (fun a L' hr dq=> ?_)
 ·exact fun p c h=>by unfold az2;rw[h];rfl
 have fP:nw a:=by
  unfold dM at hr;split at hr
  ·cases hr
  ·cases hr;exact hL.t _ (vf hL.e.ne)
 have j1:a.kind=2:=by
  unfold dM at hr;split at hr
  ·cases hr
  ·cases hr;rename_i hh;exact Y4.1 hh
 simp(decide:=true)only[aL,aP]
 repeat'(first|exact .nil|refine .k0 ?_|refine .k1 ?_|refine .k2 ?_|refine .k7 ?_|refine .r1 ?_ ?_|refine .an rfl (by intro bx;exact TJ fP j1) ?_ ?_|fail)
 all_goals(try simp only[BL]at *)
 exact dc (a:=tC a.text) (by unfold az2;rw[hr];rfl) dq (.refl _)
theorem ad5(hw:iQ)(L:List Tok)(hL:Gd L)(ins:Bool):bG 234 [] ins L (rM L) fun w=> .agg [iv w.kind,iv w.size]:=by
 refine bG.intro fun b rest τ=> ?_
 refine Spec.cY (fun _=>0) Tryz.func234 UL VZ (Z8 rfl) ?_
 unfold rM
 repeat'(first|exact .nil|refine .k0 ?_|refine .k1 ?_|refine .k2 ?_|refine .k6 ?_|refine .r1 ?_ ?_|(refine .l1 ?_;intro b)|fail)
 all_goals(try simp only[BL]at *)
 refine bI rfl (fX L hL ins 1 (by decide) mY) rfl rfl rfl .nil (fun _ _ h=>oC h) (fun _ _ h=>aR h) (fun _=>Zs) (fun a L1 hr bj=> ?_)
 simp(decide:=true)only[aL,aP]
 by_cases h0:au 1 mY L=true
 ·rw[jI h0]at hr;cases hr;rw[if_pos h0]
  (repeat'(first|exact .nil|refine .k0 ?_|refine .k1 ?_|refine .k2 ?_|refine .k7 ?_|(refine .cd ?_ ?_<;>first|with_reducible exact tF|(intro hc;skip))|refine .r1 ?_ ?_|fail))<;>(try(simp at hc;done))
  exact dc (a:=(⟨1,0⟩:fq)) rfl bj (.refl _)
 ·rw[jH h0]at hr;cases hr;rw[if_neg h0]
  (repeat'(first|exact .nil|refine .k0 ?_|refine .k1 ?_|refine .k2 ?_|(refine .cd ?_ ?_<;>first|with_reducible exact fT|(intro hc;skip))|refine .r1 ?_ ?_|fail))<;>(try(simp at hc;done))
  refine bI rfl (fX L hL ins 1 (by decide) kX) rfl rfl rfl .nil (fun _ _ h=>oC h) (fun _ _ h=>aR h) (fun _=>Zs) (fun a L1 hr bj=> ?_)
  simp(decide:=true)only[aL,aP]
  by_cases h1:au 1 kX L=true
  ·rw[jI h1]at hr;cases hr;rw[if_pos h1]
   (repeat'(first|exact .nil|refine .k0 ?_|refine .k1 ?_|refine .k2 ?_|(refine .cd ?_ ?_<;>first|with_reducible exact tF|(intro hc;skip))|refine .r1 ?_ ?_|fail))<;>(try(simp at hc;done))
   have ht:=hL.tail (cr (k:=1) (by decide) L h1)
   refine bI rfl (wg hw L.tail ht.1 ins) rfl rfl rfl .nil ?_ (fun _ _ h=>aR h) (fun _=>Zs) (fun n L1 hr bj=> ?_)
   ·exact fun p c h=>by rw[h];rfl
   simp(decide:=true)only[aL,aP]
   repeat'(first|exact .nil|refine .k0 ?_|refine .k1 ?_|refine .k7 ?_|refine .r1 ?_ ?_|fail)
   exact dc (a:=(⟨2,n⟩:fq)) (by rw[hr];rfl) bj (.refl _)
  ·rw[jH h1]at hr;cases hr;rw[if_neg h1]
   (repeat'(first|exact .nil|refine .k0 ?_|refine .k1 ?_|refine .k2 ?_|(refine .cd ?_ ?_<;>first|with_reducible exact fT|(intro hc;skip))|refine .r1 ?_ ?_|fail))<;>(try(simp at hc;done))
   refine bI rfl (fX L hL ins 1 (by decide) kY) rfl rfl rfl .nil (fun _ _ h=>oC h) (fun _ _ h=>aR h) (fun _=>Zs) (fun a L1 hr bj=> ?_)
   simp(decide:=true)only[aL,aP]
   by_cases h2:au 1 kY L=true
   ·rw[jI h2]at hr;cases hr;rw[if_pos h2]
    (repeat'(first|exact .nil|refine .k0 ?_|refine .k1 ?_|refine .k2 ?_|(refine .cd ?_ ?_<;>first|with_reducible exact tF|(intro hc;skip))|refine .r1 ?_ ?_|fail))<;>(try(simp at hc;done))
    have ht:=hL.tail (cr (k:=1) (by decide) L h2)
    refine bI rfl (wg hw L.tail ht.1 ins) rfl rfl rfl .nil ?_ (fun _ _ h=>aR h) (fun _=>Zs) (fun n L1 hr bj=> ?_)
    ·exact fun p c h=>by rw[h];rfl
    simp(decide:=true)only[aL,aP]
    repeat'(first|exact .nil|refine .k0 ?_|refine .k1 ?_|refine .k7 ?_|refine .r1 ?_ ?_|fail)
    exact dc (a:=(⟨3,n⟩:fq)) (by rw[hr];rfl) bj (.refl _)
   ·rw[jH h2]at hr;cases hr;rw[if_neg h2]
    (repeat'(first|exact .nil|refine .k0 ?_|refine .k1 ?_|refine .k2 ?_|refine .k9 ?_|(refine .cd ?_ ?_<;>first|with_reducible exact fT|(intro hc;skip))|refine .r1 ?_ ?_|fail))<;>(try(simp at hc;done))
    refine bI rfl (Gb hw L hL ins oF) rfl rfl rfl .nil ?_ (fun _ _ h=>aR h) (fun _=>Zs) (fun a L1 aX bj=> ?_)
    ·exact fun p c h=>by rw[h];rfl
    simp(decide:=true)only[aL,aP]
    repeat'(first|exact .nil|refine .k0 ?_|refine .k1 ?_|refine .k2 ?_|refine .r1 ?_ ?_|fail)
    refine bI rfl (wg hw L1 bj ins) rfl rfl rfl .nil ?_ (fun _ _ h=>aR h) (fun _=>Zs) (fun n L2 cJ cy=> ?_)
    ·exact fun p c h=>by rw[aX,PR.aJ,h];rfl
    simp(decide:=true)only[aL,aP]
    repeat'(first|exact .nil|refine .k0 ?_|refine .k1 ?_|refine .k7 ?_|refine .r1 ?_ ?_|fail)
    exact dc (a:=(⟨4,n⟩:fq)) (by rw[aX,PR.aJ,cJ];rfl) cy (.refl _)
end Go.Proofs.YtbihckigennlhaaGreatDoor
set_option linter.unusedSectionVars false
namespace Go.Sx
open Go.RowKit Go.Proofs
inductive kj:Store→Store→Prop
 |refl (σ:Store):kj σ σ
 |here {t b:Nat} {l l':List AV} {σ σ':Store} (h:bH l l') (k:kj σ σ'):kj ((t,b,.cells l)::σ) ((t,b,.cells l')::σ')
 |there {e:Nat×Nat×bN} {σ σ':Store} (k:kj σ σ'):kj (e::σ) (e::σ')
 |perm {σ br σ':Store} (h:σ.Perm br) (k:kj br σ'):kj σ σ'
theorem bH.rl{M:Mem}{l l':List AV}(h:bH l l'):∀ {vs:List Value},RL M l vs→RL M l' vs:=by
 induction h with
 |nil=>exact id
 |cons hx _ ih=>intro vs hr;obtain⟨v,iu,rfl,h1,h2⟩:=hr.cN;exact RL.cons (hx M v h1) (ih h2)
theorem kj.at{M:Mem}{w0:Base}{w:World}{σ σ':Store}(h:kj σ σ'):(∀ e∈σ,w0.heap.size≤e.2.1∧BlkOK M w e.2.1 e.2.2)→(∀ e∈σ',w0.heap.size≤e.2.1∧BlkOK M w e.2.1 e.2.2)∧(σ'.map (fun x=>x.2.1)).Perm (σ.map (fun x=>x.2.1)):=by
 induction h with
 |refl=>exact fun hs=>⟨hs,.refl _⟩
 |perm h k ih=>
  intro hs
  obtain⟨h1,h2⟩:=ih fun e he=>hs e (h.mem_iff.2 he)
  exact⟨h1,h2.trans (h.map _).symm⟩
 | @here t b l l' σ σ' h k ih=>
  intro hs
  obtain⟨h1,h2⟩:=ih fun e he=>hs e (ZX _ he)
  refine⟨fun e he=> ?_,.cons _ h2⟩
  rcases ZV.1 he with rfl|he
  ·obtain⟨g1,g2,cs,ty,g3,g4⟩:=hs _ ZU
   exact⟨g1,g2,cs,ty,g3,h.rl g4⟩
  ·exact h1 e he
 |there k ih=>
  intro hs
  obtain⟨h1,h2⟩:=ih fun e he=>hs e (ZX _ he)
  refine⟨fun e he=> ?_,.cons _ h2⟩
  rcases ZV.1 he with rfl|he
  ·exact hs _ ZU
  ·exact h1 e he
theorem Da{P:Program}[Glob P]{N:Nat}{cfg:Nat→Nat}{Q:Exit→ae→Store→Prop}{a:AC}{k:List Fr}{rg:ae}{σ σ':Store}(hs:kj σ σ')(h:WK P N cfg Q a k rg σ'):WK P N cfg Q a k rg σ:=by
 refine⟨⟨rfl,?_⟩⟩
 intro cd XG M w0 a w hI hR hN hD
 obtain⟨h1,h2⟩:=hs.at hI.st
 exact h.h.h cd XG M w0 a w ⟨hI.os,hI.tape,hI.output,hI.size,hI.old,hI.dB,h1,h2.nodup_iff.2 hI.nd,hI.gl,hI.gw,hI.bm⟩ hR hN hD
def dH(I:ae→Store→Prop)(ks:List Nat)(rg:ae)(σ:Store):Prop:=∃ cC,gI ks rg=some cC∧∃ rg' br σ',eJ cC rg'∧kj σ br∧Sub σ' br∧I rg' σ'
theorem dH.intro{I:ae→Store→Prop}{ks:List Nat}{rg cC rg':ae}{σ σ':Store}(hk:gI ks rg=some cC)(h:I rg' σ')(hw:eJ cC rg':=by exact Zr)(hs:Sub σ' σ:=by exact Zs):dH I ks rg σ:=⟨cC,hk,rg',σ,σ',hw,.refl _,hs,h⟩
theorem dH.vC{I:ae→Store→Prop}{ks:List Nat}{rg cC rg':ae}{σ br σ':Store}(hk:gI ks rg=some cC)(h:I rg' σ')(ht:kj σ br)(hw:eJ cC rg':=by exact Zr)(hs:Sub σ' br:=by exact Zs):dH I ks rg σ:=⟨cC,hk,rg',br,σ',hw,ht,hs,h⟩
theorem lq{P:Program}[Glob P]{N:Nat}{cfg:Nat→Nat}{Q:Exit→ae→Store→Prop}{a b:AC}{k:List Fr}{rg:ae}{σ:Store}{ks:List Nat}(I:ae→Store→Prop)(h1:WK P N cfg Q a (.fn (dH I ks)::k) rg σ)(h2:∀ rg σ,I rg σ→WK P N cfg Q b k rg σ):WK P N cfg Q (.seq a (.keep ks b)) k rg σ:=by
 refine⟨Ia (h1.h.mono fun e bP σ2 he=> ?_)⟩
 cases e with
 |normal=>
  obtain⟨cC,hf,rg',br,σ',hw,ht,hs,hi⟩:=he
  exact(jQ hf (Da ht (Sh (h2 _ _ hi) hw hs))).h
 |_=>exact he
end Go.Sx
namespace Go.Proofs.YtbihckigennlhaaGreatDoor
open Go.Sx Go.Proofs
section
variable {cfg:Nat→Nat}{ts ah:List Nat}{K:ae→Store→Prop}{E:List PanicEntry→Store→Prop}{σ τ:Store}{l2:List CD}{d b b':Nat}{xr:XR}{ps:List Prop}{og:Option Bool}{args:List Operand}{ys:List AV}{α β:Type}{f:FuncId}{ins yw:Bool}{L:List Tok}{rest cs:List AV}{r:PR α}{val:α→AV}{r2:PR β}{zN:β→AV}
theorem RR{P:Program}[Glob P]{R:dj→Store→Prop}(h:aA xr none args=some (og,ys,ps))(hp:Sx.Spec P f ys σ R)(al:OB ps)(hf:∀ x σ',R (.ret x) σ'→∀ t b l,ts.elem t=false→aN σ t=some (b,.cells l)→aN σ' t=some (b,.cells l))
  (k:∀ x σ',R (.ret x) σ'→VY P cfg ah l2 (Cl K) ((d,.s x)::xr) σ') (e:∀ ch σ',R (.cL ch) σ'→E ch σ'):VY P cfg (ts++ah) [] (qh P cfg ts ah K E d f args l2) xr σ:=by
 obtain⟨hc,he⟩:=bZ h
 have cI:og.getD true=true:=by
  unfold aA gX at h
  obtain⟨bg,h',_,_⟩:=fD h
  split at h'<;>cases h';rfl
 refine⟨R,?_,fun x σ' hr=>⟨hf x σ' hr,(k x σ' hr).h⟩,e⟩
 rw[he al cI];exact hp
theorem xi(hts:ts.elem 1000=true)(h:aA xr none args=some (og,.lp 1000 b 0::ys,ps))(hp:bG f ys ins L r val)(hl:aN σ 1000=some (b',.cells cs))(hb:b=b')(hc:cs=bh L ins++rest)(al:OB ps)
  (he:∀ p c,r= .err p c→r2= .err p c) (hE:∀ ch σ',nt yw rest r2 zN b τ (.cL ch) σ'→E ch σ') (hs:∀ cs',Sub ((1000,b,.cells cs')::τ) (ct σ 1000 b (.cells cs')))
  (k:∀ a L',r= .ok a L'→Gd L'→VY Tryz.prog cfg ah l2 (Cl K) ((d,.s (val a))::xr) (ct σ 1000 b (.cells (bh L' ins++rest)))):VY Tryz.prog cfg (ts++ah) [] (qh Tryz.prog cfg ts ah K E d f args l2) xr σ:=by
 subst hc
 subst hb
 refine RR h (Spec.at (fun cU=>hp b rest cU) hl) al (fun x σ' ⟨cs',hR,e1⟩ t b2 l ht aH=> ?_) (fun x σ' ⟨cs',hR,e1⟩=> ?_) (fun ch σ' ⟨cs',hR,e1⟩=> ?_)
 ·subst e1
  rw[tz hl,if_neg (fun e=>by subst e;rw[hts]at ht;cases ht)]
  exact aH
 ·subst e1
  cases hr:r with
  |ok a L'=>rw[hr]at hR;obtain⟨h1,h2,h3⟩:=hR;cases h2;subst h3;exact k a L' hr h1
  |err p c=>rw[hr]at hR;exact absurd hR (by nofun)
 ·subst e1
  cases hr:r with
  |ok a L'=>rw[hr]at hR;exact absurd hR.2.1 (by nofun)
  |err p c=>
   rw[hr]at hR
   refine hE ch _ (oA ?_ (hs cs'))
   rw[he p c hr]
   exact hR
theorem Rl{P:Program}[Glob P]{t:TypeId}{ag:Nat}{l:List CI}{parts:List Operand}{rows:List (List AV)}(fl:List AV)(n:Nat)(hc:cfg d=2)(h:aA xr none parts=some (og,ys,ps))(hr:rowsOf ag ys=some rows)(al:OB ps)(ib:rows.length=n)(hn:n≤1000000)(hf:rows.flatten=fl)
  (k:∀ b,VX P cfg l K E ((d,.s (.ms d b 0 n n))::xr) ((d,b,.cells fl)::σ)):VX P cfg (⟨some d,.aZ t ag parts,none⟩::l) K E xr σ:=by
 obtain⟨_,he⟩:=bZ h
 have cI:og=none:=by
  unfold aA gX at h
  obtain⟨bg,h',_,_⟩:=fD h
  split at h'<;>cases h';rfl
 subst cI
 subst hf
 subst ib
 constructor
 simp only[dW,di,aj,he al rfl,hr,ZE,hc]
 exact⟨hn,fun b=>(k b).h⟩
end
end Go.Proofs.YtbihckigennlhaaGreatDoor
