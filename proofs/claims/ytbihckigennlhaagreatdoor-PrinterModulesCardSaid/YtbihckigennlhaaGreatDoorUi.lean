/- The reader's methods, walked: expr. -/
import Derived.Test.YtbihckigennlhaaGreatDoorTj
import Derived.Test.YtbihckigennlhaaGreatDoorTz
set_option linter.unusedSimpArgs false
set_option linter.unusedVariables false
set_option maxRecDepth 100000
set_option maxHeartbeats 4000000
namespace Go.Proofs.YtbihckigennlhaaGreatDoor
open Go.Sx Go.Proofs
theorem Si{x y z:Ex}:Wk (.sl true 12 [x.row,y.row,z.row]) (.sl false 12 ([x,y,z].map Ex.cells)):=by
 rw[Ex.oR];exact .sl
theorem Vk{n:Nat}{i:Bool}{x:Ex}{L:List Tok}(hn:8 * L.length+7≤n)(h:¬au 1 fY L=true):dZ n i x L= .ok x L:=by
 obtain⟨k,rfl⟩:∃ k,n=k+1:=⟨n-1,by omega⟩
 rw[dZ,if_neg h]
def DC(x y:Ex):Ex:= .mk 9 ⟨#[]⟩ ⟨#[]⟩ ⟨#[]⟩ v0 [] 0 w0 [x,y]
theorem Vi{n:Nat}{i:Bool}{x:Ex}{L:List Tok}(hL:ck L)(hn:8 * L.length+7≤n)(h:au 1 fY L=true):
  dZ n i x L=(dN n 1 i L.tail).bind fun y L1=>dZ n i (DC x y) L1:=by
 obtain⟨k,rfl⟩:∃ k,n=k+1:=⟨n-1,by omega⟩
 have ht:=hL.tail (cr (k:=1) (by decide) L h)
 rw[dZ,if_pos h,(jY k (k+1)).bin _ i L.tail ht.1 (by omega) (by omega)]
 refine PR.bind_congr fun y L1 e1=> ?_
 have p1:=((kO (k+1)).bin _ i L.tail ht.1).ok y L1 e1
 exact(jY k (k+1)).lz _ _ L1 p1.2.1 (by omega) (by omega)
theorem adW(hw:iQ){n:Nat}(ih:qi n)(i:Bool)(L:List Tok)(hL:Gd L)(hn:8 * L.length+7≤n+1):bG 38 [] i L (bD (n+1) i L) gG:=by
 refine bG.intro fun b1 rest τ=> ?_
 refine Spec.cY (fun _=>0) Tryz.func38 UO V0 (Z8 rfl) ?_
 rw[bD]
 repeat'(first|exact .nil|refine .k0 ?_|refine .k1 ?_|refine .k2 ?_|refine .r1 ?_ ?_|(refine .l1 ?_;intro b)|fail)
 rename Nat=>b2
 refine bI rfl (fX L hL i 1 (by decide) eR) rfl rfl rfl .nil (fun _ _ h=>oC h) (fun _ _ h=>aR h) (fun _=>Zs) (fun a L1 aX bj=> ?_)
 simp(decide:=true)only[aL,aP]
 by_cases hs:au 1 eR L=true
 ·rw[jI hs]at aX;cases aX
  have ht:=hL.tail (cr (k:=1) (by decide) L hs)
  rw[if_pos hs]
  (repeat'(first|exact .nil|refine .k0 ?_|refine .k1 ?_|refine .k2 ?_|(refine .cd ?_ ?_<;>first|with_reducible exact tF|(intro hc;skip))|refine .r1 ?_ ?_|fail))<;>(try(simp at hc;done))
  refine bI rfl (ih.expr i L.tail ht.1 (by omega)) rfl rfl rfl .nil ?_ (fun _ _ h=>aR h) (fun _=>Zs) (fun xa L2 cJ cy=> ?_)
  ·exact fun p c h=>by rw[h];rfl
  have yh:=((kO n).expr i L.tail ht.1.e).ok _ _ cJ
  rw[cJ,PR.aJ]
  simp(decide:=true)only[aL,aP]
  repeat'(first|exact .nil|refine .k0 ?_|refine .k1 ?_|refine .k2 ?_|refine .r1 ?_ ?_|(refine .l1 ?_;intro b)|fail)
  refine bI rfl (Gb hw L2 cy i jo) rfl rfl rfl .nil ?_ (fun _ _ h=>aR h) (fun _=>Zs) (fun a3 L3 nX nF=> ?_)
  ·exact fun p c h=>by rw[h];rfl
  have hp3:=(Pos.bU (k:=1) (s:=jo) (by decide) L2 cy.e).ok _ _ nX
  rw[nX,PR.aJ]
  simp(decide:=true)only[aL,aP]
  repeat'(first|exact .nil|refine .k0 ?_|refine .k1 ?_|refine .k2 ?_|refine .r1 ?_ ?_|fail)
  refine bI rfl (ih.expr i L3 nF (by omega)) rfl rfl rfl .nil ?_ (fun _ _ h=>aR h) (fun _=>Zs) (fun xb L4 hr4 xN=> ?_)
  ·exact fun p c h=>by rw[h];rfl
  have jb:=((kO n).expr i L3 nF.e).ok _ _ hr4
  rw[hr4,PR.aJ]
  simp(decide:=true)only[aL,aP]
  repeat'(first|exact .nil|refine .k0 ?_|refine .k1 ?_|refine .k2 ?_|refine .r1 ?_ ?_|(refine .l1 ?_;intro b)|fail)
  refine bI rfl (Gb hw L4 xN i fI) rfl rfl rfl .nil ?_ (fun _ _ h=>aR h) (fun _=>Zs) (fun a5 L5 hr5 sH=> ?_)
  ·exact fun p c h=>by rw[h];rfl
  have hp5:=(Pos.bU (k:=1) (s:=fI) (by decide) L4 xN.e).ok _ _ hr5
  rw[hr5,PR.aJ]
  simp(decide:=true)only[aL,aP]
  repeat'((fail_if_success (show WK _ _ _ _ (.dr _ _) _ _ _));(first|refine .k0 ?_|refine .k1 ?_|fail))
  refine xj [1000] 19 rfl rfl rfl rfl ?_
  repeat'(first|exact .nil|refine .k0 ?_|refine .r1 ?_ ?_|fail)
  refine xi rfl rfl (ih.expr i L5 sH (by omega)) rfl rfl rfl .nil ?_ (fun _ _ h=>aR h) (fun _=>Zs) (fun xc L6 vw A0=> ?_)
  ·exact fun p c h=>by rw[h];rfl
  rw[vw,PR.aJ]
  simp(decide:=true)only[aL,aP]
  repeat'(first|exact .nil|refine .k0 ?_|refine .k1 ?_|refine .k7 ?_|refine .r1 ?_ ?_|fail)
  ·exact Z8 rfl
  refine dc rfl A0 ?_
  repeat' first|exact Si|exact .refl _|exact .nil|refine .cons ?_ ?_|refine .agg ?_
 ·rw[jH hs]at aX;cases aX
  rw[if_neg hs]
  (repeat'(first|exact .nil|refine .k0 ?_|refine .k1 ?_|refine .k2 ?_|refine .k9 ?_|(refine .cd ?_ ?_<;>first|with_reducible exact fT|(intro hc;skip))|refine .r1 ?_ ?_|fail))<;>(try(simp at hc;done))
  refine bI rfl (ih.bin 1 i L hL (by omega)) rfl rfl rfl .nil ?_ (fun _ _ h=>aR h) (fun _=>Zs) (fun x L1 aX bj=> ?_)
  ·exact fun p c h=>by rw[h];rfl
  have LB:=((kO n).bin 1 i L hL.e).ok _ _ aX
  rw[aX,PR.aJ]
  simp(decide:=true)only[aL,aP]
  repeat'((fail_if_success (show WK _ _ _ _ (.loop _) _ _ _));(first|exact .nil|refine .k0 ?_|refine .k1 ?_|refine .k6 ?_|refine .r1 ?_ ?_|(refine .l1 ?_;intro b)|fail))
  rename Nat=>b5
  refine cQ (fun m rg fm=>∃ σ',kj fm σ'∧∃ (x':Ex) (L':List Tok),Gd L'∧8 * L'.length+7≤n∧m=L'.length∧dZ n i x L1=dZ n i x' L'∧σ'=(5,b5,.cells x'.row)::(2,b2,.cells [iv 0,sv ⟨#[]⟩,sv ⟨#[]⟩,sv ⟨#[]⟩,iv 0,iv 0,sv ⟨#[]⟩,.v (.slice none 0 0),iv 0,iv 0,iv 0,.v (.slice none 0 0)])::(1000,b1,.cells (bh L' i++rest))::τ∧
   rg=[(0,.lp 1000 b1 0),(2,.lp 2 b2 0),(5,.lp 5 b5 0)]) L1.length rfl ⟨_,_,Zr,Zs,_,.refl _,x,L1,bj,by omega,rfl,rfl,rfl,rfl⟩ ?_
  rintro m _ _ ⟨_,ep,x',L',dq,pg,hm,he,rfl,rfl⟩
  refine Da ep ?_
  rw[he]
  repeat'(first|exact .nil|refine .k1 ?_|refine .k2 ?_|refine .r1 ?_ ?_|fail)
  refine bI rfl (fX L' dq i 1 (by decide) fY) rfl rfl rfl .nil (fun _ _ h=>oC h) (fun _ _ h=>aR h) (fun _=>Zs) (fun a L2 cJ cy=> ?_)
  simp(decide:=true)only[aL,aP]
  by_cases ew:au 1 fY L'=true
  ·rw[jI ew]at cJ;cases cJ
   have ht:=dq.tail (cr (k:=1) (by decide) L' ew)
   rw[Vi dq.e pg ew]
   (repeat'((fail_if_success (show WK _ _ _ _ (.dr _ _) _ _ _));(first|refine .k0 ?_|refine .k1 ?_|refine .k6 ?_|refine .k9 ?_|(refine .cd ?_ ?_<;>first|with_reducible exact tF|(intro hc;skip))|fail)))<;>(try(simp at hc;done))
   refine xj [1000] 28 rfl rfl rfl rfl ?_
   repeat'(first|exact .nil|refine .k0 ?_|refine .r1 ?_ ?_|fail)
   refine xi rfl rfl (ih.bin 1 i L'.tail ht.1 (by omega)) rfl rfl rfl .nil ?_ (fun _ _ h=>aR h) (fun _=>Zs) (fun y L2 cJ cy=> ?_)
   ·exact fun p c h=>by rw[h];rfl
   have yh:=((kO n).bin 1 i L'.tail ht.1.e).ok y L2 cJ
   rw[cJ,PR.aJ]
   simp(decide:=true)only[aL,aP]
   repeat'(first|exact .nil|refine .k0 ?_|refine .k1 ?_|refine .k2 ?_|refine .r1 ?_ ?_|fail)
   ·exact Z8 rfl
   have hsz:=List.length_tail (l:=L')
   exact⟨L2.length,by omega,_,_,Zr,Zs,_,.here (l':=(DC x' y).row) (.cons (.refl _) (.cons (.refl _) (.cons (.refl _) (.cons (.refl _) (.cons (.refl _) (.cons (.refl _) (.cons (.refl _) (.cons .nil (.cons (.refl _) (.cons (.refl _) (.cons (.refl _) (.cons Ig .nil)))))))))))) (.refl _),DC x' y,L2,cy,by omega,rfl,rfl,rfl,rfl⟩
  ·rw[jH ew]at cJ;cases cJ
   (repeat'(first|exact .nil|refine .k0 ?_|refine .k1 ?_|refine .k2 ?_|refine .k7 ?_|refine .k8 ?_|(refine .cd ?_ ?_<;>first|with_reducible exact fT|(intro hc;skip))|refine .r1 ?_ ?_|fail))<;>(try(simp at hc;done))
   exact dc (a:=x') (Vk pg ew) dq (.refl _)
end Go.Proofs.YtbihckigennlhaaGreatDoor
set_option linter.unusedSectionVars false
namespace Go.Sx
open Go.RowKit Go.Proofs
section
variable {P:Program}[Glob P]{cfg:Nat→Nat}{K:ae→Store→Prop}{E:List PanicEntry→Store→Prop}{σ σ':Store}{l:List CI}{d:Nat}{xr:XR}{ps:List Prop}{og:Option Bool}{args:List Operand}{ys:List AV}{f:FuncId}{R R':dj→Store→Prop}
theorem iP{fv:AV}{fo:Operand}{a c:Array Value}(h:aA xr none (fo::args)=some (og,fv::ys,ps))(hf:uY fv=some (f,a,c))(bJ:gV P f=true)(hp:Spec P f (a.toList.map .v++ys++c.toList.map .v) σ R)(al:OB ps)
  (k:∀ x σ',R (.ret x) σ'→VX P cfg l K E ((d,.s x)::xr) σ') (e:∀ ch σ',R (.cL ch) σ'→E ch σ'):VX P cfg (⟨some d,.dA fo args,none⟩::l) K E xr σ:=by
 obtain⟨hc,he⟩:=bZ h
 unfold aA gX at h
 obtain⟨bg,h',_,_⟩:=fD h
 have cI:og=none:=by split at h'<;>cases h';rfl
 subst cI
 refine gU hc (fun hg=> ?_) (fun hg=>nomatch hg)
 have:=he al hg
 simp only[aU,ZW]at this
 simp only[aj,this.1,this.2,AR hf]
 exact⟨bJ,R,hp,fun x σ' hr=>(k x σ' hr).h,e⟩
theorem Spec.permA(h:Spec P f ys σ' R)(hp:σ.Perm σ'):Spec P f ys σ R:=fun M w0 w cs hI hl=>h M w0 w cs (hI.perm hp) hl
theorem Spec.adq(h:Spec P f ys σ R)(hq:∀ r σ',R r σ'→∃ σ2,σ'.Perm σ2∧R' r σ2):Spec P f ys σ R':=fun M w0 w cs hI hl=>
 (h M w0 w cs hI hl).mono fun _ _ ⟨M',r,σ',a,b,c,d⟩=>let⟨σ2,h1,h2⟩:=hq r σ' d;⟨M',r,σ2,a,b.perm h1,c,h2⟩
end
end Go.Sx
namespace Go.Proofs.YtbihckigennlhaaGreatDoor
open Go.Sx Go.Proofs
section
variable {cfg:Nat→Nat}{K:ae→Store→Prop}{E:List PanicEntry→Store→Prop}{σ τ:Store}{l:List CI}{d b b':Nat}{xr:XR}{ps:List Prop}{og:Option Bool}{args:List Operand}{ys:List AV}{α:Type}{f:FuncId}{ins:Bool}{L L':List Tok}{rest cs:List AV}{r:PR α}{val:α→AV}{a:α}
theorem nz(h:aA xr none args=some (og,.lp 1000 b 0::ys,ps))(hp:bG f ys ins L r val)(hr:r= .ok a L')(hl:aN σ 1000=some (b',.cells cs))(hb:b=b')(hc:cs=bh L ins++rest)(al:OB ps)
  (k:Gd L'→VX Tryz.prog cfg l K E ((d,.s (val a))::xr) (ct σ 1000 b (.cells (bh L' ins++rest)))):VX Tryz.prog cfg (⟨some d,.call f args,none⟩::l) K E xr σ:=by
 subst hc
 subst hr
 exact ny h hl hb (fun cU=>hp b rest cU) al (fun x cs' hR=>by obtain⟨h1,h2,h3⟩:=hR;cases h2;subst h3;exact k h1) fun ch cs' hR=>absurd hR.2.1 (by nofun)
end
section
variable {α:Type}
def CY(ins:Bool)(rest:List AV)(cK:Store)(r:PR α)(S:α→Store→Prop)(b:Nat)(x:dj)(σ':Store):Prop:=match r with
 | .ok a L'=>∃ cU,S a cU∧Gd L'∧x= .ret (.aI [])∧σ'=(1000,b,.cells (bh L' ins++rest))::cU
 | .err p c=>x= .cL [{v:=sA p c,recovered:=false}]∧∃ L' i',Sub ((1000,b,.cells (bh L' i'++rest))::cK) σ'
def qg(ins:Bool)(rest:List AV)(cK:Store)(r:PR α)(S:α→Store→Prop)(b:Nat)(x:dj)(σ':Store):Prop:=match r with
 | .ok a L'=>∃ cU σ2,S a cU∧Gd L'∧x= .ret (.aI [])∧Sub σ2 σ'∧σ2.Perm ((1000,b,.cells (bh L' ins++rest))::cU)
 | .err p c=>x= .cL [{v:=sA p c,recovered:=false}]∧∃ L' i',Sub ((1000,b,.cells (bh L' i'++rest))::cK) σ'
theorem qg.spec{f:FuncId}{cs:List AV}{σ:Store}{ins:Bool}{rest:List AV}{cK:Store}{r:PR α}{S:α→Store→Prop}{b:Nat}(h:Sx.Spec Tryz.prog f cs σ (qg ins rest cK r S b)):Sx.Spec Tryz.prog f cs σ (CY ins rest cK r S b):=by
 intro M w0 w vs hI hR
 refine(h M w0 w vs hI hR).mono fun e w' ⟨M',x,σ',hM,hI',hx,hq⟩=> ?_
 cases r with
 |ok a L'=>obtain⟨cU,σ2,h1,h2,h3,h4,h5⟩:=hq;exact⟨M',x,_,hM,(hI'.sub h4).perm h5,hx,cU,h1,h2,h3,rfl⟩
 |err p c=>exact⟨M',x,σ',hM,hI',hx,hq⟩
theorem qg.cL{ins:Bool}{rest:List AV}{r:PR α}{S:α→Store→Prop}{b:Nat}{τ cK:Store}(hs:Sub cK τ){val:α→AV}{ch:List PanicEntry}{σ':Store}(h:nt ins rest r val b τ (.cL ch) σ'):qg ins rest cK r S b (.cL ch) σ':=by
 obtain⟨x2,cs',h1,h2,h3⟩:=h
 cases r with
 |ok a L'=>obtain⟨_,e,_⟩:=h1;subst e;exact h3.elim
 |err p c=>obtain⟨e,L',i',rfl⟩:=h1;subst e;exact⟨congrArg _ h3,L',i',(Sub.same hs).trans h2⟩
def HF(el:FuncId)(cs:List AV)(f:List Tok→PR α)(ins:Bool)(b:Nat)(rest:List AV)(cK:Store)(S:List α→Store→Prop):Prop:=∀ (acc:List α) (L:List Tok) (τ:Store),Gd L→acc.length+L.length≤20000→S acc τ→
 Sx.Spec Tryz.prog el cs ((1000,b,.cells (bh L ins++rest))::τ) (CY ins rest cK ((f L).map fun a=>acc++[a]) S b)
theorem acI{sep:af}{f:List Tok→PR α}{k:Nat}{L:List Tok}{acc:List α}(h:¬au 5 sep L=true):j4 sep f k L acc= .ok acc L:=by
 cases k with
 |zero=>rfl
 |succ k=>rw[j4,if_neg h]
theorem acv{f:List Tok→PR α}{el:FuncId}{c:Array Value}{cs:List AV}(bJ:gV Tryz.prog el=true)(hw:bH (c.toList.map .v) cs){ins:Bool}{b:Nat}{rest:List AV}{cK:Store}{S:List α→Store→Prop}(nL:HF el cs f ins b rest cK S)(hf:Pos 1 f)(sep:af)(L:List Tok)(τ:Store)(hL:Gd L)(hS:S [] τ):
  Sx.Spec Tryz.prog 152 [.lp 1000 b 0,sv sep,.v (.func (.func el) #[] c)] ((1000,b,.cells (bh L ins++rest))::τ) (CY ins rest cK (gy sep f L) S b):=by
 refine Spec.cY (fun _=>0) Tryz.func152 UB VM (Z8 rfl) ?_
 unfold gy
 repeat'(first|exact .nil|refine .k1 ?_|refine .k2 ?_|refine .r1 ?_ ?_|fail)
 all_goals(try simp only[BL]at *)
 have hn:=hL.n
 refine iP rfl rfl bJ ((nL [] L τ hL (by simpa using hn) hS).wk hw) .nil (fun x σ' hR=> ?_) (fun ch σ' hR=> ?_)
 rotate_left
 ·refine aR ?_
  cases hr:f L with
  |ok a L1=>rw[hr]at hR;obtain⟨_,_,_,h,_⟩:=hR;cases h
  |err p c=>rw[hr]at hR;exact hR
 cases hr:f L with
 |err p c=>rw[hr]at hR;cases hR.1
 |ok a L1=>
  rw[hr]at hR
  obtain⟨ke,Ef,bj,hx,rfl⟩:=hR
  cases hx
  have LB:=(hf L hL.e).ok a L1 hr
  rw[PR.aJ]
  repeat'((fail_if_success (show WK _ _ _ _ (.loop _) _ _ _));(first|refine .k0 ?_|refine .k1 ?_|refine .k6 ?_|fail))
  refine cQ (fun m rg σ'=>∃ (acc:List α) (L':List Tok) (cU:Store) (k:Nat),Gd L'∧acc.length+L'.length≤20000∧m=L'.length∧L'.length≤k∧S acc cU∧j4 sep f N0 L1 [a]=j4 sep f k L' acc∧σ'=(1000,b,.cells (bh L' ins++rest))::cU∧
   rg=[(0,.lp 1000 b 0),(1,sv sep),(2,.v (.func (.func el) #[] c))]) L1.length rfl ⟨_,_,Zr,Zs,[a],L1,ke,N0,bj,by simp only[Z9,Z4];omega,rfl,by have:=bj.n;show _≤1000000;omega,by simpa using Ef,rfl,rfl,rfl⟩ ?_
  rintro m _ _ ⟨acc,L',cU,k,dq,Xu,hm,hk,KU,he,rfl,rfl⟩
  rw[he]
  repeat'(first|exact .nil|refine .k1 ?_|refine .k2 ?_|refine .r1 ?_ ?_|fail)
  by_cases hs:au 5 sep L'=true
  ·have ht:=dq.tail (cr (k:=5) (by decide) L' hs)
   have hsz:=List.length_tail (l:=L')
   obtain⟨k,rfl⟩:∃ k',k=k'+1:=⟨k-1,by omega⟩
   rw[j4,if_pos hs]
   refine nz rfl (fX L' dq ins 5 (by decide) sep) (jI hs) rfl rfl rfl .nil (fun cy=> ?_)
   simp(decide:=true)only[aL,aP]
   (repeat'(first|exact .nil|refine .k0 ?_|refine .k1 ?_|refine .k2 ?_|refine .k6 ?_|refine .k9 ?_|(refine .cd ?_ ?_<;>first|with_reducible exact tF|(intro hc;skip))|refine .r1 ?_ ?_|fail))<;>(try(simp at hc;done))
   refine iP rfl rfl bJ ((nL acc L'.tail cU ht.1 (by omega) KU).wk hw) .nil (fun x σ' hR=> ?_) (fun ch σ' hR=> ?_)
   rotate_left
   ·refine aR ?_
    cases hr:f L'.tail with
    |ok a L1=>rw[hr]at hR;obtain⟨_,_,_,h,_⟩:=hR;cases h
    |err p c=>rw[hr]at hR;exact hR
   cases hr:f L'.tail with
   |err p c=>rw[hr]at hR;cases hR.1
   |ok a2 L2=>
    rw[hr]at hR
    obtain⟨lh,Xo,cy,hx,rfl⟩:=hR
    cases hx
    have yh:=(hf L'.tail ht.1.e).ok a2 L2 hr
    rw[PR.aJ]
    repeat'(first|refine .k0 ?_|refine .k1 ?_|refine .k2 ?_|fail)
    exact⟨L2.length,by omega,_,_,Zr,Zs,acc++[a2],L2,lh,k,cy,by simp only[Z7,Z9,Z4];omega,rfl,by omega,Xo,rfl,rfl,rfl⟩
  ·refine nz rfl (fX L' dq ins 5 (by decide) sep) (jH hs) rfl rfl rfl .nil (fun cy=> ?_)
   simp(decide:=true)only[aL,aP]
   (repeat'(first|exact .nil|refine .k0 ?_|refine .k1 ?_|refine .k3 ?_|refine .k8 ?_|(refine .cd ?_ ?_<;>first|with_reducible exact fT|(intro hc;skip))|refine .r1 ?_ ?_|fail))<;>(try(simp at hc;done))
   rw[acI hs]
   exact⟨cU,KU,dq,rfl,rfl⟩
end
end Go.Proofs.YtbihckigennlhaaGreatDoor
namespace Go.Sx
open Go.RowKit Go.Proofs
inductive me(b:Nat)(xs:List AV):ae→ae→Prop
 |nil:me b xs [] []
 |p0 {i t:Nat} {r r':ae} (h:me b xs r r'):me b xs ((i,.lp t b 0)::r) ((i,.pc xs)::r')
 |pt {i t o:Nat} {r r':ae} (h:me b xs r r'):me b xs ((i,.lp t b o)::r) ((i,.pc (xs.drop o))::r')
 |same {i:Nat} {x:AV} {r r':ae} (h:me b xs r r'):me b xs ((i,x)::r) ((i,x)::r')
theorem me.lk{b:Nat}{xs:List AV}{r r':ae}(h:me b xs r r')(i:Nat):lk r' i=lk r i∨∃ t o,lk r i= .lp t b o∧lk r' i= .pc (xs.drop o):=by
 induction h with
 |nil=>exact .inl rfl
 | @p0 j t _ _ _ ih=>
  simp only[Sx.lk]
  cases Nat.beq j i with
  |true=>exact .inr ⟨t,0,rfl,rfl⟩
  |false=>exact ih
 | @pt j t o _ _ _ ih=>
  simp only[Sx.lk]
  cases Nat.beq j i with
  |true=>exact .inr ⟨t,o,rfl,rfl⟩
  |false=>exact ih
 | @same j x _ _ _ ih=>
  simp only[Sx.lk]
  cases Nat.beq j i with
  |true=>exact .inl rfl
  |false=>exact ih
section
variable {P:Program}[Glob P]{M:Mem}{w0:Base}{w:World}{σ:Store}
theorem RL.pc{b o:Nat}{xs:List AV}{vs:List Value}(hR:RL M xs vs)(hc:∀ k (h:k<vs.length),M b k=some vs[k]):R M (.pc (xs.drop o)) (.pointer (some ⟨b,o,none⟩)):=by
 refine .pc _ b o (fun k=>vs.getD (o+k) default) (fun k hk=> ?_) (fun k hk=> ?_)
 ·have bY:o+k<vs.length:=by rw[← hR.1];simp at hk;omega
  rw[hc _ bY,Z1,Z6 bY];rfl
 ·have gL:o+k<xs.length:=by simp at hk;omega
  have bY:o+k<vs.length:=by rw[← hR.1];exact gL
  rw[YA,Z1,Z6 bY]
  exact hR.2 _ gL bY
end
theorem SW.WJ{P:Program}[Glob P]{N:Nat}{s:SC}{Q:Exit→ae→Store→Prop}{rg rg':ae}{σ σ':Store}{t b:Nat}{xs:List AV}(hs:oI t b xs σ σ')(hr:me b xs rg rg')(h:SW P N s Q rg' σ'):SW P N s Q rg σ:=by
 intro c hc M w0 a w hI hR hN hD
 obtain⟨M',vs,hM,hI',fa,hcell⟩:=(hI.perm hs.perm).freeze
 refine DA (h c hc M' w0 a w hI' (fun i=> ?_) hN hD) fun _ _ _ ⟨M2,bP,σ2,h1,h2⟩=>⟨M2,bP,σ2,hM.trans h1,h2⟩
 have h1:=(hR i).mono hM
 rcases hr.lk i with e|⟨t',o,e1,e2⟩
 ·rw[e];exact h1
 ·rw[e1]at h1
  rw[e2]
  have h2:=h1.mQ
  rw[h2]
  exact RL.pc fa hcell
theorem C6{P:Program}[Glob P]{N:Nat}{cfg:Nat→Nat}{Q:Exit→ae→Store→Prop}{a:AC}{k:List Fr}{rg rg':ae}{σ σ':Store}(t b:Nat){xs:List AV}(hs:oI t b xs σ σ')(hr:me b xs rg rg')(h:WK P N cfg Q a k rg' σ'):WK P N cfg Q a k rg σ:=⟨⟨rfl,SW.WJ hs hr h.h.h⟩⟩
end Go.Sx
namespace Go.Proofs.YtbihckigennlhaaGreatDoor
open Go.Sx Go.Proofs
def iM(n:Nat):AV:= .v (.int .u8 (n:Nat))
def jU:List AV:=(List.range 256).map fun i=>iM (aC (UInt8.ofNat i))
def oz(c:Nat):List UInt8→List AV→List AV
 |[],l=>l
 |b::s,l=>oz c s (l.set b.toNat (iM c))
theorem mV(c:Nat):∀ (s:List UInt8) (l:List AV),(oz c s l).length=l.length
 |[],_=>rfl
 |b::s,l=>by rw[oz,mV c s,List.length_set]
theorem NW(c:Nat)(b:UInt8):∀ (s:List UInt8) (l:List AV),oz c (s++[b]) l=(oz c s l).set b.toNat (iM c)
 |[],_=>rfl
 |a::s,l=>by rw[ZD,oz,oz,NW c b s]
theorem adm{l:List AV}{i:Nat}(h:i<l.length)(x:AV):over l i [x]=l.set i x:=by
 unfold over
 rw[List.set_eq_take_append_cons_drop,if_pos h]
 simp
theorem T8{s:af}{i:Nat}(h:i<s.data.toList.length):bB s i=s.data.toList[i]:=by
 unfold bB
 rw[Z1,Z6 h];rfl
theorem rj(s:af)(hs:s.size≤1000)(c:Nat)(b:Nat)(l:List AV)(hl:l.length=256)(τ:Store):
  Sx.Spec Tryz.prog 92 [sv s,iM c,.lp 1 b 0] ((1,b,.cells l)::τ) fun x σ'=>x= .ret (.aI [])∧σ'=(1,b,.cells (oz c s.data.toList l))::τ:=by
 refine Spec.cY (fun i=>bif Nat.beq i 1000015 then 1 else 0) Tryz.func92 UX V8 (Z8 rfl) ?_
 unfold iM
 repeat'(first|exact .nil|refine .k0 ?_|refine .k1 ?_|refine .k2 ?_|refine .k6 ?_|refine .r1 ?_ ?_|fail)
 all_goals(try simp only[BL]at *)
 refine cQ (fun m rg σ'=>∃ i:Nat,i≤s.size∧m=s.size-i∧σ'=(1,b,.cells (oz c (s.data.toList.take i) l))::τ∧rg=[(0,sv s),(1,.v (.int .u8 (c:Nat))),(2,.lp 1 b 0),(7,iv s.size),(8,iv i)]) s.size rfl ⟨_,_,Zr,Zs,0,ZK _,rfl,rfl,rfl⟩ ?_
 rintro m _ _ ⟨i,hi,hm,rfl,rfl⟩
 repeat'(first|exact .nil|refine .k0 ?_|refine .k1 ?_|refine .k2 ?_|refine .k3 ?_|refine .k6 ?_|refine .k8 ?_|refine .k9 ?_|(refine .cd ?_ ?_<;>(intro hc;skip))|refine .r1 ?_ ?_|refine .t5 ?_ ?_ ?_|refine .r2 ?_ ?_|fail)
 try any_goals(exact Zo)
 all_goals(try simp only[BL]at *)
 ·have:=(bB s i).toNat_lt;exact⟨by omega,by show _<(256:Int);omega⟩
 ·have bz:i<s.data.toList.length:=by
   have:s.data.toList.length=s.size:=rfl
   omega
  have hb:bB s i=s.data.toList[i]:=T8 bz
  have iW:=(bB s i).toNat_lt
  refine nA (cs':=oz c (s.data.toList.take (i+1)) l) rfl rfl rfl rfl rfl ⟨?_,?_⟩ .nil ?_
  ·rw[Zv bz,NW,← hb,← adm (by rw[mV];omega)]
   simp[iM]
  ·rw[mV,hl];simp;omega
  simp(decide:=true)only[aL,aP]
  repeat'(first|exact .nil|refine .k0 ?_|refine .k1 ?_|refine .k2 ?_|refine .r1 ?_ ?_|fail)
  exact⟨m-1,by omega,_,_,Zr,Zs,i+1,by omega,by omega,rfl,by rw[eD (n:=s.size) (by omega) (by unfold maxLen;omega)]⟩
 ·have bz:i=s.size:=by omega
  subst bz
  have:s.data.toList.length=s.size:=rfl
  exact⟨trivial,by rw[← this,List.take_length]⟩
def nc:List AV:=List.replicate 256 (iM 0)
theorem Jn:Pure Tryz.prog 47 [] (.agg jU):=by
 refine Pure.cY (fun i=>bif Nat.beq i 1000001 then 1 else bif Nat.beq i 1000000 then 1 else 0) Tryz.func47 UP V1 (Z8 rfl) fun σ=> ?_
 first|refine .k1 ?_|fail
 first|refine .k2 ?_|fail
 refine xh (cs:=nc) rfl (fun b0=> ?_)
 repeat'((fail_if_success (show WK _ _ _ _ _ _ _ _));(first|refine .k0 ?_|refine .k1 ?_|fail))
 first|refine .k0 ?_|fail
 first|refine .k1 ?_|fail
 first|refine .k2 ?_|fail
 refine xh (cs:=nc) rfl (fun b1=> ?_)
 repeat'((fail_if_success (show WK _ _ _ _ _ _ _ _));(first|refine .k0 ?_|refine .k1 ?_|fail))
 repeat'(first|exact .nil|refine .k0 ?_|refine .k1 ?_|refine .k2 ?_|refine .r1 ?_ ?_|fail)
 refine iP rfl rfl (by rfl) ((rj ⟨#[9,10,13,32]⟩ (by decide) 1 b1 _ (by simp only[mV,nc,YW]) _).wk (.cons (.refl _) (.cons (.refl _) (.cons .raw .nil)))) .nil (fun x σ' hR=> ?_) (fun ch σ' hR=>absurd hR.1 (by nofun))
 obtain⟨e,rfl⟩:=hR
 cases e
 repeat'(first|exact .nil|refine .k0 ?_|refine .k1 ?_|refine .k2 ?_|refine .r1 ?_ ?_|fail)
 refine iP rfl rfl (by rfl) ((rj ⟨#[97,98,99,100,101,102,103,104,105,106,107,108,109,110,111,112,113,114,115,116,117,118,119,120,121,122]⟩ (by decide) 2 b1 _ (by simp only[mV,nc,YW]) _).wk (.cons (.refl _) (.cons (.refl _) (.cons .raw .nil)))) .nil (fun x σ' hR=> ?_) (fun ch σ' hR=>absurd hR.1 (by nofun))
 obtain⟨e,rfl⟩:=hR
 cases e
 repeat'(first|exact .nil|refine .k0 ?_|refine .k1 ?_|refine .k2 ?_|refine .r1 ?_ ?_|fail)
 refine iP rfl rfl (by rfl) ((rj ⟨#[48,49,50,51,52,53,54,55,56,57]⟩ (by decide) 3 b1 _ (by simp only[mV,nc,YW]) _).wk (.cons (.refl _) (.cons (.refl _) (.cons .raw .nil)))) .nil (fun x σ' hR=> ?_) (fun ch σ' hR=>absurd hR.1 (by nofun))
 obtain⟨e,rfl⟩:=hR
 cases e
 repeat'(first|exact .nil|refine .k0 ?_|refine .k1 ?_|refine .k2 ?_|refine .r1 ?_ ?_|fail)
 refine iP rfl rfl (by rfl) ((rj ⟨#[95]⟩ (by decide) 4 b1 _ (by simp only[mV,nc,YW]) _).wk (.cons (.refl _) (.cons (.refl _) (.cons .raw .nil)))) .nil (fun x σ' hR=> ?_) (fun ch σ' hR=>absurd hR.1 (by nofun))
 obtain⟨e,rfl⟩:=hR
 cases e
 repeat'(first|exact .nil|refine .k0 ?_|refine .k1 ?_|refine .k2 ?_|refine .r1 ?_ ?_|fail)
 refine iP rfl rfl (by rfl) ((rj ⟨#[34]⟩ (by decide) 5 b1 _ (by simp only[mV,nc,YW]) _).wk (.cons (.refl _) (.cons (.refl _) (.cons .raw .nil)))) .nil (fun x σ' hR=> ?_) (fun ch σ' hR=>absurd hR.1 (by nofun))
 obtain⟨e,rfl⟩:=hR
 cases e
 repeat'(first|exact .nil|refine .k0 ?_|refine .k1 ?_|refine .k2 ?_|refine .r1 ?_ ?_|fail)
 refine iP rfl rfl (by rfl) ((rj ⟨#[35]⟩ (by decide) 6 b1 _ (by simp only[mV,nc,YW]) _).wk (.cons (.refl _) (.cons (.refl _) (.cons .raw .nil)))) .nil (fun x σ' hR=> ?_) (fun ch σ' hR=>absurd hR.1 (by nofun))
 obtain⟨e,rfl⟩:=hR
 cases e
 repeat'(first|exact .nil|refine .k0 ?_|refine .k1 ?_|refine .k2 ?_|refine .r1 ?_ ?_|fail)
 refine iP rfl rfl (by rfl) ((rj ⟨#[123,125,40,41,91,93,44,58,59,61,60,43,45,42,47,94,64]⟩ (by decide) 7 b1 _ (by simp only[mV,nc,YW]) _).wk (.cons (.refl _) (.cons (.refl _) (.cons .raw .nil)))) .nil (fun x σ' hR=> ?_) (fun ch σ' hR=>absurd hR.1 (by nofun))
 obtain⟨e,rfl⟩:=hR
 cases e
 repeat'(first|exact .nil|refine .k0 ?_|refine .k1 ?_|refine .k2 ?_|refine .r1 ?_ ?_|fail)
 refine iP rfl rfl (by rfl) ((rj ⟨#[33]⟩ (by decide) 8 b1 _ (by simp only[mV,nc,YW]) _).wk (.cons (.refl _) (.cons (.refl _) (.cons .raw .nil)))) .nil (fun x σ' hR=> ?_) (fun ch σ' hR=>absurd hR.1 (by nofun))
 obtain⟨e,rfl⟩:=hR
 cases e
 repeat'(first|exact .nil|refine .k0 ?_|refine .k1 ?_|refine .k2 ?_|refine .k7 ?_|refine .r1 ?_ ?_|refine .r8 ?_ ?_|fail)
 refine Sx.Fin.wk Zs (.mS ?_)
 kernel_rfl
end Go.Proofs.YtbihckigennlhaaGreatDoor
