/- The reader's methods, walked: expr. -/
import Derived.Test.YtbihckigennlhaaGreatDoorTj
import Derived.Test.YtbihckigennlhaaGreatDoorTz
set_option linter.unusedSimpArgs false
set_option linter.unusedVariables false
set_option maxRecDepth 100000
set_option maxHeartbeats 4000000
namespace Go.Proofs.YtbihckigennlhaaGreatDoor
open Go.Sx Go.Proofs
theorem P2{x y z:Ex}:Wk (.sl true 12 [x.row,y.row,z.row]) (.sl false 12 ([x,y,z].map Ex.cells)):=by
 rw[Ex.nR];exact .sl
theorem Sw{n:Nat}{i:Bool}{x:Ex}{L:List Tok}(hn:8 * L.length+7≤n)(h:¬ar 1 fB L=true):dq n i x L= .ok x L:=by
 obtain⟨k,rfl⟩:∃ k,n=k+1:=⟨n-1,by omega⟩
 rw[dq,if_neg h]
def Cc(x y:Ex):Ex:= .mk 9 ⟨#[]⟩ ⟨#[]⟩ ⟨#[]⟩ v0 [] 0 w0 [x,y]
theorem Su{n:Nat}{i:Bool}{x:Ex}{L:List Tok}(hL:bF L)(hn:8 * L.length+7≤n)(h:ar 1 fB L=true):
  dq n i x L=(dm n 1 i L.tail).bind fun y L1=>dq n i (Cc x y) L1:=by
 obtain⟨k,rfl⟩:∃ k,n=k+1:=⟨n-1,by omega⟩
 have ht:=hL.tail (bJ (k:=1) (by decide) L h)
 rw[dq,if_pos h,(jq k (k+1)).bin _ i L.tail ht.1 (by omega) (by omega)]
 refine PR.bind_congr fun y L1 e1=> ?_
 have p1:=((jz (k+1)).bin _ i L.tail ht.1).ok y L1 e1
 exact(jq k (k+1)).iP _ _ L1 p1.2.1 (by omega) (by omega)
theorem abP(hw:ib){n:Nat}(ih:o5 n)(i:Bool)(L:List Tok)(hL:Gd L)(hn:8 * L.length+7≤n+1):bC 38 [] i L (bj (n+1) i L) gh:=by
 refine bC.intro fun b1 rest τ=> ?_
 refine Spec.cN (fun _=>0) Tryz.func38 R0 Te (Z9 rfl) ?_
 rw[bj]
 repeat'(first|exact .nil|refine .k0 ?_|refine .k1 ?_|refine .k2 ?_|refine .r1 ?_ ?_|(refine .l1 ?_;intro b)|fail)
 rename Nat=>b2
 refine bG rfl (fA L hL i 1 (by decide) ew) rfl rfl rfl .nil (fun _ _ h=>nD h) (fun _ _ h=>aP h) (fun _=>Zs) (fun a L1 aU bg=> ?_)
 simp(decide:=true)only[aH,aN]
 by_cases hs:ar 1 ew L=true
 ·rw[ja hs]at aU;cases aU
  have ht:=hL.tail (bJ (k:=1) (by decide) L hs)
  rw[if_pos hs]
  (repeat'(first|exact .nil|refine .k0 ?_|refine .k1 ?_|refine .k2 ?_|(refine .cd ?_ ?_<;>first|with_reducible exact tF|(intro hc;skip))|refine .r1 ?_ ?_|fail))<;>(try(simp at hc;done))
  refine bG rfl (ih.expr i L.tail ht.1 (by omega)) rfl rfl rfl .nil ?_ (fun _ _ h=>aP h) (fun _=>Zs) (fun xa L2 cI cq=> ?_)
  ·exact fun p c h=>by rw[h];rfl
  have Dl:=((jz n).expr i L.tail ht.1.e).ok _ _ cI
  rw[cI,PR.aD]
  simp(decide:=true)only[aH,aN]
  repeat'(first|exact .nil|refine .k0 ?_|refine .k1 ?_|refine .k2 ?_|refine .r1 ?_ ?_|(refine .l1 ?_;intro b)|fail)
  refine bG rfl (Ep hw L2 cq i je) rfl rfl rfl .nil ?_ (fun _ _ h=>aP h) (fun _=>Zs) (fun a3 L3 mZ mI=> ?_)
  ·exact fun p c h=>by rw[h];rfl
  have hp3:=(Pos.bK (k:=1) (s:=je) (by decide) L2 cq.e).ok _ _ mZ
  rw[mZ,PR.aD]
  simp(decide:=true)only[aH,aN]
  repeat'(first|exact .nil|refine .k0 ?_|refine .k1 ?_|refine .k2 ?_|refine .r1 ?_ ?_|fail)
  refine bG rfl (ih.expr i L3 mI (by omega)) rfl rfl rfl .nil ?_ (fun _ _ h=>aP h) (fun _=>Zs) (fun xb L4 ur wy=> ?_)
  ·exact fun p c h=>by rw[h];rfl
  have iz:=((jz n).expr i L3 mI.e).ok _ _ ur
  rw[ur,PR.aD]
  simp(decide:=true)only[aH,aN]
  repeat'(first|exact .nil|refine .k0 ?_|refine .k1 ?_|refine .k2 ?_|refine .r1 ?_ ?_|(refine .l1 ?_;intro b)|fail)
  refine bG rfl (Ep hw L4 wy i fC) rfl rfl rfl .nil ?_ (fun _ _ h=>aP h) (fun _=>Zs) (fun a5 L5 rI qY=> ?_)
  ·exact fun p c h=>by rw[h];rfl
  have hp5:=(Pos.bK (k:=1) (s:=fC) (by decide) L4 wy.e).ok _ _ rI
  rw[rI,PR.aD]
  simp(decide:=true)only[aH,aN]
  repeat'((fail_if_success (show WK _ _ _ _ (.c8 _ _) _ _ _));(first|refine .k0 ?_|refine .k1 ?_|fail))
  refine vN [1000] 19 rfl rfl rfl rfl ?_
  repeat'(first|exact .nil|refine .k0 ?_|refine .r1 ?_ ?_|fail)
  refine vM rfl rfl (ih.expr i L5 qY (by omega)) rfl rfl rfl .nil ?_ (fun _ _ h=>aP h) (fun _=>Zs) (fun xc L6 uv y0=> ?_)
  ·exact fun p c h=>by rw[h];rfl
  rw[uv,PR.aD]
  simp(decide:=true)only[aH,aN]
  repeat'(first|exact .nil|refine .k0 ?_|refine .k1 ?_|refine .k7 ?_|refine .r1 ?_ ?_|fail)
  ·exact Z9 rfl
  refine cQ rfl y0 ?_
  repeat' first|exact P2|exact .refl _|exact .nil|refine .cons ?_ ?_|refine .agg ?_
 ·rw[iZ hs]at aU;cases aU
  rw[if_neg hs]
  (repeat'(first|exact .nil|refine .k0 ?_|refine .k1 ?_|refine .k2 ?_|refine .k9 ?_|(refine .cd ?_ ?_<;>first|with_reducible exact fT|(intro hc;skip))|refine .r1 ?_ ?_|fail))<;>(try(simp at hc;done))
  refine bG rfl (ih.bin 1 i L hL (by omega)) rfl rfl rfl .nil ?_ (fun _ _ h=>aP h) (fun _=>Zs) (fun x L1 aU bg=> ?_)
  ·exact fun p c h=>by rw[h];rfl
  have JS:=((jz n).bin 1 i L hL.e).ok _ _ aU
  rw[aU,PR.aD]
  simp(decide:=true)only[aH,aN]
  repeat'((fail_if_success (show WK _ _ _ _ (.loop _) _ _ _));(first|exact .nil|refine .k0 ?_|refine .k1 ?_|refine .k6 ?_|refine .r1 ?_ ?_|(refine .l1 ?_;intro b)|fail))
  rename Nat=>b5
  refine dU (fun m rg eS=>∃ σ',jG eS σ'∧∃ (x':Ex) (L':List Tok),Gd L'∧8 * L'.length+7≤n∧m=L'.length∧dq n i x L1=dq n i x' L'∧σ'=(5,b5,.cells x'.row)::(2,b2,.cells [iv 0,sv ⟨#[]⟩,sv ⟨#[]⟩,sv ⟨#[]⟩,iv 0,iv 0,sv ⟨#[]⟩,.v (.slice none 0 0),iv 0,iv 0,iv 0,.v (.slice none 0 0)])::(1000,b1,.cells (aZ L' i++rest))::τ∧
   rg=[(0,.lp 1000 b1 0),(2,.lp 2 b2 0),(5,.lp 5 b5 0)]) L1.length rfl ⟨_,_,Zr,Zs,_,.refl _,x,L1,bg,by omega,rfl,rfl,rfl,rfl⟩ ?_
  rintro m _ _ ⟨_,dW,x',L',cZ,om,hm,he,rfl,rfl⟩
  refine BI dW ?_
  rw[he]
  repeat'(first|exact .nil|refine .k1 ?_|refine .k2 ?_|refine .r1 ?_ ?_|fail)
  refine bG rfl (fA L' cZ i 1 (by decide) fB) rfl rfl rfl .nil (fun _ _ h=>nD h) (fun _ _ h=>aP h) (fun _=>Zs) (fun a L2 cI cq=> ?_)
  simp(decide:=true)only[aH,aN]
  by_cases dz:ar 1 fB L'=true
  ·rw[ja dz]at cI;cases cI
   have ht:=cZ.tail (bJ (k:=1) (by decide) L' dz)
   rw[Su cZ.e om dz]
   (repeat'((fail_if_success (show WK _ _ _ _ (.c8 _ _) _ _ _));(first|refine .k0 ?_|refine .k1 ?_|refine .k6 ?_|refine .k9 ?_|(refine .cd ?_ ?_<;>first|with_reducible exact tF|(intro hc;skip))|fail)))<;>(try(simp at hc;done))
   refine vN [1000] 28 rfl rfl rfl rfl ?_
   repeat'(first|exact .nil|refine .k0 ?_|refine .r1 ?_ ?_|fail)
   refine vM rfl rfl (ih.bin 1 i L'.tail ht.1 (by omega)) rfl rfl rfl .nil ?_ (fun _ _ h=>aP h) (fun _=>Zs) (fun y L2 cI cq=> ?_)
   ·exact fun p c h=>by rw[h];rfl
   have Dl:=((jz n).bin 1 i L'.tail ht.1.e).ok y L2 cI
   rw[cI,PR.aD]
   simp(decide:=true)only[aH,aN]
   repeat'(first|exact .nil|refine .k0 ?_|refine .k1 ?_|refine .k2 ?_|refine .r1 ?_ ?_|fail)
   ·exact Z9 rfl
   have aT:=List.length_tail (l:=L')
   exact⟨L2.length,by omega,_,_,Zr,Zs,_,.here (l':=(Cc x' y).row) (.cons (.refl _) (.cons (.refl _) (.cons (.refl _) (.cons (.refl _) (.cons (.refl _) (.cons (.refl _) (.cons (.refl _) (.cons .nil (.cons (.refl _) (.cons (.refl _) (.cons (.refl _) (.cons Gj .nil)))))))))))) (.refl _),Cc x' y,L2,cq,by omega,rfl,rfl,rfl,rfl⟩
  ·rw[iZ dz]at cI;cases cI
   (repeat'(first|exact .nil|refine .k0 ?_|refine .k1 ?_|refine .k2 ?_|refine .k7 ?_|refine .k8 ?_|(refine .cd ?_ ?_<;>first|with_reducible exact fT|(intro hc;skip))|refine .r1 ?_ ?_|fail))<;>(try(simp at hc;done))
   exact cQ (a:=x') (Sw om dz) cZ (.refl _)
end Go.Proofs.YtbihckigennlhaaGreatDoor
set_option linter.unusedSectionVars false
namespace Go.Sx
open Go.RowKit Go.Proofs
section
variable {P:Program}[Glob P]{cfg:Nat→Nat}{K:ae→Store→Prop}{E:List PanicEntry→Store→Prop}{σ σ':Store}{l:List CI}{d:Nat}{xr:XR}{ps:List Prop}{og:Option Bool}{args:List Operand}{ys:List AV}{f:FuncId}{R R':cU→Store→Prop}
theorem hY{fv:AV}{fo:Operand}{a c:Array Value}(h:ay xr none (fo::args)=some (og,fv::ys,ps))(hf:tJ fv=some (f,a,c))(bI:gx P f=true)(hp:Spec P f (a.toList.map .v++ys++c.toList.map .v) σ R)(al:OB ps)
  (k:∀ x σ',R (.ret x) σ'→VX P cfg l K E ((d,.s x)::xr) σ') (e:∀ ch σ',R (.cC ch) σ'→E ch σ'):VX P cfg (⟨some d,.dp fo args,none⟩::l) K E xr σ:=by
 obtain⟨hc,he⟩:=bY h
 unfold ay gX at h
 obtain⟨aX,h',_,_⟩:=fb h
 have cA:og=none:=by split at h'<;>cases h';rfl
 subst cA
 refine gP hc (fun hg=> ?_) (fun hg=>nomatch hg)
 have:=he al hg
 simp only[aQ,ZY]at this
 simp only[aj,this.1,this.2,yT hf]
 exact⟨bI,R,hp,fun x σ' hr=>(k x σ' hr).h,e⟩
theorem Spec.permA(h:Spec P f ys σ' R)(hp:σ.Perm σ'):Spec P f ys σ R:=fun M w0 w cs hI hl=>h M w0 w cs (hI.perm hp) hl
theorem Spec.abl(h:Spec P f ys σ R)(hq:∀ r σ',R r σ'→∃ aw,σ'.Perm aw∧R' r aw):Spec P f ys σ R':=fun M w0 w cs hI hl=>
 (h M w0 w cs hI hl).mono fun _ _ ⟨M',r,σ',a,b,c,d⟩=>let⟨aw,h1,h2⟩:=hq r σ' d;⟨M',r,aw,a,b.perm h1,c,h2⟩
end
end Go.Sx
namespace Go.Proofs.YtbihckigennlhaaGreatDoor
open Go.Sx Go.Proofs
section
variable {cfg:Nat→Nat}{K:ae→Store→Prop}{E:List PanicEntry→Store→Prop}{σ τ:Store}{l:List CI}{d b b':Nat}{xr:XR}{ps:List Prop}{og:Option Bool}{args:List Operand}{ys:List AV}{α:Type}{f:FuncId}{ins:Bool}{L L':List Tok}{rest cs:List AV}{r:PR α}{val:α→AV}{a:α}
theorem mA(h:ay xr none args=some (og,.lp 1000 b 0::ys,ps))(hp:bC f ys ins L r val)(hr:r= .ok a L')(hl:aK σ 1000=some (b',.cells cs))(hb:b=b')(hc:cs=aZ L ins++rest)(al:OB ps)
  (k:Gd L'→VX Tryz.prog cfg l K E ((d,.s (val a))::xr) (ck σ 1000 b (.cells (aZ L' ins++rest)))):VX Tryz.prog cfg (⟨some d,.call f args,none⟩::l) K E xr σ:=by
 subst hc
 subst hr
 exact mz h hl hb (fun cL=>hp b rest cL) al (fun x cs' hR=>by obtain⟨h1,h2,h3⟩:=hR;cases h2;subst h3;exact k h1) fun ch cs' hR=>absurd hR.2.1 (by nofun)
end
section
variable {α:Type}
def Bu(ins:Bool)(rest:List AV)(cB:Store)(r:PR α)(S:α→Store→Prop)(b:Nat)(x:cU)(σ':Store):Prop:=match r with
 | .ok a L'=>∃ cL,S a cL∧Gd L'∧x= .ret (.aL [])∧σ'=(1000,b,.cells (aZ L' ins++rest))::cL
 | .err p c=>x= .cC [{v:=qS p c,recovered:=false}]∧∃ L' i',Sub ((1000,b,.cells (aZ L' i'++rest))::cB) σ'
def o0(ins:Bool)(rest:List AV)(cB:Store)(r:PR α)(S:α→Store→Prop)(b:Nat)(x:cU)(σ':Store):Prop:=match r with
 | .ok a L'=>∃ cL aw,S a cL∧Gd L'∧x= .ret (.aL [])∧Sub aw σ'∧aw.Perm ((1000,b,.cells (aZ L' ins++rest))::cL)
 | .err p c=>x= .cC [{v:=qS p c,recovered:=false}]∧∃ L' i',Sub ((1000,b,.cells (aZ L' i'++rest))::cB) σ'
theorem o0.spec{f:FuncId}{cs:List AV}{σ:Store}{ins:Bool}{rest:List AV}{cB:Store}{r:PR α}{S:α→Store→Prop}{b:Nat}(h:Sx.Spec Tryz.prog f cs σ (o0 ins rest cB r S b)):Sx.Spec Tryz.prog f cs σ (Bu ins rest cB r S b):=by
 intro M w0 w vs hI hR
 refine(h M w0 w vs hI hR).mono fun e w' ⟨M',x,σ',hM,bo,hx,hq⟩=> ?_
 cases r with
 |ok a L'=>obtain⟨cL,aw,h1,h2,h3,h4,h5⟩:=hq;exact⟨M',x,_,hM,(bo.sub h4).perm h5,hx,cL,h1,h2,h3,rfl⟩
 |err p c=>exact⟨M',x,σ',hM,bo,hx,hq⟩
theorem o0.cC{ins:Bool}{rest:List AV}{r:PR α}{S:α→Store→Prop}{b:Nat}{τ cB:Store}(hs:Sub cB τ){val:α→AV}{ch:List PanicEntry}{σ':Store}(h:mu ins rest r val b τ (.cC ch) σ'):o0 ins rest cB r S b (.cC ch) σ':=by
 obtain⟨x2,cs',h1,h2,h3⟩:=h
 cases r with
 |ok a L'=>obtain⟨_,e,_⟩:=h1;subst e;exact h3.elim
 |err p c=>obtain⟨e,L',i',rfl⟩:=h1;subst e;exact⟨congrArg _ h3,L',i',(Sub.same hs).trans h2⟩
def FM(el:FuncId)(cs:List AV)(f:List Tok→PR α)(ins:Bool)(b:Nat)(rest:List AV)(cB:Store)(S:List α→Store→Prop):Prop:=∀ (acc:List α) (L:List Tok) (τ:Store),Gd L→acc.length+L.length≤20000→S acc τ→
 Sx.Spec Tryz.prog el cs ((1000,b,.cells (aZ L ins++rest))::τ) (Bu ins rest cB ((f L).map fun a=>acc++[a]) S b)
theorem aaC{sep:ag}{f:List Tok→PR α}{k:Nat}{L:List Tok}{acc:List α}(h:¬ar 5 sep L=true):jv sep f k L acc= .ok acc L:=by
 cases k with
 |zero=>rfl
 |succ k=>rw[jv,if_neg h]
theorem aaq{f:List Tok→PR α}{el:FuncId}{c:Array Value}{cs:List AV}(bI:gx Tryz.prog el=true)(hw:bD (c.toList.map .v) cs){ins:Bool}{b:Nat}{rest:List AV}{cB:Store}{S:List α→Store→Prop}(mN:FM el cs f ins b rest cB S)(hf:Pos 1 f)(sep:ag)(L:List Tok)(τ:Store)(hL:Gd L)(hS:S [] τ):
  Sx.Spec Tryz.prog 152 [.lp 1000 b 0,sv sep,.v (.func (.func el) #[] c)] ((1000,b,.cells (aZ L ins++rest))::τ) (Bu ins rest cB (fX sep f L) S b):=by
 refine Spec.cN (fun _=>0) Tryz.func152 RM S2 (Z9 rfl) ?_
 unfold fX
 repeat'(first|exact .nil|refine .k1 ?_|refine .k2 ?_|refine .r1 ?_ ?_|fail)
 all_goals(try simp only[BL]at *)
 have hn:=hL.n
 refine hY rfl rfl bI ((mN [] L τ hL (by simpa using hn) hS).wk hw) .nil (fun x σ' hR=> ?_) (fun ch σ' hR=> ?_)
 rotate_left
 ·refine aP ?_
  cases hr:f L with
  |ok a L1=>rw[hr]at hR;obtain⟨_,_,_,h,_⟩:=hR;cases h
  |err p c=>rw[hr]at hR;exact hR
 cases hr:f L with
 |err p c=>rw[hr]at hR;cases hR.1
 |ok a L1=>
  rw[hr]at hR
  obtain⟨jE,CN,bg,hx,rfl⟩:=hR
  cases hx
  have JS:=(hf L hL.e).ok a L1 hr
  rw[PR.aD]
  repeat'((fail_if_success (show WK _ _ _ _ (.loop _) _ _ _));(first|refine .k0 ?_|refine .k1 ?_|refine .k6 ?_|fail))
  refine dU (fun m rg σ'=>∃ (acc:List α) (L':List Tok) (cL:Store) (k:Nat),Gd L'∧acc.length+L'.length≤20000∧m=L'.length∧L'.length≤k∧S acc cL∧jv sep f N0 L1 [a]=jv sep f k L' acc∧σ'=(1000,b,.cells (aZ L' ins++rest))::cL∧
   rg=[(0,.lp 1000 b 0),(1,sv sep),(2,.v (.func (.func el) #[] c))]) L1.length rfl ⟨_,_,Zr,Zs,[a],L1,jE,N0,bg,by simp only[Z8,Z2];omega,rfl,by have:=bg.n;show _≤1000000;omega,by simpa using CN,rfl,rfl,rfl⟩ ?_
  rintro m _ _ ⟨acc,L',cL,k,cZ,UE,hm,hk,Jg,he,rfl,rfl⟩
  rw[he]
  repeat'(first|exact .nil|refine .k1 ?_|refine .k2 ?_|refine .r1 ?_ ?_|fail)
  by_cases hs:ar 5 sep L'=true
  ·have ht:=cZ.tail (bJ (k:=5) (by decide) L' hs)
   have aT:=List.length_tail (l:=L')
   obtain⟨k,rfl⟩:∃ k',k=k'+1:=⟨k-1,by omega⟩
   rw[jv,if_pos hs]
   refine mA rfl (fA L' cZ ins 5 (by decide) sep) (ja hs) rfl rfl rfl .nil (fun cq=> ?_)
   simp(decide:=true)only[aH,aN]
   (repeat'(first|exact .nil|refine .k0 ?_|refine .k1 ?_|refine .k2 ?_|refine .k6 ?_|refine .k9 ?_|(refine .cd ?_ ?_<;>first|with_reducible exact tF|(intro hc;skip))|refine .r1 ?_ ?_|fail))<;>(try(simp at hc;done))
   refine hY rfl rfl bI ((mN acc L'.tail cL ht.1 (by omega) Jg).wk hw) .nil (fun x σ' hR=> ?_) (fun ch σ' hR=> ?_)
   rotate_left
   ·refine aP ?_
    cases hr:f L'.tail with
    |ok a L1=>rw[hr]at hR;obtain⟨_,_,_,h,_⟩:=hR;cases h
    |err p c=>rw[hr]at hR;exact hR
   cases hr:f L'.tail with
   |err p c=>rw[hr]at hR;cases hR.1
   |ok a2 L2=>
    rw[hr]at hR
    obtain⟨j9,Uz,cq,hx,rfl⟩:=hR
    cases hx
    have Dl:=(hf L'.tail ht.1.e).ok a2 L2 hr
    rw[PR.aD]
    repeat'(first|refine .k0 ?_|refine .k1 ?_|refine .k2 ?_|fail)
    exact⟨L2.length,by omega,_,_,Zr,Zs,acc++[a2],L2,j9,k,cq,by simp only[Z7,Z8,Z2];omega,rfl,by omega,Uz,rfl,rfl,rfl⟩
  ·refine mA rfl (fA L' cZ ins 5 (by decide) sep) (iZ hs) rfl rfl rfl .nil (fun cq=> ?_)
   simp(decide:=true)only[aH,aN]
   (repeat'(first|exact .nil|refine .k0 ?_|refine .k1 ?_|refine .k3 ?_|refine .k8 ?_|(refine .cd ?_ ?_<;>first|with_reducible exact fT|(intro hc;skip))|refine .r1 ?_ ?_|fail))<;>(try(simp at hc;done))
   rw[aaC hs]
   exact⟨cL,Jg,cZ,rfl,rfl⟩
end
end Go.Proofs.YtbihckigennlhaaGreatDoor
namespace Go.Sx
open Go.RowKit Go.Proofs
inductive kZ(b:Nat)(xs:List AV):ae→ae→Prop
 |nil:kZ b xs [] []
 |p0 {i t:Nat} {r r':ae} (h:kZ b xs r r'):kZ b xs ((i,.lp t b 0)::r) ((i,.pc xs)::r')
 |pt {i t o:Nat} {r r':ae} (h:kZ b xs r r'):kZ b xs ((i,.lp t b o)::r) ((i,.pc (xs.drop o))::r')
 |same {i:Nat} {x:AV} {r r':ae} (h:kZ b xs r r'):kZ b xs ((i,x)::r) ((i,x)::r')
theorem kZ.lk{b:Nat}{xs:List AV}{r r':ae}(h:kZ b xs r r')(i:Nat):lk r' i=lk r i∨∃ t o,lk r i= .lp t b o∧lk r' i= .pc (xs.drop o):=by
 induction h with
 |nil=>exact .inl rfl
 | @p0 j t _ _ _ ih=>
  simp only[Sx.lk]
  cases Nat.beq j i with
  |true=>exact .inr ⟨t,0,rfl,rfl⟩
  |false=>exact ih
 | @pt j t o _ _ _ ih=>
  simp only[Sx.lk]
  cases Nat.beq j i with
  |true=>exact .inr ⟨t,o,rfl,rfl⟩
  |false=>exact ih
 | @same j x _ _ _ ih=>
  simp only[Sx.lk]
  cases Nat.beq j i with
  |true=>exact .inl rfl
  |false=>exact ih
section
variable {P:Program}[Glob P]{M:Mem}{w0:Base}{w:World}{σ:Store}
theorem RL.pc{b o:Nat}{xs:List AV}{vs:List Value}(hR:RL M xs vs)(hc:∀ k (h:k<vs.length),M b k=some vs[k]):R M (.pc (xs.drop o)) (.pointer (some ⟨b,o,none⟩)):=by
 refine .pc _ b o (fun k=>vs.getD (o+k) default) (fun k hk=> ?_) (fun k hk=> ?_)
 ·have bU:o+k<vs.length:=by rw[← hR.1];simp at hk;omega
  rw[hc _ bU,ZV,Z1 bU];rfl
 ·have gU:o+k<xs.length:=by simp at hk;omega
  have bU:o+k<vs.length:=by rw[← hR.1];exact gU
  rw[Yu,ZV,Z1 bU]
  exact hR.2 _ gU bU
end
theorem SW.TV{P:Program}[Glob P]{N:Nat}{s:SC}{Q:Exit→ae→Store→Prop}{rg ao:ae}{σ σ':Store}{t b:Nat}{xs:List AV}(hs:nJ t b xs σ σ')(hr:kZ b xs rg ao)(h:SW P N s Q ao σ'):SW P N s Q rg σ:=by
 intro c hc M w0 a w hI hR hN hD
 obtain⟨M',vs,hM,bo,eE,hcell⟩:=(hI.perm hs.perm).freeze
 refine Ca (h c hc M' w0 a w bo (fun i=> ?_) hN hD) fun _ _ _ ⟨M2,bP,aw,h1,h2⟩=>⟨M2,bP,aw,hM.trans h1,h2⟩
 have h1:=(hR i).mono hM
 rcases hr.lk i with e|⟨t',o,e1,e2⟩
 ·rw[e];exact h1
 ·rw[e1]at h1
  rw[e2]
  have h2:=h1.lX
  rw[h2]
  exact RL.pc eE hcell
theorem BD{P:Program}[Glob P]{N:Nat}{cfg:Nat→Nat}{Q:Exit→ae→Store→Prop}{a:AC}{k:List Fr}{rg ao:ae}{σ σ':Store}(t b:Nat){xs:List AV}(hs:nJ t b xs σ σ')(hr:kZ b xs rg ao)(h:WK P N cfg Q a k ao σ'):WK P N cfg Q a k rg σ:=⟨⟨rfl,SW.TV hs hr h.h.h⟩⟩
end Go.Sx
namespace Go.Proofs.YtbihckigennlhaaGreatDoor
open Go.Sx Go.Proofs
def gZ(n:Nat):AV:= .v (.int .u8 (n:Nat))
def jm:List AV:=(List.range 256).map fun i=>gZ (aB (UInt8.ofNat i))
def nA(c:Nat):List UInt8→List AV→List AV
 |[],l=>l
 |b::s,l=>nA c s (l.set b.toNat (gZ c))
theorem l8(c:Nat):∀ (s:List UInt8) (l:List AV),(nA c s l).length=l.length
 |[],_=>rfl
 |b::s,l=>by rw[nA,l8 c s,List.length_set]
theorem LD(c:Nat)(b:UInt8):∀ (s:List UInt8) (l:List AV),nA c (s++[b]) l=(nA c s l).set b.toNat (gZ c)
 |[],_=>rfl
 |a::s,l=>by rw[ZH,nA,nA,LD c b s]
theorem aa9{l:List AV}{i:Nat}(h:i<l.length)(x:AV):over l i [x]=l.set i x:=by
 unfold over
 rw[List.set_eq_take_append_cons_drop,if_pos h]
 simp
theorem Rj{s:ag}{i:Nat}(h:i<s.data.toList.length):bH s i=s.data.toList[i]:=by
 unfold bH
 rw[ZV,Z1 h];rfl
theorem qd(s:ag)(hs:s.size≤1000)(c:Nat)(b:Nat)(l:List AV)(hl:l.length=256)(τ:Store):
  Sx.Spec Tryz.prog 92 [sv s,gZ c,.lp 1 b 0] ((1,b,.cells l)::τ) fun x σ'=>x= .ret (.aL [])∧σ'=(1,b,.cells (nA c s.data.toList l))::τ:=by
 refine Spec.cN (fun i=>bif Nat.beq i 1000015 then 1 else 0) Tryz.func92 R8 Tm (Z9 rfl) ?_
 unfold gZ
 repeat'(first|exact .nil|refine .k0 ?_|refine .k1 ?_|refine .k2 ?_|refine .k6 ?_|refine .r1 ?_ ?_|fail)
 all_goals(try simp only[BL]at *)
 refine dU (fun m rg σ'=>∃ i:Nat,i≤s.size∧m=s.size-i∧σ'=(1,b,.cells (nA c (s.data.toList.take i) l))::τ∧rg=[(0,sv s),(1,.v (.int .u8 (c:Nat))),(2,.lp 1 b 0),(7,iv s.size),(8,iv i)]) s.size rfl ⟨_,_,Zr,Zs,0,ZF _,rfl,rfl,rfl⟩ ?_
 rintro m _ _ ⟨i,hi,hm,rfl,rfl⟩
 repeat'(first|exact .nil|refine .k0 ?_|refine .k1 ?_|refine .k2 ?_|refine .k3 ?_|refine .k6 ?_|refine .k8 ?_|refine .k9 ?_|(refine .cd ?_ ?_<;>(intro hc;skip))|refine .r1 ?_ ?_|refine .t5 ?_ ?_ ?_|refine .r2 ?_ ?_|fail)
 try any_goals(exact Zo)
 all_goals(try simp only[BL]at *)
 ·have:=(bH s i).toNat_lt;exact⟨by omega,by show _<(256:Int);omega⟩
 ·have br:i<s.data.toList.length:=by
   have:s.data.toList.length=s.size:=rfl
   omega
  have hb:bH s i=s.data.toList[i]:=Rj br
  have il:=(bH s i).toNat_lt
  refine mB (cs':=nA c (s.data.toList.take (i+1)) l) rfl rfl rfl rfl rfl ⟨?_,?_⟩ .nil ?_
  ·rw[Zt br,LD,← hb,← aa9 (by rw[l8];omega)]
   simp[gZ]
  ·rw[l8,hl];simp;omega
  simp(decide:=true)only[aH,aN]
  repeat'(first|exact .nil|refine .k0 ?_|refine .k1 ?_|refine .k2 ?_|refine .r1 ?_ ?_|fail)
  exact⟨m-1,by omega,_,_,Zr,Zs,i+1,by omega,by omega,rfl,by rw[fL (n:=s.size) (by omega) (by unfold maxLen;omega)]⟩
 ·have br:i=s.size:=by omega
  subst br
  have:s.data.toList.length=s.size:=rfl
  exact⟨trivial,by rw[← this,List.take_length]⟩
def ml:List AV:=List.replicate 256 (gZ 0)
theorem Hu:Pure Tryz.prog 47 [] (.agg jm):=by
 refine Pure.cN (fun i=>bif Nat.beq i 1000001 then 1 else bif Nat.beq i 1000000 then 1 else 0) Tryz.func47 R1 Tf (Z9 rfl) fun σ=> ?_
 first|refine .k1 ?_|fail
 first|refine .k2 ?_|fail
 refine vL (cs:=ml) rfl (fun b0=> ?_)
 repeat'((fail_if_success (show WK _ _ _ _ _ _ _ _));(first|refine .k0 ?_|refine .k1 ?_|fail))
 first|refine .k0 ?_|fail
 first|refine .k1 ?_|fail
 first|refine .k2 ?_|fail
 refine vL (cs:=ml) rfl (fun b1=> ?_)
 repeat'((fail_if_success (show WK _ _ _ _ _ _ _ _));(first|refine .k0 ?_|refine .k1 ?_|fail))
 repeat'(first|exact .nil|refine .k0 ?_|refine .k1 ?_|refine .k2 ?_|refine .r1 ?_ ?_|fail)
 refine hY rfl rfl (by rfl) ((qd ⟨#[9,10,13,32]⟩ (by decide) 1 b1 _ (by simp only[l8,ml,Y6]) _).wk (.cons (.refl _) (.cons (.refl _) (.cons .raw .nil)))) .nil (fun x σ' hR=> ?_) (fun ch σ' hR=>absurd hR.1 (by nofun))
 obtain⟨e,rfl⟩:=hR
 cases e
 repeat'(first|exact .nil|refine .k0 ?_|refine .k1 ?_|refine .k2 ?_|refine .r1 ?_ ?_|fail)
 refine hY rfl rfl (by rfl) ((qd ⟨#[97,98,99,100,101,102,103,104,105,106,107,108,109,110,111,112,113,114,115,116,117,118,119,120,121,122]⟩ (by decide) 2 b1 _ (by simp only[l8,ml,Y6]) _).wk (.cons (.refl _) (.cons (.refl _) (.cons .raw .nil)))) .nil (fun x σ' hR=> ?_) (fun ch σ' hR=>absurd hR.1 (by nofun))
 obtain⟨e,rfl⟩:=hR
 cases e
 repeat'(first|exact .nil|refine .k0 ?_|refine .k1 ?_|refine .k2 ?_|refine .r1 ?_ ?_|fail)
 refine hY rfl rfl (by rfl) ((qd ⟨#[48,49,50,51,52,53,54,55,56,57]⟩ (by decide) 3 b1 _ (by simp only[l8,ml,Y6]) _).wk (.cons (.refl _) (.cons (.refl _) (.cons .raw .nil)))) .nil (fun x σ' hR=> ?_) (fun ch σ' hR=>absurd hR.1 (by nofun))
 obtain⟨e,rfl⟩:=hR
 cases e
 repeat'(first|exact .nil|refine .k0 ?_|refine .k1 ?_|refine .k2 ?_|refine .r1 ?_ ?_|fail)
 refine hY rfl rfl (by rfl) ((qd ⟨#[95]⟩ (by decide) 4 b1 _ (by simp only[l8,ml,Y6]) _).wk (.cons (.refl _) (.cons (.refl _) (.cons .raw .nil)))) .nil (fun x σ' hR=> ?_) (fun ch σ' hR=>absurd hR.1 (by nofun))
 obtain⟨e,rfl⟩:=hR
 cases e
 repeat'(first|exact .nil|refine .k0 ?_|refine .k1 ?_|refine .k2 ?_|refine .r1 ?_ ?_|fail)
 refine hY rfl rfl (by rfl) ((qd ⟨#[34]⟩ (by decide) 5 b1 _ (by simp only[l8,ml,Y6]) _).wk (.cons (.refl _) (.cons (.refl _) (.cons .raw .nil)))) .nil (fun x σ' hR=> ?_) (fun ch σ' hR=>absurd hR.1 (by nofun))
 obtain⟨e,rfl⟩:=hR
 cases e
 repeat'(first|exact .nil|refine .k0 ?_|refine .k1 ?_|refine .k2 ?_|refine .r1 ?_ ?_|fail)
 refine hY rfl rfl (by rfl) ((qd ⟨#[35]⟩ (by decide) 6 b1 _ (by simp only[l8,ml,Y6]) _).wk (.cons (.refl _) (.cons (.refl _) (.cons .raw .nil)))) .nil (fun x σ' hR=> ?_) (fun ch σ' hR=>absurd hR.1 (by nofun))
 obtain⟨e,rfl⟩:=hR
 cases e
 repeat'(first|exact .nil|refine .k0 ?_|refine .k1 ?_|refine .k2 ?_|refine .r1 ?_ ?_|fail)
 refine hY rfl rfl (by rfl) ((qd ⟨#[123,125,40,41,91,93,44,58,59,61,60,43,45,42,47,94,64]⟩ (by decide) 7 b1 _ (by simp only[l8,ml,Y6]) _).wk (.cons (.refl _) (.cons (.refl _) (.cons .raw .nil)))) .nil (fun x σ' hR=> ?_) (fun ch σ' hR=>absurd hR.1 (by nofun))
 obtain⟨e,rfl⟩:=hR
 cases e
 repeat'(first|exact .nil|refine .k0 ?_|refine .k1 ?_|refine .k2 ?_|refine .r1 ?_ ?_|fail)
 refine hY rfl rfl (by rfl) ((qd ⟨#[33]⟩ (by decide) 8 b1 _ (by simp only[l8,ml,Y6]) _).wk (.cons (.refl _) (.cons (.refl _) (.cons .raw .nil)))) .nil (fun x σ' hR=> ?_) (fun ch σ' hR=>absurd hR.1 (by nofun))
 obtain⟨e,rfl⟩:=hR
 cases e
 repeat'(first|exact .nil|refine .k0 ?_|refine .k1 ?_|refine .k2 ?_|refine .k7 ?_|refine .r1 ?_ ?_|refine .r8 ?_ ?_|fail)
 refine Sx.Fin.wk Zs (.lY ?_)
 kernel_rfl
end Go.Proofs.YtbihckigennlhaaGreatDoor
