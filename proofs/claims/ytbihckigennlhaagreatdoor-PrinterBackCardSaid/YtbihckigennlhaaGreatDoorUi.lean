/- The reader's methods, walked: expr. -/
import Derived.Test.YtbihckigennlhaaGreatDoorTj
import Derived.Test.YtbihckigennlhaaGreatDoorTz
set_option linter.unusedSimpArgs false
set_option linter.unusedVariables false
set_option maxRecDepth 100000
set_option maxHeartbeats 4000000
namespace Go.Proofs.YtbihckigennlhaaGreatDoor
open Go.Sx Go.Proofs
theorem Wk_three{x y z:Ex}:Wk (.sl true 12 [x.row,y.row,z.row]) (.sl false 12 ([x,y,z].map Ex.cells)):=by
 rw[Ex.cells_row];exact .sl
theorem def_stop{n:Nat}{i:Bool}{x:Ex}{L:List Tok}(hn:8 * L.length+7≤n)(h:¬see 1 wDef L=true):defP n i x L= .ok x L:=by
 obtain⟨k,rfl⟩:∃ k,n=k+1:=⟨n-1,by omega⟩
 rw[defP,if_neg h]
def defE(x y:Ex):Ex:= .mk 9 ⟨#[]⟩ ⟨#[]⟩ ⟨#[]⟩ v0 [] 0 w0 [x,y]
theorem def_go{n:Nat}{i:Bool}{x:Ex}{L:List Tok}(hL:EndL L)(hn:8 * L.length+7≤n)(h:see 1 wDef L=true):
  defP n i x L=(binP n 1 i L.tail).bind fun y L1=>defP n i (defE x y) L1:=by
 obtain⟨k,rfl⟩:∃ k,n=k+1:=⟨n-1,by omega⟩
 have ht:=hL.tail (see_kind (k:=1) (by decide) L h)
 rw[defP,if_pos h,(fuE k (k+1)).bin _ i L.tail ht.1 (by omega) (by omega)]
 refine PR.bind_congr fun y L1 e1=> ?_
 have p1:=((posE (k+1)).bin _ i L.tail ht.1).ok y L1 e1
 exact(fuE k (k+1)).def_ _ _ L1 p1.2.1 (by omega) (by omega)
theorem rd_expr(hw:WrongOk){n:Nat}(ih:RecOk n)(i:Bool)(L:List Tok)(hL:Gd L)(hn:8 * L.length+7≤n+1):RdS 38 [] i L (exprP (n+1) i L) exV:=by
 refine RdS.intro fun b1 rest τ=> ?_
 refine Spec.runk (fun _=>0) Tryz.func38 comp38 era38 (Nat.le_of_ble_eq_true rfl) ?_
 rw[exprP]
 repeat'(first|exact .nil|refine .k0 ?_|refine .k1 ?_|refine .k2 ?_|refine .r1 ?_ ?_|(refine .l1 ?_;intro b)|fail)
 rename Nat=>b2
 refine VX_rdc rfl (rd_skip L hL i 1 (by decide) wIf) rfl rfl rfl .nil (fun _ _ h=>skipP_err h) (fun _ _ h=>FK_pan h) (fun _=>Zs) (fun a L1 hr1 hL1=> ?_)
 simp(decide:=true)only[upt_hd,upt_ne]
 by_cases hs:see 1 wIf L=true
 ·rw[skipP_t hs]at hr1;cases hr1
  have ht:=hL.tail (see_kind (k:=1) (by decide) L hs)
  rw[if_pos hs]
  (repeat'(first|exact .nil|refine .k0 ?_|refine .k1 ?_|refine .k2 ?_|(refine .cd ?_ ?_<;>first|with_reducible exact tF|(intro hc;skip))|refine .r1 ?_ ?_|fail))<;>(try(simp at hc;done))
  refine VX_rdc rfl (ih.expr i L.tail ht.1 (by omega)) rfl rfl rfl .nil ?_ (fun _ _ h=>FK_pan h) (fun _=>Zs) (fun xa L2 hr2 hL2=> ?_)
  ·exact fun p c h=>by rw[h];rfl
  have hp2:=((posE n).expr i L.tail ht.1.e).ok _ _ hr2
  rw[hr2,PR.bind_ok]
  simp(decide:=true)only[upt_hd,upt_ne]
  repeat'(first|exact .nil|refine .k0 ?_|refine .k1 ?_|refine .k2 ?_|refine .r1 ?_ ?_|(refine .l1 ?_;intro b)|fail)
  refine VX_rdc rfl (rd_keyword hw L2 hL2 i wThen) rfl rfl rfl .nil ?_ (fun _ _ h=>FK_pan h) (fun _=>Zs) (fun a3 L3 hr3 hL3=> ?_)
  ·exact fun p c h=>by rw[h];rfl
  have hp3:=(Pos.need (k:=1) (s:=wThen) (by decide) L2 hL2.e).ok _ _ hr3
  rw[hr3,PR.bind_ok]
  simp(decide:=true)only[upt_hd,upt_ne]
  repeat'(first|exact .nil|refine .k0 ?_|refine .k1 ?_|refine .k2 ?_|refine .r1 ?_ ?_|fail)
  refine VX_rdc rfl (ih.expr i L3 hL3 (by omega)) rfl rfl rfl .nil ?_ (fun _ _ h=>FK_pan h) (fun _=>Zs) (fun xb L4 hr4 hL4=> ?_)
  ·exact fun p c h=>by rw[h];rfl
  have hp4:=((posE n).expr i L3 hL3.e).ok _ _ hr4
  rw[hr4,PR.bind_ok]
  simp(decide:=true)only[upt_hd,upt_ne]
  repeat'(first|exact .nil|refine .k0 ?_|refine .k1 ?_|refine .k2 ?_|refine .r1 ?_ ?_|(refine .l1 ?_;intro b)|fail)
  refine VX_rdc rfl (rd_keyword hw L4 hL4 i wElse) rfl rfl rfl .nil ?_ (fun _ _ h=>FK_pan h) (fun _=>Zs) (fun a5 L5 hr5 hL5=> ?_)
  ·exact fun p c h=>by rw[h];rfl
  have hp5:=(Pos.need (k:=1) (s:=wElse) (by decide) L4 hL4.e).ok _ _ hr5
  rw[hr5,PR.bind_ok]
  simp(decide:=true)only[upt_hd,upt_ne]
  repeat'((fail_if_success (show WK _ _ _ _ (.mreg _ _) _ _ _));(first|refine .k0 ?_|refine .k1 ?_|fail))
  refine WK_mregC [1000] 19 rfl rfl rfl rfl ?_
  repeat'(first|exact .nil|refine .k0 ?_|refine .r1 ?_ ?_|fail)
  refine VY_rdc rfl rfl (ih.expr i L5 hL5 (by omega)) rfl rfl rfl .nil ?_ (fun _ _ h=>FK_pan h) (fun _=>Zs) (fun xc L6 hr6 hL6=> ?_)
  ·exact fun p c h=>by rw[h];rfl
  rw[hr6,PR.bind_ok]
  simp(decide:=true)only[upt_hd,upt_ne]
  repeat'(first|exact .nil|refine .k0 ?_|refine .k1 ?_|refine .k7 ?_|refine .r1 ?_ ?_|fail)
  ·exact Nat.le_of_ble_eq_true rfl
  refine rd_ret rfl hL6 ?_
  repeat' first|exact Wk_three|exact .refl _|exact .nil|refine .cons ?_ ?_|refine .agg ?_
 ·rw[skipP_f hs]at hr1;cases hr1
  rw[if_neg hs]
  (repeat'(first|exact .nil|refine .k0 ?_|refine .k1 ?_|refine .k2 ?_|refine .k9 ?_|(refine .cd ?_ ?_<;>first|with_reducible exact fT|(intro hc;skip))|refine .r1 ?_ ?_|fail))<;>(try(simp at hc;done))
  refine VX_rdc rfl (ih.bin 1 i L hL (by omega)) rfl rfl rfl .nil ?_ (fun _ _ h=>FK_pan h) (fun _=>Zs) (fun x L1 hr1 hL1=> ?_)
  ·exact fun p c h=>by rw[h];rfl
  have hp1:=((posE n).bin 1 i L hL.e).ok _ _ hr1
  rw[hr1,PR.bind_ok]
  simp(decide:=true)only[upt_hd,upt_ne]
  repeat'((fail_if_success (show WK _ _ _ _ (.loop _) _ _ _));(first|exact .nil|refine .k0 ?_|refine .k1 ?_|refine .k6 ?_|refine .r1 ?_ ?_|(refine .l1 ?_;intro b)|fail))
  rename Nat=>b5
  refine WK_loop (fun m rg σ0=>∃ σ',StW σ0 σ'∧∃ (x':Ex) (L':List Tok),Gd L'∧8 * L'.length+7≤n∧m=L'.length∧defP n i x L1=defP n i x' L'∧σ'=(5,b5,.cells x'.row)::(2,b2,.cells [iv 0,sv ⟨#[]⟩,sv ⟨#[]⟩,sv ⟨#[]⟩,iv 0,iv 0,sv ⟨#[]⟩,.v (.slice none 0 0),iv 0,iv 0,iv 0,.v (.slice none 0 0)])::(1000,b1,.cells (rdC L' i++rest))::τ∧
   rg=[(0,.lp 1000 b1 0),(2,.lp 2 b2 0),(5,.lp 5 b5 0)]) L1.length rfl ⟨_,_,Zr,Zs,_,.refl _,x,L1,hL1,by omega,rfl,rfl,rfl,rfl⟩ ?_
  rintro m _ _ ⟨_,hst,x',L',hL',hn',hm,he,rfl,rfl⟩
  refine WK_stw hst ?_
  rw[he]
  repeat'(first|exact .nil|refine .k1 ?_|refine .k2 ?_|refine .r1 ?_ ?_|fail)
  refine VX_rdc rfl (rd_skip L' hL' i 1 (by decide) wDef) rfl rfl rfl .nil (fun _ _ h=>skipP_err h) (fun _ _ h=>FK_pan h) (fun _=>Zs) (fun a L2 hr2 hL2=> ?_)
  simp(decide:=true)only[upt_hd,upt_ne]
  by_cases hs2:see 1 wDef L'=true
  ·rw[skipP_t hs2]at hr2;cases hr2
   have ht:=hL'.tail (see_kind (k:=1) (by decide) L' hs2)
   rw[def_go hL'.e hn' hs2]
   (repeat'((fail_if_success (show WK _ _ _ _ (.mreg _ _) _ _ _));(first|refine .k0 ?_|refine .k1 ?_|refine .k6 ?_|refine .k9 ?_|(refine .cd ?_ ?_<;>first|with_reducible exact tF|(intro hc;skip))|fail)))<;>(try(simp at hc;done))
   refine WK_mregC [1000] 28 rfl rfl rfl rfl ?_
   repeat'(first|exact .nil|refine .k0 ?_|refine .r1 ?_ ?_|fail)
   refine VY_rdc rfl rfl (ih.bin 1 i L'.tail ht.1 (by omega)) rfl rfl rfl .nil ?_ (fun _ _ h=>FK_pan h) (fun _=>Zs) (fun y L2 hr2 hL2=> ?_)
   ·exact fun p c h=>by rw[h];rfl
   have hp2:=((posE n).bin 1 i L'.tail ht.1.e).ok y L2 hr2
   rw[hr2,PR.bind_ok]
   simp(decide:=true)only[upt_hd,upt_ne]
   repeat'(first|exact .nil|refine .k0 ?_|refine .k1 ?_|refine .k2 ?_|refine .r1 ?_ ?_|fail)
   ·exact Nat.le_of_ble_eq_true rfl
   have hsz:=List.length_tail (l:=L')
   exact⟨L2.length,by omega,_,_,Zr,Zs,_,.here (l':=(defE x' y).row) (.cons (.refl _) (.cons (.refl _) (.cons (.refl _) (.cons (.refl _) (.cons (.refl _) (.cons (.refl _) (.cons (.refl _) (.cons .nil (.cons (.refl _) (.cons (.refl _) (.cons (.refl _) (.cons Wk_two .nil)))))))))))) (.refl _),defE x' y,L2,hL2,by omega,rfl,rfl,rfl,rfl⟩
  ·rw[skipP_f hs2]at hr2;cases hr2
   (repeat'(first|exact .nil|refine .k0 ?_|refine .k1 ?_|refine .k2 ?_|refine .k7 ?_|refine .k8 ?_|(refine .cd ?_ ?_<;>first|with_reducible exact fT|(intro hc;skip))|refine .r1 ?_ ?_|fail))<;>(try(simp at hc;done))
   exact rd_ret (a:=x') (def_stop hn' hs2) hL' (.refl _)
end Go.Proofs.YtbihckigennlhaaGreatDoor
set_option linter.unusedSectionVars false
namespace Go.Sx
open Go.RowKit Go.Proofs
section
variable {P:Program}[Glob P]{cfg:Nat→Nat}{K:Regs→Store→Prop}{E:List PanicEntry→Store→Prop}{σ σ':Store}{l:List CI}{d:Nat}{xr:XR}{ps:List Prop}{og:Option Bool}{args:List Operand}{ys:List AV}{f:FuncId}{R R':Res→Store→Prop}
theorem VX_specv{fv:AV}{fo:Operand}{a c:Array Value}(h:argO xr none (fo::args)=some (og,fv::ys,ps))(hf:fnO fv=some (f,a,c))(hcl:callable P f=true)(hp:Spec P f (a.toList.map .v++ys++c.toList.map .v) σ R)(hps:OB ps)
  (k:∀ x σ',R (.ret x) σ'→VX P cfg l K E ((d,.s x)::xr) σ') (e:∀ ch σ',R (.pan ch) σ'→E ch σ'):VX P cfg (⟨some d,.callv fo args,none⟩::l) K E xr σ:=by
 obtain⟨hc,he⟩:=argO_eq h
 unfold argO gX at h
 obtain⟨ps',h',_,_⟩:=needs_eq h
 have hog:og=none:=by split at h'<;>cases h';rfl
 subst hog
 refine VX_gen hc (fun hg=> ?_) (fun hg=>nomatch hg)
 have:=he hps hg
 simp only[evs,List.cons.injEq]at this
 simp only[vcO,this.1,this.2,fnO_eq hf]
 exact⟨hcl,R,hp,fun x σ' hr=>(k x σ' hr).h,e⟩
theorem Spec.permA(h:Spec P f ys σ' R)(hp:σ.Perm σ'):Spec P f ys σ R:=fun M w0 w cs hI hl=>h M w0 w cs (hI.perm hp) hl
theorem Spec.permR(h:Spec P f ys σ R)(hq:∀ r σ',R r σ'→∃ σ2,σ'.Perm σ2∧R' r σ2):Spec P f ys σ R':=fun M w0 w cs hI hl=>
 (h M w0 w cs hI hl).mono fun _ _ ⟨M',r,σ',a,b,c,d⟩=>let⟨σ2,h1,h2⟩:=hq r σ' d;⟨M',r,σ2,a,b.perm h1,c,h2⟩
end
end Go.Sx
namespace Go.Proofs.YtbihckigennlhaaGreatDoor
open Go.Sx Go.Proofs
section
variable {cfg:Nat→Nat}{K:Regs→Store→Prop}{E:List PanicEntry→Store→Prop}{σ τ:Store}{l:List CI}{d b b':Nat}{xr:XR}{ps:List Prop}{og:Option Bool}{args:List Operand}{ys:List AV}{α:Type}{f:FuncId}{ins:Bool}{L L':List Tok}{rest cs:List AV}{r:PR α}{val:α→AV}{a:α}
theorem VX_rdo(h:argO xr none args=some (og,.lp 1000 b 0::ys,ps))(hp:RdS f ys ins L r val)(hr:r= .ok a L')(hl:lkt σ 1000=some (b',.cells cs))(hb:b=b')(hc:cs=rdC L ins++rest)(hps:OB ps)
  (k:Gd L'→VX Tryz.prog cfg l K E ((d,.s (val a))::xr) (upt σ 1000 b (.cells (rdC L' ins++rest)))):VX Tryz.prog cfg (⟨some d,.call f args,none⟩::l) K E xr σ:=by
 subst hc
 subst hr
 exact VX_rd h hl hb (fun τ'=>hp b rest τ') hps (fun x cs' hR=>by obtain⟨h1,h2,h3⟩:=hR;cases h2;subst h3;exact k h1) fun ch cs' hR=>absurd hR.2.1 (by nofun)
end
section
variable {α:Type}
def LiR(ins:Bool)(rest:List AV)(τ0:Store)(r:PR α)(S:α→Store→Prop)(b:Nat)(x:Res)(σ':Store):Prop:=match r with
 | .ok a L'=>∃ τ',S a τ'∧Gd L'∧x= .ret (.tup [])∧σ'=(1000,b,.cells (rdC L' ins++rest))::τ'
 | .err p c=>x= .pan [{v:=fltV p c,recovered:=false}]∧∃ L' i',Sub ((1000,b,.cells (rdC L' i'++rest))::τ0) σ'
def LiF(ins:Bool)(rest:List AV)(τ0:Store)(r:PR α)(S:α→Store→Prop)(b:Nat)(x:Res)(σ':Store):Prop:=match r with
 | .ok a L'=>∃ τ' σ2,S a τ'∧Gd L'∧x= .ret (.tup [])∧Sub σ2 σ'∧σ2.Perm ((1000,b,.cells (rdC L' ins++rest))::τ')
 | .err p c=>x= .pan [{v:=fltV p c,recovered:=false}]∧∃ L' i',Sub ((1000,b,.cells (rdC L' i'++rest))::τ0) σ'
theorem LiF.spec{f:FuncId}{cs:List AV}{σ:Store}{ins:Bool}{rest:List AV}{τ0:Store}{r:PR α}{S:α→Store→Prop}{b:Nat}(h:Sx.Spec Tryz.prog f cs σ (LiF ins rest τ0 r S b)):Sx.Spec Tryz.prog f cs σ (LiR ins rest τ0 r S b):=by
 intro M w0 w vs hI hR
 refine(h M w0 w vs hI hR).mono fun e w' ⟨M',x,σ',hM,hI',hx,hq⟩=> ?_
 cases r with
 |ok a L'=>obtain⟨τ',σ2,h1,h2,h3,h4,h5⟩:=hq;exact⟨M',x,_,hM,(hI'.sub h4).perm h5,hx,τ',h1,h2,h3,rfl⟩
 |err p c=>exact⟨M',x,σ',hM,hI',hx,hq⟩
theorem LiF.pan{ins:Bool}{rest:List AV}{r:PR α}{S:α→Store→Prop}{b:Nat}{τ τ0:Store}(hs:Sub τ0 τ){val:α→AV}{ch:List PanicEntry}{σ':Store}(h:RdF ins rest r val b τ (.pan ch) σ'):LiF ins rest τ0 r S b (.pan ch) σ':=by
 obtain⟨x2,cs',h1,h2,h3⟩:=h
 cases r with
 |ok a L'=>obtain⟨_,e,_⟩:=h1;subst e;exact h3.elim
 |err p c=>obtain⟨e,L',i',rfl⟩:=h1;subst e;exact⟨congrArg _ h3,L',i',(Sub.same hs).trans h2⟩
def ElemOk(el:FuncId)(cs:List AV)(f:List Tok→PR α)(ins:Bool)(b:Nat)(rest:List AV)(τ0:Store)(S:List α→Store→Prop):Prop:=∀ (acc:List α) (L:List Tok) (τ:Store),Gd L→acc.length+L.length≤20000→S acc τ→
 Sx.Spec Tryz.prog el cs ((1000,b,.cells (rdC L ins++rest))::τ) (LiR ins rest τ0 ((f L).map fun a=>acc++[a]) S b)
theorem many_stop{sep:Str}{f:List Tok→PR α}{k:Nat}{L:List Tok}{acc:List α}(h:¬see 5 sep L=true):manyP sep f k L acc= .ok acc L:=by
 cases k with
 |zero=>rfl
 |succ k=>rw[manyP,if_neg h]
theorem list_ok{f:List Tok→PR α}{el:FuncId}{c:Array Value}{cs:List AV}(hcl:callable Tryz.prog el=true)(hw:WkL (c.toList.map .v) cs){ins:Bool}{b:Nat}{rest:List AV}{τ0:Store}{S:List α→Store→Prop}(hel:ElemOk el cs f ins b rest τ0 S)(hf:Pos 1 f)(sep:Str)(L:List Tok)(τ:Store)(hL:Gd L)(hS:S [] τ):
  Sx.Spec Tryz.prog 152 [.lp 1000 b 0,sv sep,.v (.func (.func el) #[] c)] ((1000,b,.cells (rdC L ins++rest))::τ) (LiR ins rest τ0 (listP sep f L) S b):=by
 refine Spec.runk (fun _=>0) Tryz.func152 comp152 era152 (Nat.le_of_ble_eq_true rfl) ?_
 unfold listP
 repeat'(first|exact .nil|refine .k1 ?_|refine .k2 ?_|refine .r1 ?_ ?_|fail)
 all_goals(try simp only[BL]at *)
 have hn:=hL.n
 refine VX_specv rfl rfl hcl ((hel [] L τ hL (by simpa using hn) hS).wk hw) .nil (fun x σ' hR=> ?_) (fun ch σ' hR=> ?_)
 rotate_left
 ·refine FK_pan ?_
  cases hr:f L with
  |ok a L1=>rw[hr]at hR;obtain⟨_,_,_,h,_⟩:=hR;cases h
  |err p c=>rw[hr]at hR;exact hR
 cases hr:f L with
 |err p c=>rw[hr]at hR;cases hR.1
 |ok a L1=>
  rw[hr]at hR
  obtain⟨τ1,hS1,hL1,hx,rfl⟩:=hR
  cases hx
  have hp1:=(hf L hL.e).ok a L1 hr
  rw[PR.bind_ok]
  repeat'((fail_if_success (show WK _ _ _ _ (.loop _) _ _ _));(first|refine .k0 ?_|refine .k1 ?_|refine .k6 ?_|fail))
  refine WK_loop (fun m rg σ'=>∃ (acc:List α) (L':List Tok) (τ':Store) (k:Nat),Gd L'∧acc.length+L'.length≤20000∧m=L'.length∧L'.length≤k∧S acc τ'∧manyP sep f N0 L1 [a]=manyP sep f k L' acc∧σ'=(1000,b,.cells (rdC L' ins++rest))::τ'∧
   rg=[(0,.lp 1000 b 0),(1,sv sep),(2,.v (.func (.func el) #[] c))]) L1.length rfl ⟨_,_,Zr,Zs,[a],L1,τ1,N0,hL1,by simp only[List.length_cons,List.length_nil];omega,rfl,by have:=hL1.n;show _≤1000000;omega,by simpa using hS1,rfl,rfl,rfl⟩ ?_
  rintro m _ _ ⟨acc,L',τ',k,hL',hal,hm,hk,hS',he,rfl,rfl⟩
  rw[he]
  repeat'(first|exact .nil|refine .k1 ?_|refine .k2 ?_|refine .r1 ?_ ?_|fail)
  by_cases hs:see 5 sep L'=true
  ·have ht:=hL'.tail (see_kind (k:=5) (by decide) L' hs)
   have hsz:=List.length_tail (l:=L')
   obtain⟨k,rfl⟩:∃ k',k=k'+1:=⟨k-1,by omega⟩
   rw[manyP,if_pos hs]
   refine VX_rdo rfl (rd_skip L' hL' ins 5 (by decide) sep) (skipP_t hs) rfl rfl rfl .nil (fun hL2=> ?_)
   simp(decide:=true)only[upt_hd,upt_ne]
   (repeat'(first|exact .nil|refine .k0 ?_|refine .k1 ?_|refine .k2 ?_|refine .k6 ?_|refine .k9 ?_|(refine .cd ?_ ?_<;>first|with_reducible exact tF|(intro hc;skip))|refine .r1 ?_ ?_|fail))<;>(try(simp at hc;done))
   refine VX_specv rfl rfl hcl ((hel acc L'.tail τ' ht.1 (by omega) hS').wk hw) .nil (fun x σ' hR=> ?_) (fun ch σ' hR=> ?_)
   rotate_left
   ·refine FK_pan ?_
    cases hr:f L'.tail with
    |ok a L1=>rw[hr]at hR;obtain⟨_,_,_,h,_⟩:=hR;cases h
    |err p c=>rw[hr]at hR;exact hR
   cases hr:f L'.tail with
   |err p c=>rw[hr]at hR;cases hR.1
   |ok a2 L2=>
    rw[hr]at hR
    obtain⟨τ2,hS2,hL2,hx,rfl⟩:=hR
    cases hx
    have hp2:=(hf L'.tail ht.1.e).ok a2 L2 hr
    rw[PR.bind_ok]
    repeat'(first|refine .k0 ?_|refine .k1 ?_|refine .k2 ?_|fail)
    exact⟨L2.length,by omega,_,_,Zr,Zs,acc++[a2],L2,τ2,k,hL2,by simp only[List.length_append,List.length_cons,List.length_nil];omega,rfl,by omega,hS2,rfl,rfl,rfl⟩
  ·refine VX_rdo rfl (rd_skip L' hL' ins 5 (by decide) sep) (skipP_f hs) rfl rfl rfl .nil (fun hL2=> ?_)
   simp(decide:=true)only[upt_hd,upt_ne]
   (repeat'(first|exact .nil|refine .k0 ?_|refine .k1 ?_|refine .k3 ?_|refine .k8 ?_|(refine .cd ?_ ?_<;>first|with_reducible exact fT|(intro hc;skip))|refine .r1 ?_ ?_|fail))<;>(try(simp at hc;done))
   rw[many_stop hs]
   exact⟨τ',hS',hL',rfl,rfl⟩
end
end Go.Proofs.YtbihckigennlhaaGreatDoor
namespace Go.Sx
open Go.RowKit Go.Proofs
inductive FzR(b:Nat)(xs:List AV):Regs→Regs→Prop
 |nil:FzR b xs [] []
 |p0 {i t:Nat} {r r':Regs} (h:FzR b xs r r'):FzR b xs ((i,.lp t b 0)::r) ((i,.pc xs)::r')
 |pt {i t o:Nat} {r r':Regs} (h:FzR b xs r r'):FzR b xs ((i,.lp t b o)::r) ((i,.pc (xs.drop o))::r')
 |same {i:Nat} {x:AV} {r r':Regs} (h:FzR b xs r r'):FzR b xs ((i,x)::r) ((i,x)::r')
theorem FzR.lk{b:Nat}{xs:List AV}{r r':Regs}(h:FzR b xs r r')(i:Nat):lk r' i=lk r i∨∃ t o,lk r i= .lp t b o∧lk r' i= .pc (xs.drop o):=by
 induction h with
 |nil=>exact .inl rfl
 | @p0 j t _ _ _ ih=>
  simp only[Sx.lk]
  cases Nat.beq j i with
  |true=>exact .inr ⟨t,0,rfl,rfl⟩
  |false=>exact ih
 | @pt j t o _ _ _ ih=>
  simp only[Sx.lk]
  cases Nat.beq j i with
  |true=>exact .inr ⟨t,o,rfl,rfl⟩
  |false=>exact ih
 | @same j x _ _ _ ih=>
  simp only[Sx.lk]
  cases Nat.beq j i with
  |true=>exact .inl rfl
  |false=>exact ih
section
variable {P:Program}[Glob P]{M:Mem}{w0:Base}{w:World}{σ:Store}
theorem RL.pc{b o:Nat}{xs:List AV}{vs:List Value}(hR:RL M xs vs)(hc:∀ k (h:k<vs.length),M b k=some vs[k]):R M (.pc (xs.drop o)) (.pointer (some ⟨b,o,none⟩)):=by
 refine .pc _ b o (fun k=>vs.getD (o+k) default) (fun k hk=> ?_) (fun k hk=> ?_)
 ·have hk':o+k<vs.length:=by rw[← hR.1];simp at hk;omega
  rw[hc _ hk',List.getD_eq_getElem?_getD,List.getElem?_eq_getElem hk'];rfl
 ·have hk1:o+k<xs.length:=by simp at hk;omega
  have hk':o+k<vs.length:=by rw[← hR.1];exact hk1
  rw[List.getElem_drop,List.getD_eq_getElem?_getD,List.getElem?_eq_getElem hk']
  exact hR.2 _ hk1 hk'
end
theorem SW.frz{P:Program}[Glob P]{N:Nat}{s:SC}{Q:Exit→Regs→Store→Prop}{rg rg':Regs}{σ σ':Store}{t b:Nat}{xs:List AV}(hs:FzS t b xs σ σ')(hr:FzR b xs rg rg')(h:SW P N s Q rg' σ'):SW P N s Q rg σ:=by
 intro c hc M w0 a w hI hR hN hD
 obtain⟨M',vs,hM,hI',hxs,hcell⟩:=(hI.perm hs.perm).freeze
 refine cwp_mono (h c hc M' w0 a w hI' (fun i=> ?_) hN hD) fun _ _ _ ⟨M2,rg2,σ2,h1,h2⟩=>⟨M2,rg2,σ2,hM.trans h1,h2⟩
 have h1:=(hR i).mono hM
 rcases hr.lk i with e|⟨t',o,e1,e2⟩
 ·rw[e];exact h1
 ·rw[e1]at h1
  rw[e2]
  have h2:=h1.of_lp
  rw[h2]
  exact RL.pc hxs hcell
theorem WK_frz{P:Program}[Glob P]{N:Nat}{cfg:Nat→Nat}{Q:Exit→Regs→Store→Prop}{a:AC}{k:List Fr}{rg rg':Regs}{σ σ':Store}(t b:Nat){xs:List AV}(hs:FzS t b xs σ σ')(hr:FzR b xs rg rg')(h:WK P N cfg Q a k rg' σ'):WK P N cfg Q a k rg σ:=⟨⟨rfl,SW.frz hs hr h.h.h⟩⟩
end Go.Sx
namespace Go.Proofs.YtbihckigennlhaaGreatDoor
open Go.Sx Go.Proofs
def u8v(n:Nat):AV:= .v (.int .u8 (n:Nat))
def clsV:List AV:=(List.range 256).map fun i=>u8v (clsB (UInt8.ofNat i))
def putC(c:Nat):List UInt8→List AV→List AV
 |[],l=>l
 |b::s,l=>putC c s (l.set b.toNat (u8v c))
theorem putC_len(c:Nat):∀ (s:List UInt8) (l:List AV),(putC c s l).length=l.length
 |[],_=>rfl
 |b::s,l=>by rw[putC,putC_len c s,List.length_set]
theorem putC_snoc(c:Nat)(b:UInt8):∀ (s:List UInt8) (l:List AV),putC c (s++[b]) l=(putC c s l).set b.toNat (u8v c)
 |[],_=>rfl
 |a::s,l=>by rw[List.cons_append,putC,putC,putC_snoc c b s]
theorem over_set{l:List AV}{i:Nat}(h:i<l.length)(x:AV):over l i [x]=l.set i x:=by
 unfold over
 rw[List.set_eq_take_append_cons_drop,if_pos h]
 simp
theorem byteAt_get{s:Str}{i:Nat}(h:i<s.data.toList.length):byteAt s i=s.data.toList[i]:=by
 unfold byteAt
 rw[List.getD_eq_getElem?_getD,List.getElem?_eq_getElem h];rfl
theorem put_ok(s:Str)(hs:s.size≤1000)(c:Nat)(b:Nat)(l:List AV)(hl:l.length=256)(τ:Store):
  Sx.Spec Tryz.prog 92 [sv s,u8v c,.lp 1 b 0] ((1,b,.cells l)::τ) fun x σ'=>x= .ret (.tup [])∧σ'=(1,b,.cells (putC c s.data.toList l))::τ:=by
 refine Spec.runk (fun i=>bif Nat.beq i 1000015 then 1 else 0) Tryz.func92 comp92 era92 (Nat.le_of_ble_eq_true rfl) ?_
 unfold u8v
 repeat'(first|exact .nil|refine .k0 ?_|refine .k1 ?_|refine .k2 ?_|refine .k6 ?_|refine .r1 ?_ ?_|fail)
 all_goals(try simp only[BL]at *)
 refine WK_loop (fun m rg σ'=>∃ i:Nat,i≤s.size∧m=s.size-i∧σ'=(1,b,.cells (putC c (s.data.toList.take i) l))::τ∧rg=[(0,sv s),(1,.v (.int .u8 (c:Nat))),(2,.lp 1 b 0),(7,iv s.size),(8,iv i)]) s.size rfl ⟨_,_,Zr,Zs,0,Nat.zero_le _,rfl,rfl,rfl⟩ ?_
 rintro m _ _ ⟨i,hi,hm,rfl,rfl⟩
 repeat'(first|exact .nil|refine .k0 ?_|refine .k1 ?_|refine .k2 ?_|refine .k3 ?_|refine .k6 ?_|refine .k8 ?_|refine .k9 ?_|(refine .cd ?_ ?_<;>(intro hc;skip))|refine .r1 ?_ ?_|refine .t5 ?_ ?_ ?_|refine .r2 ?_ ?_|fail)
 try any_goals(exact Zo)
 all_goals(try simp only[BL]at *)
 ·have:=(byteAt s i).toNat_lt;exact⟨by omega,by show _<(256:Int);omega⟩
 ·have hil:i<s.data.toList.length:=by
   have:s.data.toList.length=s.size:=rfl
   omega
  have hb:byteAt s i=s.data.toList[i]:=byteAt_get hil
  have hbl:=(byteAt s i).toNat_lt
  refine VX_st (cs':=putC c (s.data.toList.take (i+1)) l) rfl rfl rfl rfl rfl ⟨?_,?_⟩ .nil ?_
  ·rw[List.take_succ_eq_append_getElem hil,putC_snoc,← hb,← over_set (by rw[putC_len];omega)]
   simp[u8v]
  ·rw[putC_len,hl];simp;omega
  simp(decide:=true)only[upt_hd,upt_ne]
  repeat'(first|exact .nil|refine .k0 ?_|refine .k1 ?_|refine .k2 ?_|refine .r1 ?_ ?_|fail)
  exact⟨m-1,by omega,_,_,Zr,Zs,i+1,by omega,by omega,rfl,by rw[up1 (n:=s.size) (by omega) (by unfold maxLen;omega)]⟩
 ·have hil:i=s.size:=by omega
  subst hil
  have:s.data.toList.length=s.size:=rfl
  exact⟨trivial,by rw[← this,List.take_length]⟩
def z256:List AV:=List.replicate 256 (u8v 0)
theorem classes_ok:Pure Tryz.prog 47 [] (.agg clsV):=by
 refine Pure.runk (fun i=>bif Nat.beq i 1000001 then 1 else bif Nat.beq i 1000000 then 1 else 0) Tryz.func47 comp47 era47 (Nat.le_of_ble_eq_true rfl) fun σ=> ?_
 first|refine .k1 ?_|fail
 first|refine .k2 ?_|fail
 refine VX_alloc (cs:=z256) rfl (fun b0=> ?_)
 repeat'((fail_if_success (show WK _ _ _ _ _ _ _ _));(first|refine .k0 ?_|refine .k1 ?_|fail))
 first|refine .k0 ?_|fail
 first|refine .k1 ?_|fail
 first|refine .k2 ?_|fail
 refine VX_alloc (cs:=z256) rfl (fun b1=> ?_)
 repeat'((fail_if_success (show WK _ _ _ _ _ _ _ _));(first|refine .k0 ?_|refine .k1 ?_|fail))
 repeat'(first|exact .nil|refine .k0 ?_|refine .k1 ?_|refine .k2 ?_|refine .r1 ?_ ?_|fail)
 refine VX_specv rfl rfl (by rfl) ((put_ok ⟨#[9,10,13,32]⟩ (by decide) 1 b1 _ (by simp only[putC_len,z256,List.length_replicate]) _).wk (.cons (.refl _) (.cons (.refl _) (.cons .raw .nil)))) .nil (fun x σ' hR=> ?_) (fun ch σ' hR=>absurd hR.1 (by nofun))
 obtain⟨e,rfl⟩:=hR
 cases e
 repeat'(first|exact .nil|refine .k0 ?_|refine .k1 ?_|refine .k2 ?_|refine .r1 ?_ ?_|fail)
 refine VX_specv rfl rfl (by rfl) ((put_ok ⟨#[97,98,99,100,101,102,103,104,105,106,107,108,109,110,111,112,113,114,115,116,117,118,119,120,121,122]⟩ (by decide) 2 b1 _ (by simp only[putC_len,z256,List.length_replicate]) _).wk (.cons (.refl _) (.cons (.refl _) (.cons .raw .nil)))) .nil (fun x σ' hR=> ?_) (fun ch σ' hR=>absurd hR.1 (by nofun))
 obtain⟨e,rfl⟩:=hR
 cases e
 repeat'(first|exact .nil|refine .k0 ?_|refine .k1 ?_|refine .k2 ?_|refine .r1 ?_ ?_|fail)
 refine VX_specv rfl rfl (by rfl) ((put_ok ⟨#[48,49,50,51,52,53,54,55,56,57]⟩ (by decide) 3 b1 _ (by simp only[putC_len,z256,List.length_replicate]) _).wk (.cons (.refl _) (.cons (.refl _) (.cons .raw .nil)))) .nil (fun x σ' hR=> ?_) (fun ch σ' hR=>absurd hR.1 (by nofun))
 obtain⟨e,rfl⟩:=hR
 cases e
 repeat'(first|exact .nil|refine .k0 ?_|refine .k1 ?_|refine .k2 ?_|refine .r1 ?_ ?_|fail)
 refine VX_specv rfl rfl (by rfl) ((put_ok ⟨#[95]⟩ (by decide) 4 b1 _ (by simp only[putC_len,z256,List.length_replicate]) _).wk (.cons (.refl _) (.cons (.refl _) (.cons .raw .nil)))) .nil (fun x σ' hR=> ?_) (fun ch σ' hR=>absurd hR.1 (by nofun))
 obtain⟨e,rfl⟩:=hR
 cases e
 repeat'(first|exact .nil|refine .k0 ?_|refine .k1 ?_|refine .k2 ?_|refine .r1 ?_ ?_|fail)
 refine VX_specv rfl rfl (by rfl) ((put_ok ⟨#[34]⟩ (by decide) 5 b1 _ (by simp only[putC_len,z256,List.length_replicate]) _).wk (.cons (.refl _) (.cons (.refl _) (.cons .raw .nil)))) .nil (fun x σ' hR=> ?_) (fun ch σ' hR=>absurd hR.1 (by nofun))
 obtain⟨e,rfl⟩:=hR
 cases e
 repeat'(first|exact .nil|refine .k0 ?_|refine .k1 ?_|refine .k2 ?_|refine .r1 ?_ ?_|fail)
 refine VX_specv rfl rfl (by rfl) ((put_ok ⟨#[35]⟩ (by decide) 6 b1 _ (by simp only[putC_len,z256,List.length_replicate]) _).wk (.cons (.refl _) (.cons (.refl _) (.cons .raw .nil)))) .nil (fun x σ' hR=> ?_) (fun ch σ' hR=>absurd hR.1 (by nofun))
 obtain⟨e,rfl⟩:=hR
 cases e
 repeat'(first|exact .nil|refine .k0 ?_|refine .k1 ?_|refine .k2 ?_|refine .r1 ?_ ?_|fail)
 refine VX_specv rfl rfl (by rfl) ((put_ok ⟨#[123,125,40,41,91,93,44,58,59,61,60,43,45,42,47,94,64]⟩ (by decide) 7 b1 _ (by simp only[putC_len,z256,List.length_replicate]) _).wk (.cons (.refl _) (.cons (.refl _) (.cons .raw .nil)))) .nil (fun x σ' hR=> ?_) (fun ch σ' hR=>absurd hR.1 (by nofun))
 obtain⟨e,rfl⟩:=hR
 cases e
 repeat'(first|exact .nil|refine .k0 ?_|refine .k1 ?_|refine .k2 ?_|refine .r1 ?_ ?_|fail)
 refine VX_specv rfl rfl (by rfl) ((put_ok ⟨#[33]⟩ (by decide) 8 b1 _ (by simp only[putC_len,z256,List.length_replicate]) _).wk (.cons (.refl _) (.cons (.refl _) (.cons .raw .nil)))) .nil (fun x σ' hR=> ?_) (fun ch σ' hR=>absurd hR.1 (by nofun))
 obtain⟨e,rfl⟩:=hR
 cases e
 repeat'(first|exact .nil|refine .k0 ?_|refine .k1 ?_|refine .k2 ?_|refine .k7 ?_|refine .r1 ?_ ?_|refine .r8 ?_ ?_|fail)
 refine Sx.Fin.wk Zs (.ofeq ?_)
 kernel_rfl
end Go.Proofs.YtbihckigennlhaaGreatDoor
