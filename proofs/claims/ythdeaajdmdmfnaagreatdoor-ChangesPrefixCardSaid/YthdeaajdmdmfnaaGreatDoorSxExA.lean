/-
  The layer Sx, an executor: calls and turns, by fuel; what a run says of a function.
-/
import Derived.Test.YthdeaajdmdmfnaaGreatDoorSxEx8
import Derived.Test.YthdeaajdmdmfnaaGreatDoorSxZ
import Derived.Recover
set_option linter.unusedVariables false
set_option linter.unusedSimpArgs false
set_option linter.unusedSectionVars false
namespace Go.Sx
open Go.RowKit
section
variable {B:BM}
theorem J1(a b:Store):aR B (a++b)=aR B a++aR B b:=by
 induction a with
 |nil=>rfl
 |cons e a ih=>obtain⟨t,b',x⟩:=e;simp only[ZG,aR,ih]
theorem BZ:∀ (as:List AV) (k:Nat),bM B (fi k as)=fi k (aH B as)
 |[],_=>rfl
 |x::l,k=>by simp only[fi,bM,aH,BZ l]
theorem age{rg:ag}{σ S:Store}{r:RC}{x:AV}(h:nu rg σ r=some x):nu (bM B rg) (aR B σ++S) r=some (ar B x):=by
 cases r with
 |tmp t=>simp only[nu,ZY]at h ⊢;subst h;exact mj rg t
 |cell t g n=>
  simp only[nu,mj]at h ⊢
  split at h
  ·rename_i tg b o hx
   rw[hx]
   simp only[ar]
   split at h
   ·rename_i b' l hl
    rw[vy _ _ _ _ hl]
    split at h
    ·rename_i e
     subst e
     simp only[ff,YX]
     cases g with
     |true=>
      simp only[YX]at h ⊢
      split at h
      ·rename_i hc;cases h;rw[oL,ZV hc];simp only[ar,Ej,vO]
      ·cases h
     |false=>
      simp only[ZU,YV]at h ⊢
      rw[Ei,h];rfl
    ·cases h
   ·cases h
  ·cases h
theorem RW{rg:ag}{σ S:Store}:∀ {l:List RC} {xs:List AV},mw rg σ l=some xs→mw (bM B rg) (aR B σ++S) l=some (aH B xs)
 |[],_,h=>by cases h;rfl
 |r::l,xs,h=>by
  simp only[mw]at h ⊢
  cases hr:nu rg σ r with
  |none=>rw[hr]at h;cases h
  |some x=>
   rw[hr]at h
   obtain⟨ys,h1,rfl⟩:=Z9.1 h
   rw[age hr,RW h1];rfl
theorem J3{rg:ag}{σ S:Store}{l:List RC}{x:AV}(h:cS rg σ l=some x):cS (bM B rg) (aR B σ++S) l=some (ar B x):=by
 unfold cS at h ⊢
 cases hl:mw rg σ l with
 |none=>rw[hl]at h;cases h
 |some xs=>
  rw[hl]at h
  rw[RW hl]
  match xs,h with
  |[],h=>cases h;rfl
  |[y],h=>cases h;rfl
  |y::z::l,h=>cases h;rfl
end
section
variable {P:Program}[Glob P][gO P]{T:XT}
theorem FW{call:FuncId→List AV→Store→Nat→XO}(hc:iG P call){f:FuncId}{as:List AV}{n:Nat}{r:AV}(h:oY call f as n=some r):(∀ B,ar B r=r)∧Pure P f as r:=by
 unfold oY at h
 split at h
 ·cases h
 ·rename_i B4 has
  split at h
  ·rename_i x aP n1 hx
   have hf:∀ B,aH B B4=B4:=fun B=>tT has
   obtain⟨_,_,_,h4⟩:=hc _ _ _ _ _ _ _ hx (fun B B' _=>by rw[hf,hf]) (fun _ _ _=>rfl)
   refine⟨fun B=>Bv h,⟨fun σ=> ?_⟩⟩
   have h5:=h4 (fun _=>(0,0,0)) σ
   rw[hf]at h5
   refine(h5.wk (rq has)).Ed ?_
   rintro _ _ ⟨B',hA,rfl,rfl⟩
   exact⟨.ret r,σ,⟨rfl,rfl⟩,dm.drop,K5 (K4 h)⟩
  ·cases h
theorem Mk{call:FuncId→List AV→Store→Nat→XO}(hc:iG P call):nE P (oY call):=fun f as n r h=>
 ⟨(FW hc h).1,fun B=>(FW (as:=aH B as) hc (by
  unfold oY at h ⊢
  split at h
  ·cases h
  ·rename_i B4 has;rw[tU has];exact h)).2⟩
def BP(P:Program)[Glob P](T:XT):Prop:=∀ f as r,T.pure f as=some r→(∀ B,ar B r=r)∧∀ B,Pure P f (aH B as) r
@[reducible] def dJ (P:Program) [g:Glob P] (ds:List Deferred):Glob P:={g with df:=ds}
def mA(P:Program)[Glob P](f N:Nat)(s:SC)(res:List RC):Prop:=
 ∀ (as:List AV) (σ:Store) (Q:AV→Store→Prop),as.length≤N→(∀ ds,@gE P (dJ P ds) N 2 s (lq res fun r σ=>∃ x,r= .ret x∧Q x σ) (fi 0 as) σ)→Spec P f as σ fun r σ'=>∃ x,r= .ret x∧Q x σ'
def XT.BQ(P:Program)[Glob P](T:XT):Prop:=∀ f N a res,T.code f=some (N,a,res)→mA P f N a.erase res
section
variable {ds:List Deferred}{M:Mem}{w0:Base}{w:World}{σ:Store}
theorem Inv.tD(h:Inv P M w0 σ w): @Inv P (dJ P ds) M w0 σ w:= @Inv.mk P (dJ P ds) M w0 σ w h.os h.tape h.output h.size h.old h.bL h.st h.nd h.gl h.gw h.bm
theorem Inv.oD(h: @Inv P (dJ P ds) M w0 σ w):Inv P M w0 σ w:=by
 cases h;constructor<;>assumption
theorem Spec.tD{f:FuncId}{ys:List AV}{Q:gP→Store→Prop}(h:Spec P f ys σ Q): @Spec P (dJ P ds) f ys σ Q:=
 fun M w0 w cs hI hR=>(h M w0 w cs (Inv.oD hI) hR).mono fun e w' ⟨M',r,σ',a,b,c⟩=>⟨M',r,σ',a,Inv.tD b,c⟩
theorem fC.tD{op:Op}{ty:TypeId}{ti:List TI}{args:List Operand}{as:List AV}{Q:AV→Store→Prop}(h:fC P op ty ti args as σ Q): @fC P (dJ P ds) op ty ti args as σ Q:=
 fun bx M w0 w ρ hI hR=>let⟨nx,w',M',x,v,σ',h1,h2,h3,h4,h5,h6⟩:=h bx M w0 w ρ (Inv.oD hI) hR;⟨nx,w',M',x,v,σ',h1,h2,h3,Inv.tD h4,h5,h6⟩
theorem XT.OK.tD(h:T.OK P): @XT.OK P (dJ P ds) T:= @XT.OK.mk P (dJ P ds) T h.gl h.GX (fun _ _ _ _ _ _ e=>⟨@jC.mk P (dJ P ds) _ _ _ _ _ _ fun σ=>fC.tD ((h.tu _ _ _ _ _ _ e).1.sp σ),(h.tu _ _ _ _ _ _ e).2⟩) h.can
theorem j1.tD(h:j1 P T): @j1 P (dJ P ds) T:=fun op ty ti args as d n σ x σ' n' e a b=>
 let⟨h1,h2,h3,h4⟩:=h op ty ti args as d n σ x σ' n' e a b;⟨h1,h2,h3,fun B S=>fC.tD (h4 B S)⟩
theorem iG.tD{call:FuncId→List AV→Store→Nat→XO}(h:iG P call): @iG P (dJ P ds) call:=fun f as σ n x σ' n' e a b=>
 let⟨h1,h2,h3,h4⟩:=h f as σ n x σ' n' e a b;⟨h1,h2,h3,fun B S=>Spec.tD (h4 B S)⟩
theorem NI[h:gO P]:dJ P []=(inferInstance:Glob P):=by
 rename_i g _
 have e:=h.h
 cases g
 simp only[Glob.df]at e
 subst e
 rfl
theorem mA.nil{f N:Nat}{a:AC}{res:List RC}(k:∃ fn,P.funcs[f]? =some fn∧j6 P fn=some ⟨N,a.erase,res⟩):mA P f N a.erase res:=by
 obtain⟨fn,h1,h2⟩:=k
 intro as σ Q hl h
 refine Spec.intro (fc:=⟨N,a.erase,res⟩) h1 h2 hl ?_
 have:=h []
 rw[NI]at this
 exact this.sw
end
theorem Xh{P:Program}[Glob P]{N:Nat}{a:AC}{res:List RC}{rg:ag}{σ:Store}{e:XE}{n n1:Nat}{bu:ag}{aP:Store}{x:AV}(h:BG P N 2 a.erase n rg σ e bu aP n1)(he:e= .nrm∨e= .ret)(hr:cS bu aP res=some x)(B:BM)(S:Store):
  gE P N 2 a.erase (lq res fun r τ=>∃ x0,r= .ret x0∧∃ B',Agree n B B'∧x0=ar B' x∧τ=aR B' aP++S) (bM B rg) (aR B σ++S):=by
 refine(h.2.2.2 B S).mono ?_
 rintro _ _ _ ⟨rfl,B',hA,rfl,rfl⟩
 rcases he with rfl|rfl<;>exact⟨_,J3 hr,_,rfl,B',hA,rfl,rfl⟩
theorem Xi(uL:T.BQ P){f N:Nat}{a:AC}{res:List RC}{as:List AV}{σ:Store}{e:XE}{n n1:Nat}{bu:ag}{aP:Store}{x:AV}(HZ:T.code f=some (N,a,res))(hlen:Nat.ble as.length N=true)
  (h:∀ ds,@BG P (dJ P ds) N 2 a.erase n (fi 0 as) σ e bu aP n1) (he:e= .nrm∨e= .ret) (hr:cS bu aP res=some x):
  n≤n1∧gD n1 x∧cz n1 aP∧∀ B S,Spec P f (aH B as) (aR B σ++S) fun r τ=>∃ B',Agree n B B'∧r= .ret (ar B' x)∧τ=aR B' aP++S:=by
 obtain⟨h1,h2,h3,_⟩:=h []
 refine⟨h1,fun B B' k=> ?_,h3,fun B S=> ?_⟩
 ·have e1:=J3 (B:=B) (S:=[]) hr
  have e2:=J3 (B:=B') (S:=[]) hr
  rw[h2 B B' k,h3 B B' k,e2]at e1
  exact(YK e1).symm
 ·refine(uL _ _ _ _ HZ (aH B as) (aR B σ++S) (fun x0 τ=>∃ B',Agree n B B'∧x0=ar B' x∧τ=aR B' aP++S) (by rw[oL];exact ZF hlen) fun ds=> ?_).mono ?_
  ·rw[← BZ];exact @Xh P (dJ P ds) _ _ _ _ _ _ _ _ _ _ _ (h ds) he hr B S
  ·rintro _ _ ⟨_,rfl,B',hA,rfl,rfl⟩
   exact⟨B',hA,rfl,rfl⟩
theorem FX(ds:List Deferred){call:FuncId→List AV→Store→Nat→XO}(hc:iG P call): @nE P (dJ P ds) (oY call):=fun f as n r h=>
 ⟨(Mk hc f as n r h).1,fun B=> @Pure.mk P (dJ P ds) _ _ _ fun σ=>Spec.tD (((Mk hc f as n r h).2 B).sp σ)⟩
theorem ai1{P:Program}[Glob P]{T:XT}(hT:T.OK P)(ho:j1 P T)(k:Nat)(ih:∀ m,m<k+1→iG P (dV T m).call∧∀ f n0 N,p7 P N ((dV T m).turn f n0)∧nJ P N ((dV T m).jump f n0))(H6:∀ m,m<k+1→nE P (oY (dV T m).call)):∀ f n0 N,p7 P N ((dV T (k+1)).turn f n0):=by
 intro f n0 N b rg σ n e ak σ' n' h hG hS
 have code:∀ m,m<k+1→∀ {rg:ag} {σ:Store} {n:Nat} {e:XE} {ak:ag} {σ':Store} {n':Nat},rz T (dV T m) f n0 b rg σ n=some (e,ak,σ',n')→cT n rg→cz n σ→rE P N b.erase n rg σ e ak σ' n':=
  fun m hm _ _ _ _ _ _ _ h hG hS=>eP hT (ih m hm).1 ho (H6 m hm) ((ih m hm).2 f n0 N).1 ((ih m hm).2 f n0 N).2 n0 b h hG hS
 have fr:n≤n'∧cT n' ak∧cz n' σ':=by
  simp only[dV]at h
  split at h
  ·rename_i hx
   obtain⟨h1,h2,h3,_⟩:=code k (Yh _) hx hG hS
   obtain⟨k1,k2,k3,_⟩:=((ih k (Yh _)).2 f n0 N).1 _ _ _ _ _ _ _ _ h h2 h3
   exact⟨ZI h1 k1,k2,k3⟩
  ·obtain⟨h1,h2,h3,_⟩:=code k (Yh _) h hG hS
   exact⟨h1,h2,h3⟩
 refine⟨fr.1,fr.2.1,fr.2.2,fun B S=> ?_⟩
 refine Fu (fun m bu aP=>∃ B1 qY rC nx,m≤k+1∧Agree n B B1∧n≤nx∧cT nx qY∧cz nx rC∧bu=bM B1 qY∧aP=aR B1 rC++S∧(dV T m).turn f n0 b qY rC nx=some (e,ak,σ',n')) (k+1)
  ⟨B,rg,σ,n,ZX _,.refl _ _,ZX _,hG,hS,rfl,rfl,h⟩ ?_
 rintro m _ _ ⟨B1,qY,rC,nx,hm,hA,hn,CQ,CZ,rfl,rfl,ht⟩
 cases m with
 |zero=>cases ht
 |succ m=>
  simp only[dV]at ht
  split at ht
  ·rename_i bI aJ n2 hx
   obtain⟨h1,h2,h3,h4⟩:=code m (by omega) hx CQ CZ
   refine(h4 B1 S).mono ?_
   rintro _ _ _ ⟨rfl,B2,ka,rfl,rfl⟩
   exact⟨m,Yh _,B2,bI,aJ,n2,by omega,hA.trans (ka.le hn),by omega,h2,h3,rfl,rfl,ht⟩
  ·rename_i hx
   obtain⟨h1,h2,h3,h4⟩:=code m (by omega) ht CQ CZ
   refine(h4 B1 S).mono ?_
   rintro _ _ _ ⟨rfl,B2,ka,rfl,rfl⟩
   cases e with
   |nrm=>exact absurd ht (hx _ _ _)
   |_=>exact⟨rfl,B2,hA.trans (ka.le hn),rfl,rfl⟩
theorem adh{P:Program}[Glob P]{T:XT}(hT:T.OK P)(ho:j1 P T)(k:Nat)(ih:∀ m,m<k+1→iG P (dV T m).call∧∀ f n0 N,p7 P N ((dV T m).turn f n0)∧nJ P N ((dV T m).jump f n0))(H6:∀ m,m<k+1→nE P (oY (dV T m).call)):∀ f n0 N,nJ P N ((dV T (k+1)).jump f n0):=by
 intro f n0 N b e ak σ' n'
 refine⟨fun m l rg σ n=>m≤k+1∧(dV T m).jump f n0 b l rg σ n=some (e,ak,σ',n'),fun l rg σ n h=>⟨k+1,ZX _,h⟩,?_⟩
 rintro m l rg σ n ⟨hm,h⟩ hG hS
 cases m with
 |zero=>cases h
 |succ m=>
  simp only[dV]at h
  split at h
  ·cases h
  ·rename_i r hr
   refine⟨r.erase,by rw[AP,hr];rfl,?_⟩
   have aw:m<k+1:=by omega
   have code:∀ {e:XE} {ak:ag} {σ':Store} {n':Nat},rz T (dV T m) f n0 r rg σ n=some (e,ak,σ',n')→rE P N r.erase n rg σ e ak σ' n':=fun h=>eP hT (ih m aw).1 ho (H6 m aw) ((ih m aw).2 f n0 N).1 ((ih m aw).2 f n0 N).2 n0 r h hG hS
   split at h
   ·rename_i l' bu aP n1 hx
    exact .inr ⟨l',bu,aP,n1,m,Yh _,⟨by omega,h⟩,code hx⟩
   ·rename_i hx
    exact .inl ⟨fun l' e1=>by subst e1;exact hx _ _ _ _ h,code h⟩
theorem ai0(hT:T.OK P)(ho:j1 P T)(k:Nat)(ds:List Deferred)(ih:∀ m,m<k+1→iG P (dV T m).call∧∀ f n0 N,@p7 P (dJ P ds) N ((dV T m).turn f n0)∧@nJ P (dJ P ds) N ((dV T m).jump f n0)):∀ f n0 N,@p7 P (dJ P ds) N ((dV T (k+1)).turn f n0)∧@nJ P (dJ P ds) N ((dV T (k+1)).jump f n0):=fun f n0 N=>
 ⟨@ai1 P (dJ P ds) T hT.tD ho.tD k (fun m hm=>⟨(ih m hm).1.tD,(ih m hm).2⟩) (fun m hm=>FX ds (ih m hm).1) f n0 N,@adh P (dJ P ds) T hT.tD ho.tD k (fun m hm=>⟨(ih m hm).1.tD,(ih m hm).2⟩) (fun m hm=>FX ds (ih m hm).1) f n0 N⟩
theorem ajQ(hT:T.OK P)(uL:T.BQ P)(ho:j1 P T)(sJ:BP P T){r:BV}(hc:iG P r.call)(ha:∀ ds f n0 N,@p7 P (dJ P ds) N (r.turn f n0)∧@nJ P (dJ P ds) N (r.jump f n0)):iG P (Ld T r):=by
 intro f as σ n x σ' n' h hL hS
 unfold Ld at h
 split at h
 ·rename_i x1 hx
  cases h
  obtain⟨k1,k2⟩:=sJ _ _ _ hx
  exact⟨ZX _,fun B B' _=>by rw[k1,k1],hS,fun B S=>((k2 B).sp _).mono fun r τ ⟨a,b⟩=>⟨B,.refl _ _,by rw[k1];exact a,b⟩⟩
 ·split at h
  ·cases h
  ·rename_i N a res HZ
   obtain⟨hlen,h⟩:=eC h
   have fin:∀ {y8:List AV} {eV:Store} {e:XE} {bu:ag} {aP:Store} {n1:Nat} {x0:AV},y8.length=as.length→rG n y8→cz n eV→(e= .nrm∨e= .ret)→rz T r f n a (fi 0 y8) eV n=some (e,bu,aP,n1)→cS bu aP res=some x0→
     n≤n1∧gD n1 x0∧cz n1 aP∧∀ B S,Spec P f (aH B y8) (aR B eV++S) fun r τ=>∃ B',Agree n B B'∧r= .ret (ar B' x0)∧τ=aR B' aP++S:=by
    intro y8 eV e bu aP n1 x0 hl hL hS he hx hr
    exact Xi uL HZ (by rw[hl];exact hlen) (fun ds=> @E8 P (dJ P ds) T N _ _ _ _ _ hT.tD hc.tD ho.tD (FX ds hc) (ha ds f n N).1 (ha ds f n N).2 n a 2 _ _ _ _ _ _ _ hx (fun B B' k=>by rw[BZ,BZ,hL B B' k]) hS) he hr
   have nil:∀ {e:XE} {bu:ag} {aP:Store} {n1:Nat},(e= .nrm∨e= .ret)→rz T r f n a (fi 0 as) [] n=some (e,bu,aP,n1)→(match cS bu aP res with
      |some x=>some (dC jF x,gc n [x] (lu jF aP)++σ,n1)
      |none=>none)=some (x,σ',n')→n≤n'∧gD n' x∧cz n' σ'∧∀ B S,Spec P f (aH B as) (aR B σ++S) fun r τ=>∃ B',Agree n B B'∧r= .ret (ar B' x)∧τ=aR B' σ'++S:=by
    intro e bu aP n1 he hx h
    split at h
    ·rename_i x0 hr
     cases h
     obtain⟨h1,h2,h3,h4⟩:=fin rfl hL (fun _ _ _=>rfl) he hx hr
     refine⟨h1,fun B B' k=>vR _ (h2 B B' k),fun B B' k=>by rw[J1,J1,CL _ (vT _ (h3 B B' k)),(hS.le h1) B B' k],fun B S=> ?_⟩
     refine(h4 B (aR B σ++S)).Ed ?_
     rintro _ _ ⟨B',hA,rfl,rfl⟩
     refine⟨_,_,⟨B',hA,rfl,rfl⟩,?_,vS _⟩
     rw[J1,Zb,hS B B' hA]
     exact dm.app ((CM _).trans (vU _)) (.refl _)
    ·cases h
   have tag:∀ {e:XE} {bu:ag} {aP:Store} {n1:Nat},(e= .nrm∨e= .ret)→rz T r f n a (fi 0 (jz jF as)) (lu jF σ) n=some (e,bu,aP,n1)→(match cS bu aP res with
      |some x=>some (dC (Bp σ) (dC jF x),lu (Bp σ) (gc n [x] (lu jF aP)),n1)
      |none=>none)=some (x,σ',n')→n≤n'∧gD n' x∧cz n' σ'∧∀ B S,Spec P f (aH B as) (aR B σ++S) fun r τ=>∃ B',Agree n B B'∧r= .ret (ar B' x)∧τ=aR B' σ'++S:=by
    intro e bu aP n1 he hx h
    split at h
    ·rename_i x0 hr
     cases h
     have hl:(jz jF as).length=as.length:=by
      have:=(pT (B:=fun _=>(0,0,0)) (f:=jF) as).get.1
      rw[oL,oL]at this;exact this.symm
     obtain⟨h1,h2,h3,h4⟩:=fin hl (fun B B' k=>qZ _ (hL B B' k)) (fun B B' k=>vT _ (hS B B' k)) he hx hr
     refine⟨h1,fun B B' k=>vR _ (vR _ (h2 B B' k)),fun B B' k=>vT _ (CL _ (vT _ (h3 B B' k))),fun B S=> ?_⟩
     refine((h4 B S).afD (pT _) (dm.app (vU _) (.refl _))).Ed ?_
     rintro _ _ ⟨B',hA,rfl,rfl⟩
     exact⟨_,_,⟨B',hA,rfl,rfl⟩,dm.app ((vU _).trans ((CM _).trans (vU _))) (.refl _),(vS _).trans (vS _)⟩
    ·cases h
   split at h
   ·split at h
    ·exact nil (.inl rfl) ‹_› h
    ·exact nil (.inr rfl) ‹_› h
    ·cases h
   ·split at h
    ·exact tag (.inl rfl) ‹_› h
    ·exact tag (.inr rfl) ‹_› h
    ·cases h
theorem ajS(hT:T.OK P)(uL:T.BQ P)(ho:j1 P T)(sJ:BP P T)(k:Nat):iG P (dV T k).call∧∀ ds f n0 N,@p7 P (dJ P ds) N ((dV T k).turn f n0)∧@nJ P (dJ P ds) N ((dV T k).jump f n0):=by
 induction k using Nat.strongRecOn with
 |_ k ih=>
  cases k with
  |zero=>exact⟨fun _ _ _ _ _ _ _ h=>(by cases h),fun _ _ _ _=>⟨fun _ _ _ _ _ _ _ _ h=>(by cases h),fun _ _ _ _ _=>⟨fun _ _ _ _ _=>False,fun _ _ _ _ h=>(by cases h),fun _ _ _ _ _ h=>h.elim⟩⟩⟩
  |succ k=>
   obtain⟨hc,ha⟩:=ih k (Yh _)
   refine⟨ajQ hT uL ho sJ hc ha,fun ds=> ?_⟩
   exact ai0 hT ho k ds fun m hm=>⟨(ih m hm).1,(ih m hm).2 ds⟩
theorem Pure.exec(hT:T.OK P)(uL:T.BQ P)(ho:j1 P T)(sJ:BP P T)(k:Nat){f:FuncId}{as:List AV}{r:AV}(h:oY (dV T k).call f as 0=some r):Pure P f as r:=(FW (ajS hT uL ho sJ k).1 h).2
end
def aG{P:Program}[Glob P]{f N:Nat}{a:AC}{res:List RC}(h:mA P f N a.erase res):Nat×Nat×AC×List RC:=(f,N,a,res)
def look:List (Nat×Nat×AC×List RC)→Nat→Option (Nat×AC×List RC)
 |[],_=>none
 |(g,x)::l,f=>bif Nat.beq g f then some x else look l f
inductive wI(P:Program)[Glob P]:List (Nat×Nat×AC×List RC)→Prop
 |nil:wI P []
 |cons {f N:Nat} {a:AC} {res:List RC} {l:List (Nat×Nat×AC×List RC)} (h:mA P f N a.erase res) (t:wI P l):wI P (aG h::l)
theorem wI.look{P:Program}[Glob P]{l:List (Nat×Nat×AC×List RC)}(h:wI P l):∀ f N a res,look l f=some (N,a,res)→mA P f N a.erase res:=by
 induction h with
 |nil=>intro f N a res h;cases h
 |cons h t ih=>
  intro f N a res hl
  simp only[Sx.look,aG]at hl
  rename_i g N' a' akh l'
  cases hb:Nat.beq g f with
  |true=>
   rw[hb]at hl
   cases hl
   have e:=Z0 hb
   subst e
   exact h
  |false=>rw[hb]at hl;exact ih _ _ _ _ hl
theorem fz.r{P:Program}[Glob P][gO P]{f N:Nat}{a:AC}{res:List RC}(k:fz P f N a res):mA P f N a.erase res:=mA.nil k.ex
def Idle(P:Program)[Glob P](ds:List Deferred):Prop:=
 ∀ (fn:Func) (tmps:Array Value) (K:Ending→World→Prop) (M:Mem) (w0:Base) (σ:Store) (w:World),Inv P M w0 σ w→
  (∀ w',Inv P M w0 σ w'→∃ v,(results fn tmps).run P w'= .ok v w'∧K (.returned v) w')→Leaves P fn tmps K ds .returning w
theorem Idle.nil{P:Program}[Glob P]:Idle P []:=fun _ _ _ _ _ _ w hI h=>h w hI
theorem mA.door{P:Program}[Glob P][gO P]{f:FuncId}{fn:Func}{c x y t:Code}{N:Nat}{s:SC}{res:List RC}(hf:P.funcs[f]? =some fn)(hb:fn.body=some c)(hN:fn.ntmps=N)(hr:ql P fn.results.toList=some res)
  (hs:∀ ds,@cO P (dJ P ds) N (.seq x (.seq y t))=some s)
  (hd:∀ (cs:List Value) (w:World),∃ ds,(∀ post,ib P x (Exit.then (ib P y (Exit.then (t.wp P post) post)) post) {tmps:=cs.toArray++Array.replicate (fn.ntmps-cs.toArray.size) undef,defers:=ds} w→c.wp P post {tmps:=cs.toArray++Array.replicate (fn.ntmps-cs.toArray.size) undef,defers:=[]} w)∧Idle P ds):mA P f N s res:=by
 intro as σ Q hlen h M w0 w cs hI hl
 subst hN
 have hle:cs.length≤fn.ntmps:=by rw[← hl.1];exact hlen
 obtain⟨ds,h1,h2⟩:=hd cs w
 have Dq:=hs ds
 simp only[cO]at Dq
 split at Dq
 ·rename_i sx sr hx ey
  cases Dq
  split at ey
  ·rename_i sy st hy ht
   cases ey
   have h:=h ds
   simp only[gE]at h
   refine calls_of_wp_defers hf hb (h1 _ ?_)
   have fin:∀ {e:Exit} {a':Act} {w':World},@jh P (dJ P ds) M w0 fn.ntmps (lq res fun r σ=>∃ x,r= .ret x∧Q x σ) e a' w'→bodyPostD P fn (fun e w'=>∃ M' r σ',M.le M'∧Inv P M' w0 σ' w'∧iH M' r e∧∃ x,r= .ret x∧Q x σ') e a' w':=by
    rintro e a' w' ⟨M',ak,σ',hM,bp,nQ,hN,hD,hq⟩
    have bp:=Inv.oD bp
    have hD:a'.defers=ds:=hD
    have fin:∀ x,cS ak σ' res=some x→Q x σ'→Leaves P fn a'.tmps (fun e w'=>∃ M' r σ',M.le M'∧Inv P M' w0 σ' w'∧iH M' r e∧∃ x,r= .ret x∧Q x σ') a'.defers .returning w':=by
     intro x hx hQ
     rw[hD]
     refine h2 fn a'.tmps _ M' w0 σ' w' bp fun tS Hh=> ?_
     unfold cS at hx
     have cP:∀ xs,mw ak σ' res=some xs→∃ vs,(fn.results.mapM (yo a'.tmps):Sem (Array Value)).run P tS= .ok vs.toArray tS∧RL M' xs vs:=by
      intro xs c9
      obtain⟨vs,h1,h2⟩:=J6 fn.results.toList res xs hr c9 Hh nQ
      exact⟨vs,by rw[Array.mapM_eq_mapM_toList,Sem.run_map,h1];rfl,h2⟩
     split at hx
     ·rename_i y hy
      cases hx
      obtain⟨vs,h1,h2⟩:=cP _ hy
      obtain⟨v,vs',rfl,h3,h4⟩:=h2.aX
      obtain rfl:=h4.pX
      refine⟨v,?_,M',.ret x,σ',hM,Hh,h3,x,rfl,hQ⟩
      rw[Em,Sem.run_bind,h1]
      simp
     ·rename_i xs aE hy
      cases hx
      obtain⟨vs,h1,h2⟩:=cP _ hy
      refine⟨.tuple vs.toArray,?_,M',.ret (.bo xs),σ',hM,Hh,R.td h2,_,rfl,hQ⟩
      rw[Em,Sem.run_bind,h1]
      simp only[Result.andThen_ok,Sem.run_pure]
      rw[dif_neg]
      intro bg
      have sG:xs.length=1:=by rw[h2.1];simpa using bg
      obtain⟨y,rfl⟩:=List.length_eq_one_iff.1 sG
      exact aE y rfl
     ·cases hx
    cases e with
    |normal=>obtain⟨x,hx,y,e,hQ⟩:=hq;cases e;exact fin x hx hQ
    |ret=>obtain⟨x,hx,y,e,hQ⟩:=hq;cases e;exact fin x hx hQ
    |panic ch=>obtain⟨_,e,_⟩:=hq;cases e
    |_=>exact hq.elim
   refine zj (h x hx M w0 _ w (Inv.tD hI) (FO as cs 0 _ hl (fun i v hv=> ?_)) (by simp;omega) rfl) ?_
   ·have hi:i<cs.length:=(ZE.1 hv).1
    rw[ZH,Array.getElem?_append_left (by simpa using hi)]
    simpa using hv
   ·rintro e a1 w1 ⟨M1,bu,aP,k1,k2,k3,k4,k5,k6⟩
    cases e with
    |normal=>
     refine zj (k6 y hy M1 w0 a1 w1 k2 k3 k4 k5) ?_
     rintro e a2 w2 ⟨M2,bI,aJ,g1,g2,g3,g4,g5,g6⟩
     cases e with
     |normal=>exact wp_mono (o7 (g6 t ht M2 w0 a2 w2 g2 g3 g4 g5)) fun e a w ⟨M3,eF,eo,q1,q2⟩=>fin ⟨M3,eF,eo,(k1.trans g1).trans q1,q2⟩
     |ret=>exact fin (e:= .ret) ⟨M2,bI,aJ,k1.trans g1,g2,g3,g4,g5,g6⟩
     |exit i=>exact fin (e:= .exit i) ⟨M2,bI,aJ,k1.trans g1,g2,g3,g4,g5,g6⟩
     |goto i=>exact fin (e:= .goto i) ⟨M2,bI,aJ,k1.trans g1,g2,g3,g4,g5,g6⟩
     |panic i=>exact fin (e:= .panic i) ⟨M2,bI,aJ,k1.trans g1,g2,g3,g4,g5,g6⟩
     |outgrown=>exact fin (e:= .outgrown) ⟨M2,bI,aJ,k1.trans g1,g2,g3,g4,g5,g6⟩
    |ret=>exact fin (e:= .ret) ⟨M1,bu,aP,k1,k2,k3,k4,k5,k6⟩
    |exit i=>exact fin (e:= .exit i) ⟨M1,bu,aP,k1,k2,k3,k4,k5,k6⟩
    |goto i=>exact fin (e:= .goto i) ⟨M1,bu,aP,k1,k2,k3,k4,k5,k6⟩
    |panic i=>exact fin (e:= .panic i) ⟨M1,bu,aP,k1,k2,k3,k4,k5,k6⟩
    |outgrown=>exact fin (e:= .outgrown) ⟨M1,bu,aP,k1,k2,k3,k4,k5,k6⟩
  ·cases ey
 ·cases Dq
def EF(o:Oper):Oper:=match o.op with
 | .defer _=>{o with op:= .move (.const (.bool false)),dst:=none}
 |_=>o
def lz:Code→Code
 | .region id ops d=> .region id (ops.toList.map EF).toArray d
 | .seq a b=> .seq (lz a) (lz b)
 | .cond c a b=> .cond c (lz a) (lz b)
 | .block id b=> .block id (lz b)
 | .loop b=> .loop (lz b)
 |c=>c
def uh(P:Program)[Glob P](fn:Func):Option FC:=match fn.body with
 |some c=>match cO P fn.ntmps (lz c),ql P fn.results.toList with
  |some s,some r=>some ⟨fn.ntmps,s,r⟩
  |_,_=>none
 |none=>none
structure BF(P:Program)[Glob P](f:FuncId)(N:Nat)(a:AC)(res:List RC):Type where
 ex:∃ fn,P.funcs[f]? =some fn∧∀ ds,@uh P (dJ P ds) fn=some ⟨N,a.erase,res⟩
theorem LY{P:Program}[Glob P]{f:FuncId}{fn:Func}{N:Nat}{a:AC}{res:List RC}(hf:P.funcs[f]? =some fn)(h:∀ ds,(@uh P (dJ P ds) fn).map rM=some (N,a,res)):∃ fn,P.funcs[f]? =some fn∧∀ ds,@uh P (dJ P ds) fn=some ⟨N,a.erase,res⟩:=
 ⟨fn,hf,fun ds=>by
  obtain⟨c,h1,h2⟩:=Z9.1 (h ds)
  simp only[rM,YW]at h2
  obtain⟨rfl,rfl,rfl⟩:=h2
  rw[qg];exact h1⟩
def kd{P:Program}[Glob P]{f:FuncId}{fn:Func}{N:Nat}{a:AC}{res:List RC}(hf:P.funcs[f]? =some fn)(h:∀ ds,(@uh P (dJ P ds) fn).map rM=some (N,a,res):=by intro ds;conv=>{lhs;cbv;try simp(maxSteps:=10000000)only[DX,UInt8.reduceOfNat,Int.reduceOfNat,Int.reduceNegSucc,DW]}):BF P f N a res:=⟨LY hf h⟩
def qa(P:Program)[Glob P](fn:Func):Prop:=∃ c x y t,fn.body=some c∧lz c= .seq x (.seq y t)∧∀ (cs:List Value) (w:World),∃ ds,(∀ post,ib P x (Exit.then (ib P y (Exit.then (t.wp P post) post)) post) {tmps:=cs.toArray++Array.replicate (fn.ntmps-cs.toArray.size) undef,defers:=ds} w→c.wp P post {tmps:=cs.toArray++Array.replicate (fn.ntmps-cs.toArray.size) undef,defers:=[]} w)∧Idle P ds
theorem qa.of{P:Program}[Glob P]{fn:Func}{r0 r1 T:Code}(hb:fn.body=some (.seq r0 (.seq r1 T)))(hT:lz T=T)
  (h:∀ (cs:List Value) (w:World),∃ ds,(∀ (T:Code) post,ib P (lz r0) (Exit.then (ib P (lz r1) (Exit.then (T.wp P post) post)) post) {tmps:=cs.toArray++Array.replicate (fn.ntmps-cs.toArray.size) undef,defers:=ds} w→(Code.seq r0 (.seq r1 T)).wp P post {tmps:=cs.toArray++Array.replicate (fn.ntmps-cs.toArray.size) undef,defers:=[]} w)∧Idle P ds):qa P fn:=
 ⟨_,_,_,_,hb,rfl,fun cs w=>let⟨ds,h1,h2⟩:=h cs w;⟨ds,fun post h=>h1 T post (by rw[hT]at h;exact h),h2⟩⟩
theorem rO{post:Exit→Act→World→Prop}{A:Prop}{K K':Act→World→Prop}(h:A∧LetsOut (Exit.then K post)):A∧LetsOut (Exit.then K' post):=let⟨h1,a,w,h2⟩:=h;⟨h1,a,w,h2⟩
theorem BF.r{P:Program}[Glob P][gO P]{f N:Nat}{a:AC}{res:List RC}(k:BF P f N a res){fn:Func}(hf:P.funcs[f]? =some fn)(hd:qa P fn):mA P f N a.erase res:=by
 obtain⟨Ny,h1,h2⟩:=k.ex
 rw[hf]at h1
 cases h1
 obtain⟨c,x,y,t,hb,he,hd⟩:=hd
 have h3:=h2 []
 unfold uh at h3
 rw[hb]at h3
 simp only at h3
 split at h3
 ·rename_i s r hs hr
  cases h3
  rw[NI]at hr
  refine mA.door hf hb rfl hr (fun ds=> ?_) hd
  have h4:=h2 ds
  unfold uh at h4
  rw[hb]at h4
  simp only at h4
  split at h4
  ·rename_i s' r' om Dm
   simp only[ZY,FC.mk.injEq,Ys]at h4
   rw[← h4.1,← he];exact om
  ·cases h4
 ·cases h3
end Go.Sx
