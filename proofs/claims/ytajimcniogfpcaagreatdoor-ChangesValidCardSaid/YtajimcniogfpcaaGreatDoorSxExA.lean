/-
  The layer Sx, an executor: calls and turns, by fuel; what a run says of a function.
-/
import Derived.Test.YtajimcniogfpcaaGreatDoorSxEx8
import Derived.Test.YtajimcniogfpcaaGreatDoorSxZ
import Derived.Recover
set_option linter.unusedVariables false
set_option linter.unusedSimpArgs false
set_option linter.unusedSectionVars false
namespace Go.Sx
open Go.RowKit
section
variable {B:BM}
theorem L9(a b:Store):aV B (a++b)=aV B a++aV B b:=by
 induction a with
 |nil=>rfl
 |cons e a ih=>obtain⟨t,b',x⟩:=e;simp only[ZH,aV,ih]
theorem DT:∀ (as:List AV) (k:Nat),bW B (fF k as)=fF k (aG B as)
 |[],_=>rfl
 |x::l,k=>by simp only[fF,bW,aG,DT l]
theorem ai2{rg:af}{σ S:Store}{r:RC}{x:AV}(h:ou rg σ r=some x):ou (bW B rg) (aV B σ++S) r=some (au B x):=by
 cases r with
 |tmp t=>simp only[ou,Z1]at h ⊢;subst h;exact nh rg t
 |cell t g n=>
  simp only[ou,nh]at h ⊢
  split at h
  ·rename_i tg b o hx
   rw[hx]
   simp only[au]
   split at h
   ·rename_i b' l hl
    rw[xH _ _ _ _ hl]
    split at h
    ·rename_i e
     subst e
     simp only[fZ,Y2]
     cases g with
     |true=>
      simp only[Y2]at h ⊢
      split at h
      ·rename_i hc;cases h;rw[pG,ZW hc];simp only[au,F3,x9]
      ·cases h
     |false=>
      simp only[ZV,Y8]at h ⊢
      rw[F2,h];rfl
    ·cases h
   ·cases h
  ·cases h
theorem Ut{rg:af}{σ S:Store}:∀ {l:List RC} {xs:List AV},nw rg σ l=some xs→nw (bW B rg) (aV B σ++S) l=some (aG B xs)
 |[],_,h=>by cases h;rfl
 |r::l,xs,h=>by
  simp only[nw]at h ⊢
  cases hr:ou rg σ r with
  |none=>rw[hr]at h;cases h
  |some x=>
   rw[hr]at h
   obtain⟨ys,h1,rfl⟩:=Z7.1 h
   rw[ai2 hr,Ut h1];rfl
theorem Mb{rg:af}{σ S:Store}{l:List RC}{x:AV}(h:db rg σ l=some x):db (bW B rg) (aV B σ++S) l=some (au B x):=by
 unfold db at h ⊢
 cases hl:nw rg σ l with
 |none=>rw[hl]at h;cases h
 |some xs=>
  rw[hl]at h
  rw[Ut hl]
  match xs,h with
  |[],h=>cases h;rfl
  |[y],h=>cases h;rfl
  |y::z::l,h=>cases h;rfl
end
section
variable {P:Program}[Glob P][ie P]{T:XT}
theorem Iv{call:FuncId→List AV→Store→Nat→XO}(hc:jr P call){f:FuncId}{as:List AV}{n:Nat}{r:AV}(h:pU call f as n=some r):(∀ B,au B r=r)∧Pure P f as r:=by
 unfold pU at h
 split at h
 ·cases h
 ·rename_i DU has
  split at h
  ·rename_i x aK n1 hx
   have hf:∀ B,aG B DU=DU:=fun B=>vR has
   obtain⟨_,_,_,h4⟩:=hc _ _ _ _ _ _ _ hx (fun B B' _=>by rw[hf,hf]) (fun _ _ _=>rfl)
   refine⟨fun B=>Dx h,⟨fun σ=> ?_⟩⟩
   have h5:=h4 (fun _=>(0,0,0)) σ
   rw[hf]at h5
   refine(h5.wk (tp has)).FV ?_
   rintro _ _ ⟨B',hA,rfl,rfl⟩
   exact⟨.ret r,σ,⟨rfl,rfl⟩,dI.drop,Nf (Nd h)⟩
  ·cases h
theorem Oj{call:FuncId→List AV→Store→Nat→XO}(hc:jr P call):oF P (pU call):=fun f as n r h=>
 ⟨(Iv hc h).1,fun B=>(Iv (as:=aG B as) hc (by
  unfold pU at h ⊢
  split at h
  ·cases h
  ·rename_i DU has;rw[vS has];exact h)).2⟩
def DJ(P:Program)[Glob P](T:XT):Prop:=∀ f as r,T.pure f as=some r→(∀ B,au B r=r)∧∀ B,Pure P f (aG B as) r
@[reducible] def ey (P:Program) [g:Glob P] (ds:List Deferred):Glob P:={g with df:=ds}
def nB(P:Program)[Glob P](f N:Nat)(s:SC)(res:List RC):Prop:=
 ∀ (as:List AV) (σ:Store) (Q:AV→Store→Prop),as.length≤N→(∀ ds,@iD P (ey P ds) N 2 s (j8 res fun r σ=>∃ x,r= .ret x∧Q x σ) (fF 0 as) σ)→Spec P f as σ fun r σ'=>∃ x,r= .ret x∧Q x σ'
def XT.DK(P:Program)[Glob P](T:XT):Prop:=∀ f N a res,T.code f=some (N,a,res)→nB P f N a.erase res
section
variable {ds:List Deferred}{M:Mem}{w0:Base}{w:World}{σ:Store}
theorem Inv.tD(h:Inv P M w0 σ w): @Inv P (ey P ds) M w0 σ w:= @Inv.mk P (ey P ds) M w0 σ w h.os h.tape h.output h.size h.old h.cH h.st h.nd h.gl h.gw h.bm
theorem Inv.oD(h: @Inv P (ey P ds) M w0 σ w):Inv P M w0 σ w:=by
 cases h;constructor<;>assumption
theorem Spec.tD{f:FuncId}{ys:List AV}{Q:eQ→Store→Prop}(h:Spec P f ys σ Q): @Spec P (ey P ds) f ys σ Q:=
 fun M w0 w cs hI hR=>(h M w0 w cs (Inv.oD hI) hR).mono fun e w' ⟨M',r,σ',a,b,c⟩=>⟨M',r,σ',a,Inv.tD b,c⟩
theorem gb.tD{op:Op}{ty:TypeId}{ti:List TI}{args:List Operand}{as:List AV}{Q:AV→Store→Prop}(h:gb P op ty ti args as σ Q): @gb P (ey P ds) op ty ti args as σ Q:=
 fun bx M w0 w ρ hI hR=>let⟨nx,w',M',x,v,σ',h1,h2,h3,h4,h5,h6⟩:=h bx M w0 w ρ (Inv.oD hI) hR;⟨nx,w',M',x,v,σ',h1,h2,h3,Inv.tD h4,h5,h6⟩
theorem XT.OK.tD(h:T.OK P): @XT.OK P (ey P ds) T:= @XT.OK.mk P (ey P ds) T h.gl h.Jw (fun _ _ _ _ _ _ e=>⟨@ko.mk P (ey P ds) _ _ _ _ _ _ fun σ=>gb.tD ((h.vv _ _ _ _ _ _ e).1.sp σ),(h.vv _ _ _ _ _ _ e).2⟩) h.can
theorem kU.tD(h:kU P T): @kU P (ey P ds) T:=fun op ty ti args as d n σ x σ' n' e a b=>
 let⟨h1,h2,h3,h4⟩:=h op ty ti args as d n σ x σ' n' e a b;⟨h1,h2,h3,fun B S=>gb.tD (h4 B S)⟩
theorem jr.tD{call:FuncId→List AV→Store→Nat→XO}(h:jr P call): @jr P (ey P ds) call:=fun f as σ n x σ' n' e a b=>
 let⟨h1,h2,h3,h4⟩:=h f as σ n x σ' n' e a b;⟨h1,h2,h3,fun B S=>Spec.tD (h4 B S)⟩
theorem P0[h:ie P]:ey P []=(inferInstance:Glob P):=by
 rename_i g _
 have e:=h.h
 cases g
 simp only[Glob.df]at e
 subst e
 rfl
theorem nB.nil{f N:Nat}{a:AC}{res:List RC}(k:∃ fn,P.funcs[f]? =some fn∧jP P fn=some ⟨N,a.erase,res⟩):nB P f N a.erase res:=by
 obtain⟨fn,h1,h2⟩:=k
 intro as σ Q hl h
 refine Spec.intro (fc:=⟨N,a.erase,res⟩) h1 h2 hl ?_
 have:=h []
 rw[P0]at this
 exact this.sw
end
theorem acC{P:Program}[Glob P]{N:Nat}{a:AC}{res:List RC}{rg:af}{σ:Store}{e:XE}{n n1:Nat}{bh:af}{aK:Store}{x:AV}(h:DF P N 2 a.erase n rg σ e bh aK n1)(he:e= .nrm∨e= .ret)(hr:db bh aK res=some x)(B:BM)(S:Store):
  iD P N 2 a.erase (j8 res fun r τ=>∃ x0,r= .ret x0∧∃ B',Agree n B B'∧x0=au B' x∧τ=aV B' aK++S) (bW B rg) (aV B σ++S):=by
 refine(h.2.2.2 B S).mono ?_
 rintro _ _ _ ⟨rfl,B',hA,rfl,rfl⟩
 rcases he with rfl|rfl<;>exact⟨_,Mb hr,_,rfl,B',hA,rfl,rfl⟩
theorem acD(wZ:T.DK P){f N:Nat}{a:AC}{res:List RC}{as:List AV}{σ:Store}{e:XE}{n n1:Nat}{bh:af}{aK:Store}{x:AV}(JZ:T.code f=some (N,a,res))(hlen:Nat.ble as.length N=true)
  (h:∀ ds,@DF P (ey P ds) N 2 a.erase n (fF 0 as) σ e bh aK n1) (he:e= .nrm∨e= .ret) (hr:db bh aK res=some x):
  n≤n1∧iC n1 x∧cV n1 aK∧∀ B S,Spec P f (aG B as) (aV B σ++S) fun r τ=>∃ B',Agree n B B'∧r= .ret (au B' x)∧τ=aV B' aK++S:=by
 obtain⟨h1,h2,h3,_⟩:=h []
 refine⟨h1,fun B B' k=> ?_,h3,fun B S=> ?_⟩
 ·have e1:=Mb (B:=B) (S:=[]) hr
  have e2:=Mb (B:=B') (S:=[]) hr
  rw[h2 B B' k,h3 B B' k,e2]at e1
  exact(YA e1).symm
 ·refine(wZ _ _ _ _ JZ (aG B as) (aV B σ++S) (fun x0 τ=>∃ B',Agree n B B'∧x0=au B' x∧τ=aV B' aK++S) (by rw[pG];exact ZR hlen) fun ds=> ?_).mono ?_
  ·rw[← DT];exact @acC P (ey P ds) _ _ _ _ _ _ _ _ _ _ _ (h ds) he hr B S
  ·rintro _ _ ⟨_,rfl,B',hA,rfl,rfl⟩
   exact⟨B',hA,rfl,rfl⟩
theorem Iw(ds:List Deferred){call:FuncId→List AV→Store→Nat→XO}(hc:jr P call): @oF P (ey P ds) (pU call):=fun f as n r h=>
 ⟨(Oj hc f as n r h).1,fun B=> @Pure.mk P (ey P ds) _ _ _ fun σ=>Spec.tD (((Oj hc f as n r h).2 B).sp σ)⟩
theorem alc{P:Program}[Glob P]{T:XT}(hT:T.OK P)(ho:kU P T)(k:Nat)(ih:∀ m,m<k+1→jr P (eN T m).call∧∀ f n0 N,qZ P N ((eN T m).turn f n0)∧oK P N ((eN T m).jump f n0))(J1:∀ m,m<k+1→oF P (pU (eN T m).call)):∀ f n0 N,qZ P N ((eN T (k+1)).turn f n0):=by
 intro f n0 N b rg σ n e ak σ' n' h hG hS
 have code:∀ m,m<k+1→∀ {rg:af} {σ:Store} {n:Nat} {e:XE} {ak:af} {σ':Store} {n':Nat},tz T (eN T m) f n0 b rg σ n=some (e,ak,σ',n')→dq n rg→cV n σ→tE P N b.erase n rg σ e ak σ' n':=
  fun m hm _ _ _ _ _ _ _ h hG hS=>fE hT (ih m hm).1 ho (J1 m hm) ((ih m hm).2 f n0 N).1 ((ih m hm).2 f n0 N).2 n0 b h hG hS
 have fr:n≤n'∧dq n' ak∧cV n' σ':=by
  simp only[eN]at h
  split at h
  ·rename_i hx
   obtain⟨h1,h2,h3,_⟩:=code k (X9 _) hx hG hS
   obtain⟨k1,k2,k3,_⟩:=((ih k (X9 _)).2 f n0 N).1 _ _ _ _ _ _ _ _ h h2 h3
   exact⟨ZG h1 k1,k2,k3⟩
  ·obtain⟨h1,h2,h3,_⟩:=code k (X9 _) h hG hS
   exact⟨h1,h2,h3⟩
 refine⟨fr.1,fr.2.1,fr.2.2,fun B S=> ?_⟩
 refine HU (fun m bh aK=>∃ B1 sQ tA nx,m≤k+1∧Agree n B B1∧n≤nx∧dq nx sQ∧cV nx tA∧bh=bW B1 sQ∧aK=aV B1 tA++S∧(eN T m).turn f n0 b sQ tA nx=some (e,ak,σ',n')) (k+1)
  ⟨B,rg,σ,n,ZM _,.refl _ _,ZM _,hG,hS,rfl,rfl,h⟩ ?_
 rintro m _ _ ⟨B1,sQ,tA,nx,hm,hA,hn,EA,EG,rfl,rfl,ht⟩
 cases m with
 |zero=>cases ht
 |succ m=>
  simp only[eN]at ht
  split at ht
  ·rename_i bJ aC n2 hx
   obtain⟨h1,h2,h3,h4⟩:=code m (by omega) hx EA EG
   refine(h4 B1 S).mono ?_
   rintro _ _ _ ⟨rfl,B2,qg,rfl,rfl⟩
   exact⟨m,X9 _,B2,bJ,aC,n2,by omega,hA.trans (qg.le hn),by omega,h2,h3,rfl,rfl,ht⟩
  ·rename_i hx
   obtain⟨h1,h2,h3,h4⟩:=code m (by omega) ht EA EG
   refine(h4 B1 S).mono ?_
   rintro _ _ _ ⟨rfl,B2,qg,rfl,rfl⟩
   cases e with
   |nrm=>exact absurd ht (hx _ _ _)
   |_=>exact⟨rfl,B2,hA.trans (qg.le hn),rfl,rfl⟩
theorem afG{P:Program}[Glob P]{T:XT}(hT:T.OK P)(ho:kU P T)(k:Nat)(ih:∀ m,m<k+1→jr P (eN T m).call∧∀ f n0 N,qZ P N ((eN T m).turn f n0)∧oK P N ((eN T m).jump f n0))(J1:∀ m,m<k+1→oF P (pU (eN T m).call)):∀ f n0 N,oK P N ((eN T (k+1)).jump f n0):=by
 intro f n0 N b e ak σ' n'
 refine⟨fun m l rg σ n=>m≤k+1∧(eN T m).jump f n0 b l rg σ n=some (e,ak,σ',n'),fun l rg σ n h=>⟨k+1,ZM _,h⟩,?_⟩
 rintro m l rg σ n ⟨hm,h⟩ hG hS
 cases m with
 |zero=>cases h
 |succ m=>
  simp only[eN]at h
  split at h
  ·cases h
  ·rename_i r hr
   refine⟨r.erase,by rw[zZ,hr];rfl,?_⟩
   have ar:m<k+1:=by omega
   have code:∀ {e:XE} {ak:af} {σ':Store} {n':Nat},tz T (eN T m) f n0 r rg σ n=some (e,ak,σ',n')→tE P N r.erase n rg σ e ak σ' n':=fun h=>fE hT (ih m ar).1 ho (J1 m ar) ((ih m ar).2 f n0 N).1 ((ih m ar).2 f n0 N).2 n0 r h hG hS
   split at h
   ·rename_i l' bh aK n1 hx
    exact .inr ⟨l',bh,aK,n1,m,X9 _,⟨by omega,h⟩,code hx⟩
   ·rename_i hx
    exact .inl ⟨fun l' e1=>by subst e1;exact hx _ _ _ _ h,code h⟩
theorem alb(hT:T.OK P)(ho:kU P T)(k:Nat)(ds:List Deferred)(ih:∀ m,m<k+1→jr P (eN T m).call∧∀ f n0 N,@qZ P (ey P ds) N ((eN T m).turn f n0)∧@oK P (ey P ds) N ((eN T m).jump f n0)):∀ f n0 N,@qZ P (ey P ds) N ((eN T (k+1)).turn f n0)∧@oK P (ey P ds) N ((eN T (k+1)).jump f n0):=fun f n0 N=>
 ⟨@alc P (ey P ds) T hT.tD ho.tD k (fun m hm=>⟨(ih m hm).1.tD,(ih m hm).2⟩) (fun m hm=>Iw ds (ih m hm).1) f n0 N,@afG P (ey P ds) T hT.tD ho.tD k (fun m hm=>⟨(ih m hm).1.tD,(ih m hm).2⟩) (fun m hm=>Iw ds (ih m hm).1) f n0 N⟩
theorem amc(hT:T.OK P)(wZ:T.DK P)(ho:kU P T)(uM:DJ P T){r:DQ}(hc:jr P r.call)(ha:∀ ds f n0 N,@qZ P (ey P ds) N (r.turn f n0)∧@oK P (ey P ds) N (r.jump f n0)):jr P (Nk T r):=by
 intro f as σ n x σ' n' h hL hS
 unfold Nk at h
 split at h
 ·rename_i x1 hx
  cases h
  obtain⟨k1,k2⟩:=uM _ _ _ hx
  exact⟨ZM _,fun B B' _=>by rw[k1,k1],hS,fun B S=>((k2 B).sp _).mono fun r τ ⟨a,b⟩=>⟨B,.refl _ _,by rw[k1];exact a,b⟩⟩
 ·split at h
  ·cases h
  ·rename_i N a res JZ
   obtain⟨hlen,h⟩:=ff h
   have fin:∀ {Be:List AV} {eG:Store} {e:XE} {bh:af} {aK:Store} {n1:Nat} {x0:AV},Be.length=as.length→tI n Be→cV n eG→(e= .nrm∨e= .ret)→tz T r f n a (fF 0 Be) eG n=some (e,bh,aK,n1)→db bh aK res=some x0→
     n≤n1∧iC n1 x0∧cV n1 aK∧∀ B S,Spec P f (aG B Be) (aV B eG++S) fun r τ=>∃ B',Agree n B B'∧r= .ret (au B' x0)∧τ=aV B' aK++S:=by
    intro Be eG e bh aK n1 x0 hl hL hS he hx hr
    exact acD wZ JZ (by rw[hl];exact hlen) (fun ds=> @G8 P (ey P ds) T N _ _ _ _ _ hT.tD hc.tD ho.tD (Iw ds hc) (ha ds f n N).1 (ha ds f n N).2 n a 2 _ _ _ _ _ _ _ hx (fun B B' k=>by rw[DT,DT,hL B B' k]) hS) he hr
   have nil:∀ {e:XE} {bh:af} {aK:Store} {n1:Nat},(e= .nrm∨e= .ret)→tz T r f n a (fF 0 as) [] n=some (e,bh,aK,n1)→(match db bh aK res with
      |some x=>some (dV kz x,gc n [x] (mn kz aK)++σ,n1)
      |none=>none)=some (x,σ',n')→n≤n'∧iC n' x∧cV n' σ'∧∀ B S,Spec P f (aG B as) (aV B σ++S) fun r τ=>∃ B',Agree n B B'∧r= .ret (au B' x)∧τ=aV B' σ'++S:=by
    intro e bh aK n1 he hx h
    split at h
    ·rename_i x0 hr
     cases h
     obtain⟨h1,h2,h3,h4⟩:=fin rfl hL (fun _ _ _=>rfl) he hx hr
     refine⟨h1,fun B B' k=>yb _ (h2 B B' k),fun B B' k=>by rw[L9,L9,Ey _ (ye _ (h3 B B' k)),(hS.le h1) B B' k],fun B S=> ?_⟩
     refine(h4 B (aV B σ++S)).FV ?_
     rintro _ _ ⟨B',hA,rfl,rfl⟩
     refine⟨_,_,⟨B',hA,rfl,rfl⟩,?_,yc _⟩
     rw[L9,Zt,hS B B' hA]
     exact dI.app ((Ez _).trans (yf _)) (.refl _)
    ·cases h
   have tag:∀ {e:XE} {bh:af} {aK:Store} {n1:Nat},(e= .nrm∨e= .ret)→tz T r f n a (fF 0 (ka kz as)) (mn kz σ) n=some (e,bh,aK,n1)→(match db bh aK res with
      |some x=>some (dV (Dj σ) (dV kz x),mn (Dj σ) (gc n [x] (mn kz aK)),n1)
      |none=>none)=some (x,σ',n')→n≤n'∧iC n' x∧cV n' σ'∧∀ B S,Spec P f (aG B as) (aV B σ++S) fun r τ=>∃ B',Agree n B B'∧r= .ret (au B' x)∧τ=aV B' σ'++S:=by
    intro e bh aK n1 he hx h
    split at h
    ·rename_i x0 hr
     cases h
     have hl:(ka kz as).length=as.length:=by
      have:=(qO (B:=fun _=>(0,0,0)) (f:=kz) as).get.1
      rw[pG,pG]at this;exact this.symm
     obtain⟨h1,h2,h3,h4⟩:=fin hl (fun B B' k=>sR _ (hL B B' k)) (fun B B' k=>ye _ (hS B B' k)) he hx hr
     refine⟨h1,fun B B' k=>yb _ (yb _ (h2 B B' k)),fun B B' k=>ye _ (Ey _ (ye _ (h3 B B' k))),fun B S=> ?_⟩
     refine((h4 B S).aiz (qO _) (dI.app (yf _) (.refl _))).FV ?_
     rintro _ _ ⟨B',hA,rfl,rfl⟩
     exact⟨_,_,⟨B',hA,rfl,rfl⟩,dI.app ((yf _).trans ((Ez _).trans (yf _))) (.refl _),(yc _).trans (yc _)⟩
    ·cases h
   split at h
   ·split at h
    ·exact nil (.inl rfl) ‹_› h
    ·exact nil (.inr rfl) ‹_› h
    ·cases h
   ·split at h
    ·exact tag (.inl rfl) ‹_› h
    ·exact tag (.inr rfl) ‹_› h
    ·cases h
theorem ame(hT:T.OK P)(wZ:T.DK P)(ho:kU P T)(uM:DJ P T)(k:Nat):jr P (eN T k).call∧∀ ds f n0 N,@qZ P (ey P ds) N ((eN T k).turn f n0)∧@oK P (ey P ds) N ((eN T k).jump f n0):=by
 induction k using Nat.strongRecOn with
 |_ k ih=>
  cases k with
  |zero=>exact⟨fun _ _ _ _ _ _ _ h=>(by cases h),fun _ _ _ _=>⟨fun _ _ _ _ _ _ _ _ h=>(by cases h),fun _ _ _ _ _=>⟨fun _ _ _ _ _=>False,fun _ _ _ _ h=>(by cases h),fun _ _ _ _ _ h=>h.elim⟩⟩⟩
  |succ k=>
   obtain⟨hc,ha⟩:=ih k (X9 _)
   refine⟨amc hT wZ ho uM hc ha,fun ds=> ?_⟩
   exact alb hT ho k ds fun m hm=>⟨(ih m hm).1,(ih m hm).2 ds⟩
theorem Pure.exec(hT:T.OK P)(wZ:T.DK P)(ho:kU P T)(uM:DJ P T)(k:Nat){f:FuncId}{as:List AV}{r:AV}(h:pU (eN T k).call f as 0=some r):Pure P f as r:=(Iv (ame hT wZ ho uM k).1 h).2
end
def bp{P:Program}[Glob P]{f N:Nat}{a:AC}{res:List RC}(h:nB P f N a.erase res):Nat×Nat×AC×List RC:=(f,N,a,res)
def look:List (Nat×Nat×AC×List RC)→Nat→Option (Nat×AC×List RC)
 |[],_=>none
 |(g,x)::l,f=>bif Nat.beq g f then some x else look l f
inductive yK(P:Program)[Glob P]:List (Nat×Nat×AC×List RC)→Prop
 |nil:yK P []
 |cons {f N:Nat} {a:AC} {res:List RC} {l:List (Nat×Nat×AC×List RC)} (h:nB P f N a.erase res) (t:yK P l):yK P (bp h::l)
theorem yK.look{P:Program}[Glob P]{l:List (Nat×Nat×AC×List RC)}(h:yK P l):∀ f N a res,look l f=some (N,a,res)→nB P f N a.erase res:=by
 induction h with
 |nil=>intro f N a res h;cases h
 |cons h t ih=>
  intro f N a res hl
  simp only[Sx.look,bp]at hl
  rename_i g N' a' apS l'
  cases hb:Nat.beq g f with
  |true=>
   rw[hb]at hl
   cases hl
   have e:=Z2 hb
   subst e
   exact h
  |false=>rw[hb]at hl;exact ih _ _ _ _ hl
theorem js.r{P:Program}[Glob P][ie P]{f N:Nat}{a:AC}{res:List RC}(k:js P f N a res):nB P f N a.erase res:=nB.nil k.ex
def Idle(P:Program)[Glob P](ds:List Deferred):Prop:=
 ∀ (fn:Func) (tmps:Array Value) (K:Ending→World→Prop) (M:Mem) (w0:Base) (σ:Store) (w:World),Inv P M w0 σ w→
  (∀ w',Inv P M w0 σ w'→∃ v,(results fn tmps).run P w'= .ok v w'∧K (.returned v) w')→Leaves P fn tmps K ds .returning w
theorem Idle.nil{P:Program}[Glob P]:Idle P []:=fun _ _ _ _ _ _ w hI h=>h w hI
theorem nB.door{P:Program}[Glob P][ie P]{f:FuncId}{fn:Func}{c x y t:Code}{N:Nat}{s:SC}{res:List RC}(hf:P.funcs[f]? =some fn)(hb:fn.body=some c)(hN:fn.ntmps=N)(hr:qb P fn.results.toList=some res)
  (hs:∀ ds,@dj P (ey P ds) N (.seq x (.seq y t))=some s)
  (hd:∀ (cs:List Value) (w:World),∃ ds,(∀ post,jc P x (Exit.then (jc P y (Exit.then (t.wp P post) post)) post) {tmps:=cs.toArray++Array.replicate (fn.ntmps-cs.toArray.size) undef,defers:=ds} w→c.wp P post {tmps:=cs.toArray++Array.replicate (fn.ntmps-cs.toArray.size) undef,defers:=[]} w)∧Idle P ds):nB P f N s res:=by
 intro as σ Q hlen h M w0 w cs hI hl
 subst hN
 have hle:cs.length≤fn.ntmps:=by rw[← hl.1];exact hlen
 obtain⟨ds,h1,h2⟩:=hd cs w
 have E1:=hs ds
 simp only[dj]at E1
 split at E1
 ·rename_i sx sr hx eZ
  cases E1
  split at eZ
  ·rename_i sy st hy ht
   cases eZ
   have h:=h ds
   simp only[iD]at h
   refine calls_of_wp_defers hf hb (h1 _ ?_)
   have fin:∀ {e:Exit} {a':Act} {w':World},@jQ P (ey P ds) M w0 fn.ntmps (j8 res fun r σ=>∃ x,r= .ret x∧Q x σ) e a' w'→bodyPostD P fn (fun e w'=>∃ M' r σ',M.le M'∧Inv P M' w0 σ' w'∧kq M' r e∧∃ x,r= .ret x∧Q x σ') e a' w':=by
    rintro e a' w' ⟨M',ak,σ',hM,bw,oW,hN,hD,hq⟩
    have bw:=Inv.oD bw
    have hD:a'.defers=ds:=hD
    have fin:∀ x,db ak σ' res=some x→Q x σ'→Leaves P fn a'.tmps (fun e w'=>∃ M' r σ',M.le M'∧Inv P M' w0 σ' w'∧kq M' r e∧∃ x,r= .ret x∧Q x σ') a'.defers .returning w':=by
     intro x hx hQ
     rw[hD]
     refine h2 fn a'.tmps _ M' w0 σ' w' bw fun AP JK=> ?_
     unfold db at hx
     have cY:∀ xs,nw ak σ' res=some xs→∃ vs,(fn.results.mapM (yg a'.tmps):Sem (Array Value)).run P AP= .ok vs.toArray AP∧RL M' xs vs:=by
      intro xs dA
      obtain⟨vs,h1,h2⟩:=Md fn.results.toList res xs hr dA JK oW
      exact⟨vs,by rw[Array.mapM_eq_mapM_toList,Sem.run_map,h1];rfl,h2⟩
     split at hx
     ·rename_i y hy
      cases hx
      obtain⟨vs,h1,h2⟩:=cY _ hy
      obtain⟨v,vs',rfl,h3,h4⟩:=h2.bg
      obtain rfl:=h4.qU
      refine⟨v,?_,M',.ret x,σ',hM,JK,h3,x,rfl,hQ⟩
      rw[F8,Sem.run_bind,h1]
      simp
     ·rename_i xs aH hy
      cases hx
      obtain⟨vs,h1,h2⟩:=cY _ hy
      refine⟨.tuple vs.toArray,?_,M',.ret (.aP xs),σ',hM,JK,R.vh h2,_,rfl,hQ⟩
      rw[F8,Sem.run_bind,h1]
      simp only[Result.andThen_ok,Sem.run_pure]
      rw[dif_neg]
      intro aY
      have qn:xs.length=1:=by rw[h2.1];simpa using aY
      obtain⟨y,rfl⟩:=List.length_eq_one_iff.1 qn
      exact aH y rfl
     ·cases hx
    cases e with
    |normal=>obtain⟨x,hx,y,e,hQ⟩:=hq;cases e;exact fin x hx hQ
    |ret=>obtain⟨x,hx,y,e,hQ⟩:=hq;cases e;exact fin x hx hQ
    |panic ch=>obtain⟨_,e,_⟩:=hq;cases e
    |_=>exact hq.elim
   refine Bp (h x hx M w0 _ w (Inv.tD hI) (Im as cs 0 _ hl (fun i v hv=> ?_)) (by simp;omega) rfl) ?_
   ·have hi:i<cs.length:=(ZK.1 hv).1
    rw[ZA,XN (by simpa using hi)]
    simpa using hv
   ·rintro e a1 w1 ⟨M1,bh,aK,k1,k2,k3,k4,k5,k6⟩
    cases e with
    |normal=>
     refine Bp (k6 y hy M1 w0 a1 w1 k2 k3 k4 k5) ?_
     rintro e a2 w2 ⟨M2,bJ,aC,g1,g2,g3,g4,g5,g6⟩
     cases e with
     |normal=>exact wp_mono (qd (g6 t ht M2 w0 a2 w2 g2 g3 g4 g5)) fun e a w ⟨M3,eg,dP,q1,q2⟩=>fin ⟨M3,eg,dP,(k1.trans g1).trans q1,q2⟩
     |ret=>exact fin (e:= .ret) ⟨M2,bJ,aC,k1.trans g1,g2,g3,g4,g5,g6⟩
     |exit i=>exact fin (e:= .exit i) ⟨M2,bJ,aC,k1.trans g1,g2,g3,g4,g5,g6⟩
     |goto i=>exact fin (e:= .goto i) ⟨M2,bJ,aC,k1.trans g1,g2,g3,g4,g5,g6⟩
     |panic i=>exact fin (e:= .panic i) ⟨M2,bJ,aC,k1.trans g1,g2,g3,g4,g5,g6⟩
     |outgrown=>exact fin (e:= .outgrown) ⟨M2,bJ,aC,k1.trans g1,g2,g3,g4,g5,g6⟩
    |ret=>exact fin (e:= .ret) ⟨M1,bh,aK,k1,k2,k3,k4,k5,k6⟩
    |exit i=>exact fin (e:= .exit i) ⟨M1,bh,aK,k1,k2,k3,k4,k5,k6⟩
    |goto i=>exact fin (e:= .goto i) ⟨M1,bh,aK,k1,k2,k3,k4,k5,k6⟩
    |panic i=>exact fin (e:= .panic i) ⟨M1,bh,aK,k1,k2,k3,k4,k5,k6⟩
    |outgrown=>exact fin (e:= .outgrown) ⟨M1,bh,aK,k1,k2,k3,k4,k5,k6⟩
  ·cases eZ
 ·cases E1
def Gn(o:Oper):Oper:=match o.op with
 | .defer _=>{o with op:= .move (.const (.bool false)),dst:=none}
 |_=>o
def mq:Code→Code
 | .region id ops d=> .region id (ops.toList.map Gn).toArray d
 | .seq a b=> .seq (mq a) (mq b)
 | .cond c a b=> .cond c (mq a) (mq b)
 | .block id b=> .block id (mq b)
 | .loop b=> .loop (mq b)
 |c=>c
def yX(P:Program)[Glob P](fn:Func):Option FC:=match fn.body with
 |some c=>match dj P fn.ntmps (mq c),qb P fn.results.toList with
  |some s,some r=>some ⟨fn.ntmps,s,r⟩
  |_,_=>none
 |none=>none
structure Hk(P:Program)[Glob P](f:FuncId)(N:Nat)(a:AC)(res:List RC):Type where
 ex:∃ fn,P.funcs[f]? =some fn∧∀ ds,@yX P (ey P ds) fn=some ⟨N,a.erase,res⟩
theorem abB{P:Program}[Glob P]{f:FuncId}{fn:Func}{N:Nat}{a:AC}{res:List RC}(hf:P.funcs[f]? =some fn)(h:∀ ds,(@yX P (ey P ds) fn).map wq=some (N,a,res)):∃ fn,P.funcs[f]? =some fn∧∀ ds,@yX P (ey P ds) fn=some ⟨N,a.erase,res⟩:=
 ⟨fn,hf,fun ds=>by
  obtain⟨c,h1,h2⟩:=Z7.1 (h ds)
  simp only[wq,Y3]at h2
  obtain⟨rfl,rfl,rfl⟩:=h2
  rw[rq];exact h1⟩
def kd{P:Program}[Glob P]{f:FuncId}{fn:Func}{N:Nat}{a:AC}{res:List RC}(hf:P.funcs[f]? =some fn)(h:∀ ds,(@yX P (ey P ds) fn).map wq=some (N,a,res):=by intro ds;conv=>{lhs;cbv;try simp(maxSteps:=10000000)only[LD,UInt8.reduceOfNat,Int.reduceOfNat,Int.reduceNegSucc,LC]}):Hk P f N a res:=⟨abB hf h⟩
def q8(P:Program)[Glob P](fn:Func):Prop:=∃ c x y t,fn.body=some c∧mq c= .seq x (.seq y t)∧∀ (cs:List Value) (w:World),∃ ds,(∀ post,jc P x (Exit.then (jc P y (Exit.then (t.wp P post) post)) post) {tmps:=cs.toArray++Array.replicate (fn.ntmps-cs.toArray.size) undef,defers:=ds} w→c.wp P post {tmps:=cs.toArray++Array.replicate (fn.ntmps-cs.toArray.size) undef,defers:=[]} w)∧Idle P ds
theorem q8.of{P:Program}[Glob P]{fn:Func}{r0 r1 T:Code}(hb:fn.body=some (.seq r0 (.seq r1 T)))(hT:mq T=T)
  (h:∀ (cs:List Value) (w:World),∃ ds,(∀ (T:Code) post,jc P (mq r0) (Exit.then (jc P (mq r1) (Exit.then (T.wp P post) post)) post) {tmps:=cs.toArray++Array.replicate (fn.ntmps-cs.toArray.size) undef,defers:=ds} w→(Code.seq r0 (.seq r1 T)).wp P post {tmps:=cs.toArray++Array.replicate (fn.ntmps-cs.toArray.size) undef,defers:=[]} w)∧Idle P ds):q8 P fn:=
 ⟨_,_,_,_,hb,rfl,fun cs w=>let⟨ds,h1,h2⟩:=h cs w;⟨ds,fun post h=>h1 T post (by rw[hT]at h;exact h),h2⟩⟩
theorem tP{post:Exit→Act→World→Prop}{A:Prop}{K K':Act→World→Prop}(h:A∧LetsOut (Exit.then K post)):A∧LetsOut (Exit.then K' post):=let⟨h1,a,w,h2⟩:=h;⟨h1,a,w,h2⟩
theorem Hk.r{P:Program}[Glob P][ie P]{f N:Nat}{a:AC}{res:List RC}(k:Hk P f N a res){fn:Func}(hf:P.funcs[f]? =some fn)(hd:q8 P fn):nB P f N a.erase res:=by
 obtain⟨PR,h1,h2⟩:=k.ex
 rw[hf]at h1
 cases h1
 obtain⟨c,x,y,t,hb,he,hd⟩:=hd
 have h3:=h2 []
 unfold yX at h3
 rw[hb]at h3
 simp only at h3
 split at h3
 ·rename_i s r hs hr
  cases h3
  rw[P0]at hr
  refine nB.door hf hb rfl hr (fun ds=> ?_) hd
  have h4:=h2 ds
  unfold yX at h4
  rw[hb]at h4
  simp only at h4
  split at h4
  ·rename_i s' r' lX EZ
   simp only[Z1,FC.mk.injEq,Yf]at h4
   rw[← h4.1,← he];exact lX
  ·cases h4
 ·cases h3
end Go.Sx
