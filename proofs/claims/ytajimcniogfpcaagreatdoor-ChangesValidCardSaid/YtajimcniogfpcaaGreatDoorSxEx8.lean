/-
  The layer Sx, an executor: other tags, and entries left out.
-/
import Derived.Test.YtajimcniogfpcaaGreatDoorSxEx6
set_option linter.unusedVariables false
set_option linter.unusedSimpArgs false
set_option linter.unusedSectionVars false
namespace Go.Sx
open Go.RowKit
theorem bC.trans{a b c:List AV}(h:bC a b)(k:bC b c):bC a c:=by
 induction h generalizing c with
 |nil=>exact k
 |cons hx _ ih=>cases k with
  |cons hy ht=>exact .cons (hx.trans hy) (ih ht)
inductive BW:aR→aR→Prop
 |cells {l m:List AV} (h:bC l m):BW (.cells l) (.cells m)
 |tail (u c:Nat):BW (.tail u c) (.tail u c)
 |map {es Ed:List (Value×Nat×AV)} (k:Nat) (h:es.map (fun e=>(e.1,e.2.1))=Ed.map (fun e=>(e.1,e.2.1))) (hw:bC (es.map (·.2.2)) (Ed.map (·.2.2))):BW (.map es k) (.map Ed k)
inductive dI:Store→Store→Prop
 |nil:dI [] []
 |skip {σ' σ:Store} (e:Nat×Nat×aR) (h:dI σ' σ):dI σ' (e::σ)
 |aQ {σ' σ:Store} (t t' b:Nat) {x y:aR} (hb:BW x y) (h:dI σ' σ):dI ((t',b,y)::σ') ((t,b,x)::σ)
theorem BW.ok{M:Mem}{w:World}{b:Nat}{x y:aR}(h:BW x y)(k:BlkOK M w b x):BlkOK M w b y:=by
 cases h with
 |cells h=>obtain⟨k1,cs,t,k2,k3⟩:=k;exact⟨k1,cs,t,k2,h.sound k3⟩
 |tail u c=>exact k
 |map k0 h hw=>obtain⟨k1,l,k2,k3,k4⟩:=k;exact⟨k1,l,k2,k3.trans h,hw.sound k4⟩
theorem dI.mem{σ' σ:Store}(h:dI σ' σ):∀ e∈σ',∃ e0∈σ,e0.2.1=e.2.1∧BW e0.2.2 e.2.2:=by
 induction h with
 |nil=>exact fun _ h=>absurd h (by simp)
 |skip e _ ih=>intro x hx;obtain⟨e0,h1,h2⟩:=ih x hx;exact⟨e0,ZO _ h1,h2⟩
 |aQ t t' b hb _ ih=>
  intro x hx
  rcases ZT.1 hx with rfl|hx
  ·exact⟨_,ZC,rfl,hb⟩
  ·obtain⟨e0,h1,h2⟩:=ih x hx;exact⟨e0,ZO _ h1,h2⟩
theorem dI.blocks{σ' σ:Store}(h:dI σ' σ):(σ'.map (·.2.1)).Sublist (σ.map (·.2.1)):=by
 induction h with
 |nil=>exact .slnil
 |skip e _ ih=>exact ih.cons _
 |aQ t t' b hb _ ih=>exact ih.cons_cons _
theorem Inv.MD{P:Program}[Glob P]{M:Mem}{w0:Base}{w:World}{σ σ':Store}(hI:Inv P M w0 σ' w)(h:dI σ σ'):Inv P M w0 σ w:=by
 refine⟨hI.os,hI.tape,hI.output,hI.size,hI.old,hI.cH,fun e he=> ?_,hI.nd.sublist h.blocks,hI.gl,hI.gw,hI.bm⟩
 obtain⟨e0,h1,h2,h3⟩:=h.mem e he
 obtain⟨k1,k2⟩:=hI.st e0 h1
 rw[h2]at k1 k2
 exact⟨k1,h3.ok k2⟩
theorem SW.G5{P:Program}[Glob P]{N:Nat}{s:SC}{Q:Exit→af→Store→Prop}{rg ak:af}{σ σ':Store}(h:SW P N s Q ak σ')(hr:gd rg ak)(hs:dI σ' σ):SW P N s Q rg σ:=
 fun c hc M w0 a w hI hR hN hD=>h c hc M w0 a w (hI.MD hs) (fun i=>hr.lk i _ _ (hR i)) hN hD
theorem Spec.aiz{P:Program}[Glob P]{f:FuncId}{as bs:List AV}{σ σ':Store}{Q:eQ→Store→Prop}(h:Spec P f bs σ' Q)(hw:bC as bs)(hs:dI σ' σ):Spec P f as σ Q:=
 fun M w0 w cs hI hl=>h M w0 w cs (hI.MD hs) (hw.sound hl)
theorem Spec.FV{P:Program}[Glob P]{f:FuncId}{as:List AV}{σ:Store}{Q Q':eQ→Store→Prop}(h:Spec P f as σ Q)(hq:∀ r σ',Q r σ'→∃ r2 aC,Q' r2 aC∧dI aC σ'∧(match r,r2 with| .ret x,.ret y=>Wk x y| .gL c,.gL c'=>c=c'|_,_=>False)):Spec P f as σ Q':=by
 intro M w0 w cs hI hl
 refine(h M w0 w cs hI hl).mono fun e w' ⟨M',r,σ',a,b,c,d⟩=> ?_
 obtain⟨r2,aC,h1,h2,h3⟩:=hq r σ' d
 refine⟨M',r2,aC,a,b.MD h2,?_,h1⟩
 cases r<;>cases r2<;>cases e<;>simp only[kq]at c h3 ⊢<;>try exact c.elim
 ·exact h3 _ _ c
 ·exact h3 ▸ c
theorem dI.refl:∀ σ:Store,dI σ σ
 |[]=> .nil
 |(t,b,x)::σ=> .aQ _ _ _ (by
   cases x with
   |cells l=>exact .cells (bC.refl l)
   |tail u c=>exact .tail u c
   |map es k=>exact .map k rfl (bC.refl _)) (dI.refl σ)
theorem dI.app{a b c d:Store}(h:dI a b)(k:dI c d):dI (a++c) (b++d):=by
 induction h with
 |nil=>exact k
 |skip e _ ih=>exact .skip e ih
 |aQ t t' b hb _ ih=>exact .aQ _ _ _ hb ih
theorem dI.drop{a b:Store}:dI b (a++b):=by
 induction a with
 |nil=>exact .refl _
 |cons e a ih=>exact .skip e ih
section
variable {B:BM}{f:Nat→Nat→Nat}
theorem Wk.ms'{t t' b o n c:Nat}:Wk (.ms t b o n c) (.ms t' b o n c):=fun M v h=>by cases h;exact .ms _ _ _ _ _
theorem Wk.ahK{t t' b:Nat}:Wk (.bH t b) (.bH t' b):=fun M v h=>by cases h;exact .bH _ _
theorem Wk.aip{e t t' b u c:Nat}{x y:List (List AV)}(h:yM x y):Wk (.own e t b u c x) (.own e t' b u c y):=fun M v k=>by
 obtain⟨el,h⟩:=h
 cases k with
 |own _ _ _ _ _ _ off cap cs h1 h2 h3 h4 h5 h6 h7=>
  rw[el]
  refine .own _ _ _ _ _ _ off cap cs (fun i hi=> ?_) (fun k hk=>h2 k (by rwa [el])) (fun i hi j hj=> ?_) (by omega) h5 (by rw[← el];exact h6) h7
  ·rw[← (h i (by omega) hi).get.1];exact h1 i (by omega)
  ·have hg:=(h i (by omega) hi).get
   exact hg.2 j (by omega) hj _ _ (h3 i (by omega) j (by omega))
mutual
theorem aeF:∀ (x:AV) (l l':List AV),ik l=ik l'→ik (au B (dV f x)::l)=ik (au B x::l')
 | .cl g a c,l,l',h=>by
  simp only[dV,au,ug a,ug c]
  split<;>simp only[ik,h]
 | .v _,l,l',h=>by simp only[dV,au,ik,h]
 | .agg _,_,_,_| .any,_,_,_| .aP _,_,_,_| .pc _,_,_,_| .sl ..,_,_,_| .fl ..,_,_,_| .own ..,_,_,_| .ms ..,_,_,_| .lp ..,_,_,_| .bH ..,_,_,_| .dN ..,_,_,_| .ai _,_,_,_=>by simp only[dV,au,ik]
theorem Pc:∀ (l:List AV),ik (aG B (ka f l))=ik (aG B l)
 |[]=>rfl
 |x::l=>aeF x _ _ (Pc l)
theorem aeG:∀ (x:AV) (l l':List AV),bV l=bV l'→bV (au B (dV f x)::l)=bV (au B x::l')
 | .cl g a c,l,l',h=>by
  simp only[dV,au,ug a,ug c]
  split<;>simp only[bV,h]
 | .agg xs,l,l',h=>by simp only[dV,au,bV,Pc xs,h]
 | .v _,l,l',h=>by simp only[dV,au,bV,h]
 | .lp ..,l,l',h=>by simp only[dV,au,bV,h]
 | .any,_,_,_| .aP _,_,_,_| .pc _,_,_,_| .sl ..,_,_,_| .fl ..,_,_,_| .own ..,_,_,_| .ms ..,_,_,_| .bH ..,_,_,_| .dN ..,_,_,_| .ai _,_,_,_=>by simp only[dV,au,bV]
theorem ug:∀ (l:List AV),bV (aG B (ka f l))=bV (aG B l)
 |[]=>rfl
 |x::l=>aeG x _ _ (ug l)
end
mutual
theorem yc:∀ (x:AV),Wk (au B x) (au B (dV f x))
 | .v _| .any| .ai _=>Wk.refl _
 | .agg xs=>Wk.agg (qO xs)
 | .aP xs=>Wk.aP (qO xs)
 | .pc xs=>Wk.LP (qO xs)
 | .sl nn e rows=>Wk.Gj (Gb rows)
 | .fl e rows=>Wk.Jk (Gb rows)
 | .own e _ _ _ _ rows=>Wk.aip (Gb rows)
 | .ms .. =>Wk.ms'
 | .lp .. =>Wk.lp
 | .bH .. =>Wk.ahK
 | .dN t x=>Wk.Rt (yc x)
 | .cl g a c=>by
  have ha:=qO a
  have hc:=qO c
  simp only[dV,au,ug a,ug c]
  split
  ·exact Wk.refl _
  ·exact Wk.lr ha hc
theorem qO:∀ (l:List AV),bC (aG B l) (aG B (ka f l))
 |[]=> .nil
 |x::l=> .cons (yc x) (qO l)
theorem Gb:∀ (l:List (List AV)),yM (dQ B l) (dQ B (pH f l))
 |[]=>⟨rfl,fun i h=>absurd h (by simp[dQ])⟩
 |x::l=>by
  obtain⟨e,k⟩:=Gb l
  refine⟨by simp[dQ,pH,e],fun i h1 h2=> ?_⟩
  cases i with
  |zero=>exact qO x
  |succ i=>simpa[dQ,pH]using k i (by simpa[dQ]using h1) (by simpa[dQ,pH]using h2)
end
theorem Mf:∀ (rg:af),gd (bW B rg) (bW B (Av f rg))
 |[]=> .nil
 |(i,x)::l=> .cons (yc x) (Mf l)
theorem aje(b:Nat)(x:aR):BW (fZ B b x) (fZ B b (Au f x)):=by
 cases x with
 |cells l=>exact .cells (qO l)
 |tail u c=>exact .tail _ _
 |map es k=>
  refine .map k (by simp[Yi,Function.comp_def]) ?_
  simp only[Yi,Function.comp_def]
  induction es with
  |nil=>exact .nil
  |cons e es ih=>exact .cons (yc _) ih
theorem yf:∀ (σ:Store),dI (aV B (mn f σ)) (aV B σ)
 |[]=> .nil
 |(t,b,x)::l=> .aQ _ _ _ (aje b x) (yf l)
theorem Jt{n0:Nat}{live:List Nat}:∀ (σ:Store),dI (aV B (uq n0 live σ)) (aV B σ)
 |[]=> .nil
 |(t,b,x)::l=>by
  simp only[uq,aV]
  cases Nat.blt b n0 || live.elem b
  ·exact .skip _ (Jt l)
  ·have:=dI.refl (aV B [(t,b,x)])
   exact dI.app this (Jt l)
theorem Ez{n0:Nat}{rs:List AV}(σ:Store):dI (aV B (gc n0 rs σ)) (aV B σ):=by
 unfold gc
 split
 ·exact .nil
 ·exact Jt _
theorem dI.trans{a b c:Store}(h:dI a b)(k:dI b c):dI a c:=by
 induction k generalizing a with
 |nil=>exact h
 |skip e _ ih=>exact .skip e (ih h)
 |aQ t t' b hb k ih=>
  cases h with
  |skip e h=>exact .skip _ (ih h)
  |aQ _ t2 _ dK h=>
   refine .aQ _ _ _ ?_ (ih h)
   cases hb with
   |cells h1=>cases dK with
    |cells h2=>exact .cells (h1.trans h2)
   |tail u c=>exact dK
   |map k1 e1 w1=>cases dK with
    |map _ e2 w2=>exact .map _ (e1.trans e2) (w1.trans w2)
end
section
variable {f:Nat→Nat→Nat}{B B':BM}
mutual
theorem yb:∀ (x:AV),au B x=au B' x→au B (dV f x)=au B' (dV f x)
 | .v _,_| .any,_| .ai _,_=>rfl
 | .agg xs,h=>by simp only[au,AV.agg.injEq]at h;simp only[dV,au,sR xs h]
 | .aP xs,h=>by simp only[au,AV.aP.injEq]at h;simp only[dV,au,sR xs h]
 | .pc xs,h=>by simp only[au,AV.pc.injEq]at h;simp only[dV,au,sR xs h]
 | .sl nn e rows,h=>by simp only[au,AV.sl.injEq,Yf]at h;simp only[dV,au,Ga rows h]
 | .fl e rows,h=>by simp only[au,AV.fl.injEq,Yf]at h;simp only[dV,au,Ga rows h]
 | .own e t b u c rows,h=>by simp only[au,AV.own.injEq,Yf]at h;simp only[dV,au,Ga rows h.2.2.2,h.1,h.2.1,h.2.2.1]
 | .ms t b o n c,h=>by simp only[au,AV.ms.injEq,Yf,Zn]at h;simp only[dV,au,h]
 | .lp t b o,h=>by simp only[au,AV.lp.injEq,Yf,Zn]at h;simp only[dV,au,h]
 | .bH t b,h=>by simp only[au,AV.bH.injEq,Yf]at h;simp only[dV,au,h]
 | .dN t x,h=>by simp only[au,AV.dN.injEq,Yf]at h;simp only[dV,au,yb x h]
 | .cl g a c,h=>by
  have fa:=sR a
  have fc:=sR c
  rcases jI (B:=B) g a c with⟨a1,c1,qi,cq,e1⟩|⟨n1,e1⟩<;>rcases jI (B:=B') g a c with⟨a2,c2,o0,c8,e2⟩|⟨n2,e2⟩<;>rw[e1,e2]at h<;>simp only[AV.v.injEq,Value.func.injEq,AV.cl.injEq,reduceCtorEq,Yf]at h
  ·have q1:a1=a2:=by simpa using h.1
   have q2:c1=c2:=by simpa using h.2
   simp only[dV,au,ug,qi,cq,o0,c8,q1,q2]
  ·simp only[dV,au,fa h.1,fc h.2]
theorem sR:∀ (l:List AV),aG B l=aG B' l→aG B (ka f l)=aG B' (ka f l)
 |[],_=>rfl
 |x::l,h=>by simp only[aG,Z3]at h;simp only[ka,aG,yb x h.1,sR l h.2]
theorem Ga:∀ (l:List (List AV)),dQ B l=dQ B' l→dQ B (pH f l)=dQ B' (pH f l)
 |[],_=>rfl
 |x::l,h=>by simp only[dQ,Z3]at h;simp only[pH,dQ,sR x h.1,Ga l h.2]
end
theorem Me:∀ (l:af),bW B l=bW B' l→bW B (Av f l)=bW B' (Av f l)
 |[],_=>rfl
 |(i,x)::l,h=>by simp only[bW,Z3,Y3,Yf]at h;simp only[Av,bW,yb x h.1,Me l h.2]
theorem ajd(b:Nat)(x:aR)(h:fZ B b x=fZ B' b x):fZ B b (Au f x)=fZ B' b (Au f x):=by
 cases x with
 |cells l=>simp only[fZ,aR.cells.injEq]at h;simp only[Au,fZ,sR l h]
 |tail u c=>exact h
 |map es k=>
  simp only[fZ,aR.map.injEq,Zn]at h
  simp only[Au,fZ,aR.map.injEq,Zn,Yi]
  induction es with
  |nil=>rfl
  |cons e es ih=>
   simp only[ZE,Z3,Y3,Yf]at h ⊢
   exact⟨by simpa using yb _ h.1,ih h.2⟩
theorem ye:∀ (l:Store),aV B l=aV B' l→aV B (mn f l)=aV B' (mn f l)
 |[],_=>rfl
 |(t,b,x)::l,h=>by
  simp only[aV,Z3,Y3,Yf]at h
  simp only[mn,aV,ajd b x h.1.2,ye l h.2,h.1.1]
theorem Js{n0:Nat}{live:List Nat}:∀ (l:Store),aV B l=aV B' l→aV B (uq n0 live l)=aV B' (uq n0 live l)
 |[],_=>rfl
 |(t,b,x)::l,h=>by
  simp only[aV,Z3,Y3,Yf]at h
  simp only[uq]
  cases Nat.blt b n0 || live.elem b
  ·exact Js l h.2
  ·simp only[Y6,aV,h.1.1,h.1.2,Js l h.2]
theorem Ey{n0:Nat}{rs:List AV}(l:Store)(h:aV B l=aV B' l):aV B (gc n0 rs l)=aV B' (gc n0 rs l):=by
 unfold gc
 split
 ·rfl
 ·exact Js _ h
theorem wQ(rg:af):∀ (ks:List Nat),eR ks (bW B rg)=bW B (eR ks rg)
 |[]=>rfl
 |k::ks=>by simp only[eR,bW,nh,wQ rg ks]
end
def Ie:XE→Exit
 | .nrm=> .normal
 | .ret=> .ret
 | .exit i=> .exit i
 | .goto l=> .goto l
section
variable {P:Program}[Glob P]{T:XT}{N:Nat}{cfg:Nat→Nat}{call:FuncId→List AV→Store→Nat→XO}{ej:FuncId→List AV→Nat→Option AV}{again:AC→af→Store→Nat→XS}{jump:AC→Nat→af→Store→Nat→XS}
def DG(n:Nat)(B:BM)(S:Store)(e:XE)(ak:af)(σ':Store)(e1:Exit)(bh:af)(aK:Store):Prop:=
 e1=Ie e∧∃ B',Agree n B B'∧bh=bW B' ak∧aK=aV B' σ'++S
def tE(P:Program)[Glob P](N:Nat)(s:SC)(n:Nat)(rg:af)(σ:Store)(e:XE)(ak:af)(σ':Store)(n':Nat):Prop:=
 n≤n'∧dq n' ak∧cV n' σ'∧∀ B S,SW P N s (DG n B S e ak σ') (bW B rg) (aV B σ++S)
def qZ(P:Program)[Glob P](N:Nat)(again:AC→af→Store→Nat→XS):Prop:=
 ∀ b rg σ n e ak σ' n',again b rg σ n=some (e,ak,σ',n')→dq n rg→cV n σ→tE P N (.loop b.erase) n rg σ e ak σ' n'
def oK(P:Program)[Glob P](N:Nat)(jump:AC→Nat→af→Store→Nat→XS):Prop:=
 ∀ b e ak σ' n',∃ J:Nat→Nat→af→Store→Nat→Prop,(∀ l rg σ n,jump b l rg σ n=some (e,ak,σ',n')→∃ m,J m l rg σ n)∧∀ m l rg σ n,J m l rg σ n→dq n rg→cV n σ→
  ∃ r,mL b.erase l=some r∧(((∀ l',e≠.goto l')∧tE P N r n rg σ e ak σ' n')∨∃ l' bh aK n1 m',m'<m∧J m' l' bh aK n1∧tE P N r n rg σ (.goto l') bh aK n1)
theorem oK.end(hj:oK P N jump){b:AC}{e:XE}{ak:af}{σ':Store}{n':Nat}{l:Nat}{rg:af}{σ:Store}{n:Nat}(h:jump b l rg σ n=some (e,ak,σ',n'))(hG:dq n rg)(hS:cV n σ):(∀ l',e≠.goto l')∧n≤n'∧dq n' ak∧cV n' σ':=by
 obtain⟨J,h1,h2⟩:=hj b e ak σ' n'
 obtain⟨m,hm⟩:=h1 _ _ _ _ h
 clear h
 induction m using Nat.strongRecOn generalizing l rg σ n with
 |_ m ih=>
  obtain⟨r,_,⟨k0,k1,k2,k3,_⟩|⟨l',bh,aK,n1,m',ar,hJ,k1,k2,k3,_⟩⟩:=h2 m l rg σ n hm hG hS
  ·exact⟨k0,k1,k2,k3⟩
  ·obtain⟨g0,g1,g2,g3⟩:=ih m' ar k2 k3 hJ
   exact⟨g0,ZG k1 g1,g2,g3⟩
theorem Oi{st:FuncId→Bool}:∀ {l a b:List CI} {s:CI},wD st l=some (a,s,b)→l=a++s::b∧∃ f as,s.op= .call f as
 |[],_,_,_,h=>by cases h
 |c::l,a,b,s,h=>by
  have rest:(match wD st l with
   |some (a,s,b)=>some (c::a,s,b)
   |none=>none)=some (a,s,b)→c::l=a++s::b∧∃ f as,s.op= .call f as:=fun h=>by
   cases h2:wD st l with
   |none=>rw[h2]at h;cases h
   |some p=>
    obtain⟨a',s',b'⟩:=p
    rw[h2]at h;cases h
    obtain⟨e,k⟩:=Oi h2
    exact⟨by rw[e];rfl,k⟩
  simp only[wD]at h
  split at h
  ·rename_i f as dL
   cases hb:st f with
   |true=>rw[hb]at h;cases h;exact⟨rfl,f,as,dL⟩
   |false=>rw[hb]at h;exact rest h
  ·exact rest h
theorem We(hT:T.OK P)(hc:jr P call)(ho:kU P T)(hp:oF P ej){l1 l2:List CI}{s:CI}{n:Nat}{rg:af}{σ:Store}{ak:af}{σ':Store}{n':Nat}(h:Hb T cfg call ej l1 s l2 rg σ n=some (ak,σ',n'))(hG:dq n rg)(hS:cV n σ):
  n≤n'∧dq n' ak∧cV n' σ'∧∀ (B:BM) (S:Store) (K:af→Store→Prop),(∀ B',Agree n B B'→K (bW B' ak) (aV B' σ'++S))→
   bG P cfg [] (bare l1) (fun bh aK=>al P cfg s.d bh aK (fun x aC=>bG P cfg [] (bare l2) K (bj s.d x bh) aC) (fun _ _=>False) s.op) (bW B rg) (aV B σ++S):=by
 unfold Hb at h
 split at h
 ·rename_i bh aK n1 hx
  obtain⟨h1,h2,h3,h4⟩:=yw hT hp (bare l1) hx hG hS
  split at h
  ·rename_i x aC n2 hy
   obtain⟨k1,k2,k3,k4⟩:=Wg hT hc ho (dd:=s.d) hy h2 h3
   obtain⟨g1,g2,g3,g4⟩:=yw hT hp (bare l2) h ((h2.le k1).put k2 s.d) k3
   refine⟨by omega,g2,g3,fun B S K hK=>h4 B S _ fun B1 hA=>k4 B1 S _ _ fun B2 qg=> ?_⟩
   have e:bj s.d (au B2 x) (bW B1 bh)=bW B2 (bj s.d x bh):=by rw[sL,h2 B1 B2 qg]
   rw[e]
   exact g4 B2 S K fun B3 VM=>hK B3 ((hA.trans (qg.le h1)).trans (VM.le (by omega)))
  ·cases h
 ·cases h
theorem Tj{c:CI}(h:FG c=true):c.g=none:=by
 unfold FG at h;split at h
 ·assumption
 ·cases h
theorem al7(hT:T.OK P)(hc:jr P call)(ho:kU P T)(hp:oF P ej){l:List CI}{n:Nat}{rg:af}{σ:Store}{ak:af}{σ':Store}{n':Nat}(h:xD T cfg call ej l rg σ n=some (ak,σ',n'))(hG:dq n rg)(hS:cV n σ):
  n≤n'∧dq n' ak∧cV n' σ'∧∀ (B:BM) (S:Store) (Q:Exit→af→Store→Prop),(∀ B',Agree n B B'→Cl (Q .normal) (bW B' ak) (aV B' σ'++S))→SW P N (.dF l) Q (bW B rg) (aV B σ++S):=by
 unfold xD at h
 split at h
 ·rename_i l1 s l2 hl
  obtain⟨e,h4⟩:=IH hl
  subst e
  obtain⟨hb,h⟩:=ff h
  simp only[Z6]at hb
  have hg:=Tj hb.2
  obtain⟨k1,k2,k3,k4⟩:=We hT hc ho hp h hG hS
  refine⟨k1,k2,k3,fun B S Q hQ=>NF cfg h4 hb.1 hg ?_⟩
  have e:tL P cfg (Q .normal) s l2=fun bh aK=>al P cfg s.d bh aK (fun x aC=>bG P cfg [] (bare l2) (Cl (Q .normal)) (bj s.d x bh) aC) (fun _ _=>False) s.op:=by
   funext bh aK
   simp only[tL,dD,bY,hg,yF]
  rw[e]
  exact k4 B S (Cl (Q .normal)) hQ
 ·split at h
  ·rename_i l1 s l2 hl
   obtain⟨e,f,as,dL⟩:=Oi hl
   subst e
   obtain⟨hb,h⟩:=ff h
   simp only[Z6]at hb
   have hg:=Tj hb.1.2
   have xl:pC (l1++s::l2) 0=none:=by
    have:=hb.2
    unfold isNone at this
    split at this
    ·assumption
    ·cases this
   obtain⟨k1,k2,k3,k4⟩:=We hT hc ho hp h hG hS
   refine⟨k1,k2,k3,fun B S Q hQ=>NG cfg xl dL hb.1.1 hg ?_⟩
   have:=k4 B S (Cl (Q .normal)) hQ
   rw[dL]at this
   simp only[al,nA]at this
   exact this
  ·obtain⟨h1,h2,h3,h4⟩:=yw hT hp (bare l) h hG hS
   exact⟨h1,h2,h3,fun B S Q hQ=>HG cfg (h4 B S _ hQ)⟩
theorem fE(hT:T.OK P)(hc:jr P call)(ho:kU P T)(hp:oF P ej)(ha:qZ P N again)(hj:oK P N jump)(n0:Nat):∀ (a:AC) {rg:af} {σ:Store} {n:Nat} {e:XE} {ak:af} {σ':Store} {n':Nat},
  xC T cfg call ej n0 again jump a rg σ n=some (e,ak,σ',n')→dq n rg→cV n σ→tE P N a.erase n rg σ e ak σ' n'
 | .skip,rg,σ,n,e,ak,σ',n',h,hG,hS=>by
  cases h;exact⟨ZM _,hG,hS,fun B S=>H6 ⟨rfl,B,.refl _ _,rfl,rfl⟩⟩
 | .ret,rg,σ,n,e,ak,σ',n',h,hG,hS=>by
  cases h;exact⟨ZM _,hG,hS,fun B S=>HY ⟨rfl,B,.refl _ _,rfl,rfl⟩⟩
 | .exit i,rg,σ,n,e,ak,σ',n',h,hG,hS=>by
  cases h;exact⟨ZM _,hG,hS,fun B S=>HJ ⟨rfl,B,.refl _ _,rfl,rfl⟩⟩
 | .goto i,rg,σ,n,e,ak,σ',n',h,hG,hS=>by
  cases h;exact⟨ZM _,hG,hS,fun B S=>HQ ⟨rfl,B,.refl _ _,rfl,rfl⟩⟩
 | .label i,rg,σ,n,e,ak,σ',n',h,hG,hS=>by
  cases h;exact⟨ZM _,hG,hS,fun B S=>HT ⟨rfl,B,.refl _ _,rfl,rfl⟩⟩
 | .ck l,rg,σ,n,e,ak,σ',n',h,hG,hS=>by
  simp only[xC,AW]at h
  split at h
  ·rename_i hx
   cases h
   obtain⟨h1,h2,h3,h4⟩:=G9 hT hc ho l hx hG hS
   exact⟨h1,h2,h3,fun B S=>HX cfg (h4 B S _ _ fun B' hA=>⟨rfl,B',hA,rfl,rfl⟩)⟩
  ·cases h
 | .dF l,rg,σ,n,e,ak,σ',n',h,hG,hS=>by
  simp only[xC,AW]at h
  split at h
  ·rename_i hx
   cases h
   obtain⟨h1,h2,h3,h4⟩:=al7 (N:=N) hT hc ho hp hx hG hS
   exact⟨h1,h2,h3,fun B S=>h4 B S _ fun B' hA=>Cl.intro ⟨rfl,B',hA,rfl,rfl⟩⟩
  ·cases h
 | .eE ah l,rg,σ,n,e,ak,σ',n',h,hG,hS=>by
  simp only[xC,AW]at h
  split at h
  ·rename_i hx
   cases h
   obtain⟨h1,h2,h3,h4⟩:=yw hT hp l hx hG hS
   exact⟨h1,h2,h3,fun B S=>HV cfg (h4 B S _ fun B' hA=>⟨rfl,B',hA,rfl,rfl⟩)⟩
  ·cases h
 | .seq a b,rg,σ,n,e,ak,σ',n',h,hG,hS=>by
  simp only[xC]at h
  split at h
  ·rename_i bh aK n1 hx
   obtain⟨h1,h2,h3,h4⟩:=fE hT hc ho hp ha hj n0 a hx hG hS
   obtain⟨k1,k2,k3,k4⟩:=fE hT hc ho hp ha hj n0 b h h2 h3
   refine⟨ZG h1 k1,k2,k3,fun B S=>A6 ((h4 B S).mono ?_)⟩
   rintro e1 bJ aC ⟨rfl,B',hA,rfl,rfl⟩
   refine(k4 B' S).mono ?_
   rintro e1 bJ aC ⟨rfl,vV,rI,rfl,rfl⟩
   exact⟨rfl,vV,hA.trans (rI.le h1),rfl,rfl⟩
  ·rename_i hx
   obtain⟨h1,h2,h3,h4⟩:=fE hT hc ho hp ha hj n0 a h hG hS
   refine⟨h1,h2,h3,fun B S=>A6 ((h4 B S).mono ?_)⟩
   rintro e1 bJ aC ⟨rfl,B',hA,rfl,rfl⟩
   cases e with
   |nrm=>exact absurd h (hx _ _ _)
   |_=>exact⟨rfl,B',hA,rfl,rfl⟩
 | .cond c t e0,rg,σ,n,e,ak,σ',n',h,hG,hS=>by
  simp only[xC]at h
  split at h
  ·rename_i hb
   obtain⟨h1,h2,h3,h4⟩:=fE hT hc ho hp ha hj n0 t h hG hS
   exact⟨h1,h2,h3,fun B S=>yI (b:=true) (by rw[dG,hb];rfl) (fun _=>h4 B S) (fun e=>nomatch e)⟩
  ·rename_i hb
   obtain⟨h1,h2,h3,h4⟩:=fE hT hc ho hp ha hj n0 e0 h hG hS
   exact⟨h1,h2,h3,fun B S=>yI (b:=false) (by rw[dG,hb];rfl) (fun e=>nomatch e) (fun _=>h4 B S)⟩
  ·cases h
 | .block id b,rg,σ,n,e,ak,σ',n',h,hG,hS=>by
  simp only[xC]at h
  split at h
  ·rename_i i bh aK n1 hx
   obtain⟨h1,h2,h3,h4⟩:=fE hT hc ho hp ha hj n0 b hx hG hS
   cases hi:Nat.beq i id with
   |true=>
    simp only[hi,Y6]at h
    cases h
    refine⟨h1,h2,h3,fun B S=>A4 ((h4 B S).mono ?_)⟩
    rintro e1 bJ aC ⟨rfl,B',hA,rfl,rfl⟩
    simp only[mH,Ie,ZW (Z2 hi)]
    exact⟨rfl,B',hA,rfl,rfl⟩
   |false=>
    simp only[hi,YD]at h
    cases h
    refine⟨h1,h2,h3,fun B S=>A4 ((h4 B S).mono ?_)⟩
    rintro e1 bJ aC ⟨rfl,B',hA,rfl,rfl⟩
    simp only[mH,Ie,Z5 (Nat.ne_of_beq_eq_false hi)]
    exact⟨rfl,B',hA,rfl,rfl⟩
  ·rename_i hx
   obtain⟨h1,h2,h3,h4⟩:=fE hT hc ho hp ha hj n0 b h hG hS
   refine⟨h1,h2,h3,fun B S=>A4 ((h4 B S).mono ?_)⟩
   rintro e1 bJ aC ⟨rfl,B',hA,rfl,rfl⟩
   cases e with
   |exit i=>exact absurd h (hx _ _ _ _)
   |_=>exact⟨rfl,B',hA,rfl,rfl⟩
 | .loop b,rg,σ,n,e,ak,σ',n',h,hG,hS=>ha b rg σ n e ak σ' n' h hG hS
 | .aQ ks a,rg,σ,n,e,ak,σ',n',h,hG,hS=>by
  simp only[xC]at h
  split at h
  ·rename_i bh hk
   have hk:=BF hk
   subst hk
   have BR:dq n (eR ks rg):=fun B B' k=>by rw[← wQ,← wQ,hG B B' k]
   obtain⟨h1,h2,h3,h4⟩:=fE hT hc ho hp ha hj n0 a h (fun B B' k=>Me _ (BR B B' k)) (fun B B' k=>Ey _ (ye _ (hS B B' k)))
   refine⟨h1,h2,h3,fun B S=>SW.eR ks ?_⟩
   rw[wQ]
   exact SW.G5 (h4 B S) (Mf _) (dI.app ((Ez _).trans (yf _)) (.refl S))
  ·cases h
 | .stop a,rg,σ,n,e,ak,σ',n',h,hG,hS=>fE hT hc ho hp ha hj n0 a h hG hS
 | .scope b,rg,σ,n,e,ak,σ',n',h,hG,hS=>by
  simp only[xC]at h
  split at h
  ·rename_i l bh aK n1 hx
   obtain⟨h1,h2,h3,h4⟩:=fE hT hc ho hp ha hj n0 b hx hG hS
   obtain⟨g0,g1,g2,g3⟩:=hj.end h h2 h3
   refine⟨ZG h1 g1,g2,g3,fun B S=> ?_⟩
   obtain⟨J,k1,k2⟩:=hj b e ak σ' n'
   obtain⟨m0,hm0⟩:=k1 _ _ _ _ h
   have hQ:∀ {B':BM} {n2:Nat} {K:Nat→af→Store→Prop} {e1:Exit} {bJ:af} {aC:Store},Agree n B B'→n≤n2→DG n2 B' S e ak σ' e1 bJ aC→uZ K (DG n B S e ak σ') e1 bJ aC:=by
    rintro B' n2 K e1 bJ aC hA hn ⟨rfl,B2,qg,rfl,rfl⟩
    cases e with
    |goto l'=>exact absurd rfl (g0 l')
    |_=>exact⟨rfl,B2,hA.trans (qg.le hn),rfl,rfl⟩
   refine HZ (fun l m bh aK=>∃ B1 sQ tA nx,Agree n B B1∧n≤nx∧dq nx sQ∧cV nx tA∧bh=bW B1 sQ∧aK=aV B1 tA++S∧J m l sQ tA nx) ((h4 B S).mono ?_) ?_
   ·rintro _ _ _ ⟨rfl,B1,hA,rfl,rfl⟩
    exact⟨m0,B1,_,_,n1,hA,h1,h2,h3,rfl,rfl,hm0⟩
   ·rintro l m _ _ ⟨B1,sQ,tA,nx,hA,hn,EA,EG,rfl,rfl,hJ⟩
    obtain⟨r,q1,⟨q2,q3⟩|⟨l',bJ,aC,n2,m',ar,hJ',q3⟩⟩:=k2 _ _ _ _ _ hJ EA EG
    ·exact⟨r,q1,(q3.2.2.2 B1 S).mono fun e1 eg dP hq=>hQ hA hn hq⟩
    ·refine⟨r,q1,(q3.2.2.2 B1 S).mono ?_⟩
     rintro _ _ _ ⟨rfl,B2,qg,rfl,rfl⟩
     exact⟨m',ar,B2,bJ,aC,n2,hA.trans (qg.le hn),ZG hn q3.1,q3.2.1,q3.2.2.1,rfl,rfl,hJ'⟩
  ·rename_i hx
   obtain⟨h1,h2,h3,h4⟩:=fE hT hc ho hp ha hj n0 b h hG hS
   refine⟨h1,h2,h3,fun B S=>HZ (fun _ _ _ _=>False) ((h4 B S).mono ?_) (fun _ _ _ _ h=>h.elim)⟩
   rintro e1 bJ aC ⟨rfl,B',hA,rfl,rfl⟩
   cases e with
   |goto l=>exact absurd h (hx _ _ _ _)
   |_=>exact⟨rfl,B',hA,rfl,rfl⟩
def iD(P:Program)[Glob P](N:Nat):Nat→SC→(Exit→af→Store→Prop)→af→Store→Prop
 |k+1,.seq x y,Q,rg,σ=>SW P N x (mr (iD P N k y Q) Q) rg σ
 |_,s,Q,rg,σ=>SW P N s Q rg σ
theorem iD.eR(l:List Nat){k:Nat}{s:SC}{Q:Exit→af→Store→Prop}{rg:af}{σ:Store}(h:iD P N k s Q (eR l rg) σ):iD P N k s Q rg σ:=by
 cases k<;>cases s<;>exact SW.eR l h
theorem iD.G5{k:Nat}{s:SC}{Q:Exit→af→Store→Prop}{rg ak:af}{σ σ':Store}(h:iD P N k s Q ak σ')(hr:gd rg ak)(hs:dI σ' σ):iD P N k s Q rg σ:=by
 cases k<;>cases s<;>exact SW.G5 h hr hs
theorem iD.mono:∀ {k:Nat} {s:SC} {Q Q':Exit→af→Store→Prop} {rg:af} {σ:Store},iD P N k s Q rg σ→(∀ e rg σ,Q e rg σ→Q' e rg σ)→iD P N k s Q' rg σ
 |0,s,_,_,_,_,h,hq=>by cases s<;>exact SW.mono h hq
 |k+1,.seq x y,Q,Q',rg,σ,h,hq=>SW.mono h fun e rg σ h=>by
  cases e<;>first|exact iD.mono h hq|exact hq _ _ _ h
 |k+1,.skip,_,_,_,_,h,hq|k+1,.ck _,_,_,_,_,h,hq|k+1,.dF _,_,_,_,_,h,hq|k+1,.eE _ _,_,_,_,_,h,hq|k+1,.cond _ _ _,_,_,_,_,h,hq|k+1,.block _ _,_,_,_,_,h,hq
 |k+1,.loop _,_,_,_,_,h,hq|k+1,.exit _,_,_,_,_,h,hq|k+1,.ret,_,_,_,_,h,hq|k+1,.scope _,_,_,_,_,h,hq|k+1,.label _,_,_,_,_,h,hq|k+1,.goto _,_,_,_,_,h,hq=>SW.mono h hq
theorem iD.sw:∀ {k:Nat} {s:SC} {Q:Exit→af→Store→Prop} {rg:af} {σ:Store},iD P N k s Q rg σ→SW P N s Q rg σ
 |0,s,_,_,_,h=>by cases s<;>exact h
 |k+1,.seq x y,Q,rg,σ,h=>A6 (SW.mono h fun e rg σ h=>by
  cases e<;>first|exact iD.sw h|exact h)
 |k+1,.skip,_,_,_,h|k+1,.ck _,_,_,_,h|k+1,.dF _,_,_,_,h|k+1,.eE _ _,_,_,_,h|k+1,.cond _ _ _,_,_,_,h|k+1,.block _ _,_,_,_,h
 |k+1,.loop _,_,_,_,h|k+1,.exit _,_,_,_,h|k+1,.ret,_,_,_,h|k+1,.scope _,_,_,_,h|k+1,.label _,_,_,_,h|k+1,.goto _,_,_,_,h=>h
theorem SW.s0{k:Nat}{s:SC}{Q:Exit→af→Store→Prop}{rg:af}{σ:Store}(hs:∀ x y,s≠.seq x y)(h:SW P N s Q rg σ):iD P N k s Q rg σ:=by
 cases k<;>cases s<;>first|exact h|exact absurd rfl (hs _ _)
def DF(P:Program)[Glob P](N k:Nat)(s:SC)(n:Nat)(rg:af)(σ:Store)(e:XE)(ak:af)(σ':Store)(n':Nat):Prop:=
 n≤n'∧dq n' ak∧cV n' σ'∧∀ B S,iD P N k s (DG n B S e ak σ') (bW B rg) (aV B σ++S)
theorem tE.s0{k:Nat}{s:SC}{n:Nat}{rg:af}{σ:Store}{e:XE}{ak:af}{σ':Store}{n':Nat}(hs:∀ x y,s≠.seq x y)(h:tE P N s n rg σ e ak σ' n'):DF P N k s n rg σ e ak σ' n':=
 ⟨h.1,h.2.1,h.2.2.1,fun B S=>(h.2.2.2 B S).s0 hs⟩
theorem G8(hT:T.OK P)(hc:jr P call)(ho:kU P T)(hp:oF P ej)(ha:qZ P N again)(hj:oK P N jump)(n0:Nat):∀ (a:AC) (k:Nat) {rg:af} {σ:Store} {n:Nat} {e:XE} {ak:af} {σ':Store} {n':Nat},
  xC T cfg call ej n0 again jump a rg σ n=some (e,ak,σ',n')→dq n rg→cV n σ→DF P N k a.erase n rg σ e ak σ' n'
 | .seq a b,0,rg,σ,n,e,ak,σ',n',h,hG,hS=>fE hT hc ho hp ha hj n0 _ h hG hS
 | .seq a b,k+1,rg,σ,n,e,ak,σ',n',h,hG,hS=>by
  simp only[xC]at h
  split at h
  ·rename_i bh aK n1 hx
   obtain⟨h1,h2,h3,h4⟩:=fE hT hc ho hp ha hj n0 a hx hG hS
   obtain⟨k1,k2,k3,k4⟩:=G8 hT hc ho hp ha hj n0 b k h h2 h3
   refine⟨ZG h1 k1,k2,k3,fun B S=>(h4 B S).mono ?_⟩
   rintro e1 bJ aC ⟨rfl,B',hA,rfl,rfl⟩
   refine(k4 B' S).mono ?_
   rintro e1 bJ aC ⟨rfl,vV,rI,rfl,rfl⟩
   exact⟨rfl,vV,hA.trans (rI.le h1),rfl,rfl⟩
  ·rename_i hx
   obtain⟨h1,h2,h3,h4⟩:=fE hT hc ho hp ha hj n0 a h hG hS
   refine⟨h1,h2,h3,fun B S=>(h4 B S).mono ?_⟩
   rintro e1 bJ aC ⟨rfl,B',hA,rfl,rfl⟩
   cases e with
   |nrm=>exact absurd h (hx _ _ _)
   |_=>exact⟨rfl,B',hA,rfl,rfl⟩
 | .aQ ks a,k,rg,σ,n,e,ak,σ',n',h,hG,hS=>by
  simp only[xC]at h
  split at h
  ·rename_i bh hk
   have hk:=BF hk
   subst hk
   have BR:dq n (eR ks rg):=fun B B' k=>by rw[← wQ,← wQ,hG B B' k]
   obtain⟨h1,h2,h3,h4⟩:=G8 hT hc ho hp ha hj n0 a k h (fun B B' k=>Me _ (BR B B' k)) (fun B B' k=>Ey _ (ye _ (hS B B' k)))
   refine⟨h1,h2,h3,fun B S=>iD.eR ks ?_⟩
   rw[wQ]
   exact iD.G5 (h4 B S) (Mf _) (dI.app ((Ez _).trans (yf _)) (.refl S))
  ·cases h
 | .stop a,k,rg,σ,n,e,ak,σ',n',h,hG,hS=>G8 hT hc ho hp ha hj n0 a k h hG hS
 | .skip,k,rg,σ,n,e,ak,σ',n',h,hG,hS=>(fE hT hc ho hp ha hj n0 .skip h hG hS).s0 (by intro _ _ e;cases e)
 | .ck l,k,rg,σ,n,e,ak,σ',n',h,hG,hS=>(fE hT hc ho hp ha hj n0 (.ck l) h hG hS).s0 (by intro _ _ e;cases e)
 | .dF l,k,rg,σ,n,e,ak,σ',n',h,hG,hS=>(fE hT hc ho hp ha hj n0 (.dF l) h hG hS).s0 (by intro _ _ e;cases e)
 | .eE ah l,k,rg,σ,n,e,ak,σ',n',h,hG,hS=>(fE hT hc ho hp ha hj n0 (.eE ah l) h hG hS).s0 (by intro _ _ e;cases e)
 | .cond c x y,k,rg,σ,n,e,ak,σ',n',h,hG,hS=>(fE hT hc ho hp ha hj n0 (.cond c x y) h hG hS).s0 (by intro _ _ e;cases e)
 | .block id b,k,rg,σ,n,e,ak,σ',n',h,hG,hS=>(fE hT hc ho hp ha hj n0 (.block id b) h hG hS).s0 (by intro _ _ e;cases e)
 | .loop b,k,rg,σ,n,e,ak,σ',n',h,hG,hS=>(fE hT hc ho hp ha hj n0 (.loop b) h hG hS).s0 (by intro _ _ e;cases e)
 | .exit i,k,rg,σ,n,e,ak,σ',n',h,hG,hS=>(fE hT hc ho hp ha hj n0 (.exit i) h hG hS).s0 (by intro _ _ e;cases e)
 | .ret,k,rg,σ,n,e,ak,σ',n',h,hG,hS=>(fE hT hc ho hp ha hj n0 .ret h hG hS).s0 (by intro _ _ e;cases e)
 | .scope b,k,rg,σ,n,e,ak,σ',n',h,hG,hS=>(fE hT hc ho hp ha hj n0 (.scope b) h hG hS).s0 (by intro _ _ e;cases e)
 | .label i,k,rg,σ,n,e,ak,σ',n',h,hG,hS=>(fE hT hc ho hp ha hj n0 (.label i) h hG hS).s0 (by intro _ _ e;cases e)
 | .goto i,k,rg,σ,n,e,ak,σ',n',h,hG,hS=>(fE hT hc ho hp ha hj n0 (.goto i) h hG hS).s0 (by intro _ _ e;cases e)
end
end Go.Sx
