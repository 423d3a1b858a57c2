/-
  The layer Sx, an executor: other tags, and entries left out.
-/
import Derived.Test.YthdeaajdmdmfnaaGreatDoorSxEx6
set_option linter.unusedVariables false
set_option linter.unusedSimpArgs false
set_option linter.unusedSectionVars false
namespace Go.Sx
open Go.RowKit
theorem ct.trans{a b c:List AV}(h:ct a b)(k:ct b c):ct a c:=by
 induction h generalizing c with
 |nil=>exact k
 |cons hx _ ih=>cases k with
  |cons hy ht=>exact .cons (hx.trans hy) (ih ht)
inductive BW:aZ→aZ→Prop
 |cells {l m:List AV} (h:ct l m):BW (.cells l) (.cells m)
 |tail (u c:Nat):BW (.tail u c) (.tail u c)
 |map {es Cr:List (Value×Nat×AV)} (k:Nat) (h:es.map (fun e=>(e.1,e.2.1))=Cr.map (fun e=>(e.1,e.2.1))) (hw:ct (es.map (·.2.2)) (Cr.map (·.2.2))):BW (.map es k) (.map Cr k)
inductive dm:Store→Store→Prop
 |nil:dm [] []
 |skip {σ' σ:Store} (e:Nat×Nat×aZ) (h:dm σ' σ):dm σ' (e::σ)
 |az {σ' σ:Store} (t t' b:Nat) {x y:aZ} (hb:BW x y) (h:dm σ' σ):dm ((t',b,y)::σ') ((t,b,x)::σ)
theorem BW.ok{M:Mem}{w:World}{b:Nat}{x y:aZ}(h:BW x y)(k:BlkOK M w b x):BlkOK M w b y:=by
 cases h with
 |cells h=>obtain⟨k1,cs,t,k2,k3⟩:=k;exact⟨k1,cs,t,k2,h.sound k3⟩
 |tail u c=>exact k
 |map k0 h hw=>obtain⟨k1,l,k2,k3,k4⟩:=k;exact⟨k1,l,k2,k3.trans h,hw.sound k4⟩
theorem dm.mem{σ' σ:Store}(h:dm σ' σ):∀ e∈σ',∃ e0∈σ,e0.2.1=e.2.1∧BW e0.2.2 e.2.2:=by
 induction h with
 |nil=>exact fun _ h=>absurd h (by simp)
 |skip e _ ih=>intro x hx;obtain⟨e0,h1,h2⟩:=ih x hx;exact⟨e0,ZL _ h1,h2⟩
 |az t t' b hb _ ih=>
  intro x hx
  rcases ZK.1 hx with rfl|hx
  ·exact⟨_,ZD,rfl,hb⟩
  ·obtain⟨e0,h1,h2⟩:=ih x hx;exact⟨e0,ZL _ h1,h2⟩
theorem dm.blocks{σ' σ:Store}(h:dm σ' σ):(σ'.map (·.2.1)).Sublist (σ.map (·.2.1)):=by
 induction h with
 |nil=>exact .slnil
 |skip e _ ih=>exact ih.cons _
 |az t t' b hb _ ih=>exact ih.cons_cons _
theorem Inv.KC{P:Program}[Glob P]{M:Mem}{w0:Base}{w:World}{σ σ':Store}(hI:Inv P M w0 σ' w)(h:dm σ σ'):Inv P M w0 σ w:=by
 refine⟨hI.os,hI.tape,hI.output,hI.size,hI.old,hI.bL,fun e he=> ?_,hI.nd.sublist h.blocks,hI.gl,hI.gw,hI.bm⟩
 obtain⟨e0,h1,h2,h3⟩:=h.mem e he
 obtain⟨k1,k2⟩:=hI.st e0 h1
 rw[h2]at k1 k2
 exact⟨k1,h3.ok k2⟩
theorem SW.E5{P:Program}[Glob P]{N:Nat}{s:SC}{Q:Exit→ag→Store→Prop}{rg ak:ag}{σ σ':Store}(h:SW P N s Q ak σ')(hr:gi rg ak)(hs:dm σ' σ):SW P N s Q rg σ:=
 fun c hc M w0 a w hI hR hN hD=>h c hc M w0 a w (hI.KC hs) (fun i=>hr.lk i _ _ (hR i)) hN hD
theorem Spec.afD{P:Program}[Glob P]{f:FuncId}{as bs:List AV}{σ σ':Store}{Q:gP→Store→Prop}(h:Spec P f bs σ' Q)(hw:ct as bs)(hs:dm σ' σ):Spec P f as σ Q:=
 fun M w0 w cs hI hl=>h M w0 w cs (hI.KC hs) (hw.sound hl)
theorem Spec.Ed{P:Program}[Glob P]{f:FuncId}{as:List AV}{σ:Store}{Q Q':gP→Store→Prop}(h:Spec P f as σ Q)(hq:∀ r σ',Q r σ'→∃ r2 aJ,Q' r2 aJ∧dm aJ σ'∧(match r,r2 with| .ret x,.ret y=>Wk x y| .jW c,.jW c'=>c=c'|_,_=>False)):Spec P f as σ Q':=by
 intro M w0 w cs hI hl
 refine(h M w0 w cs hI hl).mono fun e w' ⟨M',r,σ',a,b,c,d⟩=> ?_
 obtain⟨r2,aJ,h1,h2,h3⟩:=hq r σ' d
 refine⟨M',r2,aJ,a,b.KC h2,?_,h1⟩
 cases r<;>cases r2<;>cases e<;>simp only[iH]at c h3 ⊢<;>try exact c.elim
 ·exact h3 _ _ c
 ·exact h3 ▸ c
theorem dm.refl:∀ σ:Store,dm σ σ
 |[]=> .nil
 |(t,b,x)::σ=> .az _ _ _ (by
   cases x with
   |cells l=>exact .cells (ct.refl l)
   |tail u c=>exact .tail u c
   |map es k=>exact .map k rfl (ct.refl _)) (dm.refl σ)
theorem dm.app{a b c d:Store}(h:dm a b)(k:dm c d):dm (a++c) (b++d):=by
 induction h with
 |nil=>exact k
 |skip e _ ih=>exact .skip e ih
 |az t t' b hb _ ih=>exact .az _ _ _ hb ih
theorem dm.drop{a b:Store}:dm b (a++b):=by
 induction a with
 |nil=>exact .refl _
 |cons e a ih=>exact .skip e ih
section
variable {B:BM}{f:Nat→Nat→Nat}
theorem Wk.ms'{t t' b o n c:Nat}:Wk (.ms t b o n c) (.ms t' b o n c):=fun M v h=>by cases h;exact .ms _ _ _ _ _
theorem Wk.ae1{t t' b:Nat}:Wk (.bD t b) (.bD t' b):=fun M v h=>by cases h;exact .bD _ _
theorem Wk.aft{e t t' b u c:Nat}{x y:List (List AV)}(h:wL x y):Wk (.own e t b u c x) (.own e t' b u c y):=fun M v k=>by
 obtain⟨el,h⟩:=h
 cases k with
 |own _ _ _ _ _ _ off cap cs h1 h2 h3 h4 h5 h6 h7=>
  rw[el]
  refine .own _ _ _ _ _ _ off cap cs (fun i hi=> ?_) (fun k hk=>h2 k (by rwa [el])) (fun i hi j hj=> ?_) (by omega) h5 (by rw[← el];exact h6) h7
  ·rw[← (h i (by omega) hi).get.1];exact h1 i (by omega)
  ·have hg:=(h i (by omega) hi).get
   exact hg.2 j (by omega) hj _ _ (h3 i (by omega) j (by omega))
mutual
theorem ab4:∀ (x:AV) (l l':List AV),gS l=gS l'→gS (ar B (dC f x)::l)=gS (ar B x::l')
 | .cl g a c,l,l',h=>by
  simp only[dC,ar,rU a,rU c]
  split<;>simp only[gS,h]
 | .v _,l,l',h=>by simp only[dC,ar,gS,h]
 | .agg _,_,_,_| .any,_,_,_| .bo _,_,_,_| .pc _,_,_,_| .sl ..,_,_,_| .fl ..,_,_,_| .own ..,_,_,_| .ms ..,_,_,_| .lp ..,_,_,_| .bD ..,_,_,_| .dz ..,_,_,_| .ai _,_,_,_=>by simp only[dC,ar,gS]
theorem MZ:∀ (l:List AV),gS (aH B (jz f l))=gS (aH B l)
 |[]=>rfl
 |x::l=>ab4 x _ _ (MZ l)
theorem ab5:∀ (x:AV) (l l':List AV),bP l=bP l'→bP (ar B (dC f x)::l)=bP (ar B x::l')
 | .cl g a c,l,l',h=>by
  simp only[dC,ar,rU a,rU c]
  split<;>simp only[bP,h]
 | .agg xs,l,l',h=>by simp only[dC,ar,bP,MZ xs,h]
 | .v _,l,l',h=>by simp only[dC,ar,bP,h]
 | .lp ..,l,l',h=>by simp only[dC,ar,bP,h]
 | .any,_,_,_| .bo _,_,_,_| .pc _,_,_,_| .sl ..,_,_,_| .fl ..,_,_,_| .own ..,_,_,_| .ms ..,_,_,_| .bD ..,_,_,_| .dz ..,_,_,_| .ai _,_,_,_=>by simp only[dC,ar,bP]
theorem rU:∀ (l:List AV),bP (aH B (jz f l))=bP (aH B l)
 |[]=>rfl
 |x::l=>ab5 x _ _ (rU l)
end
mutual
theorem vS:∀ (x:AV),Wk (ar B x) (ar B (dC f x))
 | .v _| .any| .ai _=>Wk.refl _
 | .agg xs=>Wk.agg (pT xs)
 | .bo xs=>Wk.bo (pT xs)
 | .pc xs=>Wk.JQ (pT xs)
 | .sl nn e rows=>Wk.Ey (Ep rows)
 | .fl e rows=>Wk.GC (Ep rows)
 | .own e _ _ _ _ rows=>Wk.aft (Ep rows)
 | .ms .. =>Wk.ms'
 | .lp .. =>Wk.lp
 | .bD .. =>Wk.ae1
 | .dz t x=>Wk.Pm (vS x)
 | .cl g a c=>by
  have ha:=pT a
  have hc:=pT c
  simp only[dC,ar,rU a,rU c]
  split
  ·exact Wk.refl _
  ·exact Wk.WU ha hc
theorem pT:∀ (l:List AV),ct (aH B l) (aH B (jz f l))
 |[]=> .nil
 |x::l=> .cons (vS x) (pT l)
theorem Ep:∀ (l:List (List AV)),wL (dB B l) (dB B (oM f l))
 |[]=>⟨rfl,fun i h=>absurd h (by simp[dB])⟩
 |x::l=>by
  obtain⟨e,k⟩:=Ep l
  refine⟨by simp[dB,oM,e],fun i h1 h2=> ?_⟩
  cases i with
  |zero=>exact pT x
  |succ i=>simpa[dB,oM]using k i (by simpa[dB]using h1) (by simpa[dB,oM]using h2)
end
theorem J8:∀ (rg:ag),gi (bM B rg) (bM B (yn f rg))
 |[]=> .nil
 |(i,x)::l=> .cons (vS x) (J8 l)
theorem agq(b:Nat)(x:aZ):BW (ff B b x) (ff B b (ym f x)):=by
 cases x with
 |cells l=>exact .cells (pT l)
 |tail u c=>exact .tail _ _
 |map es k=>
  refine .map k (by simp[Yg,Function.comp_def]) ?_
  simp only[Yg,Function.comp_def]
  induction es with
  |nil=>exact .nil
  |cons e es ih=>exact .cons (vS _) ih
theorem vU:∀ (σ:Store),dm (aR B (lu f σ)) (aR B σ)
 |[]=> .nil
 |(t,b,x)::l=> .az _ _ _ (agq b x) (vU l)
theorem GR{n0:Nat}{live:List Nat}:∀ (σ:Store),dm (aR B (si n0 live σ)) (aR B σ)
 |[]=> .nil
 |(t,b,x)::l=>by
  simp only[si,aR]
  cases Nat.blt b n0 || live.elem b
  ·exact .skip _ (GR l)
  ·have:=dm.refl (aR B [(t,b,x)])
   exact dm.app this (GR l)
theorem CM{n0:Nat}{rs:List AV}(σ:Store):dm (aR B (gc n0 rs σ)) (aR B σ):=by
 unfold gc
 split
 ·exact .nil
 ·exact GR _
theorem dm.trans{a b c:Store}(h:dm a b)(k:dm b c):dm a c:=by
 induction k generalizing a with
 |nil=>exact h
 |skip e _ ih=>exact .skip e (ih h)
 |az t t' b hb k ih=>
  cases h with
  |skip e h=>exact .skip _ (ih h)
  |az _ t2 _ dZ h=>
   refine .az _ _ _ ?_ (ih h)
   cases hb with
   |cells h1=>cases dZ with
    |cells h2=>exact .cells (h1.trans h2)
   |tail u c=>exact dZ
   |map k1 e1 w1=>cases dZ with
    |map _ e2 w2=>exact .map _ (e1.trans e2) (w1.trans w2)
end
section
variable {f:Nat→Nat→Nat}{B B':BM}
mutual
theorem vR:∀ (x:AV),ar B x=ar B' x→ar B (dC f x)=ar B' (dC f x)
 | .v _,_| .any,_| .ai _,_=>rfl
 | .agg xs,h=>by simp only[ar,AV.agg.injEq]at h;simp only[dC,ar,qZ xs h]
 | .bo xs,h=>by simp only[ar,AV.bo.injEq]at h;simp only[dC,ar,qZ xs h]
 | .pc xs,h=>by simp only[ar,AV.pc.injEq]at h;simp only[dC,ar,qZ xs h]
 | .sl nn e rows,h=>by simp only[ar,AV.sl.injEq,Ys]at h;simp only[dC,ar,Eo rows h]
 | .fl e rows,h=>by simp only[ar,AV.fl.injEq,Ys]at h;simp only[dC,ar,Eo rows h]
 | .own e t b u c rows,h=>by simp only[ar,AV.own.injEq,Ys]at h;simp only[dC,ar,Eo rows h.2.2.2,h.1,h.2.1,h.2.2.1]
 | .ms t b o n c,h=>by simp only[ar,AV.ms.injEq,Ys,Zn]at h;simp only[dC,ar,h]
 | .lp t b o,h=>by simp only[ar,AV.lp.injEq,Ys,Zn]at h;simp only[dC,ar,h]
 | .bD t b,h=>by simp only[ar,AV.bD.injEq,Ys]at h;simp only[dC,ar,h]
 | .dz t x,h=>by simp only[ar,AV.dz.injEq,Ys]at h;simp only[dC,ar,vR x h]
 | .cl g a c,h=>by
  have fa:=qZ a
  have fc:=qZ c
  rcases iY (B:=B) g a c with⟨a1,c1,pj,bV,e1⟩|⟨n1,e1⟩<;>rcases iY (B:=B') g a c with⟨a2,c2,iP,cG,e2⟩|⟨n2,e2⟩<;>rw[e1,e2]at h<;>simp only[AV.v.injEq,Value.func.injEq,AV.cl.injEq,reduceCtorEq,Ys]at h
  ·have q1:a1=a2:=by simpa using h.1
   have q2:c1=c2:=by simpa using h.2
   simp only[dC,ar,rU,pj,bV,iP,cG,q1,q2]
  ·simp only[dC,ar,fa h.1,fc h.2]
theorem qZ:∀ (l:List AV),aH B l=aH B' l→aH B (jz f l)=aH B' (jz f l)
 |[],_=>rfl
 |x::l,h=>by simp only[aH,Z2]at h;simp only[jz,aH,vR x h.1,qZ l h.2]
theorem Eo:∀ (l:List (List AV)),dB B l=dB B' l→dB B (oM f l)=dB B' (oM f l)
 |[],_=>rfl
 |x::l,h=>by simp only[dB,Z2]at h;simp only[oM,dB,qZ x h.1,Eo l h.2]
end
theorem J7:∀ (l:ag),bM B l=bM B' l→bM B (yn f l)=bM B' (yn f l)
 |[],_=>rfl
 |(i,x)::l,h=>by simp only[bM,Z2,YW,Ys]at h;simp only[yn,bM,vR x h.1,J7 l h.2]
theorem agp(b:Nat)(x:aZ)(h:ff B b x=ff B' b x):ff B b (ym f x)=ff B' b (ym f x):=by
 cases x with
 |cells l=>simp only[ff,aZ.cells.injEq]at h;simp only[ym,ff,qZ l h]
 |tail u c=>exact h
 |map es k=>
  simp only[ff,aZ.map.injEq,Zn]at h
  simp only[ym,ff,aZ.map.injEq,Zn,Yg]
  induction es with
  |nil=>rfl
  |cons e es ih=>
   simp only[Zv,Z2,YW,Ys]at h ⊢
   exact⟨by simpa using vR _ h.1,ih h.2⟩
theorem vT:∀ (l:Store),aR B l=aR B' l→aR B (lu f l)=aR B' (lu f l)
 |[],_=>rfl
 |(t,b,x)::l,h=>by
  simp only[aR,Z2,YW,Ys]at h
  simp only[lu,aR,agp b x h.1.2,vT l h.2,h.1.1]
theorem GQ{n0:Nat}{live:List Nat}:∀ (l:Store),aR B l=aR B' l→aR B (si n0 live l)=aR B' (si n0 live l)
 |[],_=>rfl
 |(t,b,x)::l,h=>by
  simp only[aR,Z2,YW,Ys]at h
  simp only[si]
  cases Nat.blt b n0 || live.elem b
  ·exact GQ l h.2
  ·simp only[Zc,aR,h.1.1,h.1.2,GQ l h.2]
theorem CL{n0:Nat}{rs:List AV}(l:Store)(h:aR B l=aR B' l):aR B (gc n0 rs l)=aR B' (gc n0 rs l):=by
 unfold gc
 split
 ·rfl
 ·exact GQ _ h
theorem ur(rg:ag):∀ (ks:List Nat),ep ks (bM B rg)=bM B (ep ks rg)
 |[]=>rfl
 |k::ks=>by simp only[ep,bM,mj,ur rg ks]
end
def FF:XE→Exit
 | .nrm=> .normal
 | .ret=> .ret
 | .exit i=> .exit i
 | .goto l=> .goto l
section
variable {P:Program}[Glob P]{T:XT}{N:Nat}{cfg:Nat→Nat}{call:FuncId→List AV→Store→Nat→XO}{dI:FuncId→List AV→Nat→Option AV}{again:AC→ag→Store→Nat→XS}{jump:AC→Nat→ag→Store→Nat→XS}
def BH(n:Nat)(B:BM)(S:Store)(e:XE)(ak:ag)(σ':Store)(e1:Exit)(bu:ag)(aP:Store):Prop:=
 e1=FF e∧∃ B',Agree n B B'∧bu=bM B' ak∧aP=aR B' σ'++S
def rE(P:Program)[Glob P](N:Nat)(s:SC)(n:Nat)(rg:ag)(σ:Store)(e:XE)(ak:ag)(σ':Store)(n':Nat):Prop:=
 n≤n'∧cT n' ak∧cz n' σ'∧∀ B S,SW P N s (BH n B S e ak σ') (bM B rg) (aR B σ++S)
def p7(P:Program)[Glob P](N:Nat)(again:AC→ag→Store→Nat→XS):Prop:=
 ∀ b rg σ n e ak σ' n',again b rg σ n=some (e,ak,σ',n')→cT n rg→cz n σ→rE P N (.loop b.erase) n rg σ e ak σ' n'
def nJ(P:Program)[Glob P](N:Nat)(jump:AC→Nat→ag→Store→Nat→XS):Prop:=
 ∀ b e ak σ' n',∃ J:Nat→Nat→ag→Store→Nat→Prop,(∀ l rg σ n,jump b l rg σ n=some (e,ak,σ',n')→∃ m,J m l rg σ n)∧∀ m l rg σ n,J m l rg σ n→cT n rg→cz n σ→
  ∃ r,mK b.erase l=some r∧(((∀ l',e≠.goto l')∧rE P N r n rg σ e ak σ' n')∨∃ l' bu aP n1 m',m'<m∧J m' l' bu aP n1∧rE P N r n rg σ (.goto l') bu aP n1)
theorem nJ.end(hj:nJ P N jump){b:AC}{e:XE}{ak:ag}{σ':Store}{n':Nat}{l:Nat}{rg:ag}{σ:Store}{n:Nat}(h:jump b l rg σ n=some (e,ak,σ',n'))(hG:cT n rg)(hS:cz n σ):(∀ l',e≠.goto l')∧n≤n'∧cT n' ak∧cz n' σ':=by
 obtain⟨J,h1,h2⟩:=hj b e ak σ' n'
 obtain⟨m,hm⟩:=h1 _ _ _ _ h
 clear h
 induction m using Nat.strongRecOn generalizing l rg σ n with
 |_ m ih=>
  obtain⟨r,_,⟨k0,k1,k2,k3,_⟩|⟨l',bu,aP,n1,m',aw,hJ,k1,k2,k3,_⟩⟩:=h2 m l rg σ n hm hG hS
  ·exact⟨k0,k1,k2,k3⟩
  ·obtain⟨g0,g1,g2,g3⟩:=ih m' aw k2 k3 hJ
   exact⟨g0,ZI k1 g1,g2,g3⟩
theorem Mj{st:FuncId→Bool}:∀ {l a b:List CI} {s:CI},uf st l=some (a,s,b)→l=a++s::b∧∃ f as,s.op= .call f as
 |[],_,_,_,h=>by cases h
 |c::l,a,b,s,h=>by
  have rest:(match uf st l with
   |some (a,s,b)=>some (c::a,s,b)
   |none=>none)=some (a,s,b)→c::l=a++s::b∧∃ f as,s.op= .call f as:=fun h=>by
   cases h2:uf st l with
   |none=>rw[h2]at h;cases h
   |some p=>
    obtain⟨a',s',b'⟩:=p
    rw[h2]at h;cases h
    obtain⟨e,k⟩:=Mj h2
    exact⟨by rw[e];rfl,k⟩
  simp only[uf]at h
  split at h
  ·rename_i f as eK
   cases hb:st f with
   |true=>rw[hb]at h;cases h;exact⟨rfl,f,as,eK⟩
   |false=>rw[hb]at h;exact rest h
  ·exact rest h
theorem Tn(hT:T.OK P)(hc:iG P call)(ho:j1 P T)(hp:nE P dI){l1 l2:List CI}{s:CI}{n:Nat}{rg:ag}{σ:Store}{ak:ag}{σ':Store}{n':Nat}(h:Fa T cfg call dI l1 s l2 rg σ n=some (ak,σ',n'))(hG:cT n rg)(hS:cz n σ):
  n≤n'∧cT n' ak∧cz n' σ'∧∀ (B:BM) (S:Store) (K:ag→Store→Prop),(∀ B',Agree n B B'→K (bM B' ak) (aR B' σ'++S))→
   cZ P cfg [] (bare l1) (fun bu aP=>aj P cfg s.d bu aP (fun x aJ=>cZ P cfg [] (bare l2) K (bz s.d x bu) aJ) (fun _ _=>False) s.op) (bM B rg) (aR B σ++S):=by
 unfold Fa at h
 split at h
 ·rename_i bu aP n1 hx
  obtain⟨h1,h2,h3,h4⟩:=wm hT hp (bare l1) hx hG hS
  split at h
  ·rename_i x aJ n2 hy
   obtain⟨k1,k2,k3,k4⟩:=Tq hT hc ho (dd:=s.d) hy h2 h3
   obtain⟨g1,g2,g3,g4⟩:=wm hT hp (bare l2) h ((h2.le k1).put k2 s.d) k3
   refine⟨by omega,g2,g3,fun B S K hK=>h4 B S _ fun B1 hA=>k4 B1 S _ _ fun B2 ka=> ?_⟩
   have e:bz s.d (ar B2 x) (bM B1 bu)=bM B2 (bz s.d x bu):=by rw[qU,h2 B1 B2 ka]
   rw[e]
   exact g4 B2 S K fun B3 zD=>hK B3 ((hA.trans (ka.le h1)).trans (zD.le (by omega)))
  ·cases h
 ·cases h
theorem QN{c:CI}(h:DZ c=true):c.g=none:=by
 unfold DZ at h;split at h
 ·assumption
 ·cases h
theorem ajL(hT:T.OK P)(hc:iG P call)(ho:j1 P T)(hp:nE P dI){l:List CI}{n:Nat}{rg:ag}{σ:Store}{ak:ag}{σ':Store}{n':Nat}(h:xD T cfg call dI l rg σ n=some (ak,σ',n'))(hG:cT n rg)(hS:cz n σ):
  n≤n'∧cT n' ak∧cz n' σ'∧∀ (B:BM) (S:Store) (Q:Exit→ag→Store→Prop),(∀ B',Agree n B B'→Cl (Q .normal) (bM B' ak) (aR B' σ'++S))→SW P N (.c8 l) Q (bM B rg) (aR B σ++S):=by
 unfold xD at h
 split at h
 ·rename_i l1 s l2 hl
  obtain⟨e,h4⟩:=F5 hl
  subst e
  obtain⟨hb,h⟩:=eC h
  simp only[Z8]at hb
  have hg:=QN hb.2
  obtain⟨k1,k2,k3,k4⟩:=Tn hT hc ho hp h hG hS
  refine⟨k1,k2,k3,fun B S Q hQ=>LA cfg h4 hb.1 hg ?_⟩
  have e:rI P cfg (Q .normal) s l2=fun bu aP=>aj P cfg s.d bu aP (fun x aJ=>cZ P cfg [] (bare l2) (Cl (Q .normal)) (bz s.d x bu) aJ) (fun _ _=>False) s.op:=by
   funext bu aP
   simp only[rI,fh,cK,hg,wF]
  rw[e]
  exact k4 B S (Cl (Q .normal)) hQ
 ·split at h
  ·rename_i l1 s l2 hl
   obtain⟨e,f,as,eK⟩:=Mj hl
   subst e
   obtain⟨hb,h⟩:=eC h
   simp only[Z8]at hb
   have hg:=QN hb.1.2
   have uX:pQ (l1++s::l2) 0=none:=by
    have:=hb.2
    unfold isNone at this
    split at this
    ·assumption
    ·cases this
   obtain⟨k1,k2,k3,k4⟩:=Tn hT hc ho hp h hG hS
   refine⟨k1,k2,k3,fun B S Q hQ=>T0 cfg uX eK hb.1.1 hg ?_⟩
   have:=k4 B S (Cl (Q .normal)) hQ
   rw[eK]at this
   simp only[aj,oT]at this
   exact this
  ·obtain⟨h1,h2,h3,h4⟩:=wm hT hp (bare l) h hG hS
   exact⟨h1,h2,h3,fun B S Q hQ=>Ly cfg (h4 B S _ hQ)⟩
theorem eP(hT:T.OK P)(hc:iG P call)(ho:j1 P T)(hp:nE P dI)(ha:p7 P N again)(hj:nJ P N jump)(n0:Nat):∀ (a:AC) {rg:ag} {σ:Store} {n:Nat} {e:XE} {ak:ag} {σ':Store} {n':Nat},
  xC T cfg call dI n0 again jump a rg σ n=some (e,ak,σ',n')→cT n rg→cz n σ→rE P N a.erase n rg σ e ak σ' n'
 | .skip,rg,σ,n,e,ak,σ',n',h,hG,hS=>by
  cases h;exact⟨ZX _,hG,hS,fun B S=>Fx ⟨rfl,B,.refl _ _,rfl,rfl⟩⟩
 | .ret,rg,σ,n,e,ak,σ',n',h,hG,hS=>by
  cases h;exact⟨ZX _,hG,hS,fun B S=>Fw ⟨rfl,B,.refl _ _,rfl,rfl⟩⟩
 | .exit i,rg,σ,n,e,ak,σ',n',h,hG,hS=>by
  cases h;exact⟨ZX _,hG,hS,fun B S=>Fs ⟨rfl,B,.refl _ _,rfl,rfl⟩⟩
 | .goto i,rg,σ,n,e,ak,σ',n',h,hG,hS=>by
  cases h;exact⟨ZX _,hG,hS,fun B S=>LB ⟨rfl,B,.refl _ _,rfl,rfl⟩⟩
 | .label i,rg,σ,n,e,ak,σ',n',h,hG,hS=>by
  cases h;exact⟨ZX _,hG,hS,fun B S=>LC ⟨rfl,B,.refl _ _,rfl,rfl⟩⟩
 | .aQ l,rg,σ,n,e,ak,σ',n',h,hG,hS=>by
  simp only[xC,yG]at h
  split at h
  ·rename_i hx
   cases h
   obtain⟨h1,h2,h3,h4⟩:=E9 hT hc ho l hx hG hS
   exact⟨h1,h2,h3,fun B S=>LG cfg (h4 B S _ _ fun B' hA=>⟨rfl,B',hA,rfl,rfl⟩)⟩
  ·cases h
 | .c8 l,rg,σ,n,e,ak,σ',n',h,hG,hS=>by
  simp only[xC,yG]at h
  split at h
  ·rename_i hx
   cases h
   obtain⟨h1,h2,h3,h4⟩:=ajL (N:=N) hT hc ho hp hx hG hS
   exact⟨h1,h2,h3,fun B S=>h4 B S _ fun B' hA=>Cl.intro ⟨rfl,B',hA,rfl,rfl⟩⟩
  ·cases h
 | .eA al l,rg,σ,n,e,ak,σ',n',h,hG,hS=>by
  simp only[xC,yG]at h
  split at h
  ·rename_i hx
   cases h
   obtain⟨h1,h2,h3,h4⟩:=wm hT hp l hx hG hS
   exact⟨h1,h2,h3,fun B S=>Fv cfg (h4 B S _ fun B' hA=>⟨rfl,B',hA,rfl,rfl⟩)⟩
  ·cases h
 | .seq a b,rg,σ,n,e,ak,σ',n',h,hG,hS=>by
  simp only[xC]at h
  split at h
  ·rename_i bu aP n1 hx
   obtain⟨h1,h2,h3,h4⟩:=eP hT hc ho hp ha hj n0 a hx hG hS
   obtain⟨k1,k2,k3,k4⟩:=eP hT hc ho hp ha hj n0 b h h2 h3
   refine⟨ZI h1 k1,k2,k3,fun B S=>yU ((h4 B S).mono ?_)⟩
   rintro e1 bI aJ ⟨rfl,B',hA,rfl,rfl⟩
   refine(k4 B' S).mono ?_
   rintro e1 bI aJ ⟨rfl,tV,qq,rfl,rfl⟩
   exact⟨rfl,tV,hA.trans (qq.le h1),rfl,rfl⟩
  ·rename_i hx
   obtain⟨h1,h2,h3,h4⟩:=eP hT hc ho hp ha hj n0 a h hG hS
   refine⟨h1,h2,h3,fun B S=>yU ((h4 B S).mono ?_)⟩
   rintro e1 bI aJ ⟨rfl,B',hA,rfl,rfl⟩
   cases e with
   |nrm=>exact absurd h (hx _ _ _)
   |_=>exact⟨rfl,B',hA,rfl,rfl⟩
 | .cond c t e0,rg,σ,n,e,ak,σ',n',h,hG,hS=>by
  simp only[xC]at h
  split at h
  ·rename_i hb
   obtain⟨h1,h2,h3,h4⟩:=eP hT hc ho hp ha hj n0 t h hG hS
   exact⟨h1,h2,h3,fun B S=>BR (b:=true) (by rw[dh,hb];rfl) (fun _=>h4 B S) (fun e=>nomatch e)⟩
  ·rename_i hb
   obtain⟨h1,h2,h3,h4⟩:=eP hT hc ho hp ha hj n0 e0 h hG hS
   exact⟨h1,h2,h3,fun B S=>BR (b:=false) (by rw[dh,hb];rfl) (fun e=>nomatch e) (fun _=>h4 B S)⟩
  ·cases h
 | .block id b,rg,σ,n,e,ak,σ',n',h,hG,hS=>by
  simp only[xC]at h
  split at h
  ·rename_i i bu aP n1 hx
   obtain⟨h1,h2,h3,h4⟩:=eP hT hc ho hp ha hj n0 b hx hG hS
   cases hi:Nat.beq i id with
   |true=>
    simp only[hi,Zc]at h
    cases h
    refine⟨h1,h2,h3,fun B S=>yS ((h4 B S).mono ?_)⟩
    rintro e1 bI aJ ⟨rfl,B',hA,rfl,rfl⟩
    simp only[nL,FF,ZV (Z0 hi)]
    exact⟨rfl,B',hA,rfl,rfl⟩
   |false=>
    simp only[hi,YD]at h
    cases h
    refine⟨h1,h2,h3,fun B S=>yS ((h4 B S).mono ?_)⟩
    rintro e1 bI aJ ⟨rfl,B',hA,rfl,rfl⟩
    simp only[nL,FF,Z7 (Nat.ne_of_beq_eq_false hi)]
    exact⟨rfl,B',hA,rfl,rfl⟩
  ·rename_i hx
   obtain⟨h1,h2,h3,h4⟩:=eP hT hc ho hp ha hj n0 b h hG hS
   refine⟨h1,h2,h3,fun B S=>yS ((h4 B S).mono ?_)⟩
   rintro e1 bI aJ ⟨rfl,B',hA,rfl,rfl⟩
   cases e with
   |exit i=>exact absurd h (hx _ _ _ _)
   |_=>exact⟨rfl,B',hA,rfl,rfl⟩
 | .loop b,rg,σ,n,e,ak,σ',n',h,hG,hS=>ha b rg σ n e ak σ' n' h hG hS
 | .az ks a,rg,σ,n,e,ak,σ',n',h,hG,hS=>by
  simp only[xC]at h
  split at h
  ·rename_i bu hk
   have hk:=Cy hk
   subst hk
   have zL:cT n (ep ks rg):=fun B B' k=>by rw[← ur,← ur,hG B B' k]
   obtain⟨h1,h2,h3,h4⟩:=eP hT hc ho hp ha hj n0 a h (fun B B' k=>J7 _ (zL B B' k)) (fun B B' k=>CL _ (vT _ (hS B B' k)))
   refine⟨h1,h2,h3,fun B S=>SW.ep ks ?_⟩
   rw[ur]
   exact SW.E5 (h4 B S) (J8 _) (dm.app ((CM _).trans (vU _)) (.refl S))
  ·cases h
 | .stop a,rg,σ,n,e,ak,σ',n',h,hG,hS=>eP hT hc ho hp ha hj n0 a h hG hS
 | .scope b,rg,σ,n,e,ak,σ',n',h,hG,hS=>by
  simp only[xC]at h
  split at h
  ·rename_i l bu aP n1 hx
   obtain⟨h1,h2,h3,h4⟩:=eP hT hc ho hp ha hj n0 b hx hG hS
   obtain⟨g0,g1,g2,g3⟩:=hj.end h h2 h3
   refine⟨ZI h1 g1,g2,g3,fun B S=> ?_⟩
   obtain⟨J,k1,k2⟩:=hj b e ak σ' n'
   obtain⟨m0,hm0⟩:=k1 _ _ _ _ h
   have hQ:∀ {B':BM} {n2:Nat} {K:Nat→ag→Store→Prop} {e1:Exit} {bI:ag} {aJ:Store},Agree n B B'→n≤n2→BH n2 B' S e ak σ' e1 bI aJ→Jp K (BH n B S e ak σ') e1 bI aJ:=by
    rintro B' n2 K e1 bI aJ hA hn ⟨rfl,B2,ka,rfl,rfl⟩
    cases e with
    |goto l'=>exact absurd rfl (g0 l')
    |_=>exact⟨rfl,B2,hA.trans (ka.le hn),rfl,rfl⟩
   refine LH (fun l m bu aP=>∃ B1 qY rC nx,Agree n B B1∧n≤nx∧cT nx qY∧cz nx rC∧bu=bM B1 qY∧aP=aR B1 rC++S∧J m l qY rC nx) ((h4 B S).mono ?_) ?_
   ·rintro _ _ _ ⟨rfl,B1,hA,rfl,rfl⟩
    exact⟨m0,B1,_,_,n1,hA,h1,h2,h3,rfl,rfl,hm0⟩
   ·rintro l m _ _ ⟨B1,qY,rC,nx,hA,hn,CQ,CZ,rfl,rfl,hJ⟩
    obtain⟨r,q1,⟨q2,q3⟩|⟨l',bI,aJ,n2,m',aw,hJ',q3⟩⟩:=k2 _ _ _ _ _ hJ CQ CZ
    ·exact⟨r,q1,(q3.2.2.2 B1 S).mono fun e1 eF eo hq=>hQ hA hn hq⟩
    ·refine⟨r,q1,(q3.2.2.2 B1 S).mono ?_⟩
     rintro _ _ _ ⟨rfl,B2,ka,rfl,rfl⟩
     exact⟨m',aw,B2,bI,aJ,n2,hA.trans (ka.le hn),ZI hn q3.1,q3.2.1,q3.2.2.1,rfl,rfl,hJ'⟩
  ·rename_i hx
   obtain⟨h1,h2,h3,h4⟩:=eP hT hc ho hp ha hj n0 b h hG hS
   refine⟨h1,h2,h3,fun B S=>LH (fun _ _ _ _=>False) ((h4 B S).mono ?_) (fun _ _ _ _ h=>h.elim)⟩
   rintro e1 bI aJ ⟨rfl,B',hA,rfl,rfl⟩
   cases e with
   |goto l=>exact absurd h (hx _ _ _ _)
   |_=>exact⟨rfl,B',hA,rfl,rfl⟩
def gE(P:Program)[Glob P](N:Nat):Nat→SC→(Exit→ag→Store→Prop)→ag→Store→Prop
 |k+1,.seq x y,Q,rg,σ=>SW P N x (pV (gE P N k y Q) Q) rg σ
 |_,s,Q,rg,σ=>SW P N s Q rg σ
theorem gE.ep(l:List Nat){k:Nat}{s:SC}{Q:Exit→ag→Store→Prop}{rg:ag}{σ:Store}(h:gE P N k s Q (ep l rg) σ):gE P N k s Q rg σ:=by
 cases k<;>cases s<;>exact SW.ep l h
theorem gE.E5{k:Nat}{s:SC}{Q:Exit→ag→Store→Prop}{rg ak:ag}{σ σ':Store}(h:gE P N k s Q ak σ')(hr:gi rg ak)(hs:dm σ' σ):gE P N k s Q rg σ:=by
 cases k<;>cases s<;>exact SW.E5 h hr hs
theorem gE.mono:∀ {k:Nat} {s:SC} {Q Q':Exit→ag→Store→Prop} {rg:ag} {σ:Store},gE P N k s Q rg σ→(∀ e rg σ,Q e rg σ→Q' e rg σ)→gE P N k s Q' rg σ
 |0,s,_,_,_,_,h,hq=>by cases s<;>exact SW.mono h hq
 |k+1,.seq x y,Q,Q',rg,σ,h,hq=>SW.mono h fun e rg σ h=>by
  cases e<;>first|exact gE.mono h hq|exact hq _ _ _ h
 |k+1,.skip,_,_,_,_,h,hq|k+1,.aQ _,_,_,_,_,h,hq|k+1,.c8 _,_,_,_,_,h,hq|k+1,.eA _ _,_,_,_,_,h,hq|k+1,.cond _ _ _,_,_,_,_,h,hq|k+1,.block _ _,_,_,_,_,h,hq
 |k+1,.loop _,_,_,_,_,h,hq|k+1,.exit _,_,_,_,_,h,hq|k+1,.ret,_,_,_,_,h,hq|k+1,.scope _,_,_,_,_,h,hq|k+1,.label _,_,_,_,_,h,hq|k+1,.goto _,_,_,_,_,h,hq=>SW.mono h hq
theorem gE.sw:∀ {k:Nat} {s:SC} {Q:Exit→ag→Store→Prop} {rg:ag} {σ:Store},gE P N k s Q rg σ→SW P N s Q rg σ
 |0,s,_,_,_,h=>by cases s<;>exact h
 |k+1,.seq x y,Q,rg,σ,h=>yU (SW.mono h fun e rg σ h=>by
  cases e<;>first|exact gE.sw h|exact h)
 |k+1,.skip,_,_,_,h|k+1,.aQ _,_,_,_,h|k+1,.c8 _,_,_,_,h|k+1,.eA _ _,_,_,_,h|k+1,.cond _ _ _,_,_,_,h|k+1,.block _ _,_,_,_,h
 |k+1,.loop _,_,_,_,h|k+1,.exit _,_,_,_,h|k+1,.ret,_,_,_,h|k+1,.scope _,_,_,_,h|k+1,.label _,_,_,_,h|k+1,.goto _,_,_,_,h=>h
theorem SW.s0{k:Nat}{s:SC}{Q:Exit→ag→Store→Prop}{rg:ag}{σ:Store}(hs:∀ x y,s≠.seq x y)(h:SW P N s Q rg σ):gE P N k s Q rg σ:=by
 cases k<;>cases s<;>first|exact h|exact absurd rfl (hs _ _)
def BG(P:Program)[Glob P](N k:Nat)(s:SC)(n:Nat)(rg:ag)(σ:Store)(e:XE)(ak:ag)(σ':Store)(n':Nat):Prop:=
 n≤n'∧cT n' ak∧cz n' σ'∧∀ B S,gE P N k s (BH n B S e ak σ') (bM B rg) (aR B σ++S)
theorem rE.s0{k:Nat}{s:SC}{n:Nat}{rg:ag}{σ:Store}{e:XE}{ak:ag}{σ':Store}{n':Nat}(hs:∀ x y,s≠.seq x y)(h:rE P N s n rg σ e ak σ' n'):BG P N k s n rg σ e ak σ' n':=
 ⟨h.1,h.2.1,h.2.2.1,fun B S=>(h.2.2.2 B S).s0 hs⟩
theorem E8(hT:T.OK P)(hc:iG P call)(ho:j1 P T)(hp:nE P dI)(ha:p7 P N again)(hj:nJ P N jump)(n0:Nat):∀ (a:AC) (k:Nat) {rg:ag} {σ:Store} {n:Nat} {e:XE} {ak:ag} {σ':Store} {n':Nat},
  xC T cfg call dI n0 again jump a rg σ n=some (e,ak,σ',n')→cT n rg→cz n σ→BG P N k a.erase n rg σ e ak σ' n'
 | .seq a b,0,rg,σ,n,e,ak,σ',n',h,hG,hS=>eP hT hc ho hp ha hj n0 _ h hG hS
 | .seq a b,k+1,rg,σ,n,e,ak,σ',n',h,hG,hS=>by
  simp only[xC]at h
  split at h
  ·rename_i bu aP n1 hx
   obtain⟨h1,h2,h3,h4⟩:=eP hT hc ho hp ha hj n0 a hx hG hS
   obtain⟨k1,k2,k3,k4⟩:=E8 hT hc ho hp ha hj n0 b k h h2 h3
   refine⟨ZI h1 k1,k2,k3,fun B S=>(h4 B S).mono ?_⟩
   rintro e1 bI aJ ⟨rfl,B',hA,rfl,rfl⟩
   refine(k4 B' S).mono ?_
   rintro e1 bI aJ ⟨rfl,tV,qq,rfl,rfl⟩
   exact⟨rfl,tV,hA.trans (qq.le h1),rfl,rfl⟩
  ·rename_i hx
   obtain⟨h1,h2,h3,h4⟩:=eP hT hc ho hp ha hj n0 a h hG hS
   refine⟨h1,h2,h3,fun B S=>(h4 B S).mono ?_⟩
   rintro e1 bI aJ ⟨rfl,B',hA,rfl,rfl⟩
   cases e with
   |nrm=>exact absurd h (hx _ _ _)
   |_=>exact⟨rfl,B',hA,rfl,rfl⟩
 | .az ks a,k,rg,σ,n,e,ak,σ',n',h,hG,hS=>by
  simp only[xC]at h
  split at h
  ·rename_i bu hk
   have hk:=Cy hk
   subst hk
   have zL:cT n (ep ks rg):=fun B B' k=>by rw[← ur,← ur,hG B B' k]
   obtain⟨h1,h2,h3,h4⟩:=E8 hT hc ho hp ha hj n0 a k h (fun B B' k=>J7 _ (zL B B' k)) (fun B B' k=>CL _ (vT _ (hS B B' k)))
   refine⟨h1,h2,h3,fun B S=>gE.ep ks ?_⟩
   rw[ur]
   exact gE.E5 (h4 B S) (J8 _) (dm.app ((CM _).trans (vU _)) (.refl S))
  ·cases h
 | .stop a,k,rg,σ,n,e,ak,σ',n',h,hG,hS=>E8 hT hc ho hp ha hj n0 a k h hG hS
 | .skip,k,rg,σ,n,e,ak,σ',n',h,hG,hS=>(eP hT hc ho hp ha hj n0 .skip h hG hS).s0 (by intro _ _ e;cases e)
 | .aQ l,k,rg,σ,n,e,ak,σ',n',h,hG,hS=>(eP hT hc ho hp ha hj n0 (.aQ l) h hG hS).s0 (by intro _ _ e;cases e)
 | .c8 l,k,rg,σ,n,e,ak,σ',n',h,hG,hS=>(eP hT hc ho hp ha hj n0 (.c8 l) h hG hS).s0 (by intro _ _ e;cases e)
 | .eA al l,k,rg,σ,n,e,ak,σ',n',h,hG,hS=>(eP hT hc ho hp ha hj n0 (.eA al l) h hG hS).s0 (by intro _ _ e;cases e)
 | .cond c x y,k,rg,σ,n,e,ak,σ',n',h,hG,hS=>(eP hT hc ho hp ha hj n0 (.cond c x y) h hG hS).s0 (by intro _ _ e;cases e)
 | .block id b,k,rg,σ,n,e,ak,σ',n',h,hG,hS=>(eP hT hc ho hp ha hj n0 (.block id b) h hG hS).s0 (by intro _ _ e;cases e)
 | .loop b,k,rg,σ,n,e,ak,σ',n',h,hG,hS=>(eP hT hc ho hp ha hj n0 (.loop b) h hG hS).s0 (by intro _ _ e;cases e)
 | .exit i,k,rg,σ,n,e,ak,σ',n',h,hG,hS=>(eP hT hc ho hp ha hj n0 (.exit i) h hG hS).s0 (by intro _ _ e;cases e)
 | .ret,k,rg,σ,n,e,ak,σ',n',h,hG,hS=>(eP hT hc ho hp ha hj n0 .ret h hG hS).s0 (by intro _ _ e;cases e)
 | .scope b,k,rg,σ,n,e,ak,σ',n',h,hG,hS=>(eP hT hc ho hp ha hj n0 (.scope b) h hG hS).s0 (by intro _ _ e;cases e)
 | .label i,k,rg,σ,n,e,ak,σ',n',h,hG,hS=>(eP hT hc ho hp ha hj n0 (.label i) h hG hS).s0 (by intro _ _ e;cases e)
 | .goto i,k,rg,σ,n,e,ak,σ',n',h,hG,hS=>(eP hT hc ho hp ha hj n0 (.goto i) h hG hS).s0 (by intro _ _ e;cases e)
end
end Go.Sx
