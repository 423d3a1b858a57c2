/- The layer: slices made, slices laid for good; a slice of one's own whose rows are weakened. -/
import Derived.Test.YthdeaajdmdmfnaaGreatDoorFa
import Derived.Laws.MakeOwn
set_option linter.unusedSimpArgs false
set_option linter.unusedVariables false
set_option linter.unusedSectionVars false
namespace Go.Sx
open Go.RowKit Go.Proofs
theorem mC.refl:∀ l:List (List AV),mC l l
 |[]=> .nil
 |x::l=> .cons (.refl x) (.refl l)
theorem mC.app{a b c d:List (List AV)}(h:mC a b)(k:mC c d):mC (a++c) (b++d):=by
 induction h with
 |nil=>exact k
 |cons h _ ih=>exact .cons h ih
section
variable {P:Program}[Glob P]{M:Mem}{w0:Base}{w:World}{σ:Store}
theorem Inv.freeze{t b:Nat}{xs:List AV}(hI:Inv P M w0 ((t,b,.cells xs)::σ) w):∃ (M':Mem) (vs:List Value),M.le M'∧Inv P M' w0 σ w∧RL M' xs vs∧∀ k (h:k<vs.length),M' b k=some vs[k]:=by
 obtain⟨bg,hn,cs,ty,hh,hR⟩:=hI.st _ (ZD)
 have hnd:=hI.nd
 simp only[Zv,Yy]at hnd
 let M':Mem:=fun b' o=>if b'=b then cs[o]? else M b' o
 have hle:M.le M':=fun b' o v h=>by
  grind
 refine⟨M',cs.toList,hle,⟨hI.os,hI.tape,hI.output,hI.size,hI.old,fun b' o v h=> ?_,fun e he=>⟨(hI.st e (ZL _ he)).1,?_⟩,hnd.2,fun g l e=>(hI.gl g l e).mono hle,hI.gw,fun b' o v hv aw=>hI.bm b' o v (by grind) aw⟩,hR.mono hle,fun k h=> ?_⟩
 ·by_cases e:b'=b
  ·subst e
   have h2:cs[o]? =some v:=by grind
   show w.cell? _=_
   simp[World.cell?,hh,h2]
  ·exact hI.bL b' o v (by grind)
 ·obtain⟨tg,b2,x⟩:=e
  have hk:=(hI.st _ (ZL _ he)).2
  have aE:b2≠b:=fun e=>hnd.1 (e ▸ Yk (f:=fun x:Nat×Nat×aZ=>x.2.1) he)
  cases x with
  |cells l=>obtain⟨h1,bO,t',h2,h3⟩:=hk;exact⟨fun o=>by grind,bO,t',h2,h3.mono hle⟩
  |tail u' c=>obtain⟨h1,bO,t',h2,h3⟩:=hk;exact⟨fun o ho=>by grind,bO,t',h2,h3⟩
  |map es k=>obtain⟨h1,l,h2,h3,h4⟩:=hk;exact⟨fun o=>by grind,l,h2,h3,h4.mono hle⟩
 grind
theorem Spec.NC{f:FuncId}{ys xs:List AV}(h:Spec P f ys σ fun r σ'=>∃ t b,r= .ret (.ms t b 0 xs.length xs.length)∧Sub ((t,b,.cells xs)::σ) σ')(hl:xs.length≤maxLen):Spec P f ys σ fun r σ'=>r= .ret (.sl false 1 (xs.map fun x=>[x]))∧σ'=σ:=by
 intro M w0 w cs hI hR
 refine(h M w0 w cs hI hR).mono fun e w' ⟨M',r,σ',hM,bp,hr,t,b,e1,e2⟩=> ?_
 subst e1
 obtain⟨M2,vs,nP,fY,dM,hc⟩:=(bp.sub e2).freeze
 refine⟨M2,_,_,hM.trans nP,fY,?_,rfl,rfl⟩
 cases e with
 |returned v=>
  have hv:R M' (.ms t b 0 xs.length xs.length) v:=hr
  cases hv
  have key:R M2 (.sl false 1 (xs.map fun x=>[x])) (.slice (some ⟨b,0,none⟩) (xs.map fun x=>[x]).length xs.length):=by
   refine .sl _ _ _ b 0 _ (fun k=>vs.getD k default) (fun i hi=>by rw[Zu];rfl) (fun k hk=> ?_) (fun i hi j hj=> ?_) (by rw[ZW];exact ZX _) hl
   ·have di:k<vs.length:=by rw[← dM.1];rw[ZW]at hk;omega
    rw[ZH,hc k di,Z3,Z1 di];rfl
   ·have cD:i<xs.length:=by rw[ZW]at hi;exact hi
    have hj0:j=0:=by rw[Zu]at hj;simp at hj;omega
    subst hj0
    have kq:i<vs.length:=by rw[← dM.1];exact cD
    have:=dM.2 i cD kq
    simp only[Zu,Yx,Yb,Ym,Z3,Z1 kq,Zp]
    exact this
  rw[ZW]at key
  exact key
 |_=>exact hr.elim
end
section
variable {P:Program}[Glob P]{cfg:Nat→Nat}{K:ag→Store→Prop}{E:List PanicEntry→Store→Prop}{σ:Store}{l:List CI}{d:Nat}{v:AV}{xr:XR}{ps:List Prop}{og:Option Bool}{ys:List AV}
end
end Go.Sx
set_option maxRecDepth 100000
set_option maxHeartbeats 4000000
namespace Go.Proofs.YthdeaajdmdmfnaaGreatDoor
open Go.Sx Go.Proofs Go.Tb
def Gr(lab:Nat)(rows:List (List AV))(x:AV)(τ:Store):Prop:=(rows=[]∧x=iU∧τ=[])∨∃ b u c,x= .own 1 lab b u c rows∧τ=[(lab,b,.tail u c)]
theorem Gr.z{lab:Nat}:Gr lab [] iU []:= .inl ⟨rfl,rfl,rfl⟩
theorem Gr.n{lab:Nat}{rows:List (List AV)}(h:rows=[]):Gr lab rows iU []:= .inl ⟨h,rfl,rfl⟩
theorem Gr.s{lab b u c:Nat}{rows rows':List (List AV)}(h:rows'=rows):Gr lab rows (.own 1 lab b u c rows') [(lab,b,.tail u c)]:= .inr ⟨b,u,c,by rw[h],rfl⟩
structure T4(C:au):Prop where
 t:C.tables.length≤40
 f:C.features.length≤40
 d:C.aD.length≤40
 p:C.past.length≤40
 b:∀ f∈C.all,f.body.size≤2000
theorem Qz:∀ {l:List Ex} {x:Ex},x∈l→x.size≤Ex.cX l
 |y::l,x,h=>by
  rw[Ex.cX]
  rcases ZK.1 h with rfl|h
  ·omega
  ·have:=Qz h;omega
theorem Small.sb{C:au}(hs:Small C):T4 C:=⟨hs.t,hs.f,hs.d,hs.p,fun f hf=>by
 have h1:=EJ (C.all.map aq.body) 2000 0 hs.n
 have h2:=hs.n
 have h3:=Qz (Yk (f:=aq.body) hf)
 omega⟩
def DB(N l:List af):List Nat:=(List.range N.length).filter fun k=>decide (N.getD k default∈l)
theorem Jd{N l:List af}{x:Nat}:x∈DB N l↔x<N.length∧N.getD x default∈l:=by
 unfold DB;rw[Ze,Y2,ZR]
structure Fy(g:af→List af)(N:List af)(b:af)(D:List Nat):Prop where
 len:D.length=N.length
 le:∀ j,j<N.length→D.getD j 0≤1000
 st:∀ j,j<N.length→D.getD j 0<1000→iI g (D.getD j 0) (N.getD j default) b
def wT(T:Nat)(D:List Nat)(x:Nat):Nat:=if x=T then 1 else D.getD x 0+1
theorem NF{D:List Nat}{j k v:Nat}(h:j<D.length):(D.set j v).getD k 0=if k=j then v else D.getD k 0:=by
 rw[Z3,List.getElem?_set,Z3]
 by_cases e:j=k
 ·subst e;simp[h]
 ·rw[Z7 e,Z7 (fun h=>e h.symm)]
theorem Fy.set{g:af→List af}{N:List af}{T:Nat}{D:List Nat}(h:Fy g N (N.getD T default) D){j x:Nat}(hj:j<N.length)(hx:x∈DB N (g (N.getD j default)))(aw:wT T D x<D.getD j 0):Fy g N (N.getD T default) (D.set j (wT T D x)):=by
 have Oy:j<D.length:=by rw[h.len];exact hj
 have hle:=h.le j hj
 refine⟨by rw[Xv,h.len],fun k hk=> ?_,fun k hk h1=> ?_⟩
 ·rw[NF Oy];split
  ·omega
  ·exact h.le k hk
 ·rw[NF Oy]at h1 ⊢
  by_cases e:k=j
  ·subst e
   rw[ZV rfl]
   obtain⟨ju,ef⟩:=Jd.1 hx
   unfold wT at aw ⊢
   by_cases e2:x=T
   ·subst e2;rw[ZV rfl];exact .one ef
   ·rw[Z7 e2]at aw ⊢
    exact .cons ef (h.st x ju (by omega))
  ·rw[Z7 e]at h1 ⊢;exact h.st k hk h1
def Lg(g:af→List af)(N:List af)(T:Nat)(D:List Nat):Prop:=∀ j,j<N.length→∀ x∈DB N (g (N.getD j default)),D.getD j 0≤wT T D x
theorem Lg.le{g:af→List af}{N:List af}{T:Nat}{D:List Nat}(hc:Lg g N T D)(hT:T<N.length)(hg:∀ x y,y∈g x→y∈N){k:Nat}{a b:af}(hs:iI g k a b)(hb:b=N.getD T default):∀ j,j<N.length→N.getD j default=a→D.getD j 0≤k:=by
 induction hs with
 |one h=>
  intro j hj e
  subst hb e
  have:=hc j hj T (Jd.2 ⟨hT,h⟩)
  unfold wT at this
  rwa [ZV rfl]at this
 |cons h t ih=>
  rename_i k a c b
  intro j hj e
  subst e
  obtain⟨x,hx,e⟩:=YG (hg _ _ h)
  have e':N.getD x default=c:=by rw[getD_eq hx];exact e
  have h1:=hc j hj x (Jd.2 ⟨hx,by rw[e'];exact h⟩)
  have h2:=ih hb x hx e'
  have h3:=t.pos
  unfold wT at h1
  split at h1<;>omega
end Go.Proofs.YthdeaajdmdmfnaaGreatDoor
