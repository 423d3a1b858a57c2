/- The layer: slices made, slices laid for good; a slice of one's own whose rows are weakened. -/
import Derived.Test.YtajimcniogfpcaaGreatDoorFa
import Derived.Laws.MakeOwn
set_option linter.unusedSimpArgs false
set_option linter.unusedVariables false
set_option linter.unusedSectionVars false
namespace Go.Sx
open Go.RowKit Go.Proofs
theorem mF.refl:∀ l:List (List AV),mF l l
 |[]=> .nil
 |x::l=> .cons (.refl x) (.refl l)
theorem mF.app{a b c d:List (List AV)}(h:mF a b)(k:mF c d):mF (a++c) (b++d):=by
 induction h with
 |nil=>exact k
 |cons h _ ih=>exact .cons h ih
section
variable {P:Program}[Glob P]{M:Mem}{w0:Base}{w:World}{σ:Store}
theorem Inv.freeze{t b:Nat}{xs:List AV}(hI:Inv P M w0 ((t,b,.cells xs)::σ) w):∃ (M':Mem) (vs:List Value),M.le M'∧Inv P M' w0 σ w∧RL M' xs vs∧∀ k (h:k<vs.length),M' b k=some vs[k]:=by
 obtain⟨aY,hn,cs,ty,hh,hR⟩:=hI.st _ (ZC)
 have hnd:=hI.nd
 simp only[ZE,YV]at hnd
 let M':Mem:=fun b' o=>if b'=b then cs[o]? else M b' o
 have hle:M.le M':=fun b' o v h=>by
  grind
 refine⟨M',cs.toList,hle,⟨hI.os,hI.tape,hI.output,hI.size,hI.old,fun b' o v h=> ?_,fun e he=>⟨(hI.st e (ZO _ he)).1,?_⟩,hnd.2,fun g l e=>(hI.gl g l e).mono hle,hI.gw,fun b' o v hv ar=>hI.bm b' o v (by grind) ar⟩,hR.mono hle,fun k h=> ?_⟩
 ·by_cases e:b'=b
  ·subst e
   have h2:cs[o]? =some v:=by grind
   show w.cell? _=_
   simp[World.cell?,hh,h2]
  ·exact hI.cH b' o v (by grind)
 ·obtain⟨tg,b2,x⟩:=e
  have hk:=(hI.st _ (ZO _ he)).2
  have aH:b2≠b:=fun e=>hnd.1 (e ▸ YE (f:=fun x:Nat×Nat×aR=>x.2.1) he)
  cases x with
  |cells l=>obtain⟨h1,bP,t',h2,h3⟩:=hk;exact⟨fun o=>by grind,bP,t',h2,h3.mono hle⟩
  |tail u' c=>obtain⟨h1,bP,t',h2,h3⟩:=hk;exact⟨fun o ho=>by grind,bP,t',h2,h3⟩
  |map es k=>obtain⟨h1,l,h2,h3,h4⟩:=hk;exact⟨fun o=>by grind,l,h2,h3,h4.mono hle⟩
 grind
theorem Spec.PV{f:FuncId}{ys xs:List AV}(h:Spec P f ys σ fun r σ'=>∃ t b,r= .ret (.ms t b 0 xs.length xs.length)∧Sub ((t,b,.cells xs)::σ) σ')(hl:xs.length≤maxLen):Spec P f ys σ fun r σ'=>r= .ret (.sl false 1 (xs.map fun x=>[x]))∧σ'=σ:=by
 intro M w0 w cs hI hR
 refine(h M w0 w cs hI hR).mono fun e w' ⟨M',r,σ',hM,bw,hr,t,b,e1,e2⟩=> ?_
 subst e1
 obtain⟨M2,vs,oU,ji,eA,hc⟩:=(bw.sub e2).freeze
 refine⟨M2,_,_,hM.trans oU,ji,?_,rfl,rfl⟩
 cases e with
 |returned v=>
  have hv:R M' (.ms t b 0 xs.length xs.length) v:=hr
  cases hv
  have key:R M2 (.sl false 1 (xs.map fun x=>[x])) (.slice (some ⟨b,0,none⟩) (xs.map fun x=>[x]).length xs.length):=by
   refine .sl _ _ _ b 0 _ (fun k=>vs.getD k default) (fun i hi=>by rw[Zj];rfl) (fun k hk=> ?_) (fun i hi j hj=> ?_) (by rw[Z4];exact ZM _) hl
   ·have cj:k<vs.length:=by rw[← eA.1];rw[Z4]at hk;omega
    rw[ZA,hc k cj,ZU,ZY cj];rfl
   ·have cK:i<xs.length:=by rw[Z4]at hi;exact hi
    have hj0:j=0:=by rw[Zj]at hj;simp at hj;omega
    subst hj0
    have kH:i<vs.length:=by rw[← eA.1];exact cK
    have:=eA.2 i cK kH
    simp only[Zj,YG,XY,Yr,ZU,ZY kH,Zk]
    exact this
  rw[Z4]at key
  exact key
 |_=>exact hr.elim
end
section
variable {P:Program}[Glob P]{cfg:Nat→Nat}{K:af→Store→Prop}{E:List PanicEntry→Store→Prop}{σ:Store}{l:List CI}{d:Nat}{v:AV}{xr:XR}{ps:List Prop}{og:Option Bool}{ys:List AV}
end
end Go.Sx
set_option maxRecDepth 100000
set_option maxHeartbeats 4000000
namespace Go.Proofs.YtajimcniogfpcaaGreatDoor
open Go.Sx Go.Proofs Go.Tb
def Gr(lab:Nat)(rows:List (List AV))(x:AV)(τ:Store):Prop:=(rows=[]∧x=gK∧τ=[])∨∃ b u c,x= .own 1 lab b u c rows∧τ=[(lab,b,.tail u c)]
theorem Gr.z{lab:Nat}:Gr lab [] gK []:= .inl ⟨rfl,rfl,rfl⟩
theorem Gr.n{lab:Nat}{rows:List (List AV)}(h:rows=[]):Gr lab rows gK []:= .inl ⟨h,rfl,rfl⟩
theorem Gr.s{lab b u c:Nat}{rows rows':List (List AV)}(h:rows'=rows):Gr lab rows (.own 1 lab b u c rows') [(lab,b,.tail u c)]:= .inr ⟨b,u,c,by rw[h],rfl⟩
def mZ(N l:List ae):List Nat:=(List.range N.length).filter fun k=>decide (N.getD k default∈l)
theorem xy{N l:List ae}{x:Nat}:x∈mZ N l↔x<N.length∧N.getD x default∈l:=by
 unfold mZ;rw[Y5,YT,ZN]
structure DM(g:ae→List ae)(N:List ae)(b:ae)(D:List Nat):Prop where
 len:D.length=N.length
 le:∀ j,j<N.length→D.getD j 0≤1000
 st:∀ j,j<N.length→D.getD j 0<1000→fg g (D.getD j 0) (N.getD j default) b
def yT(T:Nat)(D:List Nat)(x:Nat):Nat:=if x=T then 1 else D.getD x 0+1
theorem PX{D:List Nat}{j k v:Nat}(h:j<D.length):(D.set j v).getD k 0=if k=j then v else D.getD k 0:=by
 rw[ZU,List.getElem?_set,ZU]
 by_cases e:j=k
 ·subst e;simp[h]
 ·rw[Z5 e,Z5 (fun h=>e h.symm)]
theorem DM.set{g:ae→List ae}{N:List ae}{T:Nat}{D:List Nat}(h:DM g N (N.getD T default) D){j x:Nat}(hj:j<N.length)(hx:x∈mZ N (g (N.getD j default)))(ar:yT T D x<D.getD j 0):DM g N (N.getD T default) (D.set j (yT T D x)):=by
 have QG:j<D.length:=by rw[h.len];exact hj
 have hle:=h.le j hj
 refine⟨by rw[Xe,h.len],fun k hk=> ?_,fun k hk h1=> ?_⟩
 ·rw[PX QG];split
  ·omega
  ·exact h.le k hk
 ·rw[PX QG]at h1 ⊢
  by_cases e:k=j
  ·subst e
   rw[ZW rfl]
   obtain⟨me,eV⟩:=xy.1 hx
   unfold yT at ar ⊢
   by_cases e2:x=T
   ·subst e2;rw[ZW rfl];exact .one eV
   ·rw[Z5 e2]at ar ⊢
    exact .cons eV (h.st x me (by omega))
  ·rw[Z5 e]at h1 ⊢;exact h.st k hk h1
def Hj(g:ae→List ae)(N:List ae)(T:Nat)(D:List Nat):Prop:=∀ j,j<N.length→∀ x∈mZ N (g (N.getD j default)),D.getD j 0≤yT T D x
theorem Hj.le{g:ae→List ae}{N:List ae}{T:Nat}{D:List Nat}(hc:Hj g N T D)(hT:T<N.length)(hg:∀ x y,y∈g x→y∈N){k:Nat}{a b:ae}(hs:fg g k a b)(hb:b=N.getD T default):∀ j,j<N.length→N.getD j default=a→D.getD j 0≤k:=by
 induction hs with
 |one h=>
  intro j hj e
  subst hb e
  have:=hc j hj T (xy.2 ⟨hT,h⟩)
  unfold yT at this
  rwa [ZW rfl]at this
 |cons h t ih=>
  rename_i k a c b
  intro j hj e
  subst e
  obtain⟨x,hx,e⟩:=Zf (hg _ _ h)
  have e':N.getD x default=c:=by rw[getD_eq hx];exact e
  have h1:=hc j hj x (xy.2 ⟨hx,by rw[e'];exact h⟩)
  have h2:=ih hb x hx e'
  have h3:=t.pos
  unfold yT at h1
  split at h1<;>omega
end Go.Proofs.YtajimcniogfpcaaGreatDoor
