/- The layer: a look-up in a region of open order; maps from names to wide numbers. -/
import Derived.Test.YtbihckigennlhaaGreatDoorYc
set_option linter.unusedSimpArgs false
set_option linter.unusedVariables false
set_option linter.unusedSectionVars false
set_option maxRecDepth 100000
set_option maxHeartbeats 1000000
namespace Go.Sx
open Go.RowKit
section
variable {P:Program}[Glob P]{N:Nat}{cfg:Nat→Nat}{rg:ae}{σ:Store}
def CZ(P:Program)[Glob P](cfg:Nat→Nat)(K:ae→Store→Prop)(c:CI)(l2:List CI)(rg:ae)(σ:Store):Prop:=∃ x,QV P cfg c rg σ x∧cD P cfg [] (bare l2) (Cl K) (bM c.d x rg) σ
theorem Qz{l1 l2:List CI}{c:CI}{Q:Exit→ae→Store→Prop}(cfg:Nat→Nat)(ia:c.op.cls≤1)(h:cD P cfg [] (bare l1) (CZ P cfg (Q .normal) c l2) rg σ):SW P N (.azZ (l1++c::l2)) Q rg σ:=by
 refine Af (uD cfg fun hc=> ?_)
 obtain⟨xs,h1,⟨cC,⟨x,hq,hv⟩,h3⟩,h4⟩:=PI l1 rg rg (fun _=>rfl) (fun c h=>hc c (by simp[h])) h
 have xW:=zQ l1 rg (fun c h=>hc c (by simp[h])) h
 have XJ:=zQ l2 _ (fun c h=>hc c (by simp[h])) hv
 have sY:QV P cfg c (db l1 xs rg) σ x:=r4 (fun t _=>h3 t) hq
 obtain⟨ys,g1,⟨fG,k1,k2⟩,g3⟩:=zP l2 _ (bM c.d x (db l1 xs rg)) (vL h3 c.d x) (fun c h=>hc c (by simp[h])) hv
 refine⟨⟨xs++x::ys,by simp[h1,g1],⟨fG,k1,fun i=> ?_⟩,fun i h h'=> ?_⟩,fun c' iX=> ?_⟩
 ·rw[yT _ _ _ _ _ h1];exact k2 i
 ·rcases YB i l1.length with hi|hi|hi
  ·have:=h4 i hi (by omega)
   simp only[List.getElem_append_left hi,List.getElem_append_left (show i<xs.length by omega),YQ (show i≤l1.length by omega),YQ (show i≤xs.length by omega)]
   exact this
  ·subst hi
   have hz:=h'
   have e1:(l1++c::l2)[l1.length]=c:=by simp
   have e2:(xs++x::ys)[l1.length]'hz=x:=by simp[← h1]
   have e3:(l1++c::l2).take l1.length=l1:=by simp
   have e4:(xs++x::ys).take l1.length=xs:=by rw[← h1];simp
   rw[e1,e2,e3,e4]
   exact sY
  ·obtain⟨m,hm⟩:∃ m,i=l1.length+1+m:=⟨i-(l1.length+1),by omega⟩
   subst hm
   have hml:m<l2.length:=by simp at h;omega
   have hz:=h'
   have hmy:m<ys.length:=by omega
   have e1:(l1++c::l2)[l1.length+1+m]=l2[m]:=by
    rw[Yp (by omega)]
    simp only[show l1.length+1+m-l1.length=m+1 by omega,XQ]
   have e2:(xs++x::ys)[l1.length+1+m]'hz=ys[m]:=by
    rw[Yp (by omega)]
    simp only[show l1.length+1+m-xs.length=m+1 by omega,XQ]
   have e3:(l1++c::l2).take (l1.length+1+m)=l1++c::l2.take m:=by
    rw[List.take_append,ZC (by omega),show l1.length+1+m-l1.length=m+1 by omega];rfl
   have e4:(xs++x::ys).take (l1.length+1+m)=xs++x::ys.take m:=by
    rw[List.take_append,ZC (by omega),show l1.length+1+m-xs.length=m+1 by omega];rfl
   rw[e1,e2,e3,e4,yT _ _ _ _ _ h1]
   exact g3 m hml hmy
 ·rcases Zm.1 iX with hm|hm
  ·exact xW c' hm
  ·rcases ZV.1 hm with rfl|hm
   ·exact ia
   ·exact XJ c' hm
end
section
variable {P:Program}[Glob P]{N:Nat}{cfg:Nat→Nat}{Q:Exit→ae→Store→Prop}{rg:ae}{σ:Store}{k:List Fr}{xr:XR}
theorem Sb(d:Nat){l l1 l2:List CI}{s:CI}(hl:zB d l=some (l1,s,l2))(hs:Nat.ble s.op.cls 1=true)(hx:toXO rg=some xr)
  (h:VY P cfg [] (bare l1) (CZ P cfg (FK P N cfg Q .normal k) s l2) xr σ):WK P N cfg Q (.azZ l) k rg σ:=by
 have e:=OT hl
 subst e
 refine⟨WA.mono (Q:=fun e=>FK P N cfg Q e k) ⟨rfl,Qz cfg (Z8 hs) ?_⟩ fun _ _ _ h=>h.h⟩
 have:=h.h
 rw[← tV hx,sq]at this
 exact this
end
end Go.Sx
namespace Go.Proofs.YtbihckigennlhaaGreatDoor
open Go.Sx Go.Proofs Go.Tb Go.RowKit
def dI:List (af×Int)→af→Int
 |[],_=>0
 |p::es,s=>if p.1=s then p.2 else dI es s
def gP:List (af×Int)→af→Int→List (af×Int)
 |[],s,v=>[(s,v)]
 |p::es,s,v=>if p.1=s then(s,v)::es else p::gP es s v
def wE(es:List (af×Int)):List (Value×Nat×AV):=es.zipIdx.map fun p=>(.string p.1.1,p.2,wA p.1.2)
theorem Cy(es:List (af×Int)):(wE es).map (fun e=>(e.1,e.2.1))=es.zipIdx.map fun q=>(Value.string q.1.1,q.2):=by unfold wE;rw[Yw];rfl
theorem Cz(es:List (af×Int)):(wE es).map (·.2.2)=es.map fun p=>wA p.2:=by
 unfold wE
 rw[Yw]
 refine List.ext_getElem (by simp) fun j h1 h2=>by simp
theorem aze(es:List (af×Int))(p:af×Int):wE es++[(.string p.1,es.length,wA p.2)]=wE (es++[p]):=by
 unfold wE;rw[List.zipIdx_append];simp
theorem He(s:af):∀ (es:List (af×Int)) (l:List MapEntry) (k0 i:Nat),l.map (fun e=>(e.key,e.born))=(es.zipIdx k0).map (fun q=>(Value.string q.1.1,q.2))→
  (Instr.findNow .string (.string s) l i=some none∧dI es s=0∧∀ v,gP es s v=es++[(s,v)])∨
  ∃ j,∃ hj:j<es.length,∃ ef:j<l.length,Instr.findNow .string (.string s) l i=some (some (i+j,l[j].val))∧es[j].1=s∧dI es s=es[j].2∧l[j].key= .string s∧∀ v,gP es s v=es.set j (s,v)
 |[],l,k0,i,h=>by
  have:l=[]:=by simpa using h
  subst this
  exact .inl ⟨rfl,rfl,fun _=>rfl⟩
 |p::es,l,k0,i,h=>by
  cases l with
  |nil=>simp at h
  |cons e l=>
   simp only[List.zipIdx_cons,ZH,ZW,Y6]at h
   have vx:Instr.sameNow .string (.string s) e.key=some (decide (s=p.1)):=by
    rw[h.1.1]
    show some (s == p.1)=_
    rw[O1]
   by_cases hp:s=p.1
   ·subst hp
    refine .inr ⟨0,by simp,by simp,?_,rfl,by simp[dI],h.1.1,fun v=>by simp[gP]⟩
    simp only[Instr.findNow,vx,decide_true,YN,YI]
   ·have qI:¬p.1=s:=fun e=>hp e.symm
    rcases He s es l (k0+1) (i+1) h.2 with⟨a1,a2,a3⟩|⟨j,hj,ef,a1,a2,a3,a4,a5⟩
    ·refine .inl ⟨?_,by simp[dI,qI,a2],fun v=>by simp[gP,qI,a3]⟩
     simp only[Instr.findNow,vx,Zp hp]
     exact a1
    ·refine .inr ⟨j+1,by simp;omega,by simp;omega,?_,by simpa using a2,by simp[dI,qI,a3],by simpa using a4,fun v=>by simp[gP,qI,a5]⟩
     simp only[Instr.findNow,vx,Zp hp]
     rw[a1,show i+1+j=i+(j+1) by omega];simp
theorem azH(w:World):(zeroValue 212).run Tryz.prog w= .ok (wv 0) w:=by
 have h:(Tryz.prog.info? 212).map (fun i=>i.zero)=some (some (wv 0)):=by kernel_rfl
 obtain⟨i,h1,h2⟩:=ZR.1 h
 simp[zeroValue,typeInfo,h1,h2]
theorem CB(w:World)(b:Bool)(s:af):(Instr.checkKey b 10000 9 (.string s)).run Tryz.prog w= .ok () w:=
 Sx.run_checkKey (n:=9999) (q:= .str) (kd:= .string) rfl Tryz.underlying9
section
variable {M:Mem}{w0:Base}{w:World}{σ:Store}
theorem HP{tg b dY:Nat}{es:List (af×Int)}{t ty:TypeId}{q:TI}{m k:Operand}{s:af}(hl:aN σ tg=some (b,.map (wE es) dY)):
  kh Tryz.prog (.lookup t m k false) ty [.mp 9 212,q] [m,k] [.eA tg b,sv s] σ fun y σ'=>y=wA (dI es s)∧σ'=σ:=by
 intro dR M w0 w ρ hI hR
 simp only[fW,ZW,and_true]at dR
 have ht:=Ci dR.1
 have hk:=Tryz.underlying9
 obtain⟨v1,vs1,e1,h1,iV⟩:=hR.cN
 obtain⟨v2,e2,h2⟩:=iV.dV
 subst e2
 simp only[ZH,YX,ZW,and_true]at e1
 obtain⟨hM,l,hh,jC,kH⟩:=hI.xL hl
 have g1:=h1.yJ
 have g2:=h2.az
 subst g1 g2
 rw[Cy]at jC
 rw[Cz]at kH
 rcases He s es l 0 0 jC with⟨a1,a2,a3⟩|⟨j,hj,ef,a1,a2,a3,a4,a5⟩
 ·refine⟨.value (wv 0),w,M,wA (dI es s),wv 0,σ,?_,rfl,Mem.le.refl _,hI,by rw[a2];exact N5 0,rfl,rfl⟩
  simp only[execOp,e1.1,e1.2,Instr.lookup,Sem.run_bind,aY ht,Result.andThen_ok,getObj,Sem.run,hh,CB,Instr.findKey,aY hk,a1,Sem.run_pure,azH]
  rfl
 ·refine⟨.value l[j].val,w,M,wA (dI es s),l[j].val,σ,?_,rfl,Mem.le.refl _,hI,?_,rfl,rfl⟩
  ·simp only[execOp,e1.1,e1.2,Instr.lookup,Sem.run_bind,aY ht,Result.andThen_ok,getObj,Sem.run,hh,CB,Instr.findKey,aY hk,a1,Sem.run_pure]
   rfl
  ·have:=kH.2 j (by simpa using hj) (by simpa using ef)
   rw[a3]
   simpa using this
theorem azC(w:World)(s:af):(Instr.keyThatStays (.string s) (.string s)).run Tryz.prog w= .ok (.string s) w:=by
 simp[Instr.keyThatStays,Instr.sameBits,O1]
theorem Qu{tg b:Nat}{es:List (af×Int)}{t ty:TypeId}{q:TI}{m k x:Operand}{s:af}{v:Int}(hl:aN σ tg=some (b,.map (wE es) es.length)):
  kh Tryz.prog (.mapUpdate t m k x) ty [.mp 9 212,q] [m,k,x] [.eA tg b,sv s,wA v] σ fun y σ'=>y= .v undef∧σ'=ct σ tg b (.map (wE (gP es s v)) (gP es s v).length):=by
 intro dR M w0 w ρ hI hR
 simp only[fW,ZW,and_true]at dR
 have ht:=Ci dR.1
 have hk:=Tryz.underlying9
 obtain⟨v1,vs1,e1,h1,iV⟩:=hR.cN
 obtain⟨v2,PS,e2,h2,ff⟩:=iV.cN
 obtain⟨v3,e3,h3⟩:=ff.dV
 subst e3 e2
 simp only[ZH,YX,ZW,and_true]at e1
 obtain⟨hM,l,hh,jC,kH⟩:=hI.xL hl
 have g1:=h1.yJ
 have g2:=h2.az
 subst g1 g2
 have aH:b<w.heap.size:=(Zq.1 hh).1
 have aam:=jC
 have aaM:=kH
 rw[Cy]at jC
 rw[Cz]at kH
 rcases He s es l 0 0 jC with⟨a1,a2,a3⟩|⟨j,hj,ef,a1,a2,a3,a4,a5⟩
 ·let w':World:={w with heap:=w.heap.setIfInBounds b (.map (l++[(⟨.string s,v3,es.length⟩:MapEntry)]).toArray (es.length+1))}
  refine⟨.skip,w',M,.v undef,undef,_,?_,rfl,Mem.le.refl _,?_,.v _,rfl,rfl⟩
  ·have hu:l.toArray.push (⟨.string s,v3,es.length⟩:MapEntry)=(l++[(⟨.string s,v3,es.length⟩:MapEntry)]).toArray:=by apply YP;simp
   simp only[execOp,e1.1,e1.2.1,e1.2.2,Instr.mapUpdate,Sem.run_bind,aY ht,Result.andThen_ok,getObj,Sem.run,hh,CB,Instr.findKey,aY hk,a1,Sem.run_pure,setObj,hu]
   rfl
  ·rw[a3,Z7,List.length_singleton,← aze]
   refine hI.zM (w':=w') (y:= .map (wE es++[(.string s,es.length,wA v)]) (es.length+1)) hl (fun k hk=> ?_) rfl rfl rfl (by simp[w']) hM ⟨hM,l++[⟨.string s,v3,es.length⟩],?_,?_,?_⟩
   ·simp only[w']
    rw[Za (fun e=>hk e.symm)]
   ·simp only[w']
    rw[X6 aH]
   ·simp[aam]
   ·simp only[Y2,ZH,YX]
    exact RL.append aaM (RL.cons h3 RL.nil)
 ·let f:MapEntry→MapEntry:=fun e=>{e with key:= .string s,val:=v3}
  let w':World:={w with heap:=w.heap.setIfInBounds b (.map (l.modify j f).toArray es.length)}
  refine⟨.skip,w',M,.v undef,undef,_,?_,rfl,Mem.le.refl _,?_,.v _,rfl,rfl⟩
  ·have hu:l.toArray.modify j f=(l.modify j f).toArray:=by simp
   have Lp:(l.toArray[j]?.map (·.key)).getD (.string s)= .string s:=by
    rw[XN,Z6 ef];exact a4
   simp only[execOp,e1.1,e1.2.1,e1.2.2,Instr.mapUpdate,Sem.run_bind,aY ht,Result.andThen_ok,getObj,Sem.run,hh,CB,Instr.findKey,aY hk,a1,Sem.run_pure,setObj,Zh,Lp,azC,hu]
   show Result.ok Next.skip ({w with heap:=w.heap.setIfInBounds b (.map (l.toArray.modify j f) es.length)}:World)=_
   rw[hu]
  ·rw[a5,List.length_set]
   refine hI.zM (w':=w') (y:= .map (wE (es.set j (s,v))) es.length) hl (fun k hk=> ?_) rfl rfl rfl (by simp[w']) hM ⟨hM,l.modify j f,?_,?_,?_⟩
   ·simp only[w']
    rw[Za (fun e=>hk e.symm)]
   ·simp only[w']
    rw[X6 aH]
   ·rw[Cy]
    refine List.ext_getElem ?_ fun i g1 g2=> ?_
    ·have:=congrArg List.length jC;simpa using this
    ·have h6:i<l.length:=by simpa using g1
     have h7:i<es.length:=by simpa using g2
     have h5:=congrArg (fun x=>x[i]?) jC
     simp[h6,h7]at h5
     simp only[Zg,List.getElem_modify,List.getElem_zipIdx,List.getElem_set,Zh]
     by_cases gu:j=i
     ·subst gu
      simp[f,h5.2]
     ·simp[gu,h5.1,h5.2]
   ·rw[Cz]
    refine⟨?_,fun i g1 g2=> ?_⟩
    ·have:=kH.1;simpa using this
    ·have h6:i<l.length:=by simpa using g2
     have h7:i<es.length:=by simpa using g1
     have h5:=kH.2 i (by simpa using h7) (by simpa using h6)
     simp only[Zg,List.getElem_modify,List.getElem_set]at h5 ⊢
     by_cases gu:j=i
     ·subst gu
      simpa[f]using h3
     ·simpa[gu]using h5
end
section
variable {cfg:Nat→Nat}{K:ae→Store→Prop}{E:List PanicEntry→Store→Prop}{σ σ':Store}{l:List CI}{d:Nat}{xr:XR}{ps:List Prop}{og:Option Bool}
theorem Ri{t:TypeId}{q:TI}{ty:TypeId}{m k:Operand}{tg b b' dY:Nat}{es:List (af×Int)}{s:af}(h:aA xr none [m,k]=some (og,[.eA tg b,sv s],ps))(hl:aN σ tg=some (b',.map (wE es) dY))(hb:b=b')(al:OB ps)
  (kk:VX Tryz.prog cfg l K E ((d,.s (wA (dI es s)))::xr) σ):VX Tryz.prog cfg (⟨some d,.cp (.lookup t m k false) ty [.mp 9 212,q] [m,k],none⟩::l) K E xr σ:=by
 obtain⟨hc,he⟩:=bZ h
 have cI:=uJ h
 subst cI
 subst hb
 constructor
 simp only[dW,di,aj,he al rfl]
 refine(HP hl).mono fun y s ⟨e1,e2⟩=> ?_
 subst e1 e2
 exact kk.h
theorem Ru{t:TypeId}{q:TI}{ty:TypeId}{m k x:Operand}{tg b b':Nat}{es:List (af×Int)}{s:af}{v:Int}(h:aA xr none [m,k,x]=some (og,[.eA tg b,sv s,wA v],ps))(hl:aN σ tg=some (b',.map (wE es) es.length))(hb:b=b')(hu:uc σ tg b (.map (wE (gP es s v)) (gP es s v).length)=some σ')(al:OB ps)
  (kk:VX Tryz.prog cfg l K E xr σ'):VX Tryz.prog cfg (⟨none,.exts (.mapUpdate t m k x) ty [.mp 9 212,q] [m,k,x],none⟩::l) K E xr σ:=by
 obtain⟨hc,he⟩:=bZ h
 have cI:=uJ h
 subst cI
 subst hb
 constructor
 simp only[dW,di,aj,he al rfl]
 refine(Qu hl).mono fun y s ⟨e1,e2⟩=> ?_
 rw[Ct hu]at e2
 subst e1 e2
 exact kk.h
theorem RQ{t:TypeId}{q:TI}{ty:TypeId}{m k:Operand}{tg b b' dY:Nat}{es:List (af×Int)}{s:af}{l2:List CI}(h:aA xr none [m,k]=some (og,[.eA tg b,sv s],ps))(hl:aN σ tg=some (b',.map (wE es) dY))(hb:b=b')(al:OB ps)
  (kk:VY Tryz.prog cfg [] (bare l2) (Cl K) ((d,.s (wA (dI es s)))::xr) σ):VY Tryz.prog cfg [] [] (CZ Tryz.prog cfg K ⟨some d,.cp (.lookup t m k false) ty [.mp 9 212,q] [m,k],none⟩ l2) xr σ:=by
 obtain⟨hc,he⟩:=bZ h
 have cI:=uJ h
 subst cI
 subst hb
 refine⟨wA (dI es s),?_,kk.h⟩
 unfold QV
 simp only[di,aj,he al rfl]
 exact HP hl
end
end Go.Proofs.YtbihckigennlhaaGreatDoor
