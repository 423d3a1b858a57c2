/- The layer: a look-up in a region of open order; maps from names to wide numbers. -/
import Derived.Test.YtbihckigennlhaaGreatDoorYc
set_option linter.unusedSimpArgs false
set_option linter.unusedVariables false
set_option linter.unusedSectionVars false
set_option maxRecDepth 100000
set_option maxHeartbeats 1000000
namespace Go.Sx
open Go.RowKit
section
variable {P:Program}[Glob P]{N:Nat}{cfg:Nat→Nat}{rg:ae}{σ:Store}
def Bv(P:Program)[Glob P](cfg:Nat→Nat)(K:ae→Store→Prop)(c:CI)(l2:List CI)(rg:ae)(σ:Store):Prop:=∃ x,QV P cfg c rg σ x∧cx P cfg [] (bare l2) (Cl K) (bM c.d x rg) σ
theorem Og{l1 l2:List CI}{c:CI}{Q:Exit→ae→Store→Prop}(cfg:Nat→Nat)(gC:c.op.cls≤1)(h:cx P cfg [] (bare l1) (Bv P cfg (Q .normal) c l2) rg σ):SW P N (.dc (l1++c::l2)) Q rg σ:=by
 refine yu (s7 cfg fun hc=> ?_)
 obtain⟨xs,h1,⟨ct,⟨x,hq,hv⟩,h3⟩,h4⟩:=Nk l1 rg rg (fun _=>rfl) (fun c h=>hc c (by simp[h])) h
 have wJ:=yf l1 rg (fun c h=>hc c (by simp[h])) h
 have UR:=yf l2 _ (fun c h=>hc c (by simp[h])) hv
 have rG:QV P cfg c (cP l1 xs rg) σ x:=qF (fun t _=>h3 t) hq
 obtain⟨ys,g1,⟨fe,k1,k2⟩,g3⟩:=ye l2 _ (bM c.d x (cP l1 xs rg)) (uH h3 c.d x) (fun c h=>hc c (by simp[h])) hv
 refine⟨⟨xs++x::ys,by simp[h1,g1],⟨fe,k1,fun i=> ?_⟩,fun i h h'=> ?_⟩,fun c' im=> ?_⟩
 ·rw[xL _ _ _ _ _ h1];exact k2 i
 ·rcases YF i l1.length with hi|hi|hi
  ·have:=h4 i hi (by omega)
   simp only[List.getElem_append_left hi,List.getElem_append_left (show i<xs.length by omega),Y1 (show i≤l1.length by omega),Y1 (show i≤xs.length by omega)]
   exact this
  ·subst hi
   have hz:=h'
   have e1:(l1++c::l2)[l1.length]=c:=by simp
   have e2:(xs++x::ys)[l1.length]'hz=x:=by simp[← h1]
   have e3:(l1++c::l2).take l1.length=l1:=by simp
   have e4:(xs++x::ys).take l1.length=xs:=by rw[← h1];simp
   rw[e1,e2,e3,e4]
   exact rG
  ·obtain⟨m,hm⟩:∃ m,i=l1.length+1+m:=⟨i-(l1.length+1),by omega⟩
   subst hm
   have Vx:m<l2.length:=by simp at h;omega
   have hz:=h'
   have VA:m<ys.length:=by omega
   have e1:(l1++c::l2)[l1.length+1+m]=l2[m]:=by
    rw[Yx (by omega)]
    simp only[show l1.length+1+m-l1.length=m+1 by omega,X6]
   have e2:(xs++x::ys)[l1.length+1+m]'hz=ys[m]:=by
    rw[Yx (by omega)]
    simp only[show l1.length+1+m-xs.length=m+1 by omega,X6]
   have e3:(l1++c::l2).take (l1.length+1+m)=l1++c::l2.take m:=by
    rw[List.take_append,ZD (by omega),show l1.length+1+m-l1.length=m+1 by omega];rfl
   have e4:(xs++x::ys).take (l1.length+1+m)=xs++x::ys.take m:=by
    rw[List.take_append,ZD (by omega),show l1.length+1+m-xs.length=m+1 by omega];rfl
   rw[e1,e2,e3,e4,xL _ _ _ _ _ h1]
   exact g3 m Vx VA
 ·rcases Zl.1 im with hm|hm
  ·exact wJ c' hm
  ·rcases ZU.1 hm with rfl|hm
   ·exact gC
   ·exact UR c' hm
end
section
variable {P:Program}[Glob P]{N:Nat}{cfg:Nat→Nat}{Q:Exit→ae→Store→Prop}{rg:ae}{σ:Store}{k:List Fr}{xr:XR}
theorem PV(d:Nat){l l1 l2:List CI}{s:CI}(hl:xY d l=some (l1,s,l2))(hs:Nat.ble s.op.cls 1=true)(hx:iJ rg=some xr)
  (h:VY P cfg [] (bare l1) (Bv P cfg (FK P N cfg Q .normal k) s l2) xr σ):WK P N cfg Q (.dc l) k rg σ:=by
 have e:=MC hl
 subst e
 refine⟨WA.mono (Q:=fun e=>FK P N cfg Q e k) ⟨rfl,Og cfg (Z9 hs) ?_⟩ fun _ _ _ h=>h.h⟩
 have:=h.h
 rw[← su hx,qO]at this
 exact this
end
end Go.Sx
namespace Go.Proofs.YtbihckigennlhaaGreatDoor
open Go.Sx Go.Proofs Go.Tb Go.RowKit
def dx:List (ag×Int)→ag→Int
 |[],_=>0
 |p::es,s=>if p.1=s then p.2 else dx es s
def gr:List (ag×Int)→ag→Int→List (ag×Int)
 |[],s,v=>[(s,v)]
 |p::es,s,v=>if p.1=s then(s,v)::es else p::gr es s v
def wE(es:List (ag×Int)):List (Value×Nat×AV):=es.zipIdx.map fun p=>(.string p.1.1,p.2,wA p.1.2)
theorem Bb(es:List (ag×Int)):(wE es).map (fun e=>(e.1,e.2.1))=es.zipIdx.map fun q=>(Value.string q.1.1,q.2):=by unfold wE;rw[Yv];rfl
theorem Bc(es:List (ag×Int)):(wE es).map (·.2.2)=es.map fun p=>wA p.2:=by
 unfold wE
 rw[Yv]
 refine List.ext_getElem (by simp) fun j h1 h2=>by simp
theorem ati(es:List (ag×Int))(p:ag×Int):wE es++[(.string p.1,es.length,wA p.2)]=wE (es++[p]):=by
 unfold wE;rw[List.zipIdx_append];simp
theorem Fj(s:ag):∀ (es:List (ag×Int)) (l:List MapEntry) (k0 i:Nat),l.map (fun e=>(e.key,e.born))=(es.zipIdx k0).map (fun q=>(Value.string q.1.1,q.2))→
  (Instr.findNow .string (.string s) l i=some none∧dx es s=0∧∀ v,gr es s v=es++[(s,v)])∨
  ∃ j,∃ hj:j<es.length,∃ dS:j<l.length,Instr.findNow .string (.string s) l i=some (some (i+j,l[j].val))∧es[j].1=s∧dx es s=es[j].2∧l[j].key= .string s∧∀ v,gr es s v=es.set j (s,v)
 |[],l,k0,i,h=>by
  have:l=[]:=by simpa using h
  subst this
  exact .inl ⟨rfl,rfl,fun _=>rfl⟩
 |p::es,l,k0,i,h=>by
  cases l with
  |nil=>simp at h
  |cons e l=>
   simp only[List.zipIdx_cons,ZL,ZY,Y5]at h
   have uw:Instr.sameNow .string (.string s) e.key=some (decide (s=p.1)):=by
    rw[h.1.1]
    show some (s == p.1)=_
    rw[MG]
   by_cases hp:s=p.1
   ·subst hp
    refine .inr ⟨0,by simp,by simp,?_,rfl,by simp[dx],h.1.1,fun v=>by simp[gr]⟩
    simp only[Instr.findNow,uw,decide_true,YT,YN]
   ·have pH:¬p.1=s:=fun e=>hp e.symm
    rcases Fj s es l (k0+1) (i+1) h.2 with⟨a1,a2,a3⟩|⟨j,hj,dS,a1,a2,a3,a4,a5⟩
    ·refine .inl ⟨?_,by simp[dx,pH,a2],fun v=>by simp[gr,pH,a3]⟩
     simp only[Instr.findNow,uw,Zu hp]
     exact a1
    ·refine .inr ⟨j+1,by simp;omega,by simp;omega,?_,by simpa using a2,by simp[dx,pH,a3],by simpa using a4,fun v=>by simp[gr,pH,a5]⟩
     simp only[Instr.findNow,uw,Zu hp]
     rw[a1,show i+1+j=i+(j+1) by omega];simp
theorem atE(w:World):(zeroValue 212).run Tryz.prog w= .ok (wv 0) w:=by
 have h:(Tryz.prog.info? 212).map (fun i=>i.zero)=some (some (wv 0)):=by kernel_rfl
 obtain⟨i,h1,h2⟩:=ZS.1 h
 simp[zeroValue,typeInfo,h1,h2]
theorem Be(w:World)(b:Bool)(s:ag):(Instr.checkKey b 10000 9 (.string s)).run Tryz.prog w= .ok () w:=
 Sx.run_checkKey (n:=9999) (q:= .str) (kd:= .string) rfl Tryz.underlying9
section
variable {M:Mem}{w0:Base}{w:World}{σ:Store}
theorem FV{tg b dR:Nat}{es:List (ag×Int)}{t ty:TypeId}{q:TI}{m k:Operand}{s:ag}(hl:aK σ tg=some (b,.map (wE es) dR)):
  jF Tryz.prog (.lookup t m k false) ty [.mp 9 212,q] [m,k] [.dY tg b,sv s] σ fun y σ'=>y=wA (dx es s)∧σ'=σ:=by
 intro dI M w0 w ρ hI hR
 simp only[fz,ZY,and_true]at dI
 have ht:=AZ dI.1
 have hk:=Tryz.underlying9
 obtain⟨v1,vp,e1,h1,ik⟩:=hR.cE
 obtain⟨v2,e2,h2⟩:=ik.dN
 subst e2
 simp only[ZL,Y7,ZY,and_true]at e1
 obtain⟨hM,l,hh,iS,jQ⟩:=hI.wu hl
 have g1:=h1.xC
 have g2:=h2.ax
 subst g1 g2
 rw[Bb]at iS
 rw[Bc]at jQ
 rcases Fj s es l 0 0 iS with⟨a1,a2,a3⟩|⟨j,hj,dS,a1,a2,a3,a4,a5⟩
 ·refine⟨.value (wv 0),w,M,wA (dx es s),wv 0,σ,?_,rfl,Mem.le.refl _,hI,by rw[a2];exact LL 0,rfl,rfl⟩
  simp only[execOp,e1.1,e1.2,Instr.lookup,Sem.run_bind,aV ht,Result.andThen_ok,getObj,Sem.run,hh,Be,Instr.findKey,aV hk,a1,Sem.run_pure,atE]
  rfl
 ·refine⟨.value l[j].val,w,M,wA (dx es s),l[j].val,σ,?_,rfl,Mem.le.refl _,hI,?_,rfl,rfl⟩
  ·simp only[execOp,e1.1,e1.2,Instr.lookup,Sem.run_bind,aV ht,Result.andThen_ok,getObj,Sem.run,hh,Be,Instr.findKey,aV hk,a1,Sem.run_pure]
   rfl
  ·have:=jQ.2 j (by simpa using hj) (by simpa using dS)
   rw[a3]
   simpa using this
theorem atC(w:World)(s:ag):(Instr.keyThatStays (.string s) (.string s)).run Tryz.prog w= .ok (.string s) w:=by
 simp[Instr.keyThatStays,Instr.sameBits,MG]
theorem Oa{tg b:Nat}{es:List (ag×Int)}{t ty:TypeId}{q:TI}{m k x:Operand}{s:ag}{v:Int}(hl:aK σ tg=some (b,.map (wE es) es.length)):
  jF Tryz.prog (.mapUpdate t m k x) ty [.mp 9 212,q] [m,k,x] [.dY tg b,sv s,wA v] σ fun y σ'=>y= .v undef∧σ'=ck σ tg b (.map (wE (gr es s v)) (gr es s v).length):=by
 intro dI M w0 w ρ hI hR
 simp only[fz,ZY,and_true]at dI
 have ht:=AZ dI.1
 have hk:=Tryz.underlying9
 obtain⟨v1,vp,e1,h1,ik⟩:=hR.cE
 obtain⟨v2,Nt,e2,h2,eL⟩:=ik.cE
 obtain⟨v3,e3,h3⟩:=eL.dN
 subst e3 e2
 simp only[ZL,Y7,ZY,and_true]at e1
 obtain⟨hM,l,hh,iS,jQ⟩:=hI.wu hl
 have g1:=h1.xC
 have g2:=h2.ax
 subst g1 g2
 have aE:b<w.heap.size:=(Zz.1 hh).1
 have Vj:=iS
 have Wh:=jQ
 rw[Bb]at iS
 rw[Bc]at jQ
 rcases Fj s es l 0 0 iS with⟨a1,a2,a3⟩|⟨j,hj,dS,a1,a2,a3,a4,a5⟩
 ·let w':World:={w with heap:=w.heap.setIfInBounds b (.map (l++[(⟨.string s,v3,es.length⟩:MapEntry)]).toArray (es.length+1))}
  refine⟨.skip,w',M,.v undef,undef,_,?_,rfl,Mem.le.refl _,?_,.v _,rfl,rfl⟩
  ·have hu:l.toArray.push (⟨.string s,v3,es.length⟩:MapEntry)=(l++[(⟨.string s,v3,es.length⟩:MapEntry)]).toArray:=by apply YX;simp
   simp only[execOp,e1.1,e1.2.1,e1.2.2,Instr.mapUpdate,Sem.run_bind,aV ht,Result.andThen_ok,getObj,Sem.run,hh,Be,Instr.findKey,aV hk,a1,Sem.run_pure,setObj,hu]
   rfl
  ·rw[a3,Z7,List.length_singleton,← ati]
   refine hI.ya (w':=w') (y:= .map (wE es++[(.string s,es.length,wA v)]) (es.length+1)) hl (fun k hk=> ?_) rfl rfl rfl (by simp[w']) hM ⟨hM,l++[⟨.string s,v3,es.length⟩],?_,?_,?_⟩
   ·simp only[w']
    rw[Zj (fun e=>hk e.symm)]
   ·simp only[w']
    rw[Yg aE]
   ·simp[Vj]
   ·simp only[Y2,ZL,Y7]
    exact RL.append Wh (RL.cons h3 RL.nil)
 ·let f:MapEntry→MapEntry:=fun e=>{e with key:= .string s,val:=v3}
  let w':World:={w with heap:=w.heap.setIfInBounds b (.map (l.modify j f).toArray es.length)}
  refine⟨.skip,w',M,.v undef,undef,_,?_,rfl,Mem.le.refl _,?_,.v _,rfl,rfl⟩
  ·have hu:l.toArray.modify j f=(l.modify j f).toArray:=by simp
   have JG:(l.toArray[j]?.map (·.key)).getD (.string s)= .string s:=by
    rw[X2,Z1 dS];exact a4
   simp only[execOp,e1.1,e1.2.1,e1.2.2,Instr.mapUpdate,Sem.run_bind,aV ht,Result.andThen_ok,getObj,Sem.run,hh,Be,Instr.findKey,aV hk,a1,Sem.run_pure,setObj,Y8,JG,atC,hu]
   show Result.ok Next.skip ({w with heap:=w.heap.setIfInBounds b (.map (l.toArray.modify j f) es.length)}:World)=_
   rw[hu]
  ·rw[a5,List.length_set]
   refine hI.ya (w':=w') (y:= .map (wE (es.set j (s,v))) es.length) hl (fun k hk=> ?_) rfl rfl rfl (by simp[w']) hM ⟨hM,l.modify j f,?_,?_,?_⟩
   ·simp only[w']
    rw[Zj (fun e=>hk e.symm)]
   ·simp only[w']
    rw[Yg aE]
   ·rw[Bb]
    refine List.ext_getElem ?_ fun i g1 g2=> ?_
    ·have:=congrArg List.length iS;simpa using this
    ·have h6:i<l.length:=by simpa using g1
     have h7:i<es.length:=by simpa using g2
     have h5:=congrArg (fun x=>x[i]?) iS
     simp[h6,h7]at h5
     simp only[Zm,List.getElem_modify,List.getElem_zipIdx,List.getElem_set,Y8]
     by_cases fW:j=i
     ·subst fW
      simp[f,h5.2]
     ·simp[fW,h5.1,h5.2]
   ·rw[Bc]
    refine⟨?_,fun i g1 g2=> ?_⟩
    ·have:=jQ.1;simpa using this
    ·have h6:i<l.length:=by simpa using g2
     have h7:i<es.length:=by simpa using g1
     have h5:=jQ.2 i (by simpa using h7) (by simpa using h6)
     simp only[Zm,List.getElem_modify,List.getElem_set]at h5 ⊢
     by_cases fW:j=i
     ·subst fW
      simpa[f]using h3
     ·simpa[fW]using h5
end
section
variable {cfg:Nat→Nat}{K:ae→Store→Prop}{E:List PanicEntry→Store→Prop}{σ σ':Store}{l:List CI}{d:Nat}{xr:XR}{ps:List Prop}{og:Option Bool}
theorem OZ{t:TypeId}{q:TI}{ty:TypeId}{m k:Operand}{tg b b' dR:Nat}{es:List (ag×Int)}{s:ag}(h:ay xr none [m,k]=some (og,[.dY tg b,sv s],ps))(hl:aK σ tg=some (b',.map (wE es) dR))(hb:b=b')(al:OB ps)
  (kk:VX Tryz.prog cfg l K E ((d,.s (wA (dx es s)))::xr) σ):VX Tryz.prog cfg (⟨some d,.b8 (.lookup t m k false) ty [.mp 9 212,q] [m,k],none⟩::l) K E xr σ:=by
 obtain⟨hc,he⟩:=bY h
 have cA:=td h
 subst cA
 subst hb
 constructor
 simp only[dO,cT,aj,he al rfl]
 refine(FV hl).mono fun y s ⟨e1,e2⟩=> ?_
 subst e1 e2
 exact kk.h
theorem Pb{t:TypeId}{q:TI}{ty:TypeId}{m k x:Operand}{tg b b':Nat}{es:List (ag×Int)}{s:ag}{v:Int}(h:ay xr none [m,k,x]=some (og,[.dY tg b,sv s,wA v],ps))(hl:aK σ tg=some (b',.map (wE es) es.length))(hb:b=b')(hu:sE σ tg b (.map (wE (gr es s v)) (gr es s v).length)=some σ')(al:OB ps)
  (kk:VX Tryz.prog cfg l K E xr σ'):VX Tryz.prog cfg (⟨none,.exts (.mapUpdate t m k x) ty [.mp 9 212,q] [m,k,x],none⟩::l) K E xr σ:=by
 obtain⟨hc,he⟩:=bY h
 have cA:=td h
 subst cA
 subst hb
 constructor
 simp only[dO,cT,aj,he al rfl]
 refine(Oa hl).mono fun y s ⟨e1,e2⟩=> ?_
 rw[A7 hu]at e2
 subst e1 e2
 exact kk.h
theorem Px{t:TypeId}{q:TI}{ty:TypeId}{m k:Operand}{tg b b' dR:Nat}{es:List (ag×Int)}{s:ag}{l2:List CI}(h:ay xr none [m,k]=some (og,[.dY tg b,sv s],ps))(hl:aK σ tg=some (b',.map (wE es) dR))(hb:b=b')(al:OB ps)
  (kk:VY Tryz.prog cfg [] (bare l2) (Cl K) ((d,.s (wA (dx es s)))::xr) σ):VY Tryz.prog cfg [] [] (Bv Tryz.prog cfg K ⟨some d,.b8 (.lookup t m k false) ty [.mp 9 212,q] [m,k],none⟩ l2) xr σ:=by
 obtain⟨hc,he⟩:=bY h
 have cA:=td h
 subst cA
 subst hb
 refine⟨wA (dx es s),?_,kk.h⟩
 unfold QV
 simp only[cT,aj,he al rfl]
 exact FV hl
end
end Go.Proofs.YtbihckigennlhaaGreatDoor
