/- The layer: a look-up in a region of open order; maps from names to wide numbers. -/
import Derived.Test.YtcccbdelfhgmlaaGreatDoorYc
set_option linter.unusedSimpArgs false
set_option linter.unusedVariables false
set_option linter.unusedSectionVars false
set_option maxRecDepth 100000
set_option maxHeartbeats 1000000
namespace Go.Sx
open Go.RowKit
section
variable {P:Program}[Glob P]{N:Nat}{cfg:Nat→Nat}{rg:ag}{σ:Store}
def Gq(P:Program)[Glob P](cfg:Nat→Nat)(K:ag→Store→Prop)(c:CI)(l2:List CI)(rg:ag)(σ:Store):Prop:=∃ x,QV P cfg c rg σ x∧cZ P cfg [] (bare l2) (Cl K) (cm c.d x rg) σ
theorem Wy{l1 l2:List CI}{c:CI}{Q:Exit→ag→Store→Prop}(cfg:Nat→Nat)(fy:c.op.cls≤1)(h:cZ P cfg [] (bare l1) (Gq P cfg (Q .normal) c l2) rg σ):SW P N (.dV (l1++c::l2)) Q rg σ:=by
 refine C4 (xf cfg fun hc=> ?_)
 obtain⟨xs,h1,⟨cQ,⟨x,hq,hv⟩,h3⟩,h4⟩:=Vq l1 rg rg (fun _=>rfl) (fun c h=>hc c (by simp[h])) h
 have Bf:=CN l1 rg (fun c h=>hc c (by simp[h])) h
 have aeE:=CN l2 _ (fun c h=>hc c (by simp[h])) hv
 have j8:QV P cfg c (dD l1 xs rg) σ x:=uI (fun t _=>h3 t) hq
 obtain⟨ys,g1,⟨gj,k1,k2⟩,g3⟩:=CM l2 _ (cm c.d x (dD l1 xs rg)) (yA h3 c.d x) (fun c h=>hc c (by simp[h])) hv
 refine⟨⟨xs++x::ys,by simp[h1,g1],⟨gj,k1,fun i=> ?_⟩,fun i h h'=> ?_⟩,fun c' gO=> ?_⟩
 ·rw[Ch _ _ _ _ _ h1];exact k2 i
 ·rcases Yu i l1.length with hi|hi|hi
  ·have:=h4 i hi (by omega)
   simp only[YH hi,YH (show i<xs.length by omega),Y0 (show i≤l1.length by omega),Y0 (show i≤xs.length by omega)]
   exact this
  ·subst hi
   have hz:=h'
   have e1:(l1++c::l2)[l1.length]=c:=by simp
   have e2:(xs++x::ys)[l1.length]'hz=x:=by simp[← h1]
   have e3:(l1++c::l2).take l1.length=l1:=by simp
   have e4:(xs++x::ys).take l1.length=xs:=by rw[← h1];simp
   rw[e1,e2,e3,e4]
   exact j8
  ·obtain⟨m,hm⟩:∃ m,i=l1.length+1+m:=⟨i-(l1.length+1),by omega⟩
   subst hm
   have hml:m<l2.length:=by simp at h;omega
   have hz:=h'
   have hmy:m<ys.length:=by omega
   have e1:(l1++c::l2)[l1.length+1+m]=l2[m]:=by
    rw[YR (by omega)]
    simp only[show l1.length+1+m-l1.length=m+1 by omega,XH]
   have e2:(xs++x::ys)[l1.length+1+m]'hz=ys[m]:=by
    rw[YR (by omega)]
    simp only[show l1.length+1+m-xs.length=m+1 by omega,XH]
   have e3:(l1++c::l2).take (l1.length+1+m)=l1++c::l2.take m:=by
    rw[List.take_append,ZD (by omega),show l1.length+1+m-l1.length=m+1 by omega];rfl
   have e4:(xs++x::ys).take (l1.length+1+m)=xs++x::ys.take m:=by
    rw[List.take_append,ZD (by omega),show l1.length+1+m-xs.length=m+1 by omega];rfl
   rw[e1,e2,e3,e4,Ch _ _ _ _ _ h1]
   exact g3 m hml hmy
 ·rcases ZG.1 gO with hm|hm
  ·exact Bf c' hm
  ·rcases ZV.1 hm with rfl|hm
   ·exact fy
   ·exact aeE c' hm
end
section
variable {P:Program}[Glob P]{N:Nat}{cfg:Nat→Nat}{Q:Exit→ag→Store→Prop}{rg:ag}{σ:Store}{k:List Fr}{xr:XR}
theorem aaA(d:Nat){l l1 l2:List CI}{s:CI}(hl:Cw d l=some (l1,s,l2))(hs:Nat.ble s.op.cls 1=true)(hx:toXO rg=some xr)
  (h:VY P cfg [] (bare l1) (Gq P cfg (FK P N cfg Q .normal k) s l2) xr σ):WK P N cfg Q (.dV l) k rg σ:=by
 have e:=UF hl
 subst e
 refine⟨WA.mono (Q:=fun e=>FK P N cfg Q e k) ⟨rfl,Wy cfg (Z7 hs) ?_⟩ fun _ _ _ h=>h.h⟩
 have:=h.h
 rw[← wq hx,uS]at this
 exact this
end
end Go.Sx
namespace Go.Proofs.YtcccbdelfhgmlaaGreatDoor
open Go.Sx Go.Proofs Go.Tb Go.RowKit
def en:List (ae×Int)→ae→Int
 |[],_=>0
 |p::es,s=>if p.1=s then p.2 else en es s
def iP:List (ae×Int)→ae→Int→List (ae×Int)
 |[],s,v=>[(s,v)]
 |p::es,s,v=>if p.1=s then(s,v)::es else p::iP es s v
def wE(es:List (ae×Int)):List (Value×Nat×AV):=es.zipIdx.map fun p=>(.string p.1.1,p.2,wA p.1.2)
theorem FW(es:List (ae×Int)):(wE es).map (fun e=>(e.1,e.2.1))=es.zipIdx.map fun q=>(Value.string q.1.1,q.2):=by unfold wE;rw[Yf];rfl
theorem FX(es:List (ae×Int)):(wE es).map (·.2.2)=es.map fun p=>wA p.2:=by
 unfold wE
 rw[Yf]
 refine XP (by simp) fun j h1 h2=>by simp
theorem axS(es:List (ae×Int))(p:ae×Int):wE es++[(.string p.1,es.length,wA p.2)]=wE (es++[p]):=by
 unfold wE;rw[List.zipIdx_append];simp
theorem LH(s:ae):∀ (es:List (ae×Int)) (l:List MapEntry) (k0 i:Nat),l.map (fun e=>(e.key,e.born))=(es.zipIdx k0).map (fun q=>(Value.string q.1.1,q.2))→
  (Instr.findNow .string (.string s) l i=some none∧en es s=0∧∀ v,iP es s v=es++[(s,v)])∨
  ∃ j,∃ hj:j<es.length,∃ eo:j<l.length,Instr.findNow .string (.string s) l i=some (some (i+j,l[j].val))∧es[j].1=s∧en es s=es[j].2∧l[j].key= .string s∧∀ v,iP es s v=es.set j (s,v)
 |[],l,k0,i,h=>by
  have:l=[]:=by simpa using h
  subst this
  exact .inl ⟨rfl,rfl,fun _=>rfl⟩
 |p::es,l,k0,i,h=>by
  cases l with
  |nil=>simp at h
  |cons e l=>
   simp only[List.zipIdx_cons,Zu,ZT,Yw]at h
   have yk:Instr.sameNow .string (.string s) e.key=some (decide (s=p.1)):=by
    rw[h.1.1]
    show some (s == p.1)=_
    rw[UJ]
   by_cases hp:s=p.1
   ·subst hp
    refine .inr ⟨0,by simp,by simp,?_,rfl,by simp[en],h.1.1,fun v=>by simp[iP]⟩
    simp only[Instr.findNow,yk,decide_true,YP,Yo]
   ·have ot:¬p.1=s:=fun e=>hp e.symm
    rcases LH s es l (k0+1) (i+1) h.2 with⟨a1,a2,a3⟩|⟨j,hj,eo,a1,a2,a3,a4,a5⟩
    ·refine .inl ⟨?_,by simp[en,ot,a2],fun v=>by simp[iP,ot,a3]⟩
     simp only[Instr.findNow,yk,Zn hp]
     exact a1
    ·refine .inr ⟨j+1,by simp;omega,by simp;omega,?_,by simpa using a2,by simp[en,ot,a3],by simpa using a4,fun v=>by simp[iP,ot,a5]⟩
     simp only[Instr.findNow,yk,Zn hp]
     rw[a1,show i+1+j=i+(j+1) by omega];simp
theorem ayi(w:World):(zeroValue 255).run Tryz.prog w= .ok (wv 0) w:=by
 have h:(Tryz.prog.info? 255).map (fun i=>i.zero)=some (some (wv 0)):=by kernel_rfl
 obtain⟨i,h1,h2⟩:=ZQ.1 h
 simp[zeroValue,typeInfo,h1,h2]
theorem FZ(w:World)(b:Bool)(s:ae):(Instr.checkKey b 10000 9 (.string s)).run Tryz.prog w= .ok () w:=
 Sx.run_checkKey (n:=9999) (q:= .str) (kd:= .string) rfl Tryz.underlying9
section
variable {M:Mem}{w0:Base}{w:World}{σ:Store}
theorem Mn{tg b eL:Nat}{es:List (ae×Int)}{t ty:TypeId}{q:TI}{m k:Operand}{s:ae}(hl:aR σ tg=some (b,.map (wE es) eL)):
  lG Tryz.prog (.lookup t m k false) ty [.mp 9 255,q] [m,k] [.eu tg b,sv s] σ fun y σ'=>y=wA (en es s)∧σ'=σ:=by
 intro eH M w0 w ρ hI hR
 simp only[gJ,ZT,Zd]at eH
 have ht:=FH eH.1
 have hk:=Tryz.underlying9
 obtain⟨v1,wC,e1,h1,jK⟩:=hR.bS
 obtain⟨v2,e2,h2⟩:=jK.eg
 subst e2
 simp only[Zu,YO,ZT,Zd]at e1
 obtain⟨hM,l,hh,kR,mh⟩:=hI.AW hl
 have g1:=h1.B5
 have g2:=h2.ay
 subst g1 g2
 rw[FW]at kR
 rw[FX]at mh
 rcases LH s es l 0 0 kR with⟨a1,a2,a3⟩|⟨j,hj,eo,a1,a2,a3,a4,a5⟩
 ·refine⟨.value (wv 0),w,M,wA (en es s),wv 0,σ,?_,rfl,Mem.le.refl _,hI,by rw[a2];exact TF 0,rfl,rfl⟩
  simp only[execOp,e1.1,e1.2,Instr.lookup,Sem.run_bind,bw ht,Result.andThen_ok,getObj,Sem.run,hh,FZ,Instr.findKey,bw hk,a1,Sem.run_pure,ayi]
  rfl
 ·refine⟨.value l[j].val,w,M,wA (en es s),l[j].val,σ,?_,rfl,Mem.le.refl _,hI,?_,rfl,rfl⟩
  ·simp only[execOp,e1.1,e1.2,Instr.lookup,Sem.run_bind,bw ht,Result.andThen_ok,getObj,Sem.run,hh,FZ,Instr.findKey,bw hk,a1,Sem.run_pure]
   rfl
  ·have:=mh.2 j (by simpa using hj) (by simpa using eo)
   rw[a3]
   simpa using this
theorem ayf(w:World)(s:ae):(Instr.keyThatStays (.string s) (.string s)).run Tryz.prog w= .ok (.string s) w:=by
 simp[Instr.keyThatStays,Instr.sameBits,UJ]
theorem Wr{tg b:Nat}{es:List (ae×Int)}{t ty:TypeId}{q:TI}{m k x:Operand}{s:ae}{v:Int}(hl:aR σ tg=some (b,.map (wE es) es.length)):
  lG Tryz.prog (.mapUpdate t m k x) ty [.mp 9 255,q] [m,k,x] [.eu tg b,sv s,wA v] σ fun y σ'=>y= .v undef∧σ'=cM σ tg b (.map (wE (iP es s v)) (iP es s v).length):=by
 intro eH M w0 w ρ hI hR
 simp only[gJ,ZT,Zd]at eH
 have ht:=FH eH.1
 have hk:=Tryz.underlying9
 obtain⟨v1,wC,e1,h1,jK⟩:=hR.bS
 obtain⟨v2,Vy,e2,h2,fO⟩:=jK.bS
 obtain⟨v3,e3,h3⟩:=fO.eg
 subst e3 e2
 simp only[Zu,YO,ZT,Zd]at e1
 obtain⟨hM,l,hh,kR,mh⟩:=hI.AW hl
 have g1:=h1.B5
 have g2:=h2.ay
 subst g1 g2
 have ax:b<w.heap.size:=(ZX.1 hh).1
 have aeS:=kR
 have afm:=mh
 rw[FW]at kR
 rw[FX]at mh
 rcases LH s es l 0 0 kR with⟨a1,a2,a3⟩|⟨j,hj,eo,a1,a2,a3,a4,a5⟩
 ·let w':World:={w with heap:=w.heap.setIfInBounds b (.map (l++[(⟨.string s,v3,es.length⟩:MapEntry)]).toArray (es.length+1))}
  refine⟨.skip,w',M,.v undef,undef,_,?_,rfl,Mem.le.refl _,?_,.v _,rfl,rfl⟩
  ·have hu:l.toArray.push (⟨.string s,v3,es.length⟩:MapEntry)=(l++[(⟨.string s,v3,es.length⟩:MapEntry)]).toArray:=by apply YJ;simp
   simp only[execOp,e1.1,e1.2.1,e1.2.2,Instr.mapUpdate,Sem.run_bind,bw ht,Result.andThen_ok,getObj,Sem.run,hh,FZ,Instr.findKey,bw hk,a1,Sem.run_pure,setObj,hu]
   rfl
  ·rw[a3,Z5,YU,← axS]
   refine hI.CJ (w':=w') (y:= .map (wE es++[(.string s,es.length,wA v)]) (es.length+1)) hl (fun k hk=> ?_) rfl rfl rfl (by simp[w']) hM ⟨hM,l++[⟨.string s,v3,es.length⟩],?_,?_,?_⟩
   ·simp only[w']
    rw[YV (fun e=>hk e.symm)]
   ·simp only[w']
    rw[Array.getElem?_setIfInBounds_self_of_lt ax]
   ·simp[aeS]
   ·simp only[YS,Zu,YO]
    exact RL.append afm (RL.cons h3 RL.nil)
 ·let f:MapEntry→MapEntry:=fun e=>{e with key:= .string s,val:=v3}
  let w':World:={w with heap:=w.heap.setIfInBounds b (.map (l.modify j f).toArray es.length)}
  refine⟨.skip,w',M,.v undef,undef,_,?_,rfl,Mem.le.refl _,?_,.v _,rfl,rfl⟩
  ·have hu:l.toArray.modify j f=(l.modify j f).toArray:=by simp
   have QJ:(l.toArray[j]?.map (·.key)).getD (.string s)= .string s:=by
    rw[Ym,Z4 eo];exact a4
   simp only[execOp,e1.1,e1.2.1,e1.2.2,Instr.mapUpdate,Sem.run_bind,bw ht,Result.andThen_ok,getObj,Sem.run,hh,FZ,Instr.findKey,bw hk,a1,Sem.run_pure,setObj,Zc,QJ,ayf,hu]
   show Result.ok Next.skip ({w with heap:=w.heap.setIfInBounds b (.map (l.toArray.modify j f) es.length)}:World)=_
   rw[hu]
  ·rw[a5,List.length_set]
   refine hI.CJ (w':=w') (y:= .map (wE (es.set j (s,v))) es.length) hl (fun k hk=> ?_) rfl rfl rfl (by simp[w']) hM ⟨hM,l.modify j f,?_,?_,?_⟩
   ·simp only[w']
    rw[YV (fun e=>hk e.symm)]
   ·simp only[w']
    rw[Array.getElem?_setIfInBounds_self_of_lt ax]
   ·rw[FW]
    refine XP ?_ fun i g1 g2=> ?_
    ·have:=Zy List.length kR;simpa using this
    ·have h6:i<l.length:=by simpa using g1
     have h7:i<es.length:=by simpa using g2
     have h5:=Zy (fun x=>x[i]?) kR
     simp[h6,h7]at h5
     simp only[Zm,List.getElem_modify,List.getElem_zipIdx,List.getElem_set,Zc]
     by_cases gA:j=i
     ·subst gA
      simp[f,h5.2]
     ·simp[gA,h5.1,h5.2]
   ·rw[FX]
    refine⟨?_,fun i g1 g2=> ?_⟩
    ·have:=mh.1;simpa using this
    ·have h6:i<l.length:=by simpa using g2
     have h7:i<es.length:=by simpa using g1
     have h5:=mh.2 i (by simpa using h7) (by simpa using h6)
     simp only[Zm,List.getElem_modify,List.getElem_set]at h5 ⊢
     by_cases gA:j=i
     ·subst gA
      simpa[f]using h3
     ·simpa[gA]using h5
end
section
variable {cfg:Nat→Nat}{K:ag→Store→Prop}{E:List PanicEntry→Store→Prop}{σ σ':Store}{l:List CI}{d:Nat}{xr:XR}{ps:List Prop}{og:Option Bool}
theorem Xe{t:TypeId}{q:TI}{ty:TypeId}{m k:Operand}{tg b b' eL:Nat}{es:List (ae×Int)}{s:ae}(h:aB xr none [m,k]=some (og,[.eu tg b,sv s],ps))(hl:aR σ tg=some (b',.map (wE es) eL))(hb:b=b')(ak:OB ps)
  (kk:VX Tryz.prog cfg l K E ((d,.s (wA (en es s)))::xr) σ):VX Tryz.prog cfg (⟨some d,.cH (.lookup t m k false) ty [.mp 9 255,q] [m,k],none⟩::l) K E xr σ:=by
 obtain⟨hc,he⟩:=cz h
 have cP:=xj h
 subst cP
 subst hb
 constructor
 simp only[fg,dO,aj,he ak rfl]
 refine(Mn hl).mono fun y s ⟨e1,e2⟩=> ?_
 subst e1 e2
 exact kk.h
theorem Xq{t:TypeId}{q:TI}{ty:TypeId}{m k x:Operand}{tg b b':Nat}{es:List (ae×Int)}{s:ae}{v:Int}(h:aB xr none [m,k,x]=some (og,[.eu tg b,sv s,wA v],ps))(hl:aR σ tg=some (b',.map (wE es) es.length))(hb:b=b')(hu:wy σ tg b (.map (wE (iP es s v)) (iP es s v).length)=some σ')(ak:OB ps)
  (kk:VX Tryz.prog cfg l K E xr σ'):VX Tryz.prog cfg (⟨none,.exts (.mapUpdate t m k x) ty [.mp 9 255,q] [m,k,x],none⟩::l) K E xr σ:=by
 obtain⟨hc,he⟩:=cz h
 have cP:=xj h
 subst cP
 subst hb
 constructor
 simp only[fg,dO,aj,he ak rfl]
 refine(Wr hl).mono fun y s ⟨e1,e2⟩=> ?_
 rw[FP hu]at e2
 subst e1 e2
 exact kk.h
theorem aag{t:TypeId}{q:TI}{ty:TypeId}{m k:Operand}{tg b b' eL:Nat}{es:List (ae×Int)}{s:ae}{l2:List CI}(h:aB xr none [m,k]=some (og,[.eu tg b,sv s],ps))(hl:aR σ tg=some (b',.map (wE es) eL))(hb:b=b')(ak:OB ps)
  (kk:VY Tryz.prog cfg [] (bare l2) (Cl K) ((d,.s (wA (en es s)))::xr) σ):VY Tryz.prog cfg [] [] (Gq Tryz.prog cfg K ⟨some d,.cH (.lookup t m k false) ty [.mp 9 255,q] [m,k],none⟩ l2) xr σ:=by
 obtain⟨hc,he⟩:=cz h
 have cP:=xj h
 subst cP
 subst hb
 refine⟨wA (en es s),?_,kk.h⟩
 unfold QV
 simp only[dO,aj,he ak rfl]
 exact Mn hl
end
end Go.Proofs.YtcccbdelfhgmlaaGreatDoor
