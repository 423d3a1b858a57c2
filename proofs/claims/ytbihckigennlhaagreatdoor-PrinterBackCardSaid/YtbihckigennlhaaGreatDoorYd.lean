/- The layer: a look-up in a region of open order; maps from names to wide numbers. -/
import Derived.Test.YtbihckigennlhaaGreatDoorYc
set_option linter.unusedSimpArgs false
set_option linter.unusedVariables false
set_option linter.unusedSectionVars false
set_option maxRecDepth 100000
set_option maxHeartbeats 1000000
namespace Go.Sx
open Go.RowKit
section
variable {P:Program}[Glob P]{N:Nat}{cfg:Nat→Nat}{rg:Regs}{σ:Store}
def LkS(P:Program)[Glob P](cfg:Nat→Nat)(K:Regs→Store→Prop)(c:CI)(l2:List CI)(rg:Regs)(σ:Store):Prop:=∃ x,QV P cfg c rg σ x∧vcM P cfg [] (bare l2) (Cl K) (putR c.d x rg) σ
theorem SW_dregL{l1 l2:List CI}{c:CI}{Q:Exit→Regs→Store→Prop}(cfg:Nat→Nat)(hc1:c.op.cls≤1)(h:vcM P cfg [] (bare l1) (LkS P cfg (Q .normal) c l2) rg σ):SW P N (.dreg (l1++c::l2)) Q rg σ:=by
 refine SW_cl (SW_chain cfg fun hc=> ?_)
 obtain⟨xs,h1,⟨rg1,⟨x,hq,hv⟩,h3⟩,h4⟩:=vcM_chainK l1 rg rg (fun _=>rfl) (fun c h=>hc c (by simp[h])) h
 have hcl1:=vcM_cls l1 rg (fun c h=>hc c (by simp[h])) h
 have hcl2:=vcM_cls l2 _ (fun c h=>hc c (by simp[h])) hv
 have hq':QV P cfg c (puts l1 xs rg) σ x:=QV_local (fun t _=>h3 t) hq
 obtain⟨ys,g1,⟨rgF,k1,k2⟩,g3⟩:=vcM_chain l2 _ (putR c.d x (puts l1 xs rg)) (lk_put_congr h3 c.d x) (fun c h=>hc c (by simp[h])) hv
 refine⟨⟨xs++x::ys,by simp[h1,g1],⟨rgF,k1,fun i=> ?_⟩,fun i h h'=> ?_⟩,fun c' hc'=> ?_⟩
 ·rw[puts_append _ _ _ _ _ h1];exact k2 i
 ·rcases Nat.lt_trichotomy i l1.length with hi|hi|hi
  ·have:=h4 i hi (by omega)
   simp only[List.getElem_append_left hi,List.getElem_append_left (show i<xs.length by omega),List.take_append_of_le_length (show i≤l1.length by omega),List.take_append_of_le_length (show i≤xs.length by omega)]
   exact this
  ·subst hi
   have hz:=h'
   have e1:(l1++c::l2)[l1.length]=c:=by simp
   have e2:(xs++x::ys)[l1.length]'hz=x:=by simp[← h1]
   have e3:(l1++c::l2).take l1.length=l1:=by simp
   have e4:(xs++x::ys).take l1.length=xs:=by rw[← h1];simp
   rw[e1,e2,e3,e4]
   exact hq'
  ·obtain⟨m,hm⟩:∃ m,i=l1.length+1+m:=⟨i-(l1.length+1),by omega⟩
   subst hm
   have hml:m<l2.length:=by simp at h;omega
   have hz:=h'
   have hmy:m<ys.length:=by omega
   have e1:(l1++c::l2)[l1.length+1+m]=l2[m]:=by
    rw[List.getElem_append_right (by omega)]
    simp only[show l1.length+1+m-l1.length=m+1 by omega,List.getElem_cons_succ]
   have e2:(xs++x::ys)[l1.length+1+m]'hz=ys[m]:=by
    rw[List.getElem_append_right (by omega)]
    simp only[show l1.length+1+m-xs.length=m+1 by omega,List.getElem_cons_succ]
   have e3:(l1++c::l2).take (l1.length+1+m)=l1++c::l2.take m:=by
    rw[List.take_append,List.take_of_length_le (by omega),show l1.length+1+m-l1.length=m+1 by omega];rfl
   have e4:(xs++x::ys).take (l1.length+1+m)=xs++x::ys.take m:=by
    rw[List.take_append,List.take_of_length_le (by omega),show l1.length+1+m-xs.length=m+1 by omega];rfl
   rw[e1,e2,e3,e4,puts_append _ _ _ _ _ h1]
   exact g3 m hml hmy
 ·rcases List.mem_append.1 hc' with hm|hm
  ·exact hcl1 c' hm
  ·rcases List.mem_cons.1 hm with rfl|hm
   ·exact hc1
   ·exact hcl2 c' hm
end
section
variable {P:Program}[Glob P]{N:Nat}{cfg:Nat→Nat}{Q:Exit→Regs→Store→Prop}{rg:Regs}{σ:Store}{k:List Fr}{xr:XR}
theorem WK_dregL(d:Nat){l l1 l2:List CI}{s:CI}(hl:splitD d l=some (l1,s,l2))(hs:Nat.ble s.op.cls 1=true)(hx:toXO rg=some xr)
  (h:VY P cfg [] (bare l1) (LkS P cfg (FK P N cfg Q .normal k) s l2) xr σ):WK P N cfg Q (.dreg l) k rg σ:=by
 have e:=splitD_eq hl
 subst e
 refine⟨WA.mono (Q:=fun e=>FK P N cfg Q e k) ⟨rfl,SW_dregL cfg (Nat.le_of_ble_eq_true hs) ?_⟩ fun _ _ _ h=>h.h⟩
 have:=h.h
 rw[← toXO_eq hx,den_toX]at this
 exact this
end
end Go.Sx
namespace Go.Proofs.YtbihckigennlhaaGreatDoor
open Go.Sx Go.Proofs Go.Tb Go.RowKit
def getW:List (Str×Int)→Str→Int
 |[],_=>0
 |p::es,s=>if p.1=s then p.2 else getW es s
def putW:List (Str×Int)→Str→Int→List (Str×Int)
 |[],s,v=>[(s,v)]
 |p::es,s,v=>if p.1=s then(s,v)::es else p::putW es s v
def wE(es:List (Str×Int)):List (Value×Nat×AV):=es.zipIdx.map fun p=>(.string p.1.1,p.2,wA p.1.2)
theorem wE_keys(es:List (Str×Int)):(wE es).map (fun e=>(e.1,e.2.1))=es.zipIdx.map fun q=>(Value.string q.1.1,q.2):=by unfold wE;rw[List.map_map];rfl
theorem wE_vals(es:List (Str×Int)):(wE es).map (·.2.2)=es.map fun p=>wA p.2:=by
 unfold wE
 rw[List.map_map]
 refine List.ext_getElem (by simp) fun j h1 h2=>by simp
theorem wE_snoc(es:List (Str×Int))(p:Str×Int):wE es++[(.string p.1,es.length,wA p.2)]=wE (es++[p]):=by
 unfold wE;rw[List.zipIdx_append];simp
theorem ws_find(s:Str):∀ (es:List (Str×Int)) (l:List MapEntry) (k0 i:Nat),l.map (fun e=>(e.key,e.born))=(es.zipIdx k0).map (fun q=>(Value.string q.1.1,q.2))→
  (Instr.findNow .string (.string s) l i=some none∧getW es s=0∧∀ v,putW es s v=es++[(s,v)])∨
  ∃ j,∃ hj:j<es.length,∃ hj':j<l.length,Instr.findNow .string (.string s) l i=some (some (i+j,l[j].val))∧es[j].1=s∧getW es s=es[j].2∧l[j].key= .string s∧∀ v,putW es s v=es.set j (s,v)
 |[],l,k0,i,h=>by
  have:l=[]:=by simpa using h
  subst this
  exact .inl ⟨rfl,rfl,fun _=>rfl⟩
 |p::es,l,k0,i,h=>by
  cases l with
  |nil=>simp at h
  |cons e l=>
   simp only[List.zipIdx_cons,List.map_cons,List.cons.injEq,Prod.mk.injEq]at h
   have hsn:Instr.sameNow .string (.string s) e.key=some (decide (s=p.1)):=by
    rw[h.1.1]
    show some (s == p.1)=_
    rw[str_beq]
   by_cases hp:s=p.1
   ·subst hp
    refine .inr ⟨0,by simp,by simp,?_,rfl,by simp[getW],h.1.1,fun v=>by simp[putW]⟩
    simp only[Instr.findNow,hsn,decide_true,Nat.add_zero,List.getElem_cons_zero]
   ·have hp':¬p.1=s:=fun e=>hp e.symm
    rcases ws_find s es l (k0+1) (i+1) h.2 with⟨a1,a2,a3⟩|⟨j,hj,hj',a1,a2,a3,a4,a5⟩
    ·refine .inl ⟨?_,by simp[getW,hp',a2],fun v=>by simp[putW,hp',a3]⟩
     simp only[Instr.findNow,hsn,decide_eq_false hp]
     exact a1
    ·refine .inr ⟨j+1,by simp;omega,by simp;omega,?_,by simpa using a2,by simp[getW,hp',a3],by simpa using a4,fun v=>by simp[putW,hp',a5]⟩
     simp only[Instr.findNow,hsn,decide_eq_false hp]
     rw[a1,show i+1+j=i+(j+1) by omega];simp
theorem zero_wide(w:World):(zeroValue 212).run Tryz.prog w= .ok (wv 0) w:=by
 have h:(Tryz.prog.info? 212).map (fun i=>i.zero)=some (some (wv 0)):=by kernel_rfl
 obtain⟨i,h1,h2⟩:=Option.map_eq_some_iff.1 h
 simp[zeroValue,typeInfo,h1,h2]
theorem ws_check(w:World)(b:Bool)(s:Str):(Instr.checkKey b 10000 9 (.string s)).run Tryz.prog w= .ok () w:=
 Sx.run_checkKey (n:=9999) (q:= .str) (kd:= .string) rfl Tryz.underlying9
section
variable {M:Mem}{w0:Base}{w:World}{σ:Store}
theorem OpS_lkw{tg b clk:Nat}{es:List (Str×Int)}{t ty:TypeId}{q:TI}{m k:Operand}{s:Str}(hl:lkt σ tg=some (b,.map (wE es) clk)):
  OpS Tryz.prog (.lookup t m k false) ty [.mp 9 212,q] [m,k] [.mpt tg b,sv s] σ fun y σ'=>y=wA (getW es s)∧σ'=σ:=by
 intro hti M w0 w ρ hI hR
 simp only[opInfo,List.cons.injEq,and_true]at hti
 have ht:=tiOf_mp hti.1
 have hk:=Tryz.underlying9
 obtain⟨v1,vs1,e1,h1,hR1⟩:=hR.uncons
 obtain⟨v2,e2,h2⟩:=hR1.un1
 subst e2
 simp only[List.map_cons,List.map_nil,List.cons.injEq,and_true]at e1
 obtain⟨hM,l,hh,hkeys,hvals⟩:=hI.getMap hl
 have g1:=h1.of_mpt
 have g2:=h2.of_v
 subst g1 g2
 rw[wE_keys]at hkeys
 rw[wE_vals]at hvals
 rcases ws_find s es l 0 0 hkeys with⟨a1,a2,a3⟩|⟨j,hj,hj',a1,a2,a3,a4,a5⟩
 ·refine⟨.value (wv 0),w,M,wA (getW es s),wv 0,σ,?_,rfl,Mem.le.refl _,hI,by rw[a2];exact r_wA 0,rfl,rfl⟩
  simp only[execOp,e1.1,e1.2,Instr.lookup,Sem.run_bind,run_under ht,Result.andThen_ok,getObj,Sem.run,hh,ws_check,Instr.findKey,run_under hk,a1,Sem.run_pure,zero_wide]
  rfl
 ·refine⟨.value l[j].val,w,M,wA (getW es s),l[j].val,σ,?_,rfl,Mem.le.refl _,hI,?_,rfl,rfl⟩
  ·simp only[execOp,e1.1,e1.2,Instr.lookup,Sem.run_bind,run_under ht,Result.andThen_ok,getObj,Sem.run,hh,ws_check,Instr.findKey,run_under hk,a1,Sem.run_pure]
   rfl
  ·have:=hvals.2 j (by simpa using hj) (by simpa using hj')
   rw[a3]
   simpa using this
theorem ws_stays(w:World)(s:Str):(Instr.keyThatStays (.string s) (.string s)).run Tryz.prog w= .ok (.string s) w:=by
 simp[Instr.keyThatStays,Instr.sameBits,str_beq]
theorem OpS_upw{tg b:Nat}{es:List (Str×Int)}{t ty:TypeId}{q:TI}{m k x:Operand}{s:Str}{v:Int}(hl:lkt σ tg=some (b,.map (wE es) es.length)):
  OpS Tryz.prog (.mapUpdate t m k x) ty [.mp 9 212,q] [m,k,x] [.mpt tg b,sv s,wA v] σ fun y σ'=>y= .v undef∧σ'=upt σ tg b (.map (wE (putW es s v)) (putW es s v).length):=by
 intro hti M w0 w ρ hI hR
 simp only[opInfo,List.cons.injEq,and_true]at hti
 have ht:=tiOf_mp hti.1
 have hk:=Tryz.underlying9
 obtain⟨v1,vs1,e1,h1,hR1⟩:=hR.uncons
 obtain⟨v2,vs2,e2,h2,hR2⟩:=hR1.uncons
 obtain⟨v3,e3,h3⟩:=hR2.un1
 subst e3 e2
 simp only[List.map_cons,List.map_nil,List.cons.injEq,and_true]at e1
 obtain⟨hM,l,hh,hkeys,hvals⟩:=hI.getMap hl
 have g1:=h1.of_mpt
 have g2:=h2.of_v
 subst g1 g2
 have hlt:b<w.heap.size:=(Array.getElem?_eq_some_iff.1 hh).1
 have hkeys':=hkeys
 have hvals':=hvals
 rw[wE_keys]at hkeys
 rw[wE_vals]at hvals
 rcases ws_find s es l 0 0 hkeys with⟨a1,a2,a3⟩|⟨j,hj,hj',a1,a2,a3,a4,a5⟩
 ·let w':World:={w with heap:=w.heap.setIfInBounds b (.map (l++[(⟨.string s,v3,es.length⟩:MapEntry)]).toArray (es.length+1))}
  refine⟨.skip,w',M,.v undef,undef,_,?_,rfl,Mem.le.refl _,?_,.v _,rfl,rfl⟩
  ·have hu:l.toArray.push (⟨.string s,v3,es.length⟩:MapEntry)=(l++[(⟨.string s,v3,es.length⟩:MapEntry)]).toArray:=by apply Array.ext';simp
   simp only[execOp,e1.1,e1.2.1,e1.2.2,Instr.mapUpdate,Sem.run_bind,run_under ht,Result.andThen_ok,getObj,Sem.run,hh,ws_check,Instr.findKey,run_under hk,a1,Sem.run_pure,setObj,hu]
   rfl
  ·rw[a3,List.length_append,List.length_singleton,← wE_snoc]
   refine hI.upd (w':=w') (y:= .map (wE es++[(.string s,es.length,wA v)]) (es.length+1)) hl (fun k hk=> ?_) rfl rfl rfl (by simp[w']) hM ⟨hM,l++[⟨.string s,v3,es.length⟩],?_,?_,?_⟩
   ·simp only[w']
    rw[Array.getElem?_setIfInBounds_ne (fun e=>hk e.symm)]
   ·simp only[w']
    rw[Array.getElem?_setIfInBounds_self_of_lt hlt]
   ·simp[hkeys']
   ·simp only[List.map_append,List.map_cons,List.map_nil]
    exact RL.append hvals' (RL.cons h3 RL.nil)
 ·let f:MapEntry→MapEntry:=fun e=>{e with key:= .string s,val:=v3}
  let w':World:={w with heap:=w.heap.setIfInBounds b (.map (l.modify j f).toArray es.length)}
  refine⟨.skip,w',M,.v undef,undef,_,?_,rfl,Mem.le.refl _,?_,.v _,rfl,rfl⟩
  ·have hu:l.toArray.modify j f=(l.modify j f).toArray:=by simp
   have hkj:(l.toArray[j]?.map (·.key)).getD (.string s)= .string s:=by
    rw[List.getElem?_toArray,List.getElem?_eq_getElem hj'];exact a4
   simp only[execOp,e1.1,e1.2.1,e1.2.2,Instr.mapUpdate,Sem.run_bind,run_under ht,Result.andThen_ok,getObj,Sem.run,hh,ws_check,Instr.findKey,run_under hk,a1,Sem.run_pure,setObj,Nat.zero_add,hkj,ws_stays,hu]
   show Result.ok Next.skip ({w with heap:=w.heap.setIfInBounds b (.map (l.toArray.modify j f) es.length)}:World)=_
   rw[hu]
  ·rw[a5,List.length_set]
   refine hI.upd (w':=w') (y:= .map (wE (es.set j (s,v))) es.length) hl (fun k hk=> ?_) rfl rfl rfl (by simp[w']) hM ⟨hM,l.modify j f,?_,?_,?_⟩
   ·simp only[w']
    rw[Array.getElem?_setIfInBounds_ne (fun e=>hk e.symm)]
   ·simp only[w']
    rw[Array.getElem?_setIfInBounds_self_of_lt hlt]
   ·rw[wE_keys]
    refine List.ext_getElem ?_ fun i g1 g2=> ?_
    ·have:=congrArg List.length hkeys;simpa using this
    ·have h6:i<l.length:=by simpa using g1
     have h7:i<es.length:=by simpa using g2
     have h5:=congrArg (fun x=>x[i]?) hkeys
     simp[h6,h7]at h5
     simp only[List.getElem_map,List.getElem_modify,List.getElem_zipIdx,List.getElem_set,Nat.zero_add]
     by_cases hij:j=i
     ·subst hij
      simp[f,h5.2]
     ·simp[hij,h5.1,h5.2]
   ·rw[wE_vals]
    refine⟨?_,fun i g1 g2=> ?_⟩
    ·have:=hvals.1;simpa using this
    ·have h6:i<l.length:=by simpa using g2
     have h7:i<es.length:=by simpa using g1
     have h5:=hvals.2 i (by simpa using h7) (by simpa using h6)
     simp only[List.getElem_map,List.getElem_modify,List.getElem_set]at h5 ⊢
     by_cases hij:j=i
     ·subst hij
      simpa[f]using h3
     ·simpa[hij]using h5
end
section
variable {cfg:Nat→Nat}{K:Regs→Store→Prop}{E:List PanicEntry→Store→Prop}{σ σ':Store}{l:List CI}{d:Nat}{xr:XR}{ps:List Prop}{og:Option Bool}
theorem VX_lkw{t:TypeId}{q:TI}{ty:TypeId}{m k:Operand}{tg b b' clk:Nat}{es:List (Str×Int)}{s:Str}(h:argO xr none [m,k]=some (og,[.mpt tg b,sv s],ps))(hl:lkt σ tg=some (b',.map (wE es) clk))(hb:b=b')(hps:OB ps)
  (kk:VX Tryz.prog cfg l K E ((d,.s (wA (getW es s)))::xr) σ):VX Tryz.prog cfg (⟨some d,.extq (.lookup t m k false) ty [.mp 9 212,q] [m,k],none⟩::l) K E xr σ:=by
 obtain⟨hc,he⟩:=argO_eq h
 have hog:=argO_none h
 subst hog
 subst hb
 constructor
 simp only[vcX,vcG,vcO,he hps rfl]
 refine(OpS_lkw hl).mono fun y s ⟨e1,e2⟩=> ?_
 subst e1 e2
 exact kk.h
theorem VX_upw{t:TypeId}{q:TI}{ty:TypeId}{m k x:Operand}{tg b b':Nat}{es:List (Str×Int)}{s:Str}{v:Int}(h:argO xr none [m,k,x]=some (og,[.mpt tg b,sv s,wA v],ps))(hl:lkt σ tg=some (b',.map (wE es) es.length))(hb:b=b')(hu:updS σ tg b (.map (wE (putW es s v)) (putW es s v).length)=some σ')(hps:OB ps)
  (kk:VX Tryz.prog cfg l K E xr σ'):VX Tryz.prog cfg (⟨none,.exts (.mapUpdate t m k x) ty [.mp 9 212,q] [m,k,x],none⟩::l) K E xr σ:=by
 obtain⟨hc,he⟩:=argO_eq h
 have hog:=argO_none h
 subst hog
 subst hb
 constructor
 simp only[vcX,vcG,vcO,he hps rfl]
 refine(OpS_upw hl).mono fun y s ⟨e1,e2⟩=> ?_
 rw[updS_eq hu]at e2
 subst e1 e2
 exact kk.h
theorem VY_lkw{t:TypeId}{q:TI}{ty:TypeId}{m k:Operand}{tg b b' clk:Nat}{es:List (Str×Int)}{s:Str}{l2:List CI}(h:argO xr none [m,k]=some (og,[.mpt tg b,sv s],ps))(hl:lkt σ tg=some (b',.map (wE es) clk))(hb:b=b')(hps:OB ps)
  (kk:VY Tryz.prog cfg [] (bare l2) (Cl K) ((d,.s (wA (getW es s)))::xr) σ):VY Tryz.prog cfg [] [] (LkS Tryz.prog cfg K ⟨some d,.extq (.lookup t m k false) ty [.mp 9 212,q] [m,k],none⟩ l2) xr σ:=by
 obtain⟨hc,he⟩:=argO_eq h
 have hog:=argO_none h
 subst hog
 subst hb
 refine⟨wA (getW es s),?_,kk.h⟩
 unfold QV
 simp only[vcG,vcO,he hps rfl]
 exact OpS_lkw hl
end
end Go.Proofs.YtbihckigennlhaaGreatDoor
