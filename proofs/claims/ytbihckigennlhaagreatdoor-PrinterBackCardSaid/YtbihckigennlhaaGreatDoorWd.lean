/- Walks that keep a temporary: what stands ahead of the door. -/
import Derived.Test.YtbihckigennlhaaGreatDoorWb
import Derived.Test.YtbihckigennlhaaGreatDoorGi
import Derived.Test.YtbihckigennlhaaGreatDoorRows
set_option linter.unusedSimpArgs false
set_option linter.unusedVariables false
set_option linter.unusedSectionVars false
set_option maxRecDepth 100000
namespace Go.Sx
open Go.RowKit Go.Proofs
@[reducible] def globD (P:Program) [g:Glob P] (ds:List Deferred):Glob P:={g with df:=ds}
section
variable {P:Program}[Glob P]{ds:List Deferred}{M:Mem}{w0:Base}{w:World}{σ:Store}
theorem Inv.toD(h:Inv P M w0 σ w): @Inv P (globD P ds) M w0 σ w:= @Inv.mk P (globD P ds) M w0 σ w h.os h.tape h.output h.size h.old h.imm h.st h.nd h.gl h.gw h.bm
theorem Inv.ofD(h: @Inv P (globD P ds) M w0 σ w):Inv P M w0 σ w:=by
 cases h;constructor<;>assumption
theorem Spec.toD{f:FuncId}{ys:List AV}{Q:Res→Store→Prop}(h:Spec P f ys σ Q): @Spec P (globD P ds) f ys σ Q:=
 fun M w0 w cs hI hR=>(h M w0 w cs (Inv.ofD hI) hR).mono fun e w' ⟨M',r,σ',a,b,c⟩=>⟨M',r,σ',a,Inv.toD b,c⟩
end
def pinQ(i:Nat)(v:Value)(Q:Exit→Act→World→Prop):Exit→Act→World→Prop:=fun e a w=>Q e a w∧(e= .outgrown∨a.tmps.getD i undef=v)
theorem pin_put{i:Nat}{v x:Value}{a:Act}{d:Option Tmp}(h:a.tmps.getD i undef=v)(hd:d≠some i):(a.put d x).tmps.getD i undef=v:=by
 cases d with
 |none=>exact h
 |some t=>
  have:t≠i:=fun e=>hd (by rw[e])
  simp only[Act.put,Array.getD_eq_getD_getElem?]at h ⊢
  rw[Array.getElem?_setIfInBounds_ne this];exact h
theorem wpOps_pin{P:Program}{ops:Array Oper}{Q:Exit→Act→World→Prop}{i:Nat}{v:Value}(hd:∀ (k:Nat) o,ops[k]? =some o→o.dst≠some i):
  ∀ (l:List Nat) (a:Act) (w:World),a.tmps.getD i undef=v→wpOps P ops Q l a w→wpOps P ops (pinQ i v Q) l a w
 |[],a,w,ha,h=>⟨h,.inr ha⟩
 |k::l,a,w,ha,h=>by
  have ih:=wpOps_pin (P:=P) (Q:=Q) (v:=v) hd l
  have hl:LetsOut Q→LetsOut (pinQ i v Q):=fun⟨a,w,h⟩=>⟨a,w,h,.inl rfl⟩
  simp only[wpOps]at h ⊢
  cases ho:ops[k]? with
  |none=>simp only[ho]at h ⊢;exact ih _ _ ha h
  |some o=>
   have hdo:=hd k o ho
   simp only[ho]at h ⊢
   split at h
   ·rename_i hw
    rw[if_pos hw]
    refine h.imp (fun h=> ?_) fun h=>⟨h.1,hl h.2⟩
    simp only[Oper.wp]at h ⊢
    generalize (execOp a.eval o).run P w=r at h ⊢
    unfold Oper.upon at h ⊢
    split at h
    ·exact ih _ _ (pin_put ha hdo) h
    ·exact ih _ _ (pin_put ha hdo) h
    ·exact ih _ _ (pin_put (a:={a with defers:=_::a.defers}) ha hdo) h
    ·refine h.mono fun e w' h=> ?_
     cases e with
     |returned v=>exact ih _ _ (pin_put ha hdo) h
     |panicked ch=>exact⟨h,.inr ha⟩
     |outgrown=>exact hl h
    ·exact fun c cs=>let⟨v,w',h,s⟩:=h c cs;⟨v,w',ih _ _ (pin_put ha hdo) h,s⟩
    ·exact⟨h,.inr ha⟩
    ·exact h.elim
   ·rename_i hw
    rw[if_neg hw]
    exact ih _ _ (pin_put ha hdo) h
def freeC(i:Nat):Code→Bool
 | .region _ ops false=>ops.toList.all fun o=>o.dst != some i
 | .seq a b=>freeC i a && freeC i b
 | .cond _ a b=>freeC i a && freeC i b
 | .skip=>true
 | .ret=>true
 |_=>false
def SWp(P:Program)[Glob P](N i:Nat)(v:Value)(s:SC)(Q:Exit→Regs→Store→Prop)(rg:Regs)(σ:Store):Prop:=
 ∀ c,compC P N c=some s→freeC i c=true→∀ (M:Mem) (w0:Base) (a:Act) (w:World),Inv P M w0 σ w→RegsOK M rg a→a.tmps.size=N→a.defers=Glob.df P→a.tmps.getD i undef=v→c.wp P (pinQ i v (conc P M w0 N Q)) a w
section
variable {P:Program}[Glob P]{N i:Nat}{v:Value}{Q:Exit→Regs→Store→Prop}{rg rg':Regs}{σ:Store}
theorem SWp_reg{l:List CI}(h:SW P N (.reg l) Q rg σ):SWp P N i v (.reg l) Q rg σ:=by
 intro c hc hf M w0 a w hI hR hN hD hv
 have h1:=h c hc M w0 a w hI hR hN hD
 obtain⟨id,ops,rfl,_⟩:=compC_inv hc
 simp only[cwp]at h1
 refine wp_region (wpOps_pin (fun k o ho=> ?_) _ _ _ hv h1)
 have:=List.all_eq_true.1 hf o (by rw[Array.mem_toList_iff];exact Array.mem_of_getElem? ho)
 simpa using this
theorem pin_le{M M':Mem}{w0:Base}(hM:M.le M'){e:Exit}{a:Act}{w:World}(h:pinQ i v (conc P M' w0 N Q) e a w):pinQ i v (conc P M w0 N Q) e a w:=⟨conc_le hM h.1,h.2⟩
theorem SWp_seq{x y:SC}(h:SWp P N i v x (thenQ (SWp P N i v y Q) Q) rg σ):SWp P N i v (.seq x y) Q rg σ:=by
 intro c hc hf M w0 a w hI hR hN hD hv
 rcases compC_inv hc with⟨ca,cb,rfl,h1,h2⟩|⟨id,ops,l1,l2,rfl,rfl,rfl,e1,e2,hT,hd,hfol⟩
 ·simp only[freeC,Bool.and_eq_true]at hf
  refine wp_seq (wp_mono (h ca h1 hf.1 M w0 a w hI hR hN hD hv) ?_)
  rintro e a2 w2 ⟨⟨M2,rg2,σ2,g1,g2,g3,g4,g5,g6⟩,g7⟩
  cases e with
  |normal=>
   have hv2:=g7.resolve_left (by nofun)
   exact wp_mono (g6 cb h2 hf.2 M2 w0 a2 w2 g2 g3 g4 g5 hv2) fun e a3 w3 hh=>pin_le g1 hh
  |_=>exact⟨⟨M2,rg2,σ2,g1,g2,g3,g4,g5,g6⟩,g7⟩
 ·exact absurd hf (by simp[freeC])
theorem SWp_skip(h:Q .normal rg σ):SWp P N i v .skip Q rg σ:=by
 intro c hc hf M w0 a w hI hR hN hD hv
 obtain rfl:=compC_inv hc
 exact wp_skip ⟨⟨M,rg,σ,Mem.le.refl _,hI,hR,hN,hD,h⟩,.inr hv⟩
theorem SWp_ret(h:Q .ret rg σ):SWp P N i v .ret Q rg σ:=by
 intro c hc hf M w0 a w hI hR hN hD hv
 obtain rfl:=compC_inv hc
 exact wp_ret ⟨⟨M,rg,σ,Mem.le.refl _,hI,hR,hN,hD,h⟩,.inr hv⟩
theorem SWp_cond{x:Operand}{s t:SC}{b:Bool}(hx:ev rg x= .v (.bool b))(h1:b=true→SWp P N i v s Q rg σ)(h2:b=false→SWp P N i v t Q rg σ):SWp P N i v (.cond x s t) Q rg σ:=by
 intro c hc hf M w0 a w hI hR hN hD hv
 obtain⟨ca,cb,rfl,g1,g2⟩:=compC_inv hc
 simp only[freeC,Bool.and_eq_true]at hf
 have he:=hR.ev x
 rw[hx]at he
 exact wp_cond_split he.of_v (fun hb=>h1 hb _ g1 hf.1 M w0 a w hI hR hN hD hv) (fun hb=>h2 hb _ g2 hf.2 M w0 a w hI hR hN hD hv)
theorem SWp.mono{s:SC}{Q':Exit→Regs→Store→Prop}(h:SWp P N i v s Q rg σ)(hq:∀ e rg σ,Q e rg σ→Q' e rg σ):SWp P N i v s Q' rg σ:=by
 intro c hc hf M w0 a w hI hR hN hD hv
 exact wp_mono (h c hc hf M w0 a w hI hR hN hD hv) fun e a w ⟨⟨M2,rg2,σ2,g1,g2,g3,g4,g5,g6⟩,g7⟩=>⟨⟨M2,rg2,σ2,g1,g2,g3,g4,g5,hq _ _ _ g6⟩,g7⟩
end
end Go.Sx
namespace Go.Sx
def tailC:Nat→Option Code→Option Code
 |0,c=>c
 |n+1,some (.seq _ c)=>tailC n (some c)
 |_+1,_=>none
def headC:Nat→Code→Code
 |0,.seq a _=>a
 |n+1,.seq a b=> .seq a (headC n b)
 |_,c=>c
end Go.Sx
open Go Go.Sx
noncomputable def Go.Proofs.Tryz.f2801:Func:={Go.Proofs.Tryz.f36 with body:=Go.Proofs.Tryz.f36.body.map (headC 2)}
noncomputable def Go.Proofs.Tryz.f2802:Func:={Go.Proofs.Tryz.f36 with body:=tailC 4 Go.Proofs.Tryz.f36.body}
namespace Go.Proofs.YtbihckigennlhaaGreatDoor
open Go.Sx
def s2801_0:List CI:=[q0 4 (.alloc 85 (.agg #[.int .i64 0,.int .i64 0]))]
def s2801_1:List CI:=[q0 10 (.mv (.tmp 0)),q0 11 (.call 15 [.tmp 10]),q0 9 (.mv (.tmp 11)),q0 12 (.extract (.tmp 9) 0),q0 13 (.extract (.tmp 9) 1),q0 14 (.extract (.tmp 9) 2),q0 5 (.mv (.tmp 12)),q0 6 (.mv (.tmp 13)),q0 7 (.mv (.tmp 14))]
def s2801_2:List CI:=[q0 16 (.mv (.tmp 7)),q0 17 (.bin .neq (.tmp 16) (ki 0)),q0 15 (.mv (.tmp 17))]
def s2801_3:List CI:=[q0 18 (.mv (.tmp 7)),q0 19 (.build [.int .i64 0,.int .i64 0] [(1,1,.tmp 18)]),.mk none (.store 2 (.tmp 4) (.tmp 19)) none]
def s2801_4:List CI:=[q0 21 (.mv (.tmp 6)),q0 22 (.len false (.tmp 21)),q0 23 (.bin .gtr (.tmp 22) (ki 0)),q0 20 (.mv (.tmp 23))]
def s2801_5:List CI:=[q0 24 (.mv (.tmp 6)),q0 25 (.iaddr 2 (.tmp 24) (ki 0)),q0 26 (.load true 2 (.tmp 25)),.mk none (.store 2 (.tmp 4) (.tmp 26)) none]
def s2801_6:List CI:=[q0 28 (.mv (.tmp 5)),q0 29 (.len false (.tmp 28)),q0 30 (.bin .eql (.tmp 29) (ki 0)),q0 27 (.mv (.tmp 30))]
def s2801_7:List CI:=[q0 31 (.build [.int .i64 0,.int .i64 0] [(1,1,ki 90)]),.mk none (.store 2 (.tmp 4) (.tmp 31)) none]
def a2801:AC:=(.seq (.reg s2801_0) (.keep [0,1,4] (.seq (.reg s2801_1) (.keep [1,4,5,6,7] (.block 0 (.seq (.reg s2801_2) (.keep [1,4,5,6,7,15] (.cond (.tmp 15) (.seq (.reg s2801_3) .ret) (.seq (.reg s2801_4) (.keep [1,4,5,6,20] (.cond (.tmp 20) (.seq (.reg s2801_5) .ret) (.seq (.reg s2801_6) (.keep [1,4,5,27] (.cond (.tmp 27) (.seq (.reg s2801_7) .ret) .skip))))))))))))))
def c2801:FC:=⟨50,a2801.erase,[.cell 4 true 2]⟩
theorem comp2801:compF Tryz.prog Tryz.f2801=some c2801:=by kernel_rfl
def s2802_0:List CI:=[q0 33 (.mv (.tmp 5)),q0 34 (.build [.slice none 0 0,.bool false] [(0,1,.tmp 33)]),q0 35 (.box 121 (.tmp 34)),q0 8 (.mv (.tmp 35))]
def s2802_1:List CI:=[q0 36 (.mv (.tmp 1)),q0 37 (.mv (.tmp 8)),q0 38 (.callv (.tmp 36) [.tmp 37])]
def s2802_2:List CI:=[q0 39 (.mv (.tmp 8)),q0 40 (.nilck (.tmp 39)),q0 41 (.faddr 0 (.tmp 40)),q0 42 (.load false 1 (.tmp 41)),q0 43 (.iaddr 3 (.tmp 42) (ki 0)),q0 44 (.faddr 0 (.tmp 43)),q0 45 (.load false 1 (.tmp 44)),q0 46 (.bin .neq (.tmp 45) (ki 6))]
def s2802_3:List CI:=[q0 47 (.mv (.tmp 8)),q0 48 (.call 76 [.tmp 47])]
def s2802_4:List CI:=[q0 49 (.build [.int .i64 0,.int .i64 0] []),.mk none (.store 2 (.tmp 4) (.tmp 49)) none]
def a2802:AC:=(.seq (.reg s2802_0) (.keep [1,4,8] (.seq (.reg s2802_1) (.keep [4,8] (.seq (.seq (.reg s2802_2) (.keep [4,8,46] (.cond (.tmp 46) (.reg s2802_3) .skip))) (.keep [4] (.seq (.reg s2802_4) .ret)))))))
def c2802:FC:=⟨50,a2802.erase,[.cell 4 true 2]⟩
end Go.Proofs.YtbihckigennlhaaGreatDoor
