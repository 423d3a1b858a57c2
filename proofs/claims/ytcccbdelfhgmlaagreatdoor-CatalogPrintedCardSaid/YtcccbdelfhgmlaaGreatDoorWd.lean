/- Walks that keep a temporary: what stands ahead of the door. -/
import Derived.Test.YtcccbdelfhgmlaaGreatDoorWb
import Derived.Test.YtcccbdelfhgmlaaGreatDoorGi
import Derived.Test.YtcccbdelfhgmlaaGreatDoorRows
set_option linter.unusedSimpArgs false
set_option linter.unusedVariables false
set_option linter.unusedSectionVars false
set_option maxRecDepth 100000
namespace Go.Sx
open Go.RowKit Go.Proofs
@[reducible] def sW (P:Program) [g:Glob P] (ds:List Deferred):Glob P:={g with df:=ds}
section
variable {P:Program}[Glob P]{ds:List Deferred}{M:Mem}{w0:Base}{w:World}{σ:Store}
theorem Inv.toD(h:Inv P M w0 σ w): @Inv P (sW P ds) M w0 σ w:= @Inv.mk P (sW P ds) M w0 σ w h.os h.tape h.output h.size h.old h.dA h.st h.nd h.gl h.gw h.bm
theorem Inv.SP(h: @Inv P (sW P ds) M w0 σ w):Inv P M w0 σ w:=by
 cases h;constructor<;>assumption
theorem Spec.toD{f:FuncId}{ys:List AV}{Q:dH→Store→Prop}(h:Spec P f ys σ Q): @Spec P (sW P ds) f ys σ Q:=
 fun M w0 w cs hI hR=>(h M w0 w cs (Inv.SP hI) hR).mono fun e w' ⟨M',r,σ',a,b,c⟩=>⟨M',r,σ',a,Inv.toD b,c⟩
end
def Ce(i:Nat)(v:Value)(Q:Exit→Act→World→Prop):Exit→Act→World→Prop:=fun e a w=>Q e a w∧(e= .outgrown∨a.tmps.getD i undef=v)
theorem yP{i:Nat}{v x:Value}{a:Act}{d:Option Tmp}(h:a.tmps.getD i undef=v)(hd:d≠some i):(a.put d x).tmps.getD i undef=v:=by
 cases d with
 |none=>exact h
 |some t=>
  have:t≠i:=fun e=>hd (by rw[e])
  simp only[Act.put,Z2]at h ⊢
  rw[YV this];exact h
theorem VH{P:Program}{ops:Array Oper}{Q:Exit→Act→World→Prop}{i:Nat}{v:Value}(hd:∀ (k:Nat) o,ops[k]? =some o→o.dst≠some i):
  ∀ (l:List Nat) (a:Act) (w:World),a.tmps.getD i undef=v→wpOps P ops Q l a w→wpOps P ops (Ce i v Q) l a w
 |[],a,w,ha,h=>⟨h,.inr ha⟩
 |k::l,a,w,ha,h=>by
  have ih:=VH (P:=P) (Q:=Q) (v:=v) hd l
  have hl:LetsOut Q→LetsOut (Ce i v Q):=fun⟨a,w,h⟩=>⟨a,w,h,.inl rfl⟩
  simp only[wpOps]at h ⊢
  cases ho:ops[k]? with
  |none=>simp only[ho]at h ⊢;exact ih _ _ ha h
  |some o=>
   have x4:=hd k o ho
   simp only[ho]at h ⊢
   split at h
   ·rename_i hw
    rw[Z8 hw]
    refine h.imp (fun h=> ?_) fun h=>⟨h.1,hl h.2⟩
    simp only[Oper.wp]at h ⊢
    generalize (execOp a.eval o).run P w=r at h ⊢
    unfold Oper.upon at h ⊢
    split at h
    ·exact ih _ _ (yP ha x4) h
    ·exact ih _ _ (yP ha x4) h
    ·exact ih _ _ (yP (a:={a with defers:=_::a.defers}) ha x4) h
    ·refine h.mono fun e w' h=> ?_
     cases e with
     |returned v=>exact ih _ _ (yP ha x4) h
     |panicked ch=>exact⟨h,.inr ha⟩
     |outgrown=>exact hl h
    ·exact fun c cs=>let⟨v,w',h,s⟩:=h c cs;⟨v,w',ih _ _ (yP ha x4) h,s⟩
    ·exact⟨h,.inr ha⟩
    ·exact h.elim
   ·rename_i hw
    rw[Z9 hw]
    exact ih _ _ (yP ha x4) h
def sV(i:Nat):Code→Bool
 | .region _ ops false=>ops.toList.all fun o=>o.dst != some i
 | .seq a b=>sV i a && sV i b
 | .cond _ a b=>sV i a && sV i b
 | .skip=>true
 | .ret=>true
 |_=>false
def eO(P:Program)[Glob P](N i:Nat)(v:Value)(s:SC)(Q:Exit→ag→Store→Prop)(rg:ag)(σ:Store):Prop:=
 ∀ c,cB P N c=some s→sV i c=true→∀ (M:Mem) (w0:Base) (a:Act) (w:World),Inv P M w0 σ w→bQ M rg a→a.tmps.size=N→a.defers=Glob.df P→a.tmps.getD i undef=v→c.wp P (Ce i v (iB P M w0 N Q)) a w
section
variable {P:Program}[Glob P]{N i:Nat}{v:Value}{Q:Exit→ag→Store→Prop}{rg ao:ag}{σ:Store}
theorem WL{l:List CI}(h:SW P N (.cE l) Q rg σ):eO P N i v (.cE l) Q rg σ:=by
 intro c hc hf M w0 a w hI hR hN hD hv
 have h1:=h c hc M w0 a w hI hR hN hD
 obtain⟨id,ops,rfl,_⟩:=eD hc
 simp only[sM]at h1
 refine wp_region (VH (fun k o ho=> ?_) _ _ _ hv h1)
 have:=ZA.1 hf o (by rw[Array.mem_toList_iff];exact XD ho)
 simpa using this
theorem ahp{M M':Mem}{w0:Base}(hM:M.le M'){e:Exit}{a:Act}{w:World}(h:Ce i v (iB P M' w0 N Q) e a w):Ce i v (iB P M w0 N Q) e a w:=⟨G4 hM h.1,h.2⟩
theorem Ai{x y:SC}(h:eO P N i v x (nH (eO P N i v y Q) Q) rg σ):eO P N i v (.seq x y) Q rg σ:=by
 intro c hc hf M w0 a w hI hR hN hD hv
 rcases eD hc with⟨ca,cb,rfl,h1,h2⟩|⟨id,ops,l1,l2,rfl,rfl,rfl,e1,e2,hT,hd,s8⟩
 ·simp only[sV,Z0]at hf
  refine wp_seq (wp_mono (h ca h1 hf.1 M w0 a w hI hR hN hD hv) ?_)
  rintro e a2 w2 ⟨⟨M2,cq,az,g1,g2,g3,g4,g5,g6⟩,g7⟩
  cases e with
  |normal=>
   have mg:=g7.resolve_left (by nofun)
   exact wp_mono (g6 cb h2 hf.2 M2 w0 a2 w2 g2 g3 g4 g5 mg) fun e a3 w3 hh=>ahp g1 hh
  |_=>exact⟨⟨M2,cq,az,g1,g2,g3,g4,g5,g6⟩,g7⟩
 ·exact absurd hf (by simp[sV])
theorem WN(h:Q .normal rg σ):eO P N i v .skip Q rg σ:=by
 intro c hc hf M w0 a w hI hR hN hD hv
 obtain rfl:=eD hc
 exact wp_skip ⟨⟨M,rg,σ,Mem.le.refl _,hI,hR,hN,hD,h⟩,.inr hv⟩
theorem WM(h:Q .ret rg σ):eO P N i v .ret Q rg σ:=by
 intro c hc hf M w0 a w hI hR hN hD hv
 obtain rfl:=eD hc
 exact wp_ret ⟨⟨M,rg,σ,Mem.le.refl _,hI,hR,hN,hD,h⟩,.inr hv⟩
theorem WI{x:Operand}{s t:SC}{b:Bool}(hx:ev rg x= .v (.bool b))(h1:b=true→eO P N i v s Q rg σ)(h2:b=false→eO P N i v t Q rg σ):eO P N i v (.cond x s t) Q rg σ:=by
 intro c hc hf M w0 a w hI hR hN hD hv
 obtain⟨ca,cb,rfl,g1,g2⟩:=eD hc
 simp only[sV,Z0]at hf
 have he:=hR.ev x
 rw[hx]at he
 exact wp_cond_split he.ay (fun hb=>h1 hb _ g1 hf.1 M w0 a w hI hR hN hD hv) (fun hb=>h2 hb _ g2 hf.2 M w0 a w hI hR hN hD hv)
theorem eO.mono{s:SC}{Q':Exit→ag→Store→Prop}(h:eO P N i v s Q rg σ)(hq:∀ e rg σ,Q e rg σ→Q' e rg σ):eO P N i v s Q' rg σ:=by
 intro c hc hf M w0 a w hI hR hN hD hv
 exact wp_mono (h c hc hf M w0 a w hI hR hN hD hv) fun e a w ⟨⟨M2,cq,az,g1,g2,g3,g4,g5,g6⟩,g7⟩=>⟨⟨M2,cq,az,g1,g2,g3,g4,g5,hq _ _ _ g6⟩,g7⟩
end
end Go.Sx
namespace Go.Sx
def UY:Nat→Option Code→Option Code
 |0,c=>c
 |n+1,some (.seq _ c)=>UY n (some c)
 |_+1,_=>none
def IQ:Nat→Code→Code
 |0,.seq a _=>a
 |n+1,.seq a b=> .seq a (IQ n b)
 |_,c=>c
end Go.Sx
open Go Go.Sx
noncomputable def Go.Proofs.Tryz.f2801:Func:={Go.Proofs.Tryz.f18 with body:=Go.Proofs.Tryz.f18.body.map (IQ 2)}
noncomputable def Go.Proofs.Tryz.f2802:Func:={Go.Proofs.Tryz.f18 with body:=UY 4 Go.Proofs.Tryz.f18.body}
namespace Go.Proofs.YtcccbdelfhgmlaaGreatDoor
open Go.Sx
def Fg:List CI:=[q0 4 (.alloc 64 (.agg #[.int .i64 0,.int .i64 0]))]
def Fh:List CI:=[q0 10 (.mv (.tmp 0)),q0 11 (.call 42 [.tmp 10]),q0 9 (.mv (.tmp 11)),q0 12 (.extract (.tmp 9) 0),q0 13 (.extract (.tmp 9) 1),q0 14 (.extract (.tmp 9) 2),q0 5 (.mv (.tmp 12)),q0 6 (.mv (.tmp 13)),q0 7 (.mv (.tmp 14))]
def aoJ:List CI:=[q0 16 (.mv (.tmp 7)),q0 17 (.bin .neq (.tmp 16) (ki 0)),q0 15 (.mv (.tmp 17))]
def aoK:List CI:=[q0 18 (.mv (.tmp 7)),q0 19 (.build [.int .i64 0,.int .i64 0] [(1,1,.tmp 18)]),.mk none (.store 2 (.tmp 4) (.tmp 19)) none]
def aoL:List CI:=[q0 21 (.mv (.tmp 6)),q0 22 (.len false (.tmp 21)),q0 23 (.bin .gtr (.tmp 22) (ki 0)),q0 20 (.mv (.tmp 23))]
def aoM:List CI:=[q0 24 (.mv (.tmp 6)),q0 25 (.gE 2 (.tmp 24) (ki 0)),q0 26 (.load true 2 (.tmp 25)),.mk none (.store 2 (.tmp 4) (.tmp 26)) none]
def aoN:List CI:=[q0 28 (.mv (.tmp 5)),q0 29 (.len false (.tmp 28)),q0 30 (.bin .eql (.tmp 29) (ki 0)),q0 27 (.mv (.tmp 30))]
def aoO:List CI:=[q0 31 (.build [.int .i64 0,.int .i64 0] [(1,1,ki 90)]),.mk none (.store 2 (.tmp 4) (.tmp 31)) none]
def M8:AC:=(.seq (.cE Fg) (.keep [0,1,4] (.seq (.cE Fh) (.keep [1,4,5,6,7] (.block 0 (.seq (.cE aoJ) (.keep [1,4,5,6,7,15] (.cond (.tmp 15) (.seq (.cE aoK) .ret) (.seq (.cE aoL) (.keep [1,4,5,6,20] (.cond (.tmp 20) (.seq (.cE aoM) .ret) (.seq (.cE aoN) (.keep [1,4,5,27] (.cond (.tmp 27) (.seq (.cE aoO) .ret) .skip))))))))))))))
def NV:FC:=⟨50,M8.erase,[.cell 4 true 2]⟩
theorem ab8:cK Tryz.prog Tryz.f2801=some NV:=by kernel_rfl
def T8:List CI:=[q0 33 (.mv (.tmp 5)),q0 34 (.build [.slice none 0 0,.bool false] [(0,1,.tmp 33)]),q0 35 (.box 95 (.tmp 34)),q0 8 (.mv (.tmp 35))]
def T9:List CI:=[q0 36 (.mv (.tmp 1)),q0 37 (.mv (.tmp 8)),q0 38 (.dY (.tmp 36) [.tmp 37])]
def Ua:List CI:=[q0 39 (.mv (.tmp 8)),q0 40 (.kZ (.tmp 39)),q0 41 (.jI 0 (.tmp 40)),q0 42 (.load false 1 (.tmp 41)),q0 43 (.gE 3 (.tmp 42) (ki 0)),q0 44 (.jI 0 (.tmp 43)),q0 45 (.load false 1 (.tmp 44)),q0 46 (.bin .neq (.tmp 45) (ki 6))]
def Ub:List CI:=[q0 47 (.mv (.tmp 8)),q0 48 (.call 44 [.tmp 47])]
def Uc:List CI:=[q0 49 (.build [.int .i64 0,.int .i64 0] []),.mk none (.store 2 (.tmp 4) (.tmp 49)) none]
def aaQ:AC:=(.seq (.cE T8) (.keep [1,4,8] (.seq (.cE T9) (.keep [4,8] (.seq (.seq (.cE Ua) (.keep [4,8,46] (.cond (.tmp 46) (.cE Ub) .skip))) (.keep [4] (.seq (.cE Uc) .ret)))))))
def GV:FC:=⟨50,aaQ.erase,[.cell 4 true 2]⟩
end Go.Proofs.YtcccbdelfhgmlaaGreatDoor
