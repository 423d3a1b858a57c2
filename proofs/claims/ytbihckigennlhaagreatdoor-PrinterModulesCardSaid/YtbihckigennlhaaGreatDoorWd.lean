/- Walks that keep a temporary: what stands ahead of the door. -/
import Derived.Test.YtbihckigennlhaaGreatDoorWb
import Derived.Test.YtbihckigennlhaaGreatDoorGi
import Derived.Test.YtbihckigennlhaaGreatDoorRows
set_option linter.unusedSimpArgs false
set_option linter.unusedVariables false
set_option linter.unusedSectionVars false
set_option maxRecDepth 100000
namespace Go.Sx
open Go.RowKit Go.Proofs
@[reducible] def qz (P:Program) [g:Glob P] (ds:List Deferred):Glob P:={g with df:=ds}
section
variable {P:Program}[Glob P]{ds:List Deferred}{M:Mem}{w0:Base}{w:World}{σ:Store}
theorem Inv.toD(h:Inv P M w0 σ w): @Inv P (qz P ds) M w0 σ w:= @Inv.mk P (qz P ds) M w0 σ w h.os h.tape h.output h.size h.old h.dB h.st h.nd h.gl h.gw h.bm
theorem Inv.Nn(h: @Inv P (qz P ds) M w0 σ w):Inv P M w0 σ w:=by
 cases h;constructor<;>assumption
theorem Spec.toD{f:FuncId}{ys:List AV}{Q:dj→Store→Prop}(h:Spec P f ys σ Q): @Spec P (qz P ds) f ys σ Q:=
 fun M w0 w cs hI hR=>(h M w0 w cs (Inv.Nn hI) hR).mono fun e w' ⟨M',r,σ',a,b,c⟩=>⟨M',r,σ',a,Inv.toD b,c⟩
end
def yR(i:Nat)(v:Value)(Q:Exit→Act→World→Prop):Exit→Act→World→Prop:=fun e a w=>Q e a w∧(e= .outgrown∨a.tmps.getD i undef=v)
theorem vX{i:Nat}{v x:Value}{a:Act}{d:Option Tmp}(h:a.tmps.getD i undef=v)(hd:d≠some i):(a.put d x).tmps.getD i undef=v:=by
 cases d with
 |none=>exact h
 |some t=>
  have:t≠i:=fun e=>hd (by rw[e])
  simp only[Act.put,Z2]at h ⊢
  rw[Za this];exact h
theorem P3{P:Program}{ops:Array Oper}{Q:Exit→Act→World→Prop}{i:Nat}{v:Value}(hd:∀ (k:Nat) o,ops[k]? =some o→o.dst≠some i):
  ∀ (l:List Nat) (a:Act) (w:World),a.tmps.getD i undef=v→wpOps P ops Q l a w→wpOps P ops (yR i v Q) l a w
 |[],a,w,ha,h=>⟨h,.inr ha⟩
 |k::l,a,w,ha,h=>by
  have ih:=P3 (P:=P) (Q:=Q) (v:=v) hd l
  have hl:LetsOut Q→LetsOut (yR i v Q):=fun⟨a,w,h⟩=>⟨a,w,h,.inl rfl⟩
  simp only[wpOps]at h ⊢
  cases ho:ops[k]? with
  |none=>simp only[ho]at h ⊢;exact ih _ _ ha h
  |some o=>
   have vh:=hd k o ho
   simp only[ho]at h ⊢
   split at h
   ·rename_i hw
    rw[if_pos hw]
    refine h.imp (fun h=> ?_) fun h=>⟨h.1,hl h.2⟩
    simp only[Oper.wp]at h ⊢
    generalize (execOp a.eval o).run P w=r at h ⊢
    unfold Oper.upon at h ⊢
    split at h
    ·exact ih _ _ (vX ha vh) h
    ·exact ih _ _ (vX ha vh) h
    ·exact ih _ _ (vX (a:={a with defers:=_::a.defers}) ha vh) h
    ·refine h.mono fun e w' h=> ?_
     cases e with
     |returned v=>exact ih _ _ (vX ha vh) h
     |panicked ch=>exact⟨h,.inr ha⟩
     |outgrown=>exact hl h
    ·exact fun c cs=>let⟨v,w',h,s⟩:=h c cs;⟨v,w',ih _ _ (vX ha vh) h,s⟩
    ·exact⟨h,.inr ha⟩
    ·exact h.elim
   ·rename_i hw
    rw[if_neg hw]
    exact ih _ _ (vX ha vh) h
def qx(i:Nat):Code→Bool
 | .region _ ops false=>ops.toList.all fun o=>o.dst != some i
 | .seq a b=>qx i a && qx i b
 | .cond _ a b=>qx i a && qx i b
 | .skip=>true
 | .ret=>true
 |_=>false
def ej(P:Program)[Glob P](N i:Nat)(v:Value)(s:SC)(Q:Exit→ae→Store→Prop)(rg:ae)(σ:Store):Prop:=
 ∀ c,eB P N c=some s→qx i c=true→∀ (M:Mem) (w0:Base) (a:Act) (w:World),Inv P M w0 σ w→bE M rg a→a.tmps.size=N→a.defers=Glob.df P→a.tmps.getD i undef=v→c.wp P (yR i v (gF P M w0 N Q)) a w
section
variable {P:Program}[Glob P]{N i:Nat}{v:Value}{Q:Exit→ae→Store→Prop}{rg rg':ae}{σ:Store}
theorem QJ{l:List CI}(h:SW P N (.cj l) Q rg σ):ej P N i v (.cj l) Q rg σ:=by
 intro c hc hf M w0 a w hI hR hN hD hv
 have h1:=h c hc M w0 a w hI hR hN hD
 obtain⟨id,ops,rfl,_⟩:=dO hc
 simp only[qo]at h1
 refine wp_region (P3 (fun k o ho=> ?_) _ _ _ hv h1)
 have:=ZF.1 hf o (by rw[Array.mem_toList_iff];exact XM ho)
 simpa using this
theorem adx{M M':Mem}{w0:Base}(hM:M.le M'){e:Exit}{a:Act}{w:World}(h:yR i v (gF P M' w0 N Q) e a w):yR i v (gF P M w0 N Q) e a w:=⟨Dx hM h.1,h.2⟩
theorem xf{x y:SC}(h:ej P N i v x (l7 (ej P N i v y Q) Q) rg σ):ej P N i v (.seq x y) Q rg σ:=by
 intro c hc hf M w0 a w hI hR hN hD hv
 rcases dO hc with⟨ca,cb,rfl,h1,h2⟩|⟨id,ops,l1,l2,rfl,rfl,rfl,e1,e2,hT,hd,o4⟩
 ·simp only[qx,Z0]at hf
  refine wp_seq (wp_mono (h ca h1 hf.1 M w0 a w hI hR hN hD hv) ?_)
  rintro e a2 w2 ⟨⟨M2,bP,σ2,g1,g2,g3,g4,g5,g6⟩,g7⟩
  cases e with
  |normal=>
   have kG:=g7.resolve_left (by nofun)
   exact wp_mono (g6 cb h2 hf.2 M2 w0 a2 w2 g2 g3 g4 g5 kG) fun e a3 w3 hh=>adx g1 hh
  |_=>exact⟨⟨M2,bP,σ2,g1,g2,g3,g4,g5,g6⟩,g7⟩
 ·exact absurd hf (by simp[qx])
theorem QL(h:Q .normal rg σ):ej P N i v .skip Q rg σ:=by
 intro c hc hf M w0 a w hI hR hN hD hv
 obtain rfl:=dO hc
 exact wp_skip ⟨⟨M,rg,σ,Mem.le.refl _,hI,hR,hN,hD,h⟩,.inr hv⟩
theorem QK(h:Q .ret rg σ):ej P N i v .ret Q rg σ:=by
 intro c hc hf M w0 a w hI hR hN hD hv
 obtain rfl:=dO hc
 exact wp_ret ⟨⟨M,rg,σ,Mem.le.refl _,hI,hR,hN,hD,h⟩,.inr hv⟩
theorem QH{x:Operand}{s t:SC}{b:Bool}(hx:ev rg x= .v (.bool b))(h1:b=true→ej P N i v s Q rg σ)(h2:b=false→ej P N i v t Q rg σ):ej P N i v (.cond x s t) Q rg σ:=by
 intro c hc hf M w0 a w hI hR hN hD hv
 obtain⟨ca,cb,rfl,g1,g2⟩:=dO hc
 simp only[qx,Z0]at hf
 have he:=hR.ev x
 rw[hx]at he
 exact wp_cond_split he.az (fun hb=>h1 hb _ g1 hf.1 M w0 a w hI hR hN hD hv) (fun hb=>h2 hb _ g2 hf.2 M w0 a w hI hR hN hD hv)
theorem aCJ{s:SC}{ks:List Nat}(hk:gI ks rg=some rg')(h:ej P N i v s Q rg' σ):ej P N i v s Q rg σ:=by
 intro c hc hf M w0 a w hI hR hN hD hv
 refine h c hc hf M w0 a w hI ?_ hN hD hv
 rw[← DQ hk]
 exact hR.eY _
theorem ej.mono{s:SC}{Q':Exit→ae→Store→Prop}(h:ej P N i v s Q rg σ)(hq:∀ e rg σ,Q e rg σ→Q' e rg σ):ej P N i v s Q' rg σ:=by
 intro c hc hf M w0 a w hI hR hN hD hv
 exact wp_mono (h c hc hf M w0 a w hI hR hN hD hv) fun e a w ⟨⟨M2,bP,σ2,g1,g2,g3,g4,g5,g6⟩,g7⟩=>⟨⟨M2,bP,σ2,g1,g2,g3,g4,g5,hq _ _ _ g6⟩,g7⟩
end
end Go.Sx
namespace Go.Sx
def Pa:Nat→Option Code→Option Code
 |0,c=>c
 |n+1,some (.seq _ c)=>Pa n (some c)
 |_+1,_=>none
end Go.Sx
open Go Go.Sx
noncomputable def Go.Proofs.Tryz.f2500:Func:={Go.Proofs.Tryz.f65 with body:=Pa 2 Go.Proofs.Tryz.f65.body}
namespace Go.Proofs.YtbihckigennlhaaGreatDoor
open Go.Sx
def aDN:List CI:=[q0 7 (.exts (.makeMap 162 none) 162 [] []),q0 8 (.mv (.tmp 0)),q0 9 (.gi (Fn.func 114) [.tmp 8] []),.mk none (.exts (.insert 162 (.tmp 7) (ks ⟨#[116,97,98,108,101]⟩) (.tmp 9)) 0 [.mp 9 1,.str] [.tmp 7,ks ⟨#[116,97,98,108,101]⟩,.tmp 9]) none,q0 10 (.mv (.tmp 0)),q0 11 (.gi (Fn.func 115) [.tmp 10] []),.mk none (.exts (.insert 162 (.tmp 7) (ks ⟨#[102,101,97,116,117,114,101]⟩) (.tmp 11)) 0 [.mp 9 1,.str] [.tmp 7,ks ⟨#[102,101,97,116,117,114,101]⟩,.tmp 11]) none,q0 12 (.mv (.tmp 7)),q0 3 (.mv (.tmp 12))]
def aDO:List CI:=[q0 14 (.mv (.tmp 3)),q0 15 (.mv (.tmp 0)),q0 16 (.j6 (.tmp 15)),q0 17 (.iS 0 (.tmp 16)),q0 18 (.iS 0 (.tmp 17)),q0 19 (.load false 1 (.tmp 18)),q0 20 (.eH 3 (.tmp 19) (ki 0)),q0 21 (.iS 1 (.tmp 20)),q0 22 (.load false 1 (.tmp 21)),q0 23 (.cp (.lookup 162 (.tmp 14) (.tmp 22) true) 163 [.mp 9 1,.str] [.tmp 14,.tmp 22]),q0 13 (.mv (.tmp 23)),q0 24 (.extract (.tmp 13) 0),q0 25 (.extract (.tmp 13) 1),q0 4 (.mv (.tmp 24)),q0 5 (.mv (.tmp 25))]
def aCC:List CI:=[q0 26 (.mv (.tmp 5)),q0 27 (.un .not (.tmp 26)),q0 28 (.mv (.tmp 27)),q1 29 (.mv (.tmp 0)) 28 false,q1 30 (.j6 (.tmp 29)) 28 false,q1 31 (.iS 0 (.tmp 30)) 28 false,q1 32 (.iS 0 (.tmp 31)) 28 false,q1 33 (.load false 1 (.tmp 32)) 28 false,q1 34 (.eH 3 (.tmp 33) (ki 0)) 28 false,q1 35 (.iS 0 (.tmp 34)) 28 false,q1 36 (.load false 1 (.tmp 35)) 28 false,q1 37 (.bin .neq (.tmp 36) (ki 1)) 28 false,q0 38 (.pick (.tmp 28) kT (.tmp 37))]
def aDP:List CI:=[q0 39 (.mv (.tmp 0)),q0 40 (.j6 (.tmp 39)),q0 41 (.iS 0 (.tmp 40)),q0 42 (.call 76 [.tmp 41])]
def aDQ:List CI:=[q0 43 (.mv (.tmp 0)),q0 44 (.mv (.tmp 0)),q0 45 (.j6 (.tmp 44)),q0 46 (.iS 0 (.tmp 45)),q0 47 (.iS 0 (.tmp 46)),q0 48 (.load false 1 (.tmp 47)),q0 49 (.slice 3 (.tmp 48) (some (ki 1)) none),q0 50 (.j6 (.tmp 43)),q0 51 (.iS 0 (.tmp 50)),q0 52 (.iS 0 (.tmp 51)),.mk none (.store 1 (.tmp 52) (.tmp 49)) none]
def aDR:List CI:=[q0 53 (.mv (.tmp 4)),q0 54 (.dA (.tmp 53) [])]
def aDS:List CI:=[q0 55 (.build [.int .i64 0,.int .i64 0] []),.mk none (.store 2 (.tmp 2) (.tmp 55)) none]
def aEc:AC:=(.seq (.cj aDN) (.keep [0,2,3] (.seq (.cj aDO) (.keep [0,2,4,5] (.seq (.seq (.cj aCC) (.keep [0,2,4,38] (.cond (.tmp 38) (.cj aDP) .skip))) (.keep [0,2,4] (.seq (.cj aDQ) (.keep [2,4] (.seq (.cj aDR) (.keep [2] (.seq (.cj aDS) .ret)))))))))))
def aCm:FC:=⟨56,aEc.erase,[.cell 2 true 2]⟩
end Go.Proofs.YtbihckigennlhaaGreatDoor
