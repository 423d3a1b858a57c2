/- Same units, types, expressions, tables, features: of one and the same. -/
import Derived.Test.YtajimcniogfpcaaGreatDoorEd
set_option linter.unusedSimpArgs false
set_option linter.unusedVariables false
set_option maxRecDepth 100000
set_option maxHeartbeats 4000000
namespace Go.Proofs.YtajimcniogfpcaaGreatDoor
open _root_.Go.Proofs.Tryz
open Go.Sx Go.Proofs Go.Tb
theorem UM(u:List ax):Pure prog 114 [.sl false 2 (u.map ax.cells),.sl false 2 (u.map ax.cells)] (.v (.bool true)):=by
 refine RY.p fun σ=> ?_
 repeat'(first|exact .nil|refine .k0 ?_|refine .k1 ?_|refine .k2 ?_|refine .k6 ?_|refine .k7 ?_|refine .k9 ?_|(refine .cd ?_ ?_<;>(intro hc;skip))|refine .r1 ?_ ?_|(refine .m2 ?_ ?_;intro hlen)|fail)
 all_goals(try simp only[BL]at *)
 all_goals first|(exfalso;exact hc trivial)|skip
 refine bO (fun n rg σ'=>∃ i:Nat,i≤u.length∧n=u.length-i∧σ'=σ∧rg=[(0,.sl false 2 (u.map ax.cells)),(1,.sl false 2 (u.map ax.cells)),(5,iv i)]) u.length rfl ⟨_,_,Zr,Zs,0,ZL _,rfl,rfl,rfl⟩ ?_
 rintro n _ _ ⟨i,hi,hn,rfl,rfl⟩
 repeat'(first|exact .nil|refine .k0 ?_|refine .k1 ?_|refine .k2 ?_|refine .k5 ?_|refine .k6 ?_|refine .k7 ?_|refine .k8 ?_|refine .k9 ?_|(refine .cd ?_ ?_<;>(intro hc;skip))|refine .r1 ?_ ?_|(refine .m2 ?_ ?_;intro hlen)|refine .t1 ?_ ?_ ?_|fail)
 try any_goals(exact Zo)
 all_goals(try simp only[BL]at *)
 all_goals first|(exfalso;simp at hc;done)|(refine⟨u.length-(i+1),by omega,_,_,Zr,Zs,i+1,by omega,rfl,rfl,by rw[cu (n:=u.length) (by omega) (by assumption)]⟩)|(show Sx.Fin _ _ _ _;(refine Sx.Fin.wk Zs ?_;repeat' first|exact .refl _|fail);done)|fail
theorem UL(t:Ty):Pure prog 65 [.agg t.cells,.agg t.cells] (.v (.bool true)):=by
 refine Sm.p fun σ=> ?_
 repeat'(first|exact .nil|refine .k0 ?_|refine .k1 ?_|refine .k2 ?_|refine .k4 ?_|refine .k7 ?_|refine .r1 ?_ ?_|(refine .m1 ?_ ?_;intro b)|refine .an rfl (by intro aB;exact UM _) ?_ ?_|fail)
 all_goals(try simp only[BL]at *)
 show Sx.Fin _ (AV.v (Value.bool true)) (AV.v (Value.bool true)) _
 exact Zw
def DL(x:Ex):Prop:=Pure prog 115 [.agg x.row,.agg x.row] (.v (.bool true))
theorem akf(x:Ex)(ih:∀ i,i<x.args.length→DL (x.args.getD i default)):DL x:=by
 unfold DL
 rw[Ex.fe x]
 refine RZ.p fun σ=> ?_
 repeat'(first|exact .nil|refine .k0 ?_|refine .k1 ?_|refine .k2 ?_|refine .k4 ?_|refine .k6 ?_|refine .k7 ?_|refine .k9 ?_|(refine .cd ?_ ?_<;>(intro hc;skip))|refine .r1 ?_ ?_|(refine .m1 ?_ ?_;intro b)|(refine .m2 ?_ ?_;intro hlen)|refine .an rfl (by intro aB;exact UM _) ?_ ?_|fail)
 try any_goals(exact Zo)
 all_goals(try simp only[BL]at *)
 ·exfalso;simp at hc
 clear hc
 rename_i b2 _
 refine bO (fun n rg σ'=>∃ i:Nat,i≤x.args.length∧n=x.args.length-i∧σ'=(3,b,aR.cells x.lay)::(2,b2,aR.cells x.lay)::σ∧rg=[(2,.lp 2 b2 0),(3,.lp 3 b 0),(5,iv i)]) x.args.length rfl ⟨_,_,Zr,Zs,0,ZL _,rfl,rfl,rfl⟩ ?_
 rintro n _ _ ⟨i,hi,hn,rfl,rfl⟩
 have hA:i<x.args.length→Pure prog 115 [.agg (x.args.getD i default).row,.agg (x.args.getD i default).row] (.v (.bool true)):=ih i
 repeat'(first|exact .nil|refine .k0 ?_|refine .k1 ?_|refine .k2 ?_|refine .k5 ?_|refine .k6 ?_|refine .k7 ?_|refine .k8 ?_|refine .k9 ?_|(refine .cd ?_ ?_<;>(intro hc;skip))|refine .r1 ?_ ?_|(refine .m2 ?_ ?_;intro hlen)|refine .t1 ?_ ?_ ?_|refine .an rfl (by intro aB;first|exact hA (by(simp only[BL]at *;omega))|fail) ?_ ?_|fail)
 try any_goals(exact Zo)
 all_goals(try simp only[BL]at *)
 all_goals first|(exfalso;simp at hc;done)|(refine⟨x.args.length-(i+1),by omega,_,_,Zr,Zs,i+1,by omega,rfl,rfl,by rw[cu (n:=x.args.length) (by omega) (by assumption)]⟩)|(show Sx.Fin _ _ _ _;(refine Sx.Fin.wk Zs ?_;repeat' first|exact .refl _|fail);done)|fail
theorem UN:∀ (n:Nat) (x:Ex),x.size≤n→DL x
 |0,x,h=>by cases x;simp[Ex.size]at h
 |n+1,x,h=>akf x fun k hk=>UN n _ (by have:=Ex.Mp x hk;omega)
theorem akg(x:Ex):Pure prog 115 [.agg x.row,.agg x.row] (.v (.bool true)):=UN x.size x (ZM _)
theorem aka(f:aj):Pure prog 66 [.agg f.cells,.agg f.cells] (.v (.bool true)):=by
 refine Sn.p fun σ=> ?_
 repeat'(first|exact .nil|refine .k0 ?_|refine .k1 ?_|refine .k2 ?_|refine .k4 ?_|refine .k7 ?_|refine .r1 ?_ ?_|(refine .m1 ?_ ?_;intro b)|refine .an rfl (by intro aB;first|exact UL _|exact akg _) ?_ ?_|fail)
 all_goals(try simp only[BL]at *)
 show Sx.Fin _ (AV.v (Value.bool true)) (AV.v (Value.bool true)) _
 exact Zw
theorem akd(t:aI):Pure prog 27 [.agg t.cells,.agg t.cells] (.v (.bool true)):=by
 refine Sd.p fun σ=> ?_
 repeat'(first|exact .nil|refine .k0 ?_|refine .k1 ?_|refine .k2 ?_|refine .k4 ?_|refine .k6 ?_|refine .k7 ?_|refine .k9 ?_|(refine .cd ?_ ?_<;>(intro hc;skip))|refine .r1 ?_ ?_|(refine .m1 ?_ ?_;intro b)|(refine .m2 ?_ ?_;intro hlen)|fail)
 try any_goals(exact Zo)
 all_goals(try simp only[BL]at *)
 ·exfalso;simp at hc
 clear hc
 rename_i b2 _
 refine bO (fun n rg σ'=>∃ i:Nat,i≤t.fields.length∧n=t.fields.length-i∧σ'=(3,b,aR.cells t.cells)::(2,b2,aR.cells t.cells)::σ∧rg=[(2,.lp 2 b2 0),(3,.lp 3 b 0),(5,iv i)]) t.fields.length rfl ⟨_,_,Zr,Zs,0,ZL _,rfl,rfl,rfl⟩ ?_
 rintro n _ _ ⟨i,hi,hn,rfl,rfl⟩
 repeat'(first|exact .nil|refine .k0 ?_|refine .k1 ?_|refine .k2 ?_|refine .k3 ?_|refine .k5 ?_|refine .k6 ?_|refine .k7 ?_|refine .k8 ?_|refine .k9 ?_|(refine .cd ?_ ?_<;>(intro hc;skip))|refine .r1 ?_ ?_|(refine .m2 ?_ ?_;intro hlen)|refine .t1 ?_ ?_ ?_|refine .an rfl (by intro aB;exact UL (t.fields.getD i default).type) ?_ ?_|fail)
 try any_goals(exact Zo)
 all_goals(try simp only[BL]at *)
 all_goals first|(exfalso;exact hc trivial)|(refine⟨t.fields.length-(i+1),by omega,_,_,Zr,Zs,i+1,by omega,rfl,rfl,by rw[cu (n:=t.fields.length) (by omega) (by assumption)]⟩)|(show Sx.Fin _ _ _ _;(refine Sx.Fin.wk Zs ?_;repeat' first|exact .refl _|fail);done)|fail
end Go.Proofs.YtajimcniogfpcaaGreatDoor
namespace Go.Sx
end Go.Sx
namespace Go.Proofs.YtajimcniogfpcaaGreatDoor
open Go.Sx Go.Proofs Go.Tb
def zta:aI:=⟨s0,s0,[],0⟩
def iS(ts:List aI)(n:ae):Option aI:=ts.find? fun t=>decide (t.name=n)
def P1(o:Option aI):AV:= .aP [.agg (o.getD zta).cells,.v (.bool o.isSome)]
theorem adY{ts:List aI}{n:ae}(h:∀ j,j<ts.length→¬(ts.getD j default).name=n):iS ts n=none:=by
 unfold iS
 rw[Xw]
 intro x hx
 obtain⟨j,hj,rfl⟩:=Zf hx
 have:=h j hj
 rw[getD_eq hj]at this
 simpa using this
theorem adX{ts:List aI}{n:ae}{i:Nat}(hi:i<ts.length)(h:∀ j,j<i→¬(ts.getD j default).name=n)(hn:(ts.getD i default).name=n):iS ts n=some (ts.getD i default):=by
 unfold iS
 rw[getD_eq hi]at hn ⊢
 rw[Yo]
 refine⟨by simpa using hn,i,hi,rfl,fun j hj=> ?_⟩
 have:=h j hj
 rw[getD_eq (Nat.lt_trans hj hi)]at this
 simpa using this
abbrev akR:List AV:=[sv s0,sv s0,bD,iv 0]
theorem akP(c:az)(n:ae):Pure Tryz.prog 14 [.agg c.cells,sv n] (P1 (iS c.tables n)):=by
 refine k14.p fun σ=> ?_
 repeat'(first|exact .nil|refine .k0 ?_|refine .k1 ?_|refine .k2 ?_|refine .k6 ?_|refine .r1 ?_ ?_|(refine .l1 ?_;intro b)|(refine .m1 ?_ ?_;intro b)|(refine .m2 ?_ ?_;intro hlen)|fail)
 all_goals(try simp only[BL]at *)
 refine bO (fun m rg σ'=>∃ i:Nat,i≤c.tables.length∧m=c.tables.length-i∧(∀ j,j<i→¬(c.tables.getD j default).name=n)∧σ'=(4,b,aR.cells akR)::σ∧rg=[(1,sv n),(4,.lp 4 b 0),(9,.sl false 4 (c.tables.map aI.cells)),(10,iv c.tables.length),(11,iv i)]) c.tables.length rfl ⟨_,_,Zr,Zs,0,ZL _,rfl,fun j hj=>absurd hj (by omega),rfl,rfl⟩ ?_
 rintro m _ _ ⟨i,hi,hn,hp,rfl,rfl⟩
 repeat'(first|exact .nil|refine .k0 ?_|refine .k1 ?_|refine .k2 ?_|refine .k6 ?_|refine .k7 ?_|refine .k8 ?_|refine .k9 ?_|(refine .cd ?_ ?_<;>(intro hc;skip))|refine .r1 ?_ ?_|(refine .l1 ?_;intro b)|refine .t1 ?_ ?_ ?_|fail)
 try any_goals(exact Zo)
 all_goals(try simp only[BL]at *)
 ·rw[adX (by omega) hp hc]
  exact Zw
 ·refine⟨c.tables.length-(i+1),by omega,_,_,Zr,Zs,i+1,by omega,rfl,iP hp hc,rfl,by rw[cu (n:=c.tables.length) (by omega) (by assumption)]⟩
 ·rw[adY (fun j hj=>hp j (by omega))]
  exact Zw
def ke:List ae→List ae
 |[]=>[]
 |s::l=>fC (ke l) s
theorem yi{x:ae}:∀ {l:List ae},x∈ke l↔x∈l
 |[]=>Iff.rfl
 |s::l=>by rw[ke,Am,yi (l:=l),ZT]
theorem vG:∀ l:List ae,bl (ke l)
 |[]=>sY
 |s::l=>CZ (vG l)
open Classical in
section
variable {fs:List aj}
theorem acN{g:ae→List ae}{S:ae→Prop}{N:List ae}(hN:∀ s,S s→s∈N)(hS:∀ s,S s→∃ t∈g s,S t){a:ae}(ha:S a):∃ b q,S b∧eH g b q:=by
 have key:∀ k,∃ q:List ae,q.length=k∧de g a q∧(∀ s∈a::q,S s):=by
  intro k
  induction k with
  |zero=>exact⟨[],rfl,trivial,fun s hs=>by simp at hs;subst hs;exact ha⟩
  |succ k ih=>
   obtain⟨q,h1,h2,h3⟩:=ih
   have hl:S (bn a q):=by
    have:∀ (q:List ae) (a:ae),bn a q∈a::q:=fun q=>by
     induction q with
     |nil=>intro a;simp[bn]
     |cons b q ih=>intro a;rw[bn];exact ZO _ (ih b)
    exact h3 _ (this q a)
   obtain⟨t,ht,eU⟩:=hS _ hl
   exact⟨q++[t],by simp[h1],h2.snoc ht,fun s hs=>by
    rw[← ZH,ZJ,Zm]at hs
    rcases hs with hs|rfl
    ·exact h3 s hs
    ·exact eU⟩
 obtain⟨q,h1,h2,h3⟩:=key N.length
 have hnd:¬(a::q).Nodup:=fun hd=>by
  have:=ic hd fun s hs=>hN s (h3 s hs)
  simp only[Z8]at this;omega
 have split:∀ (q:List ae) (a:ae),de g a q→¬(a::q).Nodup→∃ b y,b∈a::q∧eH g b y:=fun q=>by
  induction q with
  |nil=>intro a _ h;exact absurd (by simp) h
  |cons b q ih=>
   intro a hp hnd
   by_cases hm:a∈b::q
   ·obtain⟨x,y,e⟩:=XP hm
    refine⟨a,x,by simp,?_,?_⟩
    ·rw[e]at hp;exact hp.left
    ·rw[e]at hp;exact(hp.right (l:=x)).1
   ·have:=ih b hp.2 (fun hd=>hnd (YV.2 ⟨hm,hd⟩))
    obtain⟨c,y,h1,h2⟩:=this
    exact⟨c,y,ZO _ h1,h2⟩
 obtain⟨b,y,hb,hc⟩:=split q a h2 hnd
 exact⟨b,y,h3 b hb,hc⟩
theorem aij{l:List ae}(h:gA (deps fs) (aL fs) l)(hn:j6 (deps fs) (aL fs) l=none)(hc:∀ a∈aL fs,∀ q,¬eH (deps fs) a q):l.length=(aL fs).length:=by
 refine Nat.le_antisymm h.len (ic (yj (xR fs)) fun a ha=> ?_)
 by_cases EK:a∈l
 ·exact EK
 ·exfalso
  obtain⟨b,q,hb,hq⟩:=acN (g:=deps fs) (S:=fun s=>s∈aL fs∧s∉l) (N:=aL fs) (fun s hs=>hs.1) (fun s hs=>by
   have h1:=Xw.1 hn s hs.1
   rw[F1]at h1
   have h2:¬∀ m∈deps fs s,m∈l:=fun h3=>h1 ⟨hs.2,h3⟩
   obtain⟨m,hm⟩:=Classical.not_forall.1 h2
   obtain⟨lV,eT⟩:=Classical.not_imp.1 hm
   exact⟨m,lV,wK lV,eT⟩) ⟨ha,EK⟩
  exact hc b hb.1 q hq
theorem aii{l:List ae}(h:gA (deps fs) (aL fs) l)(hl:l.length=(aL fs).length)(a:ae)(q:List ae):¬eH (deps fs) a q:=fun hc=>by
 have fi:∀ s∈aL fs,s∈l:=Tm h.d h.s (by omega)
 have hr:∀ a b,b∈deps fs a→l.findIdx (fun x=>decide (x=b))<l.findIdx (fun x=>decide (x=a)):=fun a b hb=>by
  have ha:=fi a (OJ hb)
  have hi:l.findIdx (fun x=>decide (x=a))<l.length:=List.findIdx_lt_length_of_exists ⟨a,ha,by simp⟩
  have e0:l[l.findIdx (fun x=>decide (x=a))]=a:=Ye (List.findIdx_getElem (w:=hi))
  have dK:b∈l.take (l.findIdx (fun x=>decide (x=a))):=h.b _ hi b (by rw[e0];exact hb)
  obtain⟨j,hj,e⟩:=Zf dK
  rw[Yk]at e
  have jD:j<l.findIdx (fun x=>decide (x=a)):=by simp at hj;omega
  rcases YO j (l.findIdx (fun x=>decide (x=b)))with h1|h1
  ·have:=List.not_of_lt_findIdx h1
   simp[e]at this
  ·omega
 have h1:=L4 (r:=fun a=>l.findIdx (fun x=>decide (x=a))) hr q a hc.1
 have h2:=hr _ _ hc.2
 omega
theorem aih(fs:List aj)(ES:pQ (deps fs) (aL fs) (iF (deps fs) (aL fs))):(kN (deps fs) (aL fs)).length=(aL fs).length↔iF (deps fs) (aL fs)=[]:=by
 obtain⟨h,hn⟩:=aid (deps fs) (aL fs)
 constructor
 ·intro hl
  rcases ES with⟨e,_⟩|⟨a,q,e,ha,hb,_⟩
  ·exact e
  ·exact absurd hb.c (aii h hl a q)
 ·intro e
  rcases ES with⟨_,h0⟩|⟨a,q,e2,_⟩
  ·exact aij h hn h0
  ·rw[e]at e2;cases e2
end
theorem Fs{p:Nat→Prop}:∀ n,p n→∃ m,p m∧∀ k,p k→m≤k:=by
 intro n
 induction n using Nat.strongRecOn with
 |_ n ih=>
  intro h
  by_cases hk:∃ k,k<n∧p k
  ·obtain⟨k,h1,h2⟩:=hk;exact ih k h1 h2
  ·exact⟨n,h,fun k hp=>by
    rcases YO k n with h1|h1
    ·exact absurd ⟨k,h1,hp⟩ hk
    ·exact h1⟩
open Classical in
theorem OY(g:ae→List ae)(b:ae):∃ d,oH g b d:=by
 refine⟨fun x=>if h:∃ k,fg g k x b then(Fs (p:=fun k=>fg g k x b) h.choose h.choose_spec).choose else 1000,fun x hx=> ?_,fun k x hk=> ?_⟩
 ·by_cases h:∃ k,fg g k x b
  ·simp only[dif_pos h];exact(Fs (p:=fun k=>fg g k x b) h.choose h.choose_spec).choose_spec.1
  ·simp only[dif_neg h]at hx;omega
 ·have h:∃ k,fg g k x b:=⟨k,hk⟩
  simp only[dif_pos h];exact(Fs (p:=fun k=>fg g k x b) h.choose h.choose_spec).choose_spec.2 k hk
theorem P2{g:ae→List ae}{b:ae}{d:ae→Nat}(hd:oH g b d):∀ (n:Nat) (a:ae),d a=n+1→d a<1000→∃ l,lE g d n a l
 |0,a,_,_=>⟨[],.nil⟩
 |n+1,a,ha,h1=>by
  obtain⟨c,hc⟩:=hd.next ha h1
  have hdc:d c=n+1:=by simpa using XJ hc
  obtain⟨l,hl⟩:=P2 hd n c hdc (by omega)
  exact⟨c::l,.cons hc hl⟩
theorem Mn{g:ae→List ae}{a:ae}{q:List ae}(hc:eH g a q)(hs:∀ m,eH g a m→q.length≤m.length):(a::q).Nodup:=by
 refine YV.2 ⟨fun hm=> ?_,?_⟩
 ·obtain⟨x,y,e⟩:=XP hm
  have hp:=hc.1
  rw[e]at hp
  have:=hs x ⟨hp.left,(hp.right (l:=x)).1⟩
  rw[e,Z9,Z8]at this;omega
 ·by_cases hd:q.Nodup
  ·exact hd
  ·exfalso
   have split:∀ q:List ae,¬q.Nodup→∃ x c y z,q=x++c::y++c::z:=fun q=>by
    induction q with
    |nil=>intro h;exact absurd .nil h
    |cons b q ih=>
     intro h
     by_cases hb:b∈q
     ·obtain⟨x,y,rfl⟩:=XP hb
      exact⟨[],b,x,y,by simp⟩
     ·obtain⟨x,c,y,z,e⟩:=ih fun hq=>h (YV.2 ⟨hb,hq⟩)
      exact⟨b::x,c,y,z,by rw[e];simp⟩
   obtain⟨x,c,y,z,e⟩:=split q hd
   have hp:=hc.1
   have hl:=hc.2
   rw[e]at hp hl
   have h1:de g a x:=by rw[Zt]at hp;exact hp.left
   have h2:c∈g (bn a x):=by rw[Zt]at hp;exact(hp.right (l:=x)).1
   have h3:de g c z:=(hp.right (l:=x++c::y)).2
   have h4:bn a (x++c::y++c::z)=bn c z:=by rw[xK];rfl
   rw[h4]at hl
   have h5:eH g a (x++c::z):=⟨de.app h1 ⟨h2,h3⟩,by rw[xK];exact hl⟩
   have:=hs _ h5
   rw[e]at this
   simp at this
   omega
theorem abU{g:ae→List ae}(hg:∀ n,bl (g n)){N:List ae}(hN:∀ x y,y∈g x→y∈N)(hl:N.length<999){a:ae}{q:List ae}(hc:eH g a q)(hs:∀ m,eH g a m→q.length≤m.length):∃ l,nz g a l∧l.length=q.length:=by
 obtain⟨d,hd⟩:=OY g a
 have hq:q.length<999:=by
  have hnd:=(YV.1 (Mn hc hs)).2
  have j0:∀ (q:List ae) (a:ae),de g a q→∀ s∈q,s∈N:=fun q=>by
   induction q with
   |nil=>intro a _ s h;cases h
   |cons b q ih=>
    intro a hp s h
    rcases ZT.1 h with rfl|h
    ·exact hN _ _ hp.1
    ·exact ih b hp.2 s h
  have:=ic hnd (j0 q a hc.1)
  omega
 have h1:d a≤q.length+1:=hd.l _ _ (hc.1.yk hc.2)
 have h2:=hd.r a (by omega)
 have h3:=h2.pos
 obtain⟨l,lT⟩:=P2 hd (d a-1) a (by omega) (by omega)
 have hb:=lE.RT hg hd lT (by omega) (by omega)
 exact⟨l,hb,Nat.le_antisymm (hb.s q hc) (hs l hb.c)⟩
theorem Oy(g:ae→List ae)(hg:∀ n,bl (g n)){N:List ae}(oV:bl N)(hN:∀ x y,y∈g x→y∈N)(hl:N.length<999):pQ g N (iF g N):=by
 have ex:∃ l,pQ g N l:=by
  by_cases h0:∃ a∈N,∃ q,eH g a q
  ·obtain⟨a1,qi,q1,hq1⟩:=h0
   obtain⟨k,⟨a0,ha0,q0,Cv,xg⟩,uJ⟩:=Fs (p:=fun k=>∃ a∈N,∃ q,eH g a q∧q.length=k) q1.length ⟨a1,qi,q1,hq1,rfl⟩
   classical
   have KN:(N.find? fun a=>decide (∃ q,eH g a q∧q.length=k)).isSome:=by
    rw[List.find?_isSome];exact⟨a0,ha0,by simpa using⟨q0,Cv,xg⟩⟩
   obtain⟨a,ha⟩:=Yt.1 KN
   have JQ:=XK ha
   have hp:=XJ ha
   simp only[ZN]at hp
   obtain⟨q,hq,QX⟩:=hp
   obtain⟨l,hb,mP⟩:=abU hg hN hl hq (fun m hm=>by rw[QX];exact uJ _ ⟨a,JQ,m,hm,rfl⟩)
   refine⟨a::l,.inr ⟨a,l,rfl,JQ,hb,fun b uB ar m hm=> ?_,fun b uB m hm=>by rw[mP,QX];exact uJ _ ⟨b,uB,m,hm,rfl⟩⟩⟩
   have h1:=uJ _ ⟨b,uB,m,hm,rfl⟩
   rcases Xc h1 with h2|h2
   ·exfalso
    rcases Jq oV ha b uB (by simpa using⟨m,hm,h2.symm⟩)with h3|h3
    ·rw[h3,pJ]at ar;cases ar
    ·rw[Gf h3]at ar;cases ar
   ·omega
  ·exact⟨[],.inl ⟨rfl,fun a ha q hq=>h0 ⟨a,ha,q,hq⟩⟩⟩
 obtain⟨l,hl⟩:=ex
 rw[wJ hl];exact hl
end Go.Proofs.YtajimcniogfpcaaGreatDoor
