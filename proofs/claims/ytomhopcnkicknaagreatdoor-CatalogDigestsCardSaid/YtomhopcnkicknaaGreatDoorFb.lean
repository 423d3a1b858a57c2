/- CatalogFinds. -/
import Derived.Test.YtomhopcnkicknaaGreatDoorEa
set_option linter.unusedSimpArgs false
set_option linter.unusedVariables false
set_option maxRecDepth 100000
set_option maxHeartbeats 4000000
namespace Go.Sx
theorem Pure.wkr{P:Program}[Glob P]{f:FuncId}{xs:List AV}{r r':AV}(h:Pure P f xs r)(hw:Wk r r'):Pure P f xs r':=
 ⟨fun σ=>(h.sp σ).weak fun q af ⟨e1,e2⟩=>⟨.ret r',σ,⟨rfl,rfl⟩,by subst e2;exact .refl _,by subst e1;exact hw⟩⟩
end Go.Sx
namespace Go.Proofs.YtomhopcnkicknaaGreatDoor
open Go.Sx Go.Proofs Go.Tb
def xw:aj:=⟨s0,s0,⟨0,[],s0⟩,⟨0,s0,s0,s0,⟨0,0,s0⟩,[],0,⟨0,0⟩,[]⟩,0⟩
def D9:aP:=⟨s0,s0,[],0⟩
def Fv(o:Option aj):AV:= .aE [.agg (o.getD xw).cells,.v (.bool o.isSome)]
theorem acs(o:Option aj):Wk (L7 o) (Fv o):=by
 cases o with
 |some f=>exact Wk.refl _
 |none=>
  refine .aE (.cons (.agg ?_) (.cons (Wk.refl _) .nil))
  repeat' first|exact .refl _|exact .nil|refine .cons ?_ ?_
theorem abZ(fs:List aj)(n:ae):Pure Tryz.prog 213 [.sl false 18 (fs.map aj.cells),sv n] (Fv (findF fs n)):=(abX fs n _ rfl).wkr (acs _)
theorem LJ(c:az)(n:ae):Pure Tryz.prog 169 [.agg c.cells,sv n] (Fv (findF c.features n)):=by
 refine aeJ.p fun σ=> ?_
 repeat'(first|exact .nil|refine .k0 ?_|refine .k1 ?_|refine .k2 ?_|refine .k7 ?_|refine .r1 ?_ ?_|(refine .l1 ?_;intro b)|(refine .m1 ?_ ?_;intro b)|refine .an rfl (by intro aq;exact abZ _ _) ?_ ?_|fail)
 all_goals(try simp only[BL]at *)
 exact Zw
def mU(ts:List aP)(n:ae):Option aP:=ts.find? fun t=>decide (t.name=n)
theorem ab1{ts:List aP}{n:ae}(h:∀ j,j<ts.length→¬(ts.getD j default).name=n):mU ts n=none:=by
 unfold mU
 rw[XG]
 intro x hx
 obtain⟨j,hj,rfl⟩:=Zj hx
 have:=h j hj
 rw[getD_eq hj]at this
 simpa using this
theorem ab0{ts:List aP}{n:ae}{i:Nat}(hi:i<ts.length)(h:∀ j,j<i→¬(ts.getD j default).name=n)(hn:(ts.getD i default).name=n):mU ts n=some (ts.getD i default):=by
 unfold mU
 rw[getD_eq hi]at hn ⊢
 rw[YM]
 refine⟨by simpa using hn,i,hi,rfl,fun j hj=> ?_⟩
 have:=h j hj
 rw[getD_eq (Nat.lt_trans hj hi)]at this
 simpa using this
def fQ:List ae→List ae
 |[]=>[]
 |s::l=>cZ (fQ l) s
theorem wO{x:ae}:∀ {l:List ae},x∈fQ l↔x∈l
 |[]=>Iff.rfl
 |s::l=>by rw[fQ,ud,wO (l:=l),ZQ]
theorem wP:∀ l:List ae,bg (fQ l)
 |[]=>o5
 |s::l=>wG (wP l)
open Classical in
theorem aaS(x:Ex)(hz:x.size≤5000):Pure Tryz.prog 170 [.agg x.row,dM,dM] (.aE [cS (ml x),cS (Li x)]):=aaO x (by have:=sX x;omega) (by have:=sX x;omega)
theorem acr{c:az}(hs:Small c)(hc:c.Fits)(n:ae):((findF c.features n).getD xw).body.size≤5000∧((findF c.features n).getD xw).body.wt≤2 ^ 60:=by
 cases h:findF c.features n with
 |none=>exact⟨by decide+kernel,by decide+kernel⟩
 |some f=>have hm:=(sY h).1;exact⟨by have:=Kt hs hm;simp only[Zu];omega,hc.b f hm⟩
theorem CL{p:Nat→Prop}:∀ n,p n→∃ m,p m∧∀ k,p k→m≤k:=by
 intro n
 induction n using Nat.strongRecOn with
 |_ n ih=>
  intro h
  by_cases hk:∃ k,k<n∧p k
  ·obtain⟨k,h1,h2⟩:=hk;exact ih k h1 h2
  ·exact⟨n,h,fun k hp=>by
    rcases YF k n with h1|h1
    ·exact absurd ⟨k,h1,hp⟩ hk
    ·exact h1⟩
open Classical in
theorem Ll(g:ae→List ae)(b:ae):∃ d,kZ g b d:=by
 refine⟨fun x=>if h:∃ k,eC g k x b then(CL (p:=fun k=>eC g k x b) h.choose h.choose_spec).choose else 1000,fun x hx=> ?_,fun k x hk=> ?_⟩
 ·by_cases h:∃ k,eC g k x b
  ·simp only[dif_pos h];exact(CL (p:=fun k=>eC g k x b) h.choose h.choose_spec).choose_spec.1
  ·simp only[dif_neg h]at hx;omega
 ·have h:∃ k,eC g k x b:=⟨k,hk⟩
  simp only[dif_pos h];exact(CL (p:=fun k=>eC g k x b) h.choose h.choose_spec).choose_spec.2 k hk
theorem Fx{g:ae→List ae}{b:ae}{d:ae→Nat}(hd:kZ g b d):∀ (n:Nat) (a:ae),d a=n+1→d a<1000→∃ l,jd g d n a l
 |0,a,_,_=>⟨[],.nil⟩
 |n+1,a,ha,h1=>by
  obtain⟨c,hc⟩:=hd.next ha h1
  have hdc:d c=n+1:=by simpa using X3 hc
  obtain⟨l,hl⟩:=Fx hd n c hdc (by omega)
  exact⟨c::l,.cons hc hl⟩
theorem Qr{g:ae→List ae}{a:ae}{q:List ae}(hc:fb g a q)(hs:∀ m,fb g a m→q.length≤m.length):(a::q).Nodup:=by
 refine YX.2 ⟨fun hm=> ?_,?_⟩
 ·obtain⟨x,y,e⟩:=X5 hm
  have hp:=hc.1
  rw[e]at hp
  have:=hs x ⟨hp.left,(hp.right (l:=x)).1⟩
  rw[e,Z9,Z8]at this;omega
 ·by_cases hd:q.Nodup
  ·exact hd
  ·exfalso
   have split:∀ q:List ae,¬q.Nodup→∃ x c y z,q=x++c::y++c::z:=fun q=>by
    induction q with
    |nil=>intro h;exact absurd .nil h
    |cons b q ih=>
     intro h
     by_cases hb:b∈q
     ·obtain⟨x,y,rfl⟩:=X5 hb
      exact⟨[],b,x,y,by simp⟩
     ·obtain⟨x,c,y,z,e⟩:=ih fun hq=>h (YX.2 ⟨hb,hq⟩)
      exact⟨b::x,c,y,z,by rw[e];simp⟩
   obtain⟨x,c,y,z,e⟩:=split q hd
   have hp:=hc.1
   have hl:=hc.2
   rw[e]at hp hl
   have h1:c6 g a x:=by rw[ZB]at hp;exact hp.left
   have h2:c∈g (bh a x):=by rw[ZB]at hp;exact(hp.right (l:=x)).1
   have h3:c6 g c z:=(hp.right (l:=x++c::y)).2
   have h4:bh a (x++c::y++c::z)=bh c z:=by rw[zO];rfl
   rw[h4]at hl
   have h5:fb g a (x++c::z):=⟨c6.app h1 ⟨h2,h3⟩,by rw[zO];exact hl⟩
   have:=hs _ h5
   rw[e]at this
   simp at this
   omega
theorem Wz{g:ae→List ae}(hg:∀ n,bg (g n)){N:List ae}(hN:∀ x y,y∈g x→y∈N)(hl:N.length<999){a:ae}{q:List ae}(hc:fb g a q)(hs:∀ m,fb g a m→q.length≤m.length):∃ l,me g a l∧l.length=q.length:=by
 obtain⟨d,hd⟩:=Ll g a
 have hq:q.length<999:=by
  have hnd:=(YX.1 (Qr hc hs)).2
  have iW:∀ (q:List ae) (a:ae),c6 g a q→∀ s∈q,s∈N:=fun q=>by
   induction q with
   |nil=>intro a _ s h;cases h
   |cons b q ih=>
    intro a hp s h
    rcases ZQ.1 h with rfl|h
    ·exact hN _ _ hp.1
    ·exact ih b hp.2 s h
  have:=gn hnd (iW q a hc.1)
  omega
 have h1:d a≤q.length+1:=hd.l _ _ (hc.1.um hc.2)
 have h2:=hd.r a (by omega)
 have h3:=h2.pos
 obtain⟨l,kL⟩:=Fx hd (d a-1) a (by omega) (by omega)
 have hb:=jd.N6 hg hd kL (by omega) (by omega)
 exact⟨l,hb,Nat.le_antisymm (hb.s q hc) (hs l hb.c)⟩
theorem Xv(g:ae→List ae)(hg:∀ n,bg (g n)){N:List ae}(jM:bg N)(hN:∀ x y,y∈g x→y∈N)(hl:N.length<999):qO g N (gM g N):=by
 have ex:∃ l,qO g N l:=by
  by_cases h0:∃ a∈N,∃ q,fb g a q
  ·obtain⟨a1,yq,q1,vU⟩:=h0
   obtain⟨k,⟨a0,FR,q0,yU,tC⟩,tF⟩:=CL (p:=fun k=>∃ a∈N,∃ q,fb g a q∧q.length=k) q1.length ⟨a1,yq,q1,vU,rfl⟩
   classical
   have GN:(N.find? fun a=>decide (∃ q,fb g a q∧q.length=k)).isSome:=by
    rw[List.find?_isSome];exact⟨a0,FR,by simpa using⟨q0,yU,tC⟩⟩
   obtain⟨a,ha⟩:=YG.1 GN
   have MG:=XN ha
   have hp:=X3 ha
   simp only[Zn]at hp
   obtain⟨q,hq,yV⟩:=hp
   obtain⟨l,hb,fU⟩:=Wz hg hN hl hq (fun m hm=>by rw[yV];exact tF _ ⟨a,MG,m,hm,rfl⟩)
   refine⟨a::l,.inr ⟨a,l,rfl,MG,hb,fun b BX ax m hm=> ?_,fun b BX m hm=>by rw[fU,yV];exact tF _ ⟨b,BX,m,hm,rfl⟩⟩⟩
   have h1:=tF _ ⟨b,BX,m,hm,rfl⟩
   rcases XH h1 with h2|h2
   ·exfalso
    rcases Fo jM ha b BX (by simpa using⟨m,hm,h2.symm⟩)with h3|h3
    ·rw[h3,rP]at ax;cases ax
    ·rw[Dm h3]at ax;cases ax
   ·omega
  ·exact⟨[],.inl ⟨rfl,fun a ha q hq=>h0 ⟨a,ha,q,hq⟩⟩⟩
 obtain⟨l,hl⟩:=ex
 rw[u9 hl];exact hl
end Go.Proofs.YtomhopcnkicknaaGreatDoor
