/- What is few; others; SameFeatures, SameCatalog of what is the same. -/
import Derived.Test.YthdeaajdmdmfnaaGreatDoorFa
import Derived.Test.YthdeaajdmdmfnaaGreatDoorPn
import Derived.Test.YthdeaajdmdmfnaaGreatDoorHa
import Derived.Test.YthdeaajdmdmfnaaGreatDoorAa
import Derived.Test.YthdeaajdmdmfnaaGreatDoorAt
set_option linter.unusedSimpArgs false
set_option linter.unusedVariables false
set_option maxRecDepth 100000
set_option maxHeartbeats 4000000
namespace Go.Proofs.YthdeaajdmdmfnaaGreatDoor
open Go.Sx Go.Proofs Go.Tb Go.RowKit
def BI(x:bh):Prop:=yI x.table∧wB x.feature∧x.name.size≤100
instance (x:bh):Decidable (BI x):=inferInstanceAs (Decidable (_∧_∧_))
theorem aba(x:bh)(ht:x.table.Fits)(hf:x.feature.Fits):Pure Tryz.prog 40 [.agg x.cells] (.v (.bool (decide (BI x)))):=by
 refine DI.p fun σ=> ?_
 repeat'(first|exact .nil|refine .k0 ?_|refine .k1 ?_|refine .k2 ?_|refine .k4 ?_|refine .k7 ?_|refine .r1 ?_ ?_|(refine .m1 ?_ ?_;intro b)|refine .an rfl (by intro aI;first|exact abg _ ht|exact abd _ hf) ?_ ?_|fail)
 all_goals(try simp only[BL]at *)
 all_goals
  refine Sx.Fin.intro Zs (bd ?_)
  unfold BI
  grind
def Lj(c:au):Prop:=c.tables.length≤20∧c.features.length≤20∧c.aD.length≤20∧c.past.length≤20∧(∀ t∈c.tables,yI t)∧∀ f∈c.features++c.aD++c.past,wB f
instance (c:au):Decidable (Lj c):=by unfold Lj;infer_instance
theorem aia(l:List aq):Pure Tryz.prog 39 [.sl false 18 (l.map aq.cells),.sl false 18 (l.map aq.cells)] (.v (.bool true)):=by
 refine PU.p fun σ=> ?_
 repeat'(first|exact .nil|refine .k0 ?_|refine .k1 ?_|refine .k2 ?_|refine .k6 ?_|refine .k7 ?_|refine .k9 ?_|(refine .cd ?_ ?_<;>(intro hc;skip))|refine .r1 ?_ ?_|(refine .m2 ?_ ?_;intro hlen)|fail)
 all_goals(try simp only[BL]at *)
 ·exfalso;simp at hc
 clear hc
 refine cr (fun n rg σ'=>∃ i:Nat,i≤l.length∧n=l.length-i∧σ'=σ∧rg=[(0,.sl false 18 (l.map aq.cells)),(1,.sl false 18 (l.map aq.cells)),(5,iv i)]) l.length rfl ⟨_,_,Zr,Zs,0,ZM _,rfl,rfl,rfl⟩ ?_
 rintro n _ _ ⟨i,hi,hn,rfl,rfl⟩
 repeat'(first|exact .nil|refine .k0 ?_|refine .k1 ?_|refine .k2 ?_|refine .k5 ?_|refine .k6 ?_|refine .k7 ?_|refine .k8 ?_|refine .k9 ?_|(refine .cd ?_ ?_<;>(intro hc;skip))|refine .r1 ?_ ?_|(refine .m2 ?_ ?_;intro hlen)|refine .t1 ?_ ?_ ?_|refine .an rfl (by intro aI;exact ah9 _) ?_ ?_|fail)
 try any_goals(exact Zo)
 all_goals(try simp only[BL]at *)
 all_goals first|(exfalso;simp at hc;done)|(refine⟨l.length-(i+1),by omega,_,_,Zr,Zs,i+1,by omega,rfl,rfl,by rw[cm (n:=l.length) (by omega) (by assumption)]⟩)|(show Sx.Fin _ _ _ _;(refine Sx.Fin.wk Zs ?_;repeat' first|exact .refl _|fail);done)|fail
theorem ah8(c:au):Pure Tryz.prog 13 [.agg c.cells,.agg c.cells] (.v (.bool true)):=by
 refine PF.p fun σ=> ?_
 repeat'(first|exact .nil|refine .k0 ?_|refine .k1 ?_|refine .k2 ?_|refine .k6 ?_|refine .k7 ?_|refine .k9 ?_|(refine .cd ?_ ?_<;>(intro hc;skip))|refine .r1 ?_ ?_|(refine .m1 ?_ ?_;intro b)|(refine .m2 ?_ ?_;intro hlen)|fail)
 all_goals(try simp only[BL]at *)
 ·exfalso;simp at hc
 clear hc
 rename_i b2 _
 refine cr (fun n rg σ'=>∃ i:Nat,i≤c.tables.length∧n=c.tables.length-i∧σ'=(3,b,aZ.cells c.cells)::(2,b2,aZ.cells c.cells)::σ∧rg=[(2,.lp 2 b2 0),(3,.lp 3 b 0),(5,iv i)]) c.tables.length rfl ⟨_,_,Zr,Zs,0,ZM _,rfl,rfl,rfl⟩ ?_
 rintro n _ _ ⟨i,hi,hn,rfl,rfl⟩
 repeat'(first|exact .nil|refine .k0 ?_|refine .k1 ?_|refine .k2 ?_|refine .k5 ?_|refine .k6 ?_|refine .k7 ?_|refine .k8 ?_|refine .k9 ?_|(refine .cd ?_ ?_<;>(intro hc;skip))|refine .r1 ?_ ?_|(refine .m2 ?_ ?_;intro hlen)|refine .t1 ?_ ?_ ?_|refine .an rfl (by intro aI;first|exact aic (c.tables.getD i default)|exact aia _) ?_ ?_|fail)
 try any_goals(exact Zo)
 all_goals(try simp only[BL]at *)
 all_goals first|(exfalso;simp at hc;done)|(refine⟨c.tables.length-(i+1),by omega,_,_,Zr,Zs,i+1,by omega,rfl,rfl,by rw[cm (n:=c.tables.length) (by omega) (by assumption)]⟩)|(show Sx.Fin _ _ _ _;(refine Sx.Fin.wk Zs ?_;repeat' first|exact .refl _|fail);done)|fail
def yO(e t:Nat)(rows:List (List AV))(x:AV)(τ:Store):Prop:=(rows=[]∧x= .v (.slice none 0 0)∧τ=[])∨∃ b u c,x= .own e t b u c rows∧τ=[(t,b,.tail u c)]
theorem yO.wk{e t:Nat}{rows:List (List AV)}{x:AV}{τ:Store}(h:yO e t rows x τ):Wk x (.sl false e rows):=by
 rcases h with⟨rfl,rfl,_⟩|⟨b,u,c,rfl,_⟩
 ·exact .nil
 ·exact .own _
theorem yO.sub{e t:Nat}{rows:List (List AV)}{x:AV}{τ σ:Store}(h:yO e t rows x τ):Sx.Sub σ (τ++σ):=by
 rcases h with⟨_,_,rfl⟩|⟨b,u,c,_,rfl⟩
 ·exact .refl _
 ·exact .cons (.refl _)
end Go.Proofs.YthdeaajdmdmfnaaGreatDoor
namespace Go.Proofs.YthdeaajdmdmfnaaGreatDoor
open Go.Sx Go.Proofs Go.Tb
theorem Ph{l:List aq}{n:af}(h:cW l n<0):∀ g∈l,g.name≠n:=fun g hg e=>by
 unfold cW at h
 rcases zw (fun x=>decide (x.name=n)) l 0 with⟨h1,h2⟩|⟨i,h3,h2,h1⟩
 ·have:=List.find?_eq_none.1 h1 g hg
  simp[e]at this
 ·rw[h2]at h;omega
theorem Pj{l:List aq}{k:Nat}{x:aq}(hk:k≤l.length)(hl:∀ g∈l,g.name≠x.name):cW (lj l k x) x.name=(k:Int):=by
 have h:∀ (a b:List aq) (o:Nat),(∀ g∈a,g.name≠x.name)→firstIdx (fun f=>decide (f.name=x.name)) (a++x::b) o=((o+a.length:Nat):Int):=by
  intro a
  induction a with
  |nil=>intro b o _;simp[firstIdx]
  |cons g a ih=>
   intro b o hg
   rw[ZG,firstIdx,Z7 (by simpa using hg g (by simp)),ih b (o+1) fun y hy=>hg y (by simp[hy])]
   simp;omega
 unfold cW lj
 rw[h _ _ 0 fun g hg=>hl g (YS hg),Zx,Yi hk,ZH]
theorem NM(l:List aq)(n:af):kR l n≤l.length:=List.findIdx_le_length
theorem L5{c:au}{x:bh}(h:(bR c x).2=0):oJ x∧(dw c x).2=0∧nM (dw c x).1=0∧bR c x=((dw c x).1,0):=by
 unfold bR at *
 split at h
 ·cases h
 rename_i h1
 split at h
 ·rename_i h2;exact absurd h h2
 rename_i h2
 split at h
 ·rename_i h3;exact absurd h h3
 rename_i h3
 refine⟨Yv.1 h1,Yv.1 h2,Yv.1 h3,?_⟩
 rw[Z7 h1,Z7 h2,Z7 h3]
structure fA where
 tick:Int
 kind:Int
 bZ:bh
deriving Inhabited
open Classical in
noncomputable def yr(c:au)(x:bh):au:=if(bR c x).2=0 then(bR c x).1 else c
open Classical in
noncomputable def gK(tick:Int)(c:au)(e:fA):au:=if e.kind≠3∨tick<e.tick then c else yr c e.bZ
noncomputable def gF(l:List fA)(tick:Int):au:=l.foldl (gK tick) dY
def j7(c:au)(n:af):Int:=(c.aD.getD (cW c.aD n).toNat default).version
open Classical in
noncomputable def pU(tick:Int)(n:af)(s:au×List Int)(e:fA):au×List Int:=
 if e.kind≠3∨tick<e.tick∨(bR s.1 e.bZ).2≠0 then s else((bR s.1 e.bZ).1,if e.bZ.kind=2∧e.bZ.feature.name=n then s.2++[j7 (bR s.1 e.bZ).1 n]else s.2)
noncomputable def wj(l:List fA)(tick:Int)(n:af):au×List Int:=l.foldl (pU tick n) (dY,[])
theorem aix(tick:Int)(n:af)(s:au×List Int)(e:fA):(pU tick n s e).1=gK tick s.1 e:=by
 unfold pU gK yr
 split<;>split<;>grind
theorem ajn(l:List fA)(tick:Int)(n:af):(wj l tick n).1=gF l tick:=by
 unfold wj gF
 suffices h:∀ (l:List fA) (s:au×List Int),(l.foldl (pU tick n) s).1=l.foldl (gK tick) s.1 from h l _
 intro l
 induction l with
 |nil=>intro s;rfl
 |cons e l ih=>intro s;rw[Yt,Yt,ih,aix]
theorem V4(a b:List fA)(tick:Int):gF (a++b) tick=b.foldl (gK tick) (gF a tick):=Xm ..
theorem V5(l:List fA)(tick t2:Int)(h:∀ e∈l,e.tick≤t2):gF (l.filter fun e=>decide (e.tick≤tick)) t2=gF l tick:=by
 unfold gF
 suffices hh:∀ (l:List fA) (c:au),(∀ e∈l,e.tick≤t2)→(l.filter fun e=>decide (e.tick≤tick)).foldl (gK t2) c=l.foldl (gK tick) c from hh l _ h
 intro l
 induction l with
 |nil=>intro c _;rfl
 |cons e l ih=>
  intro c hl
  have he:=hl e (by simp)
  have ih:=fun c=>ih c fun x hx=>hl x (by simp[hx])
  rw[List.filter_cons,Yt]
  by_cases ht:e.tick≤tick
  ·rw[ZV (by simpa using ht),Yt,ih]
   congr 1
   unfold gK
   by_cases hk:e.kind≠3
   ·rw[ZV (.inl hk),ZV (.inl hk)]
   ·rw[Z7 (by rintro(h|h);exact hk h;omega),Z7 (by rintro(h|h);exact hk h;omega)]
  ·rw[Z7 (by simpa using ht),ih]
   congr 1
   unfold gK
   rw[ZV (.inr (by omega))]
theorem WO{c:au}{x:bh}{f:aq}(hk:¬x.kind=2)(h:f∈(dw c x).1.all):f∈c.all:=by
 unfold au.all at *
 simp only[Zy]at *
 unfold dw at h
 split at h
 ·unfold ud at h;split at h<;>exact h
 split at h
 ·unfold uk at h
  split at h
  ·exact h
  rename_i h1
  have hd:=dp (xU (l:=c.aD) (n:=x.name) (by omega)).1
  split at h
  ·rename_i h2
   have hf:=dp (xU h2).1
   rcases h with(h|h)|h
   ·rcases nr h with h|h
    ·subst h;exact .inl (.inr hd)
    ·exact .inl (.inl (mH h))
   ·exact .inl (.inr (mH h))
   ·rcases nr h with h|h
    ·subst h;exact .inl (.inl hf)
    ·exact .inr h
  ·rcases h with(h|h)|h
   ·rcases nr h with h|h
    ·subst h;exact .inl (.inr hd)
    ·exact .inl (.inl h)
   ·exact .inl (.inr (mH h))
   ·exact .inr h
 split at h
 ·unfold vQ at h
  split at h
  ·exact h
  rename_i h1
  have hf:=dp (xU (l:=c.features) (n:=x.name) (by omega)).1
  split at h
  ·exact h
  rename_i h2
  have hp:=dp (xZ (l:=c.past) (n:=x.name) fun h=>h2 (.inl h)).1
  rcases h with(h|h)|h
  ·rcases nr h with h|h
   ·subst h;exact .inr hp
   ·exact .inl (.inl (mH h))
  ·rcases nr h with h|h
   ·subst h;exact .inl (.inl hf)
   ·exact .inl (.inr h)
  ·exact .inr (mH h)
 ·unfold uj at h
  split at h
  ·exact h
  rcases h with(h|h)|h
  ·exact .inl (.inl h)
  ·exact .inl (.inr (mH h))
  ·exact .inr h
theorem WQ{c:au}{x:bh}(h:(bR c x).2=0){f:aq}(hf:f∈(bR c x).1.all):f∈c.all∨(x.kind=2∧x.feature.name=f.name∧f.version=j7 (bR c x).1 f.name):=by
 obtain⟨_,h2,_,h4⟩:=L5 h
 rw[h4]at hf ⊢
 by_cases hk:x.kind=2
 ·have e:dw c x=lh c x.feature:=by unfold dw;rw[Z7 (by omega),ZV hk]
  rw[e]at hf h2 ⊢
  unfold lh at h2
  split at h2
  ·cases h2
  rename_i g1
  split at h2
  ·cases h2
  rename_i g2
  split at h2
  ·rename_i g3;exact absurd h2 g3
  rename_i g3
  split at h2
  ·cases h2
  rename_i v IL
  have hd:lh c x.feature=({c with aD:=gC c.aD (x.feature.gL v)},0):=by
   unfold lh
   rw[Z7 g1,Z7 g2,Z7 g3,IL]
  rw[hd]at hf ⊢
  unfold au.all at hf ⊢
  simp only[Zy]at hf ⊢
  rcases hf with(hf|hf)|hf
  ·exact .inl (.inl (.inl hf))
  ·rcases nr hf with hf|hf
   ·subst hf
    refine .inr ⟨hk,rfl,?_⟩
    have kv:∀ g∈c.aD,g.name≠x.feature.name:=Ph (by omega)
    have hk:=NM c.aD (x.feature.gL v).name
    have Is:cW (gC c.aD (x.feature.gL v)) x.feature.name=((kR c.aD (x.feature.gL v).name:Nat):Int):=Pj (x:=x.feature.gL v) hk kv
    show v=j7 _ x.feature.name
    unfold j7
    simp only[Is,XI]
    unfold gC lj
    rw[Z3,List.getElem?_append_right (by simp;omega)]
    rw[Zx,Yi hk,Nat.sub_self];rfl
   ·exact .inl (.inl (.inr hf))
  ·exact .inl (.inr hf)
 ·exact .inl (WO hk hf)
theorem ajq(l:List fA)(tick:Int)(n:af):∀ f∈(gF l tick).all,f.name=n→f.version∈(wj l tick n).2:=by
 rw[← ajn l tick n]
 unfold wj
 suffices h:∀ (l:List fA) (s:au×List Int),(∀ f∈s.1.all,f.name=n→f.version∈s.2)→∀ f∈(l.foldl (pU tick n) s).1.all,f.name=n→f.version∈(l.foldl (pU tick n) s).2 from h l _ (fun f hf=>nomatch hf)
 intro l
 induction l with
 |nil=>intro s h;exact h
 |cons e l ih=>
  intro s h
  rw[Yt]
  refine ih _ fun f hf hn=> ?_
  unfold pU at hf ⊢
  split at hf
  ·rename_i hc;rw[ZV hc];exact h f hf hn
  ·rename_i hc
   rw[Z7 hc]
   have h0:(bR s.1 e.bZ).2=0:=Yv.1 fun hh=>hc (.inr (.inr hh))
   rcases WQ h0 hf with h1|⟨h1,h2,h3⟩
   ·have:=h f h1 hn
    dsimp only
    split
    ·exact Zm _ this
    ·exact this
   ·dsimp only
    rw[ZV ⟨h1,h2.trans hn⟩,h3,hn]
    exact Y6 _ (by simp)
open Classical in
noncomputable def pb(tick:Int)(s:au×List (bh×au))(e:fA):au×List (bh×au):=
 if e.kind≠3∨tick<e.tick∨(bR s.1 e.bZ).2≠0 then s else((bR s.1 e.bZ).1,s.2++[(e.bZ,(bR s.1 e.bZ).1)])
noncomputable def eQ(tick:Int)(l:List fA):au×List (bh×au):=l.foldl (pb tick) (dY,[])
theorem aaG{tick:Int}{l:List fA}{i:Nat}(h:i<l.length):eQ tick (l.take (i+1))=pb tick (eQ tick (l.take i)) (l.getD i default):=by
 unfold eQ
 rw[ZC h,Xm,Z3,Z1 h];rfl
theorem aaI(tick:Int)(l:List fA):(eQ tick l).2.length≤l.length:=by
 have h:∀ (l:List fA) (s:au×List (bh×au)),(l.foldl (pb tick) s).2.length≤s.2.length+l.length:=by
  intro l
  induction l with
  |nil=>intro s;exact ZX _
  |cons e l ih=>
   intro s
   rw[Yt,ZS]
   refine ZI (ih _) ?_
   unfold pb
   split
   ·omega
   ·simp only[Z4,ZS,ZA];omega
 have:=h l (dY,[])
 unfold eQ
 simpa using this
theorem afJ{c d:au}{x:bh}(h:bR c x=(d,0))(hk:x.kind=2):0≤cW d.aD x.feature.name∧(cW d.aD x.feature.name).toNat<d.aD.length:=by
 have h0:(bR c x).2=0:=by rw[h]
 obtain⟨_,h2,_,h4⟩:=L5 h0
 have hd:d=(dw c x).1:=by rw[h]at h4;exact(Prod.mk.inj h4).1
 have e:dw c x=lh c x.feature:=by unfold dw;rw[Z7 (by omega),ZV hk]
 rw[e]at h2 hd
 unfold lh at h2
 split at h2
 ·cases h2
 rename_i g1
 split at h2
 ·cases h2
 rename_i g2
 split at h2
 ·rename_i g3;exact absurd h2 g3
 rename_i g3
 split at h2
 ·cases h2
 rename_i v IL
 have hp:lh c x.feature=({c with aD:=gC c.aD (x.feature.gL v)},0):=by
  unfold lh
  rw[Z7 g1,Z7 g2,Z7 g3,IL]
 rw[hp]at hd
 subst hd
 have kv:∀ g∈c.aD,g.name≠x.feature.name:=Ph (by omega)
 have hk:=NM c.aD (x.feature.gL v).name
 have Is:cW (gC c.aD (x.feature.gL v)) x.feature.name=((kR c.aD (x.feature.gL v).name:Nat):Int):=Pj (x:=x.feature.gL v) hk kv
 show 0≤cW (gC c.aD (x.feature.gL v)) _∧(cW (gC c.aD (x.feature.gL v)) _).toNat<(gC c.aD (x.feature.gL v)).length
 rw[Is]
 unfold gC
 rw[yc]
 omega
def vv(o:List (bh×au)):au:=(o.getLast?.map (·.2)).getD dY
theorem Qc(o:List (bh×au))(x:bh×au):vv (o++[x])=x.2:=by unfold vv;simp
def yE(n:af)(v:List Int)(e:bh×au):List Int:=if e.1.kind=2∧e.1.feature.name=n then v++[j7 e.2 n]else v
def jY(n:af)(o:List (bh×au)):List Int:=o.foldl (yE n) []
theorem KZ(n:af)(o:List (bh×au))(x:bh×au):jY n (o++[x])=yE n (jY n o) x:=by unfold jY;rw[Xm];rfl
theorem Gf(tick:Int)(n:af)(l:List fA):(eQ tick l).1=gF l tick∧vv (eQ tick l).2=gF l tick∧jY n (eQ tick l).2=(wj l tick n).2:=by
 have h:∀ (l:List fA) (s:au×List (bh×au)),vv s.2=s.1→(l.foldl (pb tick) s).1=l.foldl (gK tick) s.1∧vv (l.foldl (pb tick) s).2=l.foldl (gK tick) s.1∧jY n (l.foldl (pb tick) s).2=(l.foldl (pU tick n) (s.1,jY n s.2)).2:=by
  intro l
  induction l with
  |nil=>intro s h;exact⟨rfl,h,rfl⟩
  |cons e l ih=>
   intro s h
   simp only[Yt]
   by_cases hc:e.kind≠3∨tick<e.tick∨(bR s.1 e.bZ).2≠0
   ·have e1:pb tick s e=s:=ZV hc
    have e2:gK tick s.1 e=s.1:=by unfold gK yr;grind
    have e3:pU tick n (s.1,jY n s.2) e=(s.1,jY n s.2):=ZV hc
    rw[e1,e2,e3]
    exact ih s h
   ·have e1:pb tick s e=((bR s.1 e.bZ).1,s.2++[(e.bZ,(bR s.1 e.bZ).1)]):=Z7 hc
    have e2:gK tick s.1 e=(bR s.1 e.bZ).1:=by unfold gK yr;grind
    have e3:pU tick n (s.1,jY n s.2) e=((bR s.1 e.bZ).1,jY n (s.2++[(e.bZ,(bR s.1 e.bZ).1)])):=by
     rw[KZ];exact Z7 hc
    rw[e1,e2,e3]
    exact ih _ (Qc _ _)
 exact h l (dY,[]) rfl
end Go.Proofs.YthdeaajdmdmfnaaGreatDoor
namespace Go.Proofs.YthdeaajdmdmfnaaGreatDoor
open Go.Sx Go.Proofs Go.Tb Go.RowKit
theorem abh{f:aq}(h:wB f)(hf:f.Fits):FB f:=by
 obtain⟨_,_,h3⟩:=h
 have h4:=Gs f.body 80 (by decide)
 have h5:=h4.2.2 h3
 have:=hf.n
 exact⟨by omega,by omega,hf.b⟩
theorem VZ{n:Nat}{c:au}{x:bh}(h:CB n c)(hx:FB x.feature):CB (n+1) (bR c x).1:=by
 have hz:CB (n+1) dY:=⟨ZM _,ZM _,ZM _,ZM _,fun f hf=>nomatch hf⟩
 unfold bR
 split
 ·exact hz
 split
 ·exact hz
 split
 ·exact hz
 ·exact h.change hx
set_option maxHeartbeats 8000000
structure Li where
 src:af
 seq:Int
 kind:Int
 ref:Int
 table:af
 key:af
 event:Int
 fields:List gh
deriving Inhabited
structure Era where
 kind:Int
 dx:af
 key:af
 src:af
 seq:Int
deriving Inhabited
structure aM where
 no:Int
 tick:Int
 kind:Int
 fact:Li
 era:Era
 bZ:bh
deriving Inhabited
def aM.cells(e:aM):List AV:=[iv e.no,iv e.tick,iv e.kind,sv e.fact.src,iv e.fact.seq,iv e.fact.kind,iv e.fact.ref,sv e.fact.table,sv e.fact.key,iv e.fact.event,.sl false 3 (e.fact.fields.map gh.cells),iv e.era.kind,sv e.era.dx,sv e.era.key,sv e.era.src,iv e.era.seq]++e.bZ.cells
def aM.aG(e:aM):fA:=⟨e.tick,e.kind,e.bZ⟩
structure aM.Fits(e:aM):Prop where
 t:e.bZ.table.Fits
 f:e.bZ.feature.Fits
 k:e.tick≤9223372036854775807
 s:e.fact.src.size≤2 ^ 59∧e.fact.table.size≤2 ^ 59∧e.fact.key.size≤2 ^ 59∧e.era.dx.size≤2 ^ 59∧e.era.key.size≤2 ^ 59∧e.era.src.size≤2 ^ 59
 v:∀ v∈e.fact.fields,v.s.size≤2 ^ 59
def BJ(e:aM):Prop:=BI e.bZ∧e.fact.fields.length≤12∧e.fact.src.size+e.fact.table.size+e.fact.key.size≤200∧e.era.dx.size+e.era.key.size+e.era.src.size≤200∧∀ v∈e.fact.fields,v.s.size≤200
instance (e:aM):Decidable (BJ e):=inferInstanceAs (Decidable (_∧_∧_∧_∧_))
def yH(l:List aM):Prop:=l.length≤60∧∀ e∈l,BJ e
instance (l:List aM):Decidable (yH l):=inferInstanceAs (Decidable (_∧_))
theorem abb(l:List aM)(hf:∀ e∈l,e.Fits):Pure Tryz.prog 14 [.sl false 40 (l.map aM.cells)] (.v (.bool (decide (yH l)))):=by
 refine k14.p fun σ=> ?_
 repeat'(first|exact .nil|refine .k0 ?_|refine .k1 ?_|refine .k2 ?_|refine .k6 ?_|refine .r1 ?_ ?_|fail)
 all_goals(try simp only[BL]at *)
 refine cr (fun n rg σ'=>∃ i:Nat,i≤l.length∧i≤61∧n=l.length-i∧(∀ j,j<i→BJ (l.getD j default))∧σ'=σ∧rg=[(0,.sl false 40 (l.map aM.cells)),(3,iv i)]) l.length rfl ⟨_,_,Zr,Zs,0,ZM _,by omega,rfl,fun j hj=>absurd hj (by omega),rfl,rfl⟩ ?_
 rintro n _ σ ⟨i,hi,aj3,hn,hp,rfl,rfl⟩
 have vi:∀ a b c:Nat,a≤2 ^ 59→b≤2 ^ 59→c≤2 ^ 59→IntKind.i64.wrap (IntKind.i64.wrap ((a:Int)+b)+c)=((a+b+c:Nat):Int):=fun a b c h1 h2 h3=>by
  rw[dN (n:=(a:Int)+b) (by omega),dN (by omega)];omega
 repeat'(first|exact .nil|refine .k0 ?_|refine .k1 ?_|refine .k2 ?_|refine .k3 ?_|refine .k4 ?_|refine .k5 ?_|refine .k6 ?_|refine .k7 ?_|refine .k8 ?_|refine .k9 ?_|(refine .cd ?_ ?_<;>(intro hc;skip))|refine .r1 ?_ ?_|(refine .l1 ?_;intro b)|(refine .m2 ?_ ?_;intro hlen)|refine .t1 ?_ ?_ ?_|refine .an rfl (by intro aI;exact aba (l.getD i default).bZ (hf _ (dp (by(simp only[BL]at *;omega)))).t (hf _ (dp (by(simp only[BL]at *;omega)))).f) ?_ ?_|refine .r2 ?_ ?_|fail)
 try any_goals(exact Zo)
 all_goals(try simp only[BL]at *)
 ·rename_i bV
  refine Sx.Fin.intro Zs (bf ?_)
  rintro⟨_,h⟩
  have he:=h _ (dp (i:=i) (by omega))
  obtain⟨s1,s2,s3,s4,s5,s6⟩:=(hf _ (dp (i:=i) (by omega))).s
  rw[vi _ _ _ s1 s2 s3,vi _ _ _ s4 s5 s6]at hc
  obtain⟨e1,e2,e3,e4,_⟩:=he
  rcases hc with((hc|hc)|hc)|hc
  ·exact hc e1
  ·omega
  ·omega
  ·omega
 ·rename_i bV
  have po:=hf _ (dp (l:=l) (i:=i) (by omega))
  obtain⟨s1,s2,s3,s4,s5,s6⟩:=po.s
  rw[vi _ _ _ s1 s2 s3,vi _ _ _ s4 s5 s6]at hc
  obtain⟨⟨⟨c1,c2⟩,c3⟩,c4⟩:=hc
  clear vi
  refine cr (fun m rg σ'=>∃ k:Nat,k≤(l.getD i default).fact.fields.length∧m=(l.getD i default).fact.fields.length-k∧(∀ j,j<k→((l.getD i default).fact.fields.getD j default).s.size≤200)∧σ'=(4,b,aZ.cells [sv (l.getD i default).fact.src,iv (l.getD i default).fact.seq,iv (l.getD i default).fact.kind,iv (l.getD i default).fact.ref,sv (l.getD i default).fact.table,sv (l.getD i default).fact.key,iv (l.getD i default).fact.event,.sl false 3 ((l.getD i default).fact.fields.map gh.cells)])::σ∧rg=[(0,.sl false 40 (l.map aM.cells)),(3,iv i),(4,.lp 4 b 0),(5,iv k)]) (l.getD i default).fact.fields.length rfl ⟨_,_,Zr,Zs,0,ZM _,rfl,fun j hj=>absurd hj (by omega),rfl,rfl⟩ ?_
  rintro m _ _ ⟨k,hk,hm,hq,rfl,rfl⟩
  have hv:=fun h=>po.v ((l.getD i default).fact.fields.getD k default) (dp h)
  repeat'(first|exact .nil|refine .k0 ?_|refine .k1 ?_|refine .k2 ?_|refine .k6 ?_|refine .k7 ?_|refine .k8 ?_|refine .k9 ?_|(refine .cd ?_ ?_<;>(intro hc;skip))|refine .r1 ?_ ?_|(refine .m2 ?_ ?_;intro hlen)|refine .t1 ?_ ?_ ?_|fail)
  try any_goals(exact Zo)
  all_goals(try simp only[BL]at *)
  ·rename_i cG
   rw[Zh (show¬yH l from fun h=>by
    have:=(h.2 _ (dp (i:=i) (by omega))).2.2.2.2 _ (dp (i:=k) (by omega))
    omega)]
   exact Zw
  ·exact⟨(l.getD i default).fact.fields.length-(k+1),by omega,_,_,Zr,Zs,k+1,by omega,rfl,iM hq (by omega),rfl,by rw[cm (n:=(l.getD i default).fact.fields.length) (by omega) (by assumption)]⟩
  ·have qE:=nz (p:=fun v:gh=>v.s.size≤200) (l:=(l.getD i default).fact.fields) (fun j hj=>hq j (by omega))
   refine⟨l.length-(i+1),by omega,_,_,Zr,Zs,i+1,by omega,by omega,rfl,iM hp ⟨c1,by omega,by omega,by omega,qE⟩,rfl,by rw[cm (n:=l.length) (by omega) (by assumption)]⟩
 ·rw[show decide (yH l)=decide ((l.length:Int)≤60)from ?_]
  ·exact Zw
  ·refine decide_eq_decide.2 ⟨fun h=>by have:=h.1;omega,fun h=>⟨by omega,?_⟩⟩
   exact nz (p:=BJ) (l:=l) (fun j hj=>hp j (by rcases hc with hc|hc<;>omega))
theorem CB.le{n m:Nat}{c:au}(h:CB n c)(hm:n≤m):CB m c:=⟨ZI h.t hm,ZI h.f hm,ZI h.d hm,ZI h.p hm,h.b⟩
theorem aiw{n:Nat}{c:au}{e:fA}(tick:Int)(h:CB n c)(he:FB e.bZ.feature):CB (n+1) (gK tick c e):=by
 unfold gK yr
 split
 ·exact h.le (Nat.le_succ _)
 split
 ·exact VZ h he
 ·exact h.le (Nat.le_succ _)
theorem FQ(tick:Int)(l:List fA)(h:∀ e∈l,FB e.bZ.feature):CB l.length (gF l tick):=by
 have hh:∀ (l:List fA) (n:Nat) (c:au),CB n c→(∀ e∈l,FB e.bZ.feature)→CB (n+l.length) (l.foldl (gK tick) c):=by
  intro l
  induction l with
  |nil=>intro n c hc _;exact hc
  |cons e l ih=>
   intro n c hc hl
   have:=ih (n+1) _ (aiw tick hc (hl e (by simp))) fun x hx=>hl x (by simp[hx])
   rw[Yt,ZS,show n+(l.length+1)=n+1+l.length by omega]
   exact this
 have:=hh l 0 dY ⟨ZM _,ZM _,ZM _,ZM _,fun f hf=>nomatch hf⟩ h
 rwa [ZH]at this
theorem V6{l:List fA}{i:Nat}(tick:Int)(h:i<l.length):gF (l.take (i+1)) tick=gK tick (gF (l.take i) tick) (l.getD i default):=by
 rw[ZC h,V4,Z3,Z1 h];rfl
theorem MP{l:List aM}{i:Nat}(h:i<l.length):(l.map aM.aG).getD i default=(l.getD i default).aG:=by
 rw[Z3,X2,Z3,Z1 h];rfl
theorem aaH(tick:Int)(l:List aM)(h:∀ e∈l,FB e.bZ.feature)(hl:l.length≤900):CB 1000 (eQ tick (l.map aM.aG)).1:=by
 rw[(Gf tick eS (l.map aM.aG)).1]
 exact(FQ tick _ fun e he=>by obtain⟨x,hx,rfl⟩:=Zi.1 he;exact h x hx).le (by rw[ZW];omega)
def jH(tick:Int)(l:List aM):List aM:=l.filter fun e=>decide (e.tick≤tick)
theorem MN{tick:Int}{l:List aM}{i:Nat}(h:i<l.length):jH tick (l.take (i+1))=jH tick (l.take i)++(if(l.getD i default).tick≤tick then[l.getD i default]else[]):=by
 unfold jH
 rw[ZC h,Xt,Z3,Z1 h]
 congr 1
 by_cases e:l[i].tick≤tick<;>simp[e]
theorem aaF(l:List aM)(tick t2:Int)(h:∀ e∈l,e.tick≤t2):gF ((jH tick l).map aM.aG) t2=gF (l.map aM.aG) tick:=by
 rw[← V5 (l.map aM.aG) tick t2 fun e he=>by obtain⟨x,hx,rfl⟩:=Zi.1 he;exact h x hx]
 congr 1
 unfold jH
 rw[List.filter_map];rfl
end Go.Proofs.YthdeaajdmdmfnaaGreatDoor
