/- Changes: what Apply computes, in plain words; what ChangesValid says of it. -/
import Derived.Test.YtajimcniogfpcaaGreatDoorHi
import Derived.Test.YtajimcniogfpcaaGreatDoorAk
import Derived.Deep.RegionHeld3
import Derived.Test.YtajimcniogfpcaaGreatDoorHa
set_option linter.unusedSimpArgs false
set_option linter.unusedVariables false
namespace Go.Proofs.YtajimcniogfpcaaGreatDoor
open Go.Sx Go.Proofs Go.Tb
structure dE where
 kind:Int
 table:aI
 feature:aj
 name:ae
deriving Inhabited
def dE.cells(x:dE):List AV:=iv x.kind::(x.table.cells++x.feature.cells++[sv x.name])
abbrev eS:ae:=⟨#[]⟩
def vo(t:aI):Prop:=t.name=eS∧t.cN=eS∧t.fields=[]∧t.aQ=0
def vm(f:aj):Prop:=f.name=eS∧f.cN=eS∧f.version=0∧f.type.kind=0∧f.type.unit=[]∧f.type.of=eS∧f.body.kind=0∧f.body.op=eS∧f.body.name=eS∧f.body.table=eS∧(f.body.val.kind=0∧f.body.val.n=0∧f.body.val.s=eS)∧f.body.unit=[]∧f.body.param=0∧(f.body.win.kind=0∧f.body.win.size=0)∧f.body.args=[]
instance (t:aI):Decidable (vo t):=by unfold vo;infer_instance
instance {α:Type}(l:List α):Decidable (l=[]):=match l with
 |[]=>isTrue rfl
 |_::_=>isFalse (by simp)
instance (f:aj):Decidable (vm f):=by unfold vm;infer_instance
def qJ(x:dE):Prop:=if x.kind=1 then x.name=eS∧vm x.feature else if x.kind=2 then x.name=eS∧vo x.table else(x.kind=3∨x.kind=4∨x.kind=5)∧vo x.table∧vm x.feature
instance (x:dE):Decidable (qJ x):=by unfold qJ;infer_instance
def fb(l:List aj)(n:ae):Int:=firstIdx (fun f=>decide (f.name=n)) l 0
def oT(l:List aj)(n:ae):Nat:=l.findIdx fun g=>bL n g.name
def jT(l:List aI)(n:ae):Nat:=l.findIdx fun g=>bL n g.name
def ly{α:Type}(l:List α)(k:Nat)(x:α):List α:=l.take k++x::l.drop k
def nG{α:Type}(l:List α)(k:Nat):List α:=l.take k++l.drop (k+1)
def lz(l:List aj)(f:aj):List aj:=ly l (oT l f.name) f
def nr(n:ae):List aj→Int→Option Int
 |[],v=>some v
 |g::l,v=>if g.name=n∧1099511627776≤g.version then none else nr n l (if g.name=n then(if IntKind.i64.wrap (g.version+1)>v then IntKind.i64.wrap (g.version+1)else v)else v)
def gI(n:ae):List aj→Nat→Int→Int
 |[],_,o=>o
 |g::l,k,o=>gI n l (k+1) (if g.name=n then k else o)
def aj.tn(f:aj)(v:Int):aj:={f with version:=v}
def tO(c:az)(t:aI):az×Int:=if(iS c.tables t.name).isSome=true then(c,121)else({c with tables:=ly c.tables (jT c.tables t.name) t},0)
def vx(c:az)(f:aj):az×Int:=
 if f.version≠0 then(c,1)else if 0≤fb c.aT f.name then(c,121)else if kZ c f≠0 then(c,kZ c f)else
 match nr f.name (c.features++c.past) 1 with
 |none=>(c,2)
 |some v=>({c with aT:=lz c.aT (f.tn v)},0)
def ud(c:az)(n:ae):az×Int:=
 if fb c.aT n<0 then(c,4)else
 if 0≤fb c.features n then
  ({c with aT:=nG c.aT (fb c.aT n).toNat,past:=lz c.past (c.features.getD (fb c.features n).toNat default),features:=lz (nG c.features (fb c.features n).toNat) (c.aT.getD (fb c.aT n).toNat default)},0)
 else({c with aT:=nG c.aT (fb c.aT n).toNat,features:=lz c.features (c.aT.getD (fb c.aT n).toNat default)},0)
def vA(c:az)(n:ae):az×Int:=
 if fb c.features n<0 then(c,4)else if gI n c.past 0 (-1)<0∨0≤fb c.aT n then(c,140)else
 ({c with aT:=lz c.aT (c.features.getD (fb c.features n).toNat default),features:=lz (nG c.features (fb c.features n).toNat) (c.past.getD (gI n c.past 0 (-1)).toNat default),past:=nG c.past (gI n c.past 0 (-1)).toNat},0)
def ub(c:az)(n:ae):az×Int:=
 if fb c.aT n<0 then(c,4)else({c with aT:=nG c.aT (fb c.aT n).toNat},0)
def dJ(c:az)(x:dE):az×Int:=
 if x.kind=1 then tO c x.table else if x.kind=2 then vx c x.feature else if x.kind=3 then ud c x.name else if x.kind=4 then vA c x.name else ub c x.name
def gh:az:=⟨[],[],[],[]⟩
open Classical in
noncomputable def gg(c:az)(x:dE):az×Int:=
 if¬qJ x then(gh,1)else if(dJ c x).2≠0 then(gh,(dJ c x).2)else if jw (dJ c x).1≠0 then(gh,jw (dJ c x).1)else((dJ c x).1,0)
def dO(n:ae)(l:List aj):List aj:=l.filter fun f=>decide (f.name≠n)
theorem x6(n:ae)(a b:List aj):dO n (a++b)=dO n a++dO n b:=XQ ..
theorem Ai{n:ae}{l:List aj}{f:aj}(h:f.name=n)(k:Nat):dO n (ly l k f)=dO n l:=by
 unfold ly
 rw[x6,show f::l.drop k=[f]++l.drop k from rfl,x6,show dO n [f]=[] by simp[dO,h],Zl,← x6,Zh]
theorem Ah{n:ae}{l:List aj}{k:Nat}(h:k<l.length→(l.getD k default).name=n):dO n (nG l k)=dO n l:=by
 unfold nG
 by_cases hk:k<l.length
 ·have e:l.drop k=l.getD k default::l.drop (k+1):=by rw[getD_eq hk,Yc]
  conv=>rhs;rw[← Zh k l,x6,e,show l.getD k default::l.drop (k+1)=[l.getD k default]++l.drop (k+1)from rfl,x6,show dO n [l.getD k default]=[] by have:=h hk;simp only[dO,Yn,this];simp,Zl]
  rw[x6]
 ·rw[W6 (by omega),YX,Zq (by omega)]
theorem xw{l:List aj}{n:ae}(h:0≤fb l n):(fb l n).toNat<l.length∧(l.getD (fb l n).toNat default).name=n:=by
 unfold fb at *
 rcases Em (fun x=>decide (x.name=n)) l 0 with⟨h1,h2⟩|⟨i,h3,h2,h1⟩
 ·rw[h1]at *;omega
 ·rw[h2]at *
  rw[ZA,XF]
  exact⟨h3,by simpa using XJ h1⟩
theorem SD{n:ae}:∀ (l m:List aj) (o:Int),(0≤o→o.toNat<m.length∧(m.getD o.toNat default).name=n)→0≤gI n l m.length o→(gI n l m.length o).toNat<(m++l).length∧((m++l).getD (gI n l m.length o).toNat default).name=n
 |[],m,o,ho,h=>by rw[YX];exact ho h
 |g::l,m,o,ho,h=>by
  rw[gI]at *
  have:=SD (n:=n) l (m++[g]) (if g.name=n then m.length else o) (fun h0=>by
   split at h0
   ·rename_i e;rw[ZW e];simp[e]
   ·rename_i e
    rw[Z5 e]
    obtain⟨h1,h2⟩:=ho h0
    refine⟨by simp;omega,?_⟩
    rw[ZU,YH h1,← ZU];exact h2)
  rw[Z9,YZ,Zt]at this
  exact this h
theorem z6{n:ae}{l:List aj}(h:¬gI n l 0 (-1)<0):(gI n l 0 (-1)).toNat<l.length∧(l.getD (gI n l 0 (-1)).toNat default).name=n:=by
 have:=SD (n:=n) l [] (-1) (fun h=>absurd h (by decide)) (by simpa using h)
 simpa using this
def j3(x:dE):ae:=if x.kind=1 then eS else if x.kind=2 then x.feature.name else x.name
theorem aci{c:az}{x:dE}(h:(dJ c x).2=0):dO (j3 x) c.features=dO (j3 x) (dJ c x).1.features∧dO (j3 x) c.aT=dO (j3 x) (dJ c x).1.aT∧dO (j3 x) c.past=dO (j3 x) (dJ c x).1.past:=by
 unfold dJ j3 at *
 split
 ·rename_i e
  rw[ZW e]at h
  unfold tO at *
  split
  ·exact⟨rfl,rfl,rfl⟩
  ·exact⟨rfl,rfl,rfl⟩
 rename_i e1
 rw[Z5 e1]at h
 split
 ·rename_i e
  rw[ZW e]at h
  unfold vx at *
  split
  ·exact⟨rfl,rfl,rfl⟩
  split
  ·exact⟨rfl,rfl,rfl⟩
  split
  ·exact⟨rfl,rfl,rfl⟩
  split
  ·exact⟨rfl,rfl,rfl⟩
  ·rename_i v _;exact⟨rfl,(Ai (f:=x.feature.tn v) rfl _).symm,rfl⟩
 rename_i e2
 rw[Z5 e2]at h
 split
 ·rename_i e
  rw[ZW e]at h
  unfold ud at *
  split
  ·exact⟨rfl,rfl,rfl⟩
  rename_i h1
  have hd:=xw (l:=c.aT) (n:=x.name) (by omega)
  split
  ·rename_i h2
   have hf:=xw h2
   exact⟨by simp only[lz];rw[Ai hd.2,Ah fun _=>hf.2],(Ah fun _=>hd.2).symm,(Ai hf.2 _).symm⟩
  ·exact⟨(Ai hd.2 _).symm,(Ah fun _=>hd.2).symm,rfl⟩
 rename_i e3
 rw[Z5 e3]at h
 split
 ·rename_i e
  rw[ZW e]at h
  unfold vA at *
  split
  ·exact⟨rfl,rfl,rfl⟩
  rename_i h1
  have hf:=xw (l:=c.features) (n:=x.name) (by omega)
  split
  ·exact⟨rfl,rfl,rfl⟩
  rename_i h2
  have hp:=z6 (l:=c.past) (n:=x.name) fun h=>h2 (.inl h)
  exact⟨by simp only[lz];rw[Ai hp.2,Ah fun _=>hf.2],(Ai hf.2 _).symm,(Ah fun _=>hp.2).symm⟩
 ·unfold ub at *
  split
  ·exact⟨rfl,rfl,rfl⟩
  rename_i h1
  have hd:=xw (l:=c.aT) (n:=x.name) (by omega)
  exact⟨rfl,(Ah fun _=>hd.2).symm,rfl⟩
theorem akW{l:List aI}:∀ {p:Option ae},bK p l=0→(∀ q,p=some q→∀ t∈l,bL q t.name=true)∧bl (l.map aI.name):=by
 induction l with
 |nil=>exact fun _=>⟨fun _ _ _ h=>(by cases h),List.Pairwise.nil⟩
 |cons t l ih=>
  intro p h
  rw[bK]at h
  split at h
  ·rename_i h1;exact absurd h h1
  split at h
  ·cases h
  rename_i h2
  obtain⟨g1,g2⟩:=ih h
  have hq:∀ q,p=some q→bL q t.name=true:=fun q hq=>by
   subst hq
   unfold jG at h2
   cases e:bL q t.name with
   |true=>rfl
   |false=>
    exfalso
    cases e2:bL t.name q with
    |true=>exact h2 (.inl e2)
    |false=>exact h2 (.inr ⟨by decide,Ax e2 e⟩)
  refine⟨fun q jY g hg=> ?_,Yp.2 ⟨fun b hb=> ?_,g2⟩⟩
  ·rcases ZT.1 hg with rfl|hg
   ·exact hq q jY
   ·exact Aw (hq q jY) (g1 _ rfl g hg)
  ·obtain⟨g,hg,rfl⟩:=Y9.1 hb
   exact g1 _ rfl g hg
theorem ad1{l:List aI}(h:bl (l.map aI.name)){t:aI}(ht:t∈l):iS l t.name=some t:=by
 induction l with
 |nil=>cases ht
 |cons a l ih=>
  obtain⟨h1,h2⟩:=Yp.1 h
  unfold iS
  rw[List.find?_cons]
  rcases ZT.1 ht with rfl|ht
  ·simp
  ·have:¬a.name=t.name:=fun e=>by
    have:=h1 t.name (Y9.2 ⟨t,ht,rfl⟩)
    rw[e,pJ]at this;cases this
   rw[Zd this]
   exact ih h2 ht
theorem acf{C:az}(h:jw C=0):bK none C.tables=0:=by
 unfold jw at h
 split at h
 ·cases h
 split at h
 ·rename_i h1;exact absurd h h1
 ·rename_i h1;simpa using h1
theorem aiN{α:Type}{l:List α}{k:Nat}{x y:α}(h:y∈l):y∈ly l k x:=by
 unfold ly
 rw[← Zh k l,ZJ]at h
 rw[ZJ,ZT]
 rcases h with h|h
 ·exact .inl h
 ·exact .inr (.inr h)
theorem acj{c:az}{x:dE}{t:aI}(ht:t∈c.tables):t∈(dJ c x).1.tables:=by
 unfold dJ
 split
 ·unfold tO;split
  ·exact ht
  ·exact aiN ht
 split
 ·unfold vx
  repeat' split
  all_goals exact ht
 split
 ·unfold ud
  repeat' split
  all_goals exact ht
 split
 ·unfold vA
  repeat' split
  all_goals exact ht
 ·unfold ub
  repeat' split
  all_goals exact ht
structure Wm(c:az)(x:dE)(d:az):Prop where
 chk:jw d=0
 ord:(kN (deps d.features) (aL d.features)).length=d.features.length
 f:dO (j3 x) c.features=dO (j3 x) d.features
 dr:dO (j3 x) c.aT=dO (j3 x) d.aT
 p:dO (j3 x) c.past=dO (j3 x) d.past
 inf:∀ f∈d.features,nc d f.cN f.body=(f.type,0)
 tab:∀ t∈c.tables,iS d.tables t.name=some t
theorem abK(c:az)(x:dE):((gg c x).2≠0∧(gg c x).1=gh)∨((gg c x).2=0∧Wm c x (gg c x).1):=by
 unfold gg
 split
 ·exact .inl ⟨by decide,rfl⟩
 split
 ·rename_i h;exact .inl ⟨h,rfl⟩
 split
 ·rename_i h;exact .inl ⟨h,rfl⟩
 ·rename_i h1 h2 h3
  have h3:jw (dJ c x).1=0:=by simpa using h3
  have h2:(dJ c x).2=0:=by simpa using h2
  obtain⟨g1,g2,g3⟩:=acd h3
  obtain⟨o1,o2,o3⟩:=aci h2
  have hlen:(dJ c x).1.features.length≤32:=by
   unfold jw at h3
   split at h3
   ·cases h3
   ·omega
  have hn:=ahS g1
  have ES:=Oy (deps (dJ c x).1.features) (Eb _) (xR _) (fun x y h=>wK h) (by rw[hn,Z4];omega)
  exact .inr ⟨rfl,h3,by rw[(aih _ ES).2 g3,hn,Z4],o1,o2,o3,fun f hf=>Pq (g2 f hf),fun t ht=>ad1 (akW (acf h3)).2 (acj ht)⟩
end Go.Proofs.YtajimcniogfpcaaGreatDoor
set_option maxRecDepth 100000
set_option maxHeartbeats 4000000
namespace Go.Proofs.YtajimcniogfpcaaGreatDoor
open _root_.Go.Proofs.Tryz
open Go.Sx Go.Proofs Go.RowKit Go.Shelf
theorem aht{α:Type}{l:List α}(h:l.length=18):∃ v0 v1 v2 v3 v4 v5 v6 v7 v8 v9 v10 v11 v12 GJ GK GL GN GQ,l=[v0,v1,v2,v3,v4,v5,v6,v7,v8,v9,v10,v11,v12,GJ,GK,GL,GN,GQ]:=by
 match l,h with
 |[v0,v1,v2,v3,v4,v5,v6,v7,v8,v9,v10,v11,v12,GJ,GK,GL,GN,GQ],_=>exact⟨v0,v1,v2,v3,v4,v5,v6,v7,v8,v9,v10,v11,v12,GJ,GK,GL,GN,GQ,rfl⟩
theorem afd(l:List aj)(n:ae):(firstIdx (fun g:aj=>jx g.name n) l 0= -1∧oT l n=l.length)∨∃ k:Nat,¬((k:Int)<0)∧firstIdx (fun g:aj=>jx g.name n) l 0=(k:Int)∧oT l n=k:=by
 have:∀ (l:List aj) (k0:Nat),(firstIdx (fun g:aj=>jx g.name n) l k0= -1∧oT l n=l.length)∨∃ k:Nat,firstIdx (fun g:aj=>jx g.name n) l k0=((k0+k:Nat):Int)∧oT l n=k:=by
  intro l
  induction l with
  |nil=>exact fun _=> .inl ⟨rfl,rfl⟩
  |cons a l ih=>
   intro k0
   unfold firstIdx oT
   rw[List.findIdx_cons,P5]
   cases h:bL n a.name with
   |true=>exact .inr ⟨0,by simp,by simp⟩
   |false=>
    rcases ih (k0+1)with⟨h1,h2⟩|⟨k,h1,h2⟩
    ·exact .inl ⟨by simpa using h1,by unfold oT at h2;simp[h2]⟩
    ·exact .inr ⟨k+1,by rw[Z5 (by simp),h1];omega,by unfold oT at h2;simp[h2]⟩
 rcases this l 0 with h|⟨k,h1,h2⟩
 ·exact .inl h
 ·exact .inr ⟨k,by omega,by rw[h1,ZA],h2⟩
theorem PS{vs:List Value}(h:vs.length=18):List.foldl (fun(cs:Array Value) (x:Value×Nat)=>cs.setIfInBounds x.snd x.fst) #[.string ⟨#[]⟩,.string ⟨#[]⟩,.int .i64 0,.slice none 0 0,.string ⟨#[]⟩,.int .i64 0,.string ⟨#[]⟩,.string ⟨#[]⟩,.string ⟨#[]⟩,.int .i64 0,.int .i64 0,.string ⟨#[]⟩,.slice none 0 0,.int .i64 0,.int .i64 0,.int .i64 0,.slice none 0 0,.int .i64 0] vs.zipIdx=vs.toArray:=by
 obtain⟨v0,v1,v2,v3,v4,v5,v6,v7,v8,v9,v10,v11,v12,GJ,GK,GL,GN,GQ,rfl⟩:=aht h
 simp only[List.zipIdx_cons,List.zipIdx_nil,Xd,List.foldl_nil,Zz,Zi,Zg,ZA,Nat.reduceAdd]
theorem ait{M:Mem}{xs:List AV}{vs:List Value}{b:Nat}(h:RL M xs vs)(hc:∀ k (h:k<vs.length),M b k=some vs[k]):R M (.pc xs) (.pointer (some ⟨b,0,none⟩)):=by
 refine .pc _ _ 0 (fun k=>vs.getD k default) (fun k hk=> ?_) (fun k hk=> ?_)
 ·have cj:k<vs.length:=by rw[← h.1];exact hk
  rw[ZA,hc k cj,ZU,ZY cj];rfl
 ·have cj:k<vs.length:=by rw[← h.1];exact hk
  rw[ZU,ZY cj];exact h.2 k hk cj
theorem pE(l:List aj)(f:aj)(hn:l.length≤100000):Sx.Pure prog 112 [.sl false 18 (l.map aj.cells),.agg f.cells] (.sl false 18 ((lz l f).map aj.cells)):=by
 refine⟨fun σ M w0 w cs hI hR=> ?_⟩
 obtain⟨x1,cP,rfl,q1,cJ⟩:=hR.bg
 obtain⟨x2,rfl,q2⟩:=RL.cT cJ
 obtain⟨wI,rfl,cC⟩:=q2.np
 obtain⟨ad,cap,rfl, -⟩:=wC q1
 rw[Z4]at *
 obtain⟨M1,vs,ED,ji,gF,hcell⟩:=(hI.box (cs:=wI) 40 cC 3).freeze
 have gu:vs.length=18:=by rw[← gF.1];rfl
 obtain⟨G,hG⟩:∃ G,G=w.heap.size:=⟨_,rfl⟩
 rw[← hG]at hcell
 have hgt:oT l f.name≤l.length:=List.findIdx_le_length
 have HK:∀ {M':Mem} {σ':Store} {W:World},M1.le M'→Sx.Inv prog M' w0 σ' W→∀ j (hj:j<vs.length),W.cell? ⟨G,0+j,none⟩=some vs[j]:=fun hM bw j hj=>bw.cH _ _ _ (hM _ _ _ (by rw[ZA];exact hcell j hj))
 have HL:∀ W:World,(∀ j (hj:j<vs.length),W.cell? ⟨G,0+j,none⟩=some vs[j])→(Instr.loadAt 40 (.pointer (some ⟨G,0,none⟩))).run prog W= .ok (.agg vs.toArray) W:=fun W hW=>by
  obtain⟨h1,h2⟩:=Sx.A9 (P:=prog) (t:=40) (g:=true) (n:=18) (by kernel_rfl) W
  simp only[Instr.loadAt,Instr.sureAddr,loadVar,Sem.run_bind,Sem.run_pure,Result.andThen_ok,h1]
  simp only[Y2,Sem.run_bind,h2,Result.andThen_ok,Sx.Gc G 0 18 vs gu hW,Sem.run_pure]
 have HI:∀ i:Int,firstIdx (fun g:aj=>jx g.name f.name) l 0=i→Calls prog 156 #[.slice ad l.length cap,.func (.func 159) #[] #[.pointer (some ⟨G,0,none⟩)]] (w.alloc (.cells wI.toArray 40)) fun e W'=>∃ M2,e= .returned (.int .i64 i)∧M1.le M2∧Sx.Inv prog M2 w0 σ W':=fun i hi=>by
  refine((K6 159 f.cells (fun g=>jx g.name f.name) rfl (fun x=>ahN f x) l).sp σ M1 w0 _ [_,.func (.func 159) #[] #[.pointer (some ⟨G,0,none⟩)]] ji (RL.cons (q1.mono ED) (RL.cons (.cl _ _ _ [] [.pointer (some ⟨G,0,none⟩)] rfl rfl (fun i h=>absurd h (by simp)) (fun i h1 h2=>by
   obtain rfl:i=0:=by simpa using h1
   exact ait gF hcell)) RL.nil))).mono fun e W' ⟨M2,r,σ',h1,h2,h3,h4⟩=> ?_
  obtain⟨rfl,rfl⟩:=h4
  cases e<;>simp only[Sx.kq]at h3
  rw[hi]at h3
  exact⟨M2,by rw[h3.ay],h1,h2⟩
 have HC:∀ {M':Mem} {σ':Store} {W:World},M1.le M'→Sx.Inv prog M' w0 σ' W→Calls prog 161 #[.slice ad l.length cap] W fun e W'=>∃ M3 x τ v,e= .returned v∧M1.le M3∧Sx.Inv prog M3 w0 (τ++σ') W'∧R M3 x v∧oG 18 (l.map aj.cells) x τ:=fun hM bw=>by
  refine((Oq (l.map aj.cells) (Eg l) (Ei l) (by simpa using hn) _) _ w0 _ [_] bw (RL.cons (q1.mono (ED.trans hM)) RL.nil)).mono fun e W' ⟨M2,r,σ',h1,h2,h3,x,τ,h4,h5,h6⟩=> ?_
  subst h4 h5
  cases e<;>simp only[Sx.kq]at h3
  exact⟨M2,x,τ,_,rfl,hM.trans h1,h2,h3,h6⟩
 have HP:∀ {M':Mem} {τ:Store} {x:AV} {v:Value} {W:World} {g:Nat},M1.le M'→Sx.Inv prog M' w0 ((17,g,.cells f.cells)::(τ++σ)) W→R M' x v→oG 18 (l.map aj.cells) x τ→Calls prog 160 #[v,.int .i64 (oT l f.name:Int),.slice (some ⟨g,0,none⟩) 1 1] W fun e W'=>∃ M4 v,e= .returned v∧M1.le M4∧Sx.Inv prog M4 w0 σ W'∧R M4 (.sl true 18 ((lz l f).map aj.cells)) v:=fun hM bw hv hx=>by
  refine((afs (k:=oT l f.name) hx (Eg l) (Ei l) rfl rfl (by simpa using hgt) (by simpa using hn)) _ w0 _ [_,_,_] bw (RL.cons hv (RL.cons (.v _) (RL.cons (.ms _ _ _ _ _) RL.nil)))).mono fun e W' ⟨M2,r,σ',h1,h2,h3,h4,h5⟩=> ?_
  subst h4 h5
  cases e<;>simp only[Sx.kq]at h3
  refine⟨M2,_,rfl,hM.trans h1,h2,?_⟩
  unfold lz ly
  rw[Y7,ZE,XU,Xu]
  exact h3
 have Wx:=Hd.mk gF
 have HB:∀ {M':Mem} {σ':Store} {W:World},M1.le M'→Sx.Inv prog M' w0 σ' W→Sx.Inv prog M' w0 ((17,W.heap.size,.cells f.cells)::σ') (W.alloc (.cells vs.toArray 40)):=fun hM bw=>bw.box (cs:=vs) 40 (Wx.out.mono hM) 17
 clear gF hcell cC q2 cJ hR hI
 have hlen:l.length≤9223372036854775807:=by omega
 rcases afd l f.name with⟨h1,h2⟩|⟨k,h0,h1,h2⟩
 all_goals
  have Np:=HI _ h1
  rw[h2]at HP
  rw[hG]at Np HK HL
  clear HI h1 h2 hG
  go_enter func112,ntmps112
  go_wp2_with (first
   |(go_at_call 156;refine Np.mono ?_;rintro e W2 ⟨M2,rfl,oU,aeq⟩))
  have hD:=aeq.fG
  refine wp_region_held_drew (S:=fun W=>∀ j (hj:j<vs.length),W.cell? ⟨w.heap.size,0+j,none⟩=some vs[j]) (by kernel_rfl) (HK oU hD) (fun hH=> ?_)
  refine wpAnyH_take (i:=0) (oi:= .mk (some 13) (.move (.tmp 0)) _ _ _ _) (v:=_) rfl (by kernel_rfl) (by kernel_rfl) (by kernel_rfl) (fun _ _ _ h=>h) (Or.inl ⟨by rfl,fun w _=>by rfl⟩) hH ?_
  simp only[Act.put,Zz,Zi,Zg]
  refine wpAnyH_take (i:=2) (oi:= .mk (some 15) (.move (.tmp 5)) _ _ _ _) (v:=_) rfl (by kernel_rfl) (by kernel_rfl) (by kernel_rfl) (fun _ _ _ h=>h) (Or.inl ⟨by rfl,fun w _=>by rfl⟩) hH ?_
  simp only[Act.put,Zz,Zi,Zg]
  refine wpAnyH_take (i:=3) (oi:= .mk (some 16) (.load 40 (.tmp 3)) _ _ _ _) (v:= .agg vs.toArray) rfl (by kernel_rfl) (by kernel_rfl) (by kernel_rfl) (fun _ _ _ h=>h) (Or.inl ⟨by rfl,fun W h=>(by have:=HL W h;unfold execOp;simp only[Sem.run_bind];erw [this];simp only[Result.andThen_ok,Sem.run_pure])⟩) hH ?_
  simp only[Act.put,Zz,Zi,Zg]
  refine wpAnyH_ready (rs:=[1,4]) (by kernel_rfl) (by simp) (AllReadyH.cons (o:= .mk (some 14) (.call _) _ _ _ _) rfl (fun K hK=> ?_) (AllReadyH.cons (o:= .mk (some 17) (.buildSlice _ _ _) _ _ _ _) rfl (fun K hK=> ?_) AllReadyH.nil))
  ·go_simp
   go_at_call 161
   refine(HC oU hD).mono ?_
   rintro e W3 ⟨M3,x,τ,v,rfl,kD,cB,lZ,gG⟩
   go_wp2_with fail
   refine hK.out _ _ (HK kD cB) (fun hH=> ?_)
   clear hK K
   try simp only[Act.put,Zz,Zi,Zg]
   refine wpAnyH_ready (rs:=[4]) (by kernel_rfl) (by simp) (AllReadyH.cons (o:= .mk (some 17) (.buildSlice _ _ _) _ _ _ _) rfl (fun K hK=> ?_) AllReadyH.nil)
   go_simp
   rw[PS gu]
   refine hK.out _ _ (HK kD (HB kD cB)) (fun hH=> ?_)
   clear hK K
   try simp only[Act.put,Zz,Zi,Zg]
   refine wpAnyH_ready (rs:=[5]) (by kernel_rfl) (by simp) (AllReadyH.cons (o:= .mk (some 18) (.call _) _ _ _ _) rfl (fun K hK=> ?_) AllReadyH.nil)
   go_simp
   go_at_call 160
   refine(HP kD (HB kD cB) lZ gG).mono ?_
   rintro e W4 ⟨M4,v4,rfl,kE,dy,nW⟩
   go_wp2_with fail
   refine hK.out _ _ (HK kE dy) (fun hH=> ?_)
   clear hK K
   refine wpAnyH_ready (rs:=[6]) (by kernel_rfl) (by simp) (AllReadyH.cons (o:= .mk (some 4) (.assign _) _ _ _ _) rfl (fun K hK=> ?_) AllReadyH.nil)
   go_simp
   refine hK.out _ _ (HK kE dy) (fun hH=>wpAnyH_done (by kernel_rfl) ?_ _)
   clear hK K
   go_wp2
   go_ret
   exact⟨M4,.ret _,σ,ED.trans kE,dy,Wk.sl _ _ nW,rfl,rfl⟩
  ·go_simp
   rw[PS gu]
   refine hK.out _ _ (HK oU (HB oU hD)) (fun hH=> ?_)
   clear hK K
   try simp only[Act.put,Zz,Zi,Zg]
   refine wpAnyH_ready (rs:=[1]) (by kernel_rfl) (by simp) (AllReadyH.cons (o:= .mk (some 14) (.call _) _ _ _ _) rfl (fun K hK=> ?_) AllReadyH.nil)
   go_simp
   go_at_call 161
   refine(HC oU (HB oU hD)).mono ?_
   rintro e W3 ⟨M3,x,τ,v,rfl,kD,cB,lZ,gG⟩
   go_wp2_with fail
   refine hK.out _ _ (HK kD cB) (fun hH=> ?_)
   clear hK K
   refine wpAnyH_ready (rs:=[5]) (by kernel_rfl) (by simp) (AllReadyH.cons (o:= .mk (some 18) (.call _) _ _ _ _) rfl (fun K hK=> ?_) AllReadyH.nil)
   go_simp
   go_at_call 160
   refine(HP kD (cB.perm List.perm_middle) lZ gG).mono ?_
   rintro e W4 ⟨M4,v4,rfl,kE,dy,nW⟩
   go_wp2_with fail
   refine hK.out _ _ (HK kE dy) (fun hH=> ?_)
   clear hK K
   refine wpAnyH_ready (rs:=[6]) (by kernel_rfl) (by simp) (AllReadyH.cons (o:= .mk (some 4) (.assign _) _ _ _ _) rfl (fun K hK=> ?_) AllReadyH.nil)
   go_simp
   refine hK.out _ _ (HK kE dy) (fun hH=>wpAnyH_done (by kernel_rfl) ?_ _)
   clear hK K
   go_wp2
   go_ret
   exact⟨M4,.ret _,σ,ED.trans kE,dy,Wk.sl _ _ nW,rfl,rfl⟩
end Go.Proofs.YtajimcniogfpcaaGreatDoor
namespace Go.Proofs.YtajimcniogfpcaaGreatDoor
open _root_.Go.Proofs.Tryz
open Go.Sx Go.Proofs Go.Tb
theorem len_nil{α:Type}(l:List α):((l.length:Int)=0)=(l=[]):=by
 cases l with
 |nil=>simp
 |cons a l=>simp;omega
theorem Tk(t:aI):Pure prog 60 [.agg t.cells] (.v (.bool (decide (vo t)))):=by
 refine Si.p fun σ=> ?_
 repeat'(first|exact .nil|refine .k0 ?_|refine .k1 ?_|refine .k2 ?_|refine .k4 ?_|refine .k7 ?_|refine .r1 ?_ ?_|(refine .m1 ?_ ?_;intro b)|(refine .m2 ?_ ?_;intro hlen)|fail)
 all_goals(try simp only[BL]at *)
 refine Sx.Fin.intro Zs (bd ?_)
 simp only[vo,len_nil,Z6,ZN,and_assoc]
theorem Ti(f:aj):Pure prog 57 [.agg f.cells] (.v (.bool (decide (vm f)))):=by
 refine Sh.p fun σ=> ?_
 repeat'(first|exact .nil|refine .k0 ?_|refine .k1 ?_|refine .k2 ?_|refine .k4 ?_|refine .k7 ?_|refine .r1 ?_ ?_|(refine .l1 ?_;intro b)|(refine .m1 ?_ ?_;intro b)|(refine .m2 ?_ ?_;intro hlen)|fail)
 all_goals(try simp only[BL]at *)
 refine Sx.Fin.intro Zs (bd ?_)
 simp only[vm,len_nil,Z6,ZN,and_assoc]
theorem TR(x:dE):Pure prog 56 [.agg x.cells] (.v (.bool (decide (x.name=eS∧vm x.feature)))):=by
 refine k56.p fun σ=> ?_
 repeat'(first|exact .nil|refine .k0 ?_|refine .k1 ?_|refine .k2 ?_|refine .k4 ?_|refine .k7 ?_|refine .r1 ?_ ?_|(refine .m1 ?_ ?_;intro b)|refine .an rfl (by intro aB;exact Ti x.feature) ?_ ?_|fail)
 all_goals(try simp only[BL]at *)
 refine Sx.Fin.intro Zs (bd ?_)
 simp only[Z6,ZN]
theorem aiA(x:dE):Pure prog 59 [.agg x.cells] (.v (.bool (decide (x.name=eS∧vo x.table)))):=by
 refine k59.p fun σ=> ?_
 repeat'(first|exact .nil|refine .k0 ?_|refine .k1 ?_|refine .k2 ?_|refine .k4 ?_|refine .k7 ?_|refine .r1 ?_ ?_|(refine .m1 ?_ ?_;intro b)|refine .an rfl (by intro aB;first|exact Tk x.table|fail) ?_ ?_|fail)
 all_goals(try simp only[BL]at *)
 refine Sx.Fin.intro Zs (bd ?_)
 simp only[Z6,ZN]
theorem LX(x:dE):Pure prog 62 [.agg x.cells] (.v (.bool (decide (vo x.table∧vm x.feature)))):=by
 refine Sk.p fun σ=> ?_
 repeat'(first|exact .nil|refine .k0 ?_|refine .k1 ?_|refine .k2 ?_|refine .k4 ?_|refine .k7 ?_|refine .r1 ?_ ?_|(refine .m1 ?_ ?_;intro b)|refine .an rfl (by intro aB;first|exact Tk x.table|exact Ti x.feature) ?_ ?_|fail)
 all_goals(try simp only[BL]at *)
 refine Sx.Fin.intro Zs (bd ?_)
 simp only[Z6,ZN]
abbrev db(r:az×Int):AV:= .aP [.agg r.1.cells,iv r.2]
theorem Fb(l:List aj)(n:ae):firstIdx (fun x:aj=>decide (x.name=n)) l 0= -1∨∃ i:Nat,i<l.length∧firstIdx (fun x:aj=>decide (x.name=n)) l 0=(i:Int):=by
 rcases Em (fun x=>decide (x.name=n)) l 0 with⟨_,h⟩|⟨i,h1,h2,_⟩
 ·exact .inl h
 ·exact .inr ⟨i,h1,by rw[h2,ZA]⟩
theorem adf(c:az)(x:dE)(hn:c.aT.length≤100000):Pure prog 64 [.agg c.cells,.agg x.cells] (db (ub c x.name)):=by
 have hf:=zl c.aT x.name
 unfold ub fb
 rcases Fb c.aT x.name with h2|⟨i,h0,h2⟩
 all_goals
  rw[h2]at hf ⊢
  refine k64.p fun σ=> ?_
  repeat'(first|exact .nil|refine .k0 ?_|refine .k1 ?_|refine .k2 ?_|refine .k7 ?_|refine .k9 ?_|(refine .cd ?_ ?_<;>(intro hc;skip))|refine .r1 ?_ ?_|(refine .l1 ?_;intro b)|(refine .m1 ?_ ?_;intro b)|refine .an rfl (by intro aB;first|exact hf|exact ym _ _ h0 hn) ?_ ?_|fail)
  all_goals(try simp only[BL]at *)
 ·exact Zw
 ·exfalso;omega
 ·exfalso;omega
 ·rw[Z5 hc];exact Zw
theorem adh(c:az)(x:dE)(hn:c.aT.length≤100000)(hm:c.features.length≤100000)(hp:c.past.length≤100000):Pure prog 61 [.agg c.cells,.agg x.cells] (db (ud c x.name)):=by
 have hf:=zl c.aT x.name
 have hg:=zl c.features x.name
 unfold ud fb
 rcases Fb c.aT x.name with h2|⟨i,h0,h2⟩
 ·rw[h2]at hf ⊢
  refine Sj.p fun σ=> ?_
  repeat'(first|exact .nil|refine .k0 ?_|refine .k1 ?_|refine .k2 ?_|refine .k7 ?_|refine .k9 ?_|(refine .cd ?_ ?_<;>(intro hc;skip))|refine .r1 ?_ ?_|(refine .l1 ?_;intro b)|(refine .m1 ?_ ?_;intro b)|refine .t1 ?_ ?_ ?_|refine .an rfl (by intro aB;first|exact hf|fail) ?_ ?_|fail)
  try any_goals(exact Zo)
  all_goals(try simp only[BL]at *)
  ·exact Zw
  ·exfalso;omega
 have hd:∀ k,(c.features.take k++c.features.drop (k+1)).length≤100000:=fun k=>by simp;omega
 rcases Fb c.features x.name with h3|⟨k,g0,h3⟩
 all_goals
  rw[h2]at hf ⊢
  rw[h3]at hg ⊢
  refine Sj.p fun σ=> ?_
  repeat'(first|exact .nil|refine .k0 ?_|refine .k1 ?_|refine .k2 ?_|refine .k3 ?_|refine .k7 ?_|refine .k9 ?_|(refine .cd ?_ ?_<;>(intro hc;first|exact kt hc (by assumption)|skip))|refine .r1 ?_ ?_|(refine .l1 ?_;intro b)|(refine .m1 ?_ ?_;intro b)|refine .t1 ?_ ?_ ?_|refine .an rfl (by intro aB;first|exact hf|exact hg|exact ym _ _ h0 hn|exact ym _ _ g0 hm|exact pE _ _ hm|exact pE _ _ hp|exact pE _ _ (hd k)) ?_ ?_|fail)
  try any_goals(exact Zo)
  all_goals(try simp only[BL]at *)
 ·exfalso;omega
 ·rw[Z5 (by omega),Z5 (by decide)];exact Zw
 ·exfalso;omega
 ·rw[Z5 (by omega),ZW (by omega)];exact Zw
 ·exfalso;omega
theorem SE(n:ae)(g:aj):∀ (l:List aj) (k:Nat) (o:Int),gI n (l++[g]) k o=if g.name=n then((k+l.length:Nat):Int)else gI n l k o
 |[],k,o=>by simp[gI]
 |a::l,k,o=>by
  rw[ZH,gI,SE n g l,gI,Z8,show k+1+l.length=k+(l.length+1) by omega]
theorem ahe{n:ae}{l:List aj}{j:Nat}(h:j<l.length)(o:Int):gI n (l.take (j+1)) 0 o=if(l.getD j default).name=n then(j:Int)else gI n (l.take j) 0 o:=by
 rw[ZF h,SE,ZA,ZQ,X0 (Nat.le_of_lt h),getD_eq h]
abbrev tri(b2 b3 b4:Nat)(c:az)(x:dE)(σ:Store):Store:=(4,b4,.cells [bD,bD,bD,bD])::(3,b3,.cells x.cells)::(2,b2,.cells c.cells)::σ
theorem ai8(c:az)(x:dE)(hn:c.aT.length≤100000)(hm:c.features.length≤100000)(hp:c.past.length≤100000):Pure prog 63 [.agg c.cells,.agg x.cells] (db (vA c x.name)):=by
 have hf:=zl c.aT x.name
 have hg:=zl c.features x.name
 have hd:∀ k,(c.features.take k++c.features.drop (k+1)).length≤100000:=fun k=>by simp;omega
 unfold vA
 rcases Fb c.features x.name with h3|⟨i,g0,h3⟩
 ·rw[show fb c.features x.name= -1 from h3]
  rw[h3]at hg
  refine Sl.p fun σ=> ?_
  repeat'(first|exact .nil|refine .k0 ?_|refine .k1 ?_|refine .k2 ?_|refine .k6 ?_|refine .k7 ?_|refine .k9 ?_|(refine .cd ?_ ?_<;>(intro hc;skip))|refine .r1 ?_ ?_|(refine .l1 ?_;intro b)|(refine .m1 ?_ ?_;intro b)|(refine .m2 ?_ ?_;intro hlen)|refine .an rfl (by intro aB;first|exact hg|fail) ?_ ?_|fail)
  all_goals(try simp only[BL]at *)
  ·exact Zw
  ·exfalso;omega
 rw[show fb c.features x.name=i from h3]
 rw[h3]at hg
 have gn:¬(i:Int)<0:=by omega
 rw[Z5 gn]
 refine Sl.p fun σ=> ?_
 repeat'(first|exact .nil|refine .k0 ?_|refine .k1 ?_|refine .k2 ?_|refine .k6 ?_|refine .k7 ?_|refine .k9 ?_|(refine .cd ?_ ?_<;>(intro hc;skip))|refine .r1 ?_ ?_|(refine .l1 ?_;intro b)|(refine .m1 ?_ ?_;intro b)|(refine .m2 ?_ ?_;intro hlen)|refine .an rfl (by intro aB;first|exact hg|fail) ?_ ?_|fail)
 all_goals(try simp only[BL]at *)
 ·exfalso;omega
 rename_i b2 b3
 refine bO (fun m rg σ'=>∃ j:Nat,j≤c.past.length∧m=c.past.length-j∧σ'=tri b2 b3 b c x σ∧rg=[(2,.lp 2 b2 0),(3,.lp 3 b3 0),(4,.lp 4 b 0),(6,iv i),(7,iv (gI x.name (c.past.take j) 0 (-1))),(19,.sl false 18 (c.past.map aj.cells)),(20,iv c.past.length),(21,iv j)]) c.past.length rfl ⟨_,_,Zr,Zs,0,ZL _,rfl,rfl,rfl⟩ ?_
 rintro m _ _ ⟨j,hj,pd,rfl,rfl⟩
 rcases YO j c.past.length with ar|mR
 ·have hs:=ahe (n:=x.name) ar (-1)
  repeat'(first|exact .nil|refine .k0 ?_|refine .k1 ?_|refine .k2 ?_|refine .k3 ?_|refine .k4 ?_|refine .k6 ?_|refine .k7 ?_|refine .k8 ?_|refine .k9 ?_|(refine .cd ?_ ?_<;>(intro hc;skip))|refine .r1 ?_ ?_|(refine .l1 ?_;intro b)|refine .t1 ?_ ?_ ?_|refine .an rfl (by intro aB;first|exact hf|exact ym _ _ g0 hm|exact pE _ _ hn|exact pE _ _ (hd i)) ?_ ?_|fail)
  try any_goals(exact Zo)
  all_goals(try simp only[BL]at *)
  any_goals(exfalso;omega)
  ·rw[ZW hc]at hs
   exact⟨c.past.length-(j+1),by omega,_,_,Zr,Zs,j+1,by omega,rfl,rfl,by rw[hs,cu (n:=c.past.length) (by omega) (by assumption)]⟩
  ·rw[Z5 hc]at hs
   exact⟨c.past.length-(j+1),by omega,_,_,Zr,Zs,j+1,by omega,rfl,rfl,by rw[hs,cu (n:=c.past.length) (by omega) (by assumption)]⟩
 obtain rfl:j=c.past.length:=by omega
 rw[XA]
 rcases Int.lt_or_le (gI x.name c.past 0 (-1)) 0 with hold|hold
 ·generalize gI x.name c.past 0 (-1)=old at *
  rw[ZW (.inl hold)]
  repeat'(first|exact .nil|refine .k0 ?_|refine .k1 ?_|refine .k2 ?_|refine .k3 ?_|refine .k4 ?_|refine .k6 ?_|refine .k7 ?_|refine .k8 ?_|refine .k9 ?_|(refine .cd ?_ ?_<;>(intro hc;skip))|refine .r1 ?_ ?_|(refine .l1 ?_;intro b)|refine .t1 ?_ ?_ ?_|refine .an rfl (by intro aB;first|exact hf|exact ym _ _ g0 hm|exact pE _ _ hn|exact pE _ _ (hd i)) ?_ ?_|fail)
  try any_goals(exact Zo)
  all_goals(try simp only[BL]at *)
  any_goals(exfalso;first|omega|fail)
  exact Zw
 have p0:=(z6 (n:=x.name) (l:=c.past) (by omega)).1
 obtain⟨p,mT⟩:∃ p:Nat,gI x.name c.past 0 (-1)=p:=⟨(gI x.name c.past 0 (-1)).toNat,by omega⟩
 have p1:p<c.past.length:=by omega
 rw[mT]at *
 unfold fb
 repeat'(first|exact .nil|refine .k0 ?_|refine .k1 ?_|refine .k2 ?_|refine .k3 ?_|refine .k6 ?_|refine .k7 ?_|refine .k8 ?_|refine .k9 ?_|(refine .cd ?_ ?_<;>(intro hc;skip))|refine .r1 ?_ ?_|(refine .l1 ?_;intro b)|refine .t1 ?_ ?_ ?_|refine .an rfl (by intro aB;first|exact hf|exact ym _ _ g0 hm|exact ym _ _ p1 hp|exact pE _ _ hn|exact pE _ _ (hd i)) ?_ ?_|fail)
 try any_goals(exact Zo)
 all_goals(try simp only[BL]at *)
 any_goals omega
 ·rw[ZW (by grind)];exact Zw
 ·rw[Z5 (by grind)];exact Zw
theorem TV(n:ae)(g:aj):∀ (l:List aj) (v:Int),nr n (l++[g]) v=(nr n l v).bind fun v=>if g.name=n∧1099511627776≤g.version then none else some (if g.name=n then(if IntKind.i64.wrap (g.version+1)>v then IntKind.i64.wrap (g.version+1)else v)else v)
 |[],v=>rfl
 |a::l,v=>by
  rw[ZH,nr,nr]
  split
  ·rfl
  ·exact TV n g l _
theorem TU(n:ae):∀ (l m:List aj) (v:Int),nr n l v=none→nr n (l++m) v=none
 |[],m,v,h=>by cases h
 |a::l,m,v,h=>by
  rw[ZH,nr]
  rw[nr]at h
  split
  ·rfl
  ·rename_i hc;rw[Z5 hc]at h;exact TU n l m _ h
theorem aiE{n:ae}{l:List aj}{j:Nat}(h:j<l.length){v0 v:Int}(hv:nr n (l.take j) v0=some v):nr n (l.take (j+1)) v0=if(l.getD j default).name=n∧1099511627776≤(l.getD j default).version then none else some (if(l.getD j default).name=n then(if IntKind.i64.wrap ((l.getD j default).version+1)>v then IntKind.i64.wrap ((l.getD j default).version+1)else v)else v):=by
 rw[ZF h,TV,hv,getD_eq h];rfl
theorem aiF(hT:lI)(hO:lH)(c:az)(x:dE)(hs:x.feature.body.size≤100000)(hn:c.aT.length≤100000)(hm:c.features.length≤100000)(hp:c.past.length≤100000):Pure prog 58 [.agg c.cells,.agg x.cells] (db (vx c x.feature)):=by
 have hf:=zl c.aT x.feature.name
 have hF:=Py hT hO c x.feature hs
 have Qv:=acH c.features c.past hm hp
 unfold vx fb
 generalize kZ c x.feature=er at *
 obtain⟨L,hL⟩:∃ L,L=c.features++c.past:=⟨_,rfl⟩
 rw[← hL]at Qv ⊢
 have hLl:L.length≤200000:=by rw[hL,Z9];omega
 clear hL
 refine k58.p fun σ=> ?_
 repeat'(first|exact .nil|refine .k0 ?_|refine .k1 ?_|refine .k2 ?_|refine .k6 ?_|refine .k7 ?_|refine .k9 ?_|(refine .cd ?_ ?_<;>(intro hc;skip))|refine .r1 ?_ ?_|(refine .l1 ?_;intro b)|(refine .m1 ?_ ?_;intro b)|(refine .m2 ?_ ?_;intro hlen)|refine .an rfl (by intro aB;first|exact hf|exact hF|(refine(Qv).wk ?_;(repeat' first|exact .refl _|refine .cons ?_ ?_|exact .sl|fail);done)|fail) ?_ ?_|fail)
 all_goals(try simp only[BL]at *)
 ·rw[ZW hc];exact Zw
 ·rename_i cq
  rw[Z5 (by simpa using cq),ZW (by omega)];exact Zw
 ·rename_i cq c8
  rw[Z5 (by simpa using cq),Z5 (by omega),ZW hc];exact Zw
 any_goals(show _≤1000000;simp only[Z8,Z0];omega)
 rename_i b2 b3 b4 cq c8
 rw[Z5 (by simpa using cq),Z5 (by omega),Z5 (by simpa using hc)]
 refine bO (fun m rg σ'=>∃ (j:Nat) (v:Int),j≤L.length∧m=L.length-j∧nr x.feature.name (L.take j) 1=some v∧σ'=(6,b,.cells (x.feature.tn v).cells)::(4,b4,.cells [bD,bD,bD,bD])::(2,b2,.cells c.cells)::σ∧rg=[(2,.lp 2 b2 0),(4,.lp 4 b4 0),(6,.lp 6 b 0),(36,.sl false 18 (L.map aj.cells)),(37,iv L.length),(38,iv j)]) L.length rfl ⟨_,_,Zr,Zs,0,1,ZL _,rfl,rfl,rfl,rfl⟩ ?_
 clear cq c8 hc
 rintro m _ _ ⟨j,v,hj,pd,hv,rfl,rfl⟩
 rcases YO j L.length with ar|mR
 ·have hs:=aiE ar hv
  repeat'(first|exact .nil|refine .k0 ?_|refine .k1 ?_|refine .k2 ?_|refine .k4 ?_|refine .k6 ?_|refine .k7 ?_|refine .k8 ?_|refine .k9 ?_|(refine .cd ?_ ?_<;>(intro hc;skip))|refine .r1 ?_ ?_|(refine .l1 ?_;intro b)|refine .t1 ?_ ?_ ?_|refine .an rfl (by intro aB;exact pE _ (x.feature.tn v) hn) ?_ ?_|fail)
  try any_goals(exact Zo)
  all_goals(try simp only[BL]at *)
  any_goals(exfalso;omega)
  ·have h:=TU _ _ (L.drop (j+1)) _ (hs.trans (ZW hc))
   rw[Zh]at h
   rw[h]
   exact Zw
  ·have h:=hs.trans (Z5 (by grind [aj.tn]))
   rw[ZW (show(L.getD j default).name=x.feature.name from hc)]at h
   exact⟨L.length-(j+1),by omega,_,_,Zr,Zs,j+1,_,by omega,rfl,h,rfl,by rw[cu (n:=L.length) (by omega) (by assumption)]⟩
  ·have h:=hs.trans (Z5 (by grind [aj.tn]))
   rw[Z5 (show¬(L.getD j default).name=x.feature.name from hc)]at h
   exact⟨L.length-(j+1),by omega,_,_,Zr,Zs,j+1,_,by omega,rfl,h,rfl,by rw[cu (n:=L.length) (by omega) (by assumption)]⟩
 obtain rfl:j=L.length:=by omega
 rw[XA]at hv
 rw[hv]
 repeat'(first|exact .nil|refine .k0 ?_|refine .k1 ?_|refine .k2 ?_|refine .k4 ?_|refine .k6 ?_|refine .k7 ?_|refine .k8 ?_|refine .k9 ?_|(refine .cd ?_ ?_<;>(intro hc;skip))|refine .r1 ?_ ?_|(refine .l1 ?_;intro b)|refine .t1 ?_ ?_ ?_|refine .an rfl (by intro aB;exact pE _ (x.feature.tn v) hn) ?_ ?_|fail)
 try any_goals(exact Zo)
 all_goals(try simp only[BL]at *)
 any_goals(exfalso;omega)
 exact Zw
end Go.Proofs.YtajimcniogfpcaaGreatDoor
