/- Changes: what Apply computes, in plain words; what ChangesValid says of it. -/
import Derived.Test.YthdeaajdmdmfnaaGreatDoorHi
import Derived.Test.YthdeaajdmdmfnaaGreatDoorHa
import Derived.Test.YthdeaajdmdmfnaaGreatDoorFa
import Derived.Test.YthdeaajdmdmfnaaGreatDoorAk
import Derived.Deep.RegionHeld3
set_option linter.unusedSimpArgs false
set_option linter.unusedVariables false
namespace Go.Proofs.YthdeaajdmdmfnaaGreatDoor
open Go.Sx Go.Proofs Go.Tb
structure bh where
 kind:Int
 table:bj
 feature:aq
 name:af
deriving Inhabited
def bh.cells(x:bh):List AV:=iv x.kind::(x.table.cells++x.feature.cells++[sv x.name])
abbrev eS:af:=⟨#[]⟩
def tj(t:bj):Prop:=t.name=eS∧t.dx=eS∧t.fields=[]∧t.az=0
def tf(f:aq):Prop:=f.name=eS∧f.dx=eS∧f.version=0∧f.type.kind=0∧f.type.unit=[]∧f.type.of=eS∧f.body.kind=0∧f.body.op=eS∧f.body.name=eS∧f.body.table=eS∧(f.body.val.kind=0∧f.body.val.n=0∧f.body.val.s=eS)∧f.body.unit=[]∧f.body.param=0∧(f.body.win.kind=0∧f.body.win.size=0)∧f.body.args=[]
instance (t:bj):Decidable (tj t):=by unfold tj;infer_instance
instance {α:Type}(l:List α):Decidable (l=[]):=match l with
 |[]=>isTrue rfl
 |_::_=>isFalse (by simp)
instance (f:aq):Decidable (tf f):=by unfold tf;infer_instance
def oJ(x:bh):Prop:=if x.kind=1 then x.name=eS∧tf x.feature else if x.kind=2 then x.name=eS∧tj x.table else(x.kind=3∨x.kind=4∨x.kind=5)∧tj x.table∧tf x.feature
instance (x:bh):Decidable (oJ x):=by unfold oJ;infer_instance
def cW(l:List aq)(n:af):Int:=firstIdx (fun f=>decide (f.name=n)) l 0
def kR(l:List aq)(n:af):Nat:=l.findIdx fun g=>dU n g.name
def jk(l:List bj)(n:af):Nat:=l.findIdx fun g=>dU n g.name
def lj{α:Type}(l:List α)(k:Nat)(x:α):List α:=l.take k++x::l.drop k
def o8{α:Type}(l:List α)(k:Nat):List α:=l.take k++l.drop (k+1)
def gC(l:List aq)(f:aq):List aq:=lj l (kR l f.name) f
def mq(n:af):List aq→Int→Option Int
 |[],v=>some v
 |g::l,v=>if g.name=n∧1099511627776≤g.version then none else mq n l (if g.name=n then(if IntKind.i64.wrap (g.version+1)>v then IntKind.i64.wrap (g.version+1)else v)else v)
def fR(n:af):List aq→Nat→Int→Int
 |[],_,o=>o
 |g::l,k,o=>fR n l (k+1) (if g.name=n then k else o)
def aq.gL(f:aq)(v:Int):aq:={f with version:=v}
def ud(c:au)(t:bj):au×Int:=if(xb c.tables t.name).isSome=true then(c,121)else({c with tables:=lj c.tables (jk c.tables t.name) t},0)
def lh(c:au)(f:aq):au×Int:=
 if f.version≠0 then(c,1)else if 0≤cW c.aD f.name then(c,121)else if pe c f≠0 then(c,pe c f)else
 match mq f.name (c.features++c.past) 1 with
 |none=>(c,2)
 |some v=>({c with aD:=gC c.aD (f.gL v)},0)
def uk(c:au)(n:af):au×Int:=
 if cW c.aD n<0 then(c,4)else
 if 0≤cW c.features n then
  ({c with aD:=o8 c.aD (cW c.aD n).toNat,past:=gC c.past (c.features.getD (cW c.features n).toNat default),features:=gC (o8 c.features (cW c.features n).toNat) (c.aD.getD (cW c.aD n).toNat default)},0)
 else({c with aD:=o8 c.aD (cW c.aD n).toNat,features:=gC c.features (c.aD.getD (cW c.aD n).toNat default)},0)
def vQ(c:au)(n:af):au×Int:=
 if cW c.features n<0 then(c,4)else if fR n c.past 0 (-1)<0∨0≤cW c.aD n then(c,140)else
 ({c with aD:=gC c.aD (c.features.getD (cW c.features n).toNat default),features:=gC (o8 c.features (cW c.features n).toNat) (c.past.getD (fR n c.past 0 (-1)).toNat default),past:=o8 c.past (fR n c.past 0 (-1)).toNat},0)
def uj(c:au)(n:af):au×Int:=
 if cW c.aD n<0 then(c,4)else({c with aD:=o8 c.aD (cW c.aD n).toNat},0)
def dw(c:au)(x:bh):au×Int:=
 if x.kind=1 then ud c x.table else if x.kind=2 then lh c x.feature else if x.kind=3 then uk c x.name else if x.kind=4 then vQ c x.name else uj c x.name
def dY:au:=⟨[],[],[],[]⟩
open Classical in
noncomputable def bR(c:au)(x:bh):au×Int:=
 if¬oJ x then(dY,1)else if(dw c x).2≠0 then(dY,(dw c x).2)else if nM (dw c x).1≠0 then(dY,nM (dw c x).1)else((dw c x).1,0)
def nk(n:af)(l:List aq):List aq:=l.filter fun f=>decide (f.name≠n)
theorem xU{l:List aq}{n:af}(h:0≤cW l n):(cW l n).toNat<l.length∧(l.getD (cW l n).toNat default).name=n:=by
 unfold cW at *
 rcases zw (fun x=>decide (x.name=n)) l 0 with⟨h1,h2⟩|⟨i,h3,h2,h1⟩
 ·rw[h1]at *;omega
 ·rw[h2]at *
  rw[ZH,XI]
  exact⟨h3,by simpa using List.find?_some h1⟩
theorem Qd{n:af}:∀ (l m:List aq) (o:Int),(0≤o→o.toNat<m.length∧(m.getD o.toNat default).name=n)→0≤fR n l m.length o→(fR n l m.length o).toNat<(m++l).length∧((m++l).getD (fR n l m.length o).toNat default).name=n
 |[],m,o,ho,h=>by rw[YP];exact ho h
 |g::l,m,o,ho,h=>by
  rw[fR]at *
  have:=Qd (n:=n) l (m++[g]) (if g.name=n then m.length else o) (fun h0=>by
   split at h0
   ·rename_i e;rw[ZV e];simp[e]
   ·rename_i e
    rw[Z7 e]
    obtain⟨h1,h2⟩:=ho h0
    refine⟨by simp;omega,?_⟩
    rw[Z3,YL h1,← Z3];exact h2)
  rw[Z4,YB,Zb]at this
  exact this h
theorem xZ{n:af}{l:List aq}(h:¬fR n l 0 (-1)<0):(fR n l 0 (-1)).toNat<l.length∧(l.getD (fR n l 0 (-1)).toNat default).name=n:=by
 have:=Qd (n:=n) l [] (-1) (fun h=>absurd h (by decide)) (by simpa using h)
 simpa using this
end Go.Proofs.YthdeaajdmdmfnaaGreatDoor
set_option maxRecDepth 100000
set_option maxHeartbeats 4000000
namespace Go.Proofs.YthdeaajdmdmfnaaGreatDoor
open _root_.Go.Proofs.Tryz
open Go.Sx Go.Proofs Go.RowKit Go.Shelf
theorem aeM{α:Type}{l:List α}(h:l.length=18):∃ v0 v1 v2 v3 v4 v5 v6 v7 v8 v9 v10 v11 v12 ER ES ET EU EV,l=[v0,v1,v2,v3,v4,v5,v6,v7,v8,v9,v10,v11,v12,ER,ES,ET,EU,EV]:=by
 match l,h with
 |[v0,v1,v2,v3,v4,v5,v6,v7,v8,v9,v10,v11,v12,ER,ES,ET,EU,EV],_=>exact⟨v0,v1,v2,v3,v4,v5,v6,v7,v8,v9,v10,v11,v12,ER,ES,ET,EU,EV,rfl⟩
theorem acL(l:List aq)(n:af):(firstIdx (fun g:aq=>iO g.name n) l 0= -1∧kR l n=l.length)∨∃ k:Nat,¬((k:Int)<0)∧firstIdx (fun g:aq=>iO g.name n) l 0=(k:Int)∧kR l n=k:=by
 have:∀ (l:List aq) (k0:Nat),(firstIdx (fun g:aq=>iO g.name n) l k0= -1∧kR l n=l.length)∨∃ k:Nat,firstIdx (fun g:aq=>iO g.name n) l k0=((k0+k:Nat):Int)∧kR l n=k:=by
  intro l
  induction l with
  |nil=>exact fun _=> .inl ⟨rfl,rfl⟩
  |cons a l ih=>
   intro k0
   unfold firstIdx kR
   rw[List.findIdx_cons,NL]
   cases h:dU n a.name with
   |true=>exact .inr ⟨0,by simp,by simp⟩
   |false=>
    rcases ih (k0+1)with⟨h1,h2⟩|⟨k,h1,h2⟩
    ·exact .inl ⟨by simpa using h1,by unfold kR at h2;simp[h2]⟩
    ·exact .inr ⟨k+1,by rw[Z7 (by simp),h1];omega,by unfold kR at h2;simp[h2]⟩
 rcases this l 0 with h|⟨k,h1,h2⟩
 ·exact .inl h
 ·exact .inr ⟨k,by omega,by rw[h1,ZH],h2⟩
theorem Nz{vs:List Value}(h:vs.length=18):List.foldl (fun(cs:Array Value) (x:Value×Nat)=>cs.setIfInBounds x.snd x.fst) #[.string ⟨#[]⟩,.string ⟨#[]⟩,.int .i64 0,.slice none 0 0,.string ⟨#[]⟩,.int .i64 0,.string ⟨#[]⟩,.string ⟨#[]⟩,.string ⟨#[]⟩,.int .i64 0,.int .i64 0,.string ⟨#[]⟩,.slice none 0 0,.int .i64 0,.int .i64 0,.int .i64 0,.slice none 0 0,.int .i64 0] vs.zipIdx=vs.toArray:=by
 obtain⟨v0,v1,v2,v3,v4,v5,v6,v7,v8,v9,v10,v11,v12,ER,ES,ET,EU,EV,rfl⟩:=aeM h
 simp only[List.zipIdx_cons,List.zipIdx_nil,Yt,List.foldl_nil,Z5,ZP,ZO,ZH,Nat.reduceAdd]
theorem afx{M:Mem}{xs:List AV}{vs:List Value}{b:Nat}(h:RL M xs vs)(hc:∀ k (h:k<vs.length),M b k=some vs[k]):R M (.pc xs) (.pointer (some ⟨b,0,none⟩)):=by
 refine .pc _ _ 0 (fun k=>vs.getD k default) (fun k hk=> ?_) (fun k hk=> ?_)
 ·have di:k<vs.length:=by rw[← h.1];exact hk
  rw[ZH,hc k di,Z3,Z1 di];rfl
 ·have di:k<vs.length:=by rw[← h.1];exact hk
  rw[Z3,Z1 di];exact h.2 k hk di
theorem oK(l:List aq)(f:aq)(hn:l.length≤100000):Sx.Pure prog 120 [.sl false 18 (l.map aq.cells),.agg f.cells] (.sl false 18 ((gC l f).map aq.cells)):=by
 refine⟨fun σ M w0 w cs hI hR=> ?_⟩
 obtain⟨x1,cq,rfl,q1,bY⟩:=hR.aX
 obtain⟨x2,rfl,q2⟩:=RL.cJ bY
 obtain⟨wX,rfl,bK⟩:=q2.oG
 obtain⟨ad,cap,rfl, -⟩:=mE q1
 rw[ZW]at *
 obtain⟨M1,vs,CW,fY,fH,hcell⟩:=(hI.box (cs:=wX) 37 bK 3).freeze
 have fL:vs.length=18:=by rw[← fH.1];rfl
 obtain⟨G,hG⟩:∃ G,G=w.heap.size:=⟨_,rfl⟩
 rw[← hG]at hcell
 have hgt:kR l f.name≤l.length:=List.findIdx_le_length
 have HK:∀ {M':Mem} {σ':Store} {W:World},M1.le M'→Sx.Inv prog M' w0 σ' W→∀ j (hj:j<vs.length),W.cell? ⟨G,0+j,none⟩=some vs[j]:=fun hM bp j hj=>bp.bL _ _ _ (hM _ _ _ (by rw[ZH];exact hcell j hj))
 have HL:∀ W:World,(∀ j (hj:j<vs.length),W.cell? ⟨G,0+j,none⟩=some vs[j])→(Instr.loadAt 37 (.pointer (some ⟨G,0,none⟩))).run prog W= .ok (.agg vs.toArray) W:=fun W hW=>by
  obtain⟨h1,h2⟩:=Sx.wM (P:=prog) (t:=37) (g:=true) (n:=18) (by kernel_rfl) W
  simp only[Instr.loadAt,Instr.sureAddr,loadVar,Sem.run_bind,Sem.run_pure,Result.andThen_ok,h1]
  simp only[YX,Sem.run_bind,h2,Result.andThen_ok,Sx.Be G 0 18 vs fL hW,Sem.run_pure]
 have HI:∀ i:Int,firstIdx (fun g:aq=>iO g.name f.name) l 0=i→Calls prog 78 #[.slice ad l.length cap,.func (.func 164) #[] #[.pointer (some ⟨G,0,none⟩)]] (w.alloc (.cells wX.toArray 37)) fun e W'=>∃ M2,e= .returned (.int .i64 i)∧M1.le M2∧Sx.Inv prog M2 w0 σ W':=fun i hi=>by
  refine((Ji 164 f.cells (fun g=>iO g.name f.name) rfl (fun x=>ae6 f x) l).sp σ M1 w0 _ [_,.func (.func 164) #[] #[.pointer (some ⟨G,0,none⟩)]] fY (RL.cons (q1.mono CW) (RL.cons (.cl _ _ _ [] [.pointer (some ⟨G,0,none⟩)] rfl rfl (fun i h=>absurd h (by simp)) (fun i h1 h2=>by
   obtain rfl:i=0:=by simpa using h1
   exact afx fH hcell)) RL.nil))).mono fun e W' ⟨M2,r,σ',h1,h2,h3,h4⟩=> ?_
  obtain⟨rfl,rfl⟩:=h4
  cases e<;>simp only[Sx.iH]at h3
  rw[hi]at h3
  exact⟨M2,by rw[h3.ay],h1,h2⟩
 have HC:∀ {M':Mem} {σ':Store} {W:World},M1.le M'→Sx.Inv prog M' w0 σ' W→Calls prog 166 #[.slice ad l.length cap] W fun e W'=>∃ M3 x τ v,e= .returned v∧M1.le M3∧Sx.Inv prog M3 w0 (τ++σ') W'∧R M3 x v∧nF 18 (l.map aq.cells) x τ:=fun hM bp=>by
  refine((Mu (l.map aq.cells) (Cv l) (Cw l) (by simpa using hn) _) _ w0 _ [_] bp (RL.cons (q1.mono (CW.trans hM)) RL.nil)).mono fun e W' ⟨M2,r,σ',h1,h2,h3,x,τ,h4,h5,h6⟩=> ?_
  subst h4 h5
  cases e<;>simp only[Sx.iH]at h3
  exact⟨M2,x,τ,_,rfl,hM.trans h1,h2,h3,h6⟩
 have HP:∀ {M':Mem} {τ:Store} {x:AV} {v:Value} {W:World} {g:Nat},M1.le M'→Sx.Inv prog M' w0 ((17,g,.cells f.cells)::(τ++σ)) W→R M' x v→nF 18 (l.map aq.cells) x τ→Calls prog 165 #[v,.int .i64 (kR l f.name:Int),.slice (some ⟨g,0,none⟩) 1 1] W fun e W'=>∃ M4 v,e= .returned v∧M1.le M4∧Sx.Inv prog M4 w0 σ W'∧R M4 (.sl true 18 ((gC l f).map aq.cells)) v:=fun hM bp hv hx=>by
  refine((ac2 (k:=kR l f.name) hx (Cv l) (Cw l) rfl rfl (by simpa using hgt) (by simpa using hn)) _ w0 _ [_,_,_] bp (RL.cons hv (RL.cons (.v _) (RL.cons (.ms _ _ _ _ _) RL.nil)))).mono fun e W' ⟨M2,r,σ',h1,h2,h3,h4,h5⟩=> ?_
  subst h4 h5
  cases e<;>simp only[Sx.iH]at h3
  refine⟨M2,_,rfl,hM.trans h1,h2,?_⟩
  unfold gC lj
  rw[YZ,Zv,Yu,Xx]
  exact h3
 have TF:=Hd.mk fH
 have HB:∀ {M':Mem} {σ':Store} {W:World},M1.le M'→Sx.Inv prog M' w0 σ' W→Sx.Inv prog M' w0 ((17,W.heap.size,.cells f.cells)::σ') (W.alloc (.cells vs.toArray 37)):=fun hM bp=>bp.box (cs:=vs) 37 (TF.out.mono hM) 17
 clear fH hcell bK q2 bY hR hI
 have hlen:l.length≤9223372036854775807:=by omega
 rcases acL l f.name with⟨h1,h2⟩|⟨k,h0,h1,h2⟩
 all_goals
  have Ll:=HI _ h1
  rw[h2]at HP
  rw[hG]at Ll HK HL
  clear HI h1 h2 hG
  go_enter func120,ntmps120
  go_wp2_with (first
   |(go_at_call 78;refine Ll.mono ?_;rintro e W2 ⟨M2,rfl,nP,abM⟩))
  have hD:=abM.eI
  refine wp_region_held_drew (S:=fun W=>∀ j (hj:j<vs.length),W.cell? ⟨w.heap.size,0+j,none⟩=some vs[j]) (by kernel_rfl) (HK nP hD) (fun hH=> ?_)
  refine wpAnyH_take (i:=0) (oi:= .mk (some 13) (.move (.tmp 0)) _ _ _ _) (v:=_) rfl (by kernel_rfl) (by kernel_rfl) (by kernel_rfl) (fun _ _ _ h=>h) (Or.inl ⟨by rfl,fun w _=>by rfl⟩) hH ?_
  simp only[Act.put,Z5,ZP,ZO]
  refine wpAnyH_take (i:=2) (oi:= .mk (some 15) (.move (.tmp 5)) _ _ _ _) (v:=_) rfl (by kernel_rfl) (by kernel_rfl) (by kernel_rfl) (fun _ _ _ h=>h) (Or.inl ⟨by rfl,fun w _=>by rfl⟩) hH ?_
  simp only[Act.put,Z5,ZP,ZO]
  refine wpAnyH_take (i:=3) (oi:= .mk (some 16) (.load 37 (.tmp 3)) _ _ _ _) (v:= .agg vs.toArray) rfl (by kernel_rfl) (by kernel_rfl) (by kernel_rfl) (fun _ _ _ h=>h) (Or.inl ⟨by rfl,fun W h=>(by have:=HL W h;unfold execOp;simp only[Sem.run_bind];erw [this];simp only[Result.andThen_ok,Sem.run_pure])⟩) hH ?_
  simp only[Act.put,Z5,ZP,ZO]
  refine wpAnyH_ready (rs:=[1,4]) (by kernel_rfl) (by simp) (AllReadyH.cons (o:= .mk (some 14) (.call _) _ _ _ _) rfl (fun K hK=> ?_) (AllReadyH.cons (o:= .mk (some 17) (.buildSlice _ _ _) _ _ _ _) rfl (fun K hK=> ?_) AllReadyH.nil))
  ·go_simp
   go_at_call 166
   refine(HC nP hD).mono ?_
   rintro e W3 ⟨M3,x,τ,v,rfl,jM,bU,kX,fM⟩
   go_wp2_with fail
   refine hK.out _ _ (HK jM bU) (fun hH=> ?_)
   clear hK K
   try simp only[Act.put,Z5,ZP,ZO]
   refine wpAnyH_ready (rs:=[4]) (by kernel_rfl) (by simp) (AllReadyH.cons (o:= .mk (some 17) (.buildSlice _ _ _) _ _ _ _) rfl (fun K hK=> ?_) AllReadyH.nil)
   go_simp
   rw[Nz fL]
   refine hK.out _ _ (HK jM (HB jM bU)) (fun hH=> ?_)
   clear hK K
   try simp only[Act.put,Z5,ZP,ZO]
   refine wpAnyH_ready (rs:=[5]) (by kernel_rfl) (by simp) (AllReadyH.cons (o:= .mk (some 18) (.call _) _ _ _ _) rfl (fun K hK=> ?_) AllReadyH.nil)
   go_simp
   go_at_call 165
   refine(HP jM (HB jM bU) kX fM).mono ?_
   rintro e W4 ⟨M4,v4,rfl,jN,da,mX⟩
   go_wp2_with fail
   refine hK.out _ _ (HK jN da) (fun hH=> ?_)
   clear hK K
   refine wpAnyH_ready (rs:=[6]) (by kernel_rfl) (by simp) (AllReadyH.cons (o:= .mk (some 4) (.assign _) _ _ _ _) rfl (fun K hK=> ?_) AllReadyH.nil)
   go_simp
   refine hK.out _ _ (HK jN da) (fun hH=>wpAnyH_done (by kernel_rfl) ?_ _)
   clear hK K
   go_wp2
   go_ret
   exact⟨M4,.ret _,σ,CW.trans jN,da,Wk.sl _ _ mX,rfl,rfl⟩
  ·go_simp
   rw[Nz fL]
   refine hK.out _ _ (HK nP (HB nP hD)) (fun hH=> ?_)
   clear hK K
   try simp only[Act.put,Z5,ZP,ZO]
   refine wpAnyH_ready (rs:=[1]) (by kernel_rfl) (by simp) (AllReadyH.cons (o:= .mk (some 14) (.call _) _ _ _ _) rfl (fun K hK=> ?_) AllReadyH.nil)
   go_simp
   go_at_call 166
   refine(HC nP (HB nP hD)).mono ?_
   rintro e W3 ⟨M3,x,τ,v,rfl,jM,bU,kX,fM⟩
   go_wp2_with fail
   refine hK.out _ _ (HK jM bU) (fun hH=> ?_)
   clear hK K
   refine wpAnyH_ready (rs:=[5]) (by kernel_rfl) (by simp) (AllReadyH.cons (o:= .mk (some 18) (.call _) _ _ _ _) rfl (fun K hK=> ?_) AllReadyH.nil)
   go_simp
   go_at_call 165
   refine(HP jM (bU.perm List.perm_middle) kX fM).mono ?_
   rintro e W4 ⟨M4,v4,rfl,jN,da,mX⟩
   go_wp2_with fail
   refine hK.out _ _ (HK jN da) (fun hH=> ?_)
   clear hK K
   refine wpAnyH_ready (rs:=[6]) (by kernel_rfl) (by simp) (AllReadyH.cons (o:= .mk (some 4) (.assign _) _ _ _ _) rfl (fun K hK=> ?_) AllReadyH.nil)
   go_simp
   refine hK.out _ _ (HK jN da) (fun hH=>wpAnyH_done (by kernel_rfl) ?_ _)
   clear hK K
   go_wp2
   go_ret
   exact⟨M4,.ret _,σ,CW.trans jN,da,Wk.sl _ _ mX,rfl,rfl⟩
end Go.Proofs.YthdeaajdmdmfnaaGreatDoor
namespace Go.Proofs.YthdeaajdmdmfnaaGreatDoor
open _root_.Go.Proofs.Tryz
open Go.Sx Go.Proofs Go.Tb
theorem len_nil{α:Type}(l:List α):((l.length:Int)=0)=(l=[]):=by
 cases l with
 |nil=>simp
 |cons a l=>simp;omega
theorem QO(t:bj):Pure prog 69 [.agg t.cells] (.v (.bool (decide (tj t)))):=by
 refine PW.p fun σ=> ?_
 repeat'(first|exact .nil|refine .k0 ?_|refine .k1 ?_|refine .k2 ?_|refine .k4 ?_|refine .k7 ?_|refine .r1 ?_ ?_|(refine .m1 ?_ ?_;intro b)|(refine .m2 ?_ ?_;intro hlen)|fail)
 all_goals(try simp only[BL]at *)
 refine Sx.Fin.intro Zs (bd ?_)
 simp only[tj,len_nil,Z8,ZR,and_assoc]
theorem QM(f:aq):Pure prog 66 [.agg f.cells] (.v (.bool (decide (tf f)))):=by
 refine PV.p fun σ=> ?_
 repeat'(first|exact .nil|refine .k0 ?_|refine .k1 ?_|refine .k2 ?_|refine .k4 ?_|refine .k7 ?_|refine .r1 ?_ ?_|(refine .l1 ?_;intro b)|(refine .m1 ?_ ?_;intro b)|(refine .m2 ?_ ?_;intro hlen)|fail)
 all_goals(try simp only[BL]at *)
 refine Sx.Fin.intro Zs (bd ?_)
 simp only[tf,len_nil,Z8,ZR,and_assoc]
theorem Rj(x:bh):Pure prog 65 [.agg x.cells] (.v (.bool (decide (x.name=eS∧tf x.feature)))):=by
 refine k65.p fun σ=> ?_
 repeat'(first|exact .nil|refine .k0 ?_|refine .k1 ?_|refine .k2 ?_|refine .k4 ?_|refine .k7 ?_|refine .r1 ?_ ?_|(refine .m1 ?_ ?_;intro b)|refine .an rfl (by intro aI;exact QM x.feature) ?_ ?_|fail)
 all_goals(try simp only[BL]at *)
 refine Sx.Fin.intro Zs (bd ?_)
 simp only[Z8,ZR]
theorem afF(x:bh):Pure prog 68 [.agg x.cells] (.v (.bool (decide (x.name=eS∧tj x.table)))):=by
 refine k68.p fun σ=> ?_
 repeat'(first|exact .nil|refine .k0 ?_|refine .k1 ?_|refine .k2 ?_|refine .k4 ?_|refine .k7 ?_|refine .r1 ?_ ?_|(refine .m1 ?_ ?_;intro b)|refine .an rfl (by intro aI;first|exact QO x.table|fail) ?_ ?_|fail)
 all_goals(try simp only[BL]at *)
 refine Sx.Fin.intro Zs (bd ?_)
 simp only[Z8,ZR]
theorem JX(x:bh):Pure prog 71 [.agg x.cells] (.v (.bool (decide (tj x.table∧tf x.feature)))):=by
 refine PY.p fun σ=> ?_
 repeat'(first|exact .nil|refine .k0 ?_|refine .k1 ?_|refine .k2 ?_|refine .k4 ?_|refine .k7 ?_|refine .r1 ?_ ?_|(refine .m1 ?_ ?_;intro b)|refine .an rfl (by intro aI;first|exact QO x.table|exact QM x.feature) ?_ ?_|fail)
 all_goals(try simp only[BL]at *)
 refine Sx.Fin.intro Zs (bd ?_)
 simp only[Z8,ZR]
abbrev cS(r:au×Int):AV:= .bo [.agg r.1.cells,iv r.2]
theorem DC(l:List aq)(n:af):firstIdx (fun x:aq=>decide (x.name=n)) l 0= -1∨∃ i:Nat,i<l.length∧firstIdx (fun x:aq=>decide (x.name=n)) l 0=(i:Int):=by
 rcases zw (fun x=>decide (x.name=n)) l 0 with⟨_,h⟩|⟨i,h1,h2,_⟩
 ·exact .inl h
 ·exact .inr ⟨i,h1,by rw[h2,ZH]⟩
theorem aaE(c:au)(x:bh)(hn:c.aD.length≤100000):Pure prog 73 [.agg c.cells,.agg x.cells] (cS (uj c x.name)):=by
 have hf:=uv c.aD x.name
 unfold uj cW
 rcases DC c.aD x.name with h2|⟨i,h0,h2⟩
 all_goals
  rw[h2]at hf ⊢
  refine k73.p fun σ=> ?_
  repeat'(first|exact .nil|refine .k0 ?_|refine .k1 ?_|refine .k2 ?_|refine .k7 ?_|refine .k9 ?_|(refine .cd ?_ ?_<;>(intro hc;skip))|refine .r1 ?_ ?_|(refine .l1 ?_;intro b)|(refine .m1 ?_ ?_;intro b)|refine .an rfl (by intro aI;first|exact hf|exact vZ _ _ h0 hn) ?_ ?_|fail)
  all_goals(try simp only[BL]at *)
 ·exact Zw
 ·exfalso;omega
 ·exfalso;omega
 ·rw[Z7 hc];exact Zw
theorem aaK(c:au)(x:bh)(hn:c.aD.length≤100000)(hm:c.features.length≤100000)(hp:c.past.length≤100000):Pure prog 70 [.agg c.cells,.agg x.cells] (cS (uk c x.name)):=by
 have hf:=uv c.aD x.name
 have hg:=uv c.features x.name
 unfold uk cW
 rcases DC c.aD x.name with h2|⟨i,h0,h2⟩
 ·rw[h2]at hf ⊢
  refine PX.p fun σ=> ?_
  repeat'(first|exact .nil|refine .k0 ?_|refine .k1 ?_|refine .k2 ?_|refine .k7 ?_|refine .k9 ?_|(refine .cd ?_ ?_<;>(intro hc;skip))|refine .r1 ?_ ?_|(refine .l1 ?_;intro b)|(refine .m1 ?_ ?_;intro b)|refine .t1 ?_ ?_ ?_|refine .an rfl (by intro aI;first|exact hf|fail) ?_ ?_|fail)
  try any_goals(exact Zo)
  all_goals(try simp only[BL]at *)
  ·exact Zw
  ·exfalso;omega
 have hd:∀ k,(c.features.take k++c.features.drop (k+1)).length≤100000:=fun k=>by simp;omega
 rcases DC c.features x.name with h3|⟨k,g0,h3⟩
 all_goals
  rw[h2]at hf ⊢
  rw[h3]at hg ⊢
  refine PX.p fun σ=> ?_
  repeat'(first|exact .nil|refine .k0 ?_|refine .k1 ?_|refine .k2 ?_|refine .k3 ?_|refine .k7 ?_|refine .k9 ?_|(refine .cd ?_ ?_<;>(intro hc;first|exact kt hc (by assumption)|skip))|refine .r1 ?_ ?_|(refine .l1 ?_;intro b)|(refine .m1 ?_ ?_;intro b)|refine .t1 ?_ ?_ ?_|refine .an rfl (by intro aI;first|exact hf|exact hg|exact vZ _ _ h0 hn|exact vZ _ _ g0 hm|exact oK _ _ hm|exact oK _ _ hp|exact oK _ _ (hd k)) ?_ ?_|fail)
  try any_goals(exact Zo)
  all_goals(try simp only[BL]at *)
 ·exfalso;omega
 ·rw[Z7 (by omega),Z7 (by decide)];exact Zw
 ·exfalso;omega
 ·rw[Z7 (by omega),ZV (by omega)];exact Zw
 ·exfalso;omega
theorem Qe(n:af)(g:aq):∀ (l:List aq) (k:Nat) (o:Int),fR n (l++[g]) k o=if g.name=n then((k+l.length:Nat):Int)else fR n l k o
 |[],k,o=>by simp[fR]
 |a::l,k,o=>by
  rw[ZG,fR,Qe n g l,fR,ZS,show k+1+l.length=k+(l.length+1) by omega]
theorem aez{n:af}{l:List aq}{j:Nat}(h:j<l.length)(o:Int):fR n (l.take (j+1)) 0 o=if(l.getD j default).name=n then(j:Int)else fR n (l.take j) 0 o:=by
 rw[ZC h,Qe,ZH,Zx,Yi (Nat.le_of_lt h),getD_eq h]
abbrev tri(b2 b3 b4:Nat)(c:au)(x:bh)(σ:Store):Store:=(4,b4,.cells [eB,eB,eB,eB])::(3,b3,.cells x.cells)::(2,b2,.cells c.cells)::σ
theorem agl(c:au)(x:bh)(hn:c.aD.length≤100000)(hm:c.features.length≤100000)(hp:c.past.length≤100000):Pure prog 72 [.agg c.cells,.agg x.cells] (cS (vQ c x.name)):=by
 have hf:=uv c.aD x.name
 have hg:=uv c.features x.name
 have hd:∀ k,(c.features.take k++c.features.drop (k+1)).length≤100000:=fun k=>by simp;omega
 unfold vQ
 rcases DC c.features x.name with h3|⟨i,g0,h3⟩
 ·rw[show cW c.features x.name= -1 from h3]
  rw[h3]at hg
  refine PZ.p fun σ=> ?_
  repeat'(first|exact .nil|refine .k0 ?_|refine .k1 ?_|refine .k2 ?_|refine .k6 ?_|refine .k7 ?_|refine .k9 ?_|(refine .cd ?_ ?_<;>(intro hc;skip))|refine .r1 ?_ ?_|(refine .l1 ?_;intro b)|(refine .m1 ?_ ?_;intro b)|(refine .m2 ?_ ?_;intro hlen)|refine .an rfl (by intro aI;first|exact hg|fail) ?_ ?_|fail)
  all_goals(try simp only[BL]at *)
  ·exact Zw
  ·exfalso;omega
 rw[show cW c.features x.name=i from h3]
 rw[h3]at hg
 have fm:¬(i:Int)<0:=by omega
 rw[Z7 fm]
 refine PZ.p fun σ=> ?_
 repeat'(first|exact .nil|refine .k0 ?_|refine .k1 ?_|refine .k2 ?_|refine .k6 ?_|refine .k7 ?_|refine .k9 ?_|(refine .cd ?_ ?_<;>(intro hc;skip))|refine .r1 ?_ ?_|(refine .l1 ?_;intro b)|(refine .m1 ?_ ?_;intro b)|(refine .m2 ?_ ?_;intro hlen)|refine .an rfl (by intro aI;first|exact hg|fail) ?_ ?_|fail)
 all_goals(try simp only[BL]at *)
 ·exfalso;omega
 rename_i b2 b3
 refine cr (fun m rg σ'=>∃ j:Nat,j≤c.past.length∧m=c.past.length-j∧σ'=tri b2 b3 b c x σ∧rg=[(2,.lp 2 b2 0),(3,.lp 3 b3 0),(4,.lp 4 b 0),(6,iv i),(7,iv (fR x.name (c.past.take j) 0 (-1))),(19,.sl false 18 (c.past.map aq.cells)),(20,iv c.past.length),(21,iv j)]) c.past.length rfl ⟨_,_,Zr,Zs,0,ZM _,rfl,rfl,rfl⟩ ?_
 rintro m _ _ ⟨j,hj,Aj,rfl,rfl⟩
 rcases YU j c.past.length with aw|pw
 ·have hs:=aez (n:=x.name) aw (-1)
  repeat'(first|exact .nil|refine .k0 ?_|refine .k1 ?_|refine .k2 ?_|refine .k3 ?_|refine .k4 ?_|refine .k6 ?_|refine .k7 ?_|refine .k8 ?_|refine .k9 ?_|(refine .cd ?_ ?_<;>(intro hc;skip))|refine .r1 ?_ ?_|(refine .l1 ?_;intro b)|refine .t1 ?_ ?_ ?_|refine .an rfl (by intro aI;first|exact hf|exact vZ _ _ g0 hm|exact oK _ _ hn|exact oK _ _ (hd i)) ?_ ?_|fail)
  try any_goals(exact Zo)
  all_goals(try simp only[BL]at *)
  any_goals(exfalso;omega)
  ·rw[ZV hc]at hs
   exact⟨c.past.length-(j+1),by omega,_,_,Zr,Zs,j+1,by omega,rfl,rfl,by rw[hs,cm (n:=c.past.length) (by omega) (by assumption)]⟩
  ·rw[Z7 hc]at hs
   exact⟨c.past.length-(j+1),by omega,_,_,Zr,Zs,j+1,by omega,rfl,rfl,by rw[hs,cm (n:=c.past.length) (by omega) (by assumption)]⟩
 obtain rfl:j=c.past.length:=by omega
 rw[Yr]
 rcases Int.lt_or_le (fR x.name c.past 0 (-1)) 0 with hold|hold
 ·generalize fR x.name c.past 0 (-1)=old at *
  rw[ZV (.inl hold)]
  repeat'(first|exact .nil|refine .k0 ?_|refine .k1 ?_|refine .k2 ?_|refine .k3 ?_|refine .k4 ?_|refine .k6 ?_|refine .k7 ?_|refine .k8 ?_|refine .k9 ?_|(refine .cd ?_ ?_<;>(intro hc;skip))|refine .r1 ?_ ?_|(refine .l1 ?_;intro b)|refine .t1 ?_ ?_ ?_|refine .an rfl (by intro aI;first|exact hf|exact vZ _ _ g0 hm|exact oK _ _ hn|exact oK _ _ (hd i)) ?_ ?_|fail)
  try any_goals(exact Zo)
  all_goals(try simp only[BL]at *)
  any_goals(exfalso;first|omega|fail)
  exact Zw
 have p0:=(xZ (n:=x.name) (l:=c.past) (by omega)).1
 obtain⟨p,lV⟩:∃ p:Nat,fR x.name c.past 0 (-1)=p:=⟨(fR x.name c.past 0 (-1)).toNat,by omega⟩
 have p1:p<c.past.length:=by omega
 rw[lV]at *
 unfold cW
 repeat'(first|exact .nil|refine .k0 ?_|refine .k1 ?_|refine .k2 ?_|refine .k3 ?_|refine .k6 ?_|refine .k7 ?_|refine .k8 ?_|refine .k9 ?_|(refine .cd ?_ ?_<;>(intro hc;skip))|refine .r1 ?_ ?_|(refine .l1 ?_;intro b)|refine .t1 ?_ ?_ ?_|refine .an rfl (by intro aI;first|exact hf|exact vZ _ _ g0 hm|exact vZ _ _ p1 hp|exact oK _ _ hn|exact oK _ _ (hd i)) ?_ ?_|fail)
 try any_goals(exact Zo)
 all_goals(try simp only[BL]at *)
 any_goals omega
 ·rw[ZV (by grind)];exact Zw
 ·rw[Z7 (by grind)];exact Zw
theorem Rn(n:af)(g:aq):∀ (l:List aq) (v:Int),mq n (l++[g]) v=(mq n l v).bind fun v=>if g.name=n∧1099511627776≤g.version then none else some (if g.name=n then(if IntKind.i64.wrap (g.version+1)>v then IntKind.i64.wrap (g.version+1)else v)else v)
 |[],v=>rfl
 |a::l,v=>by
  rw[ZG,mq,mq]
  split
  ·rfl
  ·exact Rn n g l _
theorem Rm(n:af):∀ (l m:List aq) (v:Int),mq n l v=none→mq n (l++m) v=none
 |[],m,v,h=>by cases h
 |a::l,m,v,h=>by
  rw[ZG,mq]
  rw[mq]at h
  split
  ·rfl
  ·rename_i hc;rw[Z7 hc]at h;exact Rm n l m _ h
theorem afI{n:af}{l:List aq}{j:Nat}(h:j<l.length){v0 v:Int}(hv:mq n (l.take j) v0=some v):mq n (l.take (j+1)) v0=if(l.getD j default).name=n∧1099511627776≤(l.getD j default).version then none else some (if(l.getD j default).name=n then(if IntKind.i64.wrap ((l.getD j default).version+1)>v then IntKind.i64.wrap ((l.getD j default).version+1)else v)else v):=by
 rw[ZC h,Rn,hv,getD_eq h];rfl
theorem afK(hT:lK)(hO:lJ)(c:au)(x:bh)(hs:x.feature.body.size≤100000)(hn:c.aD.length≤100000)(hm:c.features.length≤100000)(hp:c.past.length≤100000):Pure prog 67 [.agg c.cells,.agg x.cells] (cS (lh c x.feature)):=by
 have hf:=uv c.aD x.feature.name
 have hF:=Ni hT hO c x.feature hs
 have Oi:=aad c.features c.past hm hp
 unfold lh cW
 generalize pe c x.feature=er at *
 obtain⟨L,hL⟩:∃ L,L=c.features++c.past:=⟨_,rfl⟩
 rw[← hL]at Oi ⊢
 have hLl:L.length≤200000:=by rw[hL,Z4];omega
 clear hL
 refine k67.p fun σ=> ?_
 repeat'(first|exact .nil|refine .k0 ?_|refine .k1 ?_|refine .k2 ?_|refine .k6 ?_|refine .k7 ?_|refine .k9 ?_|(refine .cd ?_ ?_<;>(intro hc;skip))|refine .r1 ?_ ?_|(refine .l1 ?_;intro b)|(refine .m1 ?_ ?_;intro b)|(refine .m2 ?_ ?_;intro hlen)|refine .an rfl (by intro aI;first|exact hf|exact hF|(refine(Oi).wk ?_;(repeat' first|exact .refl _|refine .cons ?_ ?_|exact .sl|fail);done)|fail) ?_ ?_|fail)
 all_goals(try simp only[BL]at *)
 ·rw[ZV hc];exact Zw
 ·rename_i bV
  rw[Z7 (by simpa using bV),ZV (by omega)];exact Zw
 ·rename_i bV cG
  rw[Z7 (by simpa using bV),Z7 (by omega),ZV hc];exact Zw
 any_goals(show _≤1000000;simp only[ZS,ZA];omega)
 rename_i b2 b3 b4 bV cG
 rw[Z7 (by simpa using bV),Z7 (by omega),Z7 (by simpa using hc)]
 refine cr (fun m rg σ'=>∃ (j:Nat) (v:Int),j≤L.length∧m=L.length-j∧mq x.feature.name (L.take j) 1=some v∧σ'=(6,b,.cells (x.feature.gL v).cells)::(4,b4,.cells [eB,eB,eB,eB])::(2,b2,.cells c.cells)::σ∧rg=[(2,.lp 2 b2 0),(4,.lp 4 b4 0),(6,.lp 6 b 0),(36,.sl false 18 (L.map aq.cells)),(37,iv L.length),(38,iv j)]) L.length rfl ⟨_,_,Zr,Zs,0,1,ZM _,rfl,rfl,rfl,rfl⟩ ?_
 clear bV cG hc
 rintro m _ _ ⟨j,v,hj,Aj,hv,rfl,rfl⟩
 rcases YU j L.length with aw|pw
 ·have hs:=afI aw hv
  repeat'(first|exact .nil|refine .k0 ?_|refine .k1 ?_|refine .k2 ?_|refine .k4 ?_|refine .k6 ?_|refine .k7 ?_|refine .k8 ?_|refine .k9 ?_|(refine .cd ?_ ?_<;>(intro hc;skip))|refine .r1 ?_ ?_|(refine .l1 ?_;intro b)|refine .t1 ?_ ?_ ?_|refine .an rfl (by intro aI;exact oK _ (x.feature.gL v) hn) ?_ ?_|fail)
  try any_goals(exact Zo)
  all_goals(try simp only[BL]at *)
  any_goals(exfalso;omega)
  ·have h:=Rm _ _ (L.drop (j+1)) _ (hs.trans (ZV hc))
   rw[Y7]at h
   rw[h]
   exact Zw
  ·have h:=hs.trans (Z7 (by grind [aq.gL]))
   rw[ZV (show(L.getD j default).name=x.feature.name from hc)]at h
   exact⟨L.length-(j+1),by omega,_,_,Zr,Zs,j+1,_,by omega,rfl,h,rfl,by rw[cm (n:=L.length) (by omega) (by assumption)]⟩
  ·have h:=hs.trans (Z7 (by grind [aq.gL]))
   rw[Z7 (show¬(L.getD j default).name=x.feature.name from hc)]at h
   exact⟨L.length-(j+1),by omega,_,_,Zr,Zs,j+1,_,by omega,rfl,h,rfl,by rw[cm (n:=L.length) (by omega) (by assumption)]⟩
 obtain rfl:j=L.length:=by omega
 rw[Yr]at hv
 rw[hv]
 repeat'(first|exact .nil|refine .k0 ?_|refine .k1 ?_|refine .k2 ?_|refine .k4 ?_|refine .k6 ?_|refine .k7 ?_|refine .k8 ?_|refine .k9 ?_|(refine .cd ?_ ?_<;>(intro hc;skip))|refine .r1 ?_ ?_|(refine .l1 ?_;intro b)|refine .t1 ?_ ?_ ?_|refine .an rfl (by intro aI;exact oK _ (x.feature.gL v) hn) ?_ ?_|fail)
 try any_goals(exact Zo)
 all_goals(try simp only[BL]at *)
 any_goals(exfalso;omega)
 exact Zw
end Go.Proofs.YthdeaajdmdmfnaaGreatDoor
