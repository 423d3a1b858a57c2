import Derived.Test.YtmemninechdogaaGreatDoorHi
import Derived.Test.YtmemninechdogaaGreatDoorAk
import Derived.Deep.RegionHeld3
set_option linter.all false
namespace Go.Proofs.YtmemninechdogaaGreatDoor
open Go.Sx Go.Proofs Go.Tb
structure dY where
 kind:Int
 table:aO
 feature:aj
 name:ae
deriving Inhabited
def dY.cells(x:dY):List AV:=iv x.kind::(x.table.cells++x.feature.cells++[sv x.name])
abbrev eS:ae:=⟨#[]⟩
def ui(t:aO):Prop:=t.name=eS/\t.dh=eS/\t.fields=[]/\t.aH=0
def ant(f:aj):Prop:=f.name=eS/\f.dh=eS/\f.version=0/\f.type.kind=0/\f.type.unit=[]/\f.type.of=eS/\f.body.kind=0/\f.body.op=eS/\f.body.name=eS/\f.body.table=eS/\(f.body.val.kind=0/\f.body.val.n=0/\f.body.val.s=eS)/\f.body.unit=[]/\f.body.param=0/\(f.body.win.kind=0/\f.body.win.size=0)/\f.body.args=[]
instance (t:aO):Decidable (ui t):=by unfold ui;infer_instance
instance {y:Type}(l:List y):Decidable (l=[]):=match l with
 |[]=>isTrue rfl|_::_=>isFalse (by simp)
instance (f:aj):Decidable (ant f):=by unfold ant;infer_instance
def nX(x:dY):Prop:=if x.kind=1 then x.name=eS/\ant x.feature else if x.kind=2 then x.name=eS/\ui x.table else(x.kind=3\/x.kind=4\/x.kind=5)/\ui x.table/\ant x.feature
instance (x:dY):Decidable (nX x):=by unfold nX;infer_instance
def dN(l:List aj)(n:ae):Int:=firstIdx (fun f=>decide (f.name=n)) l 0
def lO(l:List aj)(n:ae):Nat:=l.findIdx fun g=>c6 n g.name
def jx(l:List aO)(n:ae):Nat:=l.findIdx fun g=>c6 n g.name
def jL{y:Type}(l:List y)(k:Nat)(x:y):List y:=l.take k++x::l.drop k
def mE{y:Type}(l:List y)(k:Nat):List y:=l.take k++l.drop (k+1)
def iW(l:List aj)(f:aj):List aj:=jL l (lO l f.name) f
def lA(n:ae):List aj->Int->Option Int
 |[],v=>some v|g::l,v=>if g.name=n/\1099511627776<=g.version then none else lA n l (if g.name=n then(if IntKind.i64.wrap (g.version+1)>v then IntKind.i64.wrap (g.version+1)else v)else v)
def gn(n:ae):List aj->Nat->Int->Int
 |[],_,o=>o|g::l,k,o=>gn n l (k+1) (if g.name=n then k else o)
def aj.gL(f:aj)(v:Int):aj:={f with version:=v}
def xa(c:ay)(t:aO):ay×Int:=if(lM c.tables t.name).isSome=true then(c,121)else({c with tables:=jL c.tables (jx c.tables t.name) t},0)
def nY(c:ay)(f:aj):ay×Int:=
 if f.version≠0 then(c,1)else if 0<=dN c.aD f.name then(c,121)else if mJ c f≠0 then(c,mJ c f)else
 match lA f.name (c.features++c.past) 1 with
 |none=>(c,2)
 |some v=>({c with aD:=iW c.aD (f.gL v)},0)
def xp(c:ay)(n:ae):ay×Int:=
 if dN c.aD n<0 then(c,4)else
 if 0<=dN c.features n then
  ({c with aD:=mE c.aD (dN c.aD n).toNat,past:=iW c.past (c.features.getD (dN c.features n).toNat default),features:=iW (mE c.features (dN c.features n).toNat) (c.aD.getD (dN c.aD n).toNat default)},0)
 else({c with aD:=mE c.aD (dN c.aD n).toNat,features:=iW c.features (c.aD.getD (dN c.aD n).toNat default)},0)
def yB(c:ay)(n:ae):ay×Int:=
 if dN c.features n<0 then(c,4)else if gn n c.past 0 (-1)<0\/0<=dN c.aD n then(c,140)else
 ({c with aD:=iW c.aD (c.features.getD (dN c.features n).toNat default),features:=iW (mE c.features (dN c.features n).toNat) (c.past.getD (gn n c.past 0 (-1)).toNat default),past:=mE c.past (gn n c.past 0 (-1)).toNat},0)
def s9(c:ay)(n:ae):ay×Int:=
 if dN c.aD n<0 then(c,4)else({c with aD:=mE c.aD (dN c.aD n).toNat},0)
def dZ(c:ay)(x:dY):ay×Int:=
 if x.kind=1 then xa c x.table else if x.kind=2 then nY c x.feature else if x.kind=3 then xp c x.name else if x.kind=4 then yB c x.name else s9 c x.name
def ga:ay:=⟨[],[],[],[]⟩
open Classical in
noncomputable def cV(c:ay)(x:dY):ay×Int:=
 if¬nX x then(ga,1)else if(dZ c x).2≠0 then(ga,(dZ c x).2)else if iI (dZ c x).1≠0 then(ga,iI (dZ c x).1)else((dZ c x).1,0)
theorem JJ{l:List aj}{n:ae}(h:0<=dN l n):(dN l n).toNat<l.length/\(l.getD (dN l n).toNat default).name=n:=by
 unfold dN at*;rcases vf (fun x=>decide (x.name=n)) l 0 with⟨h1,h2⟩|⟨i,h3,h2,h1⟩
 .grind
 grind
theorem Q1{n:ae}:∀(l m:List aj) (o:Int),(0<=o->o.toNat<m.length/\(m.getD o.toNat default).name=n)->0<=gn n l m.length o->(gn n l m.length o).toNat<(m++l).length/\((m++l).getD (gn n l m.length o).toNat default).name=n
 |[],m,o,ho,h=>by rw[Y5];exact ho h|g::l,m,o,ho,h=>by
  rw[gn]at*;have:=Q1 (n:=n) l (m++[g]) (if g.name=n then m.length else o) (fun h0=>by
   grind)
  rw[Z7,Y1,Zq]at this;grind
theorem A8{n:ae}{l:List aj}(h:¬gn n l 0 (-1)<0):(gn n l 0 (-1)).toNat<l.length/\(l.getD (gn n l 0 (-1)).toNat default).name=n:=by have:=Q1 (n:=n) l [] (-1) (fun h=>absurd h (by decide)) (by grind);grind
end Go.Proofs.YtmemninechdogaaGreatDoor
set_option maxRecDepth 100000
set_option maxHeartbeats 4000000
namespace Go.Proofs.YtmemninechdogaaGreatDoor
open _root_.Go.Proofs.Tryz
open Go.Sx Go.Proofs Go.RowKit Go.Shelf
theorem ahx{y:Type}{l:List y}(h:l.length=18):∃v0 v1 v2 v3 v4 v5 v6 v7 v8 v9 v10 v11 v12 FE FF FG FH FI,l=[v0,v1,v2,v3,v4,v5,v6,v7,v8,v9,v10,v11,v12,FE,FF,FG,FH,FI]:=by
 match l,h with
 |[v0,v1,v2,v3,v4,v5,v6,v7,v8,v9,v10,v11,v12,FE,FF,FG,FH,FI],_=>grind
theorem aeo(l:List aj)(n:ae):(firstIdx (fun g:aj=>jc g.name n) l 0= -1/\lO l n=l.length)\/∃k:Nat,¬((k:Int)<0)/\firstIdx (fun g:aj=>jc g.name n) l 0=(k:Int)/\lO l n=k:=by
 have:∀(l:List aj) (k0:Nat),(firstIdx (fun g:aj=>jc g.name n) l k0= -1/\lO l n=l.length)\/∃k:Nat,firstIdx (fun g:aj=>jc g.name n) l k0=((k0+k:Nat):Int)/\lO l n=k:=by
  intro l
  induction l with
  |nil=>exact fun _=>.inl ⟨rfl,rfl⟩
  |cons a l ih=>
   intro k0;unfold firstIdx lO;rw[List.findIdx_cons,OC];cases h:c6 n a.name with
   |true=>grind|false=>
    rcases ih (k0+1)with⟨h1,h2⟩|⟨k,h1,h2⟩
    .exact .inl ⟨by grind,by unfold lO at h2;grind⟩
    .exact .inr ⟨k+1,by grind,by unfold lO at h2;grind⟩
 grind
theorem Oj{vs:List Value}(h:vs.length=18):List.foldl (fun(cs:Array Value) (x:Value×Nat)=>cs.setIfInBounds x.snd x.fst) #[.string ⟨#[]⟩,.string ⟨#[]⟩,.int .i64 0,.slice none 0 0,.string ⟨#[]⟩,.int .i64 0,.string ⟨#[]⟩,.string ⟨#[]⟩,.string ⟨#[]⟩,.int .i64 0,.int .i64 0,.string ⟨#[]⟩,.slice none 0 0,.int .i64 0,.int .i64 0,.int .i64 0,.slice none 0 0,.int .i64 0] vs.zipIdx=vs.toArray:=by obtain⟨v0,v1,v2,v3,v4,v5,v6,v7,v8,v9,v10,v11,v12,FE,FF,FG,FH,FI,rfl⟩:=ahx h;simp_all
theorem aiC{M:Mem}{xs:List AV}{vs:List Value}{b:Nat}(h:RL M xs vs)(hc:∀k (h:k<vs.length),M b k=some vs[k]):R M (.pc xs) (.pointer (some ⟨b,0,none⟩)):=by
 refine .pc _ _ 0 (fun k=>vs.getD k default) (fun k hk=>?_) (fun k hk=>?_)
 .have cN:k<vs.length:=by rw[← h.1];grind
  grind
 .have cN:k<vs.length:=by rw[← h.1];grind
  rw[Z1,ZX cN];exact h.2 k hk cN
theorem ph(l:List aj)(f:aj)(hn:l.length<=100000):Sx.Pure prog 128 [.sl false 18 (l.map aj.cells),.agg f.cells] (.sl false 18 ((iW l f).map aj.cells)):=by
 refine⟨fun q M w0 w cs hI hR=>?_⟩;obtain⟨x1,cB,rfl,q1,bV⟩:=hR.aZ;obtain⟨x2,rfl,q2⟩:=RL.cR bV;obtain⟨xj,rfl,bY⟩:=q2.qq;obtain⟨ad,cap,rfl, -⟩:=uT q1;rw[Z5]at*;obtain⟨M1,vs,Ds,gD,gh,AN⟩:=(hI.box (cs:=xj) 37 bY 3).freeze;have gm:vs.length=18:=by rw[<-gh.1];rfl
 obtain⟨G,hG⟩:∃G,G=w.heap.size:=⟨_,rfl⟩
 rw[<-hG]at AN;have hgt:lO l f.name<=l.length:=List.findIdx_le_length;have HK:∀{M':Mem} {af:Store} {W:World},M1.le M'->Sx.Inv prog M' w0 af W->∀j (hj:j<vs.length),W.cell? ⟨G,0+j,none⟩=some vs[j]:=fun hM bg j hj=>bg.bZ _ _ _ (hM _ _ _ (by rw[ZH];exact AN j hj));have HL:∀W:World,(∀j (hj:j<vs.length),W.cell? ⟨G,0+j,none⟩=some vs[j])->(Instr.loadAt 37 (.pointer (some ⟨G,0,none⟩))).run prog W= .ok (.agg vs.toArray) W:=fun W hW=>by obtain⟨h1,h2⟩:=Sx.zn (P:=prog) (t:=37) (g:=true) (n:=18) (by kernel_rfl) W;simp only[Instr.loadAt,Instr.sureAddr,loadVar,Sem.run_bind,Sem.run_pure,Result.andThen_ok,h1];simp only[YK,Sem.run_bind,h2,Result.andThen_ok,Sx.E0 G 0 18 vs gm hW,Sem.run_pure]
 have HI:∀i:Int,firstIdx (fun g:aj=>jc g.name f.name) l 0=i->Calls prog 80 #[.slice ad l.length cap,.func (.func 172) #[] #[.pointer (some ⟨G,0,none⟩)]] (w.alloc (.cells xj.toArray 37)) fun e W'=>∃M2,e= .returned (.int .i64 i)/\M1.le M2/\Sx.Inv prog M2 w0 q W':=fun i hi=>by
  refine((P7 172 f.cells (fun g=>jc g.name f.name) rfl (fun x=>ahU f x) l).sp q M1 w0 _ [_,.func (.func 172) #[] #[.pointer (some ⟨G,0,none⟩)]] gD (RL.cons (q1.mono Ds) (RL.cons (.cl _ _ _ [] [.pointer (some ⟨G,0,none⟩)] rfl rfl (fun i h=>absurd h (by simp)) (fun i h1 h2=>by
   obtain rfl:i=0:=by simpa using h1
   exact aiC gh AN)) RL.nil))).mono fun e W' ⟨M2,r,af,h1,h2,h3,h4⟩=>?_
  obtain⟨rfl,rfl⟩:=h4;cases e<;>simp only[Sx.jV]at h3;rw[hi]at h3;exact⟨M2,by rw[h3.aC],h1,h2⟩
 have HC:∀{M':Mem} {af:Store} {W:World},M1.le M'->Sx.Inv prog M' w0 af W->Calls prog 174 #[.slice ad l.length cap] W fun e W'=>∃M3 x u v,e= .returned v/\M1.le M3/\Sx.Inv prog M3 w0 (u++af) W'/\R M3 x v/\oj 18 (l.map aj.cells) x u:=fun hM bg=>by refine((MX (l.map aj.cells) (C2 l) (C3 l) (by simpa using hn) _) _ w0 _ [_] bg (RL.cons (q1.mono (Ds.trans hM)) RL.nil)).mono fun e W' ⟨M2,r,af,h1,h2,h3,x,u,h4,h5,h6⟩=>?_;subst h4 h5;cases e<;>simp only[Sx.jV]at h3;exact⟨M2,x,u,_,rfl,hM.trans h1,h2,h3,h6⟩
 have HP:∀{M':Mem} {u:Store} {x:AV} {v:Value} {W:World} {g:Nat},M1.le M'->Sx.Inv prog M' w0 ((17,g,.cells f.cells)::(u++q)) W->R M' x v->oj 18 (l.map aj.cells) x u->Calls prog 173 #[v,.int .i64 (lO l f.name:Int),.slice (some ⟨g,0,none⟩) 1 1] W fun e W'=>∃M4 v,e= .returned v/\M1.le M4/\Sx.Inv prog M4 w0 q W'/\R M4 (.sl true 18 ((iW l f).map aj.cells)) v:=fun hM bg hv hx=>by refine((aeM (k:=lO l f.name) hx (C2 l) (C3 l) rfl rfl (by simpa using hgt) (by simpa using hn)) _ w0 _ [_,_,_] bg (RL.cons hv (RL.cons (.v _) (RL.cons (.ms _ _ _ _ _) RL.nil)))).mono fun e W' ⟨M2,r,af,h1,h2,h3,h4,h5⟩=>?_;subst h4 h5;cases e<;>simp only[Sx.jV]at h3;refine⟨M2,_,rfl,hM.trans h1,h2,?_⟩;unfold iW jL;rw[Zl,Zz,XJ,Xn];exact h3
 have U7:=Hd.mk gh;have HB:∀{M':Mem} {af:Store} {W:World},M1.le M'->Sx.Inv prog M' w0 af W->Sx.Inv prog M' w0 ((17,W.heap.size,.cells f.cells)::af) (W.alloc (.cells vs.toArray 37)):=fun hM bg=>bg.box (cs:=vs) 37 (U7.out.mono hM) 17;clear gh AN bY q2 bV hR hI;have hlen:l.length<=9223372036854775807:=by omega
 rcases aeo l f.name with⟨h1,h2⟩|⟨k,h0,h1,h2⟩
 all_goals
  have LV:=HI _ h1;rw[h2]at HP;rw[hG]at LV HK HL;clear HI h1 h2 hG
  go_enter func128,ntmps128
  go_wp2_with (first
   |(go_at_call 80;refine LV.mono ?_;rintro e W2 ⟨M2,rfl,oF,adw⟩))
  have hD:=adw.ft;refine wp_region_held_drew (S:=fun W=>∀j (hj:j<vs.length),W.cell? ⟨w.heap.size,0+j,none⟩=some vs[j]) (by kernel_rfl) (HK oF hD) (fun hH=>?_);refine wpAnyH_take (i:=0) (oi:=.mk (some 13) (.move (.tmp 0)) _ _ _ _) (v:=_) rfl (by kernel_rfl) (by kernel_rfl) (by kernel_rfl) (fun _ _ _ h=>h) (Or.inl ⟨by rfl,fun w _=>by rfl⟩) hH ?_;simp only[Act.put,Zx,Zh,Za];refine wpAnyH_take (i:=2) (oi:=.mk (some 15) (.move (.tmp 5)) _ _ _ _) (v:=_) rfl (by kernel_rfl) (by kernel_rfl) (by kernel_rfl) (fun _ _ _ h=>h) (Or.inl ⟨by rfl,fun w _=>by rfl⟩) hH ?_;simp only[Act.put,Zx,Zh,Za];refine wpAnyH_take (i:=3) (oi:=.mk (some 16) (.load 37 (.tmp 3)) _ _ _ _) (v:=.agg vs.toArray) rfl (by kernel_rfl) (by kernel_rfl) (by kernel_rfl) (fun _ _ _ h=>h) (Or.inl ⟨by rfl,fun W h=>(by have:=HL W h;unfold execOp;simp only[Sem.run_bind];erw [this];simp only[Result.andThen_ok,Sem.run_pure])⟩) hH ?_;simp only[Act.put,Zx,Zh,Za];refine wpAnyH_ready (rs:=[1,4]) (by kernel_rfl) (by simp) (AllReadyH.cons (o:=.mk (some 14) (.call _) _ _ _ _) rfl (fun K hK=>?_) (AllReadyH.cons (o:=.mk (some 17) (.buildSlice _ _ _) _ _ _ _) rfl (fun K hK=>?_) AllReadyH.nil))
  .go_simp
   go_at_call 174
   refine(HC oF hD).mono ?_;rintro e W3 ⟨M3,x,u,v,rfl,lP,cq,qi,iy⟩
   go_wp2_with fail
   refine hK.out _ _ (HK lP cq) (fun hH=>?_);clear hK K;try simp only[Act.put,Zx,Zh,Za]
   refine wpAnyH_ready (rs:=[4]) (by kernel_rfl) (by simp) (AllReadyH.cons (o:=.mk (some 17) (.buildSlice _ _ _) _ _ _ _) rfl (fun K hK=>?_) AllReadyH.nil)
   go_simp
   rw[Oj gm];refine hK.out _ _ (HK lP (HB lP cq)) (fun hH=>?_);clear hK K;try simp only[Act.put,Zx,Zh,Za]
   refine wpAnyH_ready (rs:=[5]) (by kernel_rfl) (by simp) (AllReadyH.cons (o:=.mk (some 18) (.call _) _ _ _ _) rfl (fun K hK=>?_) AllReadyH.nil)
   go_simp
   go_at_call 173
   refine(HP lP (HB lP cq) qi iy).mono ?_;rintro e W4 ⟨M4,v4,rfl,pY,jd,yc⟩
   go_wp2_with fail
   refine hK.out _ _ (HK pY jd) (fun hH=>?_);clear hK K;refine wpAnyH_ready (rs:=[6]) (by kernel_rfl) (by simp) (AllReadyH.cons (o:=.mk (some 4) (.assign _) _ _ _ _) rfl (fun K hK=>?_) AllReadyH.nil)
   go_simp
   refine hK.out _ _ (HK pY jd) (fun hH=>wpAnyH_done (by kernel_rfl) ?_ _);clear hK K
   go_wp2
   go_ret
   exact⟨M4,.ret _,q,Ds.trans pY,jd,Wk.sl _ _ yc,rfl,rfl⟩
  .go_simp
   rw[Oj gm];refine hK.out _ _ (HK oF (HB oF hD)) (fun hH=>?_);clear hK K;try simp only[Act.put,Zx,Zh,Za]
   refine wpAnyH_ready (rs:=[1]) (by kernel_rfl) (by simp) (AllReadyH.cons (o:=.mk (some 14) (.call _) _ _ _ _) rfl (fun K hK=>?_) AllReadyH.nil)
   go_simp
   go_at_call 174
   refine(HC oF (HB oF hD)).mono ?_;rintro e W3 ⟨M3,x,u,v,rfl,lP,cq,qi,iy⟩
   go_wp2_with fail
   refine hK.out _ _ (HK lP cq) (fun hH=>?_);clear hK K;refine wpAnyH_ready (rs:=[5]) (by kernel_rfl) (by simp) (AllReadyH.cons (o:=.mk (some 18) (.call _) _ _ _ _) rfl (fun K hK=>?_) AllReadyH.nil)
   go_simp
   go_at_call 173
   refine(HP lP (cq.perm List.perm_middle) qi iy).mono ?_;rintro e W4 ⟨M4,v4,rfl,pY,jd,yc⟩
   go_wp2_with fail
   refine hK.out _ _ (HK pY jd) (fun hH=>?_);clear hK K;refine wpAnyH_ready (rs:=[6]) (by kernel_rfl) (by simp) (AllReadyH.cons (o:=.mk (some 4) (.assign _) _ _ _ _) rfl (fun K hK=>?_) AllReadyH.nil)
   go_simp
   refine hK.out _ _ (HK pY jd) (fun hH=>wpAnyH_done (by kernel_rfl) ?_ _);clear hK K
   go_wp2
   go_ret
   exact⟨M4,.ret _,q,Ds.trans pY,jd,Wk.sl _ _ yc,rfl,rfl⟩
end Go.Proofs.YtmemninechdogaaGreatDoor
namespace Go.Proofs.YtmemninechdogaaGreatDoor
open _root_.Go.Proofs.Tryz
open Go.Sx Go.Proofs Go.Tb
theorem len_nil{y:Type}(l:List y):((l.length:Int)=0)=(l=[]):=by
 cases l with
 |nil=>simp|cons a l=>simp;omega
theorem RR(t:aO):Pure prog 71 [.agg t.cells] (.v (.bool (decide (ui t)))):=by
 refine QK.p fun q=>?_;repeat'(first|exact .nil|refine .k ?_|grind|refine .r1 ?_ ?_|(refine .m1 ?_ ?_;intro b)|(refine .m2 ?_ ?_;intro hlen)|fail)
 refine Sx.Fin.intro Zs (bd ?_);simp only[ui,len_nil,Z6,ZQ,XQ]
theorem RP(f:aj):Pure prog 68 [.agg f.cells] (.v (.bool (decide (ant f)))):=by
 refine QJ.p fun q=>?_;repeat'(first|exact .nil|refine .k ?_|simp_all|refine .k ?_|refine .r1 ?_ ?_|refine .l1 fun b=>?_|(refine .m1 ?_ ?_;intro b)|(refine .m2 ?_ ?_;intro hlen)|fail)
 all_goals(try simp only[BL]at*)
 refine Sx.Fin.intro Zs (bd ?_);simp only[ant,len_nil,Z6,ZQ,XQ]
theorem Su(x:dY):Pure prog 67 [.agg x.cells] (.v (.bool (decide (x.name=eS/\ant x.feature)))):=by
 refine k67.p fun q=>?_;repeat'(first|exact .nil|refine .k ?_|grind|refine .r1 ?_ ?_|(refine .m1 ?_ ?_;intro b)|refine .an rfl (by intro ar;exact RP x.feature) ?_ ?_|fail)
 refine Sx.Fin.intro Zs (bd ?_);grind
theorem aiJ(x:dY):Pure prog 70 [.agg x.cells] (.v (.bool (decide (x.name=eS/\ui x.table)))):=by
 refine k70.p fun q=>?_;repeat'(first|exact .nil|refine .k ?_|grind|refine .r1 ?_ ?_|(refine .m1 ?_ ?_;intro b)|refine .an rfl (by intro ar;first|exact RR x.table|fail) ?_ ?_|fail)
 refine Sx.Fin.intro Zs (bd ?_);grind
theorem Ks(x:dY):Pure prog 73 [.agg x.cells] (.v (.bool (decide (ui x.table/\ant x.feature)))):=by
 refine QM.p fun q=>?_;repeat'(first|exact .nil|refine .k ?_|grind|refine .r1 ?_ ?_|(refine .m1 ?_ ?_;intro b)|refine .an rfl (by intro ar;first|exact RR x.table|exact RP x.feature) ?_ ?_|fail)
 refine Sx.Fin.intro Zs (bd ?_);grind
abbrev cZ(r:ay×Int):AV:=.aG [.agg r.1.cells,iv r.2]
theorem D9(l:List aj)(n:ae):firstIdx (fun x:aj=>decide (x.name=n)) l 0= -1\/∃i:Nat,i<l.length/\firstIdx (fun x:aj=>decide (x.name=n)) l 0=(i:Int):=by
 rcases vf (fun x=>decide (x.name=n)) l 0 with⟨_,h⟩|⟨i,h1,h2,_⟩
 .grind
 grind
theorem ab6(c:ay)(x:dY)(hn:c.aD.length<=100000):Pure prog 75 [.agg c.cells,.agg x.cells] (cZ (s9 c x.name)):=by
 have hf:=xw c.aD x.name;unfold s9 dN;rcases D9 c.aD x.name with h2|⟨i,h0,h2⟩
 all_goals
  rw[h2]at hf|-;refine k75.p fun q=>?_;repeat'(first|exact .nil|refine .k ?_|(refine .cd ?_ ?_<;>intro hc)|refine .r1 ?_ ?_|refine .l1 fun b=>?_|(refine .m1 ?_ ?_;intro b)|refine .an rfl (by intro ar;first|exact hf|exact wL _ _ h0 hn) ?_ ?_|fail)
  all_goals(try simp only[BL]at*)
 .exact Zw
 .exfalso;omega
 .exfalso;omega
 .rw[Z9 hc];exact Zw
theorem ab7(c:ay)(x:dY)(hn:c.aD.length<=100000)(hm:c.features.length<=100000)(hp:c.past.length<=100000):Pure prog 72 [.agg c.cells,.agg x.cells] (cZ (xp c x.name)):=by
 have hf:=xw c.aD x.name;have hg:=xw c.features x.name;unfold xp dN;rcases D9 c.aD x.name with h2|⟨i,h0,h2⟩
 .rw[h2]at hf|-;refine QL.p fun q=>?_;repeat'(first|exact .nil|refine .k ?_|(refine .cd ?_ ?_<;>intro hc)|refine .r1 ?_ ?_|refine .l1 fun b=>?_|(refine .m1 ?_ ?_;intro b)|refine .t1 ?_ ?_ ?_|refine .an rfl (by intro ar;first|exact hf|fail) ?_ ?_|fail)
  try any_goals(exact Zo)
  all_goals(try simp only[BL]at*)
  .exact Zw
  .exfalso;omega
 have hd:∀k,(c.features.take k++c.features.drop (k+1)).length<=100000:=fun k=>by simp;omega
 rcases D9 c.features x.name with h3|⟨k,g0,h3⟩
 all_goals
  rw[h2]at hf|-;rw[h3]at hg|-;refine QL.p fun q=>?_;repeat'(first|exact .nil|refine .k ?_|(refine .cd ?_ ?_<;>(intro hc;first|exact kt hc (by assumption)|skip))|refine .r1 ?_ ?_|refine .l1 fun b=>?_|(refine .m1 ?_ ?_;intro b)|refine .t1 ?_ ?_ ?_|refine .an rfl (by intro ar;first|exact hf|exact hg|exact wL _ _ h0 hn|exact wL _ _ g0 hm|exact ph _ _ hm|exact ph _ _ hp|exact ph _ _ (hd k)) ?_ ?_|fail)
  try any_goals(exact Zo)
  all_goals(try simp only[BL]at*)
 .exfalso;omega
 .rw[Z9 (by omega),Z9 (by decide)];exact Zw
 .exfalso;omega
 .rw[Z9 (by omega),Z3 (by omega)];exact Zw
 .exfalso;omega
theorem Q2(n:ae)(g:aj):∀(l:List aj) (k:Nat) (o:Int),gn n (l++[g]) k o=if g.name=n then((k+l.length:Nat):Int)else gn n l k o
 |[],k,o=>by rfl|a::l,k,o=>by rw[ZB,gn,Q2 n g l,gn,ZY,show k+1+l.length=k+(l.length+1) by omega]
theorem ahl{n:ae}{l:List aj}{j:Nat}(h:j<l.length)(o:Int):gn n (l.take (j+1)) 0 o=if(l.getD j default).name=n then(j:Int)else gn n (l.take j) 0 o:=by rw[ZU h,Q2,ZH,ZL,Ys (Nat.le_of_lt h),getD_eq h]
abbrev tri(b2 b3 b4:Nat)(c:ay)(x:dY)(q:Store):Store:=(4,b4,.cells [NO,NO,NO,NO])::(3,b3,.cells x.cells)::(2,b2,.cells c.cells)::q
theorem ajj(c:ay)(x:dY)(hn:c.aD.length<=100000)(hm:c.features.length<=100000)(hp:c.past.length<=100000):Pure prog 74 [.agg c.cells,.agg x.cells] (cZ (yB c x.name)):=by
 have hf:=xw c.aD x.name;have hg:=xw c.features x.name;have hd:∀k,(c.features.take k++c.features.drop (k+1)).length<=100000:=fun k=>by simp;omega
 unfold yB;rcases D9 c.features x.name with h3|⟨i,g0,h3⟩
 .rw[show dN c.features x.name= -1 from h3];rw[h3]at hg;refine QN.p fun q=>?_;repeat'(first|exact .nil|refine .k ?_|(refine .cd ?_ ?_<;>intro hc)|refine .r1 ?_ ?_|refine .l1 fun b=>?_|(refine .m1 ?_ ?_;intro b)|(refine .m2 ?_ ?_;intro hlen)|refine .an rfl (by intro ar;first|exact hg|fail) ?_ ?_|fail)
  all_goals(try simp only[BL]at*)
  .exact Zw
  .exfalso;omega
 rw[show dN c.features x.name=i from h3];rw[h3]at hg;have fM:¬(i:Int)<0:=by omega
 rw[Z9 fM];refine QN.p fun q=>?_;repeat'(first|exact .nil|refine .k ?_|(refine .cd ?_ ?_<;>intro hc)|refine .r1 ?_ ?_|refine .l1 fun b=>?_|(refine .m1 ?_ ?_;intro b)|(refine .m2 ?_ ?_;intro hlen)|refine .an rfl (by intro ar;first|exact hg|fail) ?_ ?_|fail)
 all_goals(try simp only[BL]at*)
 .exfalso;omega
 rename_i b2 b3;refine aP (fun m rg af=>∃j:Nat,j<=c.past.length/\m=c.past.length-j/\af=tri b2 b3 b c x q/\rg=[(2,.lp 2 b2 0),(3,.lp 3 b3 0),(4,.lp 4 b 0),(6,iv i),(7,iv (gn x.name (c.past.take j) 0 (-1))),(19,.sl false 18 (c.past.map aj.cells)),(20,iv c.past.length),(21,iv j)]) c.past.length rfl ⟨_,_,Zr,Zs,0,Z4 _,rfl,rfl,rfl⟩ ?_;rintro m _ _ ⟨j,hj,AB,rfl,rfl⟩;rcases YN j c.past.length with az|vG
 .have hs:=ahl (n:=x.name) az (-1);repeat'(first|exact .nil|refine .k ?_|(refine .cd ?_ ?_<;>intro hc)|refine .r1 ?_ ?_|refine .l1 fun b=>?_|refine .t1 ?_ ?_ ?_|refine .an rfl (by intro ar;first|exact hf|exact wL _ _ g0 hm|exact ph _ _ hn|exact ph _ _ (hd i)) ?_ ?_|fail)
  try any_goals(exact Zo)
  all_goals(try simp only[BL]at*)
  any_goals(exfalso;omega)
  .rw[Z3 hc]at hs;exact⟨c.past.length-(j+1),by omega,_,_,Zr,Zs,j+1,by omega,rfl,rfl,by rw[hs,bj (n:=c.past.length) (by omega) (by assumption)]⟩
  .rw[Z9 hc]at hs;exact⟨c.past.length-(j+1),by omega,_,_,Zr,Zs,j+1,by omega,rfl,rfl,by rw[hs,bj (n:=c.past.length) (by omega) (by assumption)]⟩
 obtain rfl:j=c.past.length:=by omega
 rw[Yb];rcases Int.lt_or_le (gn x.name c.past 0 (-1)) 0 with hold|hold
 .generalize gn x.name c.past 0 (-1)=old at*;rw[Z3 (.inl hold)];repeat'(first|exact .nil|refine .k ?_|(refine .cd ?_ ?_<;>intro hc)|refine .r1 ?_ ?_|refine .l1 fun b=>?_|refine .t1 ?_ ?_ ?_|refine .an rfl (by intro ar;first|exact hf|exact wL _ _ g0 hm|exact ph _ _ hn|exact ph _ _ (hd i)) ?_ ?_|fail)
  try any_goals(exact Zo)
  all_goals(try simp only[BL]at*)
  any_goals(exfalso;first|omega|fail)
  exact Zw
 have p0:=(A8 (n:=x.name) (l:=c.past) (by omega)).1;obtain⟨p,mQ⟩:∃p:Nat,gn x.name c.past 0 (-1)=p:=⟨(gn x.name c.past 0 (-1)).toNat,by omega⟩
 have p1:p<c.past.length:=by omega
 rw[mQ]at*;unfold dN;repeat'(first|exact .nil|refine .k ?_|(refine .cd ?_ ?_<;>intro hc)|refine .r1 ?_ ?_|refine .l1 fun b=>?_|refine .t1 ?_ ?_ ?_|refine .an rfl (by intro ar;first|exact hf|exact wL _ _ g0 hm|exact wL _ _ p1 hp|exact ph _ _ hn|exact ph _ _ (hd i)) ?_ ?_|fail)
 try any_goals(exact Zo)
 all_goals(try simp only[BL]at*)
 any_goals omega
 .rw[Z3 (by grind)];exact Zw
 .rw[Z9 (by grind)];exact Zw
theorem Sz(n:ae)(g:aj):∀(l:List aj) (v:Int),lA n (l++[g]) v=(lA n l v).bind fun v=>if g.name=n/\1099511627776<=g.version then none else some (if g.name=n then(if IntKind.i64.wrap (g.version+1)>v then IntKind.i64.wrap (g.version+1)else v)else v)
 |[],v=>rfl|a::l,v=>by
  rw[ZB,lA,lA];split
  .rfl
  .exact Sz n g l _
theorem Sy(n:ae):∀(l m:List aj) (v:Int),lA n l v=none->lA n (l++m) v=none
 |[],m,v,h=>by cases h|a::l,m,v,h=>by
  rw[ZB,lA];rw[lA]at h;split
  .rfl
  .rename_i hc;rw[Z9 hc]at h;exact Sy n l m _ h
theorem aiN{n:ae}{l:List aj}{j:Nat}(h:j<l.length){v0 v:Int}(hv:lA n (l.take j) v0=some v):lA n (l.take (j+1)) v0=if(l.getD j default).name=n/\1099511627776<=(l.getD j default).version then none else some (if(l.getD j default).name=n then(if IntKind.i64.wrap ((l.getD j default).version+1)>v then IntKind.i64.wrap ((l.getD j default).version+1)else v)else v):=by rw[ZU h,Sz,hv,getD_eq h];rfl
theorem aiO(hT:mA)(hO:mz)(c:ay)(x:dY)(hs:x.feature.body.size<=100000)(hn:c.aD.length<=100000)(hm:c.features.length<=100000)(hp:c.past.length<=100000):Pure prog 69 [.agg c.cells,.agg x.cells] (cZ (nY c x.feature)):=by
 have hf:=xw c.aD x.feature.name;have hF:=NY hT hO c x.feature hs;have Pc:=abk c.features c.past hm hp;unfold nY dN;generalize mJ c x.feature=er at*;obtain⟨L,hL⟩:∃L,L=c.features++c.past:=⟨_,rfl⟩
 rw[<-hL]at Pc|-;have hLl:L.length<=200000:=by rw[hL,Z7];omega
 clear hL;refine k69.p fun q=>?_;repeat'(first|exact .nil|refine .k ?_|(refine .cd ?_ ?_<;>intro hc)|refine .r1 ?_ ?_|refine .l1 fun b=>?_|(refine .m1 ?_ ?_;intro b)|(refine .m2 ?_ ?_;intro hlen)|refine .an rfl (by intro ar;first|exact hf|exact hF|(refine(Pc).wk ?_;(repeat' first|exact .refl _|refine .cons ?_ ?_|exact .sl|fail);done)|fail) ?_ ?_|fail)
 all_goals(try simp only[BL]at*)
 .rw[Z3 hc];exact Zw
 .rename_i bC;rw[Z9 (by simpa using bC),Z3 (by omega)];exact Zw
 .rename_i bC bO;rw[Z9 (by simpa using bC),Z9 (by omega),Z3 hc];exact Zw
 any_goals(show _<=1000000;simp only[ZY,ZP];omega)
 rename_i b2 b3 b4 bC bO;rw[Z9 (by simpa using bC),Z9 (by omega),Z9 (by simpa using hc)];refine aP (fun m rg af=>∃(j:Nat) (v:Int),j<=L.length/\m=L.length-j/\lA x.feature.name (L.take j) 1=some v/\af=(6,b,.cells (x.feature.gL v).cells)::(4,b4,.cells [NO,NO,NO,NO])::(2,b2,.cells c.cells)::q/\rg=[(2,.lp 2 b2 0),(4,.lp 4 b4 0),(6,.lp 6 b 0),(36,.sl false 18 (L.map aj.cells)),(37,iv L.length),(38,iv j)]) L.length rfl ⟨_,_,Zr,Zs,0,1,Z4 _,rfl,rfl,rfl,rfl⟩ ?_;clear bC bO hc;rintro m _ _ ⟨j,v,hj,AB,hv,rfl,rfl⟩;rcases YN j L.length with az|vG
 .have hs:=aiN az hv;repeat'(first|exact .nil|refine .k ?_|(refine .cd ?_ ?_<;>intro hc)|refine .r1 ?_ ?_|refine .l1 fun b=>?_|refine .t1 ?_ ?_ ?_|refine .an rfl (by intro ar;exact ph _ (x.feature.gL v) hn) ?_ ?_|fail)
  try any_goals(exact Zo)
  all_goals(try simp only[BL]at*)
  any_goals(exfalso;omega)
  .have h:=Sy _ _ (L.drop (j+1)) _ (hs.trans (Z3 hc));rw[Y9]at h;rw[h];exact Zw
  .have h:=hs.trans (Z9 (by grind [aj.gL]));rw[Z3 (show(L.getD j default).name=x.feature.name from hc)]at h;exact⟨L.length-(j+1),by omega,_,_,Zr,Zs,j+1,_,by omega,rfl,h,rfl,by rw[bj (n:=L.length) (by omega) (by assumption)]⟩
  .have h:=hs.trans (Z9 (by grind [aj.gL]));rw[Z9 (show¬(L.getD j default).name=x.feature.name from hc)]at h;exact⟨L.length-(j+1),by omega,_,_,Zr,Zs,j+1,_,by omega,rfl,h,rfl,by rw[bj (n:=L.length) (by omega) (by assumption)]⟩
 obtain rfl:j=L.length:=by omega
 rw[Yb]at hv;rw[hv];repeat'(first|exact .nil|refine .k ?_|(refine .cd ?_ ?_<;>intro hc)|refine .r1 ?_ ?_|refine .l1 fun b=>?_|refine .t1 ?_ ?_ ?_|refine .an rfl (by intro ar;exact ph _ (x.feature.gL v) hn) ?_ ?_|fail)
 try any_goals(exact Zo)
 all_goals(try simp only[BL]at*)
 any_goals(exfalso;omega)
 exact Zw
