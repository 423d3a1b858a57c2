import Derived.Test.YtmemninechdogaaGreatDoorSet
import Derived.Test.YtmemninechdogaaGreatDoorCd
import Derived.Test.YtmemninechdogaaGreatDoorCo
set_option linter.all false
set_option maxRecDepth 100000
set_option maxHeartbeats 4000000
namespace Go.Proofs.YtmemninechdogaaGreatDoor
open _root_.Go.Proofs.Tryz
open Go.Sx Go.Proofs Go.Tb
abbrev dJ(l:List ae):AV:=.sl false 1 (l.map dq)
theorem aeu{l:List ae}{s:ae}{i:Nat}(hi:l.length<=i)(h:∀j,j<i->¬l.getD j default=s):s∉l:=fun hm=>by obtain⟨j,hj,e⟩:=Zc hm;exact h j (by omega) (by grind)
theorem aet(l:List ae)(s:ae):Pure prog 122 [dJ l,sv s] (.v (.bool (decide (s∈l)))):=by
 refine afh.p fun g=>?_;repeat'(first|exact .nil|refine .k ?_|refine .r1 ?_ ?_|fail)
 all_goals(try grind)
 refine aP (fun n rg af=>∃i:Nat,i<=l.length/\n=l.length-i/\(∀j,j<i->¬l.getD j default=s)/\af=g/\rg=[(0,dJ l),(1,sv s),(5,iv i)]) l.length rfl ⟨_,_,Zr,Zs,0,Z4 _,rfl,fun j hj=>absurd hj (by omega),rfl,rfl⟩ ?_;rintro n _ _ ⟨i,hi,hn,hp,rfl,rfl⟩;repeat'(first|exact .nil|refine .k ?_|(refine .cd ?_ ?_<;>intro hc)|refine .r1 ?_ ?_|(refine .m2 ?_ ?_;intro hlen)|refine .t1 ?_ ?_ ?_|fail)
 try any_goals(exact Zo)
 all_goals(try simp only[BL]at*)
 .have hm:s∈l:=by rw[<-hc];exact bN (by omega)
  refine Sx.Fin.intro Zs (bt ?_);exact hm
 .refine⟨l.length-(i+1),by omega,_,_,Zr,Zs,i+1,by omega,rfl,dj hp hc,rfl,by rw[bj (n:=l.length) (by omega) (by assumption)]⟩
 .refine Sx.Fin.intro Zs (bf ?_);exact aeu (by omega) hp
theorem Fl(l:List ae):((l.map dq).all fun r=>r.all AV.one)=true:=by rw[List.all_map,ZA];intro x _;rfl
theorem Ku{s:ae}:∀{l:List ae} {k:Nat},k<=l.length->(∀j,j<k->c6 (l.getD j default) s=true)->(k<l.length->¬c6 (l.getD k default) s=true)->putAt l s=k
 |[],k,h,_,_=>by simp at h;subst h;rfl|a::l,0,_,_,h=>by unfold putAt;grind|a::l,k+1,h,hp,hn=>by have h0:=hp 0 (by omega);unfold putAt;rw[Z3 (by grind),Ku (l:=l) (k:=k) (by grind) (fun j hj=>by grind) (fun hk=>by grind)]
theorem SD(l:List ae)(s:ae)(hl:l.length<=1000000):Pure prog 164 [dJ l,sv s] (dJ (dm l s)):=by
 refine afB.pc (fun d=>bif ([34]:List Nat).elem d then 1 else 0) fun g=>?_;repeat'(first|exact .nil|refine .k ?_|refine .r1 ?_ ?_|fail)
 all_goals(simp_all)
 refine aP (fun n rg af=>∃i:Nat,i<=l.length/\n=l.length-i/\(∀j,j<i->c6 (l.getD j default) s=true)/\af=g/\rg=[(0,dJ l),(1,sv s),(5,iv i)]) l.length rfl ⟨_,_,Zr,Zs,0,Z4 _,rfl,fun j hj=>absurd hj (by omega),rfl,rfl⟩ ?_;rintro n _ _ ⟨i,hi,hn,hp,rfl,rfl⟩;repeat'(first|exact .nil|refine .k ?_|omega|refine .k ?_|(refine .cd ?_ ?_<;>intro hc)|refine .r1 ?_ ?_|(refine .m2 ?_ ?_;intro hlen)|refine .t1 ?_ ?_ ?_|refine .t2 ?_ ?_ ?_|refine .t3 ?_ ?_ ?_|refine .l2 fun b=>?_|refine .u2 ?_ ?_ ?_ (fun b u c=>?_)|(show List.all _ _=true;rfl)|fail)
 try any_goals(exact Zo)
 all_goals(try simp only[BL]at*)
 any_goals((simp only[ZY,ZP,Z7,Z5,ZL,Mx,TN,TH,YB];omega))
 .refine⟨l.length-(i+1),by omega,_,_,Zr,Zs,i+1,by omega,rfl,dj hp hc.2,rfl,by rw[bj (n:=l.length) (by omega) (by assumption)]⟩
 all_goals have AG:=Ku hi hp (fun hk h=>by rename_i h1;first|(rcases h1 with h1|h1;exact h1 (by omega);unfold c6 at h;rw[h1]at h;cases h)|fail)
 .have e:=Bp l s;rw[AG,Z3 ⟨by omega,hc.2⟩]at e;rw[e];exact Zw
 .exact Fl _
 .simp only[Z7,Z5,ZL,YZ,ZY,ZP];omega
 .exact Fl _
 .have e:=Bp l s;rw[AG,Z9 (by rintro⟨h1,h2⟩;rcases hc with h|h;exact h (by omega);exact h h2)]at e;rw[e,show([]++List.map dq (List.take i l)++[[AV.v (Value.string s)]]++List.map dq (List.drop i l))=(List.take i l++[s]++List.drop i l).map dq by simp[dq]];exact Zw
theorem acY{fs:List aj}{n:ae}(h:∀j,j<fs.length->¬(fs.getD j default).name=n):findF fs n=none:=by unfold findF;rw[XD];intro x hx;obtain⟨j,hj,rfl⟩:=Zc hx;grind
theorem acW{fs:List aj}{n:ae}{i:Nat}(hi:i<fs.length)(h:∀j,j<i->¬(fs.getD j default).name=n)(hn:(fs.getD i default).name=n):findF fs n=some (fs.getD i default):=by unfold findF;rw[getD_eq hi]at hn|-;rw[Ya];grind
theorem acQ(fs:List aj)(n:ae)(o:Option aj)(h:findF fs n=o):Pure prog 226 [.sl false 18 (fs.map aj.cells),sv n] (Om o):=by
 subst h;refine afZ.p fun g=>?_;repeat'(first|exact .nil|refine .k ?_|refine .r1 ?_ ?_|refine .l1 fun b=>?_|fail)
 all_goals(try grind)
 refine aP (fun m rg af=>∃i:Nat,i<=fs.length/\m=fs.length-i/\(∀j,j<i->¬(fs.getD j default).name=n)/\af=(4,b,aE.cells Hq)::g/\rg=[(0,.sl false 18 (fs.map aj.cells)),(1,sv n),(4,.lp 4 b 0),(6,iv i)]) fs.length rfl ⟨_,_,Zr,Zs,0,Z4 _,rfl,fun j hj=>absurd hj (by omega),rfl,rfl⟩ ?_;rintro m _ _ ⟨i,hi,hn,hp,rfl,rfl⟩;repeat'(first|exact .nil|refine .k ?_|(refine .cd ?_ ?_<;>intro hc)|refine .r1 ?_ ?_|(refine .m2 ?_ ?_;intro hlen)|refine .t1 ?_ ?_ ?_|fail)
 try any_goals(exact Zo)
 all_goals(try simp only[BL]at*)
 .rw[acW (by omega) hp hc];exact Zw
 .refine⟨fs.length-(i+1),by omega,_,_,Zr,Zs,i+1,by omega,rfl,dj hp hc,rfl,by rw[bj (n:=fs.length) (by omega) (by assumption)]⟩
 .rw[acY (fun j hj=>hp j (by omega))];exact Zw
theorem SE:∀(a b:List aj) (l:List ae),kh (a++b) l=kh b (kh a l)
 |[],_,_=>rfl|_::a,b,_=>SE a b _
theorem aiZ{fs:List aj}{i:Nat}(hi:i<fs.length)(l:List ae):kh (fs.take (i+1)) l=dm (kh (fs.take i) l) (fs.getD i default).name:=by rw[ZU hi,SE,getD_eq hi];rfl
theorem ah1(c:ay)(hl:c.features.length<=1000000):Pure prog 120 [.agg c.cells] (dJ (bX c.features)):=by
 refine aff.p fun g=>?_;repeat'(first|exact .nil|refine .k ?_|refine .r1 ?_ ?_|(refine .m1 ?_ ?_;intro b)|fail)
 all_goals(try grind)
 refine aP (fun n rg af=>∃i:Nat,i<=c.features.length/\n=c.features.length-i/\af=(1,b,aE.cells c.cells)::g/\rg=[(1,.lp 1 b 0),(3,dJ (kh (c.features.take i) [])),(4,iv i)]) c.features.length rfl ⟨_,_,Zr,Zs,0,Z4 _,rfl,rfl,rfl⟩ ?_;rintro n _ _ ⟨i,hi,hn,rfl,rfl⟩;repeat'(first|exact .nil|refine .k ?_|(refine .cd ?_ ?_<;>intro hc)|refine .r1 ?_ ?_|(refine .m2 ?_ ?_;intro hlen)|refine .t1 ?_ ?_ ?_|refine .an rfl (by intro ar;exact SD (kh (c.features.take i) []) _ (by have:=Kv (c.features.take i) [];grind)) ?_ ?_|fail)
 try any_goals(exact Zo)
 all_goals(try simp only[BL]at*)
 .refine⟨c.features.length-(i+1),by omega,_,_,Zr,Zs,i+1,by omega,rfl,rfl,?_⟩;rw[aiZ (by omega),bj (n:=c.features.length) (by omega) (by assumption)]
 .rw[show bX c.features=kh (c.features.take i) [] by rw[ZM (by omega)];rfl];exact Zw
theorem Bq(l:List ae)(s:ae):(dm l s).length<=l.length+1:=by
 induction l with
 |nil=>simp[dm]|cons a l ih=>unfold dm;grind
mutual
theorem Np:∀(x:Ex) (a:List ae×List ae),(gA x a).1.length<=a.1.length+x.bH.length/\(gA x a).2.length<=a.2.length+x.dz.length
 |.mk k o n t v u p w ks,a=>by
  have ih:=CW ks (if k=3\/k=4 then(dm a.1 n,a.2)else if k=5 then(a.1,dm a.2 t)else a);rw[gA,Ex.bH,Ex.dz,Z7,Z7];have h1:=Bq a.1 n;have h2:=Bq a.2 t;by_cases h:k=3\/k=4
  .rw[Z3 h]at ih|-;have h5:¬k=5:=by omega
   simp only[Z3 h,Z9 h5,ZP,Y1]at*;omega
  .by_cases h5:k=5
   .rw[Z9 h,Z3 h5]at ih|-;simp only[Z9 h,Z3 h5,ZP,Y1]at*;omega
   .rw[Z9 h,Z9 h5]at ih|-;simp only[Z9 h,Z9 h5,ZP]at*;omega
theorem CW:∀(l:List Ex) (a:List ae×List ae),(eO l a).1.length<=a.1.length+(Ex.cX l).length/\(eO l a).2.length<=a.2.length+(Ex.bE l).length
 |[],a=>by simp[eO,Ex.cX,Ex.bE]|x::l,a=>by have h1:=Np x a;have h2:=CW l (gA x a);rw[eO,Ex.cX,Ex.bE,Z7,Z7];omega
end
theorem Nk:∀(l m:List Ex) (a:List ae×List ae),eO (l++m) a=eO m (eO l a)
 |[],_,_=>by rfl|x::l,m,a=>by rw[ZB,eO,Nk l m,eO]
theorem abP{l:List Ex}{i:Nat}(hi:i<l.length)(a:List ae×List ae):eO (l.take (i+1)) a=gA (l.getD i default) (eO (l.take i) a):=by rw[ZU hi,Nk,getD_eq hi,eO,eO]
def mF(x:Ex)(a:List ae×List ae):List ae×List ae:=if x.kind=3\/x.kind=4 then(dm a.1 x.name,a.2)else if x.kind=5 then(a.1,dm a.2 x.table)else a
theorem abQ(x:Ex)(a:List ae×List ae):gA x a=eO x.args (mF x a):=by cases x;rw[gA];rfl
theorem acw(x:Ex):x.bH=(if x.kind=3\/x.kind=4 then[x.name]else[])++Ex.cX x.args:=by cases x;rw[Ex.bH];rfl
theorem alF(x:Ex):x.dz=(if x.kind=5 then[x.table]else[])++Ex.bE x.args:=by cases x;rw[Ex.dz];rfl
theorem abN(x:Ex)(a:List ae×List ae):(mF x a).1.length+(Ex.cX x.args).length<=a.1.length+x.bH.length/\(mF x a).2.length+(Ex.bE x.args).length<=a.2.length+x.dz.length:=by have h1:=Bq a.1 x.name;have h2:=Bq a.2 x.table;rw[acw,alF,Z7,Z7];unfold mF;grind
theorem Oq(l:List Ex){i:Nat}(hi:i<l.length):(Ex.cX (l.take i)).length+(l.getD i default).bH.length<=(Ex.cX l).length/\(Ex.bE (l.take i)).length+(l.getD i default).dz.length<=(Ex.bE l).length:=by
 have e:l=l.take i++(l.getD i default::l.drop (i+1)):=by simp_all
 have aaj:∀(a b:List Ex),(Ex.cX (a++b)).length=(Ex.cX a).length+(Ex.cX b).length:=fun a=>by
  induction a with
  |nil=>simp[Ex.cX]|cons x a ih=>intro b;rw[ZB,Ex.cX,Ex.cX,Z7,Z7,ih];omega
 have aak:∀(a b:List Ex),(Ex.bE (a++b)).length=(Ex.bE a).length+(Ex.bE b).length:=fun a=>by
  induction a with
  |nil=>simp[Ex.bE]|cons x a ih=>intro b;rw[ZB,Ex.bE,Ex.bE,Z7,Z7,ih];omega
 have h1:=Zk (fun l=>(Ex.cX l).length) e;have h2:=Zk (fun l=>(Ex.bE l).length) e;simp only[aaj,aak,Ex.cX,Ex.bE,Z7]at h1 h2;omega
def B7(x:Ex):Prop:=∀(F T:List ae),F.length+x.bH.length<=1000000->T.length+x.dz.length<=1000000->Pure prog 166 [.agg x.row,dJ F,dJ T] (.aG [dJ (gA x (F,T)).1,dJ (gA x (F,T)).2])
theorem abT(x:Ex)(ih:∀i,i<x.args.length->B7 (x.args.getD i default)):B7 x:=fun F T hF hT=>by
 rw[Ex.dX x,abQ];have hd:=abN x (F,T);refine afD.p fun g=>?_;repeat'(first|exact .nil|refine .k ?_|(refine .cd ?_ ?_<;>intro hc)|refine .r1 ?_ ?_|(refine .m1 ?_ ?_;intro b)|refine .an rfl (by intro ar;first|exact SD _ _ (by omega)|fail) ?_ ?_|fail)
 try any_goals(exact Zo)
 all_goals(try simp only[BL]at*)
 .omega
 all_goals
  refine aP (fun n rg af=>∃i:Nat,i<=x.args.length/\n=x.args.length-i/\af=(3,b,aE.cells x.lay)::g/\rg=[(1,dJ (eO (x.args.take i) (mF x (F,T))).1),(2,dJ (eO (x.args.take i) (mF x (F,T))).2),(3,.lp 3 b 0),(8,iv i)]) x.args.length rfl ⟨_,_,Zr,Zs,0,Z4 _,rfl,rfl,(by
   rw[List.take_zero,eO];first
    |(rw[show mF x (F,T)=(dm F x.name,T)from Z3 (by assumption)];rfl)
    |(rw[show mF x (F,T)=(F,dm T x.table)from(Z9 (by omega)).trans (Z3 (by assumption))];rfl)
    |(rw[show mF x (F,T)=(F,T)from(Z9 (by omega)).trans (Z9 (by assumption))];rfl))⟩ ?_
  rintro n _ _ ⟨i,hi,hn,rfl,rfl⟩;have hA:=fun(h:i<x.args.length)=>ih i h (eO (x.args.take i) (mF x (F,T))).1 (eO (x.args.take i) (mF x (F,T))).2 (by have h1:=CW (x.args.take i) (mF x (F,T));have h2:=Oq x.args h;omega) (by have h1:=CW (x.args.take i) (mF x (F,T));have h2:=Oq x.args h;omega);repeat'(first|exact .nil|refine .k ?_|(refine .cd ?_ ?_<;>intro hc)|refine .r1 ?_ ?_|(refine .m2 ?_ ?_;intro hlen)|refine .t1 ?_ ?_ ?_|refine .an rfl (by intro ar;exact hA (by(simp only[BL]at*;omega))) ?_ ?_|fail)
  try any_goals(exact Zo)
  all_goals(try simp only[BL]at*)
  all_goals first
   |(refine⟨x.args.length-(i+1),by omega,_,_,Zr,Zs,i+1,by omega,rfl,rfl,?_⟩;rw[abP (by omega),bj (n:=x.args.length) (by omega) (by assumption)])
   |(rw[ZM (by omega)];(refine Sx.Fin.wk Zs ?_;repeat' first|exact .refl _|fail))
theorem Nq:∀(n:Nat) (x:Ex),x.size<=n->B7 x
 |0,x,h=>by cases x;simp[Ex.size]at h|n+1,x,h=>abT x fun k hk=>Nq n _ (by
  have:=Ex.BD x hk;omega)
theorem abS(x:Ex):B7 x:=Nq x.size x (ZO _)
end Go.Proofs.YtmemninechdogaaGreatDoor
namespace Go.Sx
theorem Wk.Db{ez:Nat}{rows rows':List (List AV)}{nn:Bool}(h:rows=rows'):Wk (.fl ez rows) (.sl nn ez rows'):=h ▸ fun _ _ h=>h.HT nn
end Go.Sx
namespace Go.Proofs.YtmemninechdogaaGreatDoor
open Go.Sx Go.Proofs Go.Tb
mutual
def Fp:Ex->Int->Int
 |.mk _ _ _ _ _ _ _ _ ks,m=>uz ks m 1
def uz:List Ex->Int->Int->Int
 |[],_,n=>n|x::l,m,n=>if n<=m then uz l m (n+Fp x (m-n))else n
end
mutual
theorem alu:∀(x:Ex) (m:Int),Fp x m<=m->(x.size:Int)=Fp x m
 |.mk _ _ _ _ _ _ _ _ ks,m,h=>by rw[Fp]at h|-;rw[Ex.size];have:=Fq ks m 1 h;omega
theorem Fq:∀(l:List Ex) (m n:Int),uz l m n<=m->uz l m n=n+(Ex.c8 l:Int)
 |[],m,n,h=>by rw[uz,Ex.c8];simp|x::l,m,n,h=>by
  rw[uz]at h|-;by_cases hn:n<=m
  .rw[Z3 hn]at h|-;have h1:=Fq l m _ h;have h2:=alu x (m-n) (by have:0<=(Ex.c8 l:Int):=Int.natCast_nonneg _;omega);rw[h1,Ex.c8];omega
  .rw[Z9 hn]at h;omega
end
mutual
theorem zM:∀x:Ex,x.bH.length<=x.size/\x.dz.length<=x.size
 |.mk k _ n t _ _ _ _ ks=>by
  have h:=NW ks;rw[Ex.bH,Ex.dz,Ex.size,Z7,Z7];have h1:(if k=3\/k=4 then[n]else[]).length<=1:=by split<;>simp
  have h2:(if k=5 then[t]else[]).length<=1:=by split<;>simp
  omega
theorem NW:∀l:List Ex,(Ex.cX l).length<=Ex.c8 l/\(Ex.bE l).length<=Ex.c8 l
 |[]=>by simp[Ex.cX,Ex.bE,Ex.c8]|x::l=>by have h1:=zM x;have h2:=NW l;rw[Ex.cX,Ex.bE,Ex.c8,Z7,Z7];omega
end
def ay.all(c:ay):List aj:=c.features++c.aD++c.past
structure Small(c:ay):Prop where
 t:c.tables.length<=40
 f:c.features.length<=40
 d:c.aD.length<=40
 p:c.past.length<=40
 n:uz (c.all.map aj.body) 2000 0<=2000
theorem ak1(c:ay):Small c↔(c.tables.length<=40/\c.features.length<=40/\c.aD.length<=40/\c.past.length<=40/\uz (c.all.map aj.body) 2000 0<=2000):=⟨fun h=>⟨h.t,h.f,h.d,h.p,h.n⟩,fun⟨a,b,c,d,e⟩=>⟨a,b,c,d,e⟩⟩
instance (c:ay):Decidable (Small c):=decidable_of_iff _ (ak1 c).symm
theorem Hr(l:List aj):((l.map aj.cells).all fun r=>r.all AV.one)=true:=by rw[List.all_map,ZA];intro x _;rfl
end Go.Proofs.YtmemninechdogaaGreatDoor
namespace Go.Sx
section
variable {P:Program}[Glob P]{cfg:Nat->Nat}{K:ag->Store->Prop}{E:List PanicEntry->Store->Prop}{g:Store}{l:List CI}{d:Nat}{xr:XR}{ps:List Prop}{aq cf:List Nat}{ix:Nat}{ld:List CD}{og:Option Bool}
theorem VX.u4{t:TypeId}{ah bytes:Nat}{z:List Value}{x y:Operand}{w:AV}{r:List AV}{rows rs:List (List AV)}(aw:OB ps)(hb:(rows.length+(r::rs).length)*bytes<=35184372088832)(k:∀b u c,VX P cfg l K E ((d,.s (.own ah d b u c (rows++r::rs)))::xr) ((d,b,.tail u c)::g))(h:wa xr none [x,y]=some (og,[.fl ah rows,w],ps):=by exact rfl)(hw:dH ah w=some (r::rs):=by exact rfl):VX P cfg (⟨some d,.append t ah bytes z x y,none⟩::l) K E xr g:=Mk h hw aw hb (fun e=>nomatch e) fun _=>k
theorem VY.u4{t:TypeId}{ah bytes:Nat}{z:List Value}{x y:Operand}{w:AV}{r:List AV}{rows rs:List (List AV)}(aw:OB ps)(hb:(rows.length+(r::rs).length)*bytes<=35184372088832)(k:∀b u c,VY P cfg aq ld K ((d,.s (.own ah d b u c (rows++r::rs)))::xr) ((d,b,.tail u c)::g))(h:wa xr none [x,y]=some (og,[.fl ah rows,w],ps):=by exact rfl)(hw:dH ah w=some (r::rs):=by exact rfl)(ha:aq.elem d=true:=by exact rfl):VY P cfg aq (⟨ix,⟨some d,.append t ah bytes z x y,none⟩,cf⟩::ld) K xr g:=Mp h hw ha aw hb (fun e=>nomatch e) fun _=>k
theorem VY.u5{ah tg b u c:Nat}{x y:Operand}{hv:AV}{h:Int}{rows:List (List AV)}(aw:OB ps)(hb:0<=h/\h<=rows.length)(k:VY P cfg aq ld K ((d,.s (.own ah tg b u c (rows.drop h.toNat)))::xr) g)(ha:wa xr none [x,y]=some (og,[.own ah tg b u c rows,hv],ps):=by exact rfl)(hi:iT hv=some h:=by exact rfl):VY P cfg aq (⟨ix,⟨some d,.slice ah x (some y) none,none⟩,cf⟩::ld) K xr g:=by
 obtain⟨_,he⟩:=cC ha;obtain⟨bD,h',_,_⟩:=ie ha;have cO:og=none:=by grind
 subst cO;have:=he aw rfl;simp only[aL,Z2,Zn]at this;obtain⟨q,hq⟩:=rI hi;constructor;simp only[da,c9,cy,aB.cls,aM,ak,Option.map_none,ZJ,this.1,this.2,iS,hq,Xq,Zm];exact⟨trivial,hb.1,hb.2,Int.le_refl _,k.h⟩
end
end Go.Sx
namespace Go.Proofs.YtmemninechdogaaGreatDoor
open Go.Sx Go.Proofs Go.Tb
abbrev s0:ae:=⟨#[]⟩
abbrev sA:ae:=⟨#[97]⟩
abbrev sD:ae:=⟨#[100]⟩
abbrev sU:ae:=⟨#[117,115,101,114]⟩
abbrev sT:ae:=⟨#[99,108,105,99,107,115]⟩
abbrev sN:ae:=⟨#[99,111,117,110,116]⟩
abbrev NO:AV:=.v (.slice none 0 0)
def UW:Ex:=⟨1,s0,s0,s0,⟨1,1,s0⟩,[],0,⟨0,0⟩,[]⟩
theorem abU{x:Ex}{l:List ae}(h:bI l)(e:x.bH=l):ny x=l:=qA (Nj x) h fun s=>by rw[Ni,e]
structure UR(fs:List aj)(x:Ex)(F T:List ae):Prop where
 sf:bI F
 st:bI T
 rf:∀m∈F,Reach fs x.bH m
 rt:∀m∈T,zi fs x.bH x.dz m
 bf:∀m∈x.bH,m∈F
 bt:∀m∈x.dz,m∈T
def UD(fs:List aj)(now F T:List ae):Prop:=∀m∈now,∀f,findF fs m=some f->(∀s∈f.body.bH,s∈F)/\∀s∈f.body.dz,s∈T
variable {fs:List aj}{x:Ex}{F T:List ae}
theorem UR.start(fs:List aj)(x:Ex):UR fs x (gA x ([],[])).1 (gA x ([],[])).2:=by have hm:=CX x ([],[]);have hs:=CY x ([],[]) qB qB;exact⟨hs.1,hs.2,fun m h=>.base (by grind),fun m h=>.inl (by grind),fun m h=>(hm.1 m).2 (.inl h),fun m h=>(hm.2 m).2 (.inl h)⟩
theorem UR.step{n:ae}{f:aj}(h:UR fs x F T)(hn:n∈F)(hf:findF fs n=some f):UR fs x (gA f.body (F,T)).1 (gA f.body (F,T)).2:=by
 have hm:=CX f.body (F,T);have hs:=CY f.body (F,T) h.sf h.st;refine⟨hs.1,hs.2,fun m k=>?_,fun m k=>?_,fun m k=>(hm.1 m).2 (.inr (h.bf m k)),fun m k=>(hm.2 m).2 (.inr (h.bt m k))⟩
 .rcases(hm.1 m).1 k with k|k
  .exact .step (h.rf n hn) hf k
  .exact h.rf m k
 .rcases(hm.2 m).1 k with k|k
  .exact .inr ⟨n,f,h.rf n hn,hf,k⟩
  .exact h.rt m k
structure UI(fs:List aj)(x:Ex)(now:List ae)(i:Nat)(F T:List ae):Prop where
 u:UR fs x F T
 s:∀m∈now,m∈F
 d:UD fs (now.take i) F T
theorem UI.no{now:List ae}{i:Nat}(h:UI fs x now i F T)(hi:i<now.length)(hf:findF fs (now.getD i default)=none):UI fs x now (i+1) F T:=by
 refine⟨h.u,h.s,fun m hm f x9=>?_⟩;rw[ZU hi,ZI,Zd]at hm;rcases hm with hm|rfl
 .exact h.d m hm f x9
 grind
def UO(fs:List aj)(x:Ex)(n:Int)(F T:List ae):Prop:=UR fs x F T/\(n= -1\/∃now:List ae,bI now/\n=now.length/\(∀m∈now,m∈F)/\UD fs now F T)
theorem UO.done{n:Int}(h:UO fs x n F T)(hn:n=F.length):Uc fs x=F/\Ud fs x=T:=by
 obtain⟨hu,nI⟩:=h;obtain⟨now,h1,h2,h3,h4⟩:∃now:List ae,bI now/\n=now.length/\(∀m∈now,m∈F)/\UD fs now F T:=by grind
 have he:now=F:=ala h1 hu.sf h3 (by omega);subst he;obtain⟨k1,k2⟩:=SS hu.bf hu.bt hu.rf hu.rt h4;exact⟨Fc hu.sf k1,Fc hu.st k2⟩
theorem UO.lt{n:Int}(h:UO fs x n F T)(hn:n≠F.length):n<F.length:=by
 obtain⟨hu,rfl|⟨now,h1,h2,h3,h4⟩⟩:=h
 .omega
 .have:=jh (Fe h1) h3;omega
theorem UI.out{now:List ae}(hs:bI now)(h:UI fs x now now.length F T):UO fs x now.length F T:=
 ⟨h.u,.inr ⟨now,hs,rfl,h.s,by have:=h.d;grind⟩⟩
abbrev ej:AV:=.v (.slice none 0 0)
theorem abR(x:Ex)(h1:x.bH.length<=1000000)(h2:x.dz.length<=1000000):Pure Tryz.prog 166 [.agg x.row,ej,ej] (.aG [dJ (ny x),dJ (Nr x)]):=
 (abS x [] [] (by grind) (by grind)).wk (.cons (Wk.refl _) (.cons .nil (.cons .nil .nil)))
theorem KY:∀(a b:List Ex),Ex.c8 (a++b)=Ex.c8 a+Ex.c8 b
 |[],b=>by rw[Zf,Ex.c8];omega|x::a,b=>by rw[ZB,Ex.c8,Ex.c8,KY a b];omega
theorem Small.size{c:ay}(h:Small c):Ex.c8 (c.features.map aj.body)<=2000:=by have h1:=h.n;have h2:=Fq _ _ _ h1;rw[h2]at h1;unfold ay.all at h1;rw[Zl,Zl,KY,KY]at h1;omega
mutual
theorem LN:∀(x:Ex) (s:ae),(s∈x.bH\/s∈x.dz)->s.size<=x.wt
 |.mk k o n t v _ _ _ ks,s,h=>by
  have ih:=UP ks s;rw[Ex.wt];rw[Ex.bH,Ex.dz,ZI,ZI]at h;have e1:s∈(if k=3\/k=4 then[n]else[])->s=n:=fun h=>by split at h<;>simp_all
  have e2:s∈(if k=5 then[t]else[])->s=t:=fun h=>by split at h<;>simp_all
  rcases h with(h|h)|(h|h)
  .obtain rfl:=e1 h;omega
  .have:=ih (.inl h);omega
  .obtain rfl:=e2 h;omega
  .have:=ih (.inr h);omega
theorem UP:∀(l:List Ex) (s:ae),(s∈Ex.cX l\/s∈Ex.bE l)->s.size<=Ex.sE l
 |[],s,h=>by simp[Ex.cX,Ex.bE]at h|x::l,s,h=>by
  have h1:=LN x s;have h2:=UP l s;rw[Ex.cX,Ex.bE,ZI,ZI]at h;rw[Ex.sE];rcases h with(h|h)|(h|h)
  .have:=h1 (.inl h);omega
  .have:=h2 (.inl h);omega
  .have:=h1 (.inr h);omega
  .have:=h2 (.inr h);omega
end
structure ay.Fits(c:ay):Prop where
 n:∀f∈c.features,f.name.size<=2^60
 b:∀f∈c.features,f.body.wt<=2^60
