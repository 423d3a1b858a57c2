import Derived.Test.YtmemninechdogaaGreatDoorPc
set_option linter.all false
set_option maxRecDepth 100000
set_option maxHeartbeats 4000000
namespace Go.Proofs.YtmemninechdogaaGreatDoor
open Go.Sx Go.Proofs
theorem parts{x:Ex}{ins:Bool}(h:F4 x ins):
  (x.kind=1->wh x/\x.args.length=0)/\(x.kind=2\/x.kind=3->uf x/\x.args.length=0)/\(x.kind=4->uf x/\x.args.length=1)/\(x.kind=5->uR x/\x.args.length=2)
  /\(x.kind=6->x.args.length=1/\∃y∈uC,x.op=y)/\(x.kind=7->x.args.length=2/\∃y∈pL,x.op=y)/\(x.kind=8->x.args.length=3)/\(x.kind=9->x.args.length=2):=by
 have hb:=h.nb;have hn:=h.nn;unfold nS at hb;unfold j8 at hn;refine⟨fun e=>?_,fun e=>?_,fun e=>?_,fun e=>?_,fun e=>?_,fun e=>?_,fun e=>?_,fun e=>?_⟩;all_goals grind
end Go.Proofs.YtmemninechdogaaGreatDoor
namespace Go.Sx
structure At(P:Program)[Glob P](f:FuncId)(xs:List AV)(r:AV)(σ:Store):Prop where
 sp:Spec P f xs σ fun r' af=>r'= .ret r/\af=σ
theorem At.wk{P:Program}[Glob P]{f:FuncId}{xs bs:List AV}{r:AV}{σ:Store}(h:At P f bs r σ)(hw:cj xs bs):At P f xs r σ:=
 ⟨fun M w0 w cs hI hR=>h.sp M w0 w cs hI (hw.sound hR)⟩
theorem MJ{P:Program}[Glob P]{f:FuncId}{xs:List AV}{σ:Store}{K:AV->Store->Prop}{E:List PanicEntry->Store->Prop}{r:AV}(h:At P f xs r σ)(k:K r σ):pA P f xs σ K E:=
 ⟨_,h.sp,fun _ _ ⟨e,e'⟩=>by grind,fun _ _ ⟨e,_⟩=>by cases e⟩
theorem At.Bz{P:Program}[Glob P][ij P]{f:FuncId}{fn:Func}{fc:FC}{xs:List AV}{r:AV}{σ:Store}{a:AC}(cfg:Nat->Nat)(hf:P.funcs[f]? =some fn)(hc:j0 P fn=some fc)(ha:fc.code=a.erase)(hlen:xs.length<=fc.N)
  (h:WK P fc.N cfg (ni fc.res r σ) a [] (fJ 0 xs) σ):At P f xs r σ:=by
 have h1:=h.h.h;rw[<-ha]at h1;refine⟨?_⟩;have:=Spec.intro (Q:=fun r' af=>∃x,r'= .ret x/\Wk x r/\Sub σ af) hf hc hlen (h1.mono (fun e rg af hq=>by
  cases e with
  |normal=>obtain⟨x,h1,h2,h3⟩:=hq;exact⟨x,h1,x,rfl,h2,h3⟩
  |ret=>obtain⟨x,h1,h2,h3⟩:=hq;exact⟨x,h1,x,rfl,h2,h3⟩
  |_=>exact hq.elim))
 refine this.weak ?_;grind
theorem _root_.Go.Sx.gy.a{P:Program}[Glob P][ij P]{f:FuncId}{N:Nat}{res:List RC}{xs:List AV}{r:AV}{σ:Store}{a:AC}(k:gy P f N a res)(h:WK P N (fun _=>0) (ni res r σ) a [] (fJ 0 xs) σ)(hl:Nat.ble xs.length N=true:=by exact rfl):At P f xs r σ:=by obtain⟨fn,h1,h2⟩:=k.ex;exact At.Bz (fc:=⟨N,a.erase,res⟩) (a:=a) _ h1 h2 rfl (ZE hl) h
section
variable {P:Program}[Glob P]{cfg:Nat->Nat}{K:ag->Store->Prop}{E:List PanicEntry->Store->Prop}{σ:Store}{l:List CI}{d:Nat}{v:AV}{xr:XR}{ps:List Prop}{g:Option (Nat×Bool)}{og:Option Bool}{xs:List AV}{args:List Operand}
theorem Ck{f:FuncId}{r:AV}(h:aT xr g args=some (og,xs,ps))(hp:og.getD true=true->At P f xs r σ)(aw:OB ps)(k:VX P cfg l K E (bQ og d r xr) σ):VX P cfg (⟨some d,.call f args,g⟩::l) K E xr σ:=by
 obtain⟨hc,he⟩:=cC h;refine jW hc (fun hg=>?_) (fun hg=>?_)
 .simp only[ak,he aw hg];refine MJ (hp hg) ?_;rw[<-fU hg];exact k.h
 .rw[<-fT hg (v:=r)];exact k.h
theorem Mm{f:FuncId}{r fv:AV}{fo:Operand}{a c:Array Value}(h:aT xr g (fo::args)=some (og,fv::xs,ps))(hf:zS fv=some (f,a,c))(bL:im P f=true)(hp:og.getD true=true->At P f (a.toList.map .v++xs++c.toList.map .v) r σ)(aw:OB ps)(k:VX P cfg l K E (bQ og d r xr) σ):
  VX P cfg (⟨some d,.fZ fo args,g⟩::l) K E xr σ:=by
 obtain⟨hc,he⟩:=cC h;refine jW hc (fun hg=>?_) (fun hg=>?_)
 .have:=he aw hg;simp only[aL,Z2]at this;simp only[ak,this.1,this.2,HW hf];refine⟨bL,MJ (hp hg) ?_⟩;rw[<-fU hg];exact k.h
 .rw[<-fT hg (v:=r)];exact k.h
end
theorem Wk.ptr(t b o:Nat):Wk (.v (.pointer (some ⟨b,o,none⟩))) (.lp t b o):=fun M x h=>by obtain rfl:=h.aC;exact .lp t b o
end Go.Sx
namespace Go.Proofs.YtmemninechdogaaGreatDoor
open _root_.Go.Proofs.Tryz
open Go.Sx Go.Proofs
theorem akR(x f:cT)(b:Nat)(q:Store):At prog 131 [.agg x.cells,.lp 4 b 0] (.v (.bool (decide (x.name=f.name)))) ((4,b,aE.cells f.cells)::q):=by
 refine afk.a ?_;repeat'(first|exact .nil|refine .k0 ?_|refine .k1 ?_|refine .k2 ?_|refine .k7 ?_|refine .r1 ?_ ?_|(refine .m1 ?_ ?_;intro b)|fail)
 .exact Sx.Fin.intro Zs rfl
theorem aez(fs:List cT)(f:cT)(b:Nat)(q:Store):At prog 176 [.sl false 4 (fs.map cT.cells),.v (.func (.func 131) #[] #[.pointer (some ⟨b,0,none⟩)])] (iv (firstIdx (fun x=>decide (x.name=f.name)) fs 0)) ((4,b,aE.cells f.cells)::q):=by
 refine JT.a ?_;repeat'(first|exact .nil|refine .k0 ?_|refine .k1 ?_|refine .k2 ?_|refine .k6 ?_|refine .r1 ?_ ?_|(refine .m2 ?_ ?_;intro hlen)|fail)
 all_goals(try simp only[BL]at*)
 refine aP (fun n rg af=>∃i:Nat,i<=fs.length/\n=fs.length-i/\(∀j,j<i->¬(fs.getD j default).name=f.name)/\af=(4,b,aE.cells f.cells)::q/\rg=[(0,.sl false 4 (fs.map cT.cells)),(1,.v (.func (.func 131) #[] #[.pointer (some ⟨b,0,none⟩)])),(7,iv fs.length),(8,iv i)]) fs.length rfl ⟨_,_,Zr,Zs,0,Z4 _,rfl,fun j hj=>absurd hj (by omega),rfl,rfl⟩ ?_;rintro n _ _ ⟨i,hi,hn,hp,rfl,rfl⟩;repeat'(first|exact .nil|refine .k0 ?_|refine .k1 ?_|refine .k2 ?_|refine .k6 ?_|refine .k7 ?_|refine .k8 ?_|refine .k9 ?_|(refine .cd ?_ ?_<;>intro hc)|refine .r1 ?_ ?_|refine .t1 ?_ ?_ ?_|fail)
 try any_goals(exact Zo)
 all_goals(try simp only[BL]at*)
 refine Mm rfl rfl (by rfl) (fun _=>(akR (fs.getD i default) f b q).wk (cj.cons (Wk.refl _) (cj.cons (Wk.ptr _ _ _) cj.nil))) OB.nil ?_;repeat'(first|exact .nil|refine .k0 ?_|refine .k1 ?_|refine .k2 ?_|refine .k7 ?_|refine .k9 ?_|(refine .cd ?_ ?_<;>intro hc)|refine .r1 ?_ ?_|fail)
 all_goals(try simp only[BL]at*)
 .rw[q8 (p:=fun x:cT=>decide (x.name=f.name)) (l:=fs) (k:=0) (i:=i) (fun j hj=>Zp (hp j hj)) (by omega) (Y7 hc),ZH];exact Zw
 .refine⟨fs.length-(i+1),by omega,_,_,Zr,Zs,i+1,by omega,rfl,dj hp hc,rfl,by rw[bj (by omega) hlen]⟩
 .rw[q9 (fun y hy=>Zp (kj (p:=fun y:cT=>¬y.name=f.name) (fun j hj=>hp j (by omega)) y hy))];exact Zw
theorem abm(fs:List cT)(f:cT)(b:Nat)(q:Store):At prog 130 [.sl false 4 (fs.map cT.cells),.v (.func (.func 131) #[] #[.pointer (some ⟨b,0,none⟩)])] (.v (.bool (decide (∃x∈fs,x.name=f.name)))) ((4,b,aE.cells f.cells)::q):=by
 refine Qq.a ?_;repeat'(first|exact .nil|refine .k0 ?_|refine .k1 ?_|refine .k2 ?_|refine .r1 ?_ ?_|fail)
 all_goals(try simp only[BL]at*)
 refine Ck rfl (fun _=>aez fs f b q) OB.nil ?_;repeat'(first|exact .nil|refine .k0 ?_|refine .k1 ?_|refine .k7 ?_|refine .r1 ?_ ?_|fail)
 all_goals(try simp only[BL]at*)
 .refine Sx.Fin.intro Zs (bd ?_);rw[ZQ,C8];simp only[ZQ]
def oB(prev:List cT)(f:cT):Int:=if¬Name f.name then 3 else if∃x∈prev,x.name=f.name then 121 else kn f.type
def kD:List cT->List cT->Int
 |_,[]=>0|prev,f::l=>if oB prev f=0 then kD (prev++[f]) l else oB prev f
def iD(t:aO):Int:=
 if¬(Name t.name/\Name t.dh/\0<=t.aH/\t.aH<=1099511627776)then 3 else if t.fields.length>8 then 2 else kD [] t.fields
theorem Oh{u:List cT}{i:Nat}(hi:i<u.length)(h:oB (u.take i) (u.getD i default)=0):kD (u.take i) (u.drop i)=kD (u.take (i+1)) (u.drop (i+1)):=by rw[tc hi,kD,Z3 h,alH hi]
theorem xA{u:List cT}{i:Nat}{e:Int}(hi:i<u.length)(h:oB (u.take i) (u.getD i default)=e)(he:e≠0):kD (u.take i) (u.drop i)=e:=by rw[tc hi,kD,Z9 (by rw[h];exact he),h]
theorem alz(t:aO):Pure prog 76 [.agg t.cells] (iv (iD t)):=by
 refine QO.p fun σ=>?_;repeat'(first|exact .nil|refine .k0 ?_|refine .k1 ?_|refine .k2 ?_|refine .k4 ?_|refine .k6 ?_|refine .k7 ?_|refine .k9 ?_|(refine .cd ?_ ?_<;>intro hc)|refine .r1 ?_ ?_|(refine .m1 ?_ ?_;intro b)|(refine .m2 ?_ ?_;intro hlen)|refine .an rfl (by intro ar;first|exact rO _|fail) ?_ ?_|fail)
 try any_goals(exact Zo)
 all_goals(try simp only[BL]at*)
 .refine Sx.Fin.intro Zs (bi ?_);unfold iD;rw[Z3 (by grind)]
 .refine Sx.Fin.intro Zs (bi ?_);unfold iD;rw[Z9 (by grind),Z3 (by omega)]
 rename_i h1 h2;have hu:iD t=kD [] t.fields:=by unfold iD;rw[Z9 (by grind),Z9 (by omega)]
 refine aP (fun n rg af=>∃(i:Nat),i<=t.fields.length/\n=t.fields.length-i/\iD t=kD (t.fields.take i) (t.fields.drop i)/\af=(1,b,aE.cells t.cells)::σ/\rg=[(1,.lp 1 b 0),(31,.sl false 4 (t.fields.map cT.cells)),(32,iv t.fields.length),(33,iv i)]) t.fields.length rfl ⟨_,_,Zr,Zs,0,Z4 _,rfl,hu,rfl,rfl⟩ ?_;rintro n _ _ ⟨i,hi,hn,hp,rfl,rfl⟩;repeat'(first|exact .nil|refine .k0 ?_|refine .k1 ?_|refine .k2 ?_|refine .k6 ?_|refine .k7 ?_|refine .k8 ?_|refine .k9 ?_|(refine .cd ?_ ?_<;>intro hc)|refine .r1 ?_ ?_|refine .l1 fun b=>?_|refine .t1 ?_ ?_ ?_|refine .t2 ?_ ?_ ?_|refine .an rfl (by intro ar;first|exact rO _|fail) ?_ ?_|fail)
 try any_goals(exact Zo)
 all_goals(try simp only[BL]at*)
 .rw[hp,xA (e:=3) (by omega) (Z3 hc) (by decide)];exact Zw
 refine Ck rfl (fun _=>abm (t.fields.take i) (t.fields.getD i default) _ _) OB.nil ?_;repeat'(first|exact .nil|refine .k0 ?_|refine .k1 ?_|refine .k2 ?_|refine .k7 ?_|refine .k9 ?_|(refine .cd ?_ ?_<;>intro hc)|refine .r1 ?_ ?_|refine .an rfl (by intro ar;exact yR (t.fields.getD i default).type) ?_ ?_|fail)
 all_goals(try simp only[BL]at*)
 .rw[hp,xA (e:=121) (by omega) (by unfold oB;rw[Z9 (fun h=>h ‹_›),Z3 hc]) (by decide)];exact Zw
 .rw[hp,xA (by omega) (by unfold oB;rw[Z9 (fun h=>h ‹_›),Z9 ‹_›]) hc];exact Zw
 .refine⟨t.fields.length-(i+1),by omega,_,_,Zr,Zs,i+1,by omega,rfl,?_,rfl,by rw[bj (n:=t.fields.length) (by omega) (by assumption)]⟩;rw[hp,Oh (by omega) (by unfold oB;rw[Z9 (fun h=>h ‹_›),Z9 ‹_›];exact hc)]
 .rw[hp,XC (by omega),kD];exact Zw
theorem Og:∀(l p:List cT),kD p l=0->∀f∈l,Name f.name/\kn f.type=0
 |[],_,_,f,hf=>absurd hf (by simp)|g::l,p,h,f,hf=>by
  rw[kD]at h;split at h
  .rename_i h0;rcases ZR.1 hf with rfl|hf
   .unfold oB at h0;split at h0
    .omega
    .rename_i hn;split at h0
     .omega
     .exact⟨YF.1 hn,h0⟩
   .exact Og l _ h f hf
  .rename_i h0;exact absurd h h0
structure Mi(t:aO):Prop where
 n:t.name.size<=24
 e:t.dh.size<=24
 k:0<=t.aH/\t.aH<=1099511627776
 l:t.fields.length<=8
 f:∀f∈t.fields,Name f.name/\kn f.type=0
theorem Mi.of{t:aO}(h:iD t=0):Mi t:=by
 unfold iD at h;split at h
 .omega
 .rename_i h1;have h1:=YF.1 h1;split at h
  .omega
  .exact⟨h1.1.1.2.1,h1.2.1.1.2.1,h1.2.2,by omega,Og _ _ h⟩
end Go.Proofs.YtmemninechdogaaGreatDoor
namespace Go.Sx
theorem cj.get{xs ys:List AV}(h:cj xs ys):xs.length=ys.length/\∀j (h1:j<xs.length) (h2:j<ys.length),Wk xs[j] ys[j]:=by
 induction h with
 |nil=>exact⟨rfl,fun j h1=>absurd h1 (by simp)⟩|cons h t ih=>
  refine⟨by simp[ih.1],fun j h1 h2=>?_⟩;cases j with
  |zero=>exact h|succ j=>exact ih.2 j (by simpa using h1) (by simpa using h2)
inductive kz:List (List AV)->List (List AV)->Prop
 |nil:kz [] []
 |cons {x y:List AV} {xs ys:List (List AV)} (h:cj x y) (t:kz xs ys):kz (x::xs) (y::ys)
theorem kz.get{xs ys:List (List AV)}(h:kz xs ys):xs.length=ys.length/\∀j (h1:j<xs.length) (h2:j<ys.length),cj xs[j] ys[j]:=by
 induction h with
 |nil=>exact⟨rfl,fun j h1=>absurd h1 (by simp)⟩|cons h t ih=>
  refine⟨by simp[ih.1],fun j h1 h2=>?_⟩;cases j with
  |zero=>exact h|succ j=>exact ih.2 j (by simpa using h1) (by simpa using h2)
theorem Wk.rows{nn:Bool}{n:Nat}{rows rows':List (List AV)}(h:kz rows rows'):Wk (.sl nn n rows) (.sl false n rows'):=fun M v hv=>by
 obtain⟨hl,hg⟩:=h.get;cases hv with
 |nil _ _ a ha=>obtain rfl:rows'=[]:=Zt hl.symm;exact .nil _ _ a (fun h=>nomatch h)
 |sl _ _ _ b off cap cs bl hM hR hc hm=>
  rw[hl];refine .sl _ _ _ b off cap cs (fun i hi=>?_) (fun k hk=>hM k (by rw[hl];exact hk)) (fun i hi j hj=>?_) (by omega) hm
  .have:=(hg i (by omega) hi).get.1;rw[<-this];exact bl i (by omega)
  .have vI:=(hg i (by omega) hi).get;have:=hR i (by omega) j (by rw[vI.1];exact hj);exact vI.2 j (by rw[vI.1];exact hj) hj M _ this
end Go.Sx
namespace Go.Proofs.YtmemninechdogaaGreatDoor
open Go.Sx Go.Proofs
theorem Name.size{s:ae}(h:Name s):s.size<=24:=h.1.2.1
theorem aj.pQ(f:aj):f.cells=[sv f.name,sv f.dh,iv f.type.kind,.sl false 2 (f.type.unit.map ax.cells),sv f.type.of,iv f.body.kind,sv f.body.op,sv f.body.name,sv f.body.table,iv f.body.val.kind,iv f.body.val.n,sv f.body.val.s,.sl false 2 (f.body.unit.map ax.cells),iv f.body.param,iv f.body.win.kind,iv f.body.win.size,.sl false 12 (f.body.args.map Ex.row),iv f.version]:=by rw[<-Ex.pQ];rfl
def uK(t:aO):Prop:=(∀f∈t.fields,f.name.size<=100/\pC f.type)/\t.fields.length<=12/\t.name.size+t.dh.size<=200
instance (t:aO):Decidable (uK t):=inferInstanceAs (Decidable (_/\_/\_))
structure aO.Fits(t:aO):Prop where
 n:t.name.size<=2^59
 e:t.dh.size<=2^59
 f:∀f∈t.fields,f.type.of.size<=2^59
structure aj.Fits(f:aj):Prop where
 n:f.name.size<=2^59
 e:f.dh.size<=2^59
 t:f.type.of.size<=2^59
 b:f.body.wt<=2^60
theorem acD(t:aO)(hb:t.Fits):Pure Tryz.prog 24 [.agg t.cells] (.v (.bool (decide (uK t)))):=by
 have hn:=hb.n;have he:=hb.e;refine k24.p fun σ=>?_;repeat'(first|exact .nil|refine .k0 ?_|refine .k1 ?_|refine .k2 ?_|refine .k6 ?_|refine .r1 ?_ ?_|(refine .m1 ?_ ?_;intro b)|fail)
 all_goals(try simp only[BL]at*)
 refine aP (fun n rg af=>∃i:Nat,i<=t.fields.length/\n=t.fields.length-i/\(∀j,j<i->(t.fields.getD j default).name.size<=100/\pC (t.fields.getD j default).type)/\af=(1,b,aE.cells t.cells)::σ/\rg=[(1,.lp 1 b 0),(3,iv i)]) t.fields.length rfl ⟨_,_,Zr,Zs,0,Z4 _,rfl,fun j hj=>absurd hj (by omega),rfl,rfl⟩ ?_;rintro n _ _ ⟨i,hi,hn,hp,rfl,rfl⟩;repeat'(first|exact .nil|refine .k0 ?_|refine .k1 ?_|refine .k2 ?_|refine .k3 ?_|refine .k4 ?_|refine .k6 ?_|refine .k7 ?_|refine .k8 ?_|refine .k9 ?_|(refine .cd ?_ ?_<;>intro hc)|refine .r1 ?_ ?_|(refine .m2 ?_ ?_;intro hlen)|refine .t1 ?_ ?_ ?_|refine .an rfl (by intro ar;exact N1 (t.fields.getD i default).type (hb.f _ (bN (by(simp only[BL]at*;omega))))) ?_ ?_|fail)
 try any_goals(exact Zo)
 all_goals(try simp only[BL]at*)
 .refine Sx.Fin.intro Zs (bf ?_);rintro⟨h,_⟩;have:=h _ (bN (i:=i) (by omega));grind
 .refine⟨t.fields.length-(i+1),by omega,_,_,Zr,Zs,i+1,by omega,rfl,dj hp (by grind),rfl,by rw[bj (n:=t.fields.length) (by omega) (by assumption)]⟩
 .have bW:=kj (p:=fun f:cT=>f.name.size<=100/\pC f.type) (l:=t.fields) (fun j hj=>hp j (by omega));refine Sx.Fin.intro Zs (bd ?_);rw[bn (by omega)];unfold uK;grind
def pB(f:aj):Prop:=f.name.size+f.dh.size<=200/\pC f.type/\0<=kC f.body 80
instance (f:aj):Decidable (pB f):=inferInstanceAs (Decidable (_/\_/\_))
theorem acE(x:Ex)(hw:x.wt<=2^60)(n:Int)(hn: -1<=n/\n<=1000):Pure Tryz.prog 26 [.agg x.lay,iv n] (iv (kC x n)):=by have:=N4 x hw n hn;rwa [Ex.dX x]at this
theorem NZ(f:aj)(hb:f.Fits):Pure Tryz.prog 7 [.agg f.cells] (.v (.bool (decide (pB f)))):=by
 have hn:=hb.n;have he:=hb.e;rw[aj.pQ];refine k7.p fun σ=>?_;repeat'(first|exact .nil|refine .k0 ?_|refine .k1 ?_|refine .k2 ?_|refine .k4 ?_|refine .k7 ?_|refine .r1 ?_ ?_|(refine .m1 ?_ ?_;intro b)|refine .an rfl (by intro ar;first|exact N1 f.type hb.t|exact acE f.body hb.b 80 (by decide)) ?_ ?_|fail)
 all_goals(try simp only[BL]at*)
 .refine Sx.Fin.intro Zs (bd ?_);rw[bn (by omega)];unfold pB;grind
