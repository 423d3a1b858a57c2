/- Texts of expressions: the printer's whole walk. -/
import Derived.Test.YthdeaajdmdmfnaaGreatDoorPc
set_option linter.unusedSimpArgs false
set_option linter.unusedVariables false
set_option maxRecDepth 100000
set_option maxHeartbeats 4000000
namespace Go.Proofs.YthdeaajdmdmfnaaGreatDoor
open Go.Sx Go.Proofs
theorem parts{x:Ex}{ins:Bool}(h:Ff x ins):
  (x.kind=1→AR x∧x.args.length=0)∧(x.kind=2∨x.kind=3→vA x∧x.args.length=0)∧(x.kind=4→vA x∧x.args.length=1)∧(x.kind=5→yZ x∧x.args.length=2)
  ∧(x.kind=6→x.args.length=1∧∃ y∈EO,x.op=y)∧(x.kind=7→x.args.length=2∧∃ y∈B9,x.op=y)∧(x.kind=8→x.args.length=3)∧(x.kind=9→x.args.length=2):=by
 have hb:=h.nb
 have hn:=h.nn
 unfold qQ at hb
 unfold qR at hn
 refine⟨fun e=> ?_,fun e=> ?_,fun e=> ?_,fun e=> ?_,fun e=> ?_,fun e=> ?_,fun e=> ?_,fun e=> ?_⟩
 all_goals grind
end Go.Proofs.YthdeaajdmdmfnaaGreatDoor
namespace Go.Sx
structure At(P:Program)[Glob P](f:FuncId)(xs:List AV)(r:AV)(σ:Store):Prop where
 sp:Spec P f xs σ fun r' σ'=>r'= .ret r∧σ'=σ
theorem At.wk{P:Program}[Glob P]{f:FuncId}{xs bs:List AV}{r:AV}{σ:Store}(h:At P f bs r σ)(hw:ct xs bs):At P f xs r σ:=
 ⟨fun M w0 w cs hI hR=>h.sp M w0 w cs hI (hw.sound hR)⟩
theorem Mi{P:Program}[Glob P]{f:FuncId}{xs:List AV}{σ:Store}{K:AV→Store→Prop}{E:List PanicEntry→Store→Prop}{r:AV}(h:At P f xs r σ)(k:K r σ):oT P f xs σ K E:=
 ⟨_,h.sp,fun _ _ ⟨e,e'⟩=>by cases e;subst e';exact k,fun _ _ ⟨e,_⟩=>by cases e⟩
theorem At.Bf{P:Program}[Glob P][gO P]{f:FuncId}{fn:Func}{fc:FC}{xs:List AV}{r:AV}{σ:Store}{a:AC}(cfg:Nat→Nat)(hf:P.funcs[f]? =some fn)(hc:j6 P fn=some fc)(ha:fc.code=a.erase)(hlen:xs.length≤fc.N)
  (h:WK P fc.N cfg (mr fc.res r σ) a [] (fi 0 xs) σ):At P f xs r σ:=by
 have h1:=h.h.h
 rw[← ha]at h1
 refine⟨?_⟩
 have:=Spec.intro (Q:=fun r' σ'=>∃ x,r'= .ret x∧Wk x r∧Sub σ σ') hf hc hlen (h1.mono (fun e rg σ' hq=>by
  cases e with
  |normal=>obtain⟨x,h1,h2,h3⟩:=hq;exact⟨x,h1,x,rfl,h2,h3⟩
  |ret=>obtain⟨x,h1,h2,h3⟩:=hq;exact⟨x,h1,x,rfl,h2,h3⟩
  |_=>exact hq.elim))
 refine this.weak ?_
 rintro r' σ' ⟨x,rfl,h2,h3⟩
 exact⟨.ret r,σ,⟨rfl,rfl⟩,h3,h2⟩
theorem _root_.Go.Sx.fz.a{P:Program}[Glob P][gO P]{f:FuncId}{N:Nat}{res:List RC}{xs:List AV}{r:AV}{σ:Store}{a:AC}(k:fz P f N a res)(h:WK P N (fun _=>0) (mr res r σ) a [] (fi 0 xs) σ)(hl:Nat.ble xs.length N=true:=by exact rfl):At P f xs r σ:=by
 obtain⟨fn,h1,h2⟩:=k.ex
 exact At.Bf (fc:=⟨N,a.erase,res⟩) (a:=a) _ h1 h2 rfl (ZF hl) h
section
variable {P:Program}[Glob P]{cfg:Nat→Nat}{K:ag→Store→Prop}{E:List PanicEntry→Store→Prop}{σ:Store}{l:List CI}{d:Nat}{v:AV}{xr:XR}{ps:List Prop}{g:Option (Nat×Bool)}{og:Option Bool}{xs:List AV}{args:List Operand}
theorem LO{f:FuncId}{r:AV}(h:aS xr g args=some (og,xs,ps))(hp:og.getD true=true→At P f xs r σ)(hps:OB ps)(k:VX P cfg l K E (bH og d r xr) σ):VX P cfg (⟨some d,.call f args,g⟩::l) K E xr σ:=by
 obtain⟨hc,he⟩:=cM h
 refine jD hc (fun hg=> ?_) (fun hg=> ?_)
 ·simp only[aj,he hps hg]
  refine Mi (hp hg) ?_
  rw[← fx hg];exact k.h
 ·rw[← fw hg (v:=r)];exact k.h
theorem Uc{f:FuncId}{r fv:AV}{fo:Operand}{a c:Array Value}(h:aS xr g (fo::args)=some (og,fv::xs,ps))(hf:zx fv=some (f,a,c))(bC:gR P f=true)(hp:og.getD true=true→At P f (a.toList.map .v++xs++c.toList.map .v) r σ)(hps:OB ps)(k:VX P cfg l K E (bH og d r xr) σ):
  VX P cfg (⟨some d,.fD fo args,g⟩::l) K E xr σ:=by
 obtain⟨hc,he⟩:=cM h
 refine jD hc (fun hg=> ?_) (fun hg=> ?_)
 ·have:=he hps hg
  simp only[aL,Z2]at this
  simp only[aj,this.1,this.2,GJ hf]
  refine⟨bC,Mi (hp hg) ?_⟩
  rw[← fx hg];exact k.h
 ·rw[← fw hg (v:=r)];exact k.h
end
theorem Wk.ptr(t b o:Nat):Wk (.v (.pointer (some ⟨b,o,none⟩))) (.lp t b o):=fun M x h=>by
 obtain rfl:=h.ay
 exact .lp t b o
end Go.Sx
namespace Go.Proofs.YthdeaajdmdmfnaaGreatDoor
open _root_.Go.Proofs.Tryz
open Go.Sx Go.Proofs
theorem aib(x f:dk)(b:Nat)(τ:Store):At prog 124 [.agg x.cells,.lp 4 b 0] (.v (.bool (decide (x.name=f.name)))) ((4,b,aZ.cells f.cells)::τ):=by
 refine adl.a ?_
 repeat'(first|exact .nil|refine .k0 ?_|refine .k1 ?_|refine .k2 ?_|refine .k7 ?_|refine .r1 ?_ ?_|(refine .m1 ?_ ?_;intro b)|fail)
 all_goals(try simp only[BL]at *)
 ·exact Sx.Fin.intro Zs rfl
theorem acT(fs:List dk)(f:dk)(b:Nat)(τ:Store):At prog 169 [.sl false 4 (fs.map dk.cells),.v (.func (.func 124) #[] #[.pointer (some ⟨b,0,none⟩)])] (iv (firstIdx (fun x=>decide (x.name=f.name)) fs 0)) ((4,b,aZ.cells f.cells)::τ):=by
 refine Jr.a ?_
 repeat'(first|exact .nil|refine .k0 ?_|refine .k1 ?_|refine .k2 ?_|refine .k6 ?_|refine .r1 ?_ ?_|(refine .m2 ?_ ?_;intro hlen)|fail)
 all_goals(try simp only[BL]at *)
 refine cr (fun n rg σ'=>∃ i:Nat,i≤fs.length∧n=fs.length-i∧(∀ j,j<i→¬(fs.getD j default).name=f.name)∧σ'=(4,b,aZ.cells f.cells)::τ∧rg=[(0,.sl false 4 (fs.map dk.cells)),(1,.v (.func (.func 124) #[] #[.pointer (some ⟨b,0,none⟩)])),(7,iv fs.length),(8,iv i)]) fs.length rfl ⟨_,_,Zr,Zs,0,ZM _,rfl,fun j hj=>absurd hj (by omega),rfl,rfl⟩ ?_
 rintro n _ _ ⟨i,hi,hn,hp,rfl,rfl⟩
 repeat'(first|exact .nil|refine .k0 ?_|refine .k1 ?_|refine .k2 ?_|refine .k6 ?_|refine .k7 ?_|refine .k8 ?_|refine .k9 ?_|(refine .cd ?_ ?_<;>(intro hc;skip))|refine .r1 ?_ ?_|refine .t1 ?_ ?_ ?_|fail)
 try any_goals(exact Zo)
 all_goals(try simp only[BL]at *)
 refine Uc rfl rfl (by rfl) (fun _=>(aib (fs.getD i default) f b τ).wk (ct.cons (Wk.refl _) (ct.cons (Wk.ptr _ _ _) ct.nil))) OB.nil ?_
 repeat'(first|exact .nil|refine .k0 ?_|refine .k1 ?_|refine .k2 ?_|refine .k7 ?_|refine .k9 ?_|(refine .cd ?_ ?_<;>(intro hc;skip))|refine .r1 ?_ ?_|fail)
 all_goals(try simp only[BL]at *)
 ·rw[rY (p:=fun x:dk=>decide (x.name=f.name)) (l:=fs) (k:=0) (i:=i) (fun j hj=>Zh (hp j hj)) (by omega) (YJ hc),ZH]
  exact Zw
 ·refine⟨fs.length-(i+1),by omega,_,_,Zr,Zs,i+1,by omega,rfl,iM hp hc,rfl,by rw[cm (by omega) hlen]⟩
 ·rw[rZ (fun y hy=>Zh (nz (p:=fun y:dk=>¬y.name=f.name) (fun j hj=>hp j (by omega)) y hy))]
  exact Zw
theorem aaf(fs:List dk)(f:dk)(b:Nat)(τ:Store):At prog 123 [.sl false 4 (fs.map dk.cells),.v (.func (.func 124) #[] #[.pointer (some ⟨b,0,none⟩)])] (.v (.bool (decide (∃ x∈fs,x.name=f.name)))) ((4,b,aZ.cells f.cells)::τ):=by
 refine PD.a ?_
 repeat'(first|exact .nil|refine .k0 ?_|refine .k1 ?_|refine .k2 ?_|refine .r1 ?_ ?_|fail)
 all_goals(try simp only[BL]at *)
 refine LO rfl (fun _=>acT fs f b τ) OB.nil ?_
 repeat'(first|exact .nil|refine .k0 ?_|refine .k1 ?_|refine .k7 ?_|refine .r1 ?_ ?_|fail)
 all_goals(try simp only[BL]at *)
 ·refine Sx.Fin.intro Zs (bd ?_)
  rw[ZR,CA]
  simp only[ZR]
def sd(prev:List dk)(f:dk):Int:=if¬Name f.name then 3 else if∃ x∈prev,x.name=f.name then 121 else kI f.type
def mM:List dk→List dk→Int
 |_,[]=>0
 |prev,f::l=>if sd prev f=0 then mM (prev++[f]) l else sd prev f
def my(t:bj):Int:=
 if¬(Name t.name∧Name t.dx∧0≤t.az∧t.az≤1099511627776)then 3 else if t.fields.length>8 then 2 else mM [] t.fields
theorem abw{u:List dk}{i:Nat}(hi:i<u.length)(h:sd (u.take i) (u.getD i default)=0):mM (u.take i) (u.drop i)=mM (u.take (i+1)) (u.drop (i+1)):=by
 rw[zq hi,mM,ZV h,aiT hi]
theorem GI{u:List dk}{i:Nat}{e:Int}(hi:i<u.length)(h:sd (u.take i) (u.getD i default)=e)(he:e≠0):mM (u.take i) (u.drop i)=e:=by
 rw[zq hi,mM,Z7 (by rw[h];exact he),h]
theorem aiO(t:bj):Pure prog 74 [.agg t.cells] (iv (my t)):=by
 refine P0.p fun σ=> ?_
 repeat'(first|exact .nil|refine .k0 ?_|refine .k1 ?_|refine .k2 ?_|refine .k4 ?_|refine .k6 ?_|refine .k7 ?_|refine .k9 ?_|(refine .cd ?_ ?_<;>(intro hc;skip))|refine .r1 ?_ ?_|(refine .m1 ?_ ?_;intro b)|(refine .m2 ?_ ?_;intro hlen)|refine .an rfl (by intro aI;first|exact qO _|fail) ?_ ?_|fail)
 try any_goals(exact Zo)
 all_goals(try simp only[BL]at *)
 ·refine Sx.Fin.intro Zs (bi ?_)
  unfold my;rw[ZV (by grind)]
 ·refine Sx.Fin.intro Zs (bi ?_)
  unfold my;rw[Z7 (by grind),ZV (by omega)]
 rename_i h1 h2
 have hu:my t=mM [] t.fields:=by unfold my;rw[Z7 (by grind),Z7 (by omega)]
 refine cr (fun n rg σ'=>∃ (i:Nat),i≤t.fields.length∧n=t.fields.length-i∧my t=mM (t.fields.take i) (t.fields.drop i)∧σ'=(1,b,aZ.cells t.cells)::σ∧rg=[(1,.lp 1 b 0),(31,.sl false 4 (t.fields.map dk.cells)),(32,iv t.fields.length),(33,iv i)]) t.fields.length rfl ⟨_,_,Zr,Zs,0,ZM _,rfl,hu,rfl,rfl⟩ ?_
 rintro n _ _ ⟨i,hi,hn,hp,rfl,rfl⟩
 repeat'(first|exact .nil|refine .k0 ?_|refine .k1 ?_|refine .k2 ?_|refine .k6 ?_|refine .k7 ?_|refine .k8 ?_|refine .k9 ?_|(refine .cd ?_ ?_<;>(intro hc;skip))|refine .r1 ?_ ?_|(refine .l1 ?_;intro b)|refine .t1 ?_ ?_ ?_|refine .t2 ?_ ?_ ?_|refine .an rfl (by intro aI;first|exact qO _|fail) ?_ ?_|fail)
 try any_goals(exact Zo)
 all_goals(try simp only[BL]at *)
 ·rw[hp,GI (e:=3) (by omega) (ZV hc) (by decide)]
  exact Zw
 refine LO rfl (fun _=>aaf (t.fields.take i) (t.fields.getD i default) _ _) OB.nil ?_
 repeat'(first|exact .nil|refine .k0 ?_|refine .k1 ?_|refine .k2 ?_|refine .k7 ?_|refine .k9 ?_|(refine .cd ?_ ?_<;>(intro hc;skip))|refine .r1 ?_ ?_|refine .an rfl (by intro aI;exact yw (t.fields.getD i default).type) ?_ ?_|fail)
 all_goals(try simp only[BL]at *)
 ·rw[hp,GI (e:=121) (by omega) (by unfold sd;rw[Z7 (fun h=>h ‹_›),ZV hc]) (by decide)]
  exact Zw
 ·rw[hp,GI (by omega) (by unfold sd;rw[Z7 (fun h=>h ‹_›),Z7 ‹_›]) hc]
  exact Zw
 ·refine⟨t.fields.length-(i+1),by omega,_,_,Zr,Zs,i+1,by omega,rfl,?_,rfl,by rw[cm (n:=t.fields.length) (by omega) (by assumption)]⟩
  rw[hp,abw (by omega) (by unfold sd;rw[Z7 (fun h=>h ‹_›),Z7 ‹_›];exact hc)]
 ·rw[hp,List.drop_eq_nil_of_le (by omega),mM]
  exact Zw
theorem Nx:∀ (l p:List dk),mM p l=0→∀ f∈l,Name f.name∧kI f.type=0
 |[],_,_,f,hf=>absurd hf (by simp)
 |g::l,p,h,f,hf=>by
  rw[mM]at h
  split at h
  ·rename_i h0
   rcases ZK.1 hf with rfl|hf
   ·unfold sd at h0
    split at h0
    ·omega
    ·rename_i hn
     split at h0
     ·omega
     ·exact⟨Yv.1 hn,h0⟩
   ·exact Nx l _ h f hf
  ·rename_i h0;exact absurd h h0
structure LK(t:bj):Prop where
 n:t.name.size≤24
 e:t.dx.size≤24
 k:0≤t.az∧t.az≤1099511627776
 l:t.fields.length≤8
 f:∀ f∈t.fields,Name f.name∧kI f.type=0
theorem LK.of{t:bj}(h:my t=0):LK t:=by
 unfold my at h
 split at h
 ·omega
 ·rename_i h1
  have h1:=Yv.1 h1
  split at h
  ·omega
  ·exact⟨h1.1.1.2.1,h1.2.1.1.2.1,h1.2.2,by omega,Nx _ _ h⟩
end Go.Proofs.YthdeaajdmdmfnaaGreatDoor
namespace Go.Sx
theorem ct.get{xs ys:List AV}(h:ct xs ys):xs.length=ys.length∧∀ j (h1:j<xs.length) (h2:j<ys.length),Wk xs[j] ys[j]:=by
 induction h with
 |nil=>exact⟨rfl,fun j h1=>absurd h1 (by simp)⟩
 |cons h t ih=>
  refine⟨by simp[ih.1],fun j h1 h2=> ?_⟩
  cases j with
  |zero=>exact h
  |succ j=>exact ih.2 j (by simpa using h1) (by simpa using h2)
inductive mC:List (List AV)→List (List AV)→Prop
 |nil:mC [] []
 |cons {x y:List AV} {xs ys:List (List AV)} (h:ct x y) (t:mC xs ys):mC (x::xs) (y::ys)
theorem mC.get{xs ys:List (List AV)}(h:mC xs ys):xs.length=ys.length∧∀ j (h1:j<xs.length) (h2:j<ys.length),ct xs[j] ys[j]:=by
 induction h with
 |nil=>exact⟨rfl,fun j h1=>absurd h1 (by simp)⟩
 |cons h t ih=>
  refine⟨by simp[ih.1],fun j h1 h2=> ?_⟩
  cases j with
  |zero=>exact h
  |succ j=>exact ih.2 j (by simpa using h1) (by simpa using h2)
theorem Wk.rows{nn:Bool}{n:Nat}{rows rows':List (List AV)}(h:mC rows rows'):Wk (.sl nn n rows) (.sl false n rows'):=fun M v hv=>by
 obtain⟨hl,hg⟩:=h.get
 cases hv with
 |nil _ _ a ha=>
  obtain rfl:rows'=[]:=Zt hl.symm
  exact .nil _ _ a (fun h=>nomatch h)
 |sl _ _ _ b off cap cs bg hM hR hc hm=>
  rw[hl]
  refine .sl _ _ _ b off cap cs (fun i hi=> ?_) (fun k hk=>hM k (by rw[hl];exact hk)) (fun i hi j hj=> ?_) (by omega) hm
  ·have:=(hg i (by omega) hi).get.1
   rw[← this];exact bg i (by omega)
  ·have Ip:=(hg i (by omega) hi).get
   have:=hR i (by omega) j (by rw[Ip.1];exact hj)
   exact Ip.2 j (by rw[Ip.1];exact hj) hj M _ this
end Go.Sx
namespace Go.Proofs.YthdeaajdmdmfnaaGreatDoor
open Go.Sx Go.Proofs
theorem Name.size{s:af}(h:Name s):s.size≤24:=h.1.2.1
theorem aq.o3(f:aq):f.cells=[sv f.name,sv f.dx,iv f.type.kind,.sl false 2 (f.type.unit.map aC.cells),sv f.type.of,iv f.body.kind,sv f.body.op,sv f.body.name,sv f.body.table,iv f.body.val.kind,iv f.body.val.n,sv f.body.val.s,.sl false 2 (f.body.unit.map aC.cells),iv f.body.param,iv f.body.win.kind,iv f.body.win.size,.sl false 12 (f.body.args.map Ex.row),iv f.version]:=by rw[← Ex.o3];rfl
def yI(t:bj):Prop:=(∀ f∈t.fields,f.name.size≤100∧oU f.type)∧t.fields.length≤12∧t.name.size+t.dx.size≤200
instance (t:bj):Decidable (yI t):=inferInstanceAs (Decidable (_∧_∧_))
structure bj.Fits(t:bj):Prop where
 n:t.name.size≤2 ^ 59
 e:t.dx.size≤2 ^ 59
 f:∀ f∈t.fields,f.type.of.size≤2 ^ 59
structure aq.Fits(f:aq):Prop where
 n:f.name.size≤2 ^ 59
 e:f.dx.size≤2 ^ 59
 t:f.type.of.size≤2 ^ 59
 b:f.body.wt≤2 ^ 60
theorem abg(t:bj)(hb:t.Fits):Pure Tryz.prog 25 [.agg t.cells] (.v (.bool (decide (yI t)))):=by
 have hn:=hb.n
 have he:=hb.e
 refine k25.p fun σ=> ?_
 repeat'(first|exact .nil|refine .k0 ?_|refine .k1 ?_|refine .k2 ?_|refine .k6 ?_|refine .r1 ?_ ?_|(refine .m1 ?_ ?_;intro b)|fail)
 all_goals(try simp only[BL]at *)
 refine cr (fun n rg σ'=>∃ i:Nat,i≤t.fields.length∧n=t.fields.length-i∧(∀ j,j<i→(t.fields.getD j default).name.size≤100∧oU (t.fields.getD j default).type)∧σ'=(1,b,aZ.cells t.cells)::σ∧rg=[(1,.lp 1 b 0),(3,iv i)]) t.fields.length rfl ⟨_,_,Zr,Zs,0,ZM _,rfl,fun j hj=>absurd hj (by omega),rfl,rfl⟩ ?_
 rintro n _ _ ⟨i,hi,hn,hp,rfl,rfl⟩
 repeat'(first|exact .nil|refine .k0 ?_|refine .k1 ?_|refine .k2 ?_|refine .k3 ?_|refine .k4 ?_|refine .k6 ?_|refine .k7 ?_|refine .k8 ?_|refine .k9 ?_|(refine .cd ?_ ?_<;>(intro hc;skip))|refine .r1 ?_ ?_|(refine .m2 ?_ ?_;intro hlen)|refine .t1 ?_ ?_ ?_|refine .an rfl (by intro aI;exact Nk (t.fields.getD i default).type (hb.f _ (dp (by(simp only[BL]at *;omega))))) ?_ ?_|fail)
 try any_goals(exact Zo)
 all_goals(try simp only[BL]at *)
 ·refine Sx.Fin.intro Zs (bf ?_)
  rintro⟨h,_⟩
  have:=h _ (dp (i:=i) (by omega))
  grind
 ·refine⟨t.fields.length-(i+1),by omega,_,_,Zr,Zs,i+1,by omega,rfl,iM hp (by grind),rfl,by rw[cm (n:=t.fields.length) (by omega) (by assumption)]⟩
 ·have cV:=nz (p:=fun f:dk=>f.name.size≤100∧oU f.type) (l:=t.fields) (fun j hj=>hp j (by omega))
  refine Sx.Fin.intro Zs (bd ?_)
  rw[dN (by omega)]
  unfold yI
  grind
def wB(f:aq):Prop:=f.name.size+f.dx.size≤200∧oU f.type∧0≤few f.body 80
instance (f:aq):Decidable (wB f):=inferInstanceAs (Decidable (_∧_∧_))
theorem abj(x:Ex)(hw:x.wt≤2 ^ 60)(n:Int)(hn: -1≤n∧n≤1000):Pure Tryz.prog 27 [.agg x.lay,iv n] (iv (few x n)):=by have:=Nl x hw n hn;rwa [Ex.kE x]at this
theorem abd(f:aq)(hb:f.Fits):Pure Tryz.prog 7 [.agg f.cells] (.v (.bool (decide (wB f)))):=by
 have hn:=hb.n
 have he:=hb.e
 rw[aq.o3]
 refine k7.p fun σ=> ?_
 repeat'(first|exact .nil|refine .k0 ?_|refine .k1 ?_|refine .k2 ?_|refine .k4 ?_|refine .k7 ?_|refine .r1 ?_ ?_|(refine .m1 ?_ ?_;intro b)|refine .an rfl (by intro aI;first|exact Nk f.type hb.t|exact abj f.body hb.b 80 (by decide)) ?_ ?_|fail)
 all_goals(try simp only[BL]at *)
 ·refine Sx.Fin.intro Zs (bd ?_)
  rw[dN (by omega)]
  unfold wB
  grind
end Go.Proofs.YthdeaajdmdmfnaaGreatDoor
