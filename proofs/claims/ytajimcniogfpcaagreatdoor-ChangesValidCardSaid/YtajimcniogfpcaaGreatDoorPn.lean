/- Texts of expressions: the printer's whole walk. -/
import Derived.Test.YtajimcniogfpcaaGreatDoorPc
set_option linter.unusedSimpArgs false
set_option linter.unusedVariables false
set_option maxRecDepth 100000
set_option maxHeartbeats 4000000
namespace Go.Proofs.YtajimcniogfpcaaGreatDoor
open Go.Sx Go.Proofs
theorem parts{x:Ex}{ins:Bool}(h:vW x ins):
  (x.kind=1→xE x∧x.args.length=0)∧(x.kind=2∨x.kind=3→sG x∧x.args.length=0)∧(x.kind=4→sG x∧x.args.length=1)∧(x.kind=5→yO x∧x.args.length=2)
  ∧(x.kind=6→x.args.length=1∧∃ y∈AF,x.op=y)∧(x.kind=7→x.args.length=2∧∃ y∈wz,x.op=y)∧(x.kind=8→x.args.length=3)∧(x.kind=9→x.args.length=2):=by
 have hb:=h.nb
 have hn:=h.nn
 unfold jF at hb
 unfold qE at hn
 refine⟨fun e=> ?_,fun e=> ?_,fun e=> ?_,fun e=> ?_,fun e=> ?_,fun e=> ?_,fun e=> ?_,fun e=> ?_⟩
 all_goals grind
end Go.Proofs.YtajimcniogfpcaaGreatDoor
namespace Go.Sx
structure At(P:Program)[Glob P](f:FuncId)(xs:List AV)(r:AV)(σ:Store):Prop where
 sp:Spec P f xs σ fun r' σ'=>r'= .ret r∧σ'=σ
theorem At.wk{P:Program}[Glob P]{f:FuncId}{xs bs:List AV}{r:AV}{σ:Store}(h:At P f bs r σ)(hw:bC xs bs):At P f xs r σ:=
 ⟨fun M w0 w cs hI hR=>h.sp M w0 w cs hI (hw.sound hR)⟩
theorem Oh{P:Program}[Glob P]{f:FuncId}{xs:List AV}{σ:Store}{K:AV→Store→Prop}{E:List PanicEntry→Store→Prop}{r:AV}(h:At P f xs r σ)(k:K r σ):nA P f xs σ K E:=
 ⟨_,h.sp,fun _ _ ⟨e,e'⟩=>by cases e;subst e';exact k,fun _ _ ⟨e,_⟩=>by cases e⟩
theorem At.C4{P:Program}[Glob P][ie P]{f:FuncId}{fn:Func}{fc:FC}{xs:List AV}{r:AV}{σ:Store}{a:AC}(cfg:Nat→Nat)(hf:P.funcs[f]? =some fn)(hc:jP P fn=some fc)(ha:fc.code=a.erase)(hlen:xs.length≤fc.N)
  (h:WK P fc.N cfg (kO fc.res r σ) a [] (fF 0 xs) σ):At P f xs r σ:=by
 have h1:=h.h.h
 rw[← ha]at h1
 refine⟨?_⟩
 have:=Spec.intro (Q:=fun r' σ'=>∃ x,r'= .ret x∧Wk x r∧Sub σ σ') hf hc hlen (h1.mono (fun e rg σ' hq=>by
  cases e with
  |normal=>obtain⟨x,h1,h2,h3⟩:=hq;exact⟨x,h1,x,rfl,h2,h3⟩
  |ret=>obtain⟨x,h1,h2,h3⟩:=hq;exact⟨x,h1,x,rfl,h2,h3⟩
  |_=>exact hq.elim))
 refine this.weak ?_
 rintro r' σ' ⟨x,rfl,h2,h3⟩
 exact⟨.ret r,σ,⟨rfl,rfl⟩,h3,h2⟩
theorem _root_.Go.Sx.js.a{P:Program}[Glob P][ie P]{f:FuncId}{N:Nat}{res:List RC}{xs:List AV}{r:AV}{σ:Store}{a:AC}(k:js P f N a res)(h:WK P N (fun _=>0) (kO res r σ) a [] (fF 0 xs) σ)(hl:Nat.ble xs.length N=true:=by exact rfl):At P f xs r σ:=by
 obtain⟨fn,h1,h2⟩:=k.ex
 exact At.C4 (fc:=⟨N,a.erase,res⟩) (a:=a) _ h1 h2 rfl (ZR hl) h
section
variable {P:Program}[Glob P]{cfg:Nat→Nat}{K:af→Store→Prop}{E:List PanicEntry→Store→Prop}{σ:Store}{l:List CI}{d:Nat}{v:AV}{xr:XR}{ps:List Prop}{g:Option (Nat×Bool)}{og:Option Bool}{xs:List AV}{args:List Operand}
theorem NN{f:FuncId}{r:AV}(h:aD xr g args=some (og,xs,ps))(hp:og.getD true=true→At P f xs r σ)(aq:OB ps)(k:VX P cfg l K E (bI og d r xr) σ):VX P cfg (⟨some d,.call f args,g⟩::l) K E xr σ:=by
 obtain⟨hc,he⟩:=bZ h
 refine jt hc (fun hg=> ?_) (fun hg=> ?_)
 ·simp only[al,he aq hg]
  refine Oh (hp hg) ?_
  rw[← fq hg];exact k.h
 ·rw[← fm hg (v:=r)];exact k.h
theorem aaf{f:FuncId}{r fv:AV}{fo:Operand}{a c:Array Value}(h:aD xr g (fo::args)=some (og,fv::xs,ps))(hf:wR fv=some (f,a,c))(bE:ij P f=true)(hp:og.getD true=true→At P f (a.toList.map .v++xs++c.toList.map .v) r σ)(aq:OB ps)(k:VX P cfg l K E (bI og d r xr) σ):
  VX P cfg (⟨some d,.fR fo args,g⟩::l) K E xr σ:=by
 obtain⟨hc,he⟩:=bZ h
 refine jt hc (fun hg=> ?_) (fun hg=> ?_)
 ·have:=he aq hg
  simp only[aE,Z3]at this
  simp only[al,this.1,this.2,BG hf]
  refine⟨bE,Oh (hp hg) ?_⟩
  rw[← fq hg];exact k.h
 ·rw[← fm hg (v:=r)];exact k.h
end
theorem Wk.ptr(t b o:Nat):Wk (.v (.pointer (some ⟨b,o,none⟩))) (.lp t b o):=fun M x h=>by
 obtain rfl:=h.ay
 exact .lp t b o
end Go.Sx
namespace Go.Proofs.YtajimcniogfpcaaGreatDoor
open _root_.Go.Proofs.Tryz
open Go.Sx Go.Proofs
theorem akb(x f:c6)(b:Nat)(τ:Store):At prog 69 [.agg x.cells,.lp 4 b 0] (.v (.bool (decide (x.name=f.name)))) ((4,b,aR.cells f.cells)::τ):=by
 refine k69.a ?_
 repeat'(first|exact .nil|refine .k0 ?_|refine .k1 ?_|refine .k2 ?_|refine .k7 ?_|refine .r1 ?_ ?_|(refine .m1 ?_ ?_;intro b)|fail)
 all_goals(try simp only[BL]at *)
 ·exact Sx.Fin.intro Zs rfl
theorem afj(fs:List c6)(f:c6)(b:Nat)(τ:Store):At prog 85 [.sl false 4 (fs.map c6.cells),.v (.func (.func 69) #[] #[.pointer (some ⟨b,0,none⟩)])] (iv (firstIdx (fun x=>decide (x.name=f.name)) fs 0)) ((4,b,aR.cells f.cells)::τ):=by
 refine Lg.a ?_
 repeat'(first|exact .nil|refine .k0 ?_|refine .k1 ?_|refine .k2 ?_|refine .k6 ?_|refine .r1 ?_ ?_|(refine .m2 ?_ ?_;intro hlen)|fail)
 all_goals(try simp only[BL]at *)
 refine bO (fun n rg σ'=>∃ i:Nat,i≤fs.length∧n=fs.length-i∧(∀ j,j<i→¬(fs.getD j default).name=f.name)∧σ'=(4,b,aR.cells f.cells)::τ∧rg=[(0,.sl false 4 (fs.map c6.cells)),(1,.v (.func (.func 69) #[] #[.pointer (some ⟨b,0,none⟩)])),(7,iv fs.length),(8,iv i)]) fs.length rfl ⟨_,_,Zr,Zs,0,ZL _,rfl,fun j hj=>absurd hj (by omega),rfl,rfl⟩ ?_
 rintro n _ _ ⟨i,hi,hn,hp,rfl,rfl⟩
 repeat'(first|exact .nil|refine .k0 ?_|refine .k1 ?_|refine .k2 ?_|refine .k6 ?_|refine .k7 ?_|refine .k8 ?_|refine .k9 ?_|(refine .cd ?_ ?_<;>(intro hc;skip))|refine .r1 ?_ ?_|refine .t1 ?_ ?_ ?_|fail)
 try any_goals(exact Zo)
 all_goals(try simp only[BL]at *)
 refine aaf rfl rfl (by rfl) (fun _=>(akb (fs.getD i default) f b τ).wk (bC.cons (Wk.refl _) (bC.cons (Wk.ptr _ _ _) bC.nil))) OB.nil ?_
 repeat'(first|exact .nil|refine .k0 ?_|refine .k1 ?_|refine .k2 ?_|refine .k7 ?_|refine .k9 ?_|(refine .cd ?_ ?_<;>(intro hc;skip))|refine .r1 ?_ ?_|fail)
 all_goals(try simp only[BL]at *)
 ·rw[uj (p:=fun x:c6=>decide (x.name=f.name)) (l:=fs) (k:=0) (i:=i) (fun j hj=>Zd (hp j hj)) (by omega) (YR hc),ZA]
  exact Zw
 ·refine⟨fs.length-(i+1),by omega,_,_,Zr,Zs,i+1,by omega,rfl,iP hp hc,rfl,by rw[cu (by omega) hlen]⟩
 ·rw[uk (fun y hy=>Zd (oA (p:=fun y:c6=>¬y.name=f.name) (fun j hj=>hp j (by omega)) y hy))]
  exact Zw
theorem acJ(fs:List c6)(f:c6)(b:Nat)(τ:Store):At prog 68 [.sl false 4 (fs.map c6.cells),.v (.func (.func 69) #[] #[.pointer (some ⟨b,0,none⟩)])] (.v (.bool (decide (∃ x∈fs,x.name=f.name)))) ((4,b,aR.cells f.cells)::τ):=by
 refine Sq.a ?_
 repeat'(first|exact .nil|refine .k0 ?_|refine .k1 ?_|refine .k2 ?_|refine .r1 ?_ ?_|fail)
 all_goals(try simp only[BL]at *)
 refine NN rfl (fun _=>afj fs f b τ) OB.nil ?_
 repeat'(first|exact .nil|refine .k0 ?_|refine .k1 ?_|refine .k7 ?_|refine .r1 ?_ ?_|fail)
 all_goals(try simp only[BL]at *)
 ·refine Sx.Fin.intro Zs (bd ?_)
  rw[ZN,En]
  simp only[ZN]
def um(prev:List c6)(f:c6):Int:=if¬Name f.name then 3 else if∃ x∈prev,x.name=f.name then 121 else ft f.type
def nK:List c6→List c6→Int
 |_,[]=>0
 |prev,f::l=>if um prev f=0 then nK (prev++[f]) l else um prev f
def kh(t:aI):Int:=
 if¬(Name t.name∧Name t.cN∧0≤t.aQ∧t.aQ≤1099511627776)then 3 else if t.fields.length>8 then 2 else nK [] t.fields
theorem ad5{u:List c6}{i:Nat}(hi:i<u.length)(h:um (u.take i) (u.getD i default)=0):nK (u.take i) (u.drop i)=nK (u.take (i+1)) (u.drop (i+1)):=by
 rw[uc hi,nK,ZW h,Dk hi]
theorem Jo{u:List c6}{i:Nat}{e:Int}(hi:i<u.length)(h:um (u.take i) (u.getD i default)=e)(he:e≠0):nK (u.take i) (u.drop i)=e:=by
 rw[uc hi,nK,Z5 (by rw[h];exact he),h]
theorem Vg(t:aI):Pure prog 29 [.agg t.cells] (iv (kh t)):=by
 refine Sf.p fun σ=> ?_
 repeat'(first|exact .nil|refine .k0 ?_|refine .k1 ?_|refine .k2 ?_|refine .k4 ?_|refine .k6 ?_|refine .k7 ?_|refine .k9 ?_|(refine .cd ?_ ?_<;>(intro hc;skip))|refine .r1 ?_ ?_|(refine .m1 ?_ ?_;intro b)|(refine .m2 ?_ ?_;intro hlen)|refine .an rfl (by intro aB;first|exact qD _|fail) ?_ ?_|fail)
 try any_goals(exact Zo)
 all_goals(try simp only[BL]at *)
 ·refine Sx.Fin.intro Zs (bi ?_)
  unfold kh;rw[ZW (by grind)]
 ·refine Sx.Fin.intro Zs (bi ?_)
  unfold kh;rw[Z5 (by grind),ZW (by omega)]
 rename_i h1 h2
 have hu:kh t=nK [] t.fields:=by unfold kh;rw[Z5 (by grind),Z5 (by omega)]
 refine bO (fun n rg σ'=>∃ (i:Nat),i≤t.fields.length∧n=t.fields.length-i∧kh t=nK (t.fields.take i) (t.fields.drop i)∧σ'=(1,b,aR.cells t.cells)::σ∧rg=[(1,.lp 1 b 0),(31,.sl false 4 (t.fields.map c6.cells)),(32,iv t.fields.length),(33,iv i)]) t.fields.length rfl ⟨_,_,Zr,Zs,0,ZL _,rfl,hu,rfl,rfl⟩ ?_
 rintro n _ _ ⟨i,hi,hn,hp,rfl,rfl⟩
 repeat'(first|exact .nil|refine .k0 ?_|refine .k1 ?_|refine .k2 ?_|refine .k6 ?_|refine .k7 ?_|refine .k8 ?_|refine .k9 ?_|(refine .cd ?_ ?_<;>(intro hc;skip))|refine .r1 ?_ ?_|(refine .l1 ?_;intro b)|refine .t1 ?_ ?_ ?_|refine .t2 ?_ ?_ ?_|refine .an rfl (by intro aB;first|exact qD _|fail) ?_ ?_|fail)
 try any_goals(exact Zo)
 all_goals(try simp only[BL]at *)
 ·rw[hp,Jo (e:=3) (by omega) (ZW hc) (by decide)]
  exact Zw
 refine NN rfl (fun _=>acJ (t.fields.take i) (t.fields.getD i default) _ _) OB.nil ?_
 repeat'(first|exact .nil|refine .k0 ?_|refine .k1 ?_|refine .k2 ?_|refine .k7 ?_|refine .k9 ?_|(refine .cd ?_ ?_<;>(intro hc;skip))|refine .r1 ?_ ?_|refine .an rfl (by intro aB;exact yq (t.fields.getD i default).type) ?_ ?_|fail)
 all_goals(try simp only[BL]at *)
 ·rw[hp,Jo (e:=121) (by omega) (by unfold um;rw[Z5 (fun h=>h ‹_›),ZW hc]) (by decide)]
  exact Zw
 ·rw[hp,Jo (by omega) (by unfold um;rw[Z5 (fun h=>h ‹_›),Z5 ‹_›]) hc]
  exact Zw
 ·refine⟨t.fields.length-(i+1),by omega,_,_,Zr,Zs,i+1,by omega,rfl,?_,rfl,by rw[cu (n:=t.fields.length) (by omega) (by assumption)]⟩
  rw[hp,ad5 (by omega) (by unfold um;rw[Z5 (fun h=>h ‹_›),Z5 ‹_›];exact hc)]
 ·rw[hp,W6 (by omega),nK]
  exact Zw
theorem PQ:∀ (l p:List c6),nK p l=0→∀ f∈l,Name f.name∧ft f.type=0
 |[],_,_,f,hf=>absurd hf (by simp)
 |g::l,p,h,f,hf=>by
  rw[nK]at h
  split at h
  ·rename_i h0
   rcases ZT.1 hf with rfl|hf
   ·unfold um at h0
    split at h0
    ·omega
    ·rename_i hn
     split at h0
     ·omega
     ·exact⟨Yy.1 hn,h0⟩
   ·exact PQ l _ h f hf
  ·rename_i h0;exact absurd h h0
structure yJ(t:aI):Prop where
 n:t.name.size≤24
 e:t.cN.size≤24
 k:0≤t.aQ∧t.aQ≤1099511627776
 l:t.fields.length≤8
 f:∀ f∈t.fields,Name f.name∧ft f.type=0
theorem yJ.of{t:aI}(h:kh t=0):yJ t:=by
 unfold kh at h
 split at h
 ·omega
 ·rename_i h1
  have h1:=Yy.1 h1
  split at h
  ·omega
  ·exact⟨h1.1.1.2.1,h1.2.1.1.2.1,h1.2.2,by omega,PQ _ _ h⟩
end Go.Proofs.YtajimcniogfpcaaGreatDoor
namespace Go.Sx
theorem bC.get{xs ys:List AV}(h:bC xs ys):xs.length=ys.length∧∀ j (h1:j<xs.length) (h2:j<ys.length),Wk xs[j] ys[j]:=by
 induction h with
 |nil=>exact⟨rfl,fun j h1=>absurd h1 (by simp)⟩
 |cons h t ih=>
  refine⟨by simp[ih.1],fun j h1 h2=> ?_⟩
  cases j with
  |zero=>exact h
  |succ j=>exact ih.2 j (by simpa using h1) (by simpa using h2)
inductive mF:List (List AV)→List (List AV)→Prop
 |nil:mF [] []
 |cons {x y:List AV} {xs ys:List (List AV)} (h:bC x y) (t:mF xs ys):mF (x::xs) (y::ys)
theorem mF.get{xs ys:List (List AV)}(h:mF xs ys):xs.length=ys.length∧∀ j (h1:j<xs.length) (h2:j<ys.length),bC xs[j] ys[j]:=by
 induction h with
 |nil=>exact⟨rfl,fun j h1=>absurd h1 (by simp)⟩
 |cons h t ih=>
  refine⟨by simp[ih.1],fun j h1 h2=> ?_⟩
  cases j with
  |zero=>exact h
  |succ j=>exact ih.2 j (by simpa using h1) (by simpa using h2)
theorem Wk.rows{nn:Bool}{n:Nat}{rows rows':List (List AV)}(h:mF rows rows'):Wk (.sl nn n rows) (.sl false n rows'):=fun M v hv=>by
 obtain⟨hl,hg⟩:=h.get
 cases hv with
 |nil _ _ a ha=>
  obtain rfl:rows'=[]:=Zx hl.symm
  exact .nil _ _ a (fun h=>nomatch h)
 |sl _ _ _ b off cap cs aY hM hR hc hm=>
  rw[hl]
  refine .sl _ _ _ b off cap cs (fun i hi=> ?_) (fun k hk=>hM k (by rw[hl];exact hk)) (fun i hi j hj=> ?_) (by omega) hm
  ·have:=(hg i (by omega) hi).get.1
   rw[← this];exact aY i (by omega)
  ·have xe:=(hg i (by omega) hi).get
   have:=hR i (by omega) j (by rw[xe.1];exact hj)
   exact xe.2 j (by rw[xe.1];exact hj) hj M _ this
end Go.Sx
namespace Go.Proofs.YtajimcniogfpcaaGreatDoor
open Go.Sx Go.Proofs
theorem Name.size{s:ae}(h:Name s):s.size≤24:=h.1.2.1
theorem aj.oP(f:aj):f.cells=[sv f.name,sv f.cN,iv f.type.kind,.sl false 2 (f.type.unit.map ax.cells),sv f.type.of,iv f.body.kind,sv f.body.op,sv f.body.name,sv f.body.table,iv f.body.val.kind,iv f.body.val.n,sv f.body.val.s,.sl false 2 (f.body.unit.map ax.cells),iv f.body.param,iv f.body.win.kind,iv f.body.win.size,.sl false 12 (f.body.args.map Ex.row),iv f.version]:=by rw[← Ex.oP];rfl
def vX(t:aI):Prop:=(∀ f∈t.fields,f.name.size≤100∧pP f.type)∧t.fields.length≤12∧t.name.size+t.cN.size≤200
instance (t:aI):Decidable (vX t):=inferInstanceAs (Decidable (_∧_∧_))
structure aI.Fits(t:aI):Prop where
 n:t.name.size≤2 ^ 59
 e:t.cN.size≤2 ^ 59
 f:∀ f∈t.fields,f.type.of.size≤2 ^ 59
structure aj.Fits(f:aj):Prop where
 n:f.name.size≤2 ^ 59
 e:f.cN.size≤2 ^ 59
 t:f.type.of.size≤2 ^ 59
 b:f.body.wt≤2 ^ 60
theorem PB(t:aI)(hb:t.Fits):Pure Tryz.prog 24 [.agg t.cells] (.v (.bool (decide (vX t)))):=by
 have hn:=hb.n
 have he:=hb.e
 refine k24.p fun σ=> ?_
 repeat'(first|exact .nil|refine .k0 ?_|refine .k1 ?_|refine .k2 ?_|refine .k6 ?_|refine .r1 ?_ ?_|(refine .m1 ?_ ?_;intro b)|fail)
 all_goals(try simp only[BL]at *)
 refine bO (fun n rg σ'=>∃ i:Nat,i≤t.fields.length∧n=t.fields.length-i∧(∀ j,j<i→(t.fields.getD j default).name.size≤100∧pP (t.fields.getD j default).type)∧σ'=(1,b,aR.cells t.cells)::σ∧rg=[(1,.lp 1 b 0),(3,iv i)]) t.fields.length rfl ⟨_,_,Zr,Zs,0,ZL _,rfl,fun j hj=>absurd hj (by omega),rfl,rfl⟩ ?_
 rintro n _ _ ⟨i,hi,hn,hp,rfl,rfl⟩
 repeat'(first|exact .nil|refine .k0 ?_|refine .k1 ?_|refine .k2 ?_|refine .k3 ?_|refine .k4 ?_|refine .k6 ?_|refine .k7 ?_|refine .k8 ?_|refine .k9 ?_|(refine .cd ?_ ?_<;>(intro hc;skip))|refine .r1 ?_ ?_|(refine .m2 ?_ ?_;intro hlen)|refine .t1 ?_ ?_ ?_|refine .an rfl (by intro aB;exact PC (t.fields.getD i default).type (hb.f _ (dt (by(simp only[BL]at *;omega))))) ?_ ?_|fail)
 try any_goals(exact Zo)
 all_goals(try simp only[BL]at *)
 ·refine Sx.Fin.intro Zs (bf ?_)
  rintro⟨h,_⟩
  have:=h _ (dt (i:=i) (by omega))
  grind
 ·refine⟨t.fields.length-(i+1),by omega,_,_,Zr,Zs,i+1,by omega,rfl,iP hp (by grind),rfl,by rw[cu (n:=t.fields.length) (by omega) (by assumption)]⟩
 ·have cO:=oA (p:=fun f:c6=>f.name.size≤100∧pP f.type) (l:=t.fields) (fun j hj=>hp j (by omega))
  refine Sx.Fin.intro Zs (bd ?_)
  rw[eu (by omega)]
  unfold vX
  grind
def q9(f:aj):Prop:=f.name.size+f.cN.size≤200∧pP f.type∧0≤kB f.body 80
instance (f:aj):Decidable (q9 f):=inferInstanceAs (Decidable (_∧_∧_))
theorem adP(x:Ex)(hw:x.wt≤2 ^ 60)(n:Int)(hn: -1≤n∧n≤1000):Pure Tryz.prog 54 [.agg x.lay,iv n] (iv (kB x n)):=by have:=PE x hw n hn;rwa [Ex.fe x]at this
theorem Pz(f:aj)(hb:f.Fits):Pure Tryz.prog 25 [.agg f.cells] (.v (.bool (decide (q9 f)))):=by
 have hn:=hb.n
 have he:=hb.e
 rw[aj.oP]
 refine k25.p fun σ=> ?_
 repeat'(first|exact .nil|refine .k0 ?_|refine .k1 ?_|refine .k2 ?_|refine .k4 ?_|refine .k7 ?_|refine .r1 ?_ ?_|(refine .m1 ?_ ?_;intro b)|refine .an rfl (by intro aB;first|exact PC f.type hb.t|exact adP f.body hb.b 80 (by decide)) ?_ ?_|fail)
 all_goals(try simp only[BL]at *)
 ·refine Sx.Fin.intro Zs (bd ?_)
  rw[eu (by omega)]
  unfold q9
  grind
end Go.Proofs.YtajimcniogfpcaaGreatDoor
