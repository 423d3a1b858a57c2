/- How the arguments of the printer's laws read. -/
import Derived.Test.YthdeaajdmdmfnaaGreatDoorPn
import Derived.Test.YthdeaajdmdmfnaaGreatDoorSxB
import Derived.Test.YthdeaajdmdmfnaaGreatDoorAy
import Derived.Test.YthdeaajdmdmfnaaGreatDoorRows
import Derived.Lib.LaidU8
import Derived.LaidLaws
import Derived.Shelf.Vars
import Derived.HandedShaped
set_option linter.unusedSimpArgs false
set_option linter.unusedVariables false
set_option maxRecDepth 100000
namespace Go.Proofs.YthdeaajdmdmfnaaGreatDoor
open _root_.Go.Proofs.Tryz
open Go.Sx Go.Proofs
theorem own:ownKnob prog.godebug=none:=by kernel_rfl
theorem laidOut:laidOutB prog=true:=by kernel_rfl
section
variable {H:Type}{enc:TypeId×Value→H}{W:World}
theorem gV(n:Nat):Rd enc prog W n 3 fun l=>∃ z:Int,l=[iv z]:=(Rd.int underlying3).mono fun l ⟨z,h,_⟩=>⟨z,h⟩
theorem afX(n:Nat):Rd enc prog W n 3 fun l=>∃ z:Int,l=[iv z]∧z≤9223372036854775807:=(Rd.int underlying3).mono fun l ⟨z,h,hw⟩=>⟨z,h,by
 simp only[Lit.wf,Z8,ZR]at hw
 exact hw.2⟩
theorem iX(n:Nat):Rd enc prog W n 9 fun l=>∃ s:af,l=[sv s]∧s.size≤reachBytes:=Rd.str underlying9
theorem rd_val:∀ n:Nat,Rd enc prog W n 30 fun l=>∃ v:gh,l=v.cells∧v.s.size≤reachBytes
 |0=>Rd.zero _ _
 |n+1=>(Rd.struct underlying30 (by kernel_rfl) (.cons (gV n) (.cons (gV n) (.cons (iX n) .nil)))).mono (by
  rintro _ ⟨_,_,rfl,⟨a,rfl⟩,_,_,rfl,⟨b,rfl⟩,_,_,rfl,⟨c,rfl,hc⟩,rfl⟩
  exact⟨⟨a,b,c⟩,rfl,hc⟩)
theorem af0:∀ n:Nat,Rd enc prog W n 32 fun l=>∃ w:qe,l=w.cells
 |0=>Rd.zero _ _
 |n+1=>(Rd.struct underlying32 (by kernel_rfl) (.cons (gV n) (.cons (gV n) .nil))).mono (by
  rintro _ ⟨_,_,rfl,⟨a,rfl⟩,_,_,rfl,⟨b,rfl⟩,rfl⟩
  exact⟨⟨a,b⟩,rfl⟩)
theorem afT:∀ n:Nat,Rd enc prog W n 125 fun l=>∃ f:aC,l=f.cells
 |0=>Rd.zero _ _
 |n+1=>(Rd.struct underlying125 (by kernel_rfl) (.cons (iX n) (.cons (gV n) .nil))).mono (by
  rintro _ ⟨_,_,rfl,⟨a,rfl,_⟩,_,_,rfl,⟨b,rfl⟩,rfl⟩
  exact⟨⟨a,b⟩,rfl⟩)
theorem RH:∀ n:Nat,Rd enc prog W n 26 fun l=>∃ u:List aC,l=[.sl false 2 (u.map aC.cells)]
 |0=>Rd.zero _ _
 |n+1=>(Rd.slice underlying26 (ah:=2) (by kernel_rfl) (by decide) (afT n)).mono (by
  rintro _ ⟨rows,rfl,_,h⟩
  obtain⟨ls,rfl,_⟩:=yk (f:=aC.cells) (W:=fun _=>True) (fun r hr=>by obtain⟨x,h⟩:=h r hr;exact⟨x,h,trivial⟩)
  exact⟨ls,rfl⟩)
theorem RM:∀ n:Nat,Rd enc prog W n 28 fun l=>∃ t:Ty,l=t.cells∧t.of.size≤reachBytes
 |0=>Rd.zero _ _
 |n+1=>(Rd.struct underlying28 (by kernel_rfl) (.cons (gV n) (.cons (RH n) (.cons (iX n) .nil)))).mono (by
  rintro _ ⟨_,_,rfl,⟨a,rfl⟩,_,_,rfl,⟨b,rfl⟩,_,_,rfl,⟨c,rfl,hc⟩,rfl⟩
  exact⟨⟨a,b,c⟩,rfl,hc⟩)
theorem ajH{l:List Ex}{k:Nat}(h:∀ y∈l,y.wt≤k):Ex.ry l≤k:=by
 induction l with
 |nil=>exact ZM _
 |cons x l ih=>
  have h1:=h x (by simp)
  have h2:=ih fun y hy=>h y (by simp[hy])
  rw[Ex.ry];omega
mutual
theorem RJ:∀ n:Nat,Rd enc prog W n 35 fun l=>∃ x:Ex,l=x.row∧x.wt≤2 ^ 60
 |0=>Rd.zero _ _
 |n+1=>(Rd.struct underlying35 (by kernel_rfl) (.cons (gV n) (.cons (iX n) (.cons (iX n) (.cons (iX n) (.cons (rd_val n) (.cons (RH n) (.cons (gV n) (.cons (af0 n) (.cons (afS n) .nil)))))))))).mono (by
  rintro _ ⟨_,_,rfl,⟨k,rfl⟩,_,_,rfl,⟨o,rfl,ho⟩,_,_,rfl,⟨nm,rfl,hn⟩,_,_,rfl,⟨t,rfl,ht⟩,_,_,rfl,⟨v,rfl,hv⟩,_,_,rfl,⟨u,rfl⟩,_,_,rfl,⟨p,rfl⟩,_,_,rfl,⟨w,rfl⟩,_,_,rfl,⟨ks,rfl,xB⟩,rfl⟩
  refine⟨⟨k,o,nm,t,v,u,p,w,ks⟩,(Ex.kE _).symm ▸ rfl,?_⟩
  rw[Ex.wt]
  have:=ajH xB
  have hr:reachBytes≤2 ^ 47:=by decide
  omega)
theorem afS:∀ n:Nat,Rd enc prog W n 33 fun l=>∃ ks:List Ex,l=[.sl false 12 (ks.map Ex.row)]∧∀ y∈ks,y.wt≤2 ^ 60
 |0=>Rd.zero _ _
 |n+1=>(Rd.slice underlying33 (ah:=12) (by kernel_rfl) (by decide) (RJ n)).mono (by
  rintro _ ⟨rows,rfl,_,h⟩
  obtain⟨ls,rfl,hl⟩:=yk (f:=Ex.row) (W:=fun y=>y.wt≤2 ^ 60) (fun r hr=>h r hr)
  exact⟨ls,rfl,hl⟩)
end
theorem afV:∀ n:Nat,Rd enc prog W n 105 fun l=>∃ f:dk,l=f.cells∧f.type.of.size≤2 ^ 59
 |0=>Rd.zero _ _
 |n+1=>(Rd.struct underlying105 (by kernel_rfl) (.cons (iX n) (.cons (RM n) .nil))).mono (by
  rintro _ ⟨_,_,rfl,⟨a,rfl,_⟩,_,_,rfl,⟨b,rfl,hb⟩,rfl⟩
  exact⟨⟨a,b⟩,rfl,ZI hb (by decide)⟩)
theorem afW:∀ n:Nat,Rd enc prog W n 43 fun l=>∃ fs:List dk,l=[.sl false 4 (fs.map dk.cells)]∧∀ f∈fs,f.type.of.size≤2 ^ 59
 |0=>Rd.zero _ _
 |n+1=>(Rd.slice underlying43 (ah:=4) (by kernel_rfl) (by decide) (afV n)).mono (by
  rintro _ ⟨rows,rfl,_,h⟩
  obtain⟨ls,rfl,hl⟩:=yk (f:=dk.cells) (W:=fun f=>f.type.of.size≤2 ^ 59) (fun r hr=>h r hr)
  exact⟨ls,rfl,hl⟩)
theorem afZ:∀ n:Nat,Rd enc prog W n 45 fun l=>∃ t:bj,l=t.cells∧t.Fits
 |0=>Rd.zero _ _
 |n+1=>(Rd.struct underlying45 (by kernel_rfl) (.cons (iX n) (.cons (iX n) (.cons (afW n) (.cons (gV n) .nil))))).mono (by
  rintro _ ⟨_,_,rfl,⟨a,rfl,ha⟩,_,_,rfl,⟨b,rfl,hb⟩,_,_,rfl,⟨fs,rfl,hf⟩,_,_,rfl,⟨k,rfl⟩,rfl⟩
  exact⟨⟨a,b,fs,k⟩,rfl,ZI ha (by decide),ZI hb (by decide),hf⟩)
theorem afU:∀ n:Nat,Rd enc prog W n 37 fun l=>∃ f:aq,l=f.cells∧f.Fits
 |0=>Rd.zero _ _
 |n+1=>(Rd.struct underlying37 (by kernel_rfl) (.cons (iX n) (.cons (iX n) (.cons (RM n) (.cons (RJ n) (.cons (gV n) .nil)))))).mono (by
  rintro _ ⟨_,_,rfl,⟨a,rfl,ha⟩,_,_,rfl,⟨b,rfl,hb⟩,_,_,rfl,⟨t,rfl,ht⟩,_,_,rfl,⟨x,rfl,hx⟩,_,_,rfl,⟨v,rfl⟩,rfl⟩
  exact⟨⟨a,b,t,x,v⟩,by rw[aq.o3,Ex.kE x];rfl,ZI ha (by decide),ZI hb (by decide),ZI ht (by decide),hx⟩)
end
section
variable {H:Type}{enc:TypeId×Value→H}{W:World}
theorem af1:∀ n:Nat,Rd enc prog W n 47 fun l=>∃ x:bh,l=x.cells∧x.table.Fits∧x.feature.Fits∧x.name.size≤2 ^ 59
 |0=>Rd.zero _ _
 |n+1=>(Rd.struct underlying47 (by kernel_rfl) (.cons (gV n) (.cons (afZ n) (.cons (afU n) (.cons (iX n) .nil))))).mono (by
  rintro _ ⟨_,_,rfl,⟨k,rfl⟩,_,_,rfl,⟨t,rfl,ht⟩,_,_,rfl,⟨f,rfl,hf⟩,_,_,rfl,⟨s,rfl,hs⟩,rfl⟩
  exact⟨⟨k,t,f,s⟩,by unfold bh.cells;simp,ht,hf,ZI hs (by decide)⟩)
end
section
variable {H:Type}{enc:TypeId×Value→H}{W:World}
theorem yf{s:af}(h:s.size≤reachBytes):s.size≤2 ^ 59:=ZI h (by decide)
theorem RN:∀ n:Nat,Rd enc prog W n 60 fun l=>∃ (s:af) (k:Int),l=[sv s,iv k]∧s.size≤2 ^ 59
 |0=>Rd.zero _ _
 |n+1=>(Rd.struct underlying60 (by kernel_rfl) (.cons (iX n) (.cons (gV n) .nil))).mono (by
  rintro _ ⟨_,_,rfl,⟨s,rfl,hs⟩,_,_,rfl,⟨k,rfl⟩,rfl⟩
  exact⟨s,k,rfl,yf hs⟩)
theorem af6:∀ n:Nat,Rd enc prog W n 61 fun l=>∃ vs:List gh,l=[.sl false 3 (vs.map gh.cells)]∧∀ v∈vs,v.s.size≤2 ^ 59
 |0=>Rd.zero _ _
 |n+1=>(Rd.slice underlying61 (ah:=3) (by kernel_rfl) (by decide) (rd_val n)).mono (by
  rintro _ ⟨rows,rfl,_,h⟩
  obtain⟨ls,rfl,hl⟩:=yk (f:=gh.cells) (W:=fun v:gh=>v.s.size≤reachBytes) (fun r hr=>h r hr)
  exact⟨ls,rfl,fun v hv=>yf (hl v hv)⟩)
theorem af5:∀ n:Nat,Rd enc prog W n 63 fun l=>∃ f:Li,l=[sv f.src,iv f.seq,iv f.kind,iv f.ref,sv f.table,sv f.key,iv f.event,.sl false 3 (f.fields.map gh.cells)]∧f.src.size≤2 ^ 59∧f.table.size≤2 ^ 59∧f.key.size≤2 ^ 59∧∀ v∈f.fields,v.s.size≤2 ^ 59
 |0=>Rd.zero _ _
 |n+1=>(Rd.struct underlying63 (by kernel_rfl) (.cons (RN n) (.cons (gV n) (.cons (gV n) (.cons (iX n) (.cons (iX n) (.cons (gV n) (.cons (af6 n) .nil)))))))).mono (by
  rintro _ ⟨_,_,rfl,⟨s,q,rfl,hs⟩,_,_,rfl,⟨k,rfl⟩,_,_,rfl,⟨r,rfl⟩,_,_,rfl,⟨t,rfl,ht⟩,_,_,rfl,⟨y,rfl,hy⟩,_,_,rfl,⟨ev,rfl⟩,_,_,rfl,⟨vs,rfl,hv⟩,rfl⟩
  exact⟨⟨s,q,k,r,t,y,ev,vs⟩,by simp,hs,yf ht,yf hy,hv⟩)
theorem af4:∀ n:Nat,Rd enc prog W n 65 fun l=>∃ f:Era,l=[iv f.kind,sv f.dx,sv f.key,sv f.src,iv f.seq]∧f.dx.size≤2 ^ 59∧f.key.size≤2 ^ 59∧f.src.size≤2 ^ 59
 |0=>Rd.zero _ _
 |n+1=>(Rd.struct underlying65 (by kernel_rfl) (.cons (gV n) (.cons (iX n) (.cons (iX n) (.cons (RN n) .nil))))).mono (by
  rintro _ ⟨_,_,rfl,⟨k,rfl⟩,_,_,rfl,⟨t,rfl,ht⟩,_,_,rfl,⟨y,rfl,hy⟩,_,_,rfl,⟨s,q,rfl,hs⟩,rfl⟩
  exact⟨⟨k,t,y,s,q⟩,by simp,yf ht,yf hy,hs⟩)
theorem af2:∀ n:Nat,Rd enc prog W n 67 fun l=>∃ e:aM,l=e.cells∧e.Fits
 |0=>Rd.zero _ _
 |n+1=>(Rd.struct underlying67 (by kernel_rfl) (.cons (gV n) (.cons (afX n) (.cons (gV n) (.cons (af5 n) (.cons (af4 n) (.cons (af1 n) .nil))))))).mono (by
  rintro _ ⟨_,_,rfl,⟨a,rfl⟩,_,_,rfl,⟨b,rfl,hb⟩,_,_,rfl,⟨c,rfl⟩,_,_,rfl,⟨f,rfl,f1,f2,f3,f4⟩,_,_,rfl,⟨g,rfl,g1,g2,g3⟩,_,_,rfl,⟨x,rfl,hx⟩,rfl⟩
  exact⟨⟨a,b,c,f,g,x⟩,by unfold aM.cells;simp,hx.1,hx.2.1,hb,⟨f1,f2,f3,g1,g2,g3⟩,f4⟩)
theorem af3:∀ n:Nat,Rd enc prog W n 56 fun l=>∃ es:List aM,l=[.sl false 40 (es.map aM.cells)]∧∀ e∈es,e.Fits
 |0=>Rd.zero _ _
 |n+1=>(Rd.slice underlying56 (ah:=40) (by kernel_rfl) (by decide) (af2 n)).mono (by
  rintro _ ⟨rows,rfl,_,h⟩
  obtain⟨ls,rfl,hl⟩:=yk (f:=aM.cells) (W:=aM.Fits) (fun r hr=>h r hr)
  exact⟨ls,rfl,hl⟩)
end
end Go.Proofs.YthdeaajdmdmfnaaGreatDoor
namespace Go.Proofs.YthdeaajdmdmfnaaGreatDoor
open _root_.Go.Proofs.Tryz
open Go.Sx Go.Proofs Go.Lib
theorem JR{W:World}{g:Nat}{x:AV}{v:Value}(hc:W.cell? ⟨g,0,none⟩=some v)(h:R (M0 W) x v):R (M0 W) (.pc [x]) (.pointer (some ⟨g,0,none⟩)):=by
 refine .pc [x] g 0 (fun _=>v) (fun k hk=> ?_) (fun k hk=> ?_)
 ·obtain rfl:k=0:=by simpa using hk
  exact hc
 ·obtain rfl:k=0:=by simpa using hk
  exact h
def x3(s:af):DataW Unit:= .lit (.string s.data.toList)
theorem aiG{enc:TypeId×Value→Unit}{P:Program}[Glob P]{W:World}{t e:TypeId}{fuel:Nat}{held:Bool}{cs:List Value}{p:List MemPlace}{ss:List af}(ht:P.underlying t=some (.slice e))(he:P.underlying e=some .string)(C5:P.cellsOf e=1)
  (h0:ss≠[]) (hx:DataW.trod enc P W 0 (fun _=>true) held fuel t cs=some (.slice (ss.map x3) [],p)):∃ v,cs=[v]∧R (M0 W) (.sl false 1 (ss.map iZ)) v:=by
 rcases DataW.trod_slice ht hx with⟨_,h⟩|⟨a,len,cap,elems,rest,m,rfl,rfl,ef,_,Df,iQ,hlen,Ih,dE,_⟩
 ·cases h
 ·simp only[YW,DataW.slice.injEq]at ef
  have xz:=ef.1.1
  have hl:elems.length=ss.length:=by
   have:=Zd List.length xz
   simpa using this.symm
  have uX:0<ss.length:=XZ.2 h0
  have cell:∀ i (hi:i<ss.length),W.cell? (a.add i)=some (.string (ss.getD i ⟨#[]⟩)):=by
   intro i hi
   have h1:=Ih i (by omega)
   have Ow:i<elems.length:=by omega
   rw[Z1 Ow,Option.bind_eq_some_iff]at h1
   obtain⟨bO,hc,qG⟩:=h1
   obtain⟨s,rfl,hs,_⟩:=SD he qG
   obtain⟨g1,g2⟩:=F2 hc
   have g3:=g2 0 (by omega)
   have e1:(elems.map (·.1))[i]'(by simpa using Ow)=x3 (ss[i]'hi):=by
    have:(ss.map x3)[i]'(by simpa using hi)=x3 (ss[i]'hi):=by rw[Zu]
    rw[← this]
    exact List.getElem_of_eq xz.symm _
   rw[Zu,hs]at e1
   simp only[x3,DataW.lit.injEq,Lit.string.injEq]at e1
   have e2:s=ss[i]'hi:=Kz e1
   rw[C5,Yb]at g3
   have e3:(a.add i).add 0=a.add i:=by rw[Go.Deep.add_add];rfl
   rw[e3]at g3
   rw[g3,e2,Z3,Z1 hi];rfl
  have js:a.spot=none:=by
   have:=Ks (cell 0 uX)
   simpa[Addr.add]using this
  obtain⟨b,o,s⟩:=a
  simp only at js
  subst js
  refine⟨_,rfl,?_⟩
  have pz:(ss.map iZ).length=len:=by rw[ZW];omega
  have:=R.nc (M:=M0 W) (b:=b) (off:=o) (cap:=cap) (ah:=1) (rows:=ss.map iZ) (cs:=fun k=> .string (ss.getD k ⟨#[]⟩)) ⟨fun i hi=> ?_,fun k hk=> ?_,fun i hi j hj=> ?_⟩ (by omega) iQ false
  ·rw[pz]at this;exact this
  ·rw[Zu];rfl
  ·have:=cell k (by simpa using hk)
   rw[Addr.add_lit]at this
   exact this
  ·have cD:i<ss.length:=by simpa using hi
   simp only[Zu,iZ,ZS,ZA]at hj ⊢
   obtain rfl:j=0:=by omega
   rw[Z3,Yb,Ym,Z1 cD]
   exact .v _
theorem GV{W:World}{name:String}{G:Nat}{d:DataW Unit}{ss:List af}(h:VarReads prog W name d)(hg:prog.globalNamed name=some G)(sP:(prog.globals[G]?).map (·.type)=some 87)(hd:d= .slice (ss.map x3) [])(h0:ss≠[]):
  R (M0 W) (.pc [.sl false 1 (ss.map iZ)]) (.pointer (some ⟨G,0,none⟩)):=by
 obtain⟨g,t,cs,fuel,p,h1,h2,h3,h4⟩:=h
 obtain rfl:=YK (hg.symm.trans h1)
 obtain rfl:=YK (sP.symm.trans h2)
 rw[hd]at h4
 obtain⟨v,hv,hR⟩:=aiG underlying87 underlying9 (by kernel_rfl) h0 h4
 refine JR ?_ hR
 rw[World.var?_cell hg h3 0]
 have:=Zd (·[0]?) hv
 simpa using this
theorem Re{W:World}{g:Nat}{vs:List Value}(hc:∀ k (h:k<vs.length),W.cell? ⟨g,k,none⟩=some vs[k]):R (M0 W) (.pc (vs.map AV.v)) (.pointer (some ⟨g,0,none⟩)):=by
 refine .pc _ g 0 (fun k=>vs.getD k undef) (fun k hk=> ?_) (fun k hk=> ?_)
 ·have di:k<vs.length:=by simpa using hk
  rw[ZH,Z3,Z1 di]
  exact hc k di
 ·have di:k<vs.length:=by simpa using hk
  rw[Zu,Z3,Z1 di]
  exact .v _
theorem KE{W:World}{name:String}{d:DataW Unit}{G:Nat}{t e:TypeId}{n:Nat}{k:IntKind}{zs:List Int}(h:VarReads prog W name d)(hd:d=tabData k zs)(hG:prog.globalNamed name=some G)(sP:(prog.globals[G]?).map (·.type)=some t)
  (ht:prog.underlying t=some (.array n e)) (he:prog.underlying e=some (.int k)) (h1:prog.cellsOf e=1) (hn:prog.cellsOf t=n):TabIs prog W name k zs:=by
 obtain⟨g,t',cs,fuel,p,g1,g2,g3,g4⟩:=h
 obtain rfl:=YK (hG.symm.trans g1)
 obtain rfl:=YK (sP.symm.trans g2)
 rw[hd]at g4
 have:=cells_of_tab ht he h1 hn g4
 unfold TabIs
 rw[g3,← this]
theorem Rc{W:World}{name:String}{G:Nat}{k:IntKind}{zs:List Int}(h:TabIs prog W name k zs)(hG:prog.globalNamed name=some G):R (M0 W) (.pc ((zs.map fun z=>Value.int k z).map AV.v)) (.pointer (some ⟨G,0,none⟩)):=by
 refine Re fun i hi=> ?_
 have cD:i<zs.length:=by simpa using hi
 have:=h.cell hG i cD
 rw[this]
 simp[cD]
theorem abA{W:World}(hL:laidMet prog Rows.changesPrefixRow.laid W)(sL:W.ShapedOpen prog):Fg prog W:=by
 have IK:=laidMet.reads hL (n:= "internal/strconv.uint64pow10") (d:=Rows.laid_internal_strconv_uint64pow10) (by simp[Rows.changesPrefixRow])
 refine⟨fun g l h=> ?_,?_,?_⟩
 ·simp only[Glob.av]at h
  split at h
  ·cases h
   exact GV (laidMet.reads hL (n:= "asof/checker.aggregates") (d:=Rows.laid_asof_checker_aggregates) (by simp[Rows.changesPrefixRow])) (by kernel_rfl) (by kernel_rfl) (by rfl) (by decide)
  ·cases h
   exact GV (laidMet.reads hL (n:= "asof/checker.unary") (d:=Rows.laid_asof_checker_unary) (by simp[Rows.changesPrefixRow])) (by kernel_rfl) (by kernel_rfl) (by rfl) (by decide)
  ·cases h
   exact GV (laidMet.reads hL (n:= "asof/checker.binary") (d:=Rows.laid_asof_checker_binary) (by simp[Rows.changesPrefixRow])) (by kernel_rfl) (by kernel_rfl) (by rfl) (by decide)
  ·cases h
   obtain⟨m,hm⟩:=cell_of_shapedOpen_int (g:=3) (zero:= #[.int .i64 0]) (t:=3) sL (XK (by kernel_rfl)) (by kernel_rfl) rfl (by kernel_rfl) (by kernel_rfl) underlying3
   exact JR hm (.ai .i64 m)
  ·cases h
   have h1:=KE (k:= .i64) (zs:=[1,10,100,1000,10000,100000,1000000]) (n:=7) (G:=4) (t:=367) (e:=3) (laidMet.reads hL (n:= "asof/decimal.tens") (d:=Rows.laid_asof_decimal_tens) (by simp[Rows.changesPrefixRow])) (by rfl) (by kernel_rfl) (by kernel_rfl) underlying367 underlying3 (by kernel_rfl) (by kernel_rfl)
   exact Rc h1 (by kernel_rfl)
  ·cases h
   obtain⟨g,t,cs,fuel,p,h1,h2,h3,h4⟩:=laidMet.reads hL (n:= "strconv.ErrRange") (d:=Rows.laid_strconv_ErrRange) (by simp[Rows.changesPrefixRow])
   have hG:prog.globalNamed "strconv.ErrRange" =some 9:=by kernel_rfl
   obtain rfl:=YK (hG.symm.trans h1)
   have sP:(prog.globals[9]?).map (·.type)=some 282:=by kernel_rfl
   obtain rfl:=YK (sP.symm.trans h2)
   have kj:=World.var?_cell hG h3 0
   have OZ: "*" ++ "errors.errorString" = "*errors.errorString" :=by decide
   cases fuel with
   |zero=>simp[DataW.trod]at h4
   |succ fuel=>
    unfold DataW.trod at h4
    rw[underlying282]at h4
    clear hL sL IK h1 h2 sP h3
    generalize bC:cs.toList=l at h4
    have e0:cs[0]? =l[0]? :=by rw[← bC];simp
    rw[e0]at kj
    clear e0 bC
    have key:∃ u v,l=[.iface u v]∧prog.typeName? 3 u=some "*errors.errorString" :=by
     unfold Rows.laid_strconv_ErrRange at h4
     split at h4
     all_goals first|(exfalso;rename_i heq;cases heq;done)|(exfalso;cases h4;done)|skip
     rename_i u v _
     refine⟨u,v,rfl,?_⟩
     cases hn:prog.typeName? 3 u with
     |none=>rw[hn]at h4;cases h4
     |some nm=>
      rw[hn]at h4
      simp only[Z9,YW,DataW.iface.injEq]at h4
      obtain⟨_,_,⟨rfl,_⟩,_⟩:=h4
      rfl
    obtain⟨u,v,rfl,hu⟩:=key
    obtain rfl:u=426:=typeName_ptr_named (nm:= "errors.errorString") (by rw[OZ];kernel_rfl) (by kernel_rfl) (by decide) u (by rw[OZ];exact hu)
    exact JR (kj.trans rfl) (.dz _ _ v (.any v))
  ·cases h
   have h1:=KE (k:= .u8) (zs:=firstTab) (n:=256) (G:=6) (t:=265) (e:=5) (laidMet.reads hL (n:= "unicode/utf8.first") (d:=Rows.laid_unicode_utf8_first) (by simp[Rows.changesPrefixRow])) (by kernel_rfl) (by kernel_rfl) (by kernel_rfl) underlying265 underlying5 (by kernel_rfl) (by kernel_rfl)
   have:=Rc h1 (G:=6) (by kernel_rfl)
   rw[show(firstTab.map fun z=>Value.int .u8 z).map AV.v=(List.range 256).map fun c=>AV.v (.int .u8 (Lib.firstT c:Nat)) by unfold firstTab;rw[Yg,Yg];rfl]at this
   exact this
  ·cases h
   have h4:=laidMet.reads hL (n:= "unicode/utf8.acceptRanges") (d:=Rows.laid_unicode_utf8_acceptRanges) (by simp[Rows.changesPrefixRow])
   rw[show(Rows.laid_unicode_utf8_acceptRanges:DataW Unit)=acceptData by kernel_rfl]at h4
   have hcell:∀ i,i<16→W.cell? ⟨7,2 * i,none⟩=some (.int .u8 (Lib.accLo i:Nat))∧W.cell? ⟨7,2 * i+1,none⟩=some (.int .u8 (Lib.accHi i:Nat)):=fun i hi=>by
    obtain⟨g,t,cs,fuel,p,hg,sP,O2,hd⟩:=h4
    have hG:prog.globalNamed "unicode/utf8.acceptRanges" =some 7:=by kernel_rfl
    obtain rfl:=YK (hG.symm.trans hg)
    have acG:(prog.globals[7]?).map (·.type)=some 395:=by kernel_rfl
    obtain rfl:=YK (acG.symm.trans sP)
    obtain⟨ajZ,d,q,Om,he⟩:=array_elem underlying395 hd i hi
    simp only[X2,List.getElem?_range hi,ZJ,ZY]at Om
    subst Om
    have c2:prog.cellsOf 394=2:=by kernel_rfl
    rw[c2]at he
    have bK:=ints_of_struct underlying394 (fun j f hj=>by
     match j,hj with
     |0,hj=>simp at hj;subst hj;exact⟨underlying5,rfl,by kernel_rfl⟩
     |1,hj=>simp at hj;subst hj;exact⟨underlying5,rfl,by kernel_rfl⟩
     |j+2,hj=>simp at hj) (by rw[c2];rfl) he
    have e0:=Zd (·[0]?) bK
    have e1:=Zd (·[1]?) bK
    simp only[Y4,Yz]at e0 e1
    constructor
    ·rw[World.var?_cell hG O2 (2 * i),← Zj]
     simpa[Xp]using e0
    ·rw[World.var?_cell hG O2 (2 * i+1),← Zj]
     simpa[Xp]using e1
   have hl:((List.range 16).flatMap fun i=>[AV.v (.int .u8 (Lib.accLo i:Nat)),AV.v (.int .u8 (Lib.accHi i:Nat))])=(((List.range 16).flatMap fun i=>[(Value.int .u8 (Lib.accLo i:Nat)),(Value.int .u8 (Lib.accHi i:Nat))]).map AV.v):=by kernel_rfl
   rw[hl]
   refine Re fun k hk=> ?_
   have di:k<32:=hk
   have key:∀ i:Fin 16,((List.range 16).flatMap fun i=>[(Value.int .u8 (Lib.accLo i:Nat)),(Value.int .u8 (Lib.accHi i:Nat))])[2 * i.val]? =some (Value.int .u8 (Lib.accLo i.val:Nat))∧
     ((List.range 16).flatMap fun i=>[(Value.int .u8 (Lib.accLo i:Nat)),(Value.int .u8 (Lib.accHi i:Nat))])[2 * i.val+1]? =some (Value.int .u8 (Lib.accHi i.val:Nat)):=by
    rintro⟨i,hi⟩
    have:i=0∨i=1∨i=2∨i=3∨i=4∨i=5∨i=6∨i=7∨i=8∨i=9∨i=10∨i=11∨i=12∨i=13∨i=14∨i=15:=by omega
    rcases this with rfl|rfl|rfl|rfl|rfl|rfl|rfl|rfl|rfl|rfl|rfl|rfl|rfl|rfl|rfl|rfl<;>exact⟨rfl,rfl⟩
   obtain⟨k1,k2⟩:=key ⟨k / 2,by omega⟩
   obtain⟨c1,c2⟩:=hcell (k / 2) (by omega)
   rcases Nat.mod_two_eq_zero_or_one k with e|e
   ·rw[show 2 * (k / 2)=k by omega]at c1 k1
    rw[c1,← k1,Z1 hk]
   ·rw[show 2 * (k / 2)+1=k by omega]at c2 k2
    rw[c2,← k2,Z1 hk]
  ·cases h
 ·exact KE (G:=5) IK (by rfl) (by kernel_rfl) (t:=375) (n:=20) (e:=147) (by kernel_rfl) underlying375 underlying147 (by kernel_rfl) (by kernel_rfl)
 ·obtain⟨g,t,cs,fuel,p,h1,h2,h3,h4⟩:=IK
  have hG:prog.globalNamed "internal/strconv.uint64pow10" =some 5:=by kernel_rfl
  simp only[World.var?,hG,Option.bind_some]at h3
  split at h3
  ·rename_i e
   exact(Z6.1 e).1
  ·cases h3
end Go.Proofs.YthdeaajdmdmfnaaGreatDoor
