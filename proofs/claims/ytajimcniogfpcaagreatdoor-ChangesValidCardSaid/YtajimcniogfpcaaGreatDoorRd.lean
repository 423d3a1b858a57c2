/- How the arguments of the printer's laws read. -/
import Derived.Test.YtajimcniogfpcaaGreatDoorPn
import Derived.Test.YtajimcniogfpcaaGreatDoorSxB
import Derived.Test.YtajimcniogfpcaaGreatDoorIa
import Derived.Test.YtajimcniogfpcaaGreatDoorRows
import Derived.Lib.LaidU8
import Derived.LaidLaws
import Derived.Shelf.Vars
import Derived.HandedShaped
set_option linter.unusedSimpArgs false
set_option linter.unusedVariables false
set_option maxRecDepth 100000
namespace Go.Proofs.YtajimcniogfpcaaGreatDoor
open _root_.Go.Proofs.Tryz
open Go.Sx Go.Proofs
theorem own:ownKnob prog.godebug=none:=by kernel_rfl
theorem laidOut:laidOutB prog=true:=by kernel_rfl
section
variable {H:Type}{enc:TypeId×Value→H}{W:World}
theorem pF(n:Nat):Rd enc prog W n 3 fun l=>∃ z:Int,l=[iv z]:=(Rd.int underlying3).mono fun l ⟨z,h,_⟩=>⟨z,h⟩
theorem ot(n:Nat):Rd enc prog W n 9 fun l=>∃ s:ae,l=[sv s]∧s.size≤reachBytes:=Rd.str underlying9
theorem rd_val:∀ n:Nat,Rd enc prog W n 33 fun l=>∃ v:iE,l=v.cells∧v.s.size≤reachBytes
 |0=>Rd.zero _ _
 |n+1=>(Rd.struct underlying33 (by kernel_rfl) (.cons (pF n) (.cons (pF n) (.cons (ot n) .nil)))).mono (by
  rintro _ ⟨_,_,rfl,⟨a,rfl⟩,_,_,rfl,⟨b,rfl⟩,_,_,rfl,⟨c,rfl,hc⟩,rfl⟩
  exact⟨⟨a,b,c⟩,rfl,hc⟩)
theorem aiU:∀ n:Nat,Rd enc prog W n 35 fun l=>∃ w:pS,l=w.cells
 |0=>Rd.zero _ _
 |n+1=>(Rd.struct underlying35 (by kernel_rfl) (.cons (pF n) (.cons (pF n) .nil))).mono (by
  rintro _ ⟨_,_,rfl,⟨a,rfl⟩,_,_,rfl,⟨b,rfl⟩,rfl⟩
  exact⟨⟨a,b⟩,rfl⟩)
theorem aiR:∀ n:Nat,Rd enc prog W n 150 fun l=>∃ f:ax,l=f.cells
 |0=>Rd.zero _ _
 |n+1=>(Rd.struct underlying150 (by kernel_rfl) (.cons (ot n) (.cons (pF n) .nil))).mono (by
  rintro _ ⟨_,_,rfl,⟨a,rfl,_⟩,_,_,rfl,⟨b,rfl⟩,rfl⟩
  exact⟨⟨a,b⟩,rfl⟩)
theorem Ug:∀ n:Nat,Rd enc prog W n 29 fun l=>∃ u:List ax,l=[.sl false 2 (u.map ax.cells)]
 |0=>Rd.zero _ _
 |n+1=>(Rd.slice underlying29 (ag:=2) (by kernel_rfl) (by decide) (aiR n)).mono (by
  rintro _ ⟨rows,rfl,_,h⟩
  obtain⟨ls,rfl,_⟩:=Ar (f:=ax.cells) (W:=fun _=>True) (fun r hr=>by obtain⟨x,h⟩:=h r hr;exact⟨x,h,trivial⟩)
  exact⟨ls,rfl⟩)
theorem Uk:∀ n:Nat,Rd enc prog W n 31 fun l=>∃ t:Ty,l=t.cells∧t.of.size≤reachBytes
 |0=>Rd.zero _ _
 |n+1=>(Rd.struct underlying31 (by kernel_rfl) (.cons (pF n) (.cons (Ug n) (.cons (ot n) .nil)))).mono (by
  rintro _ ⟨_,_,rfl,⟨a,rfl⟩,_,_,rfl,⟨b,rfl⟩,_,_,rfl,⟨c,rfl,hc⟩,rfl⟩
  exact⟨⟨a,b,c⟩,rfl,hc⟩)
theorem al3{l:List Ex}{k:Nat}(h:∀ y∈l,y.wt≤k):Ex.tu l≤k:=by
 induction l with
 |nil=>exact ZL _
 |cons x l ih=>
  have h1:=h x (by simp)
  have h2:=ih fun y hy=>h y (by simp[hy])
  rw[Ex.tu];omega
mutual
theorem Uh:∀ n:Nat,Rd enc prog W n 38 fun l=>∃ x:Ex,l=x.row∧x.wt≤2 ^ 60
 |0=>Rd.zero _ _
 |n+1=>(Rd.struct underlying38 (by kernel_rfl) (.cons (pF n) (.cons (ot n) (.cons (ot n) (.cons (ot n) (.cons (rd_val n) (.cons (Ug n) (.cons (pF n) (.cons (aiU n) (.cons (aiQ n) .nil)))))))))).mono (by
  rintro _ ⟨_,_,rfl,⟨k,rfl⟩,_,_,rfl,⟨o,rfl,ho⟩,_,_,rfl,⟨nm,rfl,hn⟩,_,_,rfl,⟨t,rfl,ht⟩,_,_,rfl,⟨v,rfl,hv⟩,_,_,rfl,⟨u,rfl⟩,_,_,rfl,⟨p,rfl⟩,_,_,rfl,⟨w,rfl⟩,_,_,rfl,⟨ks,rfl,zM⟩,rfl⟩
  refine⟨⟨k,o,nm,t,v,u,p,w,ks⟩,(Ex.fe _).symm ▸ rfl,?_⟩
  rw[Ex.wt]
  have:=al3 zM
  have hr:reachBytes≤2 ^ 47:=by decide
  omega)
theorem aiQ:∀ n:Nat,Rd enc prog W n 36 fun l=>∃ ks:List Ex,l=[.sl false 12 (ks.map Ex.row)]∧∀ y∈ks,y.wt≤2 ^ 60
 |0=>Rd.zero _ _
 |n+1=>(Rd.slice underlying36 (ag:=12) (by kernel_rfl) (by decide) (Uh n)).mono (by
  rintro _ ⟨rows,rfl,_,h⟩
  obtain⟨ls,rfl,hl⟩:=Ar (f:=Ex.row) (W:=fun y=>y.wt≤2 ^ 60) (fun r hr=>h r hr)
  exact⟨ls,rfl,hl⟩)
end
theorem aiS:∀ n:Nat,Rd enc prog W n 105 fun l=>∃ f:c6,l=f.cells∧f.type.of.size≤2 ^ 59
 |0=>Rd.zero _ _
 |n+1=>(Rd.struct underlying105 (by kernel_rfl) (.cons (ot n) (.cons (Uk n) .nil))).mono (by
  rintro _ ⟨_,_,rfl,⟨a,rfl,_⟩,_,_,rfl,⟨b,rfl,hb⟩,rfl⟩
  exact⟨⟨a,b⟩,rfl,ZG hb (by decide)⟩)
theorem aiT:∀ n:Nat,Rd enc prog W n 26 fun l=>∃ fs:List c6,l=[.sl false 4 (fs.map c6.cells)]∧∀ f∈fs,f.type.of.size≤2 ^ 59
 |0=>Rd.zero _ _
 |n+1=>(Rd.slice underlying26 (ag:=4) (by kernel_rfl) (by decide) (aiS n)).mono (by
  rintro _ ⟨rows,rfl,_,h⟩
  obtain⟨ls,rfl,hl⟩:=Ar (f:=c6.cells) (W:=fun f=>f.type.of.size≤2 ^ 59) (fun r hr=>h r hr)
  exact⟨ls,rfl,hl⟩)
theorem Uj:∀ n:Nat,Rd enc prog W n 28 fun l=>∃ t:aI,l=t.cells∧t.Fits
 |0=>Rd.zero _ _
 |n+1=>(Rd.struct underlying28 (by kernel_rfl) (.cons (ot n) (.cons (ot n) (.cons (aiT n) (.cons (pF n) .nil))))).mono (by
  rintro _ ⟨_,_,rfl,⟨a,rfl,ha⟩,_,_,rfl,⟨b,rfl,hb⟩,_,_,rfl,⟨fs,rfl,hf⟩,_,_,rfl,⟨k,rfl⟩,rfl⟩
  exact⟨⟨a,b,fs,k⟩,rfl,ZG ha (by decide),ZG hb (by decide),hf⟩)
theorem Ui:∀ n:Nat,Rd enc prog W n 40 fun l=>∃ f:aj,l=f.cells∧f.Fits
 |0=>Rd.zero _ _
 |n+1=>(Rd.struct underlying40 (by kernel_rfl) (.cons (ot n) (.cons (ot n) (.cons (Uk n) (.cons (Uh n) (.cons (pF n) .nil)))))).mono (by
  rintro _ ⟨_,_,rfl,⟨a,rfl,ha⟩,_,_,rfl,⟨b,rfl,hb⟩,_,_,rfl,⟨t,rfl,ht⟩,_,_,rfl,⟨x,rfl,hx⟩,_,_,rfl,⟨v,rfl⟩,rfl⟩
  exact⟨⟨a,b,t,x,v⟩,by rw[aj.oP,Ex.fe x];rfl,ZG ha (by decide),ZG hb (by decide),ZG ht (by decide),hx⟩)
end
section
variable {H:Type}{enc:TypeId×Value→H}{W:World}
theorem aiX:∀ n:Nat,Rd enc prog W n 22 fun l=>∃ ts:List aI,l=[.sl false 4 (ts.map aI.cells)]∧∀ t∈ts,t.Fits
 |0=>Rd.zero _ _
 |n+1=>(Rd.slice underlying22 (ag:=4) (by kernel_rfl) (by decide) (Uj n)).mono (by
  rintro _ ⟨rows,rfl,_,h⟩
  obtain⟨ls,rfl,hl⟩:=Ar (f:=aI.cells) (W:=aI.Fits) (fun r hr=>h r hr)
  exact⟨ls,rfl,hl⟩)
theorem L5:∀ n:Nat,Rd enc prog W n 23 fun l=>∃ fs:List aj,l=[.sl false 18 (fs.map aj.cells)]∧∀ f∈fs,f.Fits
 |0=>Rd.zero _ _
 |n+1=>(Rd.slice underlying23 (ag:=18) (by kernel_rfl) (by decide) (Ui n)).mono (by
  rintro _ ⟨rows,rfl,_,h⟩
  obtain⟨ls,rfl,hl⟩:=Ar (f:=aj.cells) (W:=aj.Fits) (fun r hr=>h r hr)
  exact⟨ls,rfl,hl⟩)
theorem aiV:∀ n:Nat,Rd enc prog W n 25 fun l=>∃ c:az,l=c.cells∧DD c
 |0=>Rd.zero _ _
 |n+1=>(Rd.struct underlying25 (by kernel_rfl) (.cons (aiX n) (.cons (L5 n) (.cons (L5 n) (.cons (L5 n) .nil))))).mono (by
  rintro _ ⟨_,_,rfl,⟨ts,rfl,ht⟩,_,_,rfl,⟨fs,rfl,hf⟩,_,_,rfl,⟨ds,rfl,hd⟩,_,_,rfl,⟨ps,rfl,hp⟩,rfl⟩
  refine⟨⟨ts,fs,ds,ps⟩,rfl,ht,fun f h=> ?_⟩
  simp only[ZJ]at h
  rcases h with(h|h)|h
  ·exact hf f h
  ·exact hd f h
  ·exact hp f h)
theorem aiW:∀ n:Nat,Rd enc prog W n 42 fun l=>∃ x:dE,l=x.cells∧x.table.Fits∧x.feature.Fits∧x.name.size≤2 ^ 59
 |0=>Rd.zero _ _
 |n+1=>(Rd.struct underlying42 (by kernel_rfl) (.cons (pF n) (.cons (Uj n) (.cons (Ui n) (.cons (ot n) .nil))))).mono (by
  rintro _ ⟨_,_,rfl,⟨k,rfl⟩,_,_,rfl,⟨t,rfl,ht⟩,_,_,rfl,⟨f,rfl,hf⟩,_,_,rfl,⟨s,rfl,hs⟩,rfl⟩
  exact⟨⟨k,t,f,s⟩,by unfold dE.cells;simp,ht,hf,ZG hs (by decide)⟩)
end
end Go.Proofs.YtajimcniogfpcaaGreatDoor
namespace Go.Proofs.YtajimcniogfpcaaGreatDoor
open _root_.Go.Proofs.Tryz
open Go.Sx Go.Proofs Go.Lib
theorem LQ{W:World}{g:Nat}{x:AV}{v:Value}(hc:W.cell? ⟨g,0,none⟩=some v)(h:R (M0 W) x v):R (M0 W) (.pc [x]) (.pointer (some ⟨g,0,none⟩)):=by
 refine .pc [x] g 0 (fun _=>v) (fun k hk=> ?_) (fun k hk=> ?_)
 ·obtain rfl:k=0:=by simpa using hk
  exact hc
 ·obtain rfl:k=0:=by simpa using hk
  exact h
def z7(s:ae):DataW Unit:= .lit (.string s.data.toList)
theorem akI{enc:TypeId×Value→Unit}{P:Program}[Glob P]{W:World}{t e:TypeId}{fuel:Nat}{held:Bool}{cs:List Value}{p:List MemPlace}{ss:List ae}(ht:P.underlying t=some (.slice e))(he:P.underlying e=some .string)(EP:P.cellsOf e=1)
  (h0:ss≠[]) (hx:DataW.trod enc P W 0 (fun _=>true) held fuel t cs=some (.slice (ss.map z7) [],p)):∃ v,cs=[v]∧R (M0 W) (.sl false 1 (ss.map eX)) v:=by
 rcases DataW.trod_slice ht hx with⟨_,h⟩|⟨a,len,cap,elems,rest,m,rfl,rfl,eV,_,hlc,gW,hlen,J9,dM,_⟩
 ·cases h
 ·simp only[Y3,DataW.slice.injEq]at eV
  have zJ:=eV.1.1
  have hl:elems.length=ss.length:=by
   have:=Ze List.length zJ
   simpa using this.symm
  have xl:0<ss.length:=XB.2 h0
  have cell:∀ i (hi:i<ss.length),W.cell? (a.add i)=some (.string (ss.getD i ⟨#[]⟩)):=by
   intro i hi
   have h1:=J9 i (by omega)
   have QE:i<elems.length:=by omega
   rw[ZY QE,Option.bind_eq_some_iff]at h1
   obtain⟨bP,hc,rY⟩:=h1
   obtain⟨s,rfl,hs,_⟩:=Vo he rY
   obtain⟨g1,g2⟩:=IC hc
   have g3:=g2 0 (by omega)
   have e1:(elems.map (·.1))[i]'(by simpa using QE)=z7 (ss[i]'hi):=by
    have:(ss.map z7)[i]'(by simpa using hi)=z7 (ss[i]'hi):=by rw[Zj]
    rw[← this]
    exact List.getElem_of_eq zJ.symm _
   rw[Zj,hs]at e1
   simp only[z7,DataW.lit.injEq,Lit.string.injEq]at e1
   have e2:s=ss[i]'hi:=s6 e1
   rw[EP,XY]at g3
   have e3:(a.add i).add 0=a.add i:=by rw[Go.Deep.add_add];rfl
   rw[e3]at g3
   rw[g3,e2,ZU,ZY hi];rfl
  have qu:a.spot=none:=by
   have:=Mu (cell 0 xl)
   simpa[Addr.add]using this
  obtain⟨b,o,s⟩:=a
  simp only at qu
  subst qu
  refine⟨_,rfl,?_⟩
  have rU:(ss.map eX).length=len:=by rw[Z4];omega
  have:=R.oc (M:=M0 W) (b:=b) (off:=o) (cap:=cap) (ag:=1) (rows:=ss.map eX) (cs:=fun k=> .string (ss.getD k ⟨#[]⟩)) ⟨fun i hi=> ?_,fun k hk=> ?_,fun i hi j hj=> ?_⟩ (by omega) gW false
  ·rw[rU]at this;exact this
  ·rw[Zj];rfl
  ·have:=cell k (by simpa using hk)
   rw[Addr.add_lit]at this
   exact this
  ·have cK:i<ss.length:=by simpa using hi
   simp only[Zj,eX,Z8,Z0]at hj ⊢
   obtain rfl:j=0:=by omega
   rw[ZU,XY,Yr,ZY cK]
   exact .v _
theorem Jv{W:World}{name:String}{G:Nat}{d:DataW Unit}{ss:List ae}(h:VarReads prog W name d)(hg:prog.globalNamed name=some G)(uU:(prog.globals[G]?).map (·.type)=some 51)(hd:d= .slice (ss.map z7) [])(h0:ss≠[]):
  R (M0 W) (.pc [.sl false 1 (ss.map eX)]) (.pointer (some ⟨G,0,none⟩)):=by
 obtain⟨g,t,cs,fuel,p,h1,h2,h3,h4⟩:=h
 obtain rfl:=YA (hg.symm.trans h1)
 obtain rfl:=YA (uU.symm.trans h2)
 rw[hd]at h4
 obtain⟨v,hv,hR⟩:=akI underlying51 underlying9 (by kernel_rfl) h0 h4
 refine LQ ?_ hR
 rw[World.var?_cell hg h3 0]
 have:=Ze (·[0]?) hv
 simpa using this
theorem TL{W:World}{g:Nat}{vs:List Value}(hc:∀ k (h:k<vs.length),W.cell? ⟨g,k,none⟩=some vs[k]):R (M0 W) (.pc (vs.map AV.v)) (.pointer (some ⟨g,0,none⟩)):=by
 refine .pc _ g 0 (fun k=>vs.getD k undef) (fun k hk=> ?_) (fun k hk=> ?_)
 ·have cj:k<vs.length:=by simpa using hk
  rw[ZA,ZU,ZY cj]
  exact hc k cj
 ·have cj:k<vs.length:=by simpa using hk
  rw[Zj,ZU,ZY cj]
  exact .v _
theorem MH{W:World}{name:String}{d:DataW Unit}{G:Nat}{t e:TypeId}{n:Nat}{k:IntKind}{zs:List Int}(h:VarReads prog W name d)(hd:d=tabData k zs)(hG:prog.globalNamed name=some G)(uU:(prog.globals[G]?).map (·.type)=some t)
  (ht:prog.underlying t=some (.array n e)) (he:prog.underlying e=some (.int k)) (h1:prog.cellsOf e=1) (hn:prog.cellsOf t=n):TabIs prog W name k zs:=by
 obtain⟨g,t',cs,fuel,p,g1,g2,g3,g4⟩:=h
 obtain rfl:=YA (hG.symm.trans g1)
 obtain rfl:=YA (uU.symm.trans g2)
 rw[hd]at g4
 have:=cells_of_tab ht he h1 hn g4
 unfold TabIs
 rw[g3,← this]
theorem TK{W:World}{name:String}{G:Nat}{k:IntKind}{zs:List Int}(h:TabIs prog W name k zs)(hG:prog.globalNamed name=some G):R (M0 W) (.pc ((zs.map fun z=>Value.int k z).map AV.v)) (.pointer (some ⟨G,0,none⟩)):=by
 refine TL fun i hi=> ?_
 have cK:i<zs.length:=by simpa using hi
 have:=h.cell hG i cK
 rw[this]
 simp[cK]
theorem aee{W:World}(hL:laidMet prog Rows.changesValidRow.laid W)(uQ:W.ShapedOpen prog):Hm prog W:=by
 have KC:=laidMet.reads hL (n:= "internal/strconv.uint64pow10") (d:=Rows.laid_internal_strconv_uint64pow10) (by simp[Rows.changesValidRow])
 refine⟨fun g l h=> ?_,?_,?_⟩
 ·simp only[Glob.av]at h
  split at h
  ·cases h
   exact Jv (laidMet.reads hL (n:= "asof/checker.aggregates") (d:=Rows.laid_asof_checker_aggregates) (by simp[Rows.changesValidRow])) (by kernel_rfl) (by kernel_rfl) (by rfl) (by decide)
  ·cases h
   exact Jv (laidMet.reads hL (n:= "asof/checker.unary") (d:=Rows.laid_asof_checker_unary) (by simp[Rows.changesValidRow])) (by kernel_rfl) (by kernel_rfl) (by rfl) (by decide)
  ·cases h
   exact Jv (laidMet.reads hL (n:= "asof/checker.binary") (d:=Rows.laid_asof_checker_binary) (by simp[Rows.changesValidRow])) (by kernel_rfl) (by kernel_rfl) (by rfl) (by decide)
  ·cases h
   obtain⟨m,hm⟩:=cell_of_shapedOpen_int (g:=3) (zero:= #[.int .i64 0]) (t:=3) uQ (Ye (by kernel_rfl)) (by kernel_rfl) rfl (by kernel_rfl) (by kernel_rfl) underlying3
   exact LQ hm (.ai .i64 m)
  ·cases h
   have h1:=MH (k:= .i64) (zs:=[1,10,100,1000,10000,100000,1000000]) (n:=7) (G:=4) (t:=346) (e:=3) (laidMet.reads hL (n:= "asof/decimal.tens") (d:=Rows.laid_asof_decimal_tens) (by simp[Rows.changesValidRow])) (by rfl) (by kernel_rfl) (by kernel_rfl) underlying346 underlying3 (by kernel_rfl) (by kernel_rfl)
   exact TK h1 (by kernel_rfl)
  ·cases h
   obtain⟨g,t,cs,fuel,p,h1,h2,h3,h4⟩:=laidMet.reads hL (n:= "strconv.ErrRange") (d:=Rows.laid_strconv_ErrRange) (by simp[Rows.changesValidRow])
   have hG:prog.globalNamed "strconv.ErrRange" =some 11:=by kernel_rfl
   obtain rfl:=YA (hG.symm.trans h1)
   have uU:(prog.globals[11]?).map (·.type)=some 276:=by kernel_rfl
   obtain rfl:=YA (uU.symm.trans h2)
   have gV:=World.var?_cell hG h3 0
   have Q8: "*" ++ "errors.errorString" = "*errors.errorString" :=by decide
   cases fuel with
   |zero=>simp[DataW.trod]at h4
   |succ fuel=>
    unfold DataW.trod at h4
    rw[underlying276]at h4
    clear hL uQ KC h1 h2 uU h3
    generalize bE:cs.toList=l at h4
    have e0:cs[0]? =l[0]? :=by rw[← bE];simp
    rw[e0]at gV
    clear e0 bE
    have key:∃ u v,l=[.iface u v]∧prog.typeName? 3 u=some "*errors.errorString" :=by
     unfold Rows.laid_strconv_ErrRange at h4
     split at h4
     all_goals first|(exfalso;rename_i heq;cases heq;done)|(exfalso;cases h4;done)|skip
     rename_i u v _
     refine⟨u,v,rfl,?_⟩
     cases hn:prog.typeName? 3 u with
     |none=>rw[hn]at h4;cases h4
     |some nm=>
      rw[hn]at h4
      simp only[Z7,Y3,DataW.iface.injEq]at h4
      obtain⟨_,_,⟨rfl,_⟩,_⟩:=h4
      rfl
    obtain⟨u,v,rfl,hu⟩:=key
    obtain rfl:u=385:=typeName_ptr_named (nm:= "errors.errorString") (by rw[Q8];kernel_rfl) (by kernel_rfl) (by decide) u (by rw[Q8];exact hu)
    exact LQ (gV.trans rfl) (.dN _ _ v (.any v))
  ·cases h
   have h1:=MH (k:= .u8) (zs:=firstTab) (n:=256) (G:=6) (t:=259) (e:=5) (laidMet.reads hL (n:= "unicode/utf8.first") (d:=Rows.laid_unicode_utf8_first) (by simp[Rows.changesValidRow])) (by kernel_rfl) (by kernel_rfl) (by kernel_rfl) underlying259 underlying5 (by kernel_rfl) (by kernel_rfl)
   have:=TK h1 (G:=6) (by kernel_rfl)
   rw[show(firstTab.map fun z=>Value.int .u8 z).map AV.v=(List.range 256).map fun c=>AV.v (.int .u8 (Lib.firstT c:Nat)) by unfold firstTab;rw[Yi,Yi];rfl]at this
   exact this
  ·cases h
   have h4:=laidMet.reads hL (n:= "unicode/utf8.acceptRanges") (d:=Rows.laid_unicode_utf8_acceptRanges) (by simp[Rows.changesValidRow])
   rw[show(Rows.laid_unicode_utf8_acceptRanges:DataW Unit)=acceptData by kernel_rfl]at h4
   have hcell:∀ i,i<16→W.cell? ⟨7,2 * i,none⟩=some (.int .u8 (Lib.accLo i:Nat))∧W.cell? ⟨7,2 * i+1,none⟩=some (.int .u8 (Lib.accHi i:Nat)):=fun i hi=>by
    obtain⟨g,t,cs,fuel,p,hg,uU,Rb,hd⟩:=h4
    have hG:prog.globalNamed "unicode/utf8.acceptRanges" =some 7:=by kernel_rfl
    obtain rfl:=YA (hG.symm.trans hg)
    have ae9:(prog.globals[7]?).map (·.type)=some 373:=by kernel_rfl
    obtain rfl:=YA (ae9.symm.trans uU)
    obtain⟨anM,d,q,Qy,he⟩:=array_elem underlying373 hd i hi
    simp only[Yq,List.getElem?_range hi,ZD,Z1]at Qy
    subst Qy
    have c2:prog.cellsOf 372=2:=by kernel_rfl
    rw[c2]at he
    have cC:=ints_of_struct underlying372 (fun j f hj=>by
     match j,hj with
     |0,hj=>simp at hj;subst hj;exact⟨underlying5,rfl,by kernel_rfl⟩
     |1,hj=>simp at hj;subst hj;exact⟨underlying5,rfl,by kernel_rfl⟩
     |j+2,hj=>simp at hj) (by rw[c2];rfl) he
    have e0:=Ze (·[0]?) cC
    have e1:=Ze (·[1]?) cC
    simp only[YU,YF]at e0 e1
    constructor
    ·rw[World.var?_cell hG Rb (2 * i),← Za]
     simpa[XH]using e0
    ·rw[World.var?_cell hG Rb (2 * i+1),← Za]
     simpa[XH]using e1
   have hl:((List.range 16).flatMap fun i=>[AV.v (.int .u8 (Lib.accLo i:Nat)),AV.v (.int .u8 (Lib.accHi i:Nat))])=(((List.range 16).flatMap fun i=>[(Value.int .u8 (Lib.accLo i:Nat)),(Value.int .u8 (Lib.accHi i:Nat))]).map AV.v):=by kernel_rfl
   rw[hl]
   refine TL fun k hk=> ?_
   have cj:k<32:=hk
   have key:∀ i:Fin 16,((List.range 16).flatMap fun i=>[(Value.int .u8 (Lib.accLo i:Nat)),(Value.int .u8 (Lib.accHi i:Nat))])[2 * i.val]? =some (Value.int .u8 (Lib.accLo i.val:Nat))∧
     ((List.range 16).flatMap fun i=>[(Value.int .u8 (Lib.accLo i:Nat)),(Value.int .u8 (Lib.accHi i:Nat))])[2 * i.val+1]? =some (Value.int .u8 (Lib.accHi i.val:Nat)):=by
    rintro⟨i,hi⟩
    have:i=0∨i=1∨i=2∨i=3∨i=4∨i=5∨i=6∨i=7∨i=8∨i=9∨i=10∨i=11∨i=12∨i=13∨i=14∨i=15:=by omega
    rcases this with rfl|rfl|rfl|rfl|rfl|rfl|rfl|rfl|rfl|rfl|rfl|rfl|rfl|rfl|rfl|rfl<;>exact⟨rfl,rfl⟩
   obtain⟨k1,k2⟩:=key ⟨k / 2,by omega⟩
   obtain⟨c1,c2⟩:=hcell (k / 2) (by omega)
   rcases Nat.mod_two_eq_zero_or_one k with e|e
   ·rw[show 2 * (k / 2)=k by omega]at c1 k1
    rw[c1,← k1,ZY hk]
   ·rw[show 2 * (k / 2)+1=k by omega]at c2 k2
    rw[c2,← k2,ZY hk]
  ·cases h
 ·exact MH (G:=5) KC (by rfl) (by kernel_rfl) (t:=353) (n:=20) (e:=158) (by kernel_rfl) underlying353 underlying158 (by kernel_rfl) (by kernel_rfl)
 ·obtain⟨g,t,cs,fuel,p,h1,h2,h3,h4⟩:=KC
  have hG:prog.globalNamed "internal/strconv.uint64pow10" =some 5:=by kernel_rfl
  simp only[World.var?,hG,Option.bind_some]at h3
  split at h3
  ·rename_i e
   exact(ZX.1 e).1
  ·cases h3
end Go.Proofs.YtajimcniogfpcaaGreatDoor
