/- How the arguments of the laws of the catalog read. -/
import Derived.Test.YtekngilbecjkhaaGreatDoorEd
import Derived.Test.YtekngilbecjkhaaGreatDoorSxB
import Derived.Test.YtekngilbecjkhaaGreatDoorRows
import Derived.Lib.LaidU8
import Derived.Shelf.Vars
import Derived.HandedShaped
set_option linter.unusedSimpArgs false
set_option linter.unusedVariables false
set_option maxRecDepth 100000
namespace Go.Proofs.YtekngilbecjkhaaGreatDoor
open Go.Sx Go.Proofs
theorem own:ownKnob Tryz.prog.godebug=none:=by kernel_rfl
theorem laidOut:laidOutB Tryz.prog=true:=by kernel_rfl
section
variable {H:Type}{enc:TypeId×Value→H}{W:World}
theorem rd_int(n:Nat):Rd enc Tryz.prog W n 3 fun l=>∃ z:Int,l=[iv z]:=(Rd.int Tryz.underlying3).mono fun l ⟨z,h,_⟩=>⟨z,h⟩
theorem rd_str(n:Nat):Rd enc Tryz.prog W n 9 fun l=>∃ s:Str,l=[sv s]∧s.size≤reachBytes:=Rd.str Tryz.underlying9
theorem rd_val:∀ n:Nat,Rd enc Tryz.prog W n 31 fun l=>∃ v:Val,l=v.cells∧v.s.size≤reachBytes
 |0=>Rd.zero _ _
 |n+1=>(Rd.struct Tryz.underlying31 (by kernel_rfl) (.cons (rd_int n) (.cons (rd_int n) (.cons (rd_str n) .nil)))).mono (by
  rintro _ ⟨_,_,rfl,⟨a,rfl⟩,_,_,rfl,⟨b,rfl⟩,_,_,rfl,⟨c,rfl,hc⟩,rfl⟩
  exact⟨⟨a,b,c⟩,rfl,hc⟩)
theorem rd_win:∀ n:Nat,Rd enc Tryz.prog W n 34 fun l=>∃ w:Win,l=w.cells
 |0=>Rd.zero _ _
 |n+1=>(Rd.struct Tryz.underlying34 (by kernel_rfl) (.cons (rd_int n) (.cons (rd_int n) .nil))).mono (by
  rintro _ ⟨_,_,rfl,⟨a,rfl⟩,_,_,rfl,⟨b,rfl⟩,rfl⟩
  exact⟨⟨a,b⟩,rfl⟩)
theorem rd_fac:∀ n:Nat,Rd enc Tryz.prog W n 124 fun l=>∃ f:Fac,l=f.cells
 |0=>Rd.zero _ _
 |n+1=>(Rd.struct Tryz.underlying124 (by kernel_rfl) (.cons (rd_str n) (.cons (rd_int n) .nil))).mono (by
  rintro _ ⟨_,_,rfl,⟨a,rfl,_⟩,_,_,rfl,⟨b,rfl⟩,rfl⟩
  exact⟨⟨a,b⟩,rfl⟩)
theorem rd_unit:∀ n:Nat,Rd enc Tryz.prog W n 32 fun l=>∃ u:List Fac,l=[.sl false 2 (u.map Fac.cells)]
 |0=>Rd.zero _ _
 |n+1=>(Rd.slice Tryz.underlying32 (esz:=2) (by kernel_rfl) (by decide) (rd_fac n)).mono (by
  rintro _ ⟨rows,rfl,_,h⟩
  obtain⟨ls,rfl,_⟩:=rows_map (f:=Fac.cells) (W:=fun _=>True) (fun r hr=>by obtain⟨x,h⟩:=h r hr;exact⟨x,h,trivial⟩)
  exact⟨ls,rfl⟩)
theorem rd_type:∀ n:Nat,Rd enc Tryz.prog W n 47 fun l=>∃ t:Ty,l=t.cells∧t.of.size≤reachBytes
 |0=>Rd.zero _ _
 |n+1=>(Rd.struct Tryz.underlying47 (by kernel_rfl) (.cons (rd_int n) (.cons (rd_unit n) (.cons (rd_str n) .nil)))).mono (by
  rintro _ ⟨_,_,rfl,⟨a,rfl⟩,_,_,rfl,⟨b,rfl⟩,_,_,rfl,⟨c,rfl,hc⟩,rfl⟩
  exact⟨⟨a,b,c⟩,rfl,hc⟩)
theorem wtL_le{l:List Ex}{k:Nat}(h:∀ y∈l,y.wt≤k):Ex.wtL l≤k:=by
 induction l with
 |nil=>exact Nat.zero_le _
 |cons x l ih=>
  have h1:=h x (by simp)
  have h2:=ih fun y hy=>h y (by simp[hy])
  rw[Ex.wtL];omega
mutual
theorem rd_ex:∀ n:Nat,Rd enc Tryz.prog W n 37 fun l=>∃ x:Ex,l=x.row∧x.wt≤2 ^ 60
 |0=>Rd.zero _ _
 |n+1=>(Rd.struct Tryz.underlying37 (by kernel_rfl) (.cons (rd_int n) (.cons (rd_str n) (.cons (rd_str n) (.cons (rd_str n) (.cons (rd_val n) (.cons (rd_unit n) (.cons (rd_int n) (.cons (rd_win n) (.cons (rd_exs n) .nil)))))))))).mono (by
  rintro _ ⟨_,_,rfl,⟨k,rfl⟩,_,_,rfl,⟨o,rfl,ho⟩,_,_,rfl,⟨nm,rfl,hn⟩,_,_,rfl,⟨t,rfl,ht⟩,_,_,rfl,⟨v,rfl,hv⟩,_,_,rfl,⟨u,rfl⟩,_,_,rfl,⟨p,rfl⟩,_,_,rfl,⟨w,rfl⟩,_,_,rfl,⟨ks,rfl,hks⟩,rfl⟩
  refine⟨⟨k,o,nm,t,v,u,p,w,ks⟩,(Ex.row_eq _).symm ▸ rfl,?_⟩
  rw[Ex.wt]
  have:=wtL_le hks
  have hr:reachBytes≤2 ^ 47:=by decide
  omega)
theorem rd_exs:∀ n:Nat,Rd enc Tryz.prog W n 35 fun l=>∃ ks:List Ex,l=[.sl false 12 (ks.map Ex.row)]∧∀ y∈ks,y.wt≤2 ^ 60
 |0=>Rd.zero _ _
 |n+1=>(Rd.slice Tryz.underlying35 (esz:=12) (by kernel_rfl) (by decide) (rd_ex n)).mono (by
  rintro _ ⟨rows,rfl,_,h⟩
  obtain⟨ls,rfl,hl⟩:=rows_map (f:=Ex.row) (W:=fun y=>y.wt≤2 ^ 60) (fun r hr=>h r hr)
  exact⟨ls,rfl,hl⟩)
end
theorem rd_fld:∀ n:Nat,Rd enc Tryz.prog W n 96 fun l=>∃ f:Fld,l=f.cells
 |0=>Rd.zero _ _
 |n+1=>(Rd.struct Tryz.underlying96 (by kernel_rfl) (.cons (rd_str n) (.cons (rd_type n) .nil))).mono (by
  rintro _ ⟨_,_,rfl,⟨a,rfl,_⟩,_,_,rfl,⟨b,rfl,hb⟩,rfl⟩
  exact⟨⟨a,b⟩,rfl⟩)
theorem rd_flds:∀ n:Nat,Rd enc Tryz.prog W n 56 fun l=>∃ fs:List Fld,l=[.sl false 4 (fs.map Fld.cells)]
 |0=>Rd.zero _ _
 |n+1=>(Rd.slice Tryz.underlying56 (esz:=4) (by kernel_rfl) (by decide) (rd_fld n)).mono (by
  rintro _ ⟨rows,rfl,_,h⟩
  obtain⟨ls,rfl,_⟩:=rows_map (f:=Fld.cells) (W:=fun _=>True) (fun r hr=>by obtain⟨x,h⟩:=h r hr;exact⟨x,h,trivial⟩)
  exact⟨ls,rfl⟩)
theorem rd_tab:∀ n:Nat,Rd enc Tryz.prog W n 58 fun l=>∃ t:Tab,l=t.cells
 |0=>Rd.zero _ _
 |n+1=>(Rd.struct Tryz.underlying58 (by kernel_rfl) (.cons (rd_str n) (.cons (rd_str n) (.cons (rd_flds n) (.cons (rd_int n) .nil))))).mono (by
  rintro _ ⟨_,_,rfl,⟨a,rfl,ha⟩,_,_,rfl,⟨b,rfl,hb⟩,_,_,rfl,⟨fs,rfl⟩,_,_,rfl,⟨k,rfl⟩,rfl⟩
  exact⟨⟨a,b,fs,k⟩,rfl⟩)
def FeaFits(f:Fea):Prop:=f.name.size≤2 ^ 60∧f.body.wt≤2 ^ 60
theorem fea_row(f:Fea):f.cells=[sv f.name,sv f.entity]++f.type.cells++f.body.row++[iv f.version]:=by rw[Ex.row_eq];unfold Fea.cells Ty.cells;rw[Ex.cells_row];rfl
theorem rd_fea:∀ n:Nat,Rd enc Tryz.prog W n 49 fun l=>∃ f:Fea,l=f.cells∧FeaFits f
 |0=>Rd.zero _ _
 |n+1=>(Rd.struct Tryz.underlying49 (by kernel_rfl) (.cons (rd_str n) (.cons (rd_str n) (.cons (rd_type n) (.cons (rd_ex n) (.cons (rd_int n) .nil)))))).mono (by
  rintro _ ⟨_,_,rfl,⟨a,rfl,ha⟩,_,_,rfl,⟨b,rfl,hb⟩,_,_,rfl,⟨t,rfl,ht⟩,_,_,rfl,⟨x,rfl,hx⟩,_,_,rfl,⟨v,rfl⟩,rfl⟩
  exact⟨⟨a,b,t,x,v⟩,by rw[fea_row];simp,Nat.le_trans ha (by decide),hx⟩)
theorem rd_tabs:∀ n:Nat,Rd enc Tryz.prog W n 22 fun l=>∃ ts:List Tab,l=[.sl false 4 (ts.map Tab.cells)]
 |0=>Rd.zero _ _
 |n+1=>(Rd.slice Tryz.underlying22 (esz:=4) (by kernel_rfl) (by decide) (rd_tab n)).mono (by
  rintro _ ⟨rows,rfl,_,h⟩
  obtain⟨ls,rfl,_⟩:=rows_map (f:=Tab.cells) (W:=fun _=>True) (fun r hr=>by obtain⟨x,h⟩:=h r hr;exact⟨x,h,trivial⟩)
  exact⟨ls,rfl⟩)
theorem rd_feas:∀ n:Nat,Rd enc Tryz.prog W n 23 fun l=>∃ fs:List Fea,l=[.sl false 18 (fs.map Fea.cells)]∧∀ f∈fs,FeaFits f
 |0=>Rd.zero _ _
 |n+1=>(Rd.slice Tryz.underlying23 (esz:=18) (by kernel_rfl) (by decide) (rd_fea n)).mono (by
  rintro _ ⟨rows,rfl,_,h⟩
  obtain⟨ls,rfl,hl⟩:=rows_map (f:=Fea.cells) (W:=FeaFits) (fun r hr=>h r hr)
  exact⟨ls,rfl,hl⟩)
theorem rd_cat:∀ n:Nat,Rd enc Tryz.prog W n 25 fun l=>∃ c:Cat,l=c.cells∧c.Fits
 |0=>Rd.zero _ _
 |n+1=>(Rd.struct Tryz.underlying25 (by kernel_rfl) (.cons (rd_tabs n) (.cons (rd_feas n) (.cons (rd_feas n) (.cons (rd_feas n) .nil))))).mono (by
  rintro _ ⟨_,_,rfl,⟨ts,rfl⟩,_,_,rfl,⟨fs,rfl,hf⟩,_,_,rfl,⟨ds,rfl,_⟩,_,_,rfl,⟨ps,rfl,_⟩,rfl⟩
  exact⟨⟨ts,fs,ds,ps⟩,rfl,fun f h=>(hf f h).1,fun f h=>(hf f h).2⟩)
end
end Go.Proofs.YtekngilbecjkhaaGreatDoor
namespace Go.Proofs.YtekngilbecjkhaaGreatDoor
open Go.Sx Go.Proofs Go.Lib
theorem pc_of{W:World}{g:Nat}{x:AV}{v:Value}(hc:W.cell? ⟨g,0,none⟩=some v)(h:R (M0 W) x v):R (M0 W) (.pc [x]) (.pointer (some ⟨g,0,none⟩)):=by
 refine .pc [x] g 0 (fun _=>v) (fun k hk=> ?_) (fun k hk=> ?_)
 ·obtain rfl:k=0:=by simpa using hk
  exact hc
 ·obtain rfl:k=0:=by simpa using hk
  exact h
def litD(s:Str):DataW Unit:= .lit (.string s.data.toList)
theorem strs_exact{enc:TypeId×Value→Unit}{P:Program}[Glob P]{W:World}{t e:TypeId}{fuel:Nat}{held:Bool}{cs:List Value}{p:List MemPlace}{ss:List Str}(ht:P.underlying t=some (.slice e))(he:P.underlying e=some .string)(hce:P.cellsOf e=1)
  (h0:ss≠[]) (hx:DataW.trod enc P W 0 (fun _=>true) held fuel t cs=some (.slice (ss.map litD) [],p)):∃ v,cs=[v]∧R (M0 W) (.sl false 1 (ss.map strRow)) v:=by
 rcases DataW.trod_slice ht hx with⟨_,h⟩|⟨a,len,cap,elems,rest,m,rfl,rfl,hx2,_,hlc,hcm,hlen,hel,hsp,_⟩
 ·cases h
 ·simp only[Prod.mk.injEq,DataW.slice.injEq]at hx2
  have hes:=hx2.1.1
  have hl:elems.length=ss.length:=by
   have:=congrArg List.length hes
   simpa using this.symm
  have hpos:0<ss.length:=List.length_pos_iff.2 h0
  have cell:∀ i (hi:i<ss.length),W.cell? (a.add i)=some (.string (ss.getD i ⟨#[]⟩)):=by
   intro i hi
   have h1:=hel i (by omega)
   have hie:i<elems.length:=by omega
   rw[List.getElem?_eq_getElem hie,Option.bind_eq_some_iff]at h1
   obtain⟨cs',hc,ht'⟩:=h1
   obtain⟨s,rfl,hs,_⟩:=trod_str he ht'
   obtain⟨g1,g2⟩:=cells_get hc
   have g3:=g2 0 (by omega)
   have e1:(elems.map (·.1))[i]'(by simpa using hie)=litD (ss[i]'hi):=by
    have:(ss.map litD)[i]'(by simpa using hi)=litD (ss[i]'hi):=by rw[List.getElem_map]
    rw[← this]
    exact List.getElem_of_eq hes.symm _
   rw[List.getElem_map,hs]at e1
   simp only[litD,DataW.lit.injEq,Lit.string.injEq]at e1
   have e2:s=ss[i]'hi:=str_ext e1
   rw[hce,Nat.mul_one]at g3
   have e3:(a.add i).add 0=a.add i:=by rw[Go.Deep.add_add];rfl
   rw[e3]at g3
   rw[g3,e2,List.getD_eq_getElem?_getD,List.getElem?_eq_getElem hi];rfl
  have hs0:a.spot=none:=by
   have:=spot_of_cell (cell 0 hpos)
   simpa[Addr.add]using this
  obtain⟨b,o,s⟩:=a
  simp only at hs0
  subst hs0
  refine⟨_,rfl,?_⟩
  have hll:(ss.map strRow).length=len:=by rw[List.length_map];omega
  have:=R.mk_sl (M:=M0 W) (b:=b) (off:=o) (cap:=cap) (esz:=1) (rows:=ss.map strRow) (cs:=fun k=> .string (ss.getD k ⟨#[]⟩)) ⟨fun i hi=> ?_,fun k hk=> ?_,fun i hi j hj=> ?_⟩ (by omega) hcm false
  ·rw[hll]at this;exact this
  ·rw[List.getElem_map];rfl
  ·have:=cell k (by simpa using hk)
   rw[Addr.add_lit]at this
   exact this
  ·have hi':i<ss.length:=by simpa using hi
   simp only[List.getElem_map,strRow,List.length_cons,List.length_nil]at hj ⊢
   obtain rfl:j=0:=by omega
   rw[List.getD_eq_getElem?_getD,Nat.mul_one,Nat.add_zero,List.getElem?_eq_getElem hi']
   exact .v _
theorem glob_strs{W:World}{name:String}{G:Nat}{d:DataW Unit}{ss:List Str}(h:VarReads Tryz.prog W name d)(hg:Tryz.prog.globalNamed name=some G)(hty:(Tryz.prog.globals[G]?).map (·.type)=some 39)(hd:d= .slice (ss.map litD) [])(h0:ss≠[]):
  R (M0 W) (.pc [.sl false 1 (ss.map strRow)]) (.pointer (some ⟨G,0,none⟩)):=by
 obtain⟨g,t,cs,fuel,p,h1,h2,h3,h4⟩:=h
 obtain rfl:=Option.some.inj (hg.symm.trans h1)
 obtain rfl:=Option.some.inj (hty.symm.trans h2)
 rw[hd]at h4
 obtain⟨v,hv,hR⟩:=strs_exact Tryz.underlying39 Tryz.underlying9 (by kernel_rfl) h0 h4
 refine pc_of ?_ hR
 rw[World.var?_cell hg h3 0]
 have:=congrArg (·[0]?) hv
 simpa using this
theorem globOK{W:World}(hL:laidMet Tryz.prog Rows.catalogChecksRow.laid W)(hsh:W.ShapedOpen Tryz.prog):GlobOK Tryz.prog W:=by
 refine⟨fun g l h=> ?_,rfl⟩
 simp only[Glob.av]at h
 split at h
 ·cases h
  exact glob_strs (laidMet.reads hL (n:= "asof/checker.aggregates") (d:=Rows.laid_asof_checker_aggregates) (by simp[Rows.catalogChecksRow])) (by kernel_rfl) (by kernel_rfl) (by rfl) (by decide)
 ·cases h
  exact glob_strs (laidMet.reads hL (n:= "asof/checker.unary") (d:=Rows.laid_asof_checker_unary) (by simp[Rows.catalogChecksRow])) (by kernel_rfl) (by kernel_rfl) (by rfl) (by decide)
 ·cases h
  exact glob_strs (laidMet.reads hL (n:= "asof/checker.binary") (d:=Rows.laid_asof_checker_binary) (by simp[Rows.catalogChecksRow])) (by kernel_rfl) (by kernel_rfl) (by rfl) (by decide)
 ·cases h
  obtain⟨m,hm⟩:=cell_of_shapedOpen_int (g:=3) (zero:= #[.int .i64 0]) (t:=3) hsh (of_decide_eq_true (by kernel_rfl)) (by kernel_rfl) rfl (by kernel_rfl) (by kernel_rfl) Tryz.underlying3
  exact pc_of hm (.ai .i64 m)
 ·cases h
end Go.Proofs.YtekngilbecjkhaaGreatDoor
