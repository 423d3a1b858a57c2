import Derived.Test.YtmemninechdogaaGreatDoorPl
import Derived.Test.YtmemninechdogaaGreatDoorSxB
import Derived.Test.YtmemninechdogaaGreatDoorIa
import Derived.Test.YtmemninechdogaaGreatDoorRows
import Derived.Lib.LaidU8
import Derived.HandedShaped
import Derived.Test.YtmemninechdogaaGreatDoorQb
import Derived.Test.YtmemninechdogaaGreatDoorIb
set_option linter.all false
set_option maxRecDepth 100000
namespace Go.Proofs.YtmemninechdogaaGreatDoor
open _root_.Go.Proofs.Tryz
open Go.Sx Go.Proofs
theorem own:ownKnob prog.godebug=none:=by kernel_rfl
theorem laidOut:laidOutB prog=true:=by kernel_rfl
section
variable {H:Type}{enc:TypeId×Value->H}{W:World}
theorem qu(n:Nat):Rd enc prog W n 3 fun l=>∃z:Int,l=[iv z]:=(Rd.int underlying3).mono fun l ⟨z,h,_⟩=>⟨z,h⟩
theorem pj(n:Nat):Rd enc prog W n 9 fun l=>∃s:ae,l=[sv s]/\s.size<=reachBytes:=Rd.str underlying9
theorem rd_val:∀n:Nat,Rd enc prog W n 30 fun l=>∃v:kv,l=v.cells/\v.s.size<=reachBytes
 |0=>Rd.zero _ _|n+1=>(Rd.struct underlying30 (by kernel_rfl) (.cons (qu n) (.cons (qu n) (.cons (pj n) .nil)))).mono (by
  rintro _ ⟨_,_,rfl,⟨a,rfl⟩,_,_,rfl,⟨b,rfl⟩,_,_,rfl,⟨c,rfl,hc⟩,rfl⟩
  exact⟨⟨a,b,c⟩,rfl,hc⟩)
theorem ai5:∀n:Nat,Rd enc prog W n 32 fun l=>∃w:pJ,l=w.cells
 |0=>Rd.zero _ _|n+1=>(Rd.struct underlying32 (by kernel_rfl) (.cons (qu n) (.cons (qu n) .nil))).mono (by
  rintro _ ⟨_,_,rfl,⟨a,rfl⟩,_,_,rfl,⟨b,rfl⟩,rfl⟩
  exact⟨⟨a,b⟩,rfl⟩)
theorem ai1:∀n:Nat,Rd enc prog W n 133 fun l=>∃f:ax,l=f.cells
 |0=>Rd.zero _ _|n+1=>(Rd.struct underlying133 (by kernel_rfl) (.cons (pj n) (.cons (qu n) .nil))).mono (by
  rintro _ ⟨_,_,rfl,⟨a,rfl,_⟩,_,_,rfl,⟨b,rfl⟩,rfl⟩
  exact⟨⟨a,b⟩,rfl⟩)
theorem SN:∀n:Nat,Rd enc prog W n 26 fun l=>∃u:List ax,l=[.sl false 2 (u.map ax.cells)]
 |0=>Rd.zero _ _|n+1=>(Rd.slice underlying26 (ah:=2) (by kernel_rfl) (by decide) (ai1 n)).mono (by
  rintro _ ⟨rows,rfl,_,h⟩;obtain⟨ls,rfl,_⟩:=yE (f:=ax.cells) (W:=fun _=>True) (fun r hr=>by obtain⟨x,h⟩:=h r hr;exact⟨x,h,trivial⟩)
  exact⟨ls,rfl⟩)
theorem SR:∀n:Nat,Rd enc prog W n 28 fun l=>∃t:Ty,l=t.cells/\t.of.size<=reachBytes
 |0=>Rd.zero _ _|n+1=>(Rd.struct underlying28 (by kernel_rfl) (.cons (qu n) (.cons (SN n) (.cons (pj n) .nil)))).mono (by
  rintro _ ⟨_,_,rfl,⟨a,rfl⟩,_,_,rfl,⟨b,rfl⟩,_,_,rfl,⟨c,rfl,hc⟩,rfl⟩
  exact⟨⟨a,b,c⟩,rfl,hc⟩)
theorem amv{l:List Ex}{k:Nat}(h:∀y∈l,y.wt<=k):Ex.sE l<=k:=by
 induction l with
 |nil=>exact Z4 _|cons x l ih=>have h1:=h x (by simp);have h2:=ih fun y hy=>h y (by simp[hy]);rw[Ex.sE];omega
mutual
theorem SP:∀n:Nat,Rd enc prog W n 35 fun l=>∃x:Ex,l=x.row/\x.wt<=2^60
 |0=>Rd.zero _ _|n+1=>(Rd.struct underlying35 (by kernel_rfl) (.cons (qu n) (.cons (pj n) (.cons (pj n) (.cons (pj n) (.cons (rd_val n) (.cons (SN n) (.cons (qu n) (.cons (ai5 n) (.cons (ai0 n) .nil)))))))))).mono (by
  rintro _ ⟨_,_,rfl,⟨k,rfl⟩,_,_,rfl,⟨o,rfl,ho⟩,_,_,rfl,⟨nm,rfl,hn⟩,_,_,rfl,⟨t,rfl,ht⟩,_,_,rfl,⟨v,rfl,hv⟩,_,_,rfl,⟨u,rfl⟩,_,_,rfl,⟨p,rfl⟩,_,_,rfl,⟨w,rfl⟩,_,_,rfl,⟨ks,rfl,x8⟩,rfl⟩;refine⟨⟨k,o,nm,t,v,u,p,w,ks⟩,(Ex.dX _).symm ▸ rfl,?_⟩;rw[Ex.wt];have:=amv x8;have hr:reachBytes<=2^47:=by decide
  omega)
theorem ai0:∀n:Nat,Rd enc prog W n 33 fun l=>∃ks:List Ex,l=[.sl false 12 (ks.map Ex.row)]/\∀y∈ks,y.wt<=2^60
 |0=>Rd.zero _ _|n+1=>(Rd.slice underlying33 (ah:=12) (by kernel_rfl) (by decide) (SP n)).mono (by
  rintro _ ⟨rows,rfl,_,h⟩;obtain⟨ls,rfl,hl⟩:=yE (f:=Ex.row) (W:=fun y=>y.wt<=2^60) (fun r hr=>h r hr)
  exact⟨ls,rfl,hl⟩)
end
theorem ai2:∀n:Nat,Rd enc prog W n 113 fun l=>∃f:wb,l=f.cells/\f.type.of.size<=2^59
 |0=>Rd.zero _ _|n+1=>(Rd.struct underlying113 (by kernel_rfl) (.cons (pj n) (.cons (SR n) .nil))).mono (by
  rintro _ ⟨_,_,rfl,⟨a,rfl,_⟩,_,_,rfl,⟨b,rfl,hb⟩,rfl⟩
  exact⟨⟨a,b⟩,rfl,ZD hb (by decide)⟩)
theorem ai3:∀n:Nat,Rd enc prog W n 43 fun l=>∃fs:List wb,l=[.sl false 4 (fs.map wb.cells)]/\∀f∈fs,f.type.of.size<=2^59
 |0=>Rd.zero _ _|n+1=>(Rd.slice underlying43 (ah:=4) (by kernel_rfl) (by decide) (ai2 n)).mono (by
  rintro _ ⟨rows,rfl,_,h⟩;obtain⟨ls,rfl,hl⟩:=yE (f:=wb.cells) (W:=fun f=>f.type.of.size<=2^59) (fun r hr=>h r hr)
  exact⟨ls,rfl,hl⟩)
theorem ai4:∀n:Nat,Rd enc prog W n 45 fun l=>∃t:aO,l=t.cells/\t.Fits
 |0=>Rd.zero _ _|n+1=>(Rd.struct underlying45 (by kernel_rfl) (.cons (pj n) (.cons (pj n) (.cons (ai3 n) (.cons (qu n) .nil))))).mono (by
  rintro _ ⟨_,_,rfl,⟨a,rfl,ha⟩,_,_,rfl,⟨b,rfl,hb⟩,_,_,rfl,⟨fs,rfl,hf⟩,_,_,rfl,⟨k,rfl⟩,rfl⟩
  exact⟨⟨a,b,fs,k⟩,rfl,ZD ha (by decide),ZD hb (by decide),hf⟩)
theorem SQ:∀n:Nat,Rd enc prog W n 37 fun l=>∃f:aj,l=f.cells/\f.Fits
 |0=>Rd.zero _ _|n+1=>(Rd.struct underlying37 (by kernel_rfl) (.cons (pj n) (.cons (pj n) (.cons (SR n) (.cons (SP n) (.cons (qu n) .nil)))))).mono (by
  rintro _ ⟨_,_,rfl,⟨a,rfl,ha⟩,_,_,rfl,⟨b,rfl,hb⟩,_,_,rfl,⟨t,rfl,ht⟩,_,_,rfl,⟨x,rfl,hx⟩,_,_,rfl,⟨v,rfl⟩,rfl⟩
  exact⟨⟨a,b,t,x,v⟩,by rw[aj.pQ,Ex.dX x];rfl,ZD ha (by decide),ZD hb (by decide),ZD ht (by decide),hx⟩)
end
section
variable {H:Type}{enc:TypeId×Value->H}{W:World}
theorem ai7:∀n:Nat,Rd enc prog W n 22 fun l=>∃ts:List aO,l=[.sl false 4 (ts.map aO.cells)]/\∀t∈ts,t.Fits
 |0=>Rd.zero _ _|n+1=>(Rd.slice underlying22 (ah:=4) (by kernel_rfl) (by decide) (ai4 n)).mono (by
  rintro _ ⟨rows,rfl,_,h⟩;obtain⟨ls,rfl,hl⟩:=yE (f:=aO.cells) (W:=aO.Fits) (fun r hr=>h r hr)
  exact⟨ls,rfl,hl⟩)
theorem Kz:∀n:Nat,Rd enc prog W n 23 fun l=>∃fs:List aj,l=[.sl false 18 (fs.map aj.cells)]/\∀f∈fs,f.Fits
 |0=>Rd.zero _ _|n+1=>(Rd.slice underlying23 (ah:=18) (by kernel_rfl) (by decide) (SQ n)).mono (by
  rintro _ ⟨rows,rfl,_,h⟩;obtain⟨ls,rfl,hl⟩:=yE (f:=aj.cells) (W:=aj.Fits) (fun r hr=>h r hr)
  exact⟨ls,rfl,hl⟩)
theorem ai6:∀n:Nat,Rd enc prog W n 25 fun l=>∃c:ay,l=c.cells/\y9 c
 |0=>Rd.zero _ _|n+1=>(Rd.struct underlying25 (by kernel_rfl) (.cons (ai7 n) (.cons (Kz n) (.cons (Kz n) (.cons (Kz n) .nil))))).mono (by
  rintro _ ⟨_,_,rfl,⟨ts,rfl,ht⟩,_,_,rfl,⟨fs,rfl,hf⟩,_,_,rfl,⟨ds,rfl,hd⟩,_,_,rfl,⟨ps,rfl,hp⟩,rfl⟩;refine⟨⟨ts,fs,ds,ps⟩,rfl,ht,fun f h=>?_⟩;simp only[ZI]at h;rcases h with(h|h)|h
  .exact hf f h
  .exact hd f h
  .exact hp f h)
end
end Go.Proofs.YtmemninechdogaaGreatDoor
namespace Go.Proofs.YtmemninechdogaaGreatDoor
open _root_.Go.Proofs.Tryz
open Go.Sx Go.Proofs Go.Lib
theorem Kn{W:World}{g:Nat}{x:AV}{v:Value}(hc:W.cell? ⟨g,0,none⟩=some v)(h:R (M0 W) x v):R (M0 W) (.pc [x]) (.pointer (some ⟨g,0,none⟩)):=by
 refine .pc [x] g 0 (fun _=>v) (fun k hk=>?_) (fun k hk=>?_)
 .obtain rfl:k=0:=by grind
  exact hc
 grind
def yg(s:ae):DataW Unit:=.lit (.string s.data.toList)
theorem aln{enc:TypeId×Value->Unit}{P:Program}[Glob P]{W:World}{t e:TypeId}{fuel:Nat}{held:Bool}{cs:List Value}{p:List MemPlace}{ss:List ae}(ht:P.underlying t=some (.slice e))(he:P.underlying e=some .string)(DC:P.cellsOf e=1)
  (h0:ss≠[]) (hx:DataW.trod enc P W 0 (fun _=>true) held fuel t cs=some (.slice (ss.map yg) [],p)):∃v,cs=[v]/\R (M0 W) (.sl false 1 (ss.map dq)) v:=by
 rcases DataW.trod_slice ht hx with⟨_,h⟩|⟨a,len,cap,elems,rest,m,rfl,rfl,eu,_,hlc,lT,hlen,IV,dM,_⟩
 .cases h
 .simp only[YX,DataW.slice.injEq]at eu;have x5:=eu.1.1;have hl:elems.length=ss.length:=by have:=Zk List.length x5;grind
  have vQ:0<ss.length:=X4.2 h0;have cell:∀i (hi:i<ss.length),W.cell? (a.add i)=some (.string (ss.getD i ⟨#[]⟩)):=by
   intro i hi;have h1:=IV i (by omega);have Po:i<elems.length:=by omega
   rw[ZX Po,Option.bind_eq_some_iff]at h1;obtain⟨cs',hc,rD⟩:=h1;obtain⟨s,rfl,hs,_⟩:=T0 he rD;obtain⟨g1,g2⟩:=GX hc;have g3:=g2 0 (by omega);have e1:(elems.map (·.1))[i]'(by grind)=yg (ss[i]'hi):=by grind
   rw[Zv,hs]at e1;simp only[yg,DataW.lit.injEq,Lit.string.injEq]at e1;have e2:s=ss[i]'hi:=Fg e1;rw[DC,Yt]at g3;have e3:(a.add i).add 0=a.add i:=by rfl
   grind
  have qe:a.spot=none:=by have:=K3 (cell 0 vQ);simpa[Addr.add]using this
  obtain⟨b,o,s⟩:=a;simp only at qe;subst qe;refine⟨_,rfl,?_⟩;have rz:(ss.map dq).length=len:=by grind
  have:=R.nP (M:=M0 W) (b:=b) (off:=o) (cap:=cap) (ah:=1) (rows:=ss.map dq) (cs:=fun k=>.string (ss.getD k ⟨#[]⟩)) ⟨fun i hi=>?_,fun k hk=>?_,fun i hi j hj=>?_⟩ (by omega) lT false
  .grind
  .rw[Zv];rfl
  .have:=cell k (by simpa using hk);rw[Addr.add_lit]at this;exact this
  .have cJ:i<ss.length:=by simpa using hi
   simp only[Zv,dq,ZY,ZP]at hj|-;obtain rfl:j=0:=by omega
   rw[Z1,Yt,Yr,ZX cJ];exact .v _
theorem Ib{W:World}{name:String}{G:Nat}{d:DataW Unit}{ss:List ae}(h:VarReads prog W name d)(hg:prog.globalNamed name=some G)(tP:(prog.globals[G]?).map (·.type)=some 85)(hd:d= .slice (ss.map yg) [])(h0:ss≠[]):
  R (M0 W) (.pc [.sl false 1 (ss.map dq)]) (.pointer (some ⟨G,0,none⟩)):=by
 obtain⟨g,t,cs,fuel,p,h1,h2,h3,h4⟩:=h;obtain rfl:=YC (hg.symm.trans h1);obtain rfl:=YC (tP.symm.trans h2);rw[hd]at h4;obtain⟨v,hv,hR⟩:=aln underlying85 underlying9 (by kernel_rfl) h0 h4;refine Kn ?_ hR;rw[World.var?_cell hg h3 0];have:=Zk (·[0]?) hv;simpa using this
theorem Sn{W:World}{g:Nat}{vs:List Value}(hc:∀k (h:k<vs.length),W.cell? ⟨g,k,none⟩=some vs[k]):R (M0 W) (.pc (vs.map AV.v)) (.pointer (some ⟨g,0,none⟩)):=by
 refine .pc _ g 0 (fun k=>vs.getD k undef) (fun k hk=>?_) (fun k hk=>?_)
 .have cN:k<vs.length:=by grind
  rw[ZH,Z1,ZX cN];exact hc k cN
 .have cN:k<vs.length:=by grind
  rw[Zv,Z1,ZX cN];exact .v _
theorem Lf{W:World}{name:String}{d:DataW Unit}{G:Nat}{t e:TypeId}{n:Nat}{k:IntKind}{zs:List Int}(h:VarReads prog W name d)(hd:d=tabData k zs)(hG:prog.globalNamed name=some G)(tP:(prog.globals[G]?).map (·.type)=some t)
  (ht:prog.underlying t=some (.array n e)) (he:prog.underlying e=some (.int k)) (h1:prog.cellsOf e=1) (hn:prog.cellsOf t=n):TabIs prog W name k zs:=by
 obtain⟨g,t',cs,fuel,p,g1,g2,g3,g4⟩:=h;obtain rfl:=YC (hG.symm.trans g1);obtain rfl:=YC (tP.symm.trans g2);rw[hd]at g4;have:=cells_of_tab ht he h1 hn g4;unfold TabIs;rw[g3,<-this]
theorem Sm{W:World}{name:String}{G:Nat}{k:IntKind}{zs:List Int}(h:TabIs prog W name k zs)(hG:prog.globalNamed name=some G):R (M0 W) (.pc ((zs.map fun z=>Value.int k z).map AV.v)) (.pointer (some ⟨G,0,none⟩)):=by
 refine Sn fun i hi=>?_;have cJ:i<zs.length:=by grind
 have:=h.cell hG i cJ;grind
theorem adg{W:World}(hL:laidMet prog Rows.changesRollbackRow.laid W)(tM:W.ShapedOpen prog):F5 prog W:=by
 have Jm:=laidMet.reads hL (n:= "internal/strconv.uint64pow10") (d:=Rows.laid_internal_strconv_uint64pow10) (by simp[Rows.changesRollbackRow]);refine⟨fun g l h=> ?_,?_,?_⟩
 .simp only[Glob.av]at h;split at h
  ·cases h;exact Ib (laidMet.reads hL (n:= "asof/checker.aggregates") (d:=Rows.laid_asof_checker_aggregates) (by simp[Rows.changesRollbackRow])) (by kernel_rfl) (by kernel_rfl) (by rfl) (by decide)
  ·cases h;exact Ib (laidMet.reads hL (n:= "asof/checker.unary") (d:=Rows.laid_asof_checker_unary) (by simp[Rows.changesRollbackRow])) (by kernel_rfl) (by kernel_rfl) (by rfl) (by decide)
  ·cases h;exact Ib (laidMet.reads hL (n:= "asof/checker.binary") (d:=Rows.laid_asof_checker_binary) (by simp[Rows.changesRollbackRow])) (by kernel_rfl) (by kernel_rfl) (by rfl) (by decide)
  .cases h;obtain⟨m,hm⟩:=cell_of_shapedOpen_int (g:=4) (zero:= #[.int .i64 0]) (t:=3) tM (Yl (by kernel_rfl)) (by kernel_rfl) rfl (by kernel_rfl) (by kernel_rfl) underlying3;exact Kn hm (.ai .i64 m)
  ·cases h;have h1:=Lf (k:= .i64) (zs:=[1,10,100,1000,10000,100000,1000000]) (n:=7) (G:=7) (t:=373) (e:=3) (laidMet.reads hL (n:= "asof/decimal.tens") (d:=Rows.laid_asof_decimal_tens) (by simp[Rows.changesRollbackRow])) (by rfl) (by kernel_rfl) (by kernel_rfl) underlying373 underlying3 (by kernel_rfl) (by kernel_rfl);exact Sm h1 (by kernel_rfl)
  ·cases h;obtain⟨g,t,cs,fuel,p,h1,h2,h3,h4⟩:=laidMet.reads hL (n:= "strconv.ErrRange") (d:=Rows.laid_strconv_ErrRange) (by simp[Rows.changesRollbackRow]);have hG:prog.globalNamed "strconv.ErrRange" =some 11:=by kernel_rfl
   obtain rfl:=YC (hG.symm.trans h1);have tP:(prog.globals[11]?).map (·.type)=some 104:=by kernel_rfl
   obtain rfl:=YC (tP.symm.trans h2);have eY:=World.var?_cell hG h3 0;have PQ: "*" ++ "errors.errorString" = "*errors.errorString" :=by decide
   cases fuel with
   |zero=>simp[DataW.trod]at h4|succ fuel=>
    unfold DataW.trod at h4;rw[underlying104]at h4;clear hL tM Jm h1 h2 tP h3;generalize bL:cs.toList=l at h4;have e0:cs[0]? =l[0]? :=by rw[<-bL];simp
    rw[e0]at eY;clear e0 bL;have key:∃ u v,l=[.iface u v]∧prog.typeName? 3 u=some "*errors.errorString" :=by
     unfold Rows.laid_strconv_ErrRange at h4;split at h4;all_goals first|(exfalso;rename_i heq;cases heq;done)|(exfalso;rename_i heq _;cases heq;done)|(exfalso;cases h4;done)|skip
     rename_i u v _;refine⟨u,v,rfl,?_⟩;cases hn:prog.typeName? 3 u with
     |none=>rw[hn]at h4;cases h4|some nm=>
      rw[hn]at h4;simp only[Z8,YX,DataW.iface.injEq]at h4;obtain⟨_,_,⟨rfl,_⟩,_⟩:=h4;rfl
    obtain⟨u,v,rfl,hu⟩:=key;obtain rfl:u=422:=typeName_ptr_named (nm:= "errors.errorString") (by rw[PQ];kernel_rfl) (by kernel_rfl) (by decide) u (by rw[PQ];exact hu);exact Kn (eY.trans rfl) (.dD _ _ v (.any v))
  ·cases h;have h1:=Lf (k:= .u8) (zs:=firstTab) (n:=256) (G:=8) (t:=284) (e:=5) (laidMet.reads hL (n:= "unicode/utf8.first") (d:=Rows.laid_unicode_utf8_first) (by simp[Rows.changesRollbackRow])) (by kernel_rfl) (by kernel_rfl) (by kernel_rfl) underlying284 underlying5 (by kernel_rfl) (by kernel_rfl);have:=Sm h1 (G:=8) (by kernel_rfl);rw[show(firstTab.map fun z=>Value.int .u8 z).map AV.v=(List.range 256).map fun c=>AV.v (.int .u8 (Lib.firstT c:Nat)) by unfold firstTab;rw[Yu,Yu];rfl]at this;exact this
  ·cases h;have h4:=laidMet.reads hL (n:= "unicode/utf8.acceptRanges") (d:=Rows.laid_unicode_utf8_acceptRanges) (by simp[Rows.changesRollbackRow]);rw[show(Rows.laid_unicode_utf8_acceptRanges:DataW Unit)=acceptData by kernel_rfl]at h4;have AN:∀ i,i<16→W.cell? ⟨9,2 * i,none⟩=some (.int .u8 (Lib.accLo i:Nat))∧W.cell? ⟨9,2 * i+1,none⟩=some (.int .u8 (Lib.accHi i:Nat)):=fun i hi=>by
    obtain⟨g,t,cs,fuel,p,hg,tP,PT,hd⟩:=h4;have hG:prog.globalNamed "unicode/utf8.acceptRanges" =some 9:=by kernel_rfl
    obtain rfl:=YC (hG.symm.trans hg);have aej:(prog.globals[9]?).map (·.type)=some 396:=by kernel_rfl
    obtain rfl:=YC (aej.symm.trans tP);obtain⟨amN,d,q,Ph,he⟩:=array_elem underlying396 hd i hi;simp only[X6,List.getElem?_range hi,ZJ,ZV]at Ph;subst Ph;have c2:prog.cellsOf 395=2:=by kernel_rfl
    rw[c2]at he;have bY:=ints_of_struct underlying395 (fun j f hj=>by
     match j,hj with
     |0,hj=>simp at hj;subst hj;exact⟨underlying5,rfl,by kernel_rfl⟩|1,hj=>simp at hj;subst hj;exact⟨underlying5,rfl,by kernel_rfl⟩|j+2,hj=>simp at hj) (by rw[c2];rfl) he
    have e0:=Zk (·[0]?) bY;have e1:=Zk (·[1]?) bY;simp only[YV,YE]at e0 e1;constructor
    .rw[World.var?_cell hG PT (2*i),<-Zi];simpa[Xf]using e0
    .rw[World.var?_cell hG PT (2*i+1),<-Zi];simpa[Xf]using e1
   have hl:((List.range 16).flatMap fun i=>[AV.v (.int .u8 (Lib.accLo i:Nat)),AV.v (.int .u8 (Lib.accHi i:Nat))])=(((List.range 16).flatMap fun i=>[(Value.int .u8 (Lib.accLo i:Nat)),(Value.int .u8 (Lib.accHi i:Nat))]).map AV.v):=by kernel_rfl
   rw[hl];refine Sn fun k hk=>?_;have cN:k<32:=hk
   have key:∀i:Fin 16,((List.range 16).flatMap fun i=>[(Value.int .u8 (Lib.accLo i:Nat)),(Value.int .u8 (Lib.accHi i:Nat))])[2*i.val]? =some (Value.int .u8 (Lib.accLo i.val:Nat))/\
     ((List.range 16).flatMap fun i=>[(Value.int .u8 (Lib.accLo i:Nat)),(Value.int .u8 (Lib.accHi i:Nat))])[2*i.val+1]? =some (Value.int .u8 (Lib.accHi i.val:Nat)):=by
    rintro⟨i,hi⟩;have:i=0\/i=1\/i=2\/i=3\/i=4\/i=5\/i=6\/i=7\/i=8\/i=9\/i=10\/i=11\/i=12\/i=13\/i=14\/i=15:=by omega
    rcases this with rfl|rfl|rfl|rfl|rfl|rfl|rfl|rfl|rfl|rfl|rfl|rfl|rfl|rfl|rfl|rfl<;>exact⟨rfl,rfl⟩
   obtain⟨k1,k2⟩:=key ⟨k / 2,by omega⟩;obtain⟨c1,c2⟩:=AN (k / 2) (by omega);rcases Nat.mod_two_eq_zero_or_one k with e|e
   .rw[show 2*(k / 2)=k by omega]at c1 k1;rw[c1,<-k1,ZX hk]
   .rw[show 2*(k / 2)+1=k by omega]at c2 k2;rw[c2,<-k2,ZX hk]
  .cases h
 .exact Lf (G:=3) Jm (by rfl) (by kernel_rfl) (t:=315) (n:=20) (e:=56) (by kernel_rfl) underlying315 underlying56 (by kernel_rfl) (by kernel_rfl)
 ·obtain⟨g,t,cs,fuel,p,h1,h2,h3,h4⟩:=Jm;have hG:prog.globalNamed "internal/strconv.uint64pow10" =some 3:=by kernel_rfl
  simp only[World.var?,hG,Option.bind_some]at h3;split at h3
  .rename_i e;exact(ZW.1 e).1
  .cases h3
end Go.Proofs.YtmemninechdogaaGreatDoor
set_option maxHeartbeats 16000000
namespace Go.Proofs.YtmemninechdogaaGreatDoor
open _root_.Go.Proofs.Tryz
open Go.Sx Go.Proofs Go.Tb Go.RowKit
noncomputable def anE(C:ay):Int:=if iI C=0 then an6 (ank C).data.toList else 0
theorem aoW{M:Mem}{ah n:Nat}{rows:List (List AV)}{v:Value}(hn:rows.length=n)(h:R M (.sl false ah rows) v):
  ∃a cap,v= .slice a n cap/\∀i (hi:i<n),∃bb off,a=some ⟨bb,off,none⟩/\∃cs:List Value,RL M (rows.getD i []) cs/\cs.length=ah/\∀j (hj:j<cs.length),M bb (off+i*ah+j)=some cs[j]:=by
 obtain⟨a,cap,e,hr⟩:=aoZ h;grind
theorem getD_map{Y:Type}[Inhabited Y](g:Y->List AV){l:List Y}{i:Nat}(h:i<l.length):(l.map g).getD i []=g (l.getD i default):=by grind
theorem an4{M:Mem}{l:List aj}{v:Value}(h:R M (.sl false 18 (l.map aj.cells)) v):∃a cap,v= .slice a l.length cap/\anZ M a l:=by obtain⟨a,cap,e,h⟩:=aoW (n:=l.length) (by simp) h;exact⟨a,cap,e,fun i hi=>by have:=h i hi;rwa [getD_map aj.cells hi]at this⟩
theorem apE(C:ay)(hC:Sx.Pure prog 33 [.agg C.cells] (iv (iI C)))(h:iI C≠0):Sx.Pure prog 15 [.agg C.cells] (.aG [uh (anE C),iv (iI C)]):=by
 rw[show anE C=0 from Z9 h];generalize iI C=E at*;refine k15.p fun X=>?_;repeat'(first|exact .nil|refine .k ?_|simp_all|refine .k ?_|simp_all|(refine .cd ?_ ?_<;>(simp_all))|refine .r1 ?_ ?_|omega|(refine .m1 ?_ ?_;intro b)|omega|refine .an rfl (by intro ar;exact hC) ?_ ?_|fail)
 all_goals(try simp only[BL]at*)
 all_goals first|exact absurd hc h|(show Sx.Fin _ _ _ _;(refine Sx.Fin.wk Zs ?_;repeat' first|exact .refl _|fail))
theorem apD(C:ay)(hC:Sx.Pure prog 33 [.agg C.cells] (iv (iI C))):Sx.Pure prog 15 [.agg C.cells] (.aG [uh (anE C),iv (iI C)]):=by
 by_cases h:iI C=0
 rotate_left
 .exact apE C hC h
 have hD:=dok h;have hl:(ank C).data.toList.length<=1000000000:=by obtain⟨h1,h2⟩:=anK hD 3 (ZO 3);have h3:=anI (l:=am6 C 3) h1;have h4:(ank C).data.toList.length=(ank C).size:=Zu;rw[h4];unfold ank;omega
 rw[show anE C=_ from Z3 h,h];rw[h]at hC;have hr:∀(M:Mem) (x:Int),R M (.aG [uh x,iv 0]) (.tuple #[.int .u64 x,.int .i64 0]):=fun M x=>R.ue (cs:=[.int .u64 x,.int .i64 0]) (RL.cons (.v _) (RL.cons (.v _) RL.nil));refine Pure.wI fun M w0 w X cs hI hR=>?_;obtain⟨K,hK,hc⟩:=Go.Proofs.YtmemninechdogaaGreatDoor.RL.aab hR;rw[hK];have eY:=hc;obtain⟨vT,d,hd,hT,hc⟩:=hc.aZ;obtain⟨v1,d1,hd1,h1,hc⟩:=hc.aZ;obtain⟨v2,d2,Al,h2,hc⟩:=hc.aZ;obtain⟨v3,d3,hd3,h3,hc⟩:=hc.aZ;have hd4:=hc.qD;obtain⟨aT,cT,rfl,rT⟩:=aoW (n:=C.tables.length) (by simp) hT;obtain⟨a1,c1,rfl,r1⟩:=an4 h1;obtain⟨a2,c2,rfl,r2⟩:=an4 h2;obtain⟨a3,c3,rfl,r3⟩:=an4 h3;obtain⟨ad,had⟩:∃ad:Nat->Option Addr,ad=fun n=>if n=0 then a1 else if n=1 then a2 else a3:=⟨_,rfl⟩
 obtain⟨cp,II⟩:∃cp:Nat->Nat,cp=fun n=>if n=0 then c1 else if n=1 then c2 else c3:=⟨_,rfl⟩
 have e:K.toList=[.slice aT C.tables.length cT,.slice (ad 0) (LL C 0).length (cp 0),.slice (ad 1) (LL C 1).length (cp 1),.slice (ad 2) (LL C 2).length (cp 2)]:=by rw[hd,hd1,Al,hd3,hd4,had,II];rfl
 have e2:K= #[.slice aT C.tables.length cT,.slice (ad 0) (LL C 0).length (cp 0),.slice (ad 1) (LL C 1).length (cp 1),.slice (ad 2) (LL C 2).length (cp 2)]:=Array.toList_inj.1 e;rw[e]at eY;rw[e2];exact(apF C _ hC hD (apW _ true hl) M w0 w X hI aT cT ad cp eY (fun i hi=>by grind) (fun n=>by
  unfold anZ LL;rw[had];by_cases h0:n=0
  .simp only[Z3 h0];exact r1
  .simp only[Z9 h0];by_cases h1:n=1
   .simp only[Z3 h1];exact r2
   .simp only[Z9 h1];exact r3)).mono fun e w' h=>⟨⟨_,h.1,hr M _⟩,h.2⟩
theorem acF{c:ay}(h:uJ c)(hc:y9 c):pH c:=by have hb:=N2 h hc;obtain⟨h1,h2,h3,h4,_,_⟩:=h;exact⟨by omega,by omega,by omega,by omega,fun f hf=>ZD (hb.b f hf).s (by decide)⟩
theorem aow(l:List aj)(n:ae):(findF l n=none/\dN l n<0)\/(findF l n=some (l.getD (dN l n).toNat default)/\0<=dN l n):=by
 unfold findF dN;rcases vf (fun x=>decide (x.name=n)) l 0 with⟨h1,h2⟩|⟨i,h1,h2,h3⟩
 .grind
 grind
theorem an2:FB zL:=⟨by decide,by decide,by decide⟩
theorem aqQ(c:ay)(n:ae)(eY:y9 c)(hE:Pure prog 5 [] (.v (.bool true))):Pure prog 4 [.agg c.cells,sv n] (.v (.bool true)):=by
 have hF:=acA c eY;by_cases tC:uJ c/\n.size<=100
 case neg=>
  refine k4.p fun X=>?_;repeat'(first|exact .nil|refine .k ?_|(refine .cd ?_ ?_<;>intro hc)|refine .r1 ?_ ?_|(refine .m1 ?_ ?_;intro b)|refine .an rfl (by intro ar;first|exact hE|exact hF|(exact(absurd (by simp at ar;exact⟨ar.1,by omega⟩) tC:Pure prog _ _ (iv 0)))) ?_ ?_|fail)
  try any_goals(exact Zo)
  all_goals(try simp only[BL]at*)
  all_goals first|(cases hc;done)|(exfalso;exact tC ⟨hc.1.1,by have:=hc.1.2;omega⟩)|(refine Sx.Fin.wk Zs ?_;repeat' first|exact .refl _|fail)
 obtain⟨tC,hn⟩:=tC;rw[Y7 tC]at hF;have DB:=N2 tC eY;have hC:=aaZ TY aiw c (acF tC eY) ⟨fun g hg=>(DB.b g (by unfold ay.all;simp[hg])).n,fun g hg=>(DB.b g (by unfold ay.all;simp[hg])).w⟩;by_cases hv:iI c=0
 case neg=>
  generalize iI c=e at*;refine k4.p fun X=>?_;repeat'(first|exact .nil|refine .k ?_|(refine .cd ?_ ?_<;>intro hc)|refine .r1 ?_ ?_|(refine .m1 ?_ ?_;intro b)|refine .an rfl (by intro ar;first|exact hE|exact hF|exact hC|fail) ?_ ?_|fail)
  try any_goals(exact Zo)
  all_goals(try simp only[BL]at*)
  all_goals first|(cases hc;done)|(exfalso;exact hv hc.2)|(refine Sx.Fin.wk Zs ?_;repeat' first|exact .refl _|fail)
 rw[hv]at hC;have hA:=Cu Fv EG c (swC n) 20 (by decide) DB an2;have hD:=ab4 c n;have hG:=aov c n;obtain⟨l1,l2⟩:=aqP (n:=n) hv;rcases aow c.aD n with⟨d1,d2⟩|⟨d1,d2⟩
 .rw[d1]at hD;rw[l1 d2]at hA;refine k4.p fun X=>?_;repeat'(first|exact .nil|refine .k ?_|(refine .cd ?_ ?_<;>(intro hc;first|exact kt hc (by assumption)|skip))|refine .r1 ?_ ?_|refine .l1 fun b=>?_|(refine .m1 ?_ ?_;intro b)|refine .an rfl (by intro ar;first|exact hE|exact hF|exact hC|exact hD|exact hG|(refine hA.wk ?_;(repeat' first|exact .refl _|exact .nil|refine .cons ?_ ?_|refine .agg ?_|fail);done)|fail) ?_ ?_|fail)
  try any_goals(exact Zo)
  all_goals(try simp only[BL]at*)
  all_goals first|(cases hc;done)|(refine Sx.Fin.wk Zs ?_;repeat' first|exact .refl _|fail)
 rw[d1]at hD;by_cases he:(cV c (swC n)).2=0
 case neg=>
  generalize cV c (swC n)=r at*;obtain⟨d,e⟩:=r;refine k4.p fun X=>?_;repeat'(first|exact .nil|refine .k ?_|(refine .cd ?_ ?_<;>(intro hc;first|exact kt hc (by assumption)|skip))|refine .r1 ?_ ?_|refine .l1 fun b=>?_|(refine .m1 ?_ ?_;intro b)|refine .an rfl (by intro ar;first|exact hE|exact hF|exact hC|exact hD|exact hG|(refine hA.wk ?_;(repeat' first|exact .refl _|exact .nil|refine .cons ?_ ?_|refine .agg ?_|fail);done)|fail) ?_ ?_|fail)
  try any_goals(exact Zo)
  all_goals(try simp only[BL]at*)
  all_goals first|(cases hc;done)|(exfalso;exact he (by assumption))|(refine Sx.Fin.wk Zs ?_;repeat' first|exact .refl _|fail)
 obtain⟨h1,h2,h3⟩:=l2 d2 he;have mL:=Cu Fv EG (cV c (swC n)).1 (rbC n) 21 (by decide) (aan (x:=swC n) DB an2) an2;have tw:=aov (cV c (swC n)).1 n;rw[h1]at tw;have hS:=akO (c.aD.getD (dN c.aD n).toNat default);rw[show cV c (swC n)=((cV c (swC n)).1,0) by rw[<-he]]at hA;rcases aow c.features n with⟨f1,f2⟩|⟨f1,f2⟩
 .rw[f1]at hG;have hz:=h3 f2;clear h1 h2 h3 l1 l2 he d1 d2 f1 f2;generalize cV (cV c (swC n)).1 (rbC n)=r at*;generalize (cV c (swC n)).1=d at*;generalize c.aD.getD (dN c.aD n).toNat default=dr at*;obtain⟨cb,e⟩:=r;refine k4.p fun X=>?_;repeat'(first|exact .nil|refine .k ?_|(refine .cd ?_ ?_<;>(intro hc;first|exact kt hc (by assumption)|skip))|refine .r1 ?_ ?_|refine .l1 fun b=>?_|(refine .m1 ?_ ?_;intro b)|refine .an rfl (by intro ar;first|exact hE|exact hF|exact hC|exact hD|exact hG|(refine hA.wk ?_;(repeat' first|exact .refl _|exact .nil|refine .cons ?_ ?_|refine .agg ?_|fail);done)|exact tw|(refine mL.wk ?_;(repeat' first|exact .refl _|exact .nil|refine .cons ?_ ?_|refine .agg ?_|fail);done)|exact hS|fail) ?_ ?_|fail)
  try any_goals(exact Zo)
  all_goals(try simp only[BL]at*)
  all_goals first|(cases hc;done)|(show WK _ _ _ _ _ _ _ _;skip)|(refine Sx.Fin.wk Zs ?_;repeat' first|exact .refl _|fail)
  rename_i b2 b5 b7 b9 b11 g1 g2 g3 g4 g5;refine aP (fun m rg af=>∃j:Nat,j<=c.past.length/\m=c.past.length-j/\(∀g∈c.past.take j,g.name≠n)/\af=(2,b2,.cells c.cells)::X/\rg=[(1,sv n),(2,.lp 2 b2 0),(14,iv e),(15,iv j)]) c.past.length rfl ⟨_,_,Zr,Zs,0,Z4 _,rfl,(fun g h=>by cases h),rfl,rfl⟩ ?_;rintro m _ _ ⟨j,hj,hm,hp,rfl,rfl⟩;rcases YN j c.past.length with az|vG
  .have mQ:(c.past.getD j default).name≠n->∀g∈c.past.take (j+1),g.name≠n:=fun h g hg=>by
    rw[ZU az,<-getD_eq az]at hg;rcases ZI.1 hg with hg|hg
    .exact hp g hg
    .rw[Zd.1 hg];exact h
   repeat'(first|exact .nil|refine .k ?_|(refine .cd ?_ ?_<;>intro hc)|refine .r1 ?_ ?_|(refine .m2 ?_ ?_;intro hlen)|refine .t1 ?_ ?_ ?_|fail)
   try any_goals(exact Zo)
   all_goals(try simp only[BL]at*)
   any_goals(exfalso;omega)
   .exact Zw
   .exact⟨c.past.length-(j+1),by omega,_,_,Zr,Zs,j+1,by omega,rfl,mQ hc,rfl,by rw[bj (n:=c.past.length) (by omega) (by assumption)]⟩
  .obtain rfl:j=c.past.length:=by omega
   rw[Yb]at hp;obtain⟨rfl,rfl⟩:=Prod.mk.inj (hz hp);repeat'(first|exact .nil|refine .k ?_|(refine .cd ?_ ?_<;>intro hc)|refine .r1 ?_ ?_|(refine .m2 ?_ ?_;intro hlen)|refine .t1 ?_ ?_ ?_|fail)
   try any_goals(exact Zo)
   all_goals(try simp only[BL]at*)
   any_goals(exfalso;omega)
   exact Zw
 rw[f1]at hG;rw[h2 f2]at mL;have hH:=apD c (aaY Fv EG c (fun f hf=>ZD (DB.b f hf).s (by decide)) (DB.fit (by omega)) (by have:=DB.t;omega));rw[hv]at hH;clear h1 h2 h3 l1 l2 he d1 d2 f1 f2;generalize anE c=H at*;generalize (cV c (swC n)).1=d at*;generalize c.aD.getD (dN c.aD n).toNat default=dr at*;generalize c.features.getD (dN c.features n).toNat default=fr at*;refine k4.p fun X=>?_;repeat'(first|exact .nil|refine .k ?_|(refine .cd ?_ ?_<;>(intro hc;first|exact kt hc (by assumption)|skip))|refine .r1 ?_ ?_|refine .l1 fun b=>?_|(refine .m1 ?_ ?_;intro b)|refine .an rfl (by intro ar;first|exact hE|exact hF|exact hC|exact hD|exact hG|(refine hA.wk ?_;(repeat' first|exact .refl _|exact .nil|refine .cons ?_ ?_|refine .agg ?_|fail);done)|exact tw|(refine mL.wk ?_;(repeat' first|exact .refl _|exact .nil|refine .cons ?_ ?_|refine .agg ?_|fail);done)|exact hS|exact hH|exact akM _|fail) ?_ ?_|fail)
 try any_goals(exact Zo)
 all_goals(try simp only[BL]at*)
 all_goals first|(cases hc;done)|(refine Sx.Fin.wk Zs ?_;repeat' first|exact .refl _|fail)
