import Derived.Test.YtmemninechdogaaGreatDoorPn
import Derived.Test.YtmemninechdogaaGreatDoorSxB
import Derived.Test.YtmemninechdogaaGreatDoorIa
import Derived.Test.YtmemninechdogaaGreatDoorRows
import Derived.Lib.LaidU8
import Derived.HandedShaped
set_option linter.all false
set_option maxRecDepth 100000
namespace Go.Proofs.YtmemninechdogaaGreatDoor
open _root_.Go.Proofs.Tryz
open Go.Sx Go.Proofs
theorem own:ownKnob prog.godebug=none:=by kernel_rfl
theorem laidOut:laidOutB prog=true:=by kernel_rfl
section
variable {H:Type}{enc:TypeId×Value->H}{W:World}
theorem qu(n:Nat):Rd enc prog W n 3 fun l=>∃z:Int,l=[iv z]:=(Rd.int underlying3).mono fun l ⟨z,h,_⟩=>⟨z,h⟩
theorem pj(n:Nat):Rd enc prog W n 9 fun l=>∃s:ae,l=[sv s]/\s.size<=reachBytes:=Rd.str underlying9
theorem rd_val:∀n:Nat,Rd enc prog W n 30 fun l=>∃v:kv,l=v.cells/\v.s.size<=reachBytes
 |0=>Rd.zero _ _|n+1=>(Rd.struct underlying30 (by kernel_rfl) (.cons (qu n) (.cons (qu n) (.cons (pj n) .nil)))).mono (by
  rintro _ ⟨_,_,rfl,⟨a,rfl⟩,_,_,rfl,⟨b,rfl⟩,_,_,rfl,⟨c,rfl,hc⟩,rfl⟩
  exact⟨⟨a,b,c⟩,rfl,hc⟩)
theorem ai5:∀n:Nat,Rd enc prog W n 32 fun l=>∃w:pJ,l=w.cells
 |0=>Rd.zero _ _|n+1=>(Rd.struct underlying32 (by kernel_rfl) (.cons (qu n) (.cons (qu n) .nil))).mono (by
  rintro _ ⟨_,_,rfl,⟨a,rfl⟩,_,_,rfl,⟨b,rfl⟩,rfl⟩
  exact⟨⟨a,b⟩,rfl⟩)
theorem ai1:∀n:Nat,Rd enc prog W n 133 fun l=>∃f:ax,l=f.cells
 |0=>Rd.zero _ _|n+1=>(Rd.struct underlying133 (by kernel_rfl) (.cons (pj n) (.cons (qu n) .nil))).mono (by
  rintro _ ⟨_,_,rfl,⟨a,rfl,_⟩,_,_,rfl,⟨b,rfl⟩,rfl⟩
  exact⟨⟨a,b⟩,rfl⟩)
theorem SN:∀n:Nat,Rd enc prog W n 26 fun l=>∃u:List ax,l=[.sl false 2 (u.map ax.cells)]
 |0=>Rd.zero _ _|n+1=>(Rd.slice underlying26 (ah:=2) (by kernel_rfl) (by decide) (ai1 n)).mono (by
  rintro _ ⟨rows,rfl,_,h⟩;obtain⟨ls,rfl,_⟩:=yE (f:=ax.cells) (W:=fun _=>True) (fun r hr=>by obtain⟨x,h⟩:=h r hr;exact⟨x,h,trivial⟩)
  exact⟨ls,rfl⟩)
theorem SR:∀n:Nat,Rd enc prog W n 28 fun l=>∃t:Ty,l=t.cells/\t.of.size<=reachBytes
 |0=>Rd.zero _ _|n+1=>(Rd.struct underlying28 (by kernel_rfl) (.cons (qu n) (.cons (SN n) (.cons (pj n) .nil)))).mono (by
  rintro _ ⟨_,_,rfl,⟨a,rfl⟩,_,_,rfl,⟨b,rfl⟩,_,_,rfl,⟨c,rfl,hc⟩,rfl⟩
  exact⟨⟨a,b,c⟩,rfl,hc⟩)
theorem amv{l:List Ex}{k:Nat}(h:∀y∈l,y.wt<=k):Ex.sE l<=k:=by
 induction l with
 |nil=>exact Z4 _|cons x l ih=>have h1:=h x (by simp);have h2:=ih fun y hy=>h y (by simp[hy]);rw[Ex.sE];omega
mutual
theorem SP:∀n:Nat,Rd enc prog W n 35 fun l=>∃x:Ex,l=x.row/\x.wt<=2^60
 |0=>Rd.zero _ _|n+1=>(Rd.struct underlying35 (by kernel_rfl) (.cons (qu n) (.cons (pj n) (.cons (pj n) (.cons (pj n) (.cons (rd_val n) (.cons (SN n) (.cons (qu n) (.cons (ai5 n) (.cons (ai0 n) .nil)))))))))).mono (by
  rintro _ ⟨_,_,rfl,⟨k,rfl⟩,_,_,rfl,⟨o,rfl,ho⟩,_,_,rfl,⟨nm,rfl,hn⟩,_,_,rfl,⟨t,rfl,ht⟩,_,_,rfl,⟨v,rfl,hv⟩,_,_,rfl,⟨u,rfl⟩,_,_,rfl,⟨p,rfl⟩,_,_,rfl,⟨w,rfl⟩,_,_,rfl,⟨ks,rfl,x8⟩,rfl⟩;refine⟨⟨k,o,nm,t,v,u,p,w,ks⟩,(Ex.dX _).symm ▸ rfl,?_⟩;rw[Ex.wt];have:=amv x8;have hr:reachBytes<=2^47:=by decide
  omega)
theorem ai0:∀n:Nat,Rd enc prog W n 33 fun l=>∃ks:List Ex,l=[.sl false 12 (ks.map Ex.row)]/\∀y∈ks,y.wt<=2^60
 |0=>Rd.zero _ _|n+1=>(Rd.slice underlying33 (ah:=12) (by kernel_rfl) (by decide) (SP n)).mono (by
  rintro _ ⟨rows,rfl,_,h⟩;obtain⟨ls,rfl,hl⟩:=yE (f:=Ex.row) (W:=fun y=>y.wt<=2^60) (fun r hr=>h r hr)
  exact⟨ls,rfl,hl⟩)
end
theorem ai2:∀n:Nat,Rd enc prog W n 113 fun l=>∃f:cT,l=f.cells/\f.type.of.size<=2^59
 |0=>Rd.zero _ _|n+1=>(Rd.struct underlying113 (by kernel_rfl) (.cons (pj n) (.cons (SR n) .nil))).mono (by
  rintro _ ⟨_,_,rfl,⟨a,rfl,_⟩,_,_,rfl,⟨b,rfl,hb⟩,rfl⟩
  exact⟨⟨a,b⟩,rfl,ZD hb (by decide)⟩)
theorem ai3:∀n:Nat,Rd enc prog W n 43 fun l=>∃fs:List cT,l=[.sl false 4 (fs.map cT.cells)]/\∀f∈fs,f.type.of.size<=2^59
 |0=>Rd.zero _ _|n+1=>(Rd.slice underlying43 (ah:=4) (by kernel_rfl) (by decide) (ai2 n)).mono (by
  rintro _ ⟨rows,rfl,_,h⟩;obtain⟨ls,rfl,hl⟩:=yE (f:=cT.cells) (W:=fun f=>f.type.of.size<=2^59) (fun r hr=>h r hr)
  exact⟨ls,rfl,hl⟩)
theorem ai4:∀n:Nat,Rd enc prog W n 45 fun l=>∃t:aO,l=t.cells/\t.Fits
 |0=>Rd.zero _ _|n+1=>(Rd.struct underlying45 (by kernel_rfl) (.cons (pj n) (.cons (pj n) (.cons (ai3 n) (.cons (qu n) .nil))))).mono (by
  rintro _ ⟨_,_,rfl,⟨a,rfl,ha⟩,_,_,rfl,⟨b,rfl,hb⟩,_,_,rfl,⟨fs,rfl,hf⟩,_,_,rfl,⟨k,rfl⟩,rfl⟩
  exact⟨⟨a,b,fs,k⟩,rfl,ZD ha (by decide),ZD hb (by decide),hf⟩)
theorem SQ:∀n:Nat,Rd enc prog W n 37 fun l=>∃f:aj,l=f.cells/\f.Fits
 |0=>Rd.zero _ _|n+1=>(Rd.struct underlying37 (by kernel_rfl) (.cons (pj n) (.cons (pj n) (.cons (SR n) (.cons (SP n) (.cons (qu n) .nil)))))).mono (by
  rintro _ ⟨_,_,rfl,⟨a,rfl,ha⟩,_,_,rfl,⟨b,rfl,hb⟩,_,_,rfl,⟨t,rfl,ht⟩,_,_,rfl,⟨x,rfl,hx⟩,_,_,rfl,⟨v,rfl⟩,rfl⟩
  exact⟨⟨a,b,t,x,v⟩,by rw[aj.pQ,Ex.dX x];rfl,ZD ha (by decide),ZD hb (by decide),ZD ht (by decide),hx⟩)
end
section
variable {H:Type}{enc:TypeId×Value->H}{W:World}
theorem ai7:∀n:Nat,Rd enc prog W n 22 fun l=>∃ts:List aO,l=[.sl false 4 (ts.map aO.cells)]/\∀t∈ts,t.Fits
 |0=>Rd.zero _ _|n+1=>(Rd.slice underlying22 (ah:=4) (by kernel_rfl) (by decide) (ai4 n)).mono (by
  rintro _ ⟨rows,rfl,_,h⟩;obtain⟨ls,rfl,hl⟩:=yE (f:=aO.cells) (W:=aO.Fits) (fun r hr=>h r hr)
  exact⟨ls,rfl,hl⟩)
theorem Kz:∀n:Nat,Rd enc prog W n 23 fun l=>∃fs:List aj,l=[.sl false 18 (fs.map aj.cells)]/\∀f∈fs,f.Fits
 |0=>Rd.zero _ _|n+1=>(Rd.slice underlying23 (ah:=18) (by kernel_rfl) (by decide) (SQ n)).mono (by
  rintro _ ⟨rows,rfl,_,h⟩;obtain⟨ls,rfl,hl⟩:=yE (f:=aj.cells) (W:=aj.Fits) (fun r hr=>h r hr)
  exact⟨ls,rfl,hl⟩)
theorem ai6:∀n:Nat,Rd enc prog W n 25 fun l=>∃c:ay,l=c.cells/\y9 c
 |0=>Rd.zero _ _|n+1=>(Rd.struct underlying25 (by kernel_rfl) (.cons (ai7 n) (.cons (Kz n) (.cons (Kz n) (.cons (Kz n) .nil))))).mono (by
  rintro _ ⟨_,_,rfl,⟨ts,rfl,ht⟩,_,_,rfl,⟨fs,rfl,hf⟩,_,_,rfl,⟨ds,rfl,hd⟩,_,_,rfl,⟨ps,rfl,hp⟩,rfl⟩;refine⟨⟨ts,fs,ds,ps⟩,rfl,ht,fun f h=>?_⟩;simp only[ZI]at h;rcases h with(h|h)|h
  .exact hf f h
  .exact hd f h
  .exact hp f h)
end
end Go.Proofs.YtmemninechdogaaGreatDoor
namespace Go.Proofs.YtmemninechdogaaGreatDoor
open _root_.Go.Proofs.Tryz
open Go.Sx Go.Proofs Go.Lib
theorem Kn{W:World}{g:Nat}{x:AV}{v:Value}(hc:W.cell? ⟨g,0,none⟩=some v)(h:R (M0 W) x v):R (M0 W) (.pc [x]) (.pointer (some ⟨g,0,none⟩)):=by
 refine .pc [x] g 0 (fun _=>v) (fun k hk=>?_) (fun k hk=>?_)
 .obtain rfl:k=0:=by simpa using hk
  exact hc
 .obtain rfl:k=0:=by simpa using hk
  exact h
def yg(s:ae):DataW Unit:=.lit (.string s.data.toList)
theorem aln{enc:TypeId×Value->Unit}{P:Program}[Glob P]{W:World}{t e:TypeId}{fuel:Nat}{held:Bool}{cs:List Value}{p:List MemPlace}{ss:List ae}(ht:P.underlying t=some (.slice e))(he:P.underlying e=some .string)(DC:P.cellsOf e=1)
  (h0:ss≠[]) (hx:DataW.trod enc P W 0 (fun _=>true) held fuel t cs=some (.slice (ss.map yg) [],p)):∃v,cs=[v]/\R (M0 W) (.sl false 1 (ss.map dq)) v:=by
 rcases DataW.trod_slice ht hx with⟨_,h⟩|⟨a,len,cap,elems,rest,m,rfl,rfl,eu,_,hlc,lT,hlen,IV,dM,_⟩
 .cases h
 .simp only[YX,DataW.slice.injEq]at eu;have x5:=eu.1.1;have hl:elems.length=ss.length:=by have:=Zk List.length x5;simpa using this.symm
  have vQ:0<ss.length:=X4.2 h0;have cell:∀i (hi:i<ss.length),W.cell? (a.add i)=some (.string (ss.getD i ⟨#[]⟩)):=by
   intro i hi;have h1:=IV i (by omega);have Po:i<elems.length:=by omega
   rw[ZX Po,Option.bind_eq_some_iff]at h1;obtain⟨cs',hc,rD⟩:=h1;obtain⟨s,rfl,hs,_⟩:=T0 he rD;obtain⟨g1,g2⟩:=GX hc;have g3:=g2 0 (by omega);have e1:(elems.map (·.1))[i]'(by simpa using Po)=yg (ss[i]'hi):=by
    have:(ss.map yg)[i]'(by simpa using hi)=yg (ss[i]'hi):=by rw[Zv]
    rw[<-this];exact List.getElem_of_eq x5.symm _
   rw[Zv,hs]at e1;simp only[yg,DataW.lit.injEq,Lit.string.injEq]at e1;have e2:s=ss[i]'hi:=Fg e1;rw[DC,Yt]at g3;have e3:(a.add i).add 0=a.add i:=by rw[Go.Deep.add_add];rfl
   rw[e3]at g3;rw[g3,e2,Z1,ZX hi];rfl
  have qe:a.spot=none:=by have:=K3 (cell 0 vQ);simpa[Addr.add]using this
  obtain⟨b,o,s⟩:=a;simp only at qe;subst qe;refine⟨_,rfl,?_⟩;have rz:(ss.map dq).length=len:=by rw[Z5];omega
  have:=R.nP (M:=M0 W) (b:=b) (off:=o) (cap:=cap) (ah:=1) (rows:=ss.map dq) (cs:=fun k=>.string (ss.getD k ⟨#[]⟩)) ⟨fun i hi=>?_,fun k hk=>?_,fun i hi j hj=>?_⟩ (by omega) lT false
  .rw[rz]at this;exact this
  .rw[Zv];rfl
  .have:=cell k (by simpa using hk);rw[Addr.add_lit]at this;exact this
  .have cJ:i<ss.length:=by simpa using hi
   simp only[Zv,dq,ZY,ZP]at hj|-;obtain rfl:j=0:=by omega
   rw[Z1,Yt,Yr,ZX cJ];exact .v _
theorem Ib{W:World}{name:String}{G:Nat}{d:DataW Unit}{ss:List ae}(h:VarReads prog W name d)(hg:prog.globalNamed name=some G)(tP:(prog.globals[G]?).map (·.type)=some 85)(hd:d= .slice (ss.map yg) [])(h0:ss≠[]):
  R (M0 W) (.pc [.sl false 1 (ss.map dq)]) (.pointer (some ⟨G,0,none⟩)):=by
 obtain⟨g,t,cs,fuel,p,h1,h2,h3,h4⟩:=h;obtain rfl:=YC (hg.symm.trans h1);obtain rfl:=YC (tP.symm.trans h2);rw[hd]at h4;obtain⟨v,hv,hR⟩:=aln underlying85 underlying9 (by kernel_rfl) h0 h4;refine Kn ?_ hR;rw[World.var?_cell hg h3 0];have:=Zk (·[0]?) hv;simpa using this
theorem Sn{W:World}{g:Nat}{vs:List Value}(hc:∀k (h:k<vs.length),W.cell? ⟨g,k,none⟩=some vs[k]):R (M0 W) (.pc (vs.map AV.v)) (.pointer (some ⟨g,0,none⟩)):=by
 refine .pc _ g 0 (fun k=>vs.getD k undef) (fun k hk=>?_) (fun k hk=>?_)
 .have cN:k<vs.length:=by simpa using hk
  rw[ZH,Z1,ZX cN];exact hc k cN
 .have cN:k<vs.length:=by simpa using hk
  rw[Zv,Z1,ZX cN];exact .v _
theorem Lf{W:World}{name:String}{d:DataW Unit}{G:Nat}{t e:TypeId}{n:Nat}{k:IntKind}{zs:List Int}(h:VarReads prog W name d)(hd:d=tabData k zs)(hG:prog.globalNamed name=some G)(tP:(prog.globals[G]?).map (·.type)=some t)
  (ht:prog.underlying t=some (.array n e)) (he:prog.underlying e=some (.int k)) (h1:prog.cellsOf e=1) (hn:prog.cellsOf t=n):TabIs prog W name k zs:=by
 obtain⟨g,t',cs,fuel,p,g1,g2,g3,g4⟩:=h;obtain rfl:=YC (hG.symm.trans g1);obtain rfl:=YC (tP.symm.trans g2);rw[hd]at g4;have:=cells_of_tab ht he h1 hn g4;unfold TabIs;rw[g3,<-this]
theorem Sm{W:World}{name:String}{G:Nat}{k:IntKind}{zs:List Int}(h:TabIs prog W name k zs)(hG:prog.globalNamed name=some G):R (M0 W) (.pc ((zs.map fun z=>Value.int k z).map AV.v)) (.pointer (some ⟨G,0,none⟩)):=by
 refine Sn fun i hi=>?_;have cJ:i<zs.length:=by simpa using hi
 have:=h.cell hG i cJ;rw[this];simp[cJ]
theorem adg{W:World}(hL:laidMet prog Rows.changesPublishRow.laid W)(tM:W.ShapedOpen prog):F5 prog W:=by
 have Jm:=laidMet.reads hL (n:= "internal/strconv.uint64pow10") (d:=Rows.laid_internal_strconv_uint64pow10) (by simp[Rows.changesPublishRow]);refine⟨fun g l h=> ?_,?_,?_⟩
 .simp only[Glob.av]at h;split at h
  ·cases h;exact Ib (laidMet.reads hL (n:= "asof/checker.aggregates") (d:=Rows.laid_asof_checker_aggregates) (by simp[Rows.changesPublishRow])) (by kernel_rfl) (by kernel_rfl) (by rfl) (by decide)
  ·cases h;exact Ib (laidMet.reads hL (n:= "asof/checker.unary") (d:=Rows.laid_asof_checker_unary) (by simp[Rows.changesPublishRow])) (by kernel_rfl) (by kernel_rfl) (by rfl) (by decide)
  ·cases h;exact Ib (laidMet.reads hL (n:= "asof/checker.binary") (d:=Rows.laid_asof_checker_binary) (by simp[Rows.changesPublishRow])) (by kernel_rfl) (by kernel_rfl) (by rfl) (by decide)
  .cases h;obtain⟨m,hm⟩:=cell_of_shapedOpen_int (g:=4) (zero:= #[.int .i64 0]) (t:=3) tM (Yl (by kernel_rfl)) (by kernel_rfl) rfl (by kernel_rfl) (by kernel_rfl) underlying3;exact Kn hm (.ai .i64 m)
  ·cases h;have h1:=Lf (k:= .i64) (zs:=[1,10,100,1000,10000,100000,1000000]) (n:=7) (G:=7) (t:=373) (e:=3) (laidMet.reads hL (n:= "asof/decimal.tens") (d:=Rows.laid_asof_decimal_tens) (by simp[Rows.changesPublishRow])) (by rfl) (by kernel_rfl) (by kernel_rfl) underlying373 underlying3 (by kernel_rfl) (by kernel_rfl);exact Sm h1 (by kernel_rfl)
  ·cases h;obtain⟨g,t,cs,fuel,p,h1,h2,h3,h4⟩:=laidMet.reads hL (n:= "strconv.ErrRange") (d:=Rows.laid_strconv_ErrRange) (by simp[Rows.changesPublishRow]);have hG:prog.globalNamed "strconv.ErrRange" =some 11:=by kernel_rfl
   obtain rfl:=YC (hG.symm.trans h1);have tP:(prog.globals[11]?).map (·.type)=some 104:=by kernel_rfl
   obtain rfl:=YC (tP.symm.trans h2);have eY:=World.var?_cell hG h3 0;have PQ: "*" ++ "errors.errorString" = "*errors.errorString" :=by decide
   cases fuel with
   |zero=>simp[DataW.trod]at h4|succ fuel=>
    unfold DataW.trod at h4;rw[underlying104]at h4;clear hL tM Jm h1 h2 tP h3;generalize bL:cs.toList=l at h4;have e0:cs[0]? =l[0]? :=by rw[<-bL];simp
    rw[e0]at eY;clear e0 bL;have key:∃ u v,l=[.iface u v]∧prog.typeName? 3 u=some "*errors.errorString" :=by
     unfold Rows.laid_strconv_ErrRange at h4;split at h4;all_goals first|(exfalso;rename_i heq;cases heq;done)|(exfalso;cases h4;done)|skip
     rename_i u v _;refine⟨u,v,rfl,?_⟩;cases hn:prog.typeName? 3 u with
     |none=>rw[hn]at h4;cases h4|some nm=>
      rw[hn]at h4;simp only[Z8,YX,DataW.iface.injEq]at h4;obtain⟨_,_,⟨rfl,_⟩,_⟩:=h4;rfl
    obtain⟨u,v,rfl,hu⟩:=key;obtain rfl:u=422:=typeName_ptr_named (nm:= "errors.errorString") (by rw[PQ];kernel_rfl) (by kernel_rfl) (by decide) u (by rw[PQ];exact hu);exact Kn (eY.trans rfl) (.dD _ _ v (.any v))
  ·cases h;have h1:=Lf (k:= .u8) (zs:=firstTab) (n:=256) (G:=8) (t:=284) (e:=5) (laidMet.reads hL (n:= "unicode/utf8.first") (d:=Rows.laid_unicode_utf8_first) (by simp[Rows.changesPublishRow])) (by kernel_rfl) (by kernel_rfl) (by kernel_rfl) underlying284 underlying5 (by kernel_rfl) (by kernel_rfl);have:=Sm h1 (G:=8) (by kernel_rfl);rw[show(firstTab.map fun z=>Value.int .u8 z).map AV.v=(List.range 256).map fun c=>AV.v (.int .u8 (Lib.firstT c:Nat)) by unfold firstTab;rw[Yu,Yu];rfl]at this;exact this
  ·cases h;have h4:=laidMet.reads hL (n:= "unicode/utf8.acceptRanges") (d:=Rows.laid_unicode_utf8_acceptRanges) (by simp[Rows.changesPublishRow]);rw[show(Rows.laid_unicode_utf8_acceptRanges:DataW Unit)=acceptData by kernel_rfl]at h4;have hcell:∀ i,i<16→W.cell? ⟨9,2 * i,none⟩=some (.int .u8 (Lib.accLo i:Nat))∧W.cell? ⟨9,2 * i+1,none⟩=some (.int .u8 (Lib.accHi i:Nat)):=fun i hi=>by
    obtain⟨g,t,cs,fuel,p,hg,tP,PT,hd⟩:=h4;have hG:prog.globalNamed "unicode/utf8.acceptRanges" =some 9:=by kernel_rfl
    obtain rfl:=YC (hG.symm.trans hg);have aej:(prog.globals[9]?).map (·.type)=some 396:=by kernel_rfl
    obtain rfl:=YC (aej.symm.trans tP);obtain⟨amN,d,q,Ph,he⟩:=array_elem underlying396 hd i hi;simp only[X6,List.getElem?_range hi,ZJ,ZV]at Ph;subst Ph;have c2:prog.cellsOf 395=2:=by kernel_rfl
    rw[c2]at he;have bY:=ints_of_struct underlying395 (fun j f hj=>by
     match j,hj with
     |0,hj=>simp at hj;subst hj;exact⟨underlying5,rfl,by kernel_rfl⟩|1,hj=>simp at hj;subst hj;exact⟨underlying5,rfl,by kernel_rfl⟩|j+2,hj=>simp at hj) (by rw[c2];rfl) he
    have e0:=Zk (·[0]?) bY;have e1:=Zk (·[1]?) bY;simp only[YV,YE]at e0 e1;constructor
    .rw[World.var?_cell hG PT (2*i),<-Zi];simpa[Xf]using e0
    .rw[World.var?_cell hG PT (2*i+1),<-Zi];simpa[Xf]using e1
   have hl:((List.range 16).flatMap fun i=>[AV.v (.int .u8 (Lib.accLo i:Nat)),AV.v (.int .u8 (Lib.accHi i:Nat))])=(((List.range 16).flatMap fun i=>[(Value.int .u8 (Lib.accLo i:Nat)),(Value.int .u8 (Lib.accHi i:Nat))]).map AV.v):=by kernel_rfl
   rw[hl];refine Sn fun k hk=>?_;have cN:k<32:=hk
   have key:∀i:Fin 16,((List.range 16).flatMap fun i=>[(Value.int .u8 (Lib.accLo i:Nat)),(Value.int .u8 (Lib.accHi i:Nat))])[2*i.val]? =some (Value.int .u8 (Lib.accLo i.val:Nat))/\
     ((List.range 16).flatMap fun i=>[(Value.int .u8 (Lib.accLo i:Nat)),(Value.int .u8 (Lib.accHi i:Nat))])[2*i.val+1]? =some (Value.int .u8 (Lib.accHi i.val:Nat)):=by
    rintro⟨i,hi⟩;have:i=0\/i=1\/i=2\/i=3\/i=4\/i=5\/i=6\/i=7\/i=8\/i=9\/i=10\/i=11\/i=12\/i=13\/i=14\/i=15:=by omega
    rcases this with rfl|rfl|rfl|rfl|rfl|rfl|rfl|rfl|rfl|rfl|rfl|rfl|rfl|rfl|rfl|rfl<;>exact⟨rfl,rfl⟩
   obtain⟨k1,k2⟩:=key ⟨k / 2,by omega⟩;obtain⟨c1,c2⟩:=hcell (k / 2) (by omega);rcases Nat.mod_two_eq_zero_or_one k with e|e
   .rw[show 2*(k / 2)=k by omega]at c1 k1;rw[c1,<-k1,ZX hk]
   .rw[show 2*(k / 2)+1=k by omega]at c2 k2;rw[c2,<-k2,ZX hk]
  .cases h
 .exact Lf (G:=3) Jm (by rfl) (by kernel_rfl) (t:=315) (n:=20) (e:=56) (by kernel_rfl) underlying315 underlying56 (by kernel_rfl) (by kernel_rfl)
 ·obtain⟨g,t,cs,fuel,p,h1,h2,h3,h4⟩:=Jm;have hG:prog.globalNamed "internal/strconv.uint64pow10" =some 3:=by kernel_rfl
  simp only[World.var?,hG,Option.bind_some]at h3;split at h3
  .rename_i e;exact(ZW.1 e).1
  .cases h3
