/- CatalogDigests, walked. -/
import Derived.Test.YtomhopcnkicknaaGreatDoorXd
import Derived.Test.YtomhopcnkicknaaGreatDoorXe
import Derived.Test.YtomhopcnkicknaaGreatDoorHi
import Derived.Test.YtomhopcnkicknaaGreatDoorIk
import Derived.Test.YtomhopcnkicknaaGreatDoorEa
import Derived.Test.YtomhopcnkicknaaGreatDoorSxB
import Derived.Test.YtomhopcnkicknaaGreatDoorRows
import Derived.Lib.LaidU8
import Derived.Shelf.Vars
import Derived.HandedShaped
set_option linter.unusedSimpArgs false
set_option linter.unusedVariables false
set_option maxRecDepth 100000
set_option maxHeartbeats 16000000
namespace Go.Proofs.YtomhopcnkicknaaGreatDoor
open _root_.Go.Proofs.Tryz
open Go.Sx Go.Proofs Go.Tb Go.RowKit
theorem Qb{M:Mem}{ag n:Nat}{rows:List (List AV)}{v:Value}(hn:rows.length=n)(h:R M (.sl false ag rows) v):
  ∃ a cap,v= .slice a n cap∧∀ i (hi:i<n),∃ bb off,a=some ⟨bb,off,none⟩∧∃ cs:List Value,RL M (rows.getD i []) cs∧cs.length=ag∧∀ j (hj:j<cs.length),M bb (off+i * ag+j)=some cs[j]:=by
 subst hn
 obtain⟨a,cap,e,hr⟩:=QB h
 refine⟨a,cap,e,fun i hi=> ?_⟩
 have e2:rows.getD i []=rows[i]:=by rw[ZY,ZX hi];rfl
 rw[e2]
 exact hr i hi
theorem getD_map{α:Type}[Inhabited α](g:α→List AV){l:List α}{i:Nat}(h:i<l.length):(l.map g).getD i []=g (l.getD i default):=by
 rw[getD_eq h,ZY,YK,ZX h];rfl
theorem E9{M:Mem}{l:List aj}{v:Value}(h:R M (.sl false 18 (l.map aj.cells)) v):∃ a cap,v= .slice a l.length cap∧Eb M a l:=by
 obtain⟨a,cap,e,h⟩:=Qb (n:=l.length) (by simp) h
 exact⟨a,cap,e,fun i hi=>by have:=h i hi;rwa [getD_map aj.cells hi]at this⟩
theorem aaG(C:az)(hC:Sx.Pure prog 9 [.agg C.cells] (iv (iM C)))(h:iM C≠0):Sx.Pure prog 5 [.agg C.cells] (.aE [uh (sS C),iv (iM C)]):=by
 rw[show sS C=0 from Z6 h]
 generalize iM C=E at *
 refine k5.p fun σ=> ?_
 repeat'(first|exact .nil|refine .k0 ?_|refine .k1 ?_|refine .k2 ?_|refine .k6 ?_|refine .k7 ?_|refine .k9 ?_|(refine .cd ?_ ?_<;>(intro hc;skip))|refine .r1 ?_ ?_|(refine .l1 ?_;intro b)|(refine .m1 ?_ ?_;intro b)|(refine .m2 ?_ ?_;intro hlen)|refine .an rfl (by intro aq;exact hC) ?_ ?_|fail)
 all_goals(try simp only[BL]at *)
 all_goals first|exact absurd hc h|(show Sx.Fin _ _ _ _;(refine Sx.Fin.wk Zs ?_;repeat' first|exact .refl _|fail))
theorem aaE(C:az)(hC:Sx.Pure prog 9 [.agg C.cells] (iv (iM C))):Sx.Pure prog 5 [.agg C.cells] (.aE [uh (sS C),iv (iM C)]):=by
 by_cases h:iM C=0
 rotate_left
 ·exact aaG C hC h
 have hD:=Lj h
 have hl:(iP C).data.toList.length≤1000000000:=by
  obtain⟨h1,h2⟩:=we hD 3 (ZR 3)
  have h3:=aNA (l:=fO C 3) h1
  have h4:(iP C).data.toList.length=(iP C).size:=Zi
  rw[h4];unfold iP;omega
 rw[show sS C=_ from Z3 h,h]
 rw[h]at hC
 have hr:∀ (M:Mem) (x:Int),R M (.aE [uh x,iv 0]) (.tuple #[.int .u64 x,.int .i64 0]):=fun M x=>R.CY (cs:=[.int .u64 x,.int .i64 0]) (RL.cons (.v _) (RL.cons (.v _) RL.nil))
 refine Pure.qp fun M w0 w σ cs hI hR=> ?_
 obtain⟨K,hK,hc⟩:=Go.Proofs.YtomhopcnkicknaaGreatDoor.RL.Ey hR
 rw[hK]
 have gC:=hc
 obtain⟨vT,d,hd,hT,hc⟩:=hc.bL
 obtain⟨v1,d1,hd1,h1,hc⟩:=hc.bL
 obtain⟨v2,d2,jo,h2,hc⟩:=hc.bL
 obtain⟨v3,d3,hd3,h3,hc⟩:=hc.bL
 have hd4:=hc.nR
 obtain⟨aT,cT,rfl,rT⟩:=Qb (n:=C.tables.length) (by simp) hT
 obtain⟨a1,c1,rfl,r1⟩:=E9 h1
 obtain⟨a2,c2,rfl,r2⟩:=E9 h2
 obtain⟨a3,c3,rfl,r3⟩:=E9 h3
 obtain⟨ad,MH⟩:∃ ad:Nat→Option Addr,ad=fun n=>if n=0 then a1 else if n=1 then a2 else a3:=⟨_,rfl⟩
 obtain⟨cp,hcp⟩:∃ cp:Nat→Nat,cp=fun n=>if n=0 then c1 else if n=1 then c2 else c3:=⟨_,rfl⟩
 have e:K.toList=[.slice aT C.tables.length cT,.slice (ad 0) (LL C 0).length (cp 0),.slice (ad 1) (LL C 1).length (cp 1),.slice (ad 2) (LL C 2).length (cp 2)]:=by
  rw[hd,hd1,jo,hd3,hd4,MH,hcp];rfl
 have e2:K= #[.slice aT C.tables.length cT,.slice (ad 0) (LL C 0).length (cp 0),.slice (ad 1) (LL C 1).length (cp 1),.slice (ad 2) (LL C 2).length (cp 2)]:=Array.toList_inj.1 e
 rw[e]at gC
 rw[e2]
 exact(aaH C _ hC hD (acF _ true hl) M w0 w σ hI aT cT ad cp gC (fun i hi=>by have:=rT i hi;rwa [getD_map aP.cells hi]at this) (fun n=>by
  unfold Eb LL;rw[MH]
  by_cases h0:n=0
  ·simp only[Z3 h0];exact r1
  ·simp only[Z6 h0]
   by_cases h1:n=1
   ·simp only[Z3 h1];exact r2
   ·simp only[Z6 h1];exact r3)).mono fun e w' h=>⟨⟨_,h.1,hr M _⟩,h.2⟩
theorem WX(c:az)(gC:c.Fits):Sx.Pure prog 3 [.agg c.cells] (.v (.bool true)):=by
 by_cases hs:Small c
 rotate_left
 ·have hS:=aLB hs
  refine k3.p fun σ=> ?_
  repeat'(first|exact .nil|refine .k0 ?_|refine .k1 ?_|refine .k2 ?_|refine .k7 ?_|refine .k9 ?_|(refine .cd ?_ ?_<;>(intro hc;skip))|refine .r1 ?_ ?_|(refine .m1 ?_ ?_;intro b)|refine .an rfl (by intro aq;first|exact hS|fail) ?_ ?_|fail)
  all_goals(try simp only[BL]at *)
  all_goals first|(show Sx.Fin _ _ _ _;refine Sx.Fin.wk Zs (Wk.HV (by simp));done)|(exfalso;exact absurd hc (by decide))
 have hS:=aLC hs
 have hA:=aaE c (WZ aMm ahh c hs gC)
 have hB:=aaF c hs (W0 Q6 ahg c hs gC)
 generalize iM c=E at *
 generalize sS c=H at *
 refine k3.p fun σ=> ?_
 repeat'(first|exact .nil|refine .k0 ?_|refine .k1 ?_|refine .k2 ?_|refine .k4 ?_|refine .k7 ?_|refine .k9 ?_|(refine .cd ?_ ?_<;>(intro hc;skip))|refine .r1 ?_ ?_|(refine .m1 ?_ ?_;intro b)|refine .an rfl (by intro aq;first|exact hS|exact hA|exact hB|exact abg|fail) ?_ ?_|fail)
 all_goals(try simp only[BL]at *)
 all_goals first|(show Sx.Fin _ _ _ _;refine Sx.Fin.wk Zs (Wk.HV (by simp));done)|fail
end Go.Proofs.YtomhopcnkicknaaGreatDoor
namespace Go.Proofs.YtomhopcnkicknaaGreatDoor
open _root_.Go.Proofs.Tryz
open Go.Sx Go.Proofs
theorem own:ownKnob prog.godebug=none:=by kernel_rfl
theorem laidOut:laidOutB prog=true:=by kernel_rfl
section
variable {H:Type}{enc:TypeId×Value→H}{W:World}
theorem o3(n:Nat):Rd enc prog W n 3 fun l=>∃ z:Int,l=[iv z]:=(Rd.int underlying3).mono fun l ⟨z,h,_⟩=>⟨z,h⟩
theorem nM(n:Nat):Rd enc prog W n 9 fun l=>∃ s:ae,l=[sv s]∧s.size≤reachBytes:=Rd.str underlying9
theorem ahI:∀ n:Nat,Rd enc prog W n 37 fun l=>∃ v:fe,l=v.cells∧v.s.size≤reachBytes
 |0=>Rd.zero _ _
 |n+1=>(Rd.struct underlying37 (by kernel_rfl) (.cons (o3 n) (.cons (o3 n) (.cons (nM n) .nil)))).mono (by
  rintro _ ⟨_,_,rfl,⟨a,rfl⟩,_,_,rfl,⟨b,rfl⟩,_,_,rfl,⟨c,rfl,hc⟩,rfl⟩
  exact⟨⟨a,b,c⟩,rfl,hc⟩)
theorem ahJ:∀ n:Nat,Rd enc prog W n 39 fun l=>∃ w:mh,l=w.cells
 |0=>Rd.zero _ _
 |n+1=>(Rd.struct underlying39 (by kernel_rfl) (.cons (o3 n) (.cons (o3 n) .nil))).mono (by
  rintro _ ⟨_,_,rfl,⟨a,rfl⟩,_,_,rfl,⟨b,rfl⟩,rfl⟩
  exact⟨⟨a,b⟩,rfl⟩)
theorem ahC:∀ n:Nat,Rd enc prog W n 135 fun l=>∃ f:ar,l=f.cells
 |0=>Rd.zero _ _
 |n+1=>(Rd.struct underlying135 (by kernel_rfl) (.cons (nM n) (.cons (o3 n) .nil))).mono (by
  rintro _ ⟨_,_,rfl,⟨a,rfl,_⟩,_,_,rfl,⟨b,rfl⟩,rfl⟩
  exact⟨⟨a,b⟩,rfl⟩)
theorem P2:∀ n:Nat,Rd enc prog W n 33 fun l=>∃ u:List ar,l=[.sl false 2 (u.map ar.cells)]
 |0=>Rd.zero _ _
 |n+1=>(Rd.slice underlying33 (ag:=2) (by kernel_rfl) (by decide) (ahC n)).mono (by
  rintro _ ⟨rows,rfl,_,h⟩
  obtain⟨ls,rfl,_⟩:=wL (f:=ar.cells) (W:=fun _=>True) (fun r hr=>by obtain⟨x,h⟩:=h r hr;exact⟨x,h,trivial⟩)
  exact⟨ls,rfl⟩)
theorem P1:∀ n:Nat,Rd enc prog W n 35 fun l=>∃ t:Ty,l=t.cells∧t.of.size≤reachBytes
 |0=>Rd.zero _ _
 |n+1=>(Rd.struct underlying35 (by kernel_rfl) (.cons (o3 n) (.cons (P2 n) (.cons (nM n) .nil)))).mono (by
  rintro _ ⟨_,_,rfl,⟨a,rfl⟩,_,_,rfl,⟨b,rfl⟩,_,_,rfl,⟨c,rfl,hc⟩,rfl⟩
  exact⟨⟨a,b,c⟩,rfl,hc⟩)
theorem aNc{l:List Ex}{k:Nat}(h:∀ y∈l,y.wt≤k):Ex.xh l≤k:=by
 induction l with
 |nil=>exact Z1 _
 |cons x l ih=>
  have h1:=h x (by simp)
  have h2:=ih fun y hy=>h y (by simp[hy])
  rw[Ex.xh];omega
mutual
theorem P0:∀ n:Nat,Rd enc prog W n 42 fun l=>∃ x:Ex,l=x.row∧x.wt≤2 ^ 60
 |0=>Rd.zero _ _
 |n+1=>(Rd.struct underlying42 (by kernel_rfl) (.cons (o3 n) (.cons (nM n) (.cons (nM n) (.cons (nM n) (.cons (ahI n) (.cons (P2 n) (.cons (o3 n) (.cons (ahJ n) (.cons (ahB n) .nil)))))))))).mono (by
  rintro _ ⟨_,_,rfl,⟨k,rfl⟩,_,_,rfl,⟨o,rfl,ho⟩,_,_,rfl,⟨nm,rfl,hn⟩,_,_,rfl,⟨t,rfl,ht⟩,_,_,rfl,⟨v,rfl,hv⟩,_,_,rfl,⟨u,rfl⟩,_,_,rfl,⟨p,rfl⟩,_,_,rfl,⟨w,rfl⟩,_,_,rfl,⟨ks,rfl,vP⟩,rfl⟩
  refine⟨⟨k,o,nm,t,v,u,p,w,ks⟩,(Ex.bP _).symm ▸ rfl,?_⟩
  rw[Ex.wt]
  have:=aNc vP
  have hr:reachBytes≤2 ^ 47:=by decide
  omega)
theorem ahB:∀ n:Nat,Rd enc prog W n 40 fun l=>∃ ks:List Ex,l=[.sl false 12 (ks.map Ex.row)]∧∀ y∈ks,y.wt≤2 ^ 60
 |0=>Rd.zero _ _
 |n+1=>(Rd.slice underlying40 (ag:=12) (by kernel_rfl) (by decide) (P0 n)).mono (by
  rintro _ ⟨rows,rfl,_,h⟩
  obtain⟨ls,rfl,hl⟩:=wL (f:=Ex.row) (W:=fun y=>y.wt≤2 ^ 60) (fun r hr=>h r hr)
  exact⟨ls,rfl,hl⟩)
end
theorem ahE:∀ n:Nat,Rd enc prog W n 75 fun l=>∃ f:bZ,l=f.cells
 |0=>Rd.zero _ _
 |n+1=>(Rd.struct underlying75 (by kernel_rfl) (.cons (nM n) (.cons (P1 n) .nil))).mono (by
  rintro _ ⟨_,_,rfl,⟨a,rfl,_⟩,_,_,rfl,⟨b,rfl,hb⟩,rfl⟩
  exact⟨⟨a,b⟩,rfl⟩)
theorem ahF:∀ n:Nat,Rd enc prog W n 50 fun l=>∃ fs:List bZ,l=[.sl false 4 (fs.map bZ.cells)]
 |0=>Rd.zero _ _
 |n+1=>(Rd.slice underlying50 (ag:=4) (by kernel_rfl) (by decide) (ahE n)).mono (by
  rintro _ ⟨rows,rfl,_,h⟩
  obtain⟨ls,rfl,_⟩:=wL (f:=bZ.cells) (W:=fun _=>True) (fun r hr=>by obtain⟨x,h⟩:=h r hr;exact⟨x,h,trivial⟩)
  exact⟨ls,rfl⟩)
theorem ahG:∀ n:Nat,Rd enc prog W n 52 fun l=>∃ t:aP,l=t.cells
 |0=>Rd.zero _ _
 |n+1=>(Rd.struct underlying52 (by kernel_rfl) (.cons (nM n) (.cons (nM n) (.cons (ahF n) (.cons (o3 n) .nil))))).mono (by
  rintro _ ⟨_,_,rfl,⟨a,rfl,ha⟩,_,_,rfl,⟨b,rfl,hb⟩,_,_,rfl,⟨fs,rfl⟩,_,_,rfl,⟨k,rfl⟩,rfl⟩
  exact⟨⟨a,b,fs,k⟩,rfl⟩)
def Ec(f:aj):Prop:=f.name.size≤2 ^ 60∧f.body.wt≤2 ^ 60
theorem abA(f:aj):f.cells=[sv f.name,sv f.cv]++f.type.cells++f.body.row++[iv f.version]:=by rw[Ex.bP];unfold aj.cells Ty.cells;rw[Ex.lj];rfl
theorem ahD:∀ n:Nat,Rd enc prog W n 44 fun l=>∃ f:aj,l=f.cells∧Ec f
 |0=>Rd.zero _ _
 |n+1=>(Rd.struct underlying44 (by kernel_rfl) (.cons (nM n) (.cons (nM n) (.cons (P1 n) (.cons (P0 n) (.cons (o3 n) .nil)))))).mono (by
  rintro _ ⟨_,_,rfl,⟨a,rfl,ha⟩,_,_,rfl,⟨b,rfl,hb⟩,_,_,rfl,⟨t,rfl,ht⟩,_,_,rfl,⟨x,rfl,hx⟩,_,_,rfl,⟨v,rfl⟩,rfl⟩
  exact⟨⟨a,b,t,x,v⟩,by rw[abA];simp,ZJ ha (by decide),hx⟩)
theorem ahH:∀ n:Nat,Rd enc prog W n 22 fun l=>∃ ts:List aP,l=[.sl false 4 (ts.map aP.cells)]
 |0=>Rd.zero _ _
 |n+1=>(Rd.slice underlying22 (ag:=4) (by kernel_rfl) (by decide) (ahG n)).mono (by
  rintro _ ⟨rows,rfl,_,h⟩
  obtain⟨ls,rfl,_⟩:=wL (f:=aP.cells) (W:=fun _=>True) (fun r hr=>by obtain⟨x,h⟩:=h r hr;exact⟨x,h,trivial⟩)
  exact⟨ls,rfl⟩)
theorem Il:∀ n:Nat,Rd enc prog W n 23 fun l=>∃ fs:List aj,l=[.sl false 18 (fs.map aj.cells)]∧∀ f∈fs,Ec f
 |0=>Rd.zero _ _
 |n+1=>(Rd.slice underlying23 (ag:=18) (by kernel_rfl) (by decide) (ahD n)).mono (by
  rintro _ ⟨rows,rfl,_,h⟩
  obtain⟨ls,rfl,hl⟩:=wL (f:=aj.cells) (W:=Ec) (fun r hr=>h r hr)
  exact⟨ls,rfl,hl⟩)
theorem ahA:∀ n:Nat,Rd enc prog W n 25 fun l=>∃ c:az,l=c.cells∧c.Fits
 |0=>Rd.zero _ _
 |n+1=>(Rd.struct underlying25 (by kernel_rfl) (.cons (ahH n) (.cons (Il n) (.cons (Il n) (.cons (Il n) .nil))))).mono (by
  rintro _ ⟨_,_,rfl,⟨ts,rfl⟩,_,_,rfl,⟨fs,rfl,hf⟩,_,_,rfl,⟨ds,rfl,_⟩,_,_,rfl,⟨ps,rfl,_⟩,rfl⟩
  exact⟨⟨ts,fs,ds,ps⟩,rfl,fun f h=>(hf f h).1,fun f h=>(hf f h).2⟩)
end
end Go.Proofs.YtomhopcnkicknaaGreatDoor
namespace Go.Proofs.YtomhopcnkicknaaGreatDoor
open _root_.Go.Proofs.Tryz
open Go.Sx Go.Proofs Go.Lib
theorem PC{W:World}{g:Nat}{x:AV}{v:Value}(hc:W.cell? ⟨g,0,none⟩=some v)(h:R (M0 W) x v):R (M0 W) (.pc [x]) (.pointer (some ⟨g,0,none⟩)):=by
 refine .pc [x] g 0 (fun _=>v) (fun k hk=> ?_) (fun k hk=> ?_)
 ·obtain rfl:k=0:=by simpa using hk
  exact hc
 ·obtain rfl:k=0:=by simpa using hk
  exact h
def wg(s:ae):DataW Unit:= .lit (.string s.data.toList)
theorem aLS{enc:TypeId×Value→Unit}{P:Program}[Glob P]{W:World}{t e:TypeId}{fuel:Nat}{held:Bool}{cs:List Value}{p:List MemPlace}{ss:List ae}(ht:P.underlying t=some (.slice e))(he:P.underlying e=some .string)(hce:P.cellsOf e=1)
  (h0:ss≠[]) (hx:DataW.trod enc P W 0 (fun _=>true) held fuel t cs=some (.slice (ss.map wg) [],p)):∃ v,cs=[v]∧R (M0 W) (.sl false 1 (ss.map cq)) v:=by
 rcases DataW.trod_slice ht hx with⟨_,h⟩|⟨a,len,cap,elems,rest,m,rfl,rfl,fM,_,hlc,vJ,hlen,F7,iu,_⟩
 ·cases h
 ·simp only[YH,DataW.slice.injEq]at fM
  have MW:=fM.1.1
  have hl:elems.length=ss.length:=by
   have:=Zy List.length MW
   simpa using this.symm
  have yT:0<ss.length:=Yl.2 h0
  have cell:∀ i (hi:i<ss.length),W.cell? (a.add i)=some (.string (ss.getD i ⟨#[]⟩)):=by
   intro i hi
   have h1:=F7 i (by omega)
   have M6:i<elems.length:=by omega
   rw[ZX M6,Option.bind_eq_some_iff]at h1
   obtain⟨cs',hc,pV⟩:=h1
   obtain⟨s,rfl,hs,_⟩:=Q7 he pV
   obtain⟨g1,g2⟩:=EM hc
   have g3:=g2 0 (by omega)
   have e1:(elems.map (·.1))[i]'(by simpa using M6)=wg (ss[i]'hi):=by
    have:(ss.map wg)[i]'(by simpa using hi)=wg (ss[i]'hi):=by rw[ZF]
    rw[← this]
    exact List.getElem_of_eq MW.symm _
   rw[ZF,hs]at e1
   simp only[wg,DataW.lit.injEq,Lit.string.injEq]at e1
   have e2:s=ss[i]'hi:=j9 e1
   rw[hce,YO]at g3
   have e3:(a.add i).add 0=a.add i:=by rw[Go.Deep.add_add];rfl
   rw[e3]at g3
   rw[g3,e2,ZY,ZX hi];rfl
  have pT:a.spot=none:=by
   have:=IG (cell 0 yT)
   simpa[Addr.add]using this
  obtain⟨b,o,s⟩:=a
  simp only at pT
  subst pT
  refine⟨_,rfl,?_⟩
  have oI:(ss.map cq).length=len:=by rw[Z7];omega
  have:=R.mD (M:=M0 W) (b:=b) (off:=o) (cap:=cap) (ag:=1) (rows:=ss.map cq) (cs:=fun k=> .string (ss.getD k ⟨#[]⟩)) ⟨fun i hi=> ?_,fun k hk=> ?_,fun i hi j hj=> ?_⟩ (by omega) vJ false
  ·rw[oI]at this;exact this
  ·rw[ZF];rfl
  ·have:=cell k (by simpa using hk)
   rw[Addr.add_lit]at this
   exact this
  ·have dw:i<ss.length:=by simpa using hi
   simp only[ZF,cq,Z8,Z5]at hj ⊢
   obtain rfl:j=0:=by omega
   rw[ZY,YO,YN,ZX dw]
   exact .v _
theorem Fu{W:World}{name:String}{G:Nat}{d:DataW Unit}{ss:List ae}(h:VarReads prog W name d)(hg:prog.globalNamed name=some G)(GX:(prog.globals[G]?).map (·.type)=some 67)(hd:d= .slice (ss.map wg) [])(h0:ss≠[]):
  R (M0 W) (.pc [.sl false 1 (ss.map cq)]) (.pointer (some ⟨G,0,none⟩)):=by
 obtain⟨g,t,cs,fuel,p,h1,h2,h3,h4⟩:=h
 obtain rfl:=Yn (hg.symm.trans h1)
 obtain rfl:=Yn (GX.symm.trans h2)
 rw[hd]at h4
 obtain⟨v,hv,hR⟩:=aLS underlying67 underlying9 (by kernel_rfl) h0 h4
 refine PC ?_ hR
 rw[World.var?_cell hg h3 0]
 have:=Zy (·[0]?) hv
 simpa using this
theorem acp{W:World}(hL:laidMet prog Rows.catalogDigestsRow.laid W)(oM:W.ShapedOpen prog):Ee prog W:=by
 refine⟨fun g l h=> ?_,?_,?_⟩
 ·simp only[Glob.av]at h
  split at h
  ·cases h
   exact Fu (laidMet.reads hL (n:= "asof/checker.aggregates") (d:=Rows.laid_asof_checker_aggregates) (by simp[Rows.catalogDigestsRow])) (by kernel_rfl) (by kernel_rfl) (by rfl) (by decide)
  ·cases h
   exact Fu (laidMet.reads hL (n:= "asof/checker.unary") (d:=Rows.laid_asof_checker_unary) (by simp[Rows.catalogDigestsRow])) (by kernel_rfl) (by kernel_rfl) (by rfl) (by decide)
  ·cases h
   exact Fu (laidMet.reads hL (n:= "asof/checker.binary") (d:=Rows.laid_asof_checker_binary) (by simp[Rows.catalogDigestsRow])) (by kernel_rfl) (by kernel_rfl) (by rfl) (by decide)
  ·cases h
   obtain⟨m,hm⟩:=cell_of_shapedOpen_int (g:=4) (zero:= #[.int .i64 0]) (t:=3) oM (Yq (by kernel_rfl)) (by kernel_rfl) rfl (by kernel_rfl) (by kernel_rfl) underlying3
   exact PC hm (.ai .i64 m)
  ·cases h
 ·obtain⟨g,t,cs,fuel,p,h1,h2,h3,h4⟩:=laidMet.reads hL (n:= "internal/strconv.uint64pow10") (d:=Rows.laid_internal_strconv_uint64pow10) (by simp[Rows.catalogDigestsRow])
  have hG:prog.globalNamed "internal/strconv.uint64pow10" =some 3:=by kernel_rfl
  obtain rfl:=Yn (hG.symm.trans h1)
  have GX:(prog.globals[3]?).map (·.type)=some 180:=by kernel_rfl
  obtain rfl:=Yn (GX.symm.trans h2)
  have hd:(Rows.laid_internal_strconv_uint64pow10:DataW Unit)=tabData .u64 pow10Tab:=by rfl
  rw[hd]at h4
  have:=cells_of_tab (n:=20) (by kernel_rfl) (e:=27) (by kernel_rfl) (by kernel_rfl) (by kernel_rfl) h4
  unfold TabIs
  rw[h3,← this]
 ·obtain⟨g,t,cs,fuel,p,h1,h2,h3,h4⟩:=laidMet.reads hL (n:= "internal/strconv.uint64pow10") (d:=Rows.laid_internal_strconv_uint64pow10) (by simp[Rows.catalogDigestsRow])
  have hG:prog.globalNamed "internal/strconv.uint64pow10" =some 3:=by kernel_rfl
  simp only[World.var?,hG,Option.bind_some]at h3
  split at h3
  ·rename_i e
   exact(Z0.1 e).1
  ·cases h3
end Go.Proofs.YtomhopcnkicknaaGreatDoor
