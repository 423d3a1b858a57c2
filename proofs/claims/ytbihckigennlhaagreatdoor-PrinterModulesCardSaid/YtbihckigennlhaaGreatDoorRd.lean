/- How the arguments of the printer's laws read. -/
import Derived.Test.YtbihckigennlhaaGreatDoorPl
import Derived.Test.YtbihckigennlhaaGreatDoorSxB
import Derived.Test.YtbihckigennlhaaGreatDoorShelfB
import Derived.Test.YtbihckigennlhaaGreatDoorYg
import Derived.Test.YtbihckigennlhaaGreatDoorZa
import Derived.Test.YtbihckigennlhaaGreatDoorZf
import Derived.Test.YtbihckigennlhaaGreatDoorTm
import Derived.Test.YtbihckigennlhaaGreatDoorRows
import Derived.Lib.LaidU8
import Derived.LaidLaws
import Derived.Shelf.Vars
import Derived.HandedShaped
set_option linter.unusedSimpArgs false
set_option linter.unusedVariables false
set_option maxRecDepth 100000
namespace Go.Proofs.YtbihckigennlhaaGreatDoor
open Go.Sx Go.Proofs
theorem own:ownKnob Tryz.prog.godebug=none:=by kernel_rfl
theorem laidOut:laidOutB Tryz.prog=true:=by kernel_rfl
section
variable {H:Type}{enc:TypeId×Value→H}{W:World}
theorem tL(n:Nat):Rd enc Tryz.prog W n 3 fun l=>∃ z:Int,l=[iv z]:=(Rd.int Tryz.underlying3).mono fun l ⟨z,h,_⟩=>⟨z,h⟩
theorem yU(n:Nat):Rd enc Tryz.prog W n 9 fun l=>∃ s:af,l=[sv s]∧s.size≤reachBytes:=Rd.str Tryz.underlying9
theorem rd_val:∀ n:Nat,Rd enc Tryz.prog W n 25 fun l=>∃ v:ek,l=v.cells∧v.s.size≤reachBytes
 |0=>Rd.zero _ _
 |n+1=>(Rd.struct Tryz.underlying25 (by kernel_rfl) (.cons (tL n) (.cons (tL n) (.cons (yU n) .nil)))).mono (by
  rintro _ ⟨_,_,rfl,⟨a,rfl⟩,_,_,rfl,⟨b,rfl⟩,_,_,rfl,⟨c,rfl,hc⟩,rfl⟩
  exact⟨⟨a,b,c⟩,rfl,hc⟩)
theorem ad4:∀ n:Nat,Rd enc Tryz.prog W n 28 fun l=>∃ w:fq,l=w.cells
 |0=>Rd.zero _ _
 |n+1=>(Rd.struct Tryz.underlying28 (by kernel_rfl) (.cons (tL n) (.cons (tL n) .nil))).mono (by
  rintro _ ⟨_,_,rfl,⟨a,rfl⟩,_,_,rfl,⟨b,rfl⟩,rfl⟩
  exact⟨⟨a,b⟩,rfl⟩)
theorem adY:∀ n:Nat,Rd enc Tryz.prog W n 77 fun l=>∃ f:aq,l=f.cells
 |0=>Rd.zero _ _
 |n+1=>(Rd.struct Tryz.underlying77 (by kernel_rfl) (.cons (yU n) (.cons (tL n) .nil))).mono (by
  rintro _ ⟨_,_,rfl,⟨a,rfl,_⟩,_,_,rfl,⟨b,rfl⟩,rfl⟩
  exact⟨⟨a,b⟩,rfl⟩)
theorem adS:∀ n:Nat,Rd enc Tryz.prog W n 26 fun l=>∃ u:List aq,l=[.sl false 2 (u.map aq.cells)]
 |0=>Rd.zero _ _
 |n+1=>(Rd.slice Tryz.underlying26 (ag:=2) (by kernel_rfl) (by decide) (adY n)).mono (by
  rintro _ ⟨rows,rfl,_,h⟩
  obtain⟨ls,rfl,_⟩:=Gf (f:=aq.cells) (W:=fun _=>True) (fun r hr=>by obtain⟨x,h⟩:=h r hr;exact⟨x,h,trivial⟩)
  exact⟨ls,rfl⟩)
theorem aDL:∀ n:Nat,Rd enc Tryz.prog W n 51 fun l=>∃ t:Ty,l=t.cells∧t.of.size≤reachBytes
 |0=>Rd.zero _ _
 |n+1=>(Rd.struct Tryz.underlying51 (by kernel_rfl) (.cons (tL n) (.cons (adS n) (.cons (yU n) .nil)))).mono (by
  rintro _ ⟨_,_,rfl,⟨a,rfl⟩,_,_,rfl,⟨b,rfl⟩,_,_,rfl,⟨c,rfl,hc⟩,rfl⟩
  exact⟨⟨a,b,c⟩,rfl,hc⟩)
theorem azD{l:List Ex}{k:Nat}(h:∀ y∈l,y.wt≤k):Ex.uh l≤k:=by
 induction l with
 |nil=>exact ZK _
 |cons x l ih=>
  have h1:=h x (by simp)
  have h2:=ih fun y hy=>h y (by simp[hy])
  rw[Ex.uh];omega
mutual
theorem aJK:∀ n:Nat,Rd enc Tryz.prog W n 31 fun l=>∃ x:Ex,l=x.row∧x.wt≤2 ^ 60
 |0=>Rd.zero _ _
 |n+1=>(Rd.struct Tryz.underlying31 (by kernel_rfl) (.cons (tL n) (.cons (yU n) (.cons (yU n) (.cons (yU n) (.cons (rd_val n) (.cons (adS n) (.cons (tL n) (.cons (ad4 n) (.cons (adX n) .nil)))))))))).mono (by
  rintro _ ⟨_,_,rfl,⟨k,rfl⟩,_,_,rfl,⟨o,rfl,ho⟩,_,_,rfl,⟨nm,rfl,hn⟩,_,_,rfl,⟨t,rfl,ht⟩,_,_,rfl,⟨v,rfl,hv⟩,_,_,rfl,⟨u,rfl⟩,_,_,rfl,⟨p,rfl⟩,_,_,rfl,⟨w,rfl⟩,_,_,rfl,⟨ks,rfl,vm⟩,rfl⟩
  refine⟨⟨k,o,nm,t,v,u,p,w,ks⟩,(Ex.bX _).symm ▸ rfl,?_⟩
  rw[Ex.wt]
  have:=azD vm
  have hr:reachBytes≤2 ^ 47:=by decide
  omega)
theorem adX:∀ n:Nat,Rd enc Tryz.prog W n 29 fun l=>∃ ks:List Ex,l=[.sl false 12 (ks.map Ex.row)]∧∀ y∈ks,y.wt≤2 ^ 60
 |0=>Rd.zero _ _
 |n+1=>(Rd.slice Tryz.underlying29 (ag:=12) (by kernel_rfl) (by decide) (aJK n)).mono (by
  rintro _ ⟨rows,rfl,_,h⟩
  obtain⟨ls,rfl,hl⟩:=Gf (f:=Ex.row) (W:=fun y=>y.wt≤2 ^ 60) (fun r hr=>h r hr)
  exact⟨ls,rfl,hl⟩)
end
theorem aFG:∀ n:Nat,Rd enc Tryz.prog W n 83 fun l=>∃ f:dX,l=f.cells∧f.type.of.size≤2 ^ 59
 |0=>Rd.zero _ _
 |n+1=>(Rd.struct Tryz.underlying83 (by kernel_rfl) (.cons (yU n) (.cons (aDL n) .nil))).mono (by
  rintro _ ⟨_,_,rfl,⟨a,rfl,_⟩,_,_,rfl,⟨b,rfl,hb⟩,rfl⟩
  exact⟨⟨a,b⟩,rfl,YG hb (by decide)⟩)
theorem aFH:∀ n:Nat,Rd enc Tryz.prog W n 68 fun l=>∃ fs:List dX,l=[.sl false 4 (fs.map dX.cells)]∧∀ f∈fs,f.type.of.size≤2 ^ 59
 |0=>Rd.zero _ _
 |n+1=>(Rd.slice Tryz.underlying68 (ag:=4) (by kernel_rfl) (by decide) (aFG n)).mono (by
  rintro _ ⟨rows,rfl,_,h⟩
  obtain⟨ls,rfl,hl⟩:=Gf (f:=dX.cells) (W:=fun f=>f.type.of.size≤2 ^ 59) (fun r hr=>h r hr)
  exact⟨ls,rfl,hl⟩)
theorem aFJ:∀ n:Nat,Rd enc Tryz.prog W n 70 fun l=>∃ t:gp,l=t.cells∧t.Fits
 |0=>Rd.zero _ _
 |n+1=>(Rd.struct Tryz.underlying70 (by kernel_rfl) (.cons (yU n) (.cons (yU n) (.cons (aFH n) (.cons (tL n) .nil))))).mono (by
  rintro _ ⟨_,_,rfl,⟨a,rfl,ha⟩,_,_,rfl,⟨b,rfl,hb⟩,_,_,rfl,⟨fs,rfl,hf⟩,_,_,rfl,⟨k,rfl⟩,rfl⟩
  exact⟨⟨a,b,fs,k⟩,rfl,YG ha (by decide),YG hb (by decide),hf⟩)
theorem aFE:∀ n:Nat,Rd enc Tryz.prog W n 72 fun l=>∃ f:mb,l=f.cells∧f.Fits
 |0=>Rd.zero _ _
 |n+1=>(Rd.struct Tryz.underlying72 (by kernel_rfl) (.cons (yU n) (.cons (yU n) (.cons (aDL n) (.cons (aJK n) (.cons (tL n) .nil)))))).mono (by
  rintro _ ⟨_,_,rfl,⟨a,rfl,ha⟩,_,_,rfl,⟨b,rfl,hb⟩,_,_,rfl,⟨t,rfl,ht⟩,_,_,rfl,⟨x,rfl,hx⟩,_,_,rfl,⟨v,rfl⟩,rfl⟩
  exact⟨⟨a,b,t,x,v⟩,by rw[mb.oR,Ex.bX x];rfl,YG ha (by decide),YG hb (by decide),YG ht (by decide),hx⟩)
end
end Go.Proofs.YtbihckigennlhaaGreatDoor
namespace Go.Proofs.YtbihckigennlhaaGreatDoor
open Go.Sx Go.Proofs Go.RowKit
theorem aDM{M:Mem}{ag n:Nat}{rows:List (List AV)}{v:Value}(hn:rows.length=n)(h:R M (.sl false ag rows) v):
  ∃ a cap,v= .slice a n cap∧∀ i (hi:i<n),∃ bb off,a=some ⟨bb,off,none⟩∧∃ cs:List Value,RL M (rows.getD i []) cs∧cs.length=ag∧∀ j (hj:j<cs.length),M bb (off+i * ag+j)=some cs[j]:=by
 subst hn
 obtain⟨a,cap,e,hr⟩:=aDW h
 refine⟨a,cap,e,fun i hi=> ?_⟩
 have e2:rows.getD i []=rows[i]:=by rw[Z1,Z6 hi];rfl
 rw[e2]
 exact hr i hi
theorem getD_map{α:Type}[Inhabited α](g:α→List AV){l:List α}{i:Nat}(h:i<l.length):(l.map g).getD i []=g (l.getD i default):=by
 rw[getD_eq h,Z1,X8,Z6 h];rfl
theorem aFs(m:oK)(hm:m.Small)(M:Mem)(w0:Base)(w:World)(σ:Store)(v:Value)(hI:Inv Tryz.prog M w0 σ w)(hv:R M (.agg m.cells) v):
  Calls Tryz.prog 25 #[v] w fun e w'=>e= .returned (.tuple #[.string (sy m),.int .i64 (aJg m)])∧Below w.heap.size w w':=by
 obtain⟨c,hvc,hc⟩:=hv.vS
 obtain⟨vT,d,hd,hT,hc⟩:=hc.cN
 obtain⟨vF,d2,hd2,hF,hc⟩:=hc.cN
 have A8:=hc.ub
 obtain⟨aT,cT,eT,rT⟩:=aDM (n:=m.tables.length) (by simp) hT
 obtain⟨aF,cF,eF,rF⟩:=aDM (n:=m.AK.length) (by simp) hF
 have e:v= .agg #[.slice aT m.tables.length cT,.slice aF m.AK.length cF]:=by rw[hvc,hd,hd2,A8,eT,eF]
 rw[e]
 exact aFy m hm M w0 w σ hI aT aF cT cF (fun i hi=>by have:=rT i hi;rwa [getD_map gp.cells hi]at this) (fun i hi=>by have:=rF i hi;rwa [getD_map mb.cells hi]at this)
theorem aDI(m:oK)(hm:m.Small):Pure Tryz.prog 25 [.agg m.cells] (.aI [sv (sy m),iv (aJg m)]):=by
 have hr:∀ M:Mem,R M (.aI [sv (sy m),iv (aJg m)]) (.tuple #[.string (sy m),.int .i64 (aJg m)]):=fun M=>R.FE (cs:=[.string (sy m),.int .i64 (aJg m)]) (RL.cons (.v _) (RL.cons (.v _) RL.nil))
 refine Pure.shelf fun M w0 w σ cs hI hR=> ?_
 obtain⟨v,cs',ku,hv,hR⟩:=hR.cN
 have h0:=hR.ub
 have e:cs.toArray= #[v]:=by rw[ku,h0]
 rw[e]
 exact(aFs m hm M w0 w σ v hI hv).mono fun e w' h=>⟨⟨_,h.1,hr M⟩,h.2⟩
section
variable {H:Type}{enc:TypeId×Value→H}{W:World}
theorem aFK:∀ n:Nat,Rd enc Tryz.prog W n 59 fun l=>∃ ts:List gp,l=[.sl false 4 (ts.map gp.cells)]∧∀ t∈ts,t.Fits
 |0=>Rd.zero _ _
 |n+1=>(Rd.slice Tryz.underlying59 (ag:=4) (by kernel_rfl) (by decide) (aFJ n)).mono (by
  rintro _ ⟨rows,rfl,_,h⟩
  obtain⟨ls,rfl,hl⟩:=Gf (f:=gp.cells) (W:=fun t=>t.Fits) (fun r hr=>h r hr)
  exact⟨ls,rfl,hl⟩)
theorem aFF:∀ n:Nat,Rd enc Tryz.prog W n 60 fun l=>∃ fs:List mb,l=[.sl false 18 (fs.map mb.cells)]∧∀ f∈fs,f.Fits
 |0=>Rd.zero _ _
 |n+1=>(Rd.slice Tryz.underlying60 (ag:=18) (by kernel_rfl) (by decide) (aFE n)).mono (by
  rintro _ ⟨rows,rfl,_,h⟩
  obtain⟨ls,rfl,hl⟩:=Gf (f:=mb.cells) (W:=fun f=>f.Fits) (fun r hr=>h r hr)
  exact⟨ls,rfl,hl⟩)
theorem aFI:∀ n:Nat,Rd enc Tryz.prog W n 62 fun l=>∃ m:oK,l=m.cells∧m.Fits
 |0=>Rd.zero _ _
 |n+1=>(Rd.struct Tryz.underlying62 (by kernel_rfl) (.cons (aFK n) (.cons (aFF n) .nil))).mono (by
  rintro _ ⟨_,_,rfl,⟨ts,rfl,ht⟩,_,_,rfl,⟨fs,rfl,hf⟩,rfl⟩
  exact⟨⟨ts,fs⟩,rfl,ht,hf⟩)
end
end Go.Proofs.YtbihckigennlhaaGreatDoor
set_option linter.unusedSectionVars false
set_option maxHeartbeats 8000000
namespace Go.Proofs.YtbihckigennlhaaGreatDoor
open Go.Sx Go.Proofs
theorem aFp(s:List UInt8)(nn:Bool):Sx.Pure Tryz.prog 26 [.sl nn 1 (s.map bn)] (aJv s):=aFw DZ Dh ac1 U8 s nn
theorem aIC(x:Ex):Sx.Pure Tryz.prog 12 [.agg x.row,.agg x.row] (.v (.bool true)):=by
 have:=OH x x
 rwa [Zi rfl]at this
theorem aIE(t:gp):Sx.Pure Tryz.prog 73 [.agg t.cells,.agg t.cells] (.v (.bool true)):=by
 refine k73.p fun σ=> ?_
 repeat'(first|exact .nil|refine .k0 ?_|refine .k1 ?_|refine .k2 ?_|refine .k4 ?_|refine .k6 ?_|refine .k7 ?_|refine .k9 ?_|(refine .cd ?_ ?_<;>(intro hc;skip))|refine .r1 ?_ ?_|(refine .m1 ?_ ?_;intro b)|(refine .m2 ?_ ?_;intro hlen)|fail)
 try any_goals(exact Zo)
 all_goals(try simp only[BL]at *)
 ·exfalso;simp at hc
 clear hc
 rename_i b2 _
 refine cQ (fun n rg σ'=>∃ i:Nat,i≤t.fields.length∧n=t.fields.length-i∧σ'=(3,b,bN.cells t.cells)::(2,b2,bN.cells t.cells)::σ∧rg=[(2,.lp 2 b2 0),(3,.lp 3 b 0),(5,iv i)]) t.fields.length rfl ⟨_,_,Zr,Zs,0,ZK _,rfl,rfl,rfl⟩ ?_
 rintro n _ _ ⟨i,hi,hn,rfl,rfl⟩
 repeat'(first|exact .nil|refine .k0 ?_|refine .k1 ?_|refine .k2 ?_|refine .k3 ?_|refine .k4 ?_|refine .k5 ?_|refine .k6 ?_|refine .k7 ?_|refine .k8 ?_|refine .k9 ?_|(refine .cd ?_ ?_<;>(intro hc;skip))|refine .r1 ?_ ?_|(refine .m2 ?_ ?_;intro hlen)|refine .t1 ?_ ?_ ?_|refine .an rfl (by intro bx;exact aDU (t.fields.getD i default).type) ?_ ?_|fail)
 try any_goals(exact Zo)
 all_goals(try simp only[BL]at *)
 all_goals first|(exfalso;exact hc trivial)|(refine⟨t.fields.length-(i+1),by omega,_,_,Zr,Zs,i+1,by omega,rfl,rfl,by rw[eD (n:=t.fields.length) (by omega) (by assumption)]⟩)|(show Sx.Fin _ _ _ _;(refine Sx.Fin.wk Zs ?_;repeat' first|exact .refl _|fail);done)|fail
theorem aID(f:mb):Sx.Pure Tryz.prog 74 [.agg f.cells,.agg f.cells] (.v (.bool true)):=by
 refine k74.p fun σ=> ?_
 repeat'(first|exact .nil|refine .k0 ?_|refine .k1 ?_|refine .k2 ?_|refine .k4 ?_|refine .k7 ?_|refine .r1 ?_ ?_|(refine .m1 ?_ ?_;intro b)|refine .an rfl (by intro bx;first|exact aDU _|exact aIC _) ?_ ?_|fail)
 all_goals(try simp only[BL]at *)
 show Sx.Fin _ (AV.v (Value.bool true)) (AV.v (Value.bool true)) _
 exact Zw
theorem aDT(m:oK):Sx.Pure Tryz.prog 29 [.agg m.cells,.agg m.cells] (.v (.bool true)):=by
 refine k29.p fun σ=> ?_
 repeat'(first|exact .nil|refine .k0 ?_|refine .k1 ?_|refine .k2 ?_|refine .k4 ?_|refine .k6 ?_|refine .k7 ?_|refine .k9 ?_|(refine .cd ?_ ?_<;>(intro hc;skip))|refine .r1 ?_ ?_|(refine .m1 ?_ ?_;intro b)|(refine .m2 ?_ ?_;intro hlen)|fail)
 try any_goals(exact Zo)
 all_goals(try simp only[BL]at *)
 ·exfalso;simp at hc
 clear hc
 rename_i b2 _ _ _
 refine cQ (fun n rg σ'=>∃ i:Nat,i≤m.tables.length∧n=m.tables.length-i∧σ'=(3,b,bN.cells m.cells)::(2,b2,bN.cells m.cells)::σ∧rg=[(2,.lp 2 b2 0),(3,.lp 3 b 0),(5,iv i)]) m.tables.length rfl ⟨_,_,Zr,Zs,0,ZK _,rfl,rfl,rfl⟩ ?_
 rintro n _ _ ⟨i,hi,hn,rfl,rfl⟩
 repeat'(first|exact .nil|refine .k0 ?_|refine .k1 ?_|refine .k2 ?_|refine .k5 ?_|refine .k6 ?_|refine .k7 ?_|refine .k8 ?_|refine .k9 ?_|(refine .cd ?_ ?_<;>(intro hc;skip))|refine .r1 ?_ ?_|(refine .m2 ?_ ?_;intro hlen)|refine .t1 ?_ ?_ ?_|refine .an rfl (by intro bx;first|exact aIE _|fail) ?_ ?_|fail)
 try any_goals(exact Zo)
 all_goals(try simp only[BL]at *)
 all_goals first|(exfalso;simp at hc;done)|(refine⟨m.tables.length-(i+1),by omega,_,_,Zr,Zs,i+1,by omega,rfl,rfl,by rw[eD (n:=m.tables.length) (by omega) (by assumption)]⟩;done)|skip
 refine cQ (fun n rg σ'=>∃ i:Nat,i≤m.AK.length∧n=m.AK.length-i∧σ'=(3,b,bN.cells m.cells)::(2,b2,bN.cells m.cells)::σ∧rg=[(2,.lp 2 b2 0),(3,.lp 3 b 0),(6,iv i)]) m.AK.length rfl ⟨_,_,Zr,Zs,0,ZK _,rfl,rfl,rfl⟩ ?_
 rintro n2 _ _ ⟨j,hj,ib,rfl,rfl⟩
 repeat'(first|exact .nil|refine .k0 ?_|refine .k1 ?_|refine .k2 ?_|refine .k5 ?_|refine .k6 ?_|refine .k7 ?_|refine .k8 ?_|refine .k9 ?_|(refine .cd ?_ ?_<;>(intro hc;skip))|refine .r1 ?_ ?_|(refine .m2 ?_ ?_;intro hlen)|refine .t1 ?_ ?_ ?_|refine .an rfl (by intro bx;exact aID _) ?_ ?_|fail)
 try any_goals(exact Zo)
 all_goals(try simp only[BL]at *)
 all_goals first|(exfalso;simp at hc;done)|(refine⟨m.AK.length-(j+1),by omega,_,_,Zr,Zs,j+1,by omega,rfl,rfl,by rw[eD (n:=m.AK.length) (by omega) (by assumption)]⟩;done)|(show Sx.Fin _ _ _ _;(refine Sx.Fin.wk Zs ?_;repeat' first|exact .refl _|fail);done)|fail
theorem aDF(m:oK)(hm:m.Fits)(h:aJw m→aJg m≠0):Sx.Pure Tryz.prog 7 [.agg m.cells] (.v (.bool true)):=by
 by_cases hF:aJw m
 ·have hE:=h hF
  have hS:sy m=⟨#[]⟩:=if_neg hE
  refine k7.p fun σ=> ?_
  repeat'(first|exact .nil|refine .k0 ?_|refine .k1 ?_|refine .k2 ?_|refine .k7 ?_|refine .k9 ?_|(refine .cd ?_ ?_<;>(intro hc;skip))|refine .r1 ?_ ?_|(refine .m1 ?_ ?_;intro b)|refine .an rfl (by intro bx;first|exact J1|exact aCp m hm|exact aDI m (aJw.small hF)) ?_ ?_|refine .t7 ?_ ?_ ?_|fail)
  try any_goals exact Zo
  all_goals(try simp only[BL]at *)
  all_goals first
   |(exfalso;simp_all;done)
   |(refine Sx.Fin.intro Zs (congrArg (fun b=>AV.v (.bool b)) ?_);(simp_all;done))
 ·refine k7.p fun σ=> ?_
  repeat'(first|exact .nil|refine .k0 ?_|refine .k1 ?_|refine .k2 ?_|refine .k7 ?_|refine .k9 ?_|(refine .cd ?_ ?_<;>(intro hc;skip))|refine .r1 ?_ ?_|(refine .m1 ?_ ?_;intro b)|refine .an rfl (by intro bx;first|exact J1|exact aCp m hm|fail) ?_ ?_|fail)
  try any_goals exact Zo
  all_goals(try simp only[BL]at *)
  all_goals first
   |(exfalso;simp_all;done)
   |(refine Sx.Fin.intro Zs (congrArg (fun b=>AV.v (.bool b)) ?_);first|rfl|fail)
abbrev stA(m:oK)(b1 b5 b8:Nat)(x:AV)(σ:Store):Store:=(8,b8,bN.cells [.sl false 4 (m.tables.map gp.cells),x])::(5,b5,bN.cells (⟨m.tables,m.AK.map aJt⟩:oK).cells)::(1,b1,bN.cells m.cells)::σ
theorem aE8{l r:List (af×Int)}{i:Nat}(h:r.length≤i):aJc (l++r)=aJc l++aJc (r.take i):=by rw[aB8,ZC h]
theorem aFB(m:oK)(hm:m.Fits)(hF:aJw m)(hE:aJg m=0)(hZ:(sy m).size≤16384)(T:List (List AV))
  (hP:Sx.Pure Tryz.prog 26 [.sl true 1 ((sy m).data.toList.map bn)] (.aI [.agg (⟨m.tables,m.AK.map aJt⟩:oK).cells,.sl false 2 [],iv 0]))
  (hT:Sx.Pure Tryz.prog 15 [.sl true 1 ((sy m).data.toList.map bn)] (.aI [.sl false 3 T,.sl false 2 [],iv 0])):Sx.Pure Tryz.prog 7 [.agg m.cells] (.v (.bool true)):=by
 have hS:=aJw.small hF
 have hmt:=hS.t
 have hmf:=hS.f
 refine k7.pc (fun d=>bif Nat.beq d 80 then 1 else 0) fun σ=> ?_
 repeat'(first|exact .nil|refine .k0 ?_|refine .k1 ?_|refine .k2 ?_|refine .k6 ?_|refine .k7 ?_|refine .k9 ?_|(refine .cd ?_ ?_<;>(intro hc;skip))|refine .r1 ?_ ?_|(refine .l1 ?_;intro b)|(refine .m1 ?_ ?_;intro b)|refine .an rfl (by intro bx;first|exact J1|exact aCp m hm|exact aDI m hS|exact hP|fail) ?_ ?_|refine .t7 ?_ ?_ ?_|fail)
 all_goals first|(exfalso;simp_all;done)|(intro _;omega)|skip
 refine cQ (fun n rg σ'=>∃ i b1 b5 b8:Nat,i≤m.tables.length∧n=m.tables.length-i∧σ'=stA m b1 b5 b8 (.v (.slice none 0 0)) σ∧rg=[(1,.lp 1 b1 0),(3,sv (sy m)),(5,.lp 5 b5 0),(6,.sl false 2 []),(7,iv 0),(8,.lp 8 b8 0),(9,sv (aJc ((jl m).take i))),(10,iv i)]) m.tables.length rfl ⟨_,_,Zr,Zs,0,_,_,_,ZK _,rfl,rfl,rfl⟩ ?_
 rintro n _ _ ⟨i,b1,b5,b8,hi,hn,rfl,rfl⟩
 have tk:=fun h=>aCc (fun t=>(aJD t,l6 t)) (l:=m.tables) (i:=i) h
 have hz:=aB9 m i hmt
 have pn:=aCH (m.tables.getD i default)
 repeat'(first|exact .nil|refine .k0 ?_|refine .k1 ?_|refine .k2 ?_|refine .k6 ?_|refine .k8 ?_|refine .k9 ?_|(refine .cd ?_ ?_<;>(intro hc;skip))|refine .r1 ?_ ?_|(refine .m2 ?_ ?_;intro hlen)|refine .t1 ?_ ?_ ?_|refine .an rfl (by intro bx;first|exact aD1 (m.tables.getD i default)|fail) ?_ ?_|fail)
 any_goals(first|omega|(simp only[Z9,Z4,Z7,Z3,ZT,bK,bC,du,ZY];omega))
 all_goals first|(intro _;simp at hc;omega)|(simp at hc;refine⟨m.tables.length-(i+1),by omega,_,_,Zr,Zs,i+1,_,_,_,by omega,rfl,rfl,?_⟩;rw[show(jl m).take (i+1)=_ from tk (by omega),aCv,eD (n:=m.tables.length) (by omega) (by unfold maxLen;omega)];rfl)|skip
 have hc:=of_decide_eq_false hc
 have hz0:=aB9 m (jl m).length hmt
 rw[List.take_length]at hz0
 rw[ZC (l:=jl m) (by rw[jl,Z3];omega)]
 clear tk pn hz
 refine cQ (fun n rg σ'=>∃ i b1 b5 b8:Nat,i≤m.AK.length∧n=m.AK.length-i∧((i=0∧σ'=stA m b1 b5 b8 (.v (.slice none 0 0)) σ)∨(0<i∧∃ b v c R,R=((m.AK.take i).map aJt).map mb.cells∧σ'=(80,b,.tail v c)::stA m b1 b5 b8 (.own 18 80 b v c R) σ))∧rg=[(1,.lp 1 b1 0),(3,sv (sy m)),(5,.lp 5 b5 0),(6,.sl false 2 []),(7,iv 0),(8,.lp 8 b8 0),(9,sv (aJc (jl m)++aJc ((lr m).take i))),(13,iv i)]) m.AK.length rfl ⟨_,_,Zr,Zs,0,_,_,_,ZK _,rfl,.inl ⟨rfl,rfl⟩,by rw[show aJc ((lr m).take 0)=⟨#[]⟩from rfl,iA];rfl⟩ ?_
 rintro n _ _ ⟨i,b1,b5,b8,hi,hn,⟨h0,rfl⟩|⟨h0,bb,vv,cc,R,hR,rfl⟩,rfl⟩
 all_goals
  have hz:=aCw m i hmf hS.b
  have pn:=fun h=>aCo (f:=m.AK.getD i default) (hS.b _ (cW h))
  have tk:=fun h=>aCc (fun f=>(aJz f,aJj f)) (l:=m.AK) (i:=i) h
  have ep:i<m.AK.length→((m.AK.take (i+1)).map aJt).map mb.cells=((m.AK.take i).map aJt).map mb.cells++[(aJt (m.AK.getD (i:Int).toNat default)).cells]:=fun h=>by rw[GD h];simp
  have hC:¬i<m.AK.length→aJc (jl m)++aJc ((lr m).take i)=sy m:=fun h=>by
   rw[← aE8 (by rw[lr,Z3];omega)];exact(if_pos hE).symm
 repeat'(first|exact .nil|refine .k0 ?_|refine .k1 ?_|refine .k2 ?_|refine .k4 ?_|refine .k6 ?_|refine .k7 ?_|refine .k8 ?_|refine .k9 ?_|(refine .cd ?_ ?_<;>(intro hc;skip))|refine .r1 ?_ ?_|(refine .l1 ?_;intro b)|(refine .m2 ?_ ?_;intro hlen)|(refine .m3 ?_ ?_;intro hlen)|refine .t1 ?_ ?_ ?_|refine .u1 ?_ ?_ ?_ (fun b u c=> ?_)|refine .u2 ?_ ?_ ?_ (fun b u c=> ?_)|refine .an rfl (by intro bx;first|exact J1|exact hT|exact aC6 (m.AK.getD i default) (hS.b _ (cW (by(simp only[BL]at *;omega))))|(refine(aDT ⟨m.tables,m.AK.map aJt⟩).wk (.cons (.refl _) (.cons (.agg (.cons (.refl _) (.cons ?_ .nil))) .nil));rw[ZO (l:=m.AK) (by simp at hc;omega)];exact .nil)|(refine(aDT ⟨m.tables,m.AK.map aJt⟩).wk (.cons (.refl _) (.cons (.agg (.cons (.refl _) (.cons (.Nz ?_) .nil))) .nil));rw[hR,ZC (by simp at hc;omega)])) ?_ ?_|refine .t7 ?_ ?_ ?_|(show List.all _ _=true;rfl)|fail)
 all_goals first
  |exact Z8 rfl
  |exact YE _ _
  |(intro _;simp at hc;omega)
  |(intro _;omega)
  |(have pn:=pn (by simp at hc;omega);((simp only[Z9,Z4,Z7,Z3,ZT,bK,bC,du,ZY];omega)))
  |(rw[hC (by simp at hc;omega)];exact Sx.Fin.intro Zs (congrArg (fun b=>AV.v (.bool b)) (by simp)))
  |(rw[hR];simp only[Z3,ZT,Z9,Z4];omega)
  |skip
 all_goals
  have nM:i<m.AK.length:=by simp at hc;omega
  refine⟨m.AK.length-(i+1),by omega,_,_,Zr,Zs,i+1,_,_,_,by omega,rfl,.inr ⟨by omega,_,_,_,_,?_,rfl⟩,?_⟩
  ·rw[ep nM];first|(rw[← hR];rfl)|(subst h0;rfl)
  ·rw[show(lr m).take (i+1)=_ from tk nM,aCv,eD (n:=m.AK.length) (by omega) (by unfold maxLen;omega)]
   simp only[oO];rfl
theorem ayJ(src:List UInt8)(hl:src.length≤16384)(nn:Bool):Sx.Pure Tryz.prog 15 [.sl nn 1 (src.map bn)] (.aI [.sl false 3 ((dh src).1.map Tok.cells),.sl false 2 ((dh src).2.map dw.cells),iv 0]):=
 ⟨fun σ=>(GK DZ Dh src hl nn σ).weak fun x σ' ⟨cV,τb,h1,h2,h3⟩=>by
  subst h2 h3
  refine⟨.ret _,σ,⟨rfl,rfl⟩,?_,?_⟩
  ·unfold Sx.Sub;rw[Y2];exact List.sublist_append_right _ _
  ·rcases h1 with⟨e,rfl,_⟩|⟨_,bb,u,c,rfl,_,_⟩
   ·rw[e];exact .aI (.cons (.refl _) (.cons .nil (.cons (.refl _) .nil)))
   ·exact .aI (.cons (.refl _) (.cons (.own _) (.cons (.refl _) .nil)))⟩
set_option maxHeartbeats 4000000
theorem aDo:∀ l:List (af×Int),aJd l=0→∀ x∈l,x.2=0
 |[],_,x,hx=>absurd hx (by simp)
 |y::l,h,x,hx=>by
  rw[aJd]at h
  split at h
  ·rename_i h0
   rcases ZV.1 hx with rfl|hx
   ·exact h0
   ·exact aDo l h x hx
  ·rename_i h0;exact absurd h h0
theorem aDu{m:oK}(h:aJg m=0):(∀ t∈m.tables,l6 t=0)∧(∀ f∈m.AK,aJj f=0)∧(aJc (jl m++lr m)).size≤16384:=by
 unfold aJg at h
 split at h
 ·rename_i h0;exact absurd h h0
 ·rename_i h0
  have h1:=aDo _ (Y4.1 h0)
  refine⟨fun t ht=>h1 (aJD t,l6 t) (Zy _ (YS.2 ⟨t,ht,rfl⟩)),fun f hf=>h1 (aJz f,aJj f) (Zj _ (YS.2 ⟨f,hf,rfl⟩)),?_⟩
  split at h
  ·omega
  ·omega
def aCy:rX→af
 | .O6 t=>tU t
 | .Kg f=>aJH f
theorem aFf:∀ x:rX,OkI x→aM (pcI x)=bL (aCy x)
 | .O6 t,_=>aIV t
 | .Kg f,h=>aEI h.b
theorem aDC:∀ l:List rX,(∀ x∈l,OkI x)→aM (pcM l)=bL (aJc (l.map fun x=>(aCy x,0)))
 |[],_=>rfl
 |x::l,h=>by
  rw[pcM,pF,j8,aFf x (h x ZU),aDC l fun y hy=>h y (ZX _ hy),ZH,aJc,eK,eK];rfl
theorem aFg{m:oK}(h:aJg m=0):jl m++lr m=(aJu m).map fun x=>(aCy x,0):=by
 obtain⟨h1,h2,_⟩:=aDu h
 unfold jl lr aJu
 rw[Y2,Yw,Yw]
 congr 1
 ·refine List.map_congr_left fun t ht=> ?_
  have e:aJD t=tU t:=if_pos (h1 t ht)
  show(aJD t,l6 t)=(tU t,0)
  rw[e,h1 t ht]
 ·refine List.map_congr_left fun f hf=> ?_
  have e:aJz f=aJH f:=if_pos (h2 f hf)
  show(aJz f,aJj f)=(aJH f,0)
  rw[e,h2 f hf]
theorem aFD(m:oK)(hm:m.Fits):Sx.Pure Tryz.prog 7 [.agg m.cells] (.v (.bool true)):=by
 by_cases hF:aJw m
 ·by_cases hE:aJg m=0
  ·obtain⟨h1,h2,h3⟩:=aDu hE
   have hok:∀ x∈aJu m,OkI x:=fun x hx=>by
    rcases Zm.1 hx with hx|hx
    ·obtain⟨t,ht,rfl⟩:=YS.1 hx;exact aBO.of (h1 t ht)
    ·obtain⟨f,hf,rfl⟩:=YS.1 hx;exact aBN.of (h2 f hf)
   have hs:sy m=aJc (jl m++lr m):=if_pos hE
   have hb:bL (sy m)=aM (pcM (aJu m)):=by rw[hs,aFg hE,aDC _ hok]
   have hZ:(sy m).size≤16384:=by rw[hs];exact h3
   obtain⟨e1,e2⟩:=aFr hok hb hZ
   have hP:=aFp (bL (sy m)) true
   have hT:=ayJ (bL (sy m)) hZ true
   unfold aJv at hP
   rw[e1]at hP
   rw[e2]at hT
   exact aFB m hm hF hE hZ _ hP hT
  ·exact aDF m hm fun _=>hE
 ·exact aDF m hm fun h=>absurd h hF
end Go.Proofs.YtbihckigennlhaaGreatDoor
namespace Go.Proofs.YtbihckigennlhaaGreatDoor
open Go.Sx Go.Proofs Go.Lib
theorem FY{W:World}{g:Nat}{x:AV}{v:Value}(hc:W.cell? ⟨g,0,none⟩=some v)(h:R (M0 W) x v):R (M0 W) (.pc [x]) (.pointer (some ⟨g,0,none⟩)):=by
 refine .pc [x] g 0 (fun _=>v) (fun k hk=> ?_) (fun k hk=> ?_)
 ·obtain rfl:k=0:=by simpa using hk
  exact hc
 ·obtain rfl:k=0:=by simpa using hk
  exact h
def vJ(s:af):DataW Unit:= .lit (.string s.data.toList)
theorem ayl{enc:TypeId×Value→Unit}{P:Program}[Glob P]{W:World}{t e:TypeId}{fuel:Nat}{held:Bool}{cs:List Value}{p:List MemPlace}{ss:List af}(ht:P.underlying t=some (.slice e))(he:P.underlying e=some .string)(XH:P.cellsOf e=1)
  (h0:ss≠[]) (hx:DataW.trod enc P W 0 (fun _=>true) held fuel t cs=some (.slice (ss.map vJ) [],p)):∃ v,cs=[v]∧R (M0 W) (.sl false 1 (ss.map dL)) v:=by
 rcases DataW.trod_slice ht hx with⟨_,h⟩|⟨a,len,cap,elems,rest,m,rfl,rfl,dm,_,hlc,mz,hlen,nL,eZ,_⟩
 ·cases h
 ·simp only[Y6,DataW.slice.injEq]at dm
  have K8:=dm.1.1
  have hl:elems.length=ss.length:=by
   have:=congrArg List.length K8
   simpa using this.symm
  have nW:0<ss.length:=Y1.2 h0
  have cell:∀ i (hi:i<ss.length),W.cell? (a.add i)=some (.string (ss.getD i ⟨#[]⟩)):=by
   intro i hi
   have h1:=nL i (by omega)
   have j0:i<elems.length:=by omega
   rw[Z6 j0,Option.bind_eq_some_iff]at h1
   obtain⟨cs',hc,pk⟩:=h1
   obtain⟨s,rfl,hs,_⟩:=Pn he pk
   obtain⟨g1,g2⟩:=Dv hc
   have g3:=g2 0 (by omega)
   have e1:(elems.map (·.1))[i]'(by simpa using j0)=vJ (ss[i]'hi):=by
    have:(ss.map vJ)[i]'(by simpa using hi)=vJ (ss[i]'hi):=by rw[Zg]
    rw[← this]
    exact List.getElem_of_eq K8.symm _
   rw[Zg,hs]at e1
   simp only[vJ,DataW.lit.injEq,Lit.string.injEq]at e1
   have e2:s=ss[i]'hi:=pQ e1
   rw[XH,XU]at g3
   have e3:(a.add i).add 0=a.add i:=by rw[Go.Deep.add_add];rfl
   rw[e3]at g3
   rw[g3,e2,Z1,Z6 hi];rfl
  have pj:a.spot=none:=by
   have:=Gv (cell 0 nW)
   simpa[Addr.add]using this
  obtain⟨b,o,s⟩:=a
  simp only at pj
  subst pj
  refine⟨_,rfl,?_⟩
  have o9:(ss.map dL).length=len:=by rw[Z3];omega
  have:=R.lS (M:=M0 W) (b:=b) (off:=o) (cap:=cap) (ag:=1) (rows:=ss.map dL) (cs:=fun k=> .string (ss.getD k ⟨#[]⟩)) ⟨fun i hi=> ?_,fun k hk=> ?_,fun i hi j hj=> ?_⟩ (by omega) mz false
  ·rw[o9]at this;exact this
  ·rw[Zg];rfl
  ·have:=cell k (by simpa using hk)
   rw[Addr.add_lit]at this
   exact this
  ·have cH:i<ss.length:=by simpa using hi
   simp only[Zg,dL,Z9,Z4]at hj ⊢
   obtain rfl:j=0:=by omega
   rw[Z1,XU,YN,Z6 cH]
   exact .v _
theorem DY{W:World}{name:String}{G:Nat}{d:DataW Unit}{ss:List af}(h:VarReads Tryz.prog W name d)(hg:Tryz.prog.globalNamed name=some G)(qP:(Tryz.prog.globals[G]?).map (·.type)=some 128)(hd:d= .slice (ss.map vJ) [])(h0:ss≠[]):
  R (M0 W) (.pc [.sl false 1 (ss.map dL)]) (.pointer (some ⟨G,0,none⟩)):=by
 obtain⟨g,t,cs,fuel,p,h1,h2,h3,h4⟩:=h
 obtain rfl:=Zf (hg.symm.trans h1)
 obtain rfl:=Zf (qP.symm.trans h2)
 rw[hd]at h4
 obtain⟨v,hv,hR⟩:=ayl Tryz.underlying128 Tryz.underlying9 (by kernel_rfl) h0 h4
 refine FY ?_ hR
 rw[World.var?_cell hg h3 0]
 have:=congrArg (·[0]?) hv
 simpa using this
theorem NK{W:World}{g:Nat}{vs:List Value}(hc:∀ k (h:k<vs.length),W.cell? ⟨g,k,none⟩=some vs[k]):R (M0 W) (.pc (vs.map AV.v)) (.pointer (some ⟨g,0,none⟩)):=by
 refine .pc _ g 0 (fun k=>vs.getD k undef) (fun k hk=> ?_) (fun k hk=> ?_)
 ·have bY:k<vs.length:=by simpa using hk
  rw[Zh,Z1,Z6 bY]
  exact hc k bY
 ·have bY:k<vs.length:=by simpa using hk
  rw[Zg,Z1,Z6 bY]
  exact .v _
theorem Gz{W:World}{name:String}{d:DataW Unit}{G:Nat}{t e:TypeId}{n:Nat}{k:IntKind}{zs:List Int}(h:VarReads Tryz.prog W name d)(hd:d=tabData k zs)(hG:Tryz.prog.globalNamed name=some G)(qP:(Tryz.prog.globals[G]?).map (·.type)=some t)
  (ht:Tryz.prog.underlying t=some (.array n e)) (he:Tryz.prog.underlying e=some (.int k)) (h1:Tryz.prog.cellsOf e=1) (hn:Tryz.prog.cellsOf t=n):TabIs Tryz.prog W name k zs:=by
 obtain⟨g,t',cs,fuel,p,g1,g2,g3,g4⟩:=h
 obtain rfl:=Zf (hG.symm.trans g1)
 obtain rfl:=Zf (qP.symm.trans g2)
 rw[hd]at g4
 have:=cells_of_tab ht he h1 hn g4
 unfold TabIs
 rw[g3,← this]
theorem NJ{W:World}{name:String}{G:Nat}{k:IntKind}{zs:List Int}(h:TabIs Tryz.prog W name k zs)(hG:Tryz.prog.globalNamed name=some G):R (M0 W) (.pc ((zs.map fun z=>Value.int k z).map AV.v)) (.pointer (some ⟨G,0,none⟩)):=by
 refine NK fun i hi=> ?_
 have cH:i<zs.length:=by simpa using hi
 have:=h.cell hG i cH
 rw[this]
 simp[cH]
theorem aJM{W:World}(hL:laidMet Tryz.prog Rows.printerModulesRow.laid W)(hsh:W.ShapedOpen Tryz.prog):CX Tryz.prog W:=by
 have EW:=laidMet.reads hL (n:= "internal/strconv.uint64pow10") (d:=Rows.laid_internal_strconv_uint64pow10) (by simp[Rows.printerModulesRow])
 refine⟨fun g l h=> ?_,?_,?_⟩
 ·simp only[Glob.av]at h
  split at h
  ·cases h
   exact DY (laidMet.reads hL (n:= "asof/checker.aggregates") (d:=Rows.laid_asof_checker_aggregates) (by simp[Rows.printerModulesRow])) (by kernel_rfl) (by kernel_rfl) (by rfl) (by decide)
  ·cases h
   exact DY (laidMet.reads hL (n:= "asof/checker.unary") (d:=Rows.laid_asof_checker_unary) (by simp[Rows.printerModulesRow])) (by kernel_rfl) (by kernel_rfl) (by rfl) (by decide)
  ·cases h
   exact DY (laidMet.reads hL (n:= "asof/checker.binary") (d:=Rows.laid_asof_checker_binary) (by simp[Rows.printerModulesRow])) (by kernel_rfl) (by kernel_rfl) (by rfl) (by decide)
  ·cases h
   obtain⟨m,hm⟩:=cell_of_shapedOpen_int (g:=3) (zero:= #[.int .i64 0]) (t:=3) hsh (of_decide_eq_true (by kernel_rfl)) (by kernel_rfl) rfl (by kernel_rfl) (by kernel_rfl) Tryz.underlying3
   exact FY hm (.ai .i64 m)
  ·cases h
   have h1:=Gz (k:= .i64) (zs:=[1,10,100,1000,10000,100000,1000000]) (n:=7) (G:=4) (t:=201) (e:=3) (laidMet.reads hL (n:= "asof/decimal.tens") (d:=Rows.laid_asof_decimal_tens) (by simp[Rows.printerModulesRow])) (by rfl) (by kernel_rfl) (by kernel_rfl) Tryz.underlying201 Tryz.underlying3 (by kernel_rfl) (by kernel_rfl)
   exact NJ h1 (by kernel_rfl)
  ·cases h
   obtain⟨g,t,cs,fuel,p,h1,h2,h3,h4⟩:=laidMet.reads hL (n:= "strconv.ErrRange") (d:=Rows.laid_strconv_ErrRange) (by simp[Rows.printerModulesRow])
   have hG:Tryz.prog.globalNamed "strconv.ErrRange" =some 9:=by kernel_rfl
   obtain rfl:=Zf (hG.symm.trans h1)
   have qP:(Tryz.prog.globals[9]?).map (·.type)=some 115:=by kernel_rfl
   obtain rfl:=Zf (qP.symm.trans h2)
   have eN:=World.var?_cell hG h3 0
   have LP: "*" ++ "errors.errorString" = "*errors.errorString" :=by decide
   cases fuel with
   |zero=>simp[DataW.trod]at h4
   |succ fuel=>
    unfold DataW.trod at h4
    rw[Tryz.underlying115]at h4
    clear hL hsh EW h1 h2 qP h3
    generalize bJ:cs.toList=l at h4
    have e0:cs[0]? =l[0]? :=by rw[← bJ];simp
    rw[e0]at eN
    clear e0 bJ
    have key:∃ u v,l=[.iface u v]∧Tryz.prog.typeName? 3 u=some "*errors.errorString" :=by
     unfold Rows.laid_strconv_ErrRange at h4
     split at h4
     all_goals first|(exfalso;rename_i heq;cases heq;done)|(exfalso;rename_i heq _;cases heq;done)|(exfalso;cases h4;done)|skip
     rename_i u v _
     refine⟨u,v,rfl,?_⟩
     cases hn:Tryz.prog.typeName? 3 u with
     |none=>rw[hn]at h4;cases h4
     |some nm=>
      rw[hn]at h4
      simp only[ZR,Y6,DataW.iface.injEq]at h4
      obtain⟨_,_,⟨rfl,_⟩,_⟩:=h4
      rfl
    obtain⟨u,v,rfl,hu⟩:=key
    obtain rfl:u=258:=typeName_ptr_named (nm:= "errors.errorString") (by rw[LP];kernel_rfl) (by kernel_rfl) (by decide) u (by rw[LP];exact hu)
    exact FY (eN.trans rfl) (.gM _ _ v (.any v))
  ·cases h
   have h1:=Gz (k:= .u8) (zs:=firstTab) (n:=256) (G:=5) (t:=94) (e:=5) (laidMet.reads hL (n:= "unicode/utf8.first") (d:=Rows.laid_unicode_utf8_first) (by simp[Rows.printerModulesRow])) (by kernel_rfl) (by kernel_rfl) (by kernel_rfl) Tryz.underlying94 Tryz.underlying5 (by kernel_rfl) (by kernel_rfl)
   have:=NJ h1 (G:=5) (by kernel_rfl)
   rw[show(firstTab.map fun z=>Value.int .u8 z).map AV.v=(List.range 256).map fun c=>AV.v (.int .u8 (Lib.firstT c:Nat)) by unfold firstTab;rw[Yw,Yw];rfl]at this
   exact this
  ·cases h
   have h4:=laidMet.reads hL (n:= "unicode/utf8.acceptRanges") (d:=Rows.laid_unicode_utf8_acceptRanges) (by simp[Rows.printerModulesRow])
   rw[show(Rows.laid_unicode_utf8_acceptRanges:DataW Unit)=acceptData by kernel_rfl]at h4
   have hcell:∀ i,i<16→W.cell? ⟨6,2 * i,none⟩=some (.int .u8 (Lib.accLo i:Nat))∧W.cell? ⟨6,2 * i+1,none⟩=some (.int .u8 (Lib.accHi i:Nat)):=fun i hi=>by
    obtain⟨g,t,cs,fuel,p,hg,qP,LS,hd⟩:=h4
    have hG:Tryz.prog.globalNamed "unicode/utf8.acceptRanges" =some 6:=by kernel_rfl
    obtain rfl:=Zf (hG.symm.trans hg)
    have aaL:(Tryz.prog.globals[6]?).map (·.type)=some 234:=by kernel_rfl
    obtain rfl:=Zf (aaL.symm.trans qP)
    obtain⟨azJ,d,q,K4,he⟩:=array_elem Tryz.underlying234 hd i hi
    simp only[X8,List.getElem?_range hi,Zu,Z5]at K4
    subst K4
    have c2:Tryz.prog.cellsOf 233=2:=by kernel_rfl
    rw[c2]at he
    have ku:=ints_of_struct Tryz.underlying233 (fun j f hj=>by
     match j,hj with
     |0,hj=>simp at hj;subst hj;exact⟨Tryz.underlying5,rfl,by kernel_rfl⟩
     |1,hj=>simp at hj;subst hj;exact⟨Tryz.underlying5,rfl,by kernel_rfl⟩
     |j+2,hj=>simp at hj) (by rw[c2];rfl) he
    have e0:=congrArg (·[0]?) ku
    have e1:=congrArg (·[1]?) ku
    simp only[List.getElem?_take,Ys]at e0 e1
    constructor
    ·rw[World.var?_cell hG LS (2 * i),← Array.getElem?_toList]
     simpa[YC]using e0
    ·rw[World.var?_cell hG LS (2 * i+1),← Array.getElem?_toList]
     simpa[YC]using e1
   have hl:((List.range 16).flatMap fun i=>[AV.v (.int .u8 (Lib.accLo i:Nat)),AV.v (.int .u8 (Lib.accHi i:Nat))])=(((List.range 16).flatMap fun i=>[(Value.int .u8 (Lib.accLo i:Nat)),(Value.int .u8 (Lib.accHi i:Nat))]).map AV.v):=by kernel_rfl
   rw[hl]
   refine NK fun k hk=> ?_
   have bY:k<32:=hk
   have key:∀ i:Fin 16,((List.range 16).flatMap fun i=>[(Value.int .u8 (Lib.accLo i:Nat)),(Value.int .u8 (Lib.accHi i:Nat))])[2 * i.val]? =some (Value.int .u8 (Lib.accLo i.val:Nat))∧
     ((List.range 16).flatMap fun i=>[(Value.int .u8 (Lib.accLo i:Nat)),(Value.int .u8 (Lib.accHi i:Nat))])[2 * i.val+1]? =some (Value.int .u8 (Lib.accHi i.val:Nat)):=by
    rintro⟨i,hi⟩
    have:i=0∨i=1∨i=2∨i=3∨i=4∨i=5∨i=6∨i=7∨i=8∨i=9∨i=10∨i=11∨i=12∨i=13∨i=14∨i=15:=by omega
    rcases this with rfl|rfl|rfl|rfl|rfl|rfl|rfl|rfl|rfl|rfl|rfl|rfl|rfl|rfl|rfl|rfl<;>exact⟨rfl,rfl⟩
   obtain⟨k1,k2⟩:=key ⟨k / 2,by omega⟩
   obtain⟨c1,c2⟩:=hcell (k / 2) (by omega)
   rcases Nat.mod_two_eq_zero_or_one k with e|e
   ·rw[show 2 * (k / 2)=k by omega]at c1 k1
    rw[c1,← k1,Z6 hk]
   ·rw[show 2 * (k / 2)+1=k by omega]at c2 k2
    rw[c2,← k2,Z6 hk]
  ·cases h
 ·exact Gz (G:=7) EW (by rfl) (by kernel_rfl) (t:=242) (n:=20) (e:=210) (by kernel_rfl) Tryz.underlying242 Tryz.underlying210 (by kernel_rfl) (by kernel_rfl)
 ·obtain⟨g,t,cs,fuel,p,h1,h2,h3,h4⟩:=EW
  have hG:Tryz.prog.globalNamed "internal/strconv.uint64pow10" =some 7:=by kernel_rfl
  simp only[World.var?,hG,Option.bind_some]at h3
  split at h3
  ·rename_i e
   exact(Zq.1 e).1
  ·cases h3
end Go.Proofs.YtbihckigennlhaaGreatDoor
