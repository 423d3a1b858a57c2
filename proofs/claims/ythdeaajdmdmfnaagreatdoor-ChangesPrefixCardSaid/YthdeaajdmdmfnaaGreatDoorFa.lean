/- Same units, types, expressions, tables, features: of one and the same. -/
import Derived.Test.YthdeaajdmdmfnaaGreatDoorEd
set_option linter.unusedSimpArgs false
set_option linter.unusedVariables false
set_option maxRecDepth 100000
set_option maxHeartbeats 4000000
namespace Go.Proofs.YthdeaajdmdmfnaaGreatDoor
open _root_.Go.Proofs.Tryz
open Go.Sx Go.Proofs Go.Tb
theorem R9(u:List aC):Pure prog 133 [.sl false 2 (u.map aC.cells),.sl false 2 (u.map aC.cells)] (.v (.bool true)):=by
 refine PG.p fun σ=> ?_
 repeat'(first|exact .nil|refine .k0 ?_|refine .k1 ?_|refine .k2 ?_|refine .k6 ?_|refine .k7 ?_|refine .k9 ?_|(refine .cd ?_ ?_<;>(intro hc;skip))|refine .r1 ?_ ?_|(refine .m2 ?_ ?_;intro hlen)|fail)
 all_goals(try simp only[BL]at *)
 all_goals first|(exfalso;exact hc trivial)|skip
 refine cr (fun n rg σ'=>∃ i:Nat,i≤u.length∧n=u.length-i∧σ'=σ∧rg=[(0,.sl false 2 (u.map aC.cells)),(1,.sl false 2 (u.map aC.cells)),(5,iv i)]) u.length rfl ⟨_,_,Zr,Zs,0,ZM _,rfl,rfl,rfl⟩ ?_
 rintro n _ _ ⟨i,hi,hn,rfl,rfl⟩
 repeat'(first|exact .nil|refine .k0 ?_|refine .k1 ?_|refine .k2 ?_|refine .k5 ?_|refine .k6 ?_|refine .k7 ?_|refine .k8 ?_|refine .k9 ?_|(refine .cd ?_ ?_<;>(intro hc;skip))|refine .r1 ?_ ?_|(refine .m2 ?_ ?_;intro hlen)|refine .t1 ?_ ?_ ?_|fail)
 try any_goals(exact Zo)
 all_goals(try simp only[BL]at *)
 all_goals first|(exfalso;simp at hc;done)|(refine⟨u.length-(i+1),by omega,_,_,Zr,Zs,i+1,by omega,rfl,rfl,by rw[cm (n:=u.length) (by omega) (by assumption)]⟩)|(show Sx.Fin _ _ _ _;(refine Sx.Fin.wk Zs ?_;repeat' first|exact .refl _|fail);done)|fail
theorem R8(t:Ty):Pure prog 82 [.agg t.cells,.agg t.cells] (.v (.bool true)):=by
 refine P2.p fun σ=> ?_
 repeat'(first|exact .nil|refine .k0 ?_|refine .k1 ?_|refine .k2 ?_|refine .k4 ?_|refine .k7 ?_|refine .r1 ?_ ?_|(refine .m1 ?_ ?_;intro b)|refine .an rfl (by intro aI;exact R9 _) ?_ ?_|fail)
 all_goals(try simp only[BL]at *)
 show Sx.Fin _ (AV.v (Value.bool true)) (AV.v (Value.bool true)) _
 exact Zw
def BS(x:Ex):Prop:=Pure prog 134 [.agg x.row,.agg x.row] (.v (.bool true))
theorem aid(x:Ex)(ih:∀ i,i<x.args.length→BS (x.args.getD i default)):BS x:=by
 unfold BS
 rw[Ex.kE x]
 refine PH.p fun σ=> ?_
 repeat'(first|exact .nil|refine .k0 ?_|refine .k1 ?_|refine .k2 ?_|refine .k4 ?_|refine .k6 ?_|refine .k7 ?_|refine .k9 ?_|(refine .cd ?_ ?_<;>(intro hc;skip))|refine .r1 ?_ ?_|(refine .m1 ?_ ?_;intro b)|(refine .m2 ?_ ?_;intro hlen)|refine .an rfl (by intro aI;exact R9 _) ?_ ?_|fail)
 try any_goals(exact Zo)
 all_goals(try simp only[BL]at *)
 ·exfalso;simp at hc
 clear hc
 rename_i b2 _
 refine cr (fun n rg σ'=>∃ i:Nat,i≤x.args.length∧n=x.args.length-i∧σ'=(3,b,aZ.cells x.lay)::(2,b2,aZ.cells x.lay)::σ∧rg=[(2,.lp 2 b2 0),(3,.lp 3 b 0),(5,iv i)]) x.args.length rfl ⟨_,_,Zr,Zs,0,ZM _,rfl,rfl,rfl⟩ ?_
 rintro n _ _ ⟨i,hi,hn,rfl,rfl⟩
 have hA:i<x.args.length→Pure prog 134 [.agg (x.args.getD i default).row,.agg (x.args.getD i default).row] (.v (.bool true)):=ih i
 repeat'(first|exact .nil|refine .k0 ?_|refine .k1 ?_|refine .k2 ?_|refine .k5 ?_|refine .k6 ?_|refine .k7 ?_|refine .k8 ?_|refine .k9 ?_|(refine .cd ?_ ?_<;>(intro hc;skip))|refine .r1 ?_ ?_|(refine .m2 ?_ ?_;intro hlen)|refine .t1 ?_ ?_ ?_|refine .an rfl (by intro aI;first|exact hA (by(simp only[BL]at *;omega))|fail) ?_ ?_|fail)
 try any_goals(exact Zo)
 all_goals(try simp only[BL]at *)
 all_goals first|(exfalso;simp at hc;done)|(refine⟨x.args.length-(i+1),by omega,_,_,Zr,Zs,i+1,by omega,rfl,rfl,by rw[cm (n:=x.args.length) (by omega) (by assumption)]⟩)|(show Sx.Fin _ _ _ _;(refine Sx.Fin.wk Zs ?_;repeat' first|exact .refl _|fail);done)|fail
theorem Sa:∀ (n:Nat) (x:Ex),x.size≤n→BS x
 |0,x,h=>by cases x;simp[Ex.size]at h
 |n+1,x,h=>aid x fun k hk=>Sa n _ (by have:=Ex.Kn x hk;omega)
theorem aie(x:Ex):Pure prog 134 [.agg x.row,.agg x.row] (.v (.bool true)):=Sa x.size x (ZX _)
theorem ah9(f:aq):Pure prog 83 [.agg f.cells,.agg f.cells] (.v (.bool true)):=by
 refine P3.p fun σ=> ?_
 repeat'(first|exact .nil|refine .k0 ?_|refine .k1 ?_|refine .k2 ?_|refine .k4 ?_|refine .k7 ?_|refine .r1 ?_ ?_|(refine .m1 ?_ ?_;intro b)|refine .an rfl (by intro aI;first|exact R8 _|exact aie _) ?_ ?_|fail)
 all_goals(try simp only[BL]at *)
 show Sx.Fin _ (AV.v (Value.bool true)) (AV.v (Value.bool true)) _
 exact Zw
theorem aic(t:bj):Pure prog 38 [.agg t.cells,.agg t.cells] (.v (.bool true)):=by
 refine PT.p fun σ=> ?_
 repeat'(first|exact .nil|refine .k0 ?_|refine .k1 ?_|refine .k2 ?_|refine .k4 ?_|refine .k6 ?_|refine .k7 ?_|refine .k9 ?_|(refine .cd ?_ ?_<;>(intro hc;skip))|refine .r1 ?_ ?_|(refine .m1 ?_ ?_;intro b)|(refine .m2 ?_ ?_;intro hlen)|fail)
 try any_goals(exact Zo)
 all_goals(try simp only[BL]at *)
 ·exfalso;simp at hc
 clear hc
 rename_i b2 _
 refine cr (fun n rg σ'=>∃ i:Nat,i≤t.fields.length∧n=t.fields.length-i∧σ'=(3,b,aZ.cells t.cells)::(2,b2,aZ.cells t.cells)::σ∧rg=[(2,.lp 2 b2 0),(3,.lp 3 b 0),(5,iv i)]) t.fields.length rfl ⟨_,_,Zr,Zs,0,ZM _,rfl,rfl,rfl⟩ ?_
 rintro n _ _ ⟨i,hi,hn,rfl,rfl⟩
 repeat'(first|exact .nil|refine .k0 ?_|refine .k1 ?_|refine .k2 ?_|refine .k3 ?_|refine .k5 ?_|refine .k6 ?_|refine .k7 ?_|refine .k8 ?_|refine .k9 ?_|(refine .cd ?_ ?_<;>(intro hc;skip))|refine .r1 ?_ ?_|(refine .m2 ?_ ?_;intro hlen)|refine .t1 ?_ ?_ ?_|refine .an rfl (by intro aI;exact R8 (t.fields.getD i default).type) ?_ ?_|fail)
 try any_goals(exact Zo)
 all_goals(try simp only[BL]at *)
 all_goals first|(exfalso;exact hc trivial)|(refine⟨t.fields.length-(i+1),by omega,_,_,Zr,Zs,i+1,by omega,rfl,rfl,by rw[cm (n:=t.fields.length) (by omega) (by assumption)]⟩)|(show Sx.Fin _ _ _ _;(refine Sx.Fin.wk Zs ?_;repeat' first|exact .refl _|fail);done)|fail
end Go.Proofs.YthdeaajdmdmfnaaGreatDoor
namespace Go.Sx
end Go.Sx
namespace Go.Proofs.YthdeaajdmdmfnaaGreatDoor
open Go.Sx Go.Proofs Go.Tb
def xb(ts:List bj)(n:af):Option bj:=ts.find? fun t=>decide (t.name=n)
def kH:List af→List af
 |[]=>[]
 |s::l=>jw (kH l) s
theorem Bk{x:af}:∀ {l:List af},x∈kH l↔x∈l
 |[]=>Iff.rfl
 |s::l=>by rw[kH,ye,Bk (l:=l),ZK]
theorem Bl:∀ l:List af,cC (kH l)
 |[]=>vX
 |s::l=>A6 (Bl l)
end Go.Proofs.YthdeaajdmdmfnaaGreatDoor
