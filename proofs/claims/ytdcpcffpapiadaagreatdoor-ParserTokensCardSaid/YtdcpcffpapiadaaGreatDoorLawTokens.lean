/-
  The statement ParserTokens: the source that lexer.Join makes of the tokens of a source is parsed as the same. No condition: for every input.
-/
import Derived.Test.YtdcpcffpapiadaaGreatDoorCodeA
import Derived.Test.YtdcpcffpapiadaaGreatDoorCodeB
import Derived.Test.YtdcpcffpapiadaaGreatDoorGi
import Derived.Test.YtdcpcffpapiadaaGreatDoorPt
import Derived.Test.YtdcpcffpapiadaaGreatDoorSxB
import Derived.Test.YtdcpcffpapiadaaGreatDoorSxComp
import Derived.Test.YtdcpcffpapiadaaGreatDoorSxComp3
import Derived.Test.YtdcpcffpapiadaaGreatDoorSxComp4
import Derived.Test.YtdcpcffpapiadaaGreatDoorSxComp5
import Derived.Test.YtdcpcffpapiadaaGreatDoorSxCore
import Derived.Test.YtdcpcffpapiadaaGreatDoorSxCtl
import Derived.Test.YtdcpcffpapiadaaGreatDoorSxDraw
import Derived.Test.YtdcpcffpapiadaaGreatDoorSxFn
import Derived.Test.YtdcpcffpapiadaaGreatDoorSxMix2
import Derived.Test.YtdcpcffpapiadaaGreatDoorSxMix3
import Derived.Test.YtdcpcffpapiadaaGreatDoorSxMixC
import Derived.Test.YtdcpcffpapiadaaGreatDoorSxOps
import Derived.Test.YtdcpcffpapiadaaGreatDoorSxSound
import Derived.Test.YtdcpcffpapiadaaGreatDoorSxSt
import Derived.Test.YtdcpcffpapiadaaGreatDoorSxStep
import Derived.Test.YtdcpcffpapiadaaGreatDoorSxX
import Derived.Test.YtdcpcffpapiadaaGreatDoorSxX2
import Derived.Test.YtdcpcffpapiadaaGreatDoorSxX3
import Derived.Test.YtdcpcffpapiadaaGreatDoorSxZ
import Derived.Test.YtdcpcffpapiadaaGreatDoorTf
import Derived.Test.YtdcpcffpapiadaaGreatDoorTg
import Derived.Test.YtdcpcffpapiadaaGreatDoorTj
import Derived.Test.YtdcpcffpapiadaaGreatDoorTz
import Derived.Test.YtdcpcffpapiadaaGreatDoorUc
import Derived.Test.YtdcpcffpapiadaaGreatDoorUe
import Derived.Test.YtdcpcffpapiadaaGreatDoorUi
import Derived.Test.YtdcpcffpapiadaaGreatDoorVb
import Derived.Test.YtdcpcffpapiadaaGreatDoorVc
import Derived.Test.YtdcpcffpapiadaaGreatDoorWa
import Derived.Test.YtdcpcffpapiadaaGreatDoorWb
import Derived.Test.YtdcpcffpapiadaaGreatDoorWd
import Derived.Test.YtdcpcffpapiadaaGreatDoorWe
import Derived.Test.YtdcpcffpapiadaaGreatDoorWf
import Derived.Test.YtdcpcffpapiadaaGreatDoorWh
import Derived.Test.YtdcpcffpapiadaaGreatDoorWi
import Derived.Test.YtdcpcffpapiadaaGreatDoorWn
import Derived.Test.YtdcpcffpapiadaaGreatDoorWo
import Derived.Test.YtdcpcffpapiadaaGreatDoorYa
import Derived.Test.YtdcpcffpapiadaaGreatDoorYb
import Derived.Test.YtdcpcffpapiadaaGreatDoorYc
import Derived.Test.YtdcpcffpapiadaaGreatDoorYd
import Derived.Test.YtdcpcffpapiadaaGreatDoorYe
import Derived.Test.YtdcpcffpapiadaaGreatDoorYf
import Derived.Test.YtdcpcffpapiadaaGreatDoorYm
import Derived.Test.YtdcpcffpapiadaaGreatDoorZa
import Derived.Test.YtdcpcffpapiadaaGreatDoorZb
import Derived.Test.YtdcpcffpapiadaaGreatDoorZf
import Derived.Test.YtdcpcffpapiadaaGreatDoorZs
import Derived.Test.YtdcpcffpapiadaaGreatDoorTie
import Derived.Test.YtdcpcffpapiadaaGreatDoorCards
import Derived.WalkKit
import Derived.ProofKit
import Derived.Lay
import Derived.LaidOnce
import Derived.SevenTiedAt
set_option linter.unusedVariables false
namespace Go.Sx
namespace Z
end Z
end Go.Sx
namespace Go.Proofs.YtdcpcffpapiadaaGreatDoor
open Go.Sx
theorem comp7:compF Tryz.prog Tryz.f7=some c7:=by kernel_rfl
theorem era7:c7.code=a7.erase:=rfl
def s19_0:=[zam 2,zk 3 0]
def s19_1:=[za 11 0,zx 12 11,za 4 12]
def s19_2:=[za 13 4,za3 14 13 0,za 15 14,zi 16 0 15,zi 17 4 15,zbo 18 17 1 15,zz 19 3 16 18 15,zaj 20 0 19 15,zo 21 1 20 15,zae 22 21 6 15,zj 23 15 22,za 24 23,zi 25 0 24,zi 26 4 24,zbo 27 26 1 24,zz 28 3 25 27 24,zaj 29 1 28 24,zo 30 1 29 24,q1 31 (.bin .eql (.tmp 30) (ks ⟨#[]⟩)) 24 true,zj 32 24 31]
def s19_3:=[za 33 0,za 34 4,zw 35 34 1,q0 36 (.slice 3 (.tmp 33) none (some (.tmp 35))),za 0 36]
def s19_4:=[za 37 0,zx 38 37,zk 39 0]
def s19_5:=[zr 40 39 38]
def s19_6:=[za 41 39,zf 42 3 37 39,zp 43 3 42,zbk 6 80,za 5 41,zc 3 6 43]
def s19_7:=[zp 44 3 6,zl 45 43 44,za 7 45]
def s19_8:=[za 47 7,zaw 48 47 22 47,zl 49 18 48,za 46 49,zh 50 46 0,zh 51 46 1,zh 52 46 2,za 8 50,za 9 51,za 10 52]
def s19_9:=[za 53 10,zat 54 53 0,za 55 54,zq 56 9 55,zba 57 56 55,za9 58 57 0 55,zm 59 55 58,za 60 59,zq 61 8 60,zba 62 61 60,zav 63 62 2 60,zm 64 60 63,za 65 64,zq 66 8 65,q1 67 (.iaddr 3 (.tmp 66) (ki 0)) 65 false,zao 68 3 67 65,zs 69 0 6 65,zt 70 1 69 65,zs 71 1 6 65,zt 72 1 71 65,q1 73 (.build [.int .i64 0,.string ⟨#[]⟩,.int .i64 0] [(0,1,.tmp 70),(1,1,.tmp 72)]) 65 false,q1 74 (.eqs true [.int,.str,.int] (.tmp 68) (.tmp 73)) 65 false,zm 75 65 74]
def s19_10:=[zam 2,zk 3 3]
def s19_11:=[za 76 5,za3 77 76 0]
def s19_12:=[za 78 2,q0 79 (.mksl 5 1 [.const (.int .u8 32)]),za0 80 5 78 79,za 2 80]
def s19_13:=[za 81 2,za 82 7,za0 83 5 81 82,za 2 83]
def s19_14:=[zn 84 39 1,za 39 84]
def s19_15:=[za 85 2,zx 86 85,za3 87 86 16384]
def s19_16:=[zam 2,zk 3 2]
def s19_17:=[za 88 2,za 2 88,zk 3 0]
def a19:AC:=Z.r s19_0 [0,2] (Z.s (Z.r s19_1 [0,2,4] (Z.r s19_2 [0,2,4,32] (Z.c 32 (Z.g s19_3) .skip))) [0,2] (Z.s (Z.r s19_4 [2,37,38,39] (Z.b 0 (Z.l [2,37,38,39] (Z.r s19_5 [2,37,38,39,40] (Z.s (Z.c 40 .skip (.exit 0)) [2,37,38,39] (Z.s (Z.b 1 (Z.r s19_6 [2,5,6,37,38,39] (Z.r s19_7 [2,5,6,7,37,38,39] (Z.r s19_8 [2,5,6,7,8,9,10,37,38,39] (Z.s (Z.d s19_9 [2,5,7,37,38,39,75] (Z.c 75 (Z.e s19_10) .skip)) [2,5,7,37,38,39] (Z.s (Z.r s19_11 [2,7,37,38,39,77] (Z.c 77 (Z.g s19_12) .skip)) [2,7,37,38,39] (Z.g s19_13))))))) [2,37,38,39] (Z.g s19_14))))))) [2] (Z.s (Z.r s19_15 [2,87] (Z.c 87 (Z.e s19_16) .skip)) [2] (Z.e s19_17))))
def c19:FC:=⟨89,a19.erase,[.tmp 2,.tmp 3]⟩
theorem comp19:compF Tryz.prog Tryz.f19=some c19:=by kernel_rfl
theorem era19:c19.code=a19.erase:=rfl
def s43_0:=[za4 1 80 0,zc2 2]
def s43_1:=[zg 3 0 1,ze 4 1 3,zab 5 4 4]
def s43_2:=[zg 6 1 1,ze 7 1 6,q0 8 (.bin .add (ks ⟨#[34]⟩) (.tmp 7)),q0 9 (.bin .add (.tmp 8) (ks ⟨#[34]⟩)),za 2 9]
def s43_3:=[zg 10 1 1,ze 11 1 10,za 2 11]
def a43:AC:=Z.r s43_0 [1] (Z.s (Z.r s43_1 [1,5] (Z.c 5 (Z.e s43_2) .skip)) [1] (Z.e s43_3))
def c43:FC:=⟨12,a43.erase,[.tmp 2]⟩
theorem comp43:compF Tryz.prog Tryz.f43=some c43:=by kernel_rfl
theorem era43:c43.code=a43.erase:=rfl
end Go.Proofs.YtdcpcffpapiadaaGreatDoor
namespace Go.Proofs.YtdcpcffpapiadaaGreatDoor
open Go.Sx Go.Proofs
def wholeP{α:Type}(f:List Tok→PR α)(z:α)(s:Bs):α×Int×Int:=
 if s.length>16384 then(z,0,2)else
 match(toksL s).2 with
 |b::_=>(z,b.at_,b.code)
 |[]=>match(f (toksL s).1).bind fun a L=>if(hd L).kind≠6 then wrongP L else .ok a L with
  | .ok a _=>(a,0,0)
  | .err p c=>(z,p,c)
set_option linter.unusedSimpArgs false
set_option maxRecDepth 100000
def ex0:Ex:= .mk 0 ⟨#[]⟩ ⟨#[]⟩ ⟨#[]⟩ v0 [] 0 w0 []
set_option linter.unusedSimpArgs false
set_option linter.unusedSectionVars false
set_option maxRecDepth 100000
set_option maxHeartbeats 8000000
abbrev wX(s:Bs):Ex×Int×Int:=wholeP (exprP N0 false) ex0 s
def atX(s:Bs):Int:=if(wholeB (exprP N0 false) s).1.2=0 then 0 else(wholeB (exprP N0 false) s).1.1
theorem codeX(s:Bs):(wholeB (exprP N0 false) s).1.2=(wX s).2.2:=by
 unfold wX wholeB wholeP
 split
 ·rfl
 ·split
  ·rename_i h;rw[h]
  ·rename_i h;rw[h];simp only
   cases exprP N0 false (toksL s).1 with
   |err p c=>rfl
   |ok a L=>
    rw[PR.bind_ok]
    simp only
    by_cases hk:(hd L).kind≠6
    ·rw[if_pos hk,if_pos hk];rfl
    ·rw[if_neg hk,if_neg hk]
theorem valX(s:Bs):(if(wX s).2.2=0 then(wholeB (exprP N0 false) s).2.getD ex0 else ex0)=(wX s).1:=by
 rw[← codeX]
 unfold wX wholeB wholeP
 split
 ·rfl
 ·split
  ·rename_i h;rw[h];simp
  ·rename_i h;rw[h];simp only
   cases exprP N0 false (toksL s).1 with
   |err p c=>simp[PR.bind]
   |ok a L=>
    rw[PR.bind_ok]
    simp only
    by_cases hk:(hd L).kind≠6
    ·rw[if_pos hk,if_pos hk];rfl
    ·rw[if_neg hk,if_neg hk];rfl
theorem zE_wk:WkL zE ex0.row:=by
 refine .cons (.refl _) (.cons (.refl _) (.cons (.refl _) (.cons (.refl _) (.cons (.refl _) (.cons (.refl _) (.cons (.refl _) (.cons .nil (.cons (.refl _) (.cons (.refl _) (.cons (.refl _) (.cons .nil .nil)))))))))))
theorem Pure.wkr{f:FuncId}{xs:List AV}{r r':AV}(h:Sx.Pure Tryz.prog f xs r)(hw:Wk r r'):Sx.Pure Tryz.prog f xs r':=
 ⟨fun σ=>(h.sp σ).weak fun q σ' ⟨e1,e2⟩=>⟨.ret r',σ,⟨rfl,rfl⟩,by subst e2;exact .refl _,by subst e1;exact hw⟩⟩
theorem exprT(s:List UInt8)(nn:Bool):Sx.Pure Tryz.prog 10 [.sl nn 1 (s.map byteRow)] (.tup [.agg (wX s).1.row,iv (atX s),iv (wX s).2.2]):=by
 refine Pure.wkr (exprA s nn) ?_
 have hv:=valX s
 unfold exprV atX
 rw[codeX]at *
 by_cases h:(wX s).2.2=0
 ·rw[if_pos h,if_pos h,h]
  rw[if_pos h]at hv
  cases hB:(wholeB (exprP N0 false) s).2 with
  |none=>
   rw[hB]at hv
   rw[← hv]
   exact .tup (.cons (.agg zE_wk) (WkL.refl _))
  |some a=>
   rw[hB]at hv
   rw[← hv]
   exact .tup (.cons (.agg (by rw[Option.elim_some,Option.getD_some];exact WkL.refl _)) (WkL.refl _))
 ·rw[if_neg h,if_neg h]
  rw[if_neg h]at hv
  rw[← hv]
  exact .tup (.cons (.agg zE_wk) (WkL.refl _))
theorem app_toList(a b:Str):(a++b).data.toList=a.data.toList++b.data.toList:=by
 show((ByteArray.append a b).data).toList=_
 simp
set_option linter.unusedSimpArgs false
set_option linter.unusedSectionVars false
set_option maxRecDepth 100000
set_option maxHeartbeats 8000000
theorem app_sz(a b:Str):(a++b).size=a.size+b.size:=by rw[Lib.size_eq,Lib.size_eq,Lib.size_eq,app_toList,List.length_append]
set_option linter.unusedSimpArgs false
set_option linter.unusedSectionVars false
def srcT(t:Tok):Bs:=if t.kind=4 then 34::(t.text.data.toList++[34])else t.text.data.toList
def jnT:List Tok→Bs
 |[]=>[]
 |[t]=>srcT t
 |t::u::L=>srcT t++32::jnT (u::L)
def posT:Int→List Tok→List Tok
 |p,[]=>[⟨6,⟨#[]⟩,p⟩]
 |p,[t]=>[⟨t.kind,t.text,p⟩,⟨6,⟨#[]⟩,p+(srcT t).length⟩]
 |p,t::u::L=>⟨t.kind,t.text,p⟩::posT (p+(srcT t).length+1) (u::L)
def StpB(p:UInt8→Bool)(r:Bs):Prop:=r=[]∨∃ x t,r=x::t∧p x=false
def Sepr(r:Bs):Prop:=r=[]∨∃ t,r=32::t
theorem Sepr.stop{r:Bs}(h:Sepr r){p:UInt8→Bool}(hp:p 32=false):StpB p r:=by
 rcases h with rfl|⟨t,rfl⟩
 ·exact .inl rfl
 ·exact .inr ⟨_,_,rfl,hp⟩
theorem tw_app{p:UInt8→Bool}{r:Bs}(hr:StpB p r):∀ u:Bs,(∀ c∈u,p c=true)→(u++r).takeWhile p=u
 |[],_=>by rcases hr with rfl|⟨x,t,rfl,hx⟩<;>simp[List.takeWhile, *]
 |c::u,h=>by
  rw[List.cons_append,List.takeWhile_cons,h c List.mem_cons_self,if_pos rfl,tw_app hr u fun x hx=>h x (List.mem_cons_of_mem _ hx)]
theorem tw_split(p:UInt8→Bool):∀ u:Bs,∃ r,u=u.takeWhile p++r∧StpB p r∧∀ c∈u.takeWhile p,p c=true
 |[]=>⟨[],rfl,.inl rfl,by simp⟩
 |c::u=>by
  by_cases h:p c=true
  ·obtain⟨r,h1,h2,h3⟩:=tw_split p u
   refine⟨r,?_,h2,?_⟩
   ·rw[List.takeWhile_cons,if_pos h,List.cons_append,← h1]
   ·rw[List.takeWhile_cons,if_pos h]
    intro x hx
    rcases List.mem_cons.1 hx with rfl|hx
    ·exact h
    ·exact h3 x hx
  ·refine⟨c::u,?_,.inr ⟨c,u,rfl,by simpa using h⟩,?_⟩
   ·rw[List.takeWhile_cons,if_neg h];rfl
   ·rw[List.takeWhile_cons,if_neg h];simp
theorem span_stop{p:UInt8→Bool}{r:Bs}(hr:StpB p r){u:Bs}(h:∀ c∈u,p c=true):spanN p (u++r)=u.length:=by unfold spanN;rw[tw_app hr u h]
theorem pc_word{c:UInt8}{W r:Bs}(hc:clsB c=2)(hW:∀ x∈c::W,isW x=true)(hr:StpB isW r):pieceL (c::(W++r))=(1,W.length+1,if W.length+1>24 then 2 else 0):=by
 have h:spanN isW (c::(W++r))=W.length+1:=span_stop (u:=c::W) hr hW
 unfold pieceL;simp[hc,h]
theorem pc_int{c:UInt8}{W r:Bs}(hc:clsB c=3)(hW:∀ x∈c::W,isD x=true)(hr:StpB isD r)(hn:¬(r.head? =some 46∧spanN isD (r.drop 1)>0)):pieceL (c::(W++r))=(2,W.length+1,intE (c::W)):=by
 have h:spanN isD (c::(W++r))=W.length+1:=span_stop (u:=c::W) hr hW
 have h2:(c::(W++r)).drop (W.length+1)=r:=by simp
 have h3:(c::(W++r)).take (W.length+1)=c::W:=by simp
 unfold pieceL;simp only[h,h2,h3,hc]
 rw[if_neg (by decide),if_neg (by decide),if_neg (by decide),if_pos trivial,if_neg hn]
theorem pc_dec{c:UInt8}{W V r:Bs}(hc:clsB c=3)(hW:∀ x∈c::W,isD x=true)(hV:∀ x∈V,isD x=true)(hv:V≠[])(hr:StpB isD r):pieceL (c::(W++(46::(V++r))))=(3,W.length+1+1+V.length,decE (c::(W++46::V))):=by
 have h:spanN isD (c::(W++(46::(V++r))))=W.length+1:=span_stop (u:=c::W) (.inr ⟨46,_,rfl,by decide⟩) hW
 have h2:(c::(W++(46::(V++r)))).drop (W.length+1)=46::(V++r):=by simp
 have h4:spanN isD (V++r)=V.length:=span_stop hr hV
 have h3:(c::(W++(46::(V++r)))).take (W.length+1+1+V.length)=c::(W++46::V):=by
  have:c::(W++(46::(V++r)))=(c::(W++46::V))++r:=by simp
  rw[this,List.take_append_of_le_length (by simp;omega),List.take_of_length_le (by simp;omega)]
 unfold pieceL;simp only[h,h2,hc,List.drop_succ_cons,List.drop_zero,h4,List.head?_cons]
 rw[if_neg (by decide),if_neg (by decide),if_neg (by decide),if_pos trivial,if_pos ⟨trivial,List.length_pos_iff.2 hv⟩,h3]
theorem pc_text{W r:Bs}(hW:∀ x∈W,(x != 34 && x != 10)=true):pieceL (34::(W++34::r))=(4,W.length+2,unfitE W):=by
 have h:spanN (fun b=>b != 34 && b != 10) (W++34::r)=W.length:=span_stop (.inr ⟨34,_,rfl,by decide⟩) hW
 have hc:clsB 34=5:=by decide
 unfold pieceL;simp[h,hc]
theorem pc_two{c:UInt8}(r:Bs)(hc:clsB c=7∨clsB c=8)(h:c=61∨c=33∨c=60):pieceL (c::61::r)=(5,2,0):=by
 unfold pieceL
 simp only
 rw[if_neg (by omega),if_neg (by omega),if_neg (by omega),if_neg (by omega),if_neg (by omega),if_pos hc,if_pos ⟨rfl,h⟩]
theorem pc_one{c:UInt8}{r:Bs}(hc:clsB c=7∨clsB c=8)(h:c≠33)(hr:¬(r.head? =some 61∧(c=61∨c=33∨c=60))):pieceL (c::r)=(5,1,0):=by
 unfold pieceL
 simp only
 rw[if_neg (by omega),if_neg (by omega),if_neg (by omega),if_neg (by omega),if_neg (by omega),if_pos hc,if_neg hr,if_pos h]
structure PTok(u w:Bs):Prop where
 app:∃ R,u=w++R
 len:w.length=(pieceL u).2.1
 ne:w≠[]
 self:∀ r,Sepr r→pieceL (w++r)=pieceL u
 text:(pieceL u).1=4→∃ Q,w=34::(Q++[34])
 kind:(pieceL u).1≤5
theorem piece_self{u:Bs}(hk:1≤(pieceL u).1):∃ w,PTok u w:=by
 cases u with
 |nil=>exact absurd hk (by decide)
 |cons c rr=>
 by_cases k2:clsB c=2
 ·obtain⟨r,h1,h2,h3⟩:=tw_split isW (c::rr)
  have hcW:isW c=true:=by unfold isW;simp[k2]
  rw[List.takeWhile_cons,if_pos hcW]at h1 h3
  generalize rr.takeWhile isW=W at *
  have e1:rr=W++r:=by simpa using h1
  subst e1
  have hp:=pc_word k2 h3 h2
  refine⟨c::W,⟨r,rfl⟩,by rw[hp];rfl,by simp,fun r' hr'=> ?_,fun h=>by rw[hp]at h;exact absurd h (show¬(1:Int)=4 by decide),by rw[hp];exact(show(1:Int)≤5 by decide)⟩
  rw[hp];exact pc_word k2 h3 (hr'.stop (by decide))
 by_cases k3:clsB c=3
 ·obtain⟨r,h1,h2,h3⟩:=tw_split isD (c::rr)
  have hcD:isD c=true:=by unfold isD;simp[k3]
  rw[List.takeWhile_cons,if_pos hcD]at h1 h3
  generalize rr.takeWhile isD=W at *
  have e1:rr=W++r:=by simpa using h1
  subst e1
  by_cases hd:r.head? =some 46∧spanN isD (r.drop 1)>0
  ·obtain⟨d1,d2⟩:=hd
   cases r with
   |nil=>cases d1
   |cons x r=>
   obtain rfl:x=46:=by simpa using d1
   simp only[List.drop_succ_cons,List.drop_zero]at d2
   obtain⟨r2,g1,g2,g3⟩:=tw_split isD r
   have hv:r.takeWhile isD≠[]:=by unfold spanN at d2;exact List.length_pos_iff.1 d2
   generalize r.takeWhile isD=V at *
   subst g1
   have hp:=pc_dec k3 h3 g3 hv g2
   refine⟨c::(W++46::V),⟨r2,by simp⟩,by rw[hp];simp;omega,by simp,fun r' hr'=> ?_,fun h=>by rw[hp]at h;exact absurd h (show¬(3:Int)=4 by decide),by rw[hp];exact(show(3:Int)≤5 by decide)⟩
   rw[hp,← pc_dec (r:=r') k3 h3 g3 hv (hr'.stop (by decide))];simp
  ·have hp:=pc_int k3 h3 h2 hd
   refine⟨c::W,⟨r,rfl⟩,by rw[hp];rfl,by simp,fun r' hr'=> ?_,fun h=>by rw[hp]at h;exact absurd h (show¬(2:Int)=4 by decide),by rw[hp];exact(show(2:Int)≤5 by decide)⟩
   rw[hp];refine pc_int k3 h3 (hr'.stop (by decide)) fun⟨h,_⟩=> ?_
   rcases hr' with rfl|⟨t,rfl⟩
   ·cases h
   ·exact absurd (Option.some.inj h) (by decide)
 by_cases k5:clsB c=5
 ·have hc:c=34:=by
   unfold clsB at k5
   repeat' split at k5
   all_goals first|assumption|(exfalso;revert k5;decide)
  subst hc
  obtain⟨r,h1,h2,h3⟩:=tw_split (fun b=>b != 34 && b != 10) rr
  have hspan:spanN (fun b=>b != 34 && b != 10) rr=(rr.takeWhile fun b=>b != 34 && b != 10).length:=rfl
  generalize rr.takeWhile (fun b=>b != 34 && b != 10)=W at *
  subst h1
  by_cases hq:r.head? =some 34
  ·cases r with
   |nil=>cases hq
   |cons x r=>
   obtain rfl:x=34:=by simpa using hq
   have hp:=pc_text (r:=r) h3
   refine⟨34::(W++[34]),⟨r,by simp⟩,by rw[hp];simp,by simp,fun r' hr'=> ?_,fun _=>⟨W,rfl⟩,by rw[hp];exact(show(4:Int)≤5 by decide)⟩
   rw[hp,← pc_text (r:=r') h3];simp
  ·exfalso
   have:pieceL (34::(W++r))=(-1,1,80):=by
    unfold pieceL
    simp only[hspan,show clsB 34=5 by decide]
    rw[if_neg (by decide),if_neg (by decide),if_neg (by decide),if_neg (by decide),if_pos trivial,if_neg (by simpa using hq)]
   rw[this]at hk
   exact absurd hk (by decide)
 by_cases k7:clsB c=7∨clsB c=8
 ·by_cases h61:rr.head? =some 61∧(c=61∨c=33∨c=60)
  ·obtain⟨d1,d2⟩:=h61
   cases rr with
   |nil=>cases d1
   |cons x r=>
   obtain rfl:x=61:=by simpa using d1
   have hp:=pc_two r k7 d2
   refine⟨[c,61],⟨r,rfl⟩,by rw[hp];rfl,by simp,fun r' hr'=> ?_,fun h=>by rw[hp]at h;exact absurd h (show¬(5:Int)=4 by decide),by rw[hp];exact(show(5:Int)≤5 by decide)⟩
   rw[hp];exact pc_two r' k7 d2
  ·by_cases h33:c=33
   ·exfalso
    have:pieceL (c::rr)=(-1,1,80):=by
     unfold pieceL
     simp only
     rw[if_neg (by omega),if_neg (by omega),if_neg (by omega),if_neg (by omega),if_neg (by omega),if_pos k7,if_neg h61,if_neg (by simpa using h33)]
    rw[this]at hk
    exact absurd hk (by decide)
   ·have hp:=pc_one k7 h33 h61
    refine⟨[c],⟨rr,rfl⟩,by rw[hp];rfl,by simp,fun r' hr'=> ?_,fun h=>by rw[hp]at h;exact absurd h (show¬(5:Int)=4 by decide),by rw[hp];exact(show(5:Int)≤5 by decide)⟩
    rw[hp];refine pc_one k7 h33 fun⟨h,_⟩=> ?_
    rcases hr' with rfl|⟨t,rfl⟩
    ·cases h
    ·exact absurd (Option.some.inj h) (by decide)
 ·exfalso
  have:(pieceL (c::rr)).1≤0:=by
   unfold pieceL
   simp only
   by_cases k1:clsB c=1
   ·rw[if_pos k1];decide
   by_cases k6:clsB c=6
   ·rw[if_neg k1,if_pos k6];exact Int.le_refl 0
   rw[if_neg k1,if_neg k6,if_neg k2,if_neg k3,if_neg k5,if_neg k7];decide
  omega
structure GoodT(t:Tok):Prop where
 kind:1≤t.kind∧t.kind≤5
 ne:srcT t≠[]
 self:∀ r,Sepr r→pieceL (srcT t++r)=(t.kind,(srcT t).length,0)
def Up:Int→List Tok→Prop
 |_,[]=>True
 |lo,t::L=>lo≤t.at_∧Up (t.at_+1) L
theorem Up.mono:∀ {L:List Tok} {lo lo':Int},Up lo L→lo'≤lo→Up lo' L
 |[],_,_,_,_=>trivial
 |t::L,lo,lo',h,hl=>⟨by have:=h.1;omega,h.2⟩
theorem Up.ge:∀ {L:List Tok} {lo:Int},Up lo L→∀ t∈L,lo≤t.at_
 |[],_,_,t,h=>by cases h
 |u::L,lo,h,t,ht=>by
  rcases List.mem_cons.1 ht with rfl|ht
  ·exact h.1
  ·have:=h.2.ge t ht
   have:=h.1
   omega
theorem ba_toList(s:Str):(⟨s.data.toList.toArray⟩:Str)=s:=by cases s;simp
theorem src_of{u w:Bs}{at_:Int}(hw:PTok u w):srcT (if(pieceL u).1=4 then⟨4,⟨((u.take ((pieceL u).2.1-1)).drop 1).toArray⟩,at_⟩else⟨(pieceL u).1,⟨(u.take (pieceL u).2.1).toArray⟩,at_⟩)=w:=by
 obtain⟨R,hR⟩:=hw.app
 have hl:=hw.len
 unfold srcT
 by_cases h4:(pieceL u).1=4
 ·obtain⟨Q,hQ⟩:=hw.text h4
  rw[if_pos h4,if_pos rfl,← hl]
  have:(u.take (w.length-1)).drop 1=Q:=by
   rw[hR,hQ];simp
  simp only[this]
  simp[hQ]
 ·rw[if_neg h4,if_neg h4,← hl]
  have:u.take w.length=w:=by rw[hR];simp
  simp only[this]
theorem good_of{u:Bs}(at_:Int)(hk:1≤(pieceL u).1)(he:(pieceL u).2.2=0):GoodT (if(pieceL u).1=4 then⟨4,⟨((u.take ((pieceL u).2.1-1)).drop 1).toArray⟩,at_⟩else⟨(pieceL u).1,⟨(u.take (pieceL u).2.1).toArray⟩,at_⟩)∧(srcT (if(pieceL u).1=4 then⟨4,⟨((u.take ((pieceL u).2.1-1)).drop 1).toArray⟩,at_⟩else⟨(pieceL u).1,⟨(u.take (pieceL u).2.1).toArray⟩,at_⟩)).length=(pieceL u).2.1:=by
 obtain⟨w,hw⟩:=piece_self hk
 have hs:=src_of (at_:=at_) hw
 have hkd:(if(pieceL u).1=4 then(⟨4,⟨((u.take ((pieceL u).2.1-1)).drop 1).toArray⟩,at_⟩:Tok)else⟨(pieceL u).1,⟨(u.take (pieceL u).2.1).toArray⟩,at_⟩).kind=(pieceL u).1:=by
  split
  ·rename_i h;exact h.symm
  ·rfl
 refine⟨⟨by rw[hkd];exact⟨hk,hw.kind⟩,by rw[hs];exact hw.ne,fun r hr=> ?_⟩,by rw[hs];exact hw.len⟩
 rw[hs,hkd,hw.self r hr,hw.len,← he]
theorem join_cons(t:Tok)(L:List Tok):(jnT (t::L)).length≤(srcT t).length+1+(jnT L).length:=by
 cases L with
 |nil=>show(srcT t).length≤_;omega
 |cons u L=>show(srcT t++32::jnT (u::L)).length≤_;simp;omega
theorem lex_good:∀ (n:Nat) (at_:Int) (u:Bs),u.length≤n→0≤at_→(lexL n at_ (-1) u).2=[]→∃ A,(lexL n at_ (-1) u).1=A++[⟨6,⟨#[]⟩,at_+u.length⟩]∧(∀ t∈A,GoodT t)∧Up at_ (A++[⟨6,⟨#[]⟩,at_+u.length⟩])∧(jnT A).length≤2 * u.length
 |n,at_,[],_,h0,_=>⟨[],by rw[lex_nil];simp,by simp,⟨by simp,trivial⟩,Nat.le_refl _⟩
 |0,_,c::u,h,_,_=>by simp at h
 |n+1,at_,c::u,hn,h0,hb=>by
  obtain⟨p1,p2⟩:=piece_len (u:=c::u) (by simp)
  have hne:c::u≠[]:=by simp
  generalize hU:c::u=U at *
  have ih:=lex_good n (at_+(pieceL U).2.1) (U.drop (pieceL U).2.1) (by rw[List.length_drop];omega) (by omega)
  have hl:at_+((pieceL U).2.1:Int)+((U.drop (pieceL U).2.1).length:Int)=at_+(U.length:Int):=by rw[List.length_drop];omega
  have hl2:(U.drop (pieceL U).2.1).length=U.length-(pieceL U).2.1:=List.length_drop
  rw[hl]at ih
  rw[lex_step _ _ _ hne]at hb ⊢
  have hgood:1≤(pieceL U).1→(pieceL U).2.2=0→_:=good_of (u:=U) at_
  by_cases k:(pieceL U).1= -1
  ·rw[if_pos k,if_pos (by omega)]at hb
   cases hb
  rw[if_neg k]at hb ⊢
  by_cases k2:(pieceL U).2.2≠0
  ·rw[if_pos k2]at hb;cases hb
  rw[if_neg k2]at hb ⊢
  have k2:(pieceL U).2.2=0:=by simpa using k2
  by_cases k4:(pieceL U).1=4
  ·rw[if_pos k4]at hb ⊢
   obtain⟨A,a1,a2,a3,a4⟩:=ih hb
   obtain⟨g1,g2⟩:=hgood (by omega) k2
   rw[if_pos k4]at g1 g2
   refine⟨_::A,by rw[a1];rfl,fun x hx=> ?_,⟨Int.le_refl _,a3.mono ?_⟩,?_⟩
   ·rcases List.mem_cons.1 hx with rfl|hx
    ·exact g1
    ·exact a2 x hx
   ·simp only;omega
   ·refine Nat.le_trans (join_cons _ A) ?_
    omega
  rw[if_neg k4]at hb ⊢
  by_cases k0:(pieceL U).1≠0
  ·rw[if_pos k0]at hb ⊢
   obtain⟨A,a1,a2,a3,a4⟩:=ih hb
   have hkk: -1≤(pieceL U).1:=piece_ge U
   obtain⟨g1,g2⟩:=hgood (by omega) k2
   rw[if_neg k4]at g1 g2
   refine⟨_::A,by rw[a1];rfl,fun x hx=> ?_,⟨Int.le_refl _,a3.mono ?_⟩,?_⟩
   ·rcases List.mem_cons.1 hx with rfl|hx
    ·exact g1
    ·exact a2 x hx
   ·simp only;omega
   ·refine Nat.le_trans (join_cons _ A) ?_
    omega
  ·rw[if_neg k0]at hb ⊢
   obtain⟨A,a1,a2,a3,a4⟩:=ih hb
   exact⟨A,a1,a2,a3.mono (by omega),by omega⟩
where piece_ge:∀ u:Bs, -1≤(pieceL u).1
 |[]=>by decide
 |c::r=>by
  unfold pieceL
  simp only
  repeat' split
  all_goals first|decide|(simp only;omega)
theorem lex_join:∀ (L:List Tok) (n:Nat) (p:Int),(∀ t∈L,GoodT t)→(jnT L).length≤n→lexL n p (-1) (jnT L)=(posT p L,[])
 |[],n,p,_,_=>by show lexL n p (-1) []=_;rw[lex_nil];rfl
 |t::L,n,p,hg,hn=>by
  obtain⟨g1,g2,g3⟩:=hg t List.mem_cons_self
  obtain⟨r,hr,hs⟩:∃ r,jnT (t::L)=srcT t++r∧Sepr r:=by
   cases L with
   |nil=>exact⟨[],by simp[jnT],.inl rfl⟩
   |cons u L=>exact⟨32::jnT (u::L),rfl,.inr ⟨_,rfl⟩⟩
  have hlen:1≤(srcT t).length:=List.length_pos_iff.2 g2
  rw[hr]at hn ⊢
  rw[List.length_append]at hn
  obtain⟨m,rfl⟩:∃ m,n=m+1:=⟨n-1,by omega⟩
  have hne:srcT t++r≠[]:=by
   intro h;have:=congrArg List.length h;rw[List.length_append]at this;simp at this;exact g2 this.1
  rw[lex_step _ _ _ hne,g3 r hs]
  simp only
  have hk1:¬t.kind= -1:=by omega
  rw[if_neg hk1,if_neg (by simp)]
  have hdrop:(srcT t++r).drop (srcT t).length=r:=by simp
  have htake:(srcT t++r).take (srcT t).length=srcT t:=by simp
  rw[hdrop,htake]
  have hrest:lexL m (p+((srcT t).length:Int)) (-1) r=((posT p (t::L)).tail,[]):=by
   cases L with
   |nil=>
    have:r=[]:=by have:srcT t++r=srcT t:=by rw[← hr];rfl
                  simpa using this
    subst this
    rw[lex_nil];rfl
   |cons u L=>
    have hr2:r=32::jnT (u::L):=by
     have:srcT t++r=srcT t++32::jnT (u::L):=by rw[← hr];rfl
     simpa using this
    subst hr2
    rw[List.length_cons]at hn
    obtain⟨m2,rfl⟩:∃ m2,m=m2+1:=⟨m-1,by omega⟩
    rw[lex_step _ _ _ (by simp)]
    have hp:pieceL (32::jnT (u::L))=(0,1,0):=rfl
    rw[hp]
    simp only
    rw[if_neg (by decide),if_neg (by decide),if_neg (by decide),if_neg (by decide)]
    exact lex_join (u::L) m2 _ (fun x hx=>hg x (List.mem_cons_of_mem _ hx)) (by omega)
  rw[hrest]
  simp only
  have hshape:∀ x:Str,x=t.text→((⟨t.kind,x,p⟩:Tok)::(posT p (t::L)).tail,([]:List Prb))=(posT p (t::L),[]):=fun x hx=>by
   subst hx
   cases L<;>rfl
  by_cases h4:t.kind=4
  ·rw[if_pos h4]
   have hsrc:srcT t=34::(t.text.data.toList++[34]):=by unfold srcT;rw[if_pos h4]
   have:(((srcT t++r).take ((srcT t).length-1)).drop 1)=t.text.data.toList:=by
    rw[hsrc];simp
   rw[this,← h4]
   exact hshape _ (ba_toList _)
  ·rw[if_neg h4,if_pos (by omega)]
   have hsrc:srcT t=t.text.data.toList:=by unfold srcT;rw[if_neg h4]
   exact hshape _ ((congrArg (fun l:Bs=>(⟨l.toArray⟩:Str)) hsrc).trans (ba_toList _))
theorem toks_join{L:List Tok}(hg:∀ t∈L,GoodT t):toksL (jnT L)=(posT 0 L,[]):=by
 unfold toksL
 simp only
 rw[lex_join L _ 0 hg (Nat.le_refl _)];rfl
set_option linter.unusedSimpArgs false
set_option linter.unusedSectionVars false
def reT(φ:Int→Int)(t:Tok):Tok:=⟨t.kind,t.text,φ t.at_⟩
def reP(φ:Int→Int)(p:Prb):Prb:=⟨φ p.at_,p.code⟩
theorem alike_re(φ:Int→Int):Alike (fun L1 L2=>EndL L1∧L2=L1.map (reT φ)) (fun _=>False) φ (fun _=>False) where
 head:=fun {L1 L2} ⟨h,e⟩=>by
  subst e
  obtain⟨M,t,rfl,_⟩:=h
  cases M<;>exact .inl ⟨rfl,rfl,rfl⟩
 tail:=fun {L1 L2} ⟨h,e⟩ hk=>by
  subst e
  exact .inr ⟨(h.tail hk).1,by cases L1<;>rfl⟩
 dead:=fun h _=>h
 deadE:=fun h _=>h
theorem sim_re{α:Type}{n:Nat}{f:List Tok→PR α}(φ:Int→Int)(hf:Sm (fun L1 L2=>EndL L1∧L2=L1.map (reT φ)) (fun _=>False) φ (fun _=>False) n f){L:List Tok}(h:EndL L):(∀ v L',f L= .ok v L'→f (L.map (reT φ))= .ok v (L'.map (reT φ)))∧∀ p c,f L= .err p c→f (L.map (reT φ))= .err (φ p) c:=by
 have hs:=hf.sim L (L.map (reT φ)) h ⟨h,rfl⟩
 refine⟨fun v L' e=> ?_,fun p c e=> ?_⟩
 ·rcases hs.ok v L' e with hD|⟨L2,e2,_,e3⟩
  ·exact hD.elim
  ·rw[e2,e3]
 ·rcases hs.err p c e with hD|e2
  ·exact hD.elim
  ·exact e2
def Keeps(S:Int→Prop)(φ:Int→Int):Prop:=∀ a b,S a→S b→(φ a<φ b↔a<b)
section
variable {S:Int→Prop}{φ:Int→Int}
theorem skipTo_re(hφ:Keeps S φ){x:Int}(hx:S x):∀ L:List Tok,(∀ t∈L,S t.at_)→skipTo (φ x) (L.map (reT φ))=(skipTo x L).map (reT φ)
 |[],_=>rfl
 |[t],_=>rfl
 |t::u::L,hS=>by
  have ih:=skipTo_re hφ hx (u::L) fun a ha=>hS a (List.mem_cons_of_mem _ ha)
  simp only[List.map_cons]at ih ⊢
  unfold skipTo
  have hc:((reT φ t).at_<φ x∨(reT φ t).kind≠5∨(reT φ t).text≠ch 59)↔(t.at_<x∨t.kind≠5∨t.text≠ch 59):=by
   show(φ t.at_<φ x∨t.kind≠5∨t.text≠ch 59)↔_
   rw[hφ _ _ (hS t List.mem_cons_self) hx]
  by_cases h:t.at_<x∨t.kind≠5∨t.text≠ch 59
  ·rw[if_pos (hc.2 h),if_pos h];exact ih
  ·rw[if_neg fun k=>h (hc.1 k),if_neg h];rfl
theorem behind_re(hφ:Keeps S φ){x:Int}(hx:S x)(L:List Tok)(hS:∀ t∈L,S t.at_):behindP (φ x) (L.map (reT φ))=(behindP x L).map (reT φ):=by
 unfold behindP
 rw[skipTo_re hφ hx L hS,List.length_map]
 split
 ·rw[List.map_tail]
 ·rfl
theorem behind_mem(x:Int)(L:List Tok)(hL:L≠[]):∀ t∈behindP x L,t∈L:=fun t ht=>by
 have h:=(skipTo_suf x L hL).1
 unfold behindP at ht
 split at ht
 ·exact h.subset (List.mem_of_mem_tail ht)
 ·exact h.subset ht
theorem modL_re(hφ:Keeps S φ):∀ (n:Nat) (L:List Tok),EndL L→(∀ t∈L,S t.at_)→modL n (L.map (reT φ)) mdl0 []=((modL n L mdl0 []).1,(modL n L mdl0 []).2.map (reP φ))
 |0,L,h,_=>rfl
 |n+1,L,h,hS=>by
  have hk:(hd (L.map (reT φ))).kind=(hd L).kind:=by
   obtain⟨M,t,rfl,_⟩:=h
   cases M<;>rfl
  unfold modL
  rw[hk]
  by_cases h6:(hd L).kind=6
  ·rw[if_pos h6,if_pos h6];rfl
  ·rw[if_neg h6,if_neg h6]
   obtain⟨s1,s2⟩:=sim_re φ (Sm.item (alike_re φ)) h
   have hp:=(Sm.item (alike_pre default [])).pos L h
   cases e:itemP L with
   |ok a L'=>
    obtain⟨q1,q2,_⟩:=hp.ok a L' e
    rw[s1 a L' e]
    simp only
    rw[modL_acc n (L'.map (reT φ)),modL_acc n L',modL_re hφ n L' q2 fun t ht=>hS t (q1.subset ht)];rfl
   |err p c=>
    obtain⟨⟨t,ht,e2⟩,_⟩:=hp.err p c e
    have hx:S p:=e2 ▸ hS t ht
    rw[s2 p c e]
    simp only
    rw[behind_re hφ hx L hS,modL_acc n ((behindP p L).map (reT φ)),modL_acc n (behindP p L),modL_re hφ n _ (behind_len h h6).1 fun t ht=>hS t (behind_mem p L h.ne t ht)]
    simp[reP]
end
theorem up_map:∀ (L1 L2:List Tok) (lo1 lo2:Int),Up lo1 L1→Up lo2 L2→L1.map (fun t=>(t.kind,t.text))=L2.map (fun t=>(t.kind,t.text))→∃ φ:Int→Int,L2=L1.map (reT φ)∧Keeps (fun a=>∃ t∈L1,t.at_=a) φ
 |[],[],_,_,_,_,_=>⟨id,rfl,fun a b ⟨t,ht,_⟩=>by cases ht⟩
 |[],_::_,_,_,_,_,h=>by simp at h
 |_::_,[],_,_,_,_,h=>by simp at h
 |t::L1,u::L2,lo1,lo2,h1,h2,he=>by
  simp only[List.map_cons,List.cons.injEq,Prod.mk.injEq]at he
  obtain⟨⟨e1,e2⟩,e3⟩:=he
  obtain⟨φ,f1,f2⟩:=up_map L1 L2 _ _ h1.2 h2.2 e3
  have g1:∀ a∈L1,t.at_<a.at_:=fun a ha=>by have:=h1.2.ge a ha;omega
  have g2:∀ a∈L1,u.at_<φ a.at_:=fun a ha=>by
   have:reT φ a∈L2:=by rw[f1];exact List.mem_map_of_mem ha
   have:=h2.2.ge _ this
   have:u.at_+1≤φ a.at_:=this
   omega
  refine⟨fun a=>if a=t.at_ then u.at_ else φ a,?_,?_⟩
  ·rw[List.map_cons,f1]
   congr 1
   ·show u=(⟨t.kind,t.text,if t.at_=t.at_ then u.at_ else φ t.at_⟩:Tok)
    rw[if_pos rfl,e1,e2]
   ·refine List.map_congr_left fun a ha=> ?_
    show reT φ a=(⟨a.kind,a.text,if a.at_=t.at_ then u.at_ else φ a.at_⟩:Tok)
    rw[if_neg (by have:=g1 a ha;omega)];rfl
  ·rintro a b ⟨x,hx,rfl⟩ ⟨y,hy,rfl⟩
   rcases List.mem_cons.1 hx with hx1|hx1<;>rcases List.mem_cons.1 hy with hy1|hy1
   ·subst hx1 hy1;simp
   ·subst hx1
    have k1:=g1 y hy1
    have k2:=g2 y hy1
    simp only
    rw[if_pos trivial,if_neg (by omega)];omega
   ·subst hy1
    have k1:=g1 x hx1
    have k2:=g2 x hx1
    simp only
    rw[if_neg (by omega),if_pos trivial];omega
   ·have k1:=g1 x hx1
    have k2:=g1 y hy1
    simp only
    rw[if_neg (by omega),if_neg (by omega)]
    exact f2 _ _ ⟨x,hx1,rfl⟩ ⟨y,hy1,rfl⟩
theorem posT_up:∀ (L:List Tok) (p:Int),(∀ t∈L,GoodT t)→Up p (posT p L)∧(posT p L).map (fun t=>(t.kind,t.text))=L.map (fun t=>(t.kind,t.text))++[(6,⟨#[]⟩)]
 |[],p,_=>⟨⟨Int.le_refl _,trivial⟩,rfl⟩
 |[t],p,hg=>⟨⟨Int.le_refl _,by
   have:=List.length_pos_iff.2 (hg t List.mem_cons_self).ne
   show p+1≤p+((srcT t).length:Int)
   omega,trivial⟩,rfl⟩
 |t::u::L,p,hg=>by
  obtain⟨h1,h2⟩:=posT_up (u::L) (p+(srcT t).length+1) fun x hx=>hg x (List.mem_cons_of_mem _ hx)
  refine⟨⟨Int.le_refl _,h1.mono (by simp only;omega)⟩,?_⟩
  show(t.kind,t.text)::(posT (p+(srcT t).length+1) (u::L)).map _=_
  rw[h2];rfl
theorem sm_ends{α:Type}(φ:Int→Int)(a:α):Sm (fun L1 L2=>EndL L1∧L2=L1.map (reT φ)) (fun _=>False) φ (fun _=>False) 0 (fun L=>if(hd L).kind≠6 then wrongP L else PR.ok a L):=
 ⟨Pos.ite Pos.wrong (Pos.pure a),fun L1 L2 h hR=>by
  rcases(alike_re φ).head hR with⟨h1,_,_⟩|⟨_,_,_,_,h5⟩
  ·by_cases hk:(hd L1).kind≠6
   ·simp only[if_pos hk,if_pos (show(hd L2).kind≠6 by rw[h1];exact hk)]
    exact(Sm.wrong (n:=0) (alike_re φ)).sim L1 L2 h hR
   ·simp only[if_neg hk,if_neg (show¬(hd L2).kind≠6 by rw[h1];exact hk)]
    exact(Sm.pure a).sim L1 L2 h hR
  ·exact(h5 0).elim⟩
structure TokSame(x:Bs)(A:List Tok):Prop where
 toks:(toksL x).1=A++[⟨6,⟨#[]⟩,(x.length:Int)⟩]
 good:∀ t∈A,GoodT t
 len:(jnT A).length≤2 * x.length
 mdl:(moduleP (jnT A)).1=(moduleP x).1
 bad:(moduleP (jnT A)).2.1.length=(moduleP x).2.1.length
 ok:(moduleP (jnT A)).2.2=0∧(moduleP x).2.2=0
 expr:∀ z,(wholeP (exprP N0 false) z (jnT A)).1=(wholeP (exprP N0 false) z x).1∧(wholeP (exprP N0 false) z (jnT A)).2.2=(wholeP (exprP N0 false) z x).2.2
theorem tok_same{x:Bs}(hx:x.length≤2000)(hb:(toksL x).2=[]):∃ A,TokSame x A:=by
 have hb0:(lexL x.length 0 (-1) x).2=[]:=take32 hb
 obtain⟨A,a1,a2,a3,a4⟩:=lex_good x.length 0 x (Nat.le_refl _) (Int.le_refl _) hb0
 rw[Int.zero_add]at a1 a3
 have hT:(toksL x).1=A++[⟨6,⟨#[]⟩,(x.length:Int)⟩]:=a1
 have hJ:=toks_join a2
 obtain⟨p1,p2⟩:=posT_up A 0 a2
 obtain⟨φ,f1,f2⟩:=up_map _ _ 0 0 a3 p1 (by rw[p2];simp)
 have hE:EndL (A++[⟨6,⟨#[]⟩,(x.length:Int)⟩]):=⟨A,_,rfl,rfl⟩
 have hm:=modL_re f2 N0 _ hE fun t ht=>⟨t,ht,rfl⟩
 have m1:moduleP x=((modL N0 (A++[⟨6,⟨#[]⟩,(x.length:Int)⟩]) mdl0 []).1,(sortP (modL N0 (A++[⟨6,⟨#[]⟩,(x.length:Int)⟩]) mdl0 []).2).take 32,0):=by
  unfold moduleP
  rw[if_neg (by omega),hb,hT]
 have m2:moduleP (jnT A)=((modL N0 (A++[⟨6,⟨#[]⟩,(x.length:Int)⟩]) mdl0 []).1,(sortP ((modL N0 (A++[⟨6,⟨#[]⟩,(x.length:Int)⟩]) mdl0 []).2.map (reP φ))).take 32,0):=by
  unfold moduleP
  rw[if_neg (by omega),hJ,f1]
  simp only[hm]
 refine⟨A,hT,a2,a4,by rw[m1,m2],?_,by rw[m1,m2];exact⟨rfl,rfl⟩,fun z=> ?_⟩
 ·rw[m1,m2]
  simp only[List.length_take,sortP_length,List.length_map]
 ·have hs:=sim_re φ (Sm.bind (m:=0) (alike_re φ) ((smE (alike_re φ) N0).expr false) fun a=>sm_ends φ a) hE
  unfold wholeP
  rw[if_neg (by omega),if_neg (by omega),hJ,hb,hT,f1]
  simp only
  cases e:(exprP N0 false (A++[⟨6,⟨#[]⟩,(x.length:Int)⟩])).bind fun a L=>if(hd L).kind≠6 then wrongP L else PR.ok a L with
  |ok a L=>
   rw[hs.1 a L e]
   exact⟨rfl,rfl⟩
  |err p c=>
   rw[hs.2 p c e]
   exact⟨rfl,rfl⟩
set_option linter.unusedSimpArgs false
set_option linter.unusedSectionVars false
set_option maxRecDepth 100000
set_option maxHeartbeats 8000000
def srcS(t:Tok):Str:=if t.kind=4 then⟨#[34]⟩++t.text++⟨#[34]⟩else t.text
theorem srcS_list(t:Tok):(srcS t).data.toList=srcT t:=by
 unfold srcS srcT
 split
 ·rw[str_app,str_app];simp
 ·rfl
theorem srcS_size(t:Tok):(srcS t).size=(srcT t).length:=by rw[str_size,srcS_list]
theorem source_ok(t:Tok)(h:(srcT t).length≤100000):Sx.Pure Tryz.prog 43 [.agg t.cells] (sv (srcS t)):=by
 unfold Tok.cells srcS
 have e:t.text.data.toList.length=t.text.size:=rfl
 have h2:t.text.size≤100000:=by
  rw[← e]
  unfold srcT at h
  split at h
  ·simp only[List.length_cons,List.length_append,List.length_nil]at h;omega
  ·exact h
 have e1:(⟨#[34]⟩:Str).size=1:=rfl
 refine Pure.runk (fun _=>0) Tryz.func43 comp43 era43 (Nat.le_of_ble_eq_true rfl) fun σ=> ?_
 repeat'(first|exact .nil|refine .k0 ?_|refine .k1 ?_|refine .k2 ?_|refine .k7 ?_|refine .k9 ?_|(refine .cd ?_ ?_<;>(intro hc;skip))|refine .r1 ?_ ?_|(refine .m1 ?_ ?_;intro b)|fail)
 all_goals(try simp only[BL]at *)
 ·rw[app_sz];omega
 ·omega
 ·exact Sx.Fin.intro Zs (by rw[if_pos hc])
 ·exact Sx.Fin.intro Zs (by rw[if_neg hc])
theorem toksPure(src:List UInt8)(hl:src.length≤16384)(hb:(toksL src).2=[])(nn:Bool):Sx.Pure Tryz.prog 18 [.sl nn 1 (src.map byteRow)] (.tup [.sl false 3 ((toksL src).1.map Tok.cells),nilS,iv 0]):=
 ⟨fun σ=>(tokens_ok greatOk anyOk src hl nn σ).weak fun x σ' ⟨badV,τb,h1,h2,h3⟩=>by
  rw[hb]at h1
  rcases h1 with⟨_,rfl,rfl⟩|⟨h,_⟩
  ·subst h2 h3;exact⟨_,_,⟨rfl,rfl⟩,.refl _,.refl _⟩
  ·exact absurd rfl h⟩
theorem jnT_snoc:∀ (L:List Tok) (t:Tok),L≠[]→jnT (L++[t])=jnT L++32::srcT t
 |[],_,h=>absurd rfl h
 |[a],t,_=>rfl
 |a::b::L,t,_=>by
  have:=jnT_snoc (b::L) t (by simp)
  show srcT a++32::jnT (b::L++[t])=(srcT a++32::jnT (b::L))++32::srcT t
  rw[this];simp
theorem src_le:∀ (L:List Tok) (t:Tok),t∈L→(srcT t).length≤(jnT L).length
 |[],t,h=>by cases h
 |[a],t,h=>by
  rw[List.mem_singleton.1 h];exact Nat.le_refl _
 |a::b::L,t,h=>by
  show _≤(srcT a++32::jnT (b::L)).length
  rw[List.length_append,List.length_cons]
  rcases List.mem_cons.1 h with rfl|h
  ·omega
  ·have:=src_le (b::L) t h;omega
theorem jnT_take(L:List Tok)(i:Nat)(hi:i<L.length):(i=0→jnT (L.take (i+1))=srcT (L.getD i default))∧(0<i→jnT (L.take (i+1))=jnT (L.take i)++32::srcT (L.getD i default)):=by
 have e:L.take (i+1)=L.take i++[L.getD i default]:=by rw[getD_eq hi,List.take_succ_eq_append_getElem hi]
 refine⟨fun h=> ?_,fun h=> ?_⟩
 ·subst h;rw[e];rfl
 ·rw[e,jnT_snoc]
  intro h2;have:=congrArg List.length h2;rw[List.length_take,List.length_nil]at this;omega
theorem jnT_le(A:List Tok)(i:Nat)(hl:(jnT A).length≤10000):(jnT (A.take i)).length≤10000:=by
 by_cases h:i<A.length
 ·obtain⟨h1,h2⟩:=jnT_take A i h
  have ih:=jnT_le A (i+1) hl
  by_cases h0:i=0
  ·subst h0;show 0≤_;omega
  ·have e:=congrArg List.length (h2 (by omega))
   rw[List.length_append,List.length_cons]at e
   omega
 ·rw[List.take_of_length_le (by omega)];exact hl
termination_by A.length-i
def oneL(t:Tok):List Tok:=[⟨t.kind,t.text,0⟩,⟨6,⟨#[]⟩,((srcT t).length:Int)⟩]
theorem toks_one{t:Tok}(h:GoodT t):toksL (srcT t)=(oneL t,[]):=by
 have:=toks_join (L:=[t]) (fun x hx=>by rw[List.mem_singleton.1 hx];exact h)
 rw[show jnT [t]=srcT t from rfl]at this
 rw[this]
 unfold posT oneL
 rw[Int.zero_add]
theorem join_walk(A L:List Tok)(hg:∀ t∈A,GoodT t)(hl:(jnT A).length≤10000)(hn:A.length≤10000)(hL:L.length=A.length+1)(ht:L.take A.length=A)(hk:(L.getD A.length default).kind=6)(hx:(L.getD A.length default).text=⟨#[]⟩):
  Sx.Pure Tryz.prog 19 [.sl false 3 (L.map Tok.cells)] (.tup [.sl false 1 ((jnT A).map byteRow),iv 0]):=by
 have hb:∀ t∈A,(srcT t).length≤10000:=fun t ht=>by have:=src_le A t ht;omega
 have hT:∀ t∈A,Sx.Pure Tryz.prog 18 [.sl true 1 ((srcS t).data.toList.map byteRow)] (.tup [.sl false 3 ((oneL t).map Tok.cells),nilS,iv 0]):=fun t h=>by
  have h1:=toks_one (hg t h)
  have h2:=toksPure (srcT t) (by have:=hb t h;omega) (by rw[h1]) true
  rw[h1]at h2
  rw[srcS_list];exact h2
 have hw:IntKind.i64.wrap ((L.length:Int)-1)=A.length:=by rw[i64w (by omega)];omega
 refine Pure.runk (fun _=>0) Tryz.func19 comp19 era19 (Nat.le_of_ble_eq_true rfl) fun σ=> ?_
 repeat'(first|exact .nil|refine .k0 ?_|refine .k1 ?_|refine .k2 ?_|refine .k3 ?_|refine .k4 ?_|refine .k6 ?_|refine .k9 ?_|(refine .cd ?_ ?_<;>(intro hc;skip))|refine .r1 ?_ ?_|(refine .m2 ?_ ?_;intro hlen)|refine .t1 ?_ ?_ ?_|refine .t2 ?_ ?_ ?_|fail)
 try any_goals(exact Zo)
 all_goals(try simp only[BL]at *)
 all_goals try simp only[hw,Int.toNat_natCast,hk,hx,ht]at hc
 all_goals try simp only[hw,Int.toNat_natCast,hk,hx,ht]
 rotate_left
 ·exfalso;simp only[not_true_eq_false,or_false]at hc;omega
 refine WK_loop (fun m rg σ'=>∃ i:Nat,i≤A.length∧m=A.length-i∧((i=0∧σ'=σ∧rg=[(2,.v (.slice none 0 0)),(37,.sl false 3 (A.map Tok.cells)),(38,iv A.length),(39,iv i)])∨(0<i∧∃ b v c,σ'=(83,b,.tail v c)::σ∧rg=[(2,.own 1 83 b v c ((jnT (A.take i)).map byteRow)),(37,.sl false 3 (A.map Tok.cells)),(38,iv A.length),(39,iv i)]))) A.length rfl ⟨_,_,Zr,Zs,0,Nat.zero_le _,rfl,.inl ⟨rfl,rfl,rfl⟩⟩ ?_
 rintro m _ _ ⟨i,hi,hm,⟨h0,rfl,rfl⟩|⟨h0,b0,v0,c0,rfl,rfl⟩⟩
 all_goals have hmem:i<A.length→A.getD i default∈A:=fun h=>getD_mem h
 all_goals clear hw ht hk hx
 all_goals have hsz:i<A.length→(srcS (A.getD i default)).size≤10000∧(srcS (A.getD i default)).data.toList≠[]∧(srcS (A.getD i default)).data.toList=srcT (A.getD i default):=fun h=>⟨by rw[srcS_size];exact hb _ (hmem h),by rw[srcS_list];exact(hg _ (hmem h)).ne,srcS_list _⟩
 all_goals have hstep:=jnT_take A i
 all_goals have hlen:(jnT (A.take i)).length≤10000:=jnT_le A i hl
 repeat'(first|exact .nil|refine .k0 ?_|refine .k1 ?_|refine .k2 ?_|refine .k3 ?_|refine .k5 ?_|refine .k6 ?_|refine .k7 ?_|refine .k8 ?_|refine .k9 ?_|(refine .cd ?_ ?_<;>(intro hc;skip))|refine .r1 ?_ ?_|(refine .l1 ?_;intro b)|(refine .m2 ?_ ?_;intro hlen)|refine .t1 ?_ ?_ ?_|refine .u1 ?_ ?_ ?_ (fun b u c=> ?_)|refine .u2 ?_ ?_ ?_ (fun b u c=> ?_)|refine .an rfl (by intro hob;first|exact source_ok (A.getD i default) (by have:=hb _ (hmem (by(simp only[BL]at *;omega)));omega)|exact hT _ (hmem (by(simp only[BL]at *;omega)))) ?_ ?_|refine .t7 ?_ ?_ ?_|refine .r2 ?_ ?_|refine .r8 ?_ ?_|(show List.all _ _=true;rfl)|fail)
 try any_goals(exact Zo)
 all_goals(try simp only[BL]at *)
 any_goals(simp only[List.length_map,List.length_append,List.length_cons,List.length_nil,← str_size];omega)
 any_goals exact ones_bytes _
 ·exfalso;revert hc;simp[oneL]
 ·exfalso;omega
 ·subst h0
  have hi0:0<A.length:=by omega
  refine⟨A.length-(0+1),by omega,_,_,Zr,Zs,0+1,by omega,rfl,.inr ⟨by omega,_,_,_,rfl,?_⟩⟩
  rw[(hstep hi0).1 rfl,(hsz hi0).2.2,up1 (n:=A.length) (by omega) (by unfold maxLen;omega)]
 ·exfalso;omega
 ·obtain rfl:A=[]:=List.eq_nil_of_length_eq_zero (by omega)
  show Sx.Fin _ _ _ _;exact Zw
 ·exfalso;revert hc;simp[oneL]
 ·have hi0:i<A.length:=by omega
  refine⟨A.length-(i+1),by omega,_,_,Zr,Zs,i+1,by omega,rfl,.inr ⟨by omega,_,_,_,rfl,?_⟩⟩
  rw[(hstep hi0).2 h0,(hsz hi0).2.2,up1 (n:=A.length) (by omega) (by unfold maxLen;omega)]
  simp[byteRow]
 ·exfalso;omega
 ·exfalso;omega
 ·rw[show i=A.length by omega,List.take_length]
  show Sx.Fin _ _ _ _;exact Zw
theorem join_ok(A:List Tok)(p:Int)(hg:∀ t∈A,GoodT t)(hl:(jnT A).length≤10000)(hn:A.length≤10000):Sx.Pure Tryz.prog 19 [.sl false 3 ((A++[(⟨6,⟨#[]⟩,p⟩:Tok)]).map Tok.cells)] (.tup [.sl false 1 ((jnT A).map byteRow),iv 0]):=by
 have e:(A++[(⟨6,⟨#[]⟩,p⟩:Tok)]).getD A.length default=⟨6,⟨#[]⟩,p⟩:=by simp
 exact join_walk A _ hg hl hn (by simp) (by simp) (by rw[e]) (by rw[e])
theorem toksAll(src:List UInt8)(hl:src.length≤16384)(nn:Bool):Sx.Pure Tryz.prog 18 [.sl nn 1 (src.map byteRow)] (.tup [.sl false 3 ((toksL src).1.map Tok.cells),.sl false 2 ((toksL src).2.map Prb.cells),iv 0]):=
 ⟨fun σ=>(tokens_ok greatOk anyOk src hl nn σ).weak fun x σ' ⟨badV,τb,h1,h2,h3⟩=>by
  subst h2 h3
  refine⟨.ret _,σ,⟨rfl,rfl⟩,?_,?_⟩
  ·unfold Sx.Sub;rw[List.map_append];exact List.sublist_append_right _ _
  ·rcases h1 with⟨e,rfl,_⟩|⟨_,bb,u,c,rfl,_,_⟩
   ·rw[e];exact .tup (.cons (.refl _) (.cons .nil (.cons (.refl _) .nil)))
   ·exact .tup (.cons (.refl _) (.cons (.own _) (.cons (.refl _) .nil)))⟩
set_option linter.unusedSimpArgs false
set_option linter.unusedSectionVars false
set_option maxRecDepth 100000
set_option maxHeartbeats 8000000
theorem tokens_bad(src x:Bs)(T B:List (List AV))(hB:0<B.length)(r0:Sx.Pure Tryz.prog 13 [.sl false 1 (src.map byteRow),iv 2000] (.sl false 1 (x.map byteRow)))
  (hT:Sx.Pure Tryz.prog 18 [.sl false 1 (x.map byteRow)] (.tup [.sl false 3 T,.sl false 2 B,iv 0])):
  Sx.Pure Tryz.prog 7 [.sl false 1 (src.map byteRow)] (.v (.bool true)):=by
 refine Pure.runk (fun _=>0) Tryz.func7 comp7 era7 (Nat.le_of_ble_eq_true rfl) fun σ=> ?_
 have hg:(!decide ((0:Int)=0) || decide ((0:Int)<(B.length:Int)))=true:=by
  simp only[decide_true,Bool.not_true,Bool.false_or,decide_eq_true_eq];omega
 repeat'(first|exact .nil|refine .k0 ?_|refine .k1 ?_|refine .k2 ?_|refine .k7 ?_|(refine .cd ?_ ?_<;>(intro hc;first|exact kf hc (by assumption)|skip))|refine .r1 ?_ ?_|(refine .m3 ?_ ?_;intro hlen)|refine .an rfl (by intro hob;first|exact r0|exact hT|exact example_ok) ?_ ?_|fail)
 show Sx.Fin _ _ _ _;exact Zw
theorem tokens_good(src x y:Bs)(T:List (List AV))(m:Mdl)(B C:List (List AV))(hBC:B.length=C.length)(A:Ex)(p q i:Int)(r0:Sx.Pure Tryz.prog 13 [.sl false 1 (src.map byteRow),iv 2000] (.sl false 1 (x.map byteRow)))
  (hT:Sx.Pure Tryz.prog 18 [.sl false 1 (x.map byteRow)] (.tup [.sl false 3 T,.sl false 2 [],iv 0]))
  (hJ:Sx.Pure Tryz.prog 19 [.sl false 3 T] (.tup [.sl false 1 (y.map byteRow),iv 0]))
  (hM:Sx.Pure Tryz.prog 9 [.sl false 1 (x.map byteRow)] (.tup [.agg m.row,.sl false 2 B,iv 0]))
  (hN:Sx.Pure Tryz.prog 9 [.sl false 1 (y.map byteRow)] (.tup [.agg m.row,.sl false 2 C,iv 0]))
  (hE:Sx.Pure Tryz.prog 10 [.sl false 1 (x.map byteRow)] (.tup [.agg A.row,iv p,iv i]))
  (hF:Sx.Pure Tryz.prog 10 [.sl false 1 (y.map byteRow)] (.tup [.agg A.row,iv q,iv i])):
  Sx.Pure Tryz.prog 7 [.sl false 1 (src.map byteRow)] (.v (.bool true)):=by
 unfold Mdl.row at hM hN
 refine Pure.runk (fun _=>0) Tryz.func7 comp7 era7 (Nat.le_of_ble_eq_true rfl) fun σ=> ?_
 repeat'(first|exact .nil|refine .k0 ?_|refine .k1 ?_|refine .k2 ?_|refine .k4 ?_|refine .k7 ?_|refine .k9 ?_|(refine .cd ?_ ?_<;>(intro hc;first|exact kt hc (by assumption)|skip))|refine .r1 ?_ ?_|(refine .l1 ?_;intro b)|(refine .m3 ?_ ?_;intro hlen)|refine .an rfl (by intro hob;first|exact r0|exact hT|exact hJ|exact hM|exact hN|exact hE|exact hF|exact sameMod_t _|exact sameX_t _|exact example_ok) ?_ ?_|fail)
 ·show Sx.Fin _ _ _ _;exact Zw
 ·exact Sx.Fin.intro Zs (congrArg (fun b=>AV.v (.bool b)) (by simp[hBC]))
theorem tokens_law(src:Bs)(ha:src.length≤maxLen):Sx.Pure Tryz.prog 7 [.sl false 1 (src.map byteRow)] (.v (.bool true)):=by
 obtain⟨x,hx⟩:∃ x,src.take 2000=x:=⟨_,rfl⟩
 have hxl:x.length≤2000:=by rw[← hx,List.length_take];omega
 have r0:=few_ok src 2000 ha false
 rw[hx]at r0
 have hT:=toksAll x (by omega) false
 by_cases hb:(toksL x).2=[]
 ·obtain⟨A,h⟩:=tok_same hxl hb
  have hlen:A.length≤2001:=by
   have h1:(toksL x).1.length≤x.length+1:=lex_len _ _ _ _
   rw[h.toks,List.length_append]at h1
   omega
  have hl:=h.len
  have hJ:=join_ok A (x.length:Int) h.good (by omega) (by omega)
  rw[hb,h.toks]at hT
  have hM:=moduleA x false
  have hN:=moduleA (jnT A) false
  have hE:=exprT x false
  have hF:=exprT (jnT A) false
  obtain⟨e1,e2⟩:=h.expr ex0
  unfold moduleV at hM hN
  rw[h.ok.2]at hM
  rw[h.ok.1,h.mdl]at hN
  rw[show(wX (jnT A)).1=(wX x).1 from e1,show(wX (jnT A)).2.2=(wX x).2.2 from e2]at hF
  exact tokens_good src x (jnT A) _ (moduleP x).1 _ _ (by simp[h.bad]) (wX x).1 _ _ _ r0 hT hJ hM hN hE hF
 ·exact tokens_bad src x _ _ (by rw[List.length_map];exact List.length_pos_iff.2 hb) r0 hT
end Go.Proofs.YtdcpcffpapiadaaGreatDoor
namespace Go.Proofs.YtdcpcffpapiadaaGreatDoor.parserTokens
open Go.ChangeShapes Go.WideShapes Go.ChangeAt Go.RowKit Go.Sx Go.Proofs
theorem wrap{H:Type}{enc:TypeId×Value→H}{a:Assume}{C:Checked}{os:Os}{f:FuncId}{fn:Func}{s:ChangeSpec}{conds:List PathCond}{apart fresh handsOn again:Bool}{X:World→Array Value→Prop}
  (hX:∀ (w w':World) (args:Array Value),w.heap=w'.heap→X w args→X w' args)
  (own:ownKnob C.prog.godebug=none) (started:os.Started) (noInit:C.prog.inits.idxOf? f=none) (hfn:C.prog.funcs[f]? =some fn)
  (witness:∃ (w:World) (tape:Tape) (i:Input),w.os=os∧(w.forCall tape i).Shaped C.prog∧i.vars=[]∧Input.okWide C.prog (w.forCall tape i) .any w.heap.size f i∧
   ((s.pre enc C.prog fn conds apart (w.forCall tape i).memory i.args∧X (w.forCall tape i).memory i.args)∧sizedMet enc C.prog fn (OpenSpec.ofChange s) apart (w.forCall tape i).memory i.args)∧a.holds C.prog (lone (Frame.enter C.prog f i.args .normal) [] (w.forCall tape i)))
  (contract:∀ (W:World) (base:Nat) (args:Array Value) (ds gs:List (DataW H)) (before:List MemPlace),
   (∀ (j:Nat) t v,fn.params[j]? =some t→args[j]? =some v→Value.okWide C.prog W .any base t v)→
   DataW.Whole enc C.prog fn.params.toList s.vars apart W args.toList ds gs before→
   (DataW.weightsEach C.prog (fn.params.toList++s.plain.varTypes C.prog) (ds++gs)).all (·≤reachBytes)=true→X W args→W.ShapedOpen C.prog→
   Calls C.prog f args W fun e W'=>∃ v,e= .returned v∧s.post enc C.prog fn apart fresh handsOn again W args v W'):
  ReturnsInHanded a C os f .any (fun w args=>(s.pre enc C.prog fn conds apart w args∧X w args)∧sizedMet enc C.prog fn (OpenSpec.ofChange s) apart w args) (s.post enc C.prog fn apart fresh handsOn again):=by
 refine returnsInHanded_of_calls own started noInit witness ?_
 intro w tape i _ hsh _ hok hpre hholds
 obtain⟨_,_,_,fn',hfn',_,_,_,_,hval⟩:=hok
 have e:fn'=fn:=Option.some.inj (hfn'.symm.trans hfn)
 subst e
 obtain⟨⟨⟨ds,gs,before,hw,hc⟩,hx⟩,hz⟩:=hpre
 have hw':=DataW.Whole.of_heap (w':=w.forCall tape i) (by rfl) hw
 refine(contract (w.forCall tape i) w.heap.size i.args ds gs before hval hw' (hz.weights hw) (hX _ _ _ (by rfl) hx) hsh).mono fun e W' ⟨v,he,hp⟩=> ?_
 subst he
 exact ChangeSpec.post_blind hp
set_option maxRecDepth 100000 in
theorem lifted(os:Os)(started:os.Started)(H:Type)(enc:TypeId×Value→H):
  ReturnsInHanded {} Tryz.checked os 7 .any (fun w args=>(Rows.parserTokensSpec.pre enc Tryz.prog Tryz.f7 [] false w args∧laidMetH Tryz.prog Rows.parserTokensRow.laid w)∧sizedMet enc Tryz.prog Tryz.f7 (OpenSpec.ofChange Rows.parserTokensSpec) false w args)
   (Rows.parserTokensSpec.post enc Tryz.prog Tryz.f7 false true false false):=by
 refine wrap (C:=Tryz.checked) (X:=fun w _=>laidMetH Tryz.prog Rows.parserTokensRow.laid w) (fun _ _ _ hh h=>h.of_heap hh) own started (by kernel_rfl) Tryz.func7
  (ChangeSpec.witness_shaped (enc:=enc) (C:=Tryz.checked) (os:=os) (X:=fun w _=>laidMetH Tryz.prog Rows.parserTokensRow.laid w) false (World.laidAll Tryz.prog os Rows.parserTokensRow.laid) #[.slice none 0 0] 8 (World.laidAll_os _ _ _)
   (World.shaped_of_ZipB (by kernel_rfl) (by kernel_rfl)) (by kernel_rfl) (by kernel_rfl) (by kernel_rfl)
   (by rw[MakeChecks.laidMetH_plain _ _ _ (by kernel_rfl)];exact laidMet_laidAll _ (by kernel_rfl) (by kernel_rfl))) ?_
 intro W base args ds gs before hval0 hW hsz hL hsh
 rw[MakeChecks.laidMetH_plain _ _ _ (by kernel_rfl)]at hL
 have hval:∀ (j:Nat) t v,Tryz.f7.params[j]? =some t→args[j]? =some v→Value.okWide Tryz.prog W .any base t v:=hval0
 have hW':=hW
 obtain⟨p,q,hA0,hV,rfl,_,_⟩:=hW
 have hA:DataW.TrodAll enc Tryz.prog W 0 (fun _=>true) true Tryz.f7.params.toList args.toList ds p:=hA0
 have hz0:∀ (j:Nat) t d,Tryz.f7.params.toList[j]? =some t→ds[j]? =some d→Wok Tryz.prog t d:=fun j t d ht hd n hn=>by
  have hl1:j<Tryz.f7.params.toList.length:=(List.getElem?_eq_some_iff.1 ht).1
  have hl2:j<ds.length:=(List.getElem?_eq_some_iff.1 hd).1
  have:=List.all_eq_true.1 hsz n (DataW.weights_mem_each (j:=j) (by rw[List.getElem?_append_left hl1];exact ht) (by rw[List.getElem?_append_left hl2];exact hd) n hn)
  simpa using this
 rw[Tryz.params7]at hA hval hz0
 obtain⟨v0,vs0,d0,ds0,p0,q0,hargs,rfl,rfl,h0,r0⟩:=trodAll_cons hA
 obtain⟨rfl,rfl,rfl⟩:=trodAll_nil r0
 obtain rfl:args= #[v0]:=by cases args;simp_all
 obtain⟨rfl,rfl⟩:=trodVars_none hV
 obtain⟨_,g0,a,e0,ha⟩:=arg_one (by kernel_rfl) (hval 0 _ v0 rfl rfl) h0 (hz0 0 _ d0 rfl rfl) rd_bytes
 cases e0
 refine(Pure.calls (tokens_law a ha) (globOK hL hsh) (RL.cons g0 RL.nil)).mono fun e W' ⟨he,hb⟩=> ?_
 subst he
 exact⟨_,rfl,post_true laidOut (by kernel_rfl) rfl ⟨rfl,rfl,rfl⟩ rfl Tryz.underlying4 hW' hb⟩
theorem over:Rows.parserTokensRow.holds Tryz.pinned (OpenSpec.ofChange Rows.parserTokensSpec):=
 OpenClaim.holds_of_wide 7 Tryz.f7 rfl rfl rfl rfl rfl rfl rfl ⟨rfl,rfl,rfl,rfl,rfl⟩ rfl rfl rfl rfl rfl (by kernel_rfl) Tryz.func7 (by kernel_rfl)
  (of_decide_eq_true (by kernel_rfl)) (by unfold Func.isWrapper;first|(rw[if_pos (by decide+kernel)];kernel_rfl)|(rw[if_neg (by decide+kernel)];exact⟨rfl,rfl⟩))
  (fun os started H enc _=>lifted os started H enc)
theorem proved:Rows.ParserTokensCardSaid:=
 Claim7.holds_tied_plain_at .later [] [.data,.data,.data,.data,.sentinel,.sentinel,.data,.pinned] true (true, "76423096e73d39dfa473cfe6342f6749cbc65ada8e362117fc4b3dcaca5d36b5") true over (fun _ h=>by cases h) (by kernel_rfl) (fun _ h=>by cases h) parserTokens_row_tie rfl ⟨rfl,rfl⟩ (by kernel_rfl) rfl
  (fun f fn hf hfn=>by
   obtain rfl:f=7:=Option.some.inj ((show Tryz.prog.funcNamed "asof/asoflaw09.ParserTokens" =some 7 by kernel_rfl).symm.trans hf) |>.symm
   obtain rfl:fn=Tryz.f7:=(Option.some.inj (Tryz.func7.symm.trans hfn)).symm
   exact⟨by kernel_rfl,fun j t ht=>by
    rw[Tryz.params7]at ht
    have hm:t∈[22]:=by simpa using Array.mem_of_getElem? ht
    have hall:([22].all fun u=> !Tryz.prog.wantsStandIn u)=true:=by kernel_rfl
    exact(show Tryz.prog.wantsStandIn t=false by simpa using List.all_eq_true.1 hall t hm)⟩)
  (by kernel_rfl)
end Go.Proofs.YtdcpcffpapiadaaGreatDoor.parserTokens
