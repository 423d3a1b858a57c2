/-
  The statement ParserItems: a source without problems, followed by another source, has the items of both and the problems of the second one. No condition: for every input.
-/
import Derived.Test.YtdcpcffpapiadaaGreatDoorCodeA
import Derived.Test.YtdcpcffpapiadaaGreatDoorCodeB
import Derived.Test.YtdcpcffpapiadaaGreatDoorGi
import Derived.Test.YtdcpcffpapiadaaGreatDoorPt
import Derived.Test.YtdcpcffpapiadaaGreatDoorSxB
import Derived.Test.YtdcpcffpapiadaaGreatDoorSxComp
import Derived.Test.YtdcpcffpapiadaaGreatDoorSxComp3
import Derived.Test.YtdcpcffpapiadaaGreatDoorSxComp4
import Derived.Test.YtdcpcffpapiadaaGreatDoorSxComp5
import Derived.Test.YtdcpcffpapiadaaGreatDoorSxCore
import Derived.Test.YtdcpcffpapiadaaGreatDoorSxCtl
import Derived.Test.YtdcpcffpapiadaaGreatDoorSxDraw
import Derived.Test.YtdcpcffpapiadaaGreatDoorSxFn
import Derived.Test.YtdcpcffpapiadaaGreatDoorSxMix2
import Derived.Test.YtdcpcffpapiadaaGreatDoorSxMix3
import Derived.Test.YtdcpcffpapiadaaGreatDoorSxMixC
import Derived.Test.YtdcpcffpapiadaaGreatDoorSxOps
import Derived.Test.YtdcpcffpapiadaaGreatDoorSxSound
import Derived.Test.YtdcpcffpapiadaaGreatDoorSxSt
import Derived.Test.YtdcpcffpapiadaaGreatDoorSxStep
import Derived.Test.YtdcpcffpapiadaaGreatDoorSxX
import Derived.Test.YtdcpcffpapiadaaGreatDoorSxX2
import Derived.Test.YtdcpcffpapiadaaGreatDoorSxX3
import Derived.Test.YtdcpcffpapiadaaGreatDoorSxZ
import Derived.Test.YtdcpcffpapiadaaGreatDoorTf
import Derived.Test.YtdcpcffpapiadaaGreatDoorTg
import Derived.Test.YtdcpcffpapiadaaGreatDoorTj
import Derived.Test.YtdcpcffpapiadaaGreatDoorTz
import Derived.Test.YtdcpcffpapiadaaGreatDoorUc
import Derived.Test.YtdcpcffpapiadaaGreatDoorUe
import Derived.Test.YtdcpcffpapiadaaGreatDoorUi
import Derived.Test.YtdcpcffpapiadaaGreatDoorVb
import Derived.Test.YtdcpcffpapiadaaGreatDoorVc
import Derived.Test.YtdcpcffpapiadaaGreatDoorWa
import Derived.Test.YtdcpcffpapiadaaGreatDoorWb
import Derived.Test.YtdcpcffpapiadaaGreatDoorWd
import Derived.Test.YtdcpcffpapiadaaGreatDoorWe
import Derived.Test.YtdcpcffpapiadaaGreatDoorWf
import Derived.Test.YtdcpcffpapiadaaGreatDoorWh
import Derived.Test.YtdcpcffpapiadaaGreatDoorWi
import Derived.Test.YtdcpcffpapiadaaGreatDoorWn
import Derived.Test.YtdcpcffpapiadaaGreatDoorWo
import Derived.Test.YtdcpcffpapiadaaGreatDoorYa
import Derived.Test.YtdcpcffpapiadaaGreatDoorYb
import Derived.Test.YtdcpcffpapiadaaGreatDoorYc
import Derived.Test.YtdcpcffpapiadaaGreatDoorYd
import Derived.Test.YtdcpcffpapiadaaGreatDoorYe
import Derived.Test.YtdcpcffpapiadaaGreatDoorYf
import Derived.Test.YtdcpcffpapiadaaGreatDoorYm
import Derived.Test.YtdcpcffpapiadaaGreatDoorZa
import Derived.Test.YtdcpcffpapiadaaGreatDoorZb
import Derived.Test.YtdcpcffpapiadaaGreatDoorZf
import Derived.Test.YtdcpcffpapiadaaGreatDoorZs
import Derived.Test.YtdcpcffpapiadaaGreatDoorTie
import Derived.Test.YtdcpcffpapiadaaGreatDoorCards
import Derived.WalkKit
import Derived.ProofKit
import Derived.Lay
import Derived.LaidOnce
import Derived.SevenTiedAt
set_option linter.unusedVariables false
namespace Go.Sx
namespace Z
end Z
end Go.Sx
namespace Go.Proofs.YtdcpcffpapiadaaGreatDoor
open Go.Sx
theorem comp4:compF Tryz.prog Tryz.f4=some c4:=by kernel_rfl
theorem era4:c4.code=a4.erase:=rfl
def s15_0:=[zag 4]
def s15_1:=[za 6 0,zx 7 6,za 8 1,zx 9 8,zbc 10 7 9]
def s15_2:=[zag 4]
def s15_3:=[zk 5 0]
def s15_4:=[za 11 5,za 12 0,zx 13 12,zr 14 11 13]
def s15_5:=[za 17 0,za 18 5,zf 19 2 17 18,zp 20 2 19,za 21 1,za 22 5,zf 23 2 21 22,zp 24 2 23,q0 25 (.eqs true [.int,.int] (.tmp 20) (.tmp 24))]
def s15_6:=[zag 4]
def s15_7:=[za 15 5,zn 16 15 1,za 5 16]
def s15_8:=[zbs 4]
def a15:AC:=Z.r s15_0 [0,1] (Z.s (Z.r s15_1 [0,1,10] (Z.c 10 (Z.e s15_2) .skip)) [0,1] (Z.s (Z.r s15_3 [0,1,5] (Z.b 0 (Z.l [0,1,5] (Z.s (Z.r s15_4 [0,1,5,14] (Z.c 14 .skip (.exit 0))) [0,1,5] (Z.s (Z.b 1 (Z.d s15_5 [0,1,5,25] (Z.c 25 (Z.e s15_6) .skip))) [0,1,5] (Z.g s15_7)))))) [] (Z.e s15_8)))
def c15:FC:=⟨26,a15.erase,[.tmp 4]⟩
theorem comp15:compF Tryz.prog Tryz.f15=some c15:=by kernel_rfl
theorem era15:c15.code=a15.erase:=rfl
end Go.Proofs.YtdcpcffpapiadaaGreatDoor
set_option linter.unusedSimpArgs false
set_option maxRecDepth 100000
set_option maxHeartbeats 4000000
namespace Go.Proofs.YtdcpcffpapiadaaGreatDoor
open Go.Sx Go.Proofs
theorem sameProbs_t(u:List Prb):Pure Tryz.prog 15 [.sl false 2 (u.map Prb.cells),.sl false 2 (u.map Prb.cells)] (.v (.bool true)):=by
 refine Pure.runk (fun _=>0) Tryz.func15 comp15 era15 (Nat.le_of_ble_eq_true rfl) fun σ=> ?_
 repeat'(first|exact .nil|refine .k0 ?_|refine .k1 ?_|refine .k2 ?_|refine .k6 ?_|refine .k7 ?_|refine .k9 ?_|(refine .cd ?_ ?_<;>(intro hc;skip))|refine .r1 ?_ ?_|(refine .m2 ?_ ?_;intro hlen)|fail)
 all_goals(try simp only[BL]at *)
 all_goals first|(exfalso;exact hc trivial)|skip
 refine WK_loop (fun n rg σ'=>∃ i:Nat,i≤u.length∧n=u.length-i∧σ'=σ∧rg=[(0,.sl false 2 (u.map Prb.cells)),(1,.sl false 2 (u.map Prb.cells)),(5,iv i)]) u.length rfl ⟨_,_,Zr,Zs,0,Nat.zero_le _,rfl,rfl,rfl⟩ ?_
 rintro n _ _ ⟨i,hi,hn,rfl,rfl⟩
 repeat'(first|exact .nil|refine .k0 ?_|refine .k1 ?_|refine .k2 ?_|refine .k5 ?_|refine .k6 ?_|refine .k7 ?_|refine .k8 ?_|refine .k9 ?_|(refine .cd ?_ ?_<;>(intro hc;skip))|refine .r1 ?_ ?_|(refine .m2 ?_ ?_;intro hlen)|refine .t1 ?_ ?_ ?_|fail)
 try any_goals(exact Zo)
 all_goals(try simp only[BL]at *)
 all_goals first|(exfalso;simp at hc;done)|(refine⟨u.length-(i+1),by omega,_,_,Zr,Zs,i+1,by omega,rfl,rfl,by rw[up1 (n:=u.length) (by omega) (by assumption)]⟩;done)|(refine Sx.Fin.wk Zs ?_;repeat' first|exact .refl _|fail)
set_option linter.unusedSectionVars false
def StpB(p:UInt8→Bool)(r:Bs):Prop:=r=[]∨∃ x t,r=x::t∧p x=false
def Sepr(r:Bs):Prop:=r=[]∨∃ t,r=32::t
theorem Sepr.stop{r:Bs}(h:Sepr r){p:UInt8→Bool}(hp:p 32=false):StpB p r:=by
 rcases h with rfl|⟨t,rfl⟩
 ·exact .inl rfl
 ·exact .inr ⟨_,_,rfl,hp⟩
def Up:Int→List Tok→Prop
 |_,[]=>True
 |lo,t::L=>lo≤t.at_∧Up (t.at_+1) L
theorem Up.mono:∀ {L:List Tok} {lo lo':Int},Up lo L→lo'≤lo→Up lo' L
 |[],_,_,_,_=>trivial
 |t::L,lo,lo',h,hl=>⟨by have:=h.1;omega,h.2⟩
where piece_ge:∀ u:Bs, -1≤(pieceL u).1
 |[]=>by decide
 |c::r=>by
  unfold pieceL
  simp only
  repeat' split
  all_goals first|decide|(simp only;omega)
set_option linter.unusedSectionVars false
section
variable {S:Int→Prop}{φ:Int→Int}
theorem behind_mem(x:Int)(L:List Tok)(hL:L≠[]):∀ t∈behindP x L,t∈L:=fun t ht=>by
 have h:=(skipTo_suf x L hL).1
 unfold behindP at ht
 split at ht
 ·exact h.subset (List.mem_of_mem_tail ht)
 ·exact h.subset ht
end
set_option linter.unusedSectionVars false
set_option maxHeartbeats 8000000
theorem lex_at:∀ (n:Nat) (at_ st:Int) (s:Bs),(∀ t∈(lexL n at_ st s).1,at_≤t.at_∧t.at_≤at_+s.length)∧∀ p∈(lexL n at_ st s).2,at_≤p.at_∧p.at_≤at_+s.length
 |0,at_,st,s=>⟨fun t ht=>by rw[show(lexL 0 at_ st s).1=[⟨6,⟨#[]⟩,at_⟩]from rfl,List.mem_singleton]at ht;subst ht;exact⟨Int.le_refl _,by simp only;omega⟩,fun p hp=>by cases hp⟩
 |n+1,at_,st,s=>by
  by_cases hs:s=[]
  ·subst hs;rw[lex_nil]
   exact⟨fun t ht=>by rw[List.mem_singleton]at ht;subst ht;exact⟨Int.le_refl _,by simp⟩,fun p hp=>by cases hp⟩
  obtain⟨p1,p2⟩:=piece_len hs
  obtain⟨a1,a2⟩:=lex_at n (at_+1) at_ (s.drop 1)
  obtain⟨b1,b2⟩:=lex_at n (at_+(pieceL s).2.1) st (s.drop (pieceL s).2.1)
  have l1:(s.drop 1).length=s.length-1:=List.length_drop
  have l2:(s.drop (pieceL s).2.1).length=s.length-(pieceL s).2.1:=List.length_drop
  have h0:0<s.length:=List.length_pos_iff.2 hs
  have c1:∀ t∈(lexL n (at_+1) at_ (s.drop 1)).1,at_≤t.at_∧t.at_≤at_+s.length:=fun t ht=>by have:=a1 t ht;omega
  have c2:∀ t∈(lexL n (at_+1) at_ (s.drop 1)).2,at_≤t.at_∧t.at_≤at_+s.length:=fun t ht=>by have:=a2 t ht;omega
  have d1:∀ t∈(lexL n (at_+(pieceL s).2.1) st (s.drop (pieceL s).2.1)).1,at_≤t.at_∧t.at_≤at_+s.length:=fun t ht=>by have:=b1 t ht;omega
  have d2:∀ t∈(lexL n (at_+(pieceL s).2.1) st (s.drop (pieceL s).2.1)).2,at_≤t.at_∧t.at_≤at_+s.length:=fun t ht=>by have:=b2 t ht;omega
  have kt:∀ (a:Tok) (L:List Tok),a.at_=at_→(∀ t∈L,at_≤t.at_∧t.at_≤at_+s.length)→∀ t∈a::L,at_≤t.at_∧t.at_≤at_+s.length:=fun a L ha h t ht=>by
   rcases List.mem_cons.1 ht with rfl|ht
   ·omega
   ·exact h t ht
  have kp:∀ (a:Prb) (L:List Prb),a.at_=at_→(∀ t∈L,at_≤t.at_∧t.at_≤at_+s.length)→∀ t∈a::L,at_≤t.at_∧t.at_≤at_+s.length:=fun a L ha h t ht=>by
   rcases List.mem_cons.1 ht with rfl|ht
   ·omega
   ·exact h t ht
  rw[lex_step _ _ _ hs]
  split
  ·refine⟨c1,?_⟩
   simp only
   split
   ·exact kp _ _ rfl c2
   ·exact c2
  split
  ·exact⟨d1,kp _ _ rfl d2⟩
  split
  ·exact⟨kt _ _ rfl d1,d2⟩
  split
  ·exact⟨kt _ _ rfl d1,d2⟩
  ·exact⟨d1,d2⟩
theorem modL_at:∀ (n:Nat) (L:List Tok) (m:Mdl) (bad:List Prb),EndL L→∀ p∈(modL n L m bad).2,p∈bad∨∃ t∈L,t.at_=p.at_
 |0,L,m,bad,_,p,hp=> .inl hp
 |n+1,L,m,bad,hE,p,hp=>by
  unfold modL at hp
  split at hp
  ·exact .inl hp
  ·rename_i hk
   cases hi:itemP L with
   |ok a L'=>
    rw[hi]at hp
    obtain⟨h1,h2,h3⟩:=(pos_item L hE).ok a L' hi
    rcases modL_at n L' _ bad h2 p hp with h|⟨t,ht,e⟩
    ·exact .inl h
    ·exact .inr ⟨t,h1.subset ht,e⟩
   |err q c=>
    rw[hi]at hp
    obtain⟨⟨t,ht,e⟩,_⟩:=(pos_item L hE).err q c hi
    obtain⟨h3,h4⟩:=behind_len (x:=q) hE hk
    rcases modL_at n _ m _ h3 p hp with h|⟨t',ht',e'⟩
    ·rcases List.mem_append.1 h with h|h
     ·exact .inl h
     ·rw[List.mem_singleton]at h
      exact .inr ⟨t,ht,by rw[h];exact e⟩
    ·exact .inr ⟨t',behind_mem q L hE.ne t' ht',e'⟩
theorem sort_mem(l:List Prb)(p:Prb)(h:p∈sortP l):p∈l:=by
 unfold sortP at h
 split at h
 ·cases h
 ·rename_i hl
  obtain⟨i,_,rfl⟩:=List.mem_map.1 h
  unfold nth
  rw[List.getD_eq_getElem?_getD]
  cases e:l[i]? with
  |none=>
   cases l with
   |nil=>exact absurd rfl hl
   |cons a l=>exact List.mem_cons_self
  |some q=>exact List.mem_of_getElem? e
theorem mod_at(s:Bs):∀ p∈(moduleP s).2.1,0≤p.at_∧p.at_≤s.length:=fun p hp=>by
 unfold moduleP at hp
 split at hp
 ·cases hp
 ·have h:=sort_mem _ p (List.mem_of_mem_take hp)
  obtain⟨a1,a2⟩:=lex_at s.length 0 (-1) s
  rcases modL_at N0 _ _ _ (lex_end _ _ _ _) p h with h|⟨t,ht,e⟩
  ·have:=a2 p (List.mem_of_mem_take h);omega
  ·have:=a1 t ht;omega
theorem WK_two{P:Program}[Glob P]{N:Nat}{cfg:Nat→Nat}{Q:Exit→Regs→Store→Prop}{a:AC}{k:List Fr}{rg:Regs}{σ S:Store}{t1 b1 t2 b2:Nat}{l1 l2:List AV}(hs:Sx.Sub ((t1,b1,.cells l1)::(t2,b2,.cells l2)::σ) S)(h:WK P N cfg Q a k rg ((t1,b1,.cells l1)::(t2,b2,.cells l2)::σ)):WK P N cfg Q a k rg S:=WK_wk h Zr hs
theorem items_step(more:List Prb)(l:Nat)(hl:l≤1000)(hmore:∀ p∈more,0≤p.at_∧p.at_≤100000)(i:Nat)(hi:i<more.length):
  ((more.take (i+1)).map (shP (l+1))).map Prb.cells=((more.take i).map (shP (l+1))).map Prb.cells++[[iv (IntKind.i64.wrap (IntKind.i64.wrap ((more.getD (i:Int).toNat default).at_+l)+1)),iv (more.getD (i:Int).toNat default).code]]:=by
 have hm:=hmore _ (getD_mem hi)
 rw[Int.toNat_natCast]
 have e:more.take (i+1)=more.take i++[more.getD i default]:=by rw[getD_eq hi,List.take_succ_eq_append_getElem hi]
 rw[e,i64w (n:=(more.getD i default).at_+(l:Int)) (by omega),i64w (by omega)]
 simp only[List.map_append,List.map_cons,List.map_nil]
 unfold shP Prb.cells
 rw[Int.add_assoc]
theorem items_loop(x:Bs)(m n:Mdl)(more:List Prb)(hx:x.length≤1000)(hmore:∀ p∈more,0≤p.at_∧p.at_≤100000)(hm32:more.length≤1000)(σ:Store)(b14 b7:Nat):
  WK Tryz.prog c4.N (fun d=>bif Nat.beq d 55 then 1 else bif ([68,76]:List Nat).elem d then 3 else 0) (pureQ c4.res (.v (.bool true)) σ) (Z.l [5,7,11,14,15,16,17,18] (Z.s (Z.r s4_13 [5,7,11,14,15,16,17,18,87] (Z.c 87 .skip (.exit 0))) [5,7,11,14,15,16,17,18] (Z.s (Z.b 1 (.dreg s4_14)) [5,7,11,14,15,16,17,18] (Z.g s4_15)))) [.blk 0,.seq (.keep [7,14,15,16,17] (Z.e s4_16))]
   [(5,.sl false 1 (x.map byteRow)),(7,.lp 7 b7 0),(11,.sl false 2 (more.map Prb.cells)),(14,.lp 14 b14 0),(15,.sl false 2 ((more.map (shP (x.length+1))).map Prb.cells)),(16,iv 0),(17,.v (.slice none 0 0)),(18,iv 0)]
   ((14,b14,.cells [.sl false 4 ((appM m n).tables.map Tab.cells),.sl false 18 ((appM m n).features.map Fea.cells)])::(7,b7,.cells [.sl false 4 ((appM m n).tables.map Tab.cells),.sl false 18 ((appM m n).features.map Fea.cells)])::σ):=by
 refine WK_loop (fun k rg σ'=>∃ b14 b7 i:Nat,i≤more.length∧k=more.length-i∧((i=0∧σ'=(14,b14,.cells [.sl false 4 ((appM m n).tables.map Tab.cells),.sl false 18 ((appM m n).features.map Fea.cells)])::(7,b7,.cells [.sl false 4 ((appM m n).tables.map Tab.cells),.sl false 18 ((appM m n).features.map Fea.cells)])::σ∧rg=[(5,.sl false 1 (x.map byteRow)),(7,.lp 7 b7 0),(11,.sl false 2 (more.map Prb.cells)),(14,.lp 14 b14 0),(15,.sl false 2 ((more.map (shP (x.length+1))).map Prb.cells)),(16,iv 0),(17,.v (.slice none 0 0)),(18,iv i)])∨(0<i∧∃ b v c,σ'=(107,b,.tail v c)::(14,b14,.cells [.sl false 4 ((appM m n).tables.map Tab.cells),.sl false 18 ((appM m n).features.map Fea.cells)])::(7,b7,.cells [.sl false 4 ((appM m n).tables.map Tab.cells),.sl false 18 ((appM m n).features.map Fea.cells)])::σ∧rg=[(5,.sl false 1 (x.map byteRow)),(7,.lp 7 b7 0),(11,.sl false 2 (more.map Prb.cells)),(14,.lp 14 b14 0),(15,.sl false 2 ((more.map (shP (x.length+1))).map Prb.cells)),(16,iv 0),(17,.own 2 107 b v c (((more.take i).map (shP (x.length+1))).map Prb.cells)),(18,iv i)]))) more.length rfl ⟨_,_,Zr,Zs,_,_,0,Nat.zero_le _,rfl,.inl ⟨rfl,rfl,rfl⟩⟩ ?_
 rintro k _ _ ⟨b14,b7,i,hi,hk,⟨h0,rfl,rfl⟩|⟨h0,bb,vv,cc,rfl,rfl⟩⟩
 all_goals have hstep:=items_step more x.length hx hmore i
 repeat'(first|exact .nil|refine .k0 ?_|refine .k1 ?_|refine .k2 ?_|refine .k4 ?_|refine .k6 ?_|refine .k7 ?_|refine .k8 ?_|refine .k9 ?_|(refine .cd ?_ ?_<;>(intro hc;skip))|refine .r1 ?_ ?_|(refine .m2 ?_ ?_;intro hlen)|refine .t1 ?_ ?_ ?_|refine .u1 ?_ ?_ ?_ (fun b u c=> ?_)|refine .u2 ?_ ?_ ?_ (fun b u c=> ?_)|refine .an rfl (by intro hob;first|exact sameMod_t _|(refine(sameProbs_t (more.map (shP (x.length+1)))).wk (.cons (.refl _) (.cons (.ownr ?_) .nil));rw[List.take_of_length_le (by have:=of_decide_eq_false hc;omega)];done)|(refine(sameProbs_t (more.map (shP (x.length+1)))).wk (.cons (.refl _) (.cons ?_ .nil));rw[List.eq_nil_of_length_eq_zero (l:=more) (by have:=of_decide_eq_false hc;omega)];exact .nil)|exact example_ok) ?_ ?_|refine .r2 ?_ ?_|(show List.all _ _=true;rfl)|fail)
 all_goals first|exact List.cons_ne_nil _ _|(intro _;exact⟨Int.natCast_nonneg _,of_decide_eq_true hc⟩)|(simp only[List.length_cons,List.length_nil,List.length_map,List.length_take];omega)|(show Sx.Fin _ _ _ _;(refine Sx.Fin.wk Zs ?_;repeat' first|exact .refl _|fail);done)|skip
 all_goals
  have hi2:=of_decide_eq_true hc
  have hi1:i<more.length:=by omega
  refine⟨more.length-(i+1),by omega,_,_,Zr,Zs,_,_,i+1,by omega,rfl,.inr ⟨by omega,_,_,_,rfl,?_⟩⟩
  rw[hstep hi1,up1 (n:=more.length) (by omega) (by unfold maxLen;omega)]
  all_goals(subst h0;rfl)
theorem items_good(a b x y:Bs)(m n:Mdl)(more:List Prb)(ha:a.length≤maxLen)(hb:b.length≤maxLen)(hx:x.length≤1000)(hy:y.length≤1000)(hm:m.tables.length+m.features.length≤2000)(hn:n.tables.length+n.features.length≤2000)
  (hmore:∀ p∈more,0≤p.at_∧p.at_≤100000) (hm32:more.length≤1000)
  (r1:Sx.Pure Tryz.prog 13 [.sl false 1 (a.map byteRow),iv 1000] (.sl false 1 (x.map byteRow))) (r2:Sx.Pure Tryz.prog 13 [.sl false 1 (b.map byteRow),iv 1000] (.sl false 1 (y.map byteRow)))
  (hX:Sx.Pure Tryz.prog 9 [.sl false 1 (x.map byteRow)] (.tup [.agg [.sl false 4 (m.tables.map Tab.cells),.sl false 18 (m.features.map Fea.cells)],.sl false 2 [],iv 0]))
  (hY:Sx.Pure Tryz.prog 9 [.sl false 1 (y.map byteRow)] (.tup [.agg [.sl false 4 (n.tables.map Tab.cells),.sl false 18 (n.features.map Fea.cells)],.sl false 2 (more.map Prb.cells),iv 0]))
  (hZ:Sx.Pure Tryz.prog 9 [.sl false 1 ((x++10::y).map byteRow)] (.tup [.agg [.sl false 4 ((appM m n).tables.map Tab.cells),.sl false 18 ((appM m n).features.map Fea.cells)],.sl false 2 ((more.map (shP (x.length+1))).map Prb.cells),iv 0])):
  Sx.Pure Tryz.prog 4 [.sl false 1 (a.map byteRow),.sl false 1 (b.map byteRow)] (.v (.bool true)):=by
 refine Pure.runk (fun d=>bif Nat.beq d 55 then 1 else bif ([68,76]:List Nat).elem d then 3 else 0) Tryz.func4 comp4 era4 (Nat.le_of_ble_eq_true rfl) fun σ=> ?_
 repeat'(first|exact .nil|refine .k0 ?_|refine .k1 ?_|refine .k2 ?_|refine .k3 ?_|refine .k6 ?_|refine .k9 ?_|(refine .cd ?_ ?_<;>(intro hc;skip))|refine .r1 ?_ ?_|(refine .l1 ?_;intro b)|(refine .m3 ?_ ?_;intro hlen)|(refine .l2 ?_;intro b)|refine .u2 ?_ ?_ ?_ (fun b u c=> ?_)|refine .u3 ?_ ?_ (fun hr0=> ?_) (fun hr1 b u c=> ?_)|refine .an rfl (by intro hob;first|exact r1|exact r2|exact hX|exact hY|(refine hZ.wk ?_;refine .cons (.ownr ?_) .nil;simp[byteRow];done)) ?_ ?_|refine .r8 ?_ ?_|(show List.all _ _=true;rfl)|fail)
 all_goals first|(exfalso;revert hc;simp;done)|exact ones_tab _|exact ones_fea _|exact ones_bytes _|(simp only[List.length_cons,List.length_nil,List.length_append,List.length_map];omega)|skip
 all_goals first|refine WK_stw (.there (.there (.there (.here (t:=7) (l':=[AV.sl false 4 ((appM m n).tables.map Tab.cells),AV.sl false 18 ((appM m n).features.map Fea.cells)]) (.cons ?_ (.cons ?_ .nil)) (.refl _))))) ?_|refine WK_stw (.there (.there (.there (.there (.here (t:=7) (l':=[AV.sl false 4 ((appM m n).tables.map Tab.cells),AV.sl false 18 ((appM m n).features.map Fea.cells)]) (.cons ?_ (.cons ?_ .nil)) (.refl _)))))) ?_|refine WK_stw (.there (.there (.there (.there (.there (.here (t:=7) (l':=[AV.sl false 4 ((appM m n).tables.map Tab.cells),AV.sl false 18 ((appM m n).features.map Fea.cells)]) (.cons ?_ (.cons ?_ .nil)) (.refl _))))))) ?_
 all_goals first|(refine .ownr ?_;simp_all [appM];done)|(refine Wk.flr ?_;simp_all [appM];done)|skip
 all_goals refine WK_two (t1:=14) (t2:=7) (σ:=σ) (by first|exact .same (.cons (.cons (.same (.refl _))))|exact .cons (.same (.cons (.cons (.same (.refl _)))))|exact .cons (.cons (.same (.cons (.cons (.same (.refl _))))))|fail) ?_
 all_goals exact items_loop x m n more hx hmore hm32 σ _ _
theorem items_bad(a b x y:Bs)(T1 F1 T2 F2 A B:List (List AV))(hA:0<A.length)
  (r1:Sx.Pure Tryz.prog 13 [.sl false 1 (a.map byteRow),iv 1000] (.sl false 1 (x.map byteRow))) (r2:Sx.Pure Tryz.prog 13 [.sl false 1 (b.map byteRow),iv 1000] (.sl false 1 (y.map byteRow)))
  (hX:Sx.Pure Tryz.prog 9 [.sl false 1 (x.map byteRow)] (.tup [.agg [.sl false 4 T1,.sl false 18 F1],.sl false 2 A,iv 0]))
  (hY:Sx.Pure Tryz.prog 9 [.sl false 1 (y.map byteRow)] (.tup [.agg [.sl false 4 T2,.sl false 18 F2],.sl false 2 B,iv 0])):
  Sx.Pure Tryz.prog 4 [.sl false 1 (a.map byteRow),.sl false 1 (b.map byteRow)] (.v (.bool true)):=by
 refine Pure.runk (fun d=>bif Nat.beq d 55 then 1 else bif ([68,76]:List Nat).elem d then 3 else 0) Tryz.func4 comp4 era4 (Nat.le_of_ble_eq_true rfl) fun σ=> ?_
 have hg:(!decide ((0:Int)=0) || !decide ((0:Int)=0) || decide ((0:Int)<(A.length:Int)))=true:=by
  simp only[decide_true,Bool.not_true,Bool.false_or,decide_eq_true_eq];omega
 repeat'(first|exact .nil|refine .k0 ?_|refine .k1 ?_|refine .k2 ?_|refine .k7 ?_|(refine .cd ?_ ?_<;>(intro hc;first|exact kf hc (by assumption)|skip))|refine .r1 ?_ ?_|(refine .l1 ?_;intro b)|(refine .m3 ?_ ?_;intro hlen)|refine .an rfl (by intro hob;first|exact r1|exact r2|exact hX|exact hY|exact example_ok) ?_ ?_|fail)
 all_goals first|(show Sx.Fin _ _ _ _;(refine Sx.Fin.wk Zs ?_;repeat' first|exact .refl _|fail);done)|fail
theorem items_ok(a b:Bs)(ha:a.length≤maxLen)(hb:b.length≤maxLen):Sx.Pure Tryz.prog 4 [.sl false 1 (a.map byteRow),.sl false 1 (b.map byteRow)] (.v (.bool true)):=by
 obtain⟨x,hx⟩:∃ x,a.take 1000=x:=⟨_,rfl⟩
 obtain⟨y,hy⟩:∃ y,b.take 1000=y:=⟨_,rfl⟩
 have hxl:x.length≤1000:=by rw[← hx,List.length_take];omega
 have hyl:y.length≤1000:=by rw[← hy,List.length_take];omega
 have r1:=few_ok a 1000 ha false
 have r2:=few_ok b 1000 hb false
 rw[hx]at r1
 rw[hy]at r2
 have hX:=moduleA x false
 have hY:=moduleA y false
 have h0:∀ s:Bs,s.length≤1000→(moduleP s).2.2=0:=fun s h=>by
  unfold moduleP
  rw[if_neg (by omega)]
 unfold moduleV at hX hY
 rw[h0 x hxl]at hX
 rw[h0 y hyl]at hY
 by_cases hbad:0<(moduleP x).2.1.length
 ·exact items_bad a b x y _ _ _ _ _ _ (by simpa using hbad) r1 r2 hX hY
 ·have bx:(moduleP x).2.1=[]:=List.eq_nil_of_length_eq_zero (by omega)
  have hZ:=moduleA (x++10::y) false
  have hrec:=moduleP_items (x:=x) (y:=y) (m:=(moduleP x).1) (n:=(moduleP y).1) (more:=(moduleP y).2.1) (by omega) (Prod.ext rfl (Prod.ext bx (h0 x hxl))) (Prod.ext rfl (Prod.ext rfl (h0 y hyl)))
  unfold moduleV at hZ
  rw[hrec]at hZ
  rw[bx]at hX
  have s1:=moduleP_size x
  have s2:=moduleP_size y
  have h32:(moduleP y).2.1.length≤32:=by
   unfold moduleP
   rw[if_neg (by omega)]
   simp only[List.length_take]
   omega
  exact items_good a b x y (moduleP x).1 (moduleP y).1 (moduleP y).2.1 ha hb hxl hyl (by omega) (by omega) (fun p hp=>by have:=mod_at y p hp;omega) (by omega) r1 r2 hX hY hZ
end Go.Proofs.YtdcpcffpapiadaaGreatDoor
namespace Go.Proofs.YtdcpcffpapiadaaGreatDoor.parserItems
open Go.ChangeShapes Go.WideShapes Go.ChangeAt Go.RowKit Go.Sx Go.Proofs
theorem wrap{H:Type}{enc:TypeId×Value→H}{a:Assume}{C:Checked}{os:Os}{f:FuncId}{fn:Func}{s:ChangeSpec}{conds:List PathCond}{apart fresh handsOn again:Bool}{X:World→Array Value→Prop}
  (hX:∀ (w w':World) (args:Array Value),w.heap=w'.heap→X w args→X w' args)
  (own:ownKnob C.prog.godebug=none) (started:os.Started) (noInit:C.prog.inits.idxOf? f=none) (hfn:C.prog.funcs[f]? =some fn)
  (witness:∃ (w:World) (tape:Tape) (i:Input),w.os=os∧(w.forCall tape i).Shaped C.prog∧i.vars=[]∧Input.okWide C.prog (w.forCall tape i) .any w.heap.size f i∧
   ((s.pre enc C.prog fn conds apart (w.forCall tape i).memory i.args∧X (w.forCall tape i).memory i.args)∧sizedMet enc C.prog fn (OpenSpec.ofChange s) apart (w.forCall tape i).memory i.args)∧a.holds C.prog (lone (Frame.enter C.prog f i.args .normal) [] (w.forCall tape i)))
  (contract:∀ (W:World) (base:Nat) (args:Array Value) (ds gs:List (DataW H)) (before:List MemPlace),
   (∀ (j:Nat) t v,fn.params[j]? =some t→args[j]? =some v→Value.okWide C.prog W .any base t v)→
   DataW.Whole enc C.prog fn.params.toList s.vars apart W args.toList ds gs before→
   (DataW.weightsEach C.prog (fn.params.toList++s.plain.varTypes C.prog) (ds++gs)).all (·≤reachBytes)=true→X W args→W.ShapedOpen C.prog→
   Calls C.prog f args W fun e W'=>∃ v,e= .returned v∧s.post enc C.prog fn apart fresh handsOn again W args v W'):
  ReturnsInHanded a C os f .any (fun w args=>(s.pre enc C.prog fn conds apart w args∧X w args)∧sizedMet enc C.prog fn (OpenSpec.ofChange s) apart w args) (s.post enc C.prog fn apart fresh handsOn again):=by
 refine returnsInHanded_of_calls own started noInit witness ?_
 intro w tape i _ hsh _ hok hpre hholds
 obtain⟨_,_,_,fn',hfn',_,_,_,_,hval⟩:=hok
 have e:fn'=fn:=Option.some.inj (hfn'.symm.trans hfn)
 subst e
 obtain⟨⟨⟨ds,gs,before,hw,hc⟩,hx⟩,hz⟩:=hpre
 have hw':=DataW.Whole.of_heap (w':=w.forCall tape i) (by rfl) hw
 refine(contract (w.forCall tape i) w.heap.size i.args ds gs before hval hw' (hz.weights hw) (hX _ _ _ (by rfl) hx) hsh).mono fun e W' ⟨v,he,hp⟩=> ?_
 subst he
 exact ChangeSpec.post_blind hp
set_option maxRecDepth 100000 in
theorem lifted(os:Os)(started:os.Started)(H:Type)(enc:TypeId×Value→H):
  ReturnsInHanded {} Tryz.checked os 4 .any (fun w args=>(Rows.parserItemsSpec.pre enc Tryz.prog Tryz.f4 [] false w args∧laidMetH Tryz.prog Rows.parserItemsRow.laid w)∧sizedMet enc Tryz.prog Tryz.f4 (OpenSpec.ofChange Rows.parserItemsSpec) false w args)
   (Rows.parserItemsSpec.post enc Tryz.prog Tryz.f4 false true false false):=by
 refine wrap (C:=Tryz.checked) (X:=fun w _=>laidMetH Tryz.prog Rows.parserItemsRow.laid w) (fun _ _ _ hh h=>h.of_heap hh) own started (by kernel_rfl) Tryz.func4
  (ChangeSpec.witness_shaped (enc:=enc) (C:=Tryz.checked) (os:=os) (X:=fun w _=>laidMetH Tryz.prog Rows.parserItemsRow.laid w) false (World.laidAll Tryz.prog os Rows.parserItemsRow.laid) #[.slice none 0 0,.slice none 0 0] 8 (World.laidAll_os _ _ _)
   (World.shaped_of_ZipB (by kernel_rfl) (by kernel_rfl)) (by kernel_rfl) (by kernel_rfl) (by kernel_rfl)
   (by rw[MakeChecks.laidMetH_plain _ _ _ (by kernel_rfl)];exact laidMet_laidAll _ (by kernel_rfl) (by kernel_rfl))) ?_
 intro W base args ds gs before hval0 hW hsz hL hsh
 rw[MakeChecks.laidMetH_plain _ _ _ (by kernel_rfl)]at hL
 have hval:∀ (j:Nat) t v,Tryz.f4.params[j]? =some t→args[j]? =some v→Value.okWide Tryz.prog W .any base t v:=hval0
 have hW':=hW
 obtain⟨p,q,hA0,hV,rfl,_,_⟩:=hW
 have hA:DataW.TrodAll enc Tryz.prog W 0 (fun _=>true) true Tryz.f4.params.toList args.toList ds p:=hA0
 have hz0:∀ (j:Nat) t d,Tryz.f4.params.toList[j]? =some t→ds[j]? =some d→Wok Tryz.prog t d:=fun j t d ht hd n hn=>by
  have hl1:j<Tryz.f4.params.toList.length:=(List.getElem?_eq_some_iff.1 ht).1
  have hl2:j<ds.length:=(List.getElem?_eq_some_iff.1 hd).1
  have:=List.all_eq_true.1 hsz n (DataW.weights_mem_each (j:=j) (by rw[List.getElem?_append_left hl1];exact ht) (by rw[List.getElem?_append_left hl2];exact hd) n hn)
  simpa using this
 rw[Tryz.params4]at hA hval hz0
 obtain⟨v0,vs0,d0,ds0,p0,q0,hargs,rfl,rfl,h0,r0⟩:=trodAll_cons hA
 obtain⟨v1,vs1,d1,ds1,p1,q1,rfl,rfl,rfl,h1,r1⟩:=trodAll_cons r0
 obtain⟨rfl,rfl,rfl⟩:=trodAll_nil r1
 obtain rfl:args= #[v0,v1]:=by cases args;simp_all
 obtain⟨rfl,rfl⟩:=trodVars_none hV
 obtain⟨_,g0,a,e0,ha⟩:=arg_one (by kernel_rfl) (hval 0 _ v0 rfl rfl) h0 (hz0 0 _ d0 rfl rfl) rd_bytes
 cases e0
 obtain⟨_,g1,b,e1,hb⟩:=arg_one (by kernel_rfl) (hval 1 _ v1 rfl rfl) h1 (hz0 1 _ d1 rfl rfl) rd_bytes
 cases e1
 refine(Pure.calls (items_ok a b ha hb) (globOK hL hsh) (RL.cons g0 (RL.cons g1 RL.nil))).mono fun e W' ⟨he,hb⟩=> ?_
 subst he
 exact⟨_,rfl,post_true laidOut (by kernel_rfl) rfl ⟨rfl,rfl,rfl⟩ rfl Tryz.underlying4 hW' hb⟩
theorem over:Rows.parserItemsRow.holds Tryz.pinned (OpenSpec.ofChange Rows.parserItemsSpec):=
 OpenClaim.holds_of_wide 4 Tryz.f4 rfl rfl rfl rfl rfl rfl rfl ⟨rfl,rfl,rfl,rfl,rfl⟩ rfl rfl rfl rfl rfl (by kernel_rfl) Tryz.func4 (by kernel_rfl)
  (of_decide_eq_true (by kernel_rfl)) (by unfold Func.isWrapper;first|(rw[if_pos (by decide+kernel)];kernel_rfl)|(rw[if_neg (by decide+kernel)];exact⟨rfl,rfl⟩))
  (fun os started H enc _=>lifted os started H enc)
theorem proved:Rows.ParserItemsCardSaid:=
 Claim7.holds_tied_plain_at .later [] [.data,.data,.data,.data,.sentinel,.sentinel,.data,.pinned] true (true, "76423096e73d39dfa473cfe6342f6749cbc65ada8e362117fc4b3dcaca5d36b5") true over (fun _ h=>by cases h) (by kernel_rfl) (fun _ h=>by cases h) parserItems_row_tie rfl ⟨rfl,rfl⟩ (by kernel_rfl) rfl
  (fun f fn hf hfn=>by
   obtain rfl:f=4:=Option.some.inj ((show Tryz.prog.funcNamed "asof/asoflaw09.ParserItems" =some 4 by kernel_rfl).symm.trans hf) |>.symm
   obtain rfl:fn=Tryz.f4:=(Option.some.inj (Tryz.func4.symm.trans hfn)).symm
   exact⟨by kernel_rfl,fun j t ht=>by
    rw[Tryz.params4]at ht
    have hm:t∈[22,22]:=by simpa using Array.mem_of_getElem? ht
    have hall:([22,22].all fun u=> !Tryz.prog.wantsStandIn u)=true:=by kernel_rfl
    exact(show Tryz.prog.wantsStandIn t=false by simpa using List.all_eq_true.1 hall t hm)⟩)
  (by kernel_rfl)
end Go.Proofs.YtdcpcffpapiadaaGreatDoor.parserItems
