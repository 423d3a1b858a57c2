/- catalog.Order, walked. -/
import Derived.Test.YtekngilbecjkhaaGreatDoorCk
import Derived.WalkMore
import Derived.Test.YtekngilbecjkhaaGreatDoorDa
import Derived.Test.YtekngilbecjkhaaGreatDoorShelfD
import Derived.Lib.SliceRun
import Derived.Test.YtekngilbecjkhaaGreatDoorCj
import Derived.Test.YtekngilbecjkhaaGreatDoorSxL
set_option linter.unusedVariables false
set_option linter.unusedSimpArgs false
namespace Go.Proofs.YtekngilbecjkhaaGreatDoor
open Go.RowKit Go.Proofs Go.Tb Go.Maps
open Go.Sx (AV Inv Mem RL R M0 Glob)
set_option maxHeartbeats 4000000 in
set_option maxRecDepth 1000000 in
theorem order_walk(c:Cat)(hF:CFit c.features){M:Mem}{w:World}(hI:Inv Tryz.prog M w [] w){Cc:Array Value}(hC:RL M c.cells Cc.toList):
  Calls Tryz.prog 20 #[.agg Cc] w fun e W'=>∃ v,e= .returned v∧names W' 9 w.heap.size v (orderL (deps c.features) (namesF c.features))∧Below w.heap.size w W':=by
 have lC:Cc.size=4:=by have:=hC.1;simpa[Cat.cells]using this.symm
 have agC:Sx.aggT Tryz.prog 25=some (true,Cc.toList.length):=by rw[Array.length_toList,lC];kernel_rfl
 clear lC
 have hb1:Below w.heap.size w (w.alloc (.cells Cc 25)):=((Keep.refl w []).alloc _).below (Nat.le_refl _) (by simp)
 have hDep:=deps_walk c hF (c_inv hI hb1) hC
 rw[show(w.alloc (.cells Cc 25)).heap.size=w.heap.size+1 by simp]at hDep
 have HDep:=Hd.mk hDep
 clear hDep
 have HC:=Hd.mk (row_cells (heap_alloc_new w (.cells Cc 25)))
 have hmm:= @run_makeMap Tryz.prog
 have hlen:=hF.l
 have hmx:maxLen=9223372036854775807:=rfl
 obtain⟨i0,hi0,hz0,hz1,hz2⟩:=info_parts strInfo
 obtain⟨Rel,hRel⟩:∃ Rel:Nat→Nat→Nat→Nat→Value→List Str→(Str→Nat)→Value→World→Prop,∀ n bA bd lo vN L F vl wr,Rel n bA bd lo vN L F vl wr↔∃ out,OSt w c.features bA bd lo vN L F out wr vl∧n=(namesF c.features).length-out.length:=⟨_,fun _ _ _ _ _ _ _ _ _=>Iff.rfl⟩
 have HRel:=Hd.mk hRel
 clear hRel hI hC hb1
 go_enter Tryz.func20,Tryz.ntmps20
 go_wp2
 go_step3
 go_wp2_with (first
  |(show wpList _ _ _ (⟨some 10,_,_,_,_,_⟩::_) _ _;refine c_load rfl 25 (.tmp 1) rfl w.heap.size 0 rfl Cc HC.out agC ?_)
  |(go_at_call 48;refine HDep.out.mono ?_;rintro e w2 ⟨L,Fm,rfl,hA,hb2⟩;have HA:=Hd.mk (And.intro hA hb2);clear HDep HC hA hb2)
  |(go_at_call 49;refine(keysM_call _ _).mono ?_;rintro e w3 ⟨rfl,rfl⟩)
  |(go_at_call 46;refine(sortedM_call HA.out.1.m (Nat.le_trans HA.out.1.len (by omega))).mono ?_;rintro e w4 ⟨vN,S,rfl,hS1,hS2,hS3,hS4⟩;have HS:=Hd.mk (OSt.start rfl HA.out.1 HA.out.2 (HA.out.1.names hS1 hS2 ▸ hS3) (below_alloc hS4));clear hS1 hS2 hS3 hS4 HA))
 obtain⟨wo,hwo⟩:∃ wo,wo=w4.alloc (.map #[] 0):=⟨_,rfl⟩
 rw[← hwo]at HS
 have hs4:wo.heap.size=w4.heap.size+1:=by rw[hwo];simp
 have H0:Hd (∃ n,Rel n (w.heap.size+2) w4.heap.size (w4.heap.size+1) vN L Fm (.slice none 0 0) wo):=⟨⟨_,(HRel.out _ _ _ _ _ _ _ _ _).2 ⟨[],HS.out,rfl⟩⟩⟩
 rw[← hwo]
 obtain⟨aN,capN,rfl,hlN,_⟩:=HS.out.r
 have hN9:(namesF c.features).length≤274877906944:=Nat.le_trans (namesF_len _) hlen
 clear hwo HS hs4
 go_step3
 go_wp2
 go_loopw [2] (fun vl wr=>∃ n,Rel n (w.heap.size+2) w4.heap.size (w4.heap.size+1) (.slice aN (namesF c.features).length capN) L Fm vl wr) (fun vl wr=>mu fun n=>Rel n (w.heap.size+2) w4.heap.size (w4.heap.size+1) (.slice aN (namesF c.features).length capN) L Fm vl wr)
 case atStart=>exact H0.out
 obtain⟨vl0,hv0⟩:∃ v:Value,v=u2:=⟨u2,rfl⟩
 subst hv0
 obtain⟨out,hS,hn⟩:=(HRel.out _ _ _ _ _ _ _ _ _).1 (mu_spec hrel)
 have HL:Hd (∀ (out':List Str) (v':Value) (w':World),OSt w c.features (w.heap.size+2) w4.heap.size (w4.heap.size+1) (.slice aN (namesF c.features).length capN) L Fm out' w' v'→(namesF c.features).length-out'.length<(namesF c.features).length-out.length→
   (∃ n,Rel n (w.heap.size+2) w4.heap.size (w4.heap.size+1) (.slice aN (namesF c.features).length capN) L Fm v' w')∧(mu fun n=>Rel n (w.heap.size+2) w4.heap.size (w4.heap.size+1) (.slice aN (namesF c.features).length capN) L Fm v' w')<mu fun n=>Rel n (w.heap.size+2) w4.heap.size (w4.heap.size+1) (.slice aN (namesF c.features).length capN) L Fm vl0 wr):=⟨fun out' v' w' h1 h2=>by
  have h4:=(HRel.out _ _ _ _ _ _ _ v' w').2 ⟨out',h1,rfl⟩
  exact⟨⟨_,h4⟩,mu_lt h4 (by rw[hn];exact h2)⟩⟩
 have HS:=Hd.mk hS
 obtain⟨wo2,rfl⟩:∃ wo2:World,wo2=wr:=⟨wr,rfl⟩
 clear hn hS hrel H0 HRel
 go_wp2
 go_loopw [2,18] (fun vl i wr=>∃ k:Nat,i= .int .i64 k∧k≤(namesF c.features).length∧vl=vl0∧Hd (OSt w c.features (w.heap.size+2) w4.heap.size (w4.heap.size+1) (.slice aN (namesF c.features).length capN) L Fm out wr vl0)∧Hd (∀ j (hj:j<(namesF c.features).length),j<k→ready (deps c.features) out (namesF c.features)[j]=false)) (fun _ i _=>(namesF c.features).length-(intOf i).toNat)
 case atStart=>exact⟨0,rfl,Nat.zero_le _,rfl,HS,⟨fun j hj h=>absurd h (by omega)⟩⟩
 clear HS
 obtain⟨k,rfl,hk,rfl,HS,HP⟩:=hrel
 by_cases hlt:k<(namesF c.features).length
 ·obtain⟨_,_,he,_,hcell⟩:=HS.out.r
  cases he
  obtain⟨gN,offN,rfl,hgN,hcN⟩:=hcell k hlt
  obtain⟨s,hs⟩:∃ s,s=(namesF c.features)[k]:=⟨_,rfl⟩
  rw[← hs]at hcN
  have hsL:s∈L:=(HS.out.a.l s).2 (namesF_mem.1 (hs ▸ List.getElem_mem hlt))
  have hss:s.size≤maxLen:=HS.out.a.m.2.1 s hsL
  obtain⟨D,hD,hDm⟩:=HS.out.a.s s hsL
  have HD:=Hd.mk hD
  have HDm:=Hd.mk hDm
  have Hs:=Hd.mk hs
  clear hD hDm hs hcell
  go_wp2_with (first
   |(at_lookup;refine wp_in _ rfl _ _ 70 rfl Tryz.underlying9 Tryz.underlying4 Tryz.underlying70 (Tryz.zeroValue4 _) w4.heap.size out rfl HS.out.d s rfl hss ?_)
   |(at_lookup;refine wp_getm _ rfl _ _ 76 rfl Tryz.underlying9 Tryz.underlying76 (Tryz.zeroValue70 _) (w.heap.size+2) L Fm rfl HS.out.a.m s rfl hss ?_;rw[if_pos hsL])
   |(at_range;refine wp_range _ rfl _ 70 rfl Tryz.underlying9 4 Tryz.underlying70 (plainElem Tryz.prog 4) (Fm s) D (fun _=>tt) rfl HD.out ?_;intro w6 cnt0 hrg0 hg0 hsz0))
  have H3:=Hd.mk (OIt.start HS.out hrg0 hg0)
  clear hrg0 hg0 hsz0 hcN
  obtain⟨wo3,rfl⟩:∃ wo3:World,wo3=wr:=⟨wr,rfl⟩
  obtain⟨b0,hb0⟩:∃ b0:Bool,b0= !decide (s∈out):=⟨_,rfl⟩
  rw[← hb0]at H3
  try simp only[← hb0]
  clear hb0
  go_frame
  go_loopw [8] (fun v wr=>∃ (left:Str→Prop) (cnt:Nat) (b:Bool),v= .bool b∧Hd (OIt w c.features (w.heap.size+2) w4.heap.size (w4.heap.size+1) (.slice (some ⟨gN,offN,none⟩) (namesF c.features).length capN) L Fm out s D wo3.heap.size left cnt b wr u2)) (fun _ wr=>wr.rangeLeft (Fm s) wo3.heap.size)
  case atStart=>exact⟨_,cnt0,b0,rfl,H3⟩
  obtain⟨left,cnt,b,rfl,HR⟩:=hrel
  clear H3
  go_wp2_with (first
   |(at_next;refine wp_next _ rfl (.tmp 29) rfl Tryz.underlying9 (plainElem Tryz.prog 4) (fun _=> .bool true) (Fm s) wo3.heap.size D (fun _=>tt) (fun s _ v ps h=>bool_inv Tryz.underlying4 h) left cnt rfl HR.out.q ?_ ?_))
  ·intro hd
   have hb:=Hd.mk (HR.out.done hd HDm.out)
   clear hd
   cases b
   ·go_wp2
    go_roundw
    case rel=>
     refine⟨k+1,by go_num,hlt,rfl,⟨HR.out.o⟩,⟨fun j hj hjk=> ?_⟩⟩
     rcases Nat.lt_or_eq_of_le (Nat.le_of_lt_succ hjk)with h1|rfl
     ·exact HP.out j hj h1
     ·rw[← Hs.out];exact hb.out.symm
    case measure=>simp[intOf];omega
   ·have hnx:Hd (ordNext (deps c.features) (namesF c.features) out=some s):=⟨by rw[Hs.out];exact ordNext_at hlt HP.out (by rw[← Hs.out];exact hb.out.symm)⟩
    have hol:out.length<(namesF c.features).length:=(HR.out.o.o.step hnx.out).2
    go_wp2_with (first
     |(at_mapUpdate;refine wp_add _ rfl _ _ _ 70 rfl Tryz.underlying9 Tryz.underlying4 Tryz.underlying70 w4.heap.size out rfl HR.out.o.d (by omega) s rfl hss rfl ?_;intro w2' hset2 hg2';have HM:=Hd.mk (HR.out.o.mid hg2' (.cells #[.string s] 9));have H2:=Hd.mk (And.intro hset2 hg2');clear hset2 hg2')
     |(at_builtin;refine wp_append1 _ rfl (.tmp 43) (.tmp 45) 39 rfl 9 i0 (.string ⟨#[]⟩) Tryz.underlying39 hi0 hz0 hz1 hz2 rfl (w4.heap.size+1) HM.out.2 _ out rfl HM.out.1 w2'.heap.size s rfl ((cell_at (heap_alloc_new _ _)).trans rfl) (by omega) ?_;intro vn w5' hvn hcw))
    have HE:=HL.out _ vn w5' (HR.out.o.put hnx.out H2.out.1 H2.out.2 _ hvn hcw) (by simp only[List.length_append,List.length_singleton];omega)
    go_roundw
    case rel=>exact HE.1
    case measure=>exact HE.2
  ·intro m w' cnt' hmD hleft hrg1 hlt1 hg1 hsz1 hen
   have hms:m.size≤maxLen:=hrg1.2.1 m hmD
   have HN:=Hd.mk ((HR.out.next hmD hrg1 hg1).resolve_right fun h=>h hleft)
   have HNd:=Hd.mk (HR.out.o.iter HR.out.q.iter HR.out.r hg1).d
   have HLR:Hd (w'.rangeLeft (Fm s) wo3.heap.size<wr.rangeLeft (Fm s) wo3.heap.size):=⟨by rw[hrg1.left_eq,HR.out.q.left_eq];exact hlt1⟩
   clear hrg1 hg1
   cases b
   ·go_wp2
    go_roundw
    case rel=>exact⟨_,cnt',false,rfl,HN⟩
    case measure=>exact HLR.out
   ·go_wp2_with (first
     |(show wpList _ _ _ (⟨some 38,_,_,_,_,some _⟩::_) _ _;refine wpList_unguard rfl ?_;refine wp_in _ rfl _ _ 70 rfl Tryz.underlying9 Tryz.underlying4 Tryz.underlying70 (Tryz.zeroValue4 _) w4.heap.size out rfl HNd.out m rfl hms ?_))
    go_roundw
    case rel=>exact⟨_,cnt',decide (m∈out),rfl,by simpa using HN⟩
    case measure=>exact HLR.out
 ·have hfin:Hd (out=orderL (deps c.features) (namesF c.features)):=⟨HS.out.o.done (ordNext_no fun j hj=>HP.out j hj (by omega))⟩
  have lw:=HS.out.l1
  have lw2:=HS.out.l2
  go_wp2
  rw[Exit.noGoto_ret]
  go_ret
  exact⟨_,rfl,hfin.out ▸ HS.out.v.mono (by omega),HS.out.k⟩
structure PRow(base:Nat)(a:Str)(n:Nat)(P:List (List Str))(vals:List Value)(v:Value)(wr:World):Prop where
 r:wr.ownsRow base 39 1 v P.length vals
 l:vals.length=P.length
 p:∀ (i:Nat) (h1:i<vals.length) (h2:i<P.length),wr.ownsRow base 9 1 vals[i] n ((a::P[i]).map .string)
theorem own_lt{w:World}{base:Nat}{e:TypeId}{v:Value}{n:Nat}{xs:List Value}(h:w.ownsRow base e 1 v n xs){k:Nat}(hk:v.ownBlock=some k):∃ cur,w.heap[k]? =some (.cells cur e (0,0)):=by
 rcases h.2 with⟨rfl,_⟩|⟨g,cap,cur,rfl,hb,hg,_⟩
 ·simp[Value.ownBlock]at hk
 ·simp[Value.ownBlock]at hk;subst hk;exact⟨cur,hg⟩
theorem own_below{w w':World}{base:Nat}{e:TypeId}{v:Value}{n:Nat}{xs:List Value}(h:w.ownsRow base e 1 v n xs)(hb:Below w.heap.size w w'):w'.ownsRow base e 1 v n xs:=by
 refine⟨h.1,?_⟩
 rcases h.2 with hn|⟨g,cap,cur,rfl,hbb,hgg,rest⟩
 ·exact .inl hn
 ·exact .inr ⟨g,cap,cur,rfl,hbb,by rw[hb.block g (Array.getElem?_eq_some_iff.1 hgg).1];exact hgg,rest⟩
theorem PRow.below{base:Nat}{a:Str}{n:Nat}{P:List (List Str)}{vals:List Value}{v:Value}{w w':World}(h:PRow base a n P vals v w)(hb:Below w.heap.size w w'):PRow base a n P vals v w':=
 ⟨own_below h.r hb,h.l,fun i h1 h2=>own_below (h.p i h1 h2) hb⟩
theorem own_ne{w:World}{base:Nat}{e:TypeId}{v:Value}{n:Nat}{xs:List Value}(h:w.ownsRow base e 1 v n xs){b:Nat}(hb:∀ cur,w.heap[b]?≠some (.cells cur e (0,0))):v.ownBlock≠some b:=fun e'=>by
 obtain⟨cur,hc⟩:=own_lt h e';exact hb cur hc
theorem PRow.map{base:Nat}{a:Str}{n:Nat}{P:List (List Str)}{vals:List Value}{v:Value}{w w':World}{b:Nat}(h:PRow base a n P vals v w)(hb:∃ es c,w.heap[b]? =some (.map es c))(hg:w.grownBy w' (some b)):PRow base a n P vals v w':=
 ⟨h.r.kept hg (.inr (own_ne h.r fun cur=>not_cells hb cur _ _)),h.l,fun i h1 h2=>(h.p i h1 h2).kept hg (.inr (own_ne (h.p i h1 h2) fun cur=>not_cells hb cur _ _))⟩
theorem PRow.other{base:Nat}{a:Str}{n:Nat}{P:List (List Str)}{vals:List Value}{v v':Value}{w w':World}{xs:List Value}{k base':Nat}(h:PRow base a n P vals v w)(h':w.ownsRow base' 39 1 v' k xs)(hne:∀ g,v'.ownBlock=some g→v.ownBlock≠some g)(hg:w.grownBy w' v'.ownBlock):PRow base a n P vals v w':=by
 refine⟨h.r.kept hg ?_,h.l,fun i h1 h2=>(h.p i h1 h2).kept hg ?_⟩
 ·cases hb:v'.ownBlock with
  |none=>cases hv:v.ownBlock<;>simp
  |some g=>exact .inr (hne g hb)
 ·cases hb:v'.ownBlock with
  |none=>cases hv:vals[i].ownBlock<;>simp
  |some g=>
   obtain⟨cur,hc⟩:=own_lt h' hb
   refine .inr (own_ne (h.p i h1 h2) fun cur' e=> ?_)
   rw[hc]at e;cases e
theorem PRow.push{base:Nat}{a:Str}{n:Nat}{P:List (List Str)}{vals:List Value}{v v' u:Value}{q:List Str}{w w':World}(h:PRow base a n P vals v w)(hu:w.ownsRow base 9 1 u n ((a::q).map .string))(hg:w.grownBy w' v.ownBlock)(hr:w'.ownsRow base 39 1 v' (P.length+1) (vals++[u])):PRow base a n (P++[q]) (vals++[u]) v' w':=by
 have key:∀ {x:Value} {n:Nat} {xs:List Value},w.ownsRow base 9 1 x n xs→w'.ownsRow base 9 1 x n xs:=fun {x n xs} hx=>by
  refine hx.kept hg ?_
  cases hb:v.ownBlock with
  |none=>cases hv:x.ownBlock<;>simp
  |some g=>
   obtain⟨cur,hc⟩:=own_lt h.r hb
   refine .inr (own_ne hx fun cur' e=> ?_)
   rw[hc]at e;cases e
 refine⟨by rw[List.length_append,List.length_singleton];exact hr,by simp[h.l],fun i h1 h2=> ?_⟩
 have hl:=h.l
 by_cases hi:i<P.length
 ·rw[List.getElem_append_left hi,List.getElem_append_left (by omega)]
  exact key (h.p i (by omega) hi)
 ·obtain rfl:i=P.length:=by simp at h2;omega
  rw[List.getElem_append_right (by omega),List.getElem_append_right (by omega)]
  simpa using key hu
theorem PRow.nil(base:Nat)(a:Str)(n:Nat)(w:World):PRow base a n [] [] (.slice none 0 0) w:=⟨World.ownsRow_nil _ _ _ _,rfl,fun i h=>absurd h (by simp)⟩
theorem lst_get:∀ (a:Str) (q:List Str),(a::q)[q.length]? =some (lst a q)
 |a,[]=>rfl
 |a,b::l=>by
  have:=lst_get b l
  rw[lst,← this];rfl
theorem PRow.at{base:Nat}{a:Str}{n:Nat}{P:List (List Str)}{vals:List Value}{v:Value}{w:World}(h:PRow base a (n+1) P vals v w){i:Nat}(hi:i<P.length)(hn:P[i].length=n):
  ∃ g cap g2 cap2,v= .slice (some ⟨g,0,none⟩) P.length cap∧w.cell? ⟨g,i,none⟩=some (.slice (some ⟨g2,0,none⟩) (n+1) cap2)∧w.cell? ⟨g2,n,none⟩=some (.string (lst a P[i]))∧w.ownsRow base 9 1 (.slice (some ⟨g2,0,none⟩) (n+1) cap2) (n+1) ((a::P[i]).map .string)∧vals[i]? =some (.slice (some ⟨g2,0,none⟩) (n+1) cap2):=by
 have hl:=h.l
 obtain⟨cur,hcur⟩:∃ g,v.ownBlock=some g:=by
  rcases h.r.2 with⟨rfl,hz⟩|⟨g,cap,cur,rfl,_⟩
  ·omega
  ·exact⟨g,rfl⟩
 have hc:=h.r.cells hcur i vals[i] (List.getElem?_eq_getElem (by omega))
 have hp:=h.p i (by omega) hi
 rcases h.r.2 with⟨rfl,hz⟩|⟨g,cap,cur',rfl,_⟩
 ·omega
 simp only[Value.ownBlock,Option.some.injEq]at hcur
 subst hcur
 rw[Addr.add_lit,Nat.zero_add]at hc
 rcases hp.2 with⟨h1,h2⟩|⟨g2,cap2,cur2,h1,_⟩
 ·omega
 have hc2:=hp.cells (g:=g2) (by rw[h1];rfl) n (.string (lst a P[i])) (by
  have:=lst_get a P[i]
  rw[hn]at this
  rw[List.getElem?_map,this];rfl)
 rw[Addr.add_lit,Nat.zero_add]at hc2
 rw[h1]at hc hp
 exact⟨g,cap,g2,cap2,rfl,hc,hc2,hp,by rw[← h1];exact List.getElem?_eq_getElem (by omega)⟩
theorem PRow.own{base:Nat}{a:Str}{n:Nat}{P:List (List Str)}{vals:List Value}{v u:Value}{w:World}(h:PRow base a n P vals v w){i:Nat}(hu:vals[i]? =some u)(hi:i<P.length):w.ownsRow base 9 1 u n ((a::P[i]).map .string):=by
 obtain⟨h1,rfl⟩:=List.getElem?_eq_some_iff.1 hu
 exact h.p i h1 hi
theorem own_mono{w:World}{base base':Nat}{e:TypeId}{v:Value}{n:Nat}{xs:List Value}(h:w.ownsRow base e 1 v n xs)(hb:base'≤base):w.ownsRow base' e 1 v n xs:=by
 refine⟨h.1,?_⟩
 rcases h.2 with hn|⟨g,cap,cur,rfl,hbb,rest⟩
 ·exact .inl hn
 ·exact .inr ⟨g,cap,cur,rfl,Nat.le_trans hb hbb,rest⟩
theorem PRow.mono{base base':Nat}{a:Str}{n:Nat}{P:List (List Str)}{vals:List Value}{v:Value}{w:World}(h:PRow base a n P vals v w)(hb:base'≤base):PRow base' a n P vals v w:=⟨own_mono h.r hb,h.l,fun i h1 h2=>own_mono (h.p i h1 h2) hb⟩
structure SSt(w:World)(a:Str)(bs lv n:Nat)(P:List (List Str))(vals:List Value)(vp:Value)(Q:List (List Str))(valsQ:List Value)(S:List Str)(wr:World)(vl:Value):Prop where
 p:PRow w.heap.size a (n+1) P vals vp wr
 q:PRow lv a (n+2) Q valsQ vl wr
 s:SetAt wr bs S
 k:Below w.heap.size w wr
 d:∀ g,vp.ownBlock=some g→g<lv
 b:w.heap.size≤bs
 l:w.heap.size≤lv
 z:lv≤wr.heap.size
theorem SSt.below{w:World}{a:Str}{bs lv n:Nat}{P:List (List Str)}{vals:List Value}{vp:Value}{Q:List (List Str)}{valsQ:List Value}{S:List Str}{wr w':World}{vl:Value}(h:SSt w a bs lv n P vals vp Q valsQ S wr vl)(hb:Below wr.heap.size wr w'):SSt w a bs lv n P vals vp Q valsQ S w' vl:=
 ⟨h.p.below hb,h.q.below hb,set_below h.s hb,h.k.trans (c_less hb h.k.size),h.d,h.b,h.l,Nat.le_trans h.z hb.size⟩
theorem SSt.mark{w:World}{a:Str}{bs lv n:Nat}{P:List (List Str)}{vals:List Value}{vp:Value}{Q:List (List Str)}{valsQ:List Value}{S S':List Str}{wr w':World}{vl:Value}(h:SSt w a bs lv n P vals vp Q valsQ S wr vl)(hs:SetAt w' bs S')(hg:wr.grownBy w' (some bs)):SSt w a bs lv n P vals vp Q valsQ S' w' vl:=by
 have hb:=h.b
 exact⟨h.p.map h.s.isMap hg,h.q.map h.s.isMap hg,hs,h.k.trans ((Keep.of_grown hg).below h.k.size (by simpa using hb)),h.d,h.b,h.l,Nat.le_trans h.z hg.size⟩
theorem SSt.push{w:World}{a:Str}{bs lv n:Nat}{P:List (List Str)}{vals:List Value}{vp:Value}{Q:List (List Str)}{valsQ:List Value}{S:List Str}{wr w':World}{vl vl' u:Value}{q:List Str}(h:SSt w a bs lv n P vals vp Q valsQ S wr vl)(hu:wr.ownsRow lv 9 1 u (n+2) ((a::q).map .string))(hg:wr.grownBy w' vl.ownBlock)(hr:w'.ownsRow lv 39 1 vl' (Q.length+1) (valsQ++[u])):
  SSt w a bs lv n P vals vp (Q++[q]) (valsQ++[u]) S w' vl':=by
 refine⟨h.p.other h.q.r (fun g hg e=>by have:=(h.q.r.lt g hg).1;have:=h.d g e;omega) hg,h.q.push hu hg hr,?_,?_,h.d,h.b,h.l,Nat.le_trans h.z hg.size⟩
 ·refine tbl.kept h.s hg ?_
  cases hb:vl.ownBlock with
  |none=>simp
  |some g=>
   obtain⟨cur,hc⟩:=own_lt h.q.r hb
   simp only[ne_eq,Option.some.injEq]
   rintro rfl
   exact not_cells h.s.isMap _ _ _ hc
 ·cases hb:vl.ownBlock with
  |none=>rw[hb]at hg;exact h.k.trans ((Keep.of_none hg []).below h.k.size (by simp))
  |some g=>
   rw[hb]at hg
   have:=(h.q.r.lt g hb).1
   have:=h.l
   exact h.k.trans ((Keep.of_grown hg).below h.k.size (by simp;omega))
theorem SSt.level{w:World}{a:Str}{bs n:Nat}{P:List (List Str)}{vals:List Value}{vp:Value}{S:List Str}{wr:World}(h1:PRow w.heap.size a (n+1) P vals vp wr)(h2:SetAt wr bs S)(h3:Below w.heap.size w wr)(hb:w.heap.size≤bs):SSt w a bs wr.heap.size n P vals vp [] [] S wr (.slice none 0 0):=
 ⟨h1,PRow.nil _ _ _ _,h2,h3,fun g hg=>(h1.r.lt g hg).2,hb,h3.size,Nat.le_refl _⟩
theorem PRow.first(w:World)(a:Str):PRow w.heap.size a (0+1) [[]] [.slice (some ⟨w.heap.size+1,0,none⟩) 1 1] (.slice (some ⟨w.heap.size+2,0,none⟩) 1 1) (((w.alloc (.map #[] 0)).alloc (.cells #[.string a] 9)).alloc (.cells #[.slice (some ⟨w.heap.size+1,0,none⟩) 1 1] 39))∧
  SetAt (((w.alloc (.map #[] 0)).alloc (.cells #[.string a] 9)).alloc (.cells #[.slice (some ⟨w.heap.size+1,0,none⟩) 1 1] 39)) w.heap.size []∧
  Below w.heap.size w (((w.alloc (.map #[] 0)).alloc (.cells #[.string a] 9)).alloc (.cells #[.slice (some ⟨w.heap.size+1,0,none⟩) 1 1] 39)):=by
 have e1:=heap_alloc_new (w.alloc (.map #[] 0)) (.cells #[.string a] 9)
 rw[show(w.alloc (.map #[] 0)).heap.size=w.heap.size+1 by simp]at e1
 have e2:=heap_alloc_new ((w.alloc (.map #[] 0)).alloc (.cells #[.string a] 9)) (.cells #[.slice (some ⟨w.heap.size+1,0,none⟩) 1 1] 39)
 rw[show((w.alloc (.map #[] 0)).alloc (.cells #[.string a] 9)).heap.size=w.heap.size+2 by simp]at e2
 have e1':=(heap_alloc_old ((w.alloc (.map #[] 0)).alloc (.cells #[.string a] 9)) (.cells #[.slice (some ⟨w.heap.size+1,0,none⟩) 1 1] 39) (Array.getElem?_eq_some_iff.1 e1).1).trans e1
 refine⟨⟨⟨rfl,.inr ⟨w.heap.size+2,1,_,rfl,by omega,e2,by simp,by decide,by simp,by simp⟩⟩,rfl,fun i h1 h2=> ?_⟩,((set_made w _ _ _).alloc _).alloc _,((((Keep.refl w []).alloc _).alloc _).alloc _).below (Nat.le_refl _) (by simp)⟩
 obtain rfl:i=0:=by simpa using h1
 exact⟨rfl,.inr ⟨w.heap.size+1,1,_,rfl,by omega,e1',by simp,by decide,by simp,by simp⟩⟩
theorem names_keepT{w w':World}{e:TypeId}{lo:Nat}{v:Value}{L:List Str}(h:names w e lo v L)(hk:∀ (g:Nat) (cur:Array Value),w.heap[g]? =some (Obj.cells cur e (0,0))→w'.heap[g]? =w.heap[g]?):names w' e lo v L:=by
 obtain⟨a,cap,rfl,h1,h2,h3⟩:=h
 exact⟨a,cap,rfl,h1,h2,fun hc=>by obtain⟨g,off,cur,g1,g2,g3,g4⟩:=h3 hc;exact⟨g,off,cur,g1,g2,(hk g _ g3).trans g3,g4⟩⟩
theorem names_push{w w':World}{lo base n:Nat}{v vl:Value}{L:List Str}{xs:List Value}(h:names w 9 lo v L)(hq:w.ownsRow base 39 1 vl n xs)(hg:w.grownBy w' vl.ownBlock):names w' 9 lo v L:=by
 refine names_keepT h fun g cur hc=>hg.block g (Array.getElem?_eq_some_iff.1 hc).1 fun e=> ?_
 obtain⟨cur',hc'⟩:=own_lt hq e.symm
 rw[hc]at hc';cases hc'
theorem pth_in{fs:List Fea}:∀ {a:Str} {q:List Str},a∈namesF fs→Pth (deps fs) a q→lst a q∈namesF fs
 |_,[],h,_=>h
 |a,b::l,_,h=>pth_in (a:=b) (q:=l) (deps_to h.1) h.2
theorem BInv.sub'{fs:List Fea}{a:Str}{k:Nat}{P:List (List Str)}{S:List Str}(ha:a∈namesF fs)(h:BInv (deps fs) a k P S):S.length≤(namesF fs).length:=nodup_le h.d fun x hx=>by
 obtain⟨q,h1,h2,_⟩:=h.r x hx
 rw[← h2];exact pth_in ha h1
theorem clone_call{w W:World}{a:Str}{bs lv n:Nat}{P:List (List Str)}{vals:List Value}{vp:Value}{Q:List (List Str)}{valsQ:List Value}{S:List Str}{vl:Value}{g2 cap2:Nat}{q:List Str}(h:SSt w a bs lv n P vals vp Q valsQ S W vl)(hn:n≤274877906944)
  (hq:W.ownsRow w.heap.size 9 1 (.slice (some ⟨g2,0,none⟩) (n+1) cap2) (n+1) ((a::q).map .string)):Calls Tryz.prog 79 #[.slice (some ⟨g2,0,none⟩) (n+1) cap2] W fun e W'=>∃ v,e= .returned v∧W'.ownsRow W.heap.size 9 1 v (n+1) ((a::q).map .string)∧Below W.heap.size W W':=by
 have hl:=hq.1
 rw[List.length_map,Nat.mul_one]at hl
 refine(Tryz.slices_Clone_string g2 0 (n+1) cap2 (a::q) W (by omega) (by omega) (fun j hj=> ?_)).mono fun e W' ⟨v,h1,h2,_,h4⟩=>⟨v,h1,?_,h4⟩
 ·have:=hq.cells (g:=g2) rfl j (.string ((a::q).getD j ByteArray.empty)) (by rw[List.getElem?_map,List.getD_eq_getElem?_getD,List.getElem?_eq_getElem hj];rfl)
  rw[Addr.add_lit]at this
  simpa using this
 ·rw[List.take_of_length_le (by omega)]at h2;exact h2
structure L2(fs:List Fea)(w:World)(a:Str)(bs lv k:Nat)(P:List (List Str))(vals:List Value)(vp:Value)(S:List Str)(i:Nat)(valsQ:List Value)(t:List (List Str)×List Str)(wr:World)(vl:Value):Prop where
 s:SSt w a bs lv k P vals vp t.1 valsQ t.2 wr vl
 e:t=extL (deps fs) a (P.take i) ([],S)
 b:t.1.length≤t.2.length
 n:∀ x∈t.2,x∈namesF fs
 no:∀ j (hj:j<P.length),j<i→a∉deps fs (lst a P[j])
structure L3(fs:List Fea)(w:World)(a:Str)(bs lv k:Nat)(P:List (List Str))(vals:List Value)(vp:Value)(p:List Str)(t0:List (List Str)×List Str)(v40:Value)(j:Nat)(valsQ:List Value)(t:List (List Str)×List Str)(wr:World)(vl:Value):Prop where
 s:SSt w a bs lv k P vals vp t.1 valsQ t.2 wr vl
 e:t=ext1 p ((deps fs (lst a p)).take j) t0
 b:t.1.length≤t.2.length
 n:∀ x∈t.2,x∈namesF fs
 v:names wr 9 0 v40 (deps fs (lst a p))
theorem L3.seen{fs:List Fea}{w:World}{a:Str}{bs lv k:Nat}{P:List (List Str)}{vals:List Value}{vp:Value}{p:List Str}{t0:List (List Str)×List Str}{v40:Value}{j:Nat}{valsQ:List Value}{t:List (List Str)×List Str}{wr:World}{vl:Value}(h:L3 fs w a bs lv k P vals vp p t0 v40 j valsQ t wr vl)(hj:j<(deps fs (lst a p)).length)(hin:(deps fs (lst a p))[j]∈t.2):L3 fs w a bs lv k P vals vp p t0 v40 (j+1) valsQ t wr vl:=by
 refine⟨h.s,?_,h.b,h.n,h.v⟩
 rw[List.take_succ_eq_append_getElem hj,ext1_snoc,← h.e,if_pos hin]
theorem L3.len{fs:List Fea}{w:World}{a:Str}{bs lv k:Nat}{P:List (List Str)}{vals:List Value}{vp:Value}{p:List Str}{t0:List (List Str)×List Str}{v40:Value}{j:Nat}{valsQ:List Value}{t:List (List Str)×List Str}{wr:World}{vl:Value}(h:L3 fs w a bs lv k P vals vp p t0 v40 j valsQ t wr vl):t.1.length≤(namesF fs).length∧t.2.length≤(namesF fs).length:=by
 have h1:=nodup_le h.s.s.1 h.n
 have h2:=h.b
 omega
theorem L3.push{fs:List Fea}{w:World}{a:Str}{bs lv k:Nat}{P:List (List Str)}{vals:List Value}{vp:Value}{p:List Str}{t0:List (List Str)×List Str}{v40:Value}{j:Nat}{valsQ:List Value}{t:List (List Str)×List Str}{wr w1 w4:World}{vl vl' u:Value}(h:L3 fs w a bs lv k P vals vp p t0 v40 j valsQ t wr vl)(hj:j<(deps fs (lst a p)).length)(hin:(deps fs (lst a p))[j]∉t.2)
  (hs:SSt w a bs lv k P vals vp t.1 valsQ (ins t.2 (deps fs (lst a p))[j]) w1 vl) (hv:names w1 9 0 v40 (deps fs (lst a p))) (hu:w1.ownsRow lv 9 1 u (k+2) ((a::(p++[(deps fs (lst a p))[j]])).map .string)) (hg:w1.grownBy w4 vl.ownBlock) (hr:w4.ownsRow lv 39 1 vl' (t.1.length+1) (valsQ++[u])):
  L3 fs w a bs lv k P vals vp p t0 v40 (j+1) (valsQ++[u]) (t.1++[p++[(deps fs (lst a p))[j]]],t.2++[(deps fs (lst a p))[j]]) w4 vl':=by
 have e:ins t.2 (deps fs (lst a p))[j]=t.2++[(deps fs (lst a p))[j]]:=by unfold ins;rw[if_neg hin]
 rw[e]at hs
 refine⟨hs.push hu hg hr,?_,?_,fun x hx=> ?_,names_push hv hs.q.r hg⟩
 ·rw[List.take_succ_eq_append_getElem hj,ext1_snoc,← h.e,if_neg hin]
 ·have:=h.b;simp only[List.length_append,List.length_singleton];omega
 ·rcases List.mem_append.1 hx with hx|hx
  ·exact h.n x hx
  ·rw[List.mem_singleton]at hx;subst hx;exact deps_to (List.getElem_mem hj)
theorem L3.done{fs:List Fea}{w:World}{a:Str}{bs lv k:Nat}{P:List (List Str)}{vals:List Value}{vp:Value}{S:List Str}{i:Nat}{valsQ0:List Value}{t0:List (List Str)×List Str}{wr0:World}{vl0:Value}{v40:Value}{j:Nat}{valsQ:List Value}{t:List (List Str)×List Str}{wr:World}{vl:Value}(hi:i<P.length)(h0:L2 fs w a bs lv k P vals vp S i valsQ0 t0 wr0 vl0)
  (h:L3 fs w a bs lv k P vals vp P[i] t0 v40 j valsQ t wr vl) (hj:(deps fs (lst a P[i])).length≤j) (hno:a∉deps fs (lst a P[i])):L2 fs w a bs lv k P vals vp S (i+1) valsQ t wr vl:=by
 refine⟨h.s,?_,h.b,h.n,fun x hx hxi=> ?_⟩
 ·rw[h.e,List.take_of_length_le hj,List.take_succ_eq_append_getElem hi,extL_snoc,← h0.e]
 ·rcases Nat.lt_or_eq_of_le (Nat.le_of_lt_succ hxi)with h1|rfl
  ·exact h0.no x hx h1
  ·exact hno
theorem own_one{w:World}{base:Nat}{e:TypeId}{v:Value}{n:Nat}{xs:List Value}(h:w.ownsRow base e 1 v n xs):∀ u∈[v],u.oneCell'=true:=fun u hu=>by
 rw[List.mem_singleton]at hu;subst hu
 rcases h.2 with⟨rfl,_⟩|⟨g,cap,cur,rfl,_⟩<;>rfl
theorem own_shape{w:World}{base:Nat}{e:TypeId}{v:Value}{n:Nat}{xs:List Value}(h:w.ownsRow base e 1 v n xs)(hn:0<n):∃ g cap,v= .slice (some ⟨g,0,none⟩) n cap:=by
 rcases h.2 with⟨_,h1⟩|⟨g,cap,cur,h1,_⟩
 ·omega
 ·exact⟨g,cap,h1⟩
theorem str_one(s:Str):∀ u∈[Value.string s],u.oneCell'=true:=fun u hu=>by rw[List.mem_singleton]at hu;subst hu;rfl
theorem cell1(w:World)(v:Value)(t:TypeId):∀ j u,[v][j]? =some u→(w.alloc (.cells #[v] t)).cell? ((⟨w.heap.size,0,none⟩:Addr).add j)=some u:=fun j u hj=>by
 match j,hj with
 |0,hj=>
  simp only[List.getElem?_cons_zero,Option.some.injEq]at hj
  subst hj
  rw[Addr.add_lit,cell_at (heap_alloc_new _ _)];rfl
theorem grow_below{w w':World}{base:Nat}{e:TypeId}{v:Value}{n:Nat}{xs:List Value}(h:w.ownsRow base e 1 v n xs)(hg:w.grownBy w' v.ownBlock)(hb:base≤w.heap.size):Below base w w':=
 ⟨hg.os,hg.tape,hg.output,hg.size,fun k hk=>hg.block k (by omega) fun e'=>by have:=(h.lt k e'.symm).1;omega⟩
theorem L2.start{fs:List Fea}{w:World}{a:Str}{k:Nat}{P:List (List Str)}{vals:List Value}{vp:Value}{S:List Str}{wr:World}(ha:a∈namesF fs)(h1:PRow w.heap.size a (k+1) P vals vp wr)(h2:SetAt wr w.heap.size S)(h3:Below w.heap.size w wr)(h4:BInv (deps fs) a k P S):L2 fs w a w.heap.size wr.heap.size k P vals vp S 0 [] ([],S) wr (.slice none 0 0):=
 ⟨SSt.level h1 h2 h3 (Nat.le_refl _),rfl,Nat.zero_le _,fun x hx=>by obtain⟨q,h5,h6,_⟩:=h4.r x hx;rw[← h6];exact pth_in ha h5,fun j _ h=>absurd h (by omega)⟩
theorem L3.start{fs:List Fea}{w:World}{a:Str}{bs lv k:Nat}{P:List (List Str)}{vals:List Value}{vp:Value}{S:List Str}{i:Nat}{valsQ:List Value}{t:List (List Str)×List Str}{wr w5:World}{vl:Value}{p:List Str}{v40:Value}{l0:Nat}(h:L2 fs w a bs lv k P vals vp S i valsQ t wr vl)(hb:Below wr.heap.size wr w5)(hv:names w5 9 l0 v40 (deps fs (lst a p))):
  L3 fs w a bs lv k P vals vp p t v40 0 valsQ t w5 vl:=⟨h.s.below hb,rfl,h.b,h.n,hv.mono (Nat.zero_le _)⟩
theorem step_room{w:World}{a:Str}{bs lv n:Nat}{P:List (List Str)}{vals:List Value}{vp:Value}{Q:List (List Str)}{valsQ:List Value}{S:List Str}{w1 w2 w3:World}{vl v1:Value}{m:Nat}{xs:List Value}(s1:SSt w a bs lv n P vals vp Q valsQ S w1 vl)(hc1:w2.ownsRow w1.heap.size 9 1 v1 m xs)(hb2:Below w1.heap.size w1 w2){o1:Obj}(hg3:(w2.alloc o1).grownBy w3 v1.ownBlock)(o2:Obj):
  (w3.alloc o2).ownsRow lv 39 1 vl Q.length valsQ∧lv≤(w3.alloc o2).heap.size:=by
 have l2:=hb2.size
 have b3:Below w1.heap.size w2 (w2.alloc o1):=⟨rfl,rfl,rfl,by simp,fun k hk=>heap_alloc_old w2 o1 (by omega)⟩
 have b4:=grow_below (hc1.alloc o1) hg3 (by simp;omega)
 have l4:=b4.size
 have b5:Below w1.heap.size w3 (w3.alloc o2):=⟨rfl,rfl,rfl,by simp,fun k hk=>heap_alloc_old w3 o2 (by simp at l4;omega)⟩
 have s5:=s1.below (((hb2.trans b3).trans b4).trans b5)
 exact⟨s5.q.r,s5.z⟩
theorem L3.step{fs:List Fea}{w:World}{a:Str}{bs lv k:Nat}{P:List (List Str)}{vals:List Value}{vp:Value}{p:List Str}{t0:List (List Str)×List Str}{v40:Value}{j:Nat}{valsQ:List Value}{t:List (List Str)×List Str}{wr w1 w2 w3 w4:World}{vl vl' v1 u:Value}(h:L3 fs w a bs lv k P vals vp p t0 v40 j valsQ t wr vl)(hj:j<(deps fs (lst a p)).length)(hin:(deps fs (lst a p))[j]∉t.2){o1 o2:Obj}
  (hs:SetAt w1 bs (ins t.2 (deps fs (lst a p))[j])) (hg1:wr.grownBy w1 (some bs)) (hc1:w2.ownsRow w1.heap.size 9 1 v1 (k+1) ((a::p).map .string)) (hb2:Below w1.heap.size w1 w2)
  (hr3:w3.ownsRow w1.heap.size 9 1 u (k+1+1) ((a::p).map .string++[.string (deps fs (lst a p))[j]])) (hg3:(w2.alloc o1).grownBy w3 v1.ownBlock)
  (hr4:w4.ownsRow lv 39 1 vl' (t.1.length+1) (valsQ++[u])) (hg4:(w3.alloc o2).grownBy w4 vl.ownBlock):
  L3 fs w a bs lv k P vals vp p t0 v40 (j+1) (valsQ++[u]) (t.1++[p++[(deps fs (lst a p))[j]]],t.2++[(deps fs (lst a p))[j]]) w4 vl':=by
 have s1:=h.s.mark hs hg1
 have n1:=h.v.grown hg1 (not_cells h.s.s.isMap)
 have l2:=hb2.size
 have b3:Below w1.heap.size w2 (w2.alloc o1):=⟨rfl,rfl,rfl,by simp,fun k hk=>heap_alloc_old w2 o1 (by omega)⟩
 have b4:=grow_below (hc1.alloc o1) hg3 (by simp;omega)
 have l4:=b4.size
 have b5:Below w1.heap.size w3 (w3.alloc o2):=⟨rfl,rfl,rfl,by simp,fun k hk=>heap_alloc_old w3 o2 (by simp at l4;omega)⟩
 have bb:=((hb2.trans b3).trans b4).trans b5
 refine h.push hj hin (s1.below bb) (names_below n1 bb) ?_ hg4 hr4
 have:=own_mono (hr3.alloc o2) s1.z
 have e:(a::(p++[(deps fs (lst a p))[j]])).map Value.string=(a::p).map .string++[.string (deps fs (lst a p))[j]]:=by simp
 rw[e];exact this
theorem pthInfo:(Tryz.prog.info? 39).map (fun i=>(i.zero,i.size,i.bytes))=some (some (.slice none 0 0),1,24):=by kernel_rfl
set_option maxHeartbeats 4000000 in
set_option maxRecDepth 1000000 in
theorem shortest_walk(fs:List Fea)(hlen:fs.length≤274877906944){w:World}{bA lo:Nat}{L:List Str}{Fm:Str→Nat}(hA:DepsAt w bA lo fs L Fm)(a:Str)(ha:a∈namesF fs):
  Calls Tryz.prog 50 #[.map (some bA),.string a] w fun e W'=>∃ v,e= .returned v∧Below w.heap.size w W'∧((v= .slice none 0 0∧∀ q,¬Cyc (deps fs) a q)∨∃ q,Best (deps fs) a q∧∃ n,W'.ownsRow w.heap.size 9 1 v n ((a::q).map .string)):=by
 have hN:=namesF_len fs
 have hmm:= @run_makeMap Tryz.prog
 have hmx:maxLen=9223372036854775807:=rfl
 have haL:a∈L:=(hA.l a).2 (namesF_mem.1 ha)
 have has:a.size≤maxLen:=hA.m.2.1 a haL
 obtain⟨i0,hi0,hz0,hz1,hz2⟩:=info_parts strInfo
 obtain⟨i1,hi1,hy0,hy1,hy2⟩:=info_parts pthInfo
 obtain⟨Rel,hRel⟩:∃ Rel:Nat→Value→World→Prop,∀ n v wr,Rel n v wr↔∃ k P vals S,PRow w.heap.size a (k+1) P vals v wr∧SetAt wr w.heap.size S∧Below w.heap.size w wr∧BInv (deps fs) a k P S∧k≤(namesF fs).length+1∧n=(namesF fs).length+1-k:=⟨_,fun _ _ _=>Iff.rfl⟩
 have H0:Hd (∃ n,Rel n (.slice (some ⟨w.heap.size+2,0,none⟩) 1 1) (((w.alloc (.map #[] 0)).alloc (.cells #[.string a] 9)).alloc (.cells #[.slice (some ⟨w.heap.size+1,0,none⟩) 1 1] 39))):=by
  obtain⟨h1,h2,h3⟩:=PRow.first w a
  exact⟨⟨_,(hRel _ _ _).2 ⟨0,_,_,_,h1,h2,h3,BInv.start _ _,Nat.zero_le _,rfl⟩⟩⟩
 have HRel:=Hd.mk hRel
 have HA:=Hd.mk hA
 have Ha:=Hd.mk ha
 clear hRel hA ha haL
 go_enter Tryz.func50,Tryz.ntmps50
 go_wp2
 go_loopw [6] (fun v wr=>∃ n,Rel n v wr) (fun v wr=>mu fun n=>Rel n v wr)
 case atStart=>exact H0.out
 clear H0
 obtain⟨k,P,vals,S,hP,hS,hB,hI,hk,hn⟩:=(HRel.out _ _ _).1 (mu_spec hrel)
 obtain⟨wo,rfl⟩:∃ wo:World,wo=wr:=⟨wr,rfl⟩
 by_cases hne:P=[]
 ·subst hne
  rcases hP.r.2 with⟨rfl,_⟩|⟨g,cap,cur,rfl,_⟩
  all_goals
   have Hno:=Hd.mk hI.none
   clear hn hrel HRel hI hP
   go_wp2
   go_ret
   exact⟨_,rfl,hB,.inl ⟨rfl,Hno.out⟩⟩
 ·have hk9:k≤274877906944:=by have:=hI.z hne;have:=hI.sub' Ha.out;omega
  have hPl:0<P.length:=List.length_pos_iff.2 hne
  obtain⟨gp,capP,rfl,hPm⟩:∃ gp capP,u6= .slice (some ⟨gp,0,none⟩) P.length capP∧P.length≤maxLen:=by
   rcases hP.r.2 with⟨_,h⟩|⟨g,cap,cur,h,_,_,h1,h2,_⟩
   ·omega
   ·exact⟨g,cap,h,by omega⟩
  have HL:Hd (∀ (P':List (List Str)) (vals':List Value) (S':List Str) (v':Value) (w':World),PRow w.heap.size a (k+1+1) P' vals' v' w'→SetAt w' w.heap.size S'→Below w.heap.size w w'→BInv (deps fs) a (k+1) P' S'→(∃ n,Rel n v' w')∧(mu fun n=>Rel n v' w')<mu fun n=>Rel n (.slice (some ⟨gp,0,none⟩) P.length capP) wo):=⟨fun P' vals' S' v' w' h1 h2 h3 h4=>by
   have h5:k≤(namesF fs).length:=Nat.le_trans (hI.z hne) (hI.sub' Ha.out)
   have h6:=(HRel.out _ v' w').2 ⟨k+1,P',vals',S',h1,h2,h3,h4,by omega,rfl⟩
   exact⟨⟨_,h6⟩,mu_lt h6 (by rw[hn];omega)⟩⟩
  have H2:=Hd.mk (L2.start Ha.out hP hS hB hI)
  have HI:=Hd.mk hI
  clear hn hrel HRel hP hS hB hI hne
  go_wp2
  go_loopw [7,22] (fun vl i wr=>∃ (i':Nat) (valsQ:List Value) (t:List (List Str)×List Str),i= .int .i64 i'∧i'≤P.length∧Hd (L2 fs w a w.heap.size wo.heap.size k P vals (.slice (some ⟨gp,0,none⟩) P.length capP) S i' valsQ t wr vl)) (fun _ i _=>P.length-(intOf i).toNat)
  case atStart=>exact⟨0,[],_,rfl,Nat.zero_le _,H2⟩
  clear H2
  obtain⟨i,valsQ,t,rfl,hi,HS⟩:=hrel
  by_cases hlt:i<P.length
  ·obtain⟨_,_,g2,cap2,he,hc1,hc2,hown,hvi⟩:=HS.out.s.p.at hlt (HI.out.p _ (List.getElem_mem hlt)).2
   cases he
   obtain⟨p,hp⟩:∃ p,p=P[i]:=⟨_,rfl⟩
   rw[← hp]at hc2 hown
   have hpth:Pth (deps fs) a p:=hp ▸ (HI.out.p _ (List.getElem_mem hlt)).1
   obtain⟨z,hz⟩:∃ z,z=lst a p:=⟨_,rfl⟩
   rw[← hz]at hc2
   have hzL:z∈L:=(HA.out.l z).2 (namesF_mem.1 (hz ▸ pth_in Ha.out hpth))
   have hzs:z.size≤maxLen:=HA.out.m.2.1 z hzL
   have HAr:=Hd.mk (HA.out.below HS.out.s.k)
   obtain⟨D,hD,hDm⟩:=HAr.out.s z hzL
   have HD:=Hd.mk hD
   have HDm:=Hd.mk hDm
   have Hp:=Hd.mk hp
   have Hz:=Hd.mk hz
   have HO:=Hd.mk hown
   have HVi:=Hd.mk hvi
   clear hvi hD hDm hp hz hown hpth
   by_cases hfound:a∈D
   ·have HB:=Hd.mk (HI.out.found (List.getElem?_eq_getElem hlt) (by have:=(HDm.out a).1 hfound;rw[Hz.out,Hp.out]at this;exact this) (fun j hj q hq=>by obtain⟨hj',rfl⟩:=List.getElem?_eq_some_iff.1 hq;exact HS.out.no j hj' hj))
    go_wp2_with (first
     |(at_lookup;refine wp_getm _ rfl _ _ 76 rfl Tryz.underlying9 Tryz.underlying76 (Tryz.zeroValue70 _) bA L Fm rfl HAr.out.m z rfl hzs ?_;rw[if_pos hzL])
     |(at_lookup;refine wp_in _ rfl _ _ 70 rfl Tryz.underlying9 Tryz.underlying4 Tryz.underlying70 (Tryz.zeroValue4 _) (Fm z) D rfl HD.out a rfl has ?_;rw[decide_eq_true hfound]))
    go_ret
    exact⟨_,rfl,HS.out.s.k,.inr ⟨p,by rw[Hp.out];exact HB.out,_,HO.out⟩⟩
   ·have hno:Hd (a∉deps fs (lst a P[i])):=⟨fun h=>hfound ((HDm.out a).2 (by rw[Hz.out,Hp.out];exact h))⟩
    have hDl:Hd (D.length≤4398046511104):=⟨by have:=nodup_le HD.out.1 (b:=namesF fs) (fun m hm=>deps_to ((HDm.out m).1 hm));omega⟩
    go_wp2_with (first
     |(at_lookup;refine wp_getm _ rfl _ _ 76 rfl Tryz.underlying9 Tryz.underlying76 (Tryz.zeroValue70 _) bA L Fm rfl HAr.out.m z rfl hzs ?_;rw[if_pos hzL])
     |(at_lookup;refine wp_in _ rfl _ _ 70 rfl Tryz.underlying9 Tryz.underlying4 Tryz.underlying70 (Tryz.zeroValue4 _) (Fm z) D rfl HD.out a rfl has ?_;rw[decide_eq_false hfound])
     |(go_at_call 47;refine(keysB_call _ _).mono ?_;rintro e w6 ⟨rfl,rfl⟩)
     |(go_at_call 46;refine(sortedB_call HD.out hDl.out).mono ?_;rintro e w5 ⟨v40,S40,rfl,hs1,hs2,hs3,hs4⟩;have hS40:S40=deps fs (lst a p):=srt_ext hs1 (deps_srt _ _) (fun x=>by rw[hs2,HDm.out,Hz.out]);subst hS40;have H3:=Hd.mk (L3.start HS.out (below_alloc hs4) hs3);obtain⟨a40,cap40,rfl⟩:=hs3.shape;clear hs1 hs2 hs3 hs4))
    have hdl:(deps fs (lst a p)).length≤274877906944:=by have:=nodup_le (srt_nodup (deps_srt fs (lst a p))) (b:=namesF fs) (fun m hm=>deps_to hm);omega
    obtain⟨wo2,rfl⟩:∃ wo2:World,wo2=wr:=⟨wr,rfl⟩
    go_loopw [7,42] (fun vl i wr=>∃ (j:Nat) (valsQ':List Value) (t':List (List Str)×List Str),i= .int .i64 j∧j≤(deps fs (lst a p)).length∧Hd (L3 fs w a w.heap.size wo.heap.size k P vals (.slice (some ⟨gp,0,none⟩) P.length capP) p t (.slice a40 (deps fs (lst a p)).length cap40) j valsQ' t' wr vl)) (fun _ i _=>(deps fs (lst a p)).length-(intOf i).toNat)
    case atStart=>exact⟨0,valsQ,t,rfl,Nat.zero_le _,H3⟩
    clear H3 hc1 hc2 HO
    obtain⟨j,valsQ',t',rfl,hj,HR⟩:=hrel
    by_cases hjl:j<(deps fs (lst a p)).length
    ·obtain⟨g40,off40,c40,he,hc40⟩:=HR.out.v.cell hjl
     cases he
     obtain⟨s,hs⟩:∃ s,s=(deps fs (lst a p))[j]:=⟨_,rfl⟩
     rw[← hs]at hc40
     have hss:s.size≤maxLen:=HA.out.m.2.1 s ((HA.out.l s).2 (namesF_mem.1 (hs ▸ deps_to (List.getElem_mem hjl))))
     have Hs:=Hd.mk hs
     clear hs
     obtain⟨l1,l2⟩:=HR.out.len
     by_cases hin:s∈t'.2
     ·go_wp2_with (at_lookup;refine wp_in _ rfl _ _ 70 rfl Tryz.underlying9 Tryz.underlying4 Tryz.underlying70 (Tryz.zeroValue4 _) w.heap.size t'.2 rfl HR.out.s.s s rfl hss ?_;rw[decide_eq_true hin])
      go_roundw
      case rel=>exact⟨j+1,valsQ',t',by go_num,hjl,⟨HR.out.seen hjl (by rw[← Hs.out];exact hin)⟩⟩
      case measure=>simp[intOf];omega
     ·have Hin:Hd ((deps fs (lst a p))[j]∉t'.2):=⟨by rw[← Hs.out];exact hin⟩
      go_wp2_with (first
       |(at_lookup;refine wp_in _ rfl _ _ 70 rfl Tryz.underlying9 Tryz.underlying4 Tryz.underlying70 (Tryz.zeroValue4 _) w.heap.size t'.2 rfl HR.out.s.s s rfl hss ?_;rw[decide_eq_false hin])
       |(at_mapUpdate;refine wp_add _ rfl _ _ _ 70 rfl Tryz.underlying9 Tryz.underlying4 Tryz.underlying70 w.heap.size t'.2 rfl HR.out.s.s (by omega) s rfl hss rfl ?_;intro w1 hset1 hg1;have HS1:=Hd.mk (HR.out.s.mark hset1 hg1);have H1:=Hd.mk (And.intro hset1 hg1);clear hset1 hg1)
       |(go_at_call 79;refine(clone_call (q:=p) HS1.out hk9 (by rw[Hp.out];exact HS1.out.p.own HVi.out hlt)).mono ?_;rintro e w2 ⟨v1,rfl,hr2,hb2⟩;have H2:=Hd.mk (And.intro hr2 hb2);clear hr2 hb2)
       |(at_builtin;refine wpList_append_own _ rfl (.tmp 54) (.tmp 56) 39 rfl w1.heap.size 9 i0 (.string ⟨#[]⟩) 1 16 Tryz.underlying39 hi0 hz0 hz1 hz2 rfl (by decide) v1 (k+1) _ rfl (H2.out.1.alloc _) ⟨w2.heap.size,0,none⟩ 1 1 [.string s] rfl rfl (cell1 _ _ _) (str_one s) (by omega) (by omega) (by have:=H2.out.2.size;simp;omega) ?_;intro u3 w3 hr3 hg3 _;obtain⟨g5,cap5,rfl⟩:=own_shape hr3 (by omega);have H3:=Hd.mk (And.intro hr3 hg3);have H4:=Hd.mk (step_room HS1.out H2.out.1 H2.out.2 hg3 (.cells #[.slice (some ⟨g5,0,none⟩) (k+1+1) cap5] 39));clear hr3 hg3)
       |(at_builtin;refine wpList_append_own _ rfl (.tmp 52) (.tmp 58) 111 rfl wo.heap.size 39 i1 (.slice none 0 0) 1 24 Tryz.underlying111 hi1 hy0 hy1 hy2 rfl (by decide) u7 t'.1.length valsQ' rfl H4.out.1 ⟨w3.heap.size,0,none⟩ 1 1 [.slice (some ⟨g5,0,none⟩) (k+1+1) cap5] rfl rfl (cell1 _ _ _) (own_one H3.out.1) (by omega) (by omega) H4.out.2 ?_;intro u4 w4 hr4 hg4 _))
      have HE:=HR.out.step hjl Hin.out (by rw[← Hs.out];exact H1.out.1) H1.out.2 H2.out.1 H2.out.2 (by rw[← Hs.out];exact H3.out.1) H3.out.2 hr4 hg4
      go_roundw
      case rel=>exact⟨j+1,_,_,by go_num,hjl,⟨HE⟩⟩
      case measure=>simp[intOf];omega
    ·have HE:=Hd.mk (L3.done hlt HS.out (by rw[← Hp.out];exact HR.out) (by rw[← Hp.out];omega) hno.out)
     go_wp2
     go_roundw
     case rel=>exact⟨i+1,_,_,by go_num,hlt,HE⟩
     case measure=>simp[intOf];omega
  ·have Hn:Hd (∀ q∈P,a∉deps fs (lst a q)):=⟨fun q hq=>by obtain⟨j,hj,rfl⟩:=List.getElem_of_mem hq;exact HS.out.no j hj (by omega)⟩
   have ht:t=extL (deps fs) a P ([],S):=by rw[HS.out.e,List.take_of_length_le (by omega)]
   have HB:=Hd.mk (HI.out.next (fun n=>deps_srt fs n) Hn.out)
   have HP2:=Hd.mk (HS.out.s.q.mono HS.out.s.l)
   subst ht
   have HE:=Hd.mk (HL.out _ _ _ _ _ HP2.out HS.out.s.s HS.out.s.k HB.out)
   go_wp2
   go_roundw
   case rel=>exact HE.out.1
   case measure=>exact HE.out.2
def LAt(base:Nat)(wr:World)(v:Value)(l:List Str):Prop:=(l=[]∧v= .slice none 0 0)∨∃ g cap,v= .slice (some ⟨g,0,none⟩) l.length cap∧0<l.length∧l.length≤maxLen∧wr.ownsRow base 9 1 v l.length (l.map .string)
theorem LAt.below{base:Nat}{w w':World}{v:Value}{l:List Str}(h:LAt base w v l)(hb:Below w.heap.size w w'):LAt base w' v l:=by
 rcases h with h|⟨g,cap,h1,h2,h3,h4⟩
 ·exact .inl h
 ·exact .inr ⟨g,cap,h1,h2,h3,own_below h4 hb⟩
theorem LAt.of_own{base n:Nat}{w:World}{v:Value}{l:List Str}(h0:0<l.length)(h:w.ownsRow base 9 1 v n (l.map .string)):LAt base w v l:=by
 have h1:=h.1
 rw[List.length_map,Nat.mul_one]at h1
 subst h1
 obtain⟨g,cap,rfl⟩:=own_shape h h0
 refine .inr ⟨g,cap,rfl,h0,?_,h⟩
 rcases h.2 with⟨h2,_⟩|⟨g',cap',cur,h2,_,_,h3,h4,_⟩
 ·cases h2
 ·omega
theorem LAt.mono{base base':Nat}{w:World}{v:Value}{l:List Str}(h:LAt base w v l)(hb:base'≤base):LAt base' w v l:=by
 rcases h with h|⟨g,cap,h1,h2,h3,h4⟩
 ·exact .inl h
 ·exact .inr ⟨g,cap,h1,h2,h3,own_mono h4 hb⟩
theorem LAt.names{base:Nat}{w:World}{v:Value}{l:List Str}(h:LAt base w v l):names w 9 base v l:=by
 rcases h with⟨rfl,rfl⟩|⟨g,cap,_,_,_,h⟩
 ·exact⟨none,0,rfl,by simp,by simp,fun h=>absurd h (by omega)⟩
 ·exact names.of_row h
structure CSt(w:World)(fs:List Fea)(bA lo:Nat)(vN:Value)(L:List Str)(F:Str→Nat)(k:Nat)(l:List Str)(wr:World)(vl:Value):Prop where
 v:LAt w.heap.size wr vl l
 c:CInv (deps fs) (namesF fs) k l
 a:DepsAt wr bA (w.heap.size+1) fs L F
 k:Below w.heap.size w wr
 r:RowAt wr lo vN (namesF fs)
theorem CSt.below{w:World}{fs:List Fea}{bA lo:Nat}{vN:Value}{L:List Str}{F:Str→Nat}{k:Nat}{l:List Str}{wr w':World}{vl:Value}(h:CSt w fs bA lo vN L F k l wr vl)(hb:Below wr.heap.size wr w'):CSt w fs bA lo vN L F k l w' vl:=
 ⟨h.v.below hb,h.c,h.a.below hb,h.k.trans (c_less hb h.k.size),h.r.to (.below hb)⟩
theorem CSt.turn{w:World}{fs:List Fea}{bA lo:Nat}{vN:Value}{L:List Str}{F:Str→Nat}{k k':Nat}{l l':List Str}{wr:World}{vl vl':Value}(h:CSt w fs bA lo vN L F k l wr vl)(hv:LAt w.heap.size wr vl' l')(hc:CInv (deps fs) (namesF fs) k' l'):CSt w fs bA lo vN L F k' l' wr vl':=
 ⟨hv,hc,h.a,h.k,h.r⟩
theorem CSt.start{w w1 w2 w4:World}{fs:List Fea}{bA:Nat}{o:Obj}{vN:Value}{L:List Str}{F:Str→Nat}{e:TypeId}{l0:Nat}(hw1:w1=w.alloc o)(ha:DepsAt w2 bA (w.heap.size+1) fs L F)(hb:Below (w.heap.size+1) w1 w2)(hn:names w4 e l0 vN (namesF fs))(h4:Below w2.heap.size w2 w4):
  CSt w fs bA w4.heap.size vN L F 0 [] w4 (.slice none 0 0):=by
 subst hw1
 have l1:=hb.size
 have hb0:Below w.heap.size w w2:=below_alloc hb
 simp at l1
 exact⟨.inl ⟨rfl,rfl⟩,CInv.start _ _,ha.below h4,hb0.trans (c_less h4 (by omega)),RowAt.of_names hn (Nat.le_refl _)⟩
set_option maxHeartbeats 4000000 in
set_option maxRecDepth 1000000 in
theorem cycle_walk(c:Cat)(hF:CFit c.features){M:Mem}{w:World}(hI:Inv Tryz.prog M w [] w){Cc:Array Value}(hC:RL M c.cells Cc.toList):
  Calls Tryz.prog 18 #[.agg Cc] w fun e W'=>∃ v,e= .returned v∧names W' 9 w.heap.size v (cycL (deps c.features) (namesF c.features))∧Below w.heap.size w W':=by
 have lC:Cc.size=4:=by have:=hC.1;simpa[Cat.cells]using this.symm
 have agC:Sx.aggT Tryz.prog 25=some (true,Cc.toList.length):=by rw[Array.length_toList,lC];kernel_rfl
 clear lC
 have hb1:Below w.heap.size w (w.alloc (.cells Cc 25)):=((Keep.refl w []).alloc _).below (Nat.le_refl _) (by simp)
 have hDep:=deps_walk c hF (c_inv hI hb1) hC
 rw[show(w.alloc (.cells Cc 25)).heap.size=w.heap.size+1 by simp]at hDep
 have HDep:=Hd.mk hDep
 clear hDep
 have HC:=Hd.mk (row_cells (heap_alloc_new w (.cells Cc 25)))
 have hlen:=hF.l
 have hmx:maxLen=9223372036854775807:=rfl
 have hneq:∀ (w:World) (a:Option Addr) (n k:Nat),(binOp .neq 39 (.slice a n k) (.slice none 0 0)).run Tryz.prog w= .ok (.bool (!a.isNone)) w:=fun w a n k=>run_neq_slice_nil_any w _ _ a n k 0 0 Tryz.underlying39
 have heql:∀ (w:World) (a:Option Addr) (n k:Nat),(binOp .eql 39 (.slice a n k) (.slice none 0 0)).run Tryz.prog w= .ok (.bool a.isNone) w:=fun w a n k=>Lib.run_eql_slice_nil w _ _ a n k 0 0 Tryz.underlying39
 clear hI hC hb1
 go_enter Tryz.func18,Tryz.ntmps18
 go_wp2_with (first
  |(show wpList _ _ _ (⟨some 7,_,_,_,_,_⟩::_) _ _;refine c_load rfl 25 (.tmp 1) rfl w.heap.size 0 rfl Cc HC.out agC ?_)
  |(go_at_call 48;refine HDep.out.mono ?_;rintro e w2 ⟨L,Fm,rfl,hA,hb2⟩;have HA:=Hd.mk (And.intro hA hb2);clear HDep HC hA hb2)
  |(go_at_call 49;refine(keysM_call _ _).mono ?_;rintro e w3 ⟨rfl,rfl⟩)
  |(go_at_call 46;refine(sortedM_call HA.out.1.m (Nat.le_trans HA.out.1.len (by omega))).mono ?_;rintro e w4 ⟨vN,S,rfl,hS1,hS2,hS3,hS4⟩;have HS:=Hd.mk (CSt.start rfl HA.out.1 HA.out.2 (HA.out.1.names hS1 hS2 ▸ hS3) (below_alloc hS4));have hS5:=HA.out.1.names hS1 hS2;subst hS5;obtain⟨aN,capN,rfl⟩:=hS3.shape;clear hS1 hS2 hS3 hS4 HA))
 have hN9:(namesF c.features).length≤274877906944:=Nat.le_trans (namesF_len _) hlen
 go_loopw [2,13] (fun vl i wr=>∃ (k:Nat) (l:List Str),i= .int .i64 k∧k≤(namesF c.features).length∧Hd (CSt w c.features (w.heap.size+2) w4.heap.size (.slice aN (namesF c.features).length capN) L Fm k l wr vl)) (fun _ i _=>(namesF c.features).length-(intOf i).toNat)
 case atStart=>exact⟨0,[],rfl,Nat.zero_le _,HS⟩
 clear HS
 obtain⟨k,l,rfl,hk,HS⟩:=hrel
 by_cases hlt:k<(namesF c.features).length
 ·obtain⟨_,_,he,_,hcell⟩:=HS.out.r
  cases he
  obtain⟨gN,offN,rfl,hgN,hcN⟩:=hcell k hlt
  obtain⟨s,hs⟩:∃ s,s=(namesF c.features)[k]:=⟨_,rfl⟩
  rw[← hs]at hcN
  have HSh:=Hd.mk (shortest_walk c.features hlen HS.out.a s (hs ▸ List.getElem_mem hlt))
  have Hs:=Hd.mk hs
  clear hs hcell
  go_wp2_with (go_at_call 50;refine HSh.out.mono ?_;rintro e w5 ⟨v5,rfl,hb5,hr5⟩;have HS5:=Hd.mk (HS.out.below hb5);have HR5:Hd ((v5= .slice none 0 0∧∀ q,¬Cyc (deps c.features) s q)∨∃ q g5 cap5,v5= .slice (some ⟨g5,0,none⟩) (q.length+1) cap5∧q.length+1≤maxLen∧Best (deps c.features) s q∧LAt w.heap.size w5 v5 (s::q)):=⟨by rcases hr5 with h|⟨q,h1,n,h2⟩;exact .inl h;have h3:=(LAt.of_own (by simp) h2).mono HS.out.k.size;rcases h3 with⟨h4,_⟩|⟨g5,cap5,h5,h6,h7,h8⟩;cases h4;exact .inr ⟨q,g5,cap5,h5,h7,h1,.inr ⟨g5,cap5,h5,h6,h7,h8⟩⟩⟩;clear HSh hb5 hr5 hcN;rcases HR5.out with⟨rfl,hno⟩|⟨q,g5,cap5,rfl,hq5,hB,hq⟩<;>rcases HS5.out.v with⟨rfl,rfl⟩|⟨gl,capl,rfl,hl1,hl2,hl3⟩)
  all_goals have hs:=Hs.out;subst hs
  ·go_roundw
   case rel=>exact⟨k+1,_,by go_num,hlt,⟨HS5.out.turn HS5.out.v (HS5.out.c.none hlt hno)⟩⟩
   case measure=>simp[intOf];omega
  ·go_roundw
   case rel=>exact⟨k+1,_,by go_num,hlt,⟨HS5.out.turn HS5.out.v (HS5.out.c.none hlt hno)⟩⟩
   case measure=>simp[intOf];omega
  ·go_roundw
   case rel=>exact⟨k+1,_,by go_num,hlt,⟨HS5.out.turn hq (HS5.out.c.take hlt hB (.inl rfl))⟩⟩
   case measure=>simp[intOf];omega
  ·go_roundw
   case rel=>exact⟨k+1,_,by go_num,hlt,⟨HS5.out.turn hq (HS5.out.c.take hlt hB (.inr (by omega)))⟩⟩
   case measure=>simp[intOf];omega
  ·go_roundw
   case rel=>exact⟨k+1,_,by go_num,hlt,⟨HS5.out.turn HS5.out.v (HS5.out.c.skip hlt hB (by intro e;rw[e]at hl1;simp at hl1) (by omega))⟩⟩
   case measure=>simp[intOf];omega
 ·have hfin:Hd (l=cycL (deps c.features) (namesF c.features)):=⟨by have h:=HS.out.c;rw[show k=(namesF c.features).length by omega]at h;exact h.done (namesF_srt _)⟩
  go_wp2
  go_ret
  exact⟨_,rfl,hfin.out ▸ HS.out.v.names,HS.out.k⟩
end Go.Proofs.YtekngilbecjkhaaGreatDoor
namespace Go.Proofs.YtekngilbecjkhaaGreatDoor
open Go.RowKit Go.Proofs Go.Tb Go.Maps
open Go.Sx (AV Inv Mem RL R M0 Glob Store BlkOK)
def memN(M:Mem)(n:Nat)(w':World):Mem:=fun b o=>if n≤b then w'.cell? ⟨b,o,none⟩else M b o
theorem memN_le{M:Mem}{w0 w w':World}{σ:Store}(hI:Inv Tryz.prog M w0 σ w):M.le (memN M w.heap.size w'):=fun b o v h=>by
 have:=World.block_lt_of_cell? _ _ (hI.imm b o v h)
 unfold memN
 rw[if_neg (by simp at this;omega)];exact h
theorem inv_new{M:Mem}{w0 w w':World}{σ:Store}(hI:Inv Tryz.prog M w0 σ w)(hb:Below w.heap.size w w'):Inv Tryz.prog (memN M w.heap.size w') w0 σ w':=by
 have h1:=hI.after hb
 have hle:=memN_le (w':=w') hI
 refine⟨h1.os,h1.tape,h1.output,h1.size,h1.old,fun b o v h=> ?_,fun e he=> ?_,h1.nd,fun g l hl=>(h1.gl g l hl).mono hle,h1.gw⟩
 ·unfold memN at h
  split at h
  ·exact h
  ·exact h1.imm b o v h
 ·obtain⟨g1,g2⟩:=h1.st e he
  refine⟨g1,?_⟩
  obtain⟨_,g3⟩:=hI.st e he
  have hlt:e.2.1<w.heap.size:=by
   cases hx:e.2.2 with
   |cells l=>rw[hx]at g3;obtain⟨_,cs,t,a2,_⟩:=g3;exact(Array.getElem?_eq_some_iff.1 a2).1
   |tail u c=>rw[hx]at g3;obtain⟨_,cs,t,a2,_⟩:=g3;exact(Array.getElem?_eq_some_iff.1 a2).1
   |map es k=>rw[hx]at g3;obtain⟨_,l,a2,_⟩:=g3;exact(Array.getElem?_eq_some_iff.1 a2).1
  have hN:∀ o,memN M w.heap.size w' e.2.1 o=M e.2.1 o:=fun o=>by unfold memN;rw[if_neg (by omega)]
  cases hx:e.2.2 with
  |cells l=>rw[hx]at g2;obtain⟨a1,cs,t,a2,a3⟩:=g2;exact⟨fun o=>(hN o).trans (a1 o),cs,t,a2,a3.mono hle⟩
  |tail u c=>rw[hx]at g2;obtain⟨a1,cs,t,a2,a3⟩:=g2;exact⟨fun o ho=>(hN o).trans (a1 o ho),cs,t,a2,a3⟩
  |map es k=>rw[hx]at g2;obtain⟨a1,l,a2,a3,a4⟩:=g2;exact⟨fun o=>(hN o).trans (a1 o),l,a2,a3,a4.mono hle⟩
theorem inv_start{M:Mem}{w0 w:World}{σ:Store}(hI:Inv Tryz.prog M w0 σ w):Inv Tryz.prog M w [] w:=
 ⟨rfl,rfl,rfl,Nat.le_refl _,fun _ _=>rfl,hI.imm,fun e he=>(by cases he),List.nodup_nil,hI.gl,GW.keep hI.gw hI.size fun k cs t f h=>hI.old k (Array.getElem?_eq_some_iff.1 h).1⟩
theorem names_R{M:Mem}{w':World}{n lo:Nat}{e:TypeId}{v:Value}{L:List Str}(h:names w' e lo v L)(hl:n≤lo):R (memN M n w') (.sl false 1 (L.map strRow)) v:=by
 obtain⟨a,cap,rfl,h1,h2,h3⟩:=h
 by_cases hc:cap=0
 ·subst hc
  have:L=[]:=List.eq_nil_of_length_eq_zero (by omega)
  subst this
  exact .nil false 1 a (by simp)
 ·obtain⟨g,off,cur,rfl,g2,g3,g4,g5⟩:=h3 (by omega)
  have:=R.sl (M:=memN M n w') false 1 (L.map strRow) g off cap (fun k=> .string (L.getD k ⟨#[]⟩)) (fun i hi=>by rw[List.getElem_map];rfl) (fun k hk=> ?_) (fun i hi j hj=> ?_) (by rw[List.length_map];exact h1) h2
  ·rw[List.length_map]at this;exact this
  ·have hk:k<L.length:=by simpa using hk
   unfold memN
   rw[if_pos (by omega),cell_at g3,g5 k hk,List.getD_eq_getElem?_getD,List.getElem?_eq_getElem hk];rfl
  ·have hi:i<L.length:=by simpa using hi
   simp only[List.getElem_map,strRow,List.length_cons,List.length_nil]at hj ⊢
   obtain rfl:j=0:=by omega
   rw[List.getD_eq_getElem?_getD,Nat.mul_one,Nat.add_zero,List.getElem?_eq_getElem hi]
   exact .v _
theorem Pure.new{f:FuncId}{xs:List AV}{r:AV}(h:∀ (M:Mem) (w:World) (cs:List Value),Inv Tryz.prog M w [] w→RL M xs cs→Calls Tryz.prog f cs.toArray w fun e w'=>(∃ v,e= .returned v∧R (memN M w.heap.size w') r v)∧Below w.heap.size w w'):Sx.Pure Tryz.prog f xs r:=
 ⟨fun σ M w0 w cs hI hR=>(h M w cs (inv_start hI) hR).mono fun e w' ⟨⟨v,he,hv⟩,hb⟩=>⟨memN M w.heap.size w',.ret r,σ,memN_le hI,inv_new hI hb,by subst he;exact hv,rfl,rfl⟩⟩
theorem RL.agg1{M:Mem}{l:List AV}{cs:List Value}(h:RL M [.agg l] cs):∃ C:Array Value,cs.toArray= #[.agg C]∧RL M l C.toList:=by
 obtain⟨v,rfl,h1⟩:=Sx.RL.un1 h
 obtain⟨cs',rfl,h2⟩:=h1.of_agg
 exact⟨cs'.toArray,rfl,by simpa using h2⟩
theorem RL.agg2{M:Mem}{l l':List AV}{cs:List Value}(h:RL M [.agg l,.agg l'] cs):∃ C C':Array Value,cs.toArray= #[.agg C,.agg C']∧RL M l C.toList∧RL M l' C'.toList:=by
 obtain⟨v,cs2,rfl,h1,h2⟩:=h.uncons
 obtain⟨v2,rfl,h3⟩:=Sx.RL.un1 h2
 obtain⟨cs',rfl,h4⟩:=h1.of_agg
 obtain⟨cs3,rfl,h5⟩:=h3.of_agg
 exact⟨cs'.toArray,cs3.toArray,rfl,by simpa using h4,by simpa using h5⟩
abbrev strsV(l:List Str):AV:= .sl false 1 (l.map strRow)
theorem order_ok(c:Cat)(hF:CFit c.features):Sx.Pure Tryz.prog 20 [.agg c.cells] (strsV (orderL (deps c.features) (namesF c.features))):=Pure.new fun M w cs hI hR=>by
 obtain⟨C,e,hC⟩:=RL.agg1 hR
 rw[e]
 exact(order_walk c hF hI hC).mono fun e w' ⟨v,h1,h2,h3⟩=>⟨⟨v,h1,names_R h2 (Nat.le_refl _)⟩,h3⟩
theorem cycle_ok(c:Cat)(hF:CFit c.features):Sx.Pure Tryz.prog 18 [.agg c.cells] (strsV (cycL (deps c.features) (namesF c.features))):=Pure.new fun M w cs hI hR=>by
 obtain⟨C,e,hC⟩:=RL.agg1 hR
 rw[e]
 exact(cycle_walk c hF hI hC).mono fun e w' ⟨v,h1,h2,h3⟩=>⟨⟨v,h1,names_R h2 (Nat.le_refl _)⟩,h3⟩
theorem uses_ok(c:Cat)(x:Ex)(hU:USmall c.features x):Sx.Pure Tryz.prog 15 [.agg c.cells,.agg x.cells] (.tup [strsV (usesF c.features x),strsV (usesT c.features x)]):=Pure.new fun M w cs hI hR=>by
 obtain⟨C,X,e,hC,hX⟩:=RL.agg2 hR
 rw[e]
 exact(uses_walk c x hU hI hC hX).mono fun e w' ⟨v1,v2,h1,h2,h3,h4⟩=>⟨⟨_,h1,R.mk_tup (cs:=[v1,v2]) (RL.cons (names_R h2 (Nat.le_refl _)) (RL.cons (names_R h3 (Nat.le_refl _)) RL.nil))⟩,h4⟩
end Go.Proofs.YtekngilbecjkhaaGreatDoor
