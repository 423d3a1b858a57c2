/- catalog.Order, walked. -/
import Derived.Test.YtcccbdelfhgmlaaGreatDoorCk
import Derived.WalkMore
import Derived.Test.YtcccbdelfhgmlaaGreatDoorCa
import Derived.Test.YtcccbdelfhgmlaaGreatDoorNm
import Derived.Lib.SliceRun
import Derived.Test.YtcccbdelfhgmlaaGreatDoorZb
import Derived.Test.YtcccbdelfhgmlaaGreatDoorCj
import Derived.Test.YtcccbdelfhgmlaaGreatDoorSxZ
set_option linter.unusedVariables false
set_option linter.unusedSimpArgs false
namespace Go.Proofs.YtcccbdelfhgmlaaGreatDoor
open Go.RowKit Go.Proofs Go.Tb Go.Maps
open Go.Sx (AV Mem RL R M0 Glob)
set_option maxHeartbeats 4000000 in
set_option maxRecDepth 1000000 in
theorem ag8(c:di)(hF:uB c.features){M:Mem}{w:World}(hI:Sx.Inv Tryz.prog M ⟨w,M⟩ [] w){Cc:Array Value}(hC:RL M c.cells Cc.toList):
  Calls Tryz.prog 15 #[.agg Cc] w fun e W'=>∃ v,e= .returned v∧names W' 9 w.heap.size v (oM (deps c.features) (bh c.features))∧Below w.heap.size w W':=by
 have lC:Cc.size=4:=by have:=hC.1;simpa[di.cells]using this.symm
 have Ar:Sx.eV Tryz.prog 25=some (true,Cc.toList.length):=by rw[Zb,lC];kernel_rfl
 clear lC
 have dZ:Below w.heap.size w (w.alloc (.cells Cc 25)):=((aW.refl w []).alloc _).below (ZR _) (by simp)
 have u9:=OG c hF (uP hI dZ) hC
 rw[show(w.alloc (.cells Cc 25)).heap.size=w.heap.size+1 by simp]at u9
 have z8:=Hd.mk u9
 clear u9
 have HC:=Hd.mk (Fc (heap_alloc_new w (.cells Cc 25)))
 have yb:= @run_makeMap Tryz.prog
 have hlen:=hF.l
 have Eb:maxLen=9223372036854775807:=rfl
 obtain⟨i0,oe,ka,fA,np⟩:=info_parts FB
 obtain⟨Rel,jo⟩:∃ Rel:Nat→Nat→Nat→Nat→Value→List ae→(ae→Nat)→Value→World→Prop,∀ n bA bd lo vN L F vl wr,Rel n bA bd lo vN L F vl wr↔∃ out,iu w c.features bA bd lo vN L F out wr vl∧n=(bh c.features).length-out.length:=⟨_,fun _ _ _ _ _ _ _ _ _=>Iff.rfl⟩
 have lD:=Hd.mk jo
 clear jo hI hC dZ
 go_enter Tryz.func15,Tryz.ntmps15
 go_wp2
 go_step3
 go_wp2_with (first
  |(show wpList _ _ _ (⟨some 10,_,_,_,_,_⟩::_) _ _;refine qI rfl 25 (.tmp 1) rfl w.heap.size 0 rfl Cc HC.out Ar ?_)
  |(go_at_call 36;refine z8.out.mono ?_;rintro e w2 ⟨L,Fm,rfl,hA,cW⟩;have HA:=Hd.mk (And.intro hA cW);clear z8 HC hA cW)
  |(go_at_call 37;refine(R5 _ _).mono ?_;rintro e w3 ⟨rfl,rfl⟩)
  |(go_at_call 22;refine(Uy HA.out.1.m (Zk HA.out.1.len (by omega))).mono ?_;rintro e w4 ⟨vN,S,rfl,pB,s4,xO,A4⟩;have HS:=Hd.mk (iu.start rfl HA.out.1 HA.out.2 (HA.out.1.names pB s4 ▸ xO) (uO A4));clear pB s4 xO A4 HA))
 obtain⟨wo,El⟩:∃ wo,wo=w4.alloc (.map #[] 0):=⟨_,rfl⟩
 rw[← El]at HS
 have ni:wo.heap.size=w4.heap.size+1:=by rw[El];simp
 have H0:Hd (∃ n,Rel n (w.heap.size+2) w4.heap.size (w4.heap.size+1) vN L Fm (.slice none 0 0) wo):=⟨⟨_,(lD.out _ _ _ _ _ _ _ _ _).2 ⟨[],HS.out,rfl⟩⟩⟩
 rw[← El]
 obtain⟨aN,ph,rfl,QK,_⟩:=HS.out.r
 have hN9:(bh c.features).length≤274877906944:=Zk (EM _) hlen
 clear El HS ni
 go_step3
 go_wp2
 go_loopw [2] (fun vl wr=>∃ n,Rel n (w.heap.size+2) w4.heap.size (w4.heap.size+1) (.slice aN (bh c.features).length ph) L Fm vl wr) (fun vl wr=>mu fun n=>Rel n (w.heap.size+2) w4.heap.size (w4.heap.size+1) (.slice aN (bh c.features).length ph) L Fm vl wr)
 case atStart=>exact H0.out
 obtain⟨CO,JD⟩:∃ v:Value,v=u2:=⟨u2,rfl⟩
 subst JD
 obtain⟨out,hS,hn⟩:=(lD.out _ _ _ _ _ _ _ _ _).1 (Kd hrel)
 have HL:Hd (∀ (EW:List ae) (v':Value) (w':World),iu w c.features (w.heap.size+2) w4.heap.size (w4.heap.size+1) (.slice aN (bh c.features).length ph) L Fm EW w' v'→(bh c.features).length-EW.length<(bh c.features).length-out.length→
   (∃ n,Rel n (w.heap.size+2) w4.heap.size (w4.heap.size+1) (.slice aN (bh c.features).length ph) L Fm v' w')∧(mu fun n=>Rel n (w.heap.size+2) w4.heap.size (w4.heap.size+1) (.slice aN (bh c.features).length ph) L Fm v' w')<mu fun n=>Rel n (w.heap.size+2) w4.heap.size (w4.heap.size+1) (.slice aN (bh c.features).length ph) L Fm CO wr):=⟨fun EW v' w' h1 h2=>by
  have h4:=(lD.out _ _ _ _ _ _ _ v' w').2 ⟨EW,h1,rfl⟩
  exact⟨⟨_,h4⟩,Kb h4 (by rw[hn];exact h2)⟩⟩
 have HS:=Hd.mk hS
 obtain⟨CR,rfl⟩:∃ CR:World,CR=wr:=⟨wr,rfl⟩
 clear hn hS hrel H0 lD
 go_wp2
 go_loopw [2,18] (fun vl i wr=>∃ k:Nat,i= .int .i64 k∧k≤(bh c.features).length∧vl=CO∧Hd (iu w c.features (w.heap.size+2) w4.heap.size (w4.heap.size+1) (.slice aN (bh c.features).length ph) L Fm out wr CO)∧Hd (∀ j (hj:j<(bh c.features).length),j<k→ready (deps c.features) out (bh c.features)[j]=false)) (fun _ i _=>(bh c.features).length-(intOf i).toNat)
 case atStart=>exact⟨0,rfl,ZH _,rfl,HS,⟨fun j hj h=>absurd h (by omega)⟩⟩
 clear HS
 obtain⟨k,rfl,hk,rfl,HS,HP⟩:=hrel
 by_cases ax:k<(bh c.features).length
 ·obtain⟨_,_,he,_,hcell⟩:=HS.out.r
  cases he
  obtain⟨gN,SX,rfl,hgN,Bc⟩:=hcell k ax
  obtain⟨s,hs⟩:∃ s,s=(bh c.features)[k]:=⟨_,rfl⟩
  rw[← hs]at Bc
  have kW:s∈L:=(HS.out.a.l s).2 (qc.1 (hs ▸ Zp ax))
  have iJ:s.size≤maxLen:=HS.out.a.m.2.1 s kW
  obtain⟨D,hD,AZ⟩:=HS.out.a.s s kW
  have HD:=Hd.mk hD
  have wU:=Hd.mk AZ
  have Hs:=Hd.mk hs
  clear hD AZ hs hcell
  go_wp2_with (first
   |(at_lookup;refine ux _ rfl _ _ 69 rfl Tryz.underlying9 Tryz.underlying4 Tryz.underlying69 (Tryz.zeroValue4 _) w4.heap.size out rfl HS.out.d s rfl iJ ?_)
   |(at_lookup;refine zN _ rfl _ _ 81 rfl Tryz.underlying9 Tryz.underlying81 (Tryz.zeroValue69 _) (w.heap.size+2) L Fm rfl HS.out.a.m s rfl iJ ?_;rw[Z8 kW])
   |(at_range;refine LD _ rfl _ 69 rfl Tryz.underlying9 4 Tryz.underlying69 (plainElem Tryz.prog 4) (Fm s) D (fun _=>tt) rfl HD.out ?_;intro w6 AB pQ od BM))
  have H3:=Hd.mk (qB.start HS.out pQ od)
  clear pQ od BM Bc
  obtain⟨wG,rfl⟩:∃ wG:World,wG=wr:=⟨wr,rfl⟩
  obtain⟨b0,kN⟩:∃ b0:Bool,b0= !decide (s∈out):=⟨_,rfl⟩
  rw[← kN]at H3
  try simp only[← kN]
  clear kN
  go_frame
  go_loopw [8] (fun v wr=>∃ (left:ae→Prop) (aI:Nat) (b:Bool),v= .bool b∧Hd (qB w c.features (w.heap.size+2) w4.heap.size (w4.heap.size+1) (.slice (some ⟨gN,SX,none⟩) (bh c.features).length ph) L Fm out s D wG.heap.size left aI b wr u2)) (fun _ wr=>wr.rangeLeft (Fm s) wG.heap.size)
  case atStart=>exact⟨_,AB,b0,rfl,H3⟩
  obtain⟨left,aI,b,rfl,HR⟩:=hrel
  clear H3
  go_wp2_with (first
   |(at_next;refine LB _ rfl (.tmp 29) rfl Tryz.underlying9 (plainElem Tryz.prog 4) (fun _=> .bool true) (Fm s) wG.heap.size D (fun _=>tt) (fun s _ v ps h=>Dj Tryz.underlying4 h) left aI rfl HR.out.q ?_ ?_))
  ·intro hd
   have hb:=Hd.mk (HR.out.done hd wU.out)
   clear hd
   cases b
   ·go_wp2
    go_roundw
    case rel=>
     refine⟨k+1,by go_num,ax,rfl,⟨HR.out.o⟩,⟨fun j hj hjk=> ?_⟩⟩
     rcases Yy (Yt hjk)with h1|rfl
     ·exact HP.out j hj h1
     ·rw[← Hs.out];exact hb.out.symm
    case measure=>simp[intOf];omega
   ·have lY:Hd (kj (deps c.features) (bh c.features) out=some s):=⟨by rw[Hs.out];exact ag4 ax HP.out (by rw[← Hs.out];exact hb.out.symm)⟩
    have hol:out.length<(bh c.features).length:=(HR.out.o.o.step lY.out).2
    go_wp2_with (first
     |(at_mapUpdate;refine CT _ rfl _ _ _ 69 rfl Tryz.underlying9 Tryz.underlying4 Tryz.underlying69 w4.heap.size out rfl HR.out.o.d (by omega) s rfl iJ rfl ?_;intro Lv BI vr;have HM:=Hd.mk (HR.out.o.mid vr (.cells #[.string s] 9));have H2:=Hd.mk (And.intro BI vr);clear BI vr)
     |(at_builtin;refine VI _ rfl (.tmp 43) (.tmp 45) 43 rfl 9 i0 (.string ⟨#[]⟩) Tryz.underlying43 oe ka fA np rfl (w4.heap.size+1) HM.out.2 _ out rfl HM.out.1 Lv.heap.size s rfl ((pn (heap_alloc_new _ _)).trans rfl) (by omega) ?_;intro vn VA JF IJ))
    have HE:=HL.out _ vn VA (HR.out.o.put lY.out H2.out.1 H2.out.2 _ JF IJ) (by simp only[Z5,YU];omega)
    go_roundw
    case rel=>exact HE.1
    case measure=>exact HE.2
  ·intro m w' eQ QU D8 me aeX eX tA x6
   have hms:m.size≤maxLen:=me.2.1 m QU
   have HN:=Hd.mk ((HR.out.next QU me eX).resolve_right fun h=>h D8)
   have We:=Hd.mk (HR.out.o.iter HR.out.q.iter HR.out.r eX).d
   have C2:Hd (w'.rangeLeft (Fm s) wG.heap.size<wr.rangeLeft (Fm s) wG.heap.size):=⟨by rw[me.left_eq,HR.out.q.left_eq];exact aeX⟩
   clear me eX
   cases b
   ·go_wp2
    go_roundw
    case rel=>exact⟨_,eQ,false,rfl,HN⟩
    case measure=>exact C2.out
   ·go_wp2_with (first
     |(show wpList _ _ _ (⟨some 38,_,_,_,_,some _⟩::_) _ _;refine ayb rfl ?_;refine ux _ rfl _ _ 69 rfl Tryz.underlying9 Tryz.underlying4 Tryz.underlying69 (Tryz.zeroValue4 _) w4.heap.size out rfl We.out m rfl hms ?_))
    go_roundw
    case rel=>exact⟨_,eQ,decide (m∈out),rfl,by simpa using HN⟩
    case measure=>exact C2.out
 ·have I0:Hd (out=oM (deps c.features) (bh c.features)):=⟨HS.out.o.done (ag5 fun j hj=>HP.out j hj (by omega))⟩
  have lw:=HS.out.l1
  have lw2:=HS.out.l2
  go_wp2
  rw[Exit.noGoto_ret]
  go_ret
  exact⟨_,rfl,I0.out ▸ HS.out.v.mono (by omega),HS.out.k⟩
structure eB(base:Nat)(a:ae)(n:Nat)(P:List (List ae))(bj:List Value)(v:Value)(wr:World):Prop where
 r:wr.ownsRow base 43 1 v P.length bj
 l:bj.length=P.length
 p:∀ (i:Nat) (h1:i<bj.length) (h2:i<P.length),wr.ownsRow base 9 1 bj[i] n ((a::P[i]).map .string)
theorem Ca{w:World}{base:Nat}{e:TypeId}{v:Value}{n:Nat}{xs:List Value}(h:w.ownsRow base e 1 v n xs){k:Nat}(hk:v.ownBlock=some k):∃ cur,w.heap[k]? =some (.cells cur e (0,0)):=by
 rcases h.2 with⟨rfl,_⟩|⟨g,cap,cur,rfl,hb,hg,_⟩
 ·simp[Value.ownBlock]at hk
 ·simp[Value.ownBlock]at hk;subst hk;exact⟨cur,hg⟩
theorem Kn{w w':World}{base:Nat}{e:TypeId}{v:Value}{n:Nat}{xs:List Value}(h:w.ownsRow base e 1 v n xs)(hb:Below w.heap.size w w'):w'.ownsRow base e 1 v n xs:=by
 refine⟨h.1,?_⟩
 rcases h.2 with hn|⟨g,cap,cur,rfl,Ba,vu,rest⟩
 ·exact .inl hn
 ·exact .inr ⟨g,cap,cur,rfl,Ba,by rw[hb.block g (ZX.1 vu).1];exact vu,rest⟩
theorem eB.below{base:Nat}{a:ae}{n:Nat}{P:List (List ae)}{bj:List Value}{v:Value}{w w':World}(h:eB base a n P bj v w)(hb:Below w.heap.size w w'):eB base a n P bj v w':=
 ⟨Kn h.r hb,h.l,fun i h1 h2=>Kn (h.p i h1 h2) hb⟩
theorem EY{w:World}{base:Nat}{e:TypeId}{v:Value}{n:Nat}{xs:List Value}(h:w.ownsRow base e 1 v n xs){b:Nat}(hb:∀ cur,w.heap[b]?≠some (.cells cur e (0,0))):v.ownBlock≠some b:=fun e'=>by
 obtain⟨cur,hc⟩:=Ca h e';exact hb cur hc
theorem eB.map{base:Nat}{a:ae}{n:Nat}{P:List (List ae)}{bj:List Value}{v:Value}{w w':World}{b:Nat}(h:eB base a n P bj v w)(hb:∃ es c,w.heap[b]? =some (.map es c))(hg:w.grownBy w' (some b)):eB base a n P bj v w':=
 ⟨h.r.kept hg (.inr (EY h.r fun cur=>yG hb cur _ _)),h.l,fun i h1 h2=>(h.p i h1 h2).kept hg (.inr (EY (h.p i h1 h2) fun cur=>yG hb cur _ _))⟩
theorem eB.other{base:Nat}{a:ae}{n:Nat}{P:List (List ae)}{bj:List Value}{v v':Value}{w w':World}{xs:List Value}{k o9:Nat}(h:eB base a n P bj v w)(h':w.ownsRow o9 43 1 v' k xs)(aJ:∀ g,v'.ownBlock=some g→v.ownBlock≠some g)(hg:w.grownBy w' v'.ownBlock):eB base a n P bj v w':=by
 refine⟨h.r.kept hg ?_,h.l,fun i h1 h2=>(h.p i h1 h2).kept hg ?_⟩
 ·cases hb:v'.ownBlock with
  |none=>cases hv:v.ownBlock<;>simp
  |some g=>exact .inr (aJ g hb)
 ·cases hb:v'.ownBlock with
  |none=>cases hv:bj[i].ownBlock<;>simp
  |some g=>
   obtain⟨cur,hc⟩:=Ca h' hb
   refine .inr (EY (h.p i h1 h2) fun G7 e=> ?_)
   rw[hc]at e;cases e
theorem eB.push{base:Nat}{a:ae}{n:Nat}{P:List (List ae)}{bj:List Value}{v v' u:Value}{q:List ae}{w w':World}(h:eB base a n P bj v w)(hu:w.ownsRow base 9 1 u n ((a::q).map .string))(hg:w.grownBy w' v.ownBlock)(hr:w'.ownsRow base 43 1 v' (P.length+1) (bj++[u])):eB base a n (P++[q]) (bj++[u]) v' w':=by
 have key:∀ {x:Value} {n:Nat} {xs:List Value},w.ownsRow base 9 1 x n xs→w'.ownsRow base 9 1 x n xs:=fun {x n xs} hx=>by
  refine hx.kept hg ?_
  cases hb:v.ownBlock with
  |none=>cases hv:x.ownBlock<;>simp
  |some g=>
   obtain⟨cur,hc⟩:=Ca h.r hb
   refine .inr (EY hx fun G7 e=> ?_)
   rw[hc]at e;cases e
 refine⟨by rw[Z5,YU];exact hr,by simp[h.l],fun i h1 h2=> ?_⟩
 have hl:=h.l
 by_cases hi:i<P.length
 ·rw[YH hi,YH (by omega)]
  exact key (h.p i (by omega) hi)
 ·obtain rfl:i=P.length:=by simp at h2;omega
  rw[YR (by omega),YR (by omega)]
  simpa using key hu
theorem eB.nil(base:Nat)(a:ae)(n:Nat)(w:World):eB base a n [] [] (.slice none 0 0) w:=⟨World.ownsRow_nil _ _ _ _,rfl,fun i h=>absurd h (by simp)⟩
theorem Sk:∀ (a:ae) (q:List ae),(a::q)[q.length]? =some (bB a q)
 |a,[]=>rfl
 |a,b::l=>by
  have:=Sk b l
  rw[bB,← this];rfl
theorem eB.at{base:Nat}{a:ae}{n:Nat}{P:List (List ae)}{bj:List Value}{v:Value}{w:World}(h:eB base a (n+1) P bj v w){i:Nat}(hi:i<P.length)(hn:P[i].length=n):
  ∃ g cap g2 pg,v= .slice (some ⟨g,0,none⟩) P.length cap∧w.cell? ⟨g,i,none⟩=some (.slice (some ⟨g2,0,none⟩) (n+1) pg)∧w.cell? ⟨g2,n,none⟩=some (.string (bB a P[i]))∧w.ownsRow base 9 1 (.slice (some ⟨g2,0,none⟩) (n+1) pg) (n+1) ((a::P[i]).map .string)∧bj[i]? =some (.slice (some ⟨g2,0,none⟩) (n+1) pg):=by
 have hl:=h.l
 obtain⟨cur,II⟩:∃ g,v.ownBlock=some g:=by
  rcases h.r.2 with⟨rfl,hz⟩|⟨g,cap,cur,rfl,_⟩
  ·omega
  ·exact⟨g,rfl⟩
 have hc:=h.r.cells II i bj[i] (Z4 (by omega))
 have hp:=h.p i (by omega) hi
 rcases h.r.2 with⟨rfl,hz⟩|⟨g,cap,G7,rfl,_⟩
 ·omega
 simp only[Value.ownBlock,Z1]at II
 subst II
 rw[Addr.add_lit,Zc]at hc
 rcases hp.2 with⟨h1,h2⟩|⟨g2,pg,ayk,h1,_⟩
 ·omega
 have jL:=hp.cells (g:=g2) (by rw[h1];rfl) n (.string (bB a P[i])) (by
  have:=Sk a P[i]
  rw[hn]at this
  rw[YA,this];rfl)
 rw[Addr.add_lit,Zc]at jL
 rw[h1]at hc hp
 exact⟨g,cap,g2,pg,rfl,hc,jL,hp,by rw[← h1];exact Z4 (by omega)⟩
theorem eB.own{base:Nat}{a:ae}{n:Nat}{P:List (List ae)}{bj:List Value}{v u:Value}{w:World}(h:eB base a n P bj v w){i:Nat}(hu:bj[i]? =some u)(hi:i<P.length):w.ownsRow base 9 1 u n ((a::P[i]).map .string):=by
 obtain⟨h1,rfl⟩:=ZP.1 hu
 exact h.p i h1 hi
theorem EX{w:World}{base o9:Nat}{e:TypeId}{v:Value}{n:Nat}{xs:List Value}(h:w.ownsRow base e 1 v n xs)(hb:o9≤base):w.ownsRow o9 e 1 v n xs:=by
 refine⟨h.1,?_⟩
 rcases h.2 with hn|⟨g,cap,cur,rfl,Ba,rest⟩
 ·exact .inl hn
 ·exact .inr ⟨g,cap,cur,rfl,Zk hb Ba,rest⟩
theorem eB.mono{base o9:Nat}{a:ae}{n:Nat}{P:List (List ae)}{bj:List Value}{v:Value}{w:World}(h:eB base a n P bj v w)(hb:o9≤base):eB o9 a n P bj v w:=⟨EX h.r hb,h.l,fun i h1 h2=>EX (h.p i h1 h2) hb⟩
structure jl(w:World)(a:ae)(bs lv n:Nat)(P:List (List ae))(bj:List Value)(vp:Value)(Q:List (List ae))(cY:List Value)(S:List ae)(wr:World)(vl:Value):Prop where
 p:eB w.heap.size a (n+1) P bj vp wr
 q:eB lv a (n+2) Q cY vl wr
 s:bV wr bs S
 k:Below w.heap.size w wr
 d:∀ g,vp.ownBlock=some g→g<lv
 b:w.heap.size≤bs
 l:w.heap.size≤lv
 z:lv≤wr.heap.size
theorem jl.below{w:World}{a:ae}{bs lv n:Nat}{P:List (List ae)}{bj:List Value}{vp:Value}{Q:List (List ae)}{cY:List Value}{S:List ae}{wr w':World}{vl:Value}(h:jl w a bs lv n P bj vp Q cY S wr vl)(hb:Below wr.heap.size wr w'):jl w a bs lv n P bj vp Q cY S w' vl:=
 ⟨h.p.below hb,h.q.below hb,rM h.s hb,h.k.trans (gx hb h.k.size),h.d,h.b,h.l,Zk h.z hb.size⟩
theorem jl.mark{w:World}{a:ae}{bs lv n:Nat}{P:List (List ae)}{bj:List Value}{vp:Value}{Q:List (List ae)}{cY:List Value}{S S':List ae}{wr w':World}{vl:Value}(h:jl w a bs lv n P bj vp Q cY S wr vl)(hs:bV w' bs S')(hg:wr.grownBy w' (some bs)):jl w a bs lv n P bj vp Q cY S' w' vl:=by
 have hb:=h.b
 exact⟨h.p.map h.s.isMap hg,h.q.map h.s.isMap hg,hs,h.k.trans ((aW.kh hg).below h.k.size (by simpa using hb)),h.d,h.b,h.l,Zk h.z hg.size⟩
theorem jl.push{w:World}{a:ae}{bs lv n:Nat}{P:List (List ae)}{bj:List Value}{vp:Value}{Q:List (List ae)}{cY:List Value}{S:List ae}{wr w':World}{vl ly u:Value}{q:List ae}(h:jl w a bs lv n P bj vp Q cY S wr vl)(hu:wr.ownsRow lv 9 1 u (n+2) ((a::q).map .string))(hg:wr.grownBy w' vl.ownBlock)(hr:w'.ownsRow lv 43 1 ly (Q.length+1) (cY++[u])):
  jl w a bs lv n P bj vp (Q++[q]) (cY++[u]) S w' ly:=by
 refine⟨h.p.other h.q.r (fun g hg e=>by have:=(h.q.r.lt g hg).1;have:=h.d g e;omega) hg,h.q.push hu hg hr,?_,?_,h.d,h.b,h.l,Zk h.z hg.size⟩
 ·refine dy.kept h.s hg ?_
  cases hb:vl.ownBlock with
  |none=>simp
  |some g=>
   obtain⟨cur,hc⟩:=Ca h.q.r hb
   simp only[ne_eq,Z1]
   rintro rfl
   exact yG h.s.isMap _ _ _ hc
 ·cases hb:vl.ownBlock with
  |none=>rw[hb]at hg;exact h.k.trans ((aW.ET hg []).below h.k.size (by simp))
  |some g=>
   rw[hb]at hg
   have:=(h.q.r.lt g hb).1
   have:=h.l
   exact h.k.trans ((aW.kh hg).below h.k.size (by simp;omega))
theorem jl.level{w:World}{a:ae}{bs n:Nat}{P:List (List ae)}{bj:List Value}{vp:Value}{S:List ae}{wr:World}(h1:eB w.heap.size a (n+1) P bj vp wr)(h2:bV wr bs S)(h3:Below w.heap.size w wr)(hb:w.heap.size≤bs):jl w a bs wr.heap.size n P bj vp [] [] S wr (.slice none 0 0):=
 ⟨h1,eB.nil _ _ _ _,h2,h3,fun g hg=>(h1.r.lt g hg).2,hb,h3.size,ZR _⟩
theorem eB.first(w:World)(a:ae):eB w.heap.size a (0+1) [[]] [.slice (some ⟨w.heap.size+1,0,none⟩) 1 1] (.slice (some ⟨w.heap.size+2,0,none⟩) 1 1) (((w.alloc (.map #[] 0)).alloc (.cells #[.string a] 9)).alloc (.cells #[.slice (some ⟨w.heap.size+1,0,none⟩) 1 1] 43))∧
  bV (((w.alloc (.map #[] 0)).alloc (.cells #[.string a] 9)).alloc (.cells #[.slice (some ⟨w.heap.size+1,0,none⟩) 1 1] 43)) w.heap.size []∧
  Below w.heap.size w (((w.alloc (.map #[] 0)).alloc (.cells #[.string a] 9)).alloc (.cells #[.slice (some ⟨w.heap.size+1,0,none⟩) 1 1] 43)):=by
 have e1:=heap_alloc_new (w.alloc (.map #[] 0)) (.cells #[.string a] 9)
 rw[show(w.alloc (.map #[] 0)).heap.size=w.heap.size+1 by simp]at e1
 have e2:=heap_alloc_new ((w.alloc (.map #[] 0)).alloc (.cells #[.string a] 9)) (.cells #[.slice (some ⟨w.heap.size+1,0,none⟩) 1 1] 43)
 rw[show((w.alloc (.map #[] 0)).alloc (.cells #[.string a] 9)).heap.size=w.heap.size+2 by simp]at e2
 have e1':=(heap_alloc_old ((w.alloc (.map #[] 0)).alloc (.cells #[.string a] 9)) (.cells #[.slice (some ⟨w.heap.size+1,0,none⟩) 1 1] 43) (ZX.1 e1).1).trans e1
 refine⟨⟨⟨rfl,.inr ⟨w.heap.size+2,1,_,rfl,by omega,e2,by simp,by decide,by simp,by simp⟩⟩,rfl,fun i h1 h2=> ?_⟩,((we w _ _ _).alloc _).alloc _,((((aW.refl w []).alloc _).alloc _).alloc _).below (ZR _) (by simp)⟩
 obtain rfl:i=0:=by simpa using h1
 exact⟨rfl,.inr ⟨w.heap.size+1,1,_,rfl,by omega,e1',by simp,by decide,by simp,by simp⟩⟩
theorem agE{w w':World}{e:TypeId}{lo:Nat}{v:Value}{L:List ae}(h:names w e lo v L)(hk:∀ (g:Nat) (cur:Array Value),w.heap[g]? =some (Obj.cells cur e (0,0))→w'.heap[g]? =w.heap[g]?):names w' e lo v L:=by
 obtain⟨a,cap,rfl,h1,h2,h3⟩:=h
 exact⟨a,cap,rfl,h1,h2,fun hc=>by obtain⟨g,off,cur,g1,g2,g3,g4⟩:=h3 hc;exact⟨g,off,cur,g1,g2,(hk g _ g3).trans g3,g4⟩⟩
theorem agF{w w':World}{lo base n:Nat}{v vl:Value}{L:List ae}{xs:List Value}(h:names w 9 lo v L)(hq:w.ownsRow base 43 1 vl n xs)(hg:w.grownBy w' vl.ownBlock):names w' 9 lo v L:=by
 refine agE h fun g cur hc=>hg.block g (ZX.1 hc).1 fun e=> ?_
 obtain⟨G7,gO⟩:=Ca hq e.symm
 rw[hc]at gO;cases gO
theorem E4{fs:List aq}:∀ {a:ae} {q:List ae},a∈bh fs→fi (deps fs) a q→bB a q∈bh fs
 |_,[],h,_=>h
 |a,b::l,_,h=>E4 (a:=b) (q:=l) (AH h.1) h.2
theorem ji.UL{fs:List aq}{a:ae}{k:Nat}{P:List (List ae)}{S:List ae}(ha:a∈bh fs)(h:ji (deps fs) a k P S):S.length≤(bh fs).length:=iN h.d fun x hx=>by
 obtain⟨q,h1,h2,_⟩:=h.r x hx
 rw[← h2];exact E4 ha h1
theorem abL{w W:World}{a:ae}{bs lv n:Nat}{P:List (List ae)}{bj:List Value}{vp:Value}{Q:List (List ae)}{cY:List Value}{S:List ae}{vl:Value}{g2 pg:Nat}{q:List ae}(h:jl w a bs lv n P bj vp Q cY S W vl)(hn:n≤274877906944)
  (hq:W.ownsRow w.heap.size 9 1 (.slice (some ⟨g2,0,none⟩) (n+1) pg) (n+1) ((a::q).map .string)):Calls Tryz.prog 67 #[.slice (some ⟨g2,0,none⟩) (n+1) pg] W fun e W'=>∃ v,e= .returned v∧W'.ownsRow W.heap.size 9 1 v (n+1) ((a::q).map .string)∧Below W.heap.size W W':=by
 have hl:=hq.1
 rw[Z3,Yi]at hl
 refine(Tryz.slices_Clone_string g2 0 (n+1) pg (a::q) W (by omega) (by omega) (fun j hj=> ?_)).mono fun e W' ⟨v,h1,h2,_,h4⟩=>⟨v,h1,?_,h4⟩
 ·have:=hq.cells (g:=g2) rfl j (.string ((a::q).getD j ByteArray.empty)) (by rw[YA,ZY,Z4 hj];rfl)
  rw[Addr.add_lit]at this
  simpa using this
 ·rw[ZD (by omega)]at h2;exact h2
structure L2(fs:List aq)(w:World)(a:ae)(bs lv k:Nat)(P:List (List ae))(bj:List Value)(vp:Value)(S:List ae)(i:Nat)(cY:List Value)(t:List (List ae)×List ae)(wr:World)(vl:Value):Prop where
 s:jl w a bs lv k P bj vp t.1 cY t.2 wr vl
 e:t=jn (deps fs) a (P.take i) ([],S)
 b:t.1.length≤t.2.length
 n:∀ x∈t.2,x∈bh fs
 no:∀ j (hj:j<P.length),j<i→a∉deps fs (bB a P[j])
structure L3(fs:List aq)(w:World)(a:ae)(bs lv k:Nat)(P:List (List ae))(bj:List Value)(vp:Value)(p:List ae)(t0:List (List ae)×List ae)(v40:Value)(j:Nat)(cY:List Value)(t:List (List ae)×List ae)(wr:World)(vl:Value):Prop where
 s:jl w a bs lv k P bj vp t.1 cY t.2 wr vl
 e:t=ext1 p ((deps fs (bB a p)).take j) t0
 b:t.1.length≤t.2.length
 n:∀ x∈t.2,x∈bh fs
 v:names wr 9 0 v40 (deps fs (bB a p))
theorem L3.seen{fs:List aq}{w:World}{a:ae}{bs lv k:Nat}{P:List (List ae)}{bj:List Value}{vp:Value}{p:List ae}{t0:List (List ae)×List ae}{v40:Value}{j:Nat}{cY:List Value}{t:List (List ae)×List ae}{wr:World}{vl:Value}(h:L3 fs w a bs lv k P bj vp p t0 v40 j cY t wr vl)(hj:j<(deps fs (bB a p)).length)(fI:(deps fs (bB a p))[j]∈t.2):L3 fs w a bs lv k P bj vp p t0 v40 (j+1) cY t wr vl:=by
 refine⟨h.s,?_,h.b,h.n,h.v⟩
 rw[ZF hj,Hu,← h.e,Z8 fI]
theorem L3.len{fs:List aq}{w:World}{a:ae}{bs lv k:Nat}{P:List (List ae)}{bj:List Value}{vp:Value}{p:List ae}{t0:List (List ae)×List ae}{v40:Value}{j:Nat}{cY:List Value}{t:List (List ae)×List ae}{wr:World}{vl:Value}(h:L3 fs w a bs lv k P bj vp p t0 v40 j cY t wr vl):t.1.length≤(bh fs).length∧t.2.length≤(bh fs).length:=by
 have h1:=iN h.s.s.1 h.n
 have h2:=h.b
 omega
theorem L3.push{fs:List aq}{w:World}{a:ae}{bs lv k:Nat}{P:List (List ae)}{bj:List Value}{vp:Value}{p:List ae}{t0:List (List ae)×List ae}{v40:Value}{j:Nat}{cY:List Value}{t:List (List ae)×List ae}{wr w1 w4:World}{vl ly u:Value}(h:L3 fs w a bs lv k P bj vp p t0 v40 j cY t wr vl)(hj:j<(deps fs (bB a p)).length)(fI:(deps fs (bB a p))[j]∉t.2)
  (hs:jl w a bs lv k P bj vp t.1 cY (ins t.2 (deps fs (bB a p))[j]) w1 vl) (hv:names w1 9 0 v40 (deps fs (bB a p))) (hu:w1.ownsRow lv 9 1 u (k+2) ((a::(p++[(deps fs (bB a p))[j]])).map .string)) (hg:w1.grownBy w4 vl.ownBlock) (hr:w4.ownsRow lv 43 1 ly (t.1.length+1) (cY++[u])):
  L3 fs w a bs lv k P bj vp p t0 v40 (j+1) (cY++[u]) (t.1++[p++[(deps fs (bB a p))[j]]],t.2++[(deps fs (bB a p))[j]]) w4 ly:=by
 have e:ins t.2 (deps fs (bB a p))[j]=t.2++[(deps fs (bB a p))[j]]:=by unfold ins;rw[Z9 fI]
 rw[e]at hs
 refine⟨hs.push hu hg hr,?_,?_,fun x hx=> ?_,agF hv hs.q.r hg⟩
 ·rw[ZF hj,Hu,← h.e,Z9 fI]
 ·have:=h.b;simp only[Z5,YU];omega
 ·rcases ZG.1 hx with hx|hx
  ·exact h.n x hx
  ·rw[ZI]at hx;subst hx;exact AH (Zp hj)
theorem L3.done{fs:List aq}{w:World}{a:ae}{bs lv k:Nat}{P:List (List ae)}{bj:List Value}{vp:Value}{S:List ae}{i:Nat}{axG:List Value}{t0:List (List ae)×List ae}{wr0:World}{CO:Value}{v40:Value}{j:Nat}{cY:List Value}{t:List (List ae)×List ae}{wr:World}{vl:Value}(hi:i<P.length)(h0:L2 fs w a bs lv k P bj vp S i axG t0 wr0 CO)
  (h:L3 fs w a bs lv k P bj vp P[i] t0 v40 j cY t wr vl) (hj:(deps fs (bB a P[i])).length≤j) (ep:a∉deps fs (bB a P[i])):L2 fs w a bs lv k P bj vp S (i+1) cY t wr vl:=by
 refine⟨h.s,?_,h.b,h.n,fun x hx yn=> ?_⟩
 ·rw[h.e,ZD hj,ZF hi,Hv,← h0.e]
 ·rcases Yy (Yt yn)with h1|rfl
  ·exact h0.no x hx h1
  ·exact ep
theorem aha{w:World}{base:Nat}{e:TypeId}{v:Value}{n:Nat}{xs:List Value}(h:w.ownsRow base e 1 v n xs):∀ u∈[v],u.oneCell'=true:=fun u hu=>by
 rw[ZI]at hu;subst hu
 rcases h.2 with⟨rfl,_⟩|⟨g,cap,cur,rfl,_⟩<;>rfl
theorem S5{w:World}{base:Nat}{e:TypeId}{v:Value}{n:Nat}{xs:List Value}(h:w.ownsRow base e 1 v n xs)(hn:0<n):∃ g cap,v= .slice (some ⟨g,0,none⟩) n cap:=by
 rcases h.2 with⟨_,h1⟩|⟨g,cap,cur,h1,_⟩
 ·omega
 ·exact⟨g,cap,h1⟩
theorem awL(s:ae):∀ u∈[Value.string s],u.oneCell'=true:=fun u hu=>by rw[ZI]at hu;subst hu;rfl
theorem N9(w:World)(v:Value)(t:TypeId):∀ j u,[v][j]? =some u→(w.alloc (.cells #[v] t)).cell? ((⟨w.heap.size,0,none⟩:Addr).add j)=some u:=fun j u hj=>by
 match j,hj with
 |0,hj=>
  simp only[List.getElem?_cons_zero,Z1]at hj
  subst hj
  rw[Addr.add_lit,pn (heap_alloc_new _ _)];rfl
theorem PO{w w':World}{base:Nat}{e:TypeId}{v:Value}{n:Nat}{xs:List Value}(h:w.ownsRow base e 1 v n xs)(hg:w.grownBy w' v.ownBlock)(hb:base≤w.heap.size):Below base w w':=
 ⟨hg.os,hg.tape,hg.output,hg.size,fun k hk=>hg.block k (by omega) fun e'=>by have:=(h.lt k e'.symm).1;omega⟩
theorem L2.start{fs:List aq}{w:World}{a:ae}{k:Nat}{P:List (List ae)}{bj:List Value}{vp:Value}{S:List ae}{wr:World}(ha:a∈bh fs)(h1:eB w.heap.size a (k+1) P bj vp wr)(h2:bV wr w.heap.size S)(h3:Below w.heap.size w wr)(h4:ji (deps fs) a k P S):L2 fs w a w.heap.size wr.heap.size k P bj vp S 0 [] ([],S) wr (.slice none 0 0):=
 ⟨jl.level h1 h2 h3 (ZR _),rfl,ZH _,fun x hx=>by obtain⟨q,h5,h6,_⟩:=h4.r x hx;rw[← h6];exact E4 ha h5,fun j _ h=>absurd h (by omega)⟩
theorem L3.start{fs:List aq}{w:World}{a:ae}{bs lv k:Nat}{P:List (List ae)}{bj:List Value}{vp:Value}{S:List ae}{i:Nat}{cY:List Value}{t:List (List ae)×List ae}{wr w5:World}{vl:Value}{p:List ae}{v40:Value}{l0:Nat}(h:L2 fs w a bs lv k P bj vp S i cY t wr vl)(hb:Below wr.heap.size wr w5)(hv:names w5 9 l0 v40 (deps fs (bB a p))):
  L3 fs w a bs lv k P bj vp p t v40 0 cY t w5 vl:=⟨h.s.below hb,rfl,h.b,h.n,hv.mono (ZH _)⟩
theorem awH{w:World}{a:ae}{bs lv n:Nat}{P:List (List ae)}{bj:List Value}{vp:Value}{Q:List (List ae)}{cY:List Value}{S:List ae}{w1 w2 w3:World}{vl v1:Value}{m:Nat}{xs:List Value}(s1:jl w a bs lv n P bj vp Q cY S w1 vl)(fy:w2.ownsRow w1.heap.size 9 1 v1 m xs)(cW:Below w1.heap.size w1 w2){o1:Obj}(pJ:(w2.alloc o1).grownBy w3 v1.ownBlock)(o2:Obj):
  (w3.alloc o2).ownsRow lv 43 1 vl Q.length cY∧lv≤(w3.alloc o2).heap.size:=by
 have l2:=cW.size
 have b3:Below w1.heap.size w2 (w2.alloc o1):=⟨rfl,rfl,rfl,by simp,fun k hk=>heap_alloc_old w2 o1 (by omega)⟩
 have b4:=PO (fy.alloc o1) pJ (by simp;omega)
 have l4:=b4.size
 have b5:Below w1.heap.size w3 (w3.alloc o2):=⟨rfl,rfl,rfl,by simp,fun k hk=>heap_alloc_old w3 o2 (by simp at l4;omega)⟩
 have s5:=s1.below (((cW.trans b3).trans b4).trans b5)
 exact⟨s5.q.r,s5.z⟩
theorem L3.step{fs:List aq}{w:World}{a:ae}{bs lv k:Nat}{P:List (List ae)}{bj:List Value}{vp:Value}{p:List ae}{t0:List (List ae)×List ae}{v40:Value}{j:Nat}{cY:List Value}{t:List (List ae)×List ae}{wr w1 w2 w3 w4:World}{vl ly v1 u:Value}(h:L3 fs w a bs lv k P bj vp p t0 v40 j cY t wr vl)(hj:j<(deps fs (bB a p)).length)(fI:(deps fs (bB a p))[j]∉t.2){o1 o2:Obj}
  (hs:bV w1 bs (ins t.2 (deps fs (bB a p))[j])) (eX:wr.grownBy w1 (some bs)) (fy:w2.ownsRow w1.heap.size 9 1 v1 (k+1) ((a::p).map .string)) (cW:Below w1.heap.size w1 w2)
  (fz:w3.ownsRow w1.heap.size 9 1 u (k+1+1) ((a::p).map .string++[.string (deps fs (bB a p))[j]])) (pJ:(w2.alloc o1).grownBy w3 v1.ownBlock)
  (pO:w4.ownsRow lv 43 1 ly (t.1.length+1) (cY++[u])) (Bl:(w3.alloc o2).grownBy w4 vl.ownBlock):
  L3 fs w a bs lv k P bj vp p t0 v40 (j+1) (cY++[u]) (t.1++[p++[(deps fs (bB a p))[j]]],t.2++[(deps fs (bB a p))[j]]) w4 ly:=by
 have s1:=h.s.mark hs eX
 have n1:=h.v.grown eX (yG h.s.s.isMap)
 have l2:=cW.size
 have b3:Below w1.heap.size w2 (w2.alloc o1):=⟨rfl,rfl,rfl,by simp,fun k hk=>heap_alloc_old w2 o1 (by omega)⟩
 have b4:=PO (fy.alloc o1) pJ (by simp;omega)
 have l4:=b4.size
 have b5:Below w1.heap.size w3 (w3.alloc o2):=⟨rfl,rfl,rfl,by simp,fun k hk=>heap_alloc_old w3 o2 (by simp at l4;omega)⟩
 have bb:=((cW.trans b3).trans b4).trans b5
 refine h.push hj fI (s1.below bb) (yF n1 bb) ?_ Bl pO
 have:=EX (fz.alloc o2) s1.z
 have e:(a::(p++[(deps fs (bB a p))[j]])).map Value.string=(a::p).map .string++[.string (deps fs (bB a p))[j]]:=by simp
 rw[e];exact this
theorem aht:(Tryz.prog.info? 43).map (fun i=>(i.zero,i.size,i.bytes))=some (some (.slice none 0 0),1,24):=by kernel_rfl
set_option maxHeartbeats 4000000 in
set_option maxRecDepth 1000000 in
theorem awm(fs:List aq)(hlen:fs.length≤274877906944){w:World}{bA lo:Nat}{L:List ae}{Fm:ae→Nat}(hA:iq w bA lo fs L Fm)(a:ae)(ha:a∈bh fs):
  Calls Tryz.prog 38 #[.map (some bA),.string a] w fun e W'=>∃ v,e= .returned v∧Below w.heap.size w W'∧((v= .slice none 0 0∧∀ q,¬jj (deps fs) a q)∨∃ q,oW (deps fs) a q∧∃ n,W'.ownsRow w.heap.size 9 1 v n ((a::q).map .string)):=by
 have hN:=EM fs
 have yb:= @run_makeMap Tryz.prog
 have Eb:maxLen=9223372036854775807:=rfl
 have Qg:a∈L:=(hA.l a).2 (qc.1 ha)
 have has:a.size≤maxLen:=hA.m.2.1 a Qg
 obtain⟨i0,oe,ka,fA,np⟩:=info_parts FB
 obtain⟨i1,qU,hy0,hy1,Rz⟩:=info_parts aht
 obtain⟨Rel,jo⟩:∃ Rel:Nat→Value→World→Prop,∀ n v wr,Rel n v wr↔∃ k P bj S,eB w.heap.size a (k+1) P bj v wr∧bV wr w.heap.size S∧Below w.heap.size w wr∧ji (deps fs) a k P S∧k≤(bh fs).length+1∧n=(bh fs).length+1-k:=⟨_,fun _ _ _=>Iff.rfl⟩
 have H0:Hd (∃ n,Rel n (.slice (some ⟨w.heap.size+2,0,none⟩) 1 1) (((w.alloc (.map #[] 0)).alloc (.cells #[.string a] 9)).alloc (.cells #[.slice (some ⟨w.heap.size+1,0,none⟩) 1 1] 43))):=by
  obtain⟨h1,h2,h3⟩:=eB.first w a
  exact⟨⟨_,(jo _ _ _).2 ⟨0,_,_,_,h1,h2,h3,ji.start _ _,ZH _,rfl⟩⟩⟩
 have lD:=Hd.mk jo
 have HA:=Hd.mk hA
 have Ha:=Hd.mk ha
 clear jo hA ha Qg
 go_enter Tryz.func38,Tryz.ntmps38
 go_wp2
 go_loopw [6] (fun v wr=>∃ n,Rel n v wr) (fun v wr=>mu fun n=>Rel n v wr)
 case atStart=>exact H0.out
 clear H0
 obtain⟨k,P,bj,S,hP,hS,hB,hI,hk,hn⟩:=(lD.out _ _ _).1 (Kd hrel)
 obtain⟨wo,rfl⟩:∃ wo:World,wo=wr:=⟨wr,rfl⟩
 by_cases aJ:P=[]
 ·subst aJ
  rcases hP.r.2 with⟨rfl,_⟩|⟨g,cap,cur,rfl,_⟩
  all_goals
   have Wj:=Hd.mk hI.none
   clear hn hrel lD hI hP
   go_wp2
   go_ret
   exact⟨_,rfl,hB,.inl ⟨rfl,Wj.out⟩⟩
 ·have hk9:k≤274877906944:=by have:=hI.z aJ;have:=hI.UL Ha.out;omega
  have hPl:0<P.length:=YZ.2 aJ
  obtain⟨gp,Az,rfl,hPm⟩:∃ gp Az,u6= .slice (some ⟨gp,0,none⟩) P.length Az∧P.length≤maxLen:=by
   rcases hP.r.2 with⟨_,h⟩|⟨g,cap,cur,h,_,_,h1,h2,_⟩
   ·omega
   ·exact⟨g,cap,h,by omega⟩
  have HL:Hd (∀ (P':List (List ae)) (Lq:List Value) (S':List ae) (v':Value) (w':World),eB w.heap.size a (k+1+1) P' Lq v' w'→bV w' w.heap.size S'→Below w.heap.size w w'→ji (deps fs) a (k+1) P' S'→(∃ n,Rel n v' w')∧(mu fun n=>Rel n v' w')<mu fun n=>Rel n (.slice (some ⟨gp,0,none⟩) P.length Az) wo):=⟨fun P' Lq S' v' w' h1 h2 h3 h4=>by
   have h5:k≤(bh fs).length:=Zk (hI.z aJ) (hI.UL Ha.out)
   have h6:=(lD.out _ v' w').2 ⟨k+1,P',Lq,S',h1,h2,h3,h4,by omega,rfl⟩
   exact⟨⟨_,h6⟩,Kb h6 (by rw[hn];omega)⟩⟩
  have H2:=Hd.mk (L2.start Ha.out hP hS hB hI)
  have HI:=Hd.mk hI
  clear hn hrel lD hP hS hB hI aJ
  go_wp2
  go_loopw [7,22] (fun vl i wr=>∃ (i':Nat) (cY:List Value) (t:List (List ae)×List ae),i= .int .i64 i'∧i'≤P.length∧Hd (L2 fs w a w.heap.size wo.heap.size k P bj (.slice (some ⟨gp,0,none⟩) P.length Az) S i' cY t wr vl)) (fun _ i _=>P.length-(intOf i).toNat)
  case atStart=>exact⟨0,[],_,rfl,ZH _,H2⟩
  clear H2
  obtain⟨i,cY,t,rfl,hi,HS⟩:=hrel
  by_cases ax:i<P.length
  ·obtain⟨_,_,g2,pg,he,fy,jL,gh,Ru⟩:=HS.out.s.p.at ax (HI.out.p _ (Zp ax)).2
   cases he
   obtain⟨p,hp⟩:∃ p,p=P[i]:=⟨_,rfl⟩
   rw[← hp]at jL gh
   have Q7:fi (deps fs) a p:=hp ▸ (HI.out.p _ (Zp ax)).1
   obtain⟨z,hz⟩:∃ z,z=bB a p:=⟨_,rfl⟩
   rw[← hz]at jL
   have En:z∈L:=(HA.out.l z).2 (qc.1 (hz ▸ E4 Ha.out Q7))
   have pU:z.size≤maxLen:=HA.out.m.2.1 z En
   have Gl:=Hd.mk (HA.out.below HS.out.s.k)
   obtain⟨D,hD,AZ⟩:=Gl.out.s z En
   have HD:=Hd.mk hD
   have wU:=Hd.mk AZ
   have Hp:=Hd.mk hp
   have Hz:=Hd.mk hz
   have HO:=Hd.mk gh
   have Wh:=Hd.mk Ru
   clear Ru hD AZ hp hz gh Q7
   by_cases D4:a∈D
   ·have HB:=Hd.mk (HI.out.found (Z4 ax) (by have:=(wU.out a).1 D4;rw[Hz.out,Hp.out]at this;exact this) (fun j hj q hq=>by obtain⟨eo,rfl⟩:=ZP.1 hq;exact HS.out.no j eo hj))
    go_wp2_with (first
     |(at_lookup;refine zN _ rfl _ _ 81 rfl Tryz.underlying9 Tryz.underlying81 (Tryz.zeroValue69 _) bA L Fm rfl Gl.out.m z rfl pU ?_;rw[Z8 En])
     |(at_lookup;refine ux _ rfl _ _ 69 rfl Tryz.underlying9 Tryz.underlying4 Tryz.underlying69 (Tryz.zeroValue4 _) (Fm z) D rfl HD.out a rfl has ?_;rw[Zi D4]))
    go_ret
    exact⟨_,rfl,HS.out.s.k,.inr ⟨p,by rw[Hp.out];exact HB.out,_,HO.out⟩⟩
   ·have ep:Hd (a∉deps fs (bB a P[i])):=⟨fun h=>D4 ((wU.out a).2 (by rw[Hz.out,Hp.out];exact h))⟩
    have hDl:Hd (D.length≤4398046511104):=⟨by have:=iN HD.out.1 (b:=bh fs) (fun m hm=>AH ((wU.out m).1 hm));omega⟩
    go_wp2_with (first
     |(at_lookup;refine zN _ rfl _ _ 81 rfl Tryz.underlying9 Tryz.underlying81 (Tryz.zeroValue69 _) bA L Fm rfl Gl.out.m z rfl pU ?_;rw[Z8 En])
     |(at_lookup;refine ux _ rfl _ _ 69 rfl Tryz.underlying9 Tryz.underlying4 Tryz.underlying69 (Tryz.zeroValue4 _) (Fm z) D rfl HD.out a rfl has ?_;rw[Zn D4])
     |(go_at_call 23;refine(JZ _ _).mono ?_;rintro e w6 ⟨rfl,rfl⟩)
     |(go_at_call 22;refine(Fw HD.out hDl.out).mono ?_;rintro e w5 ⟨v40,Wv,rfl,iI,cI,BH,ni⟩;have aex:Wv=deps fs (bB a p):=oP iI (Hk _ _) (fun x=>by rw[cI,wU.out,Hz.out]);subst aex;have H3:=Hd.mk (L3.start HS.out (uO ni) BH);obtain⟨a40,abE,rfl⟩:=BH.shape;clear iI cI BH ni))
    have hdl:(deps fs (bB a p)).length≤274877906944:=by have:=iN (wj (Hk fs (bB a p))) (b:=bh fs) (fun m hm=>AH hm);omega
    obtain⟨CR,rfl⟩:∃ CR:World,CR=wr:=⟨wr,rfl⟩
    go_loopw [7,42] (fun vl i wr=>∃ (j:Nat) (FQ:List Value) (t':List (List ae)×List ae),i= .int .i64 j∧j≤(deps fs (bB a p)).length∧Hd (L3 fs w a w.heap.size wo.heap.size k P bj (.slice (some ⟨gp,0,none⟩) P.length Az) p t (.slice a40 (deps fs (bB a p)).length abE) j FQ t' wr vl)) (fun _ i _=>(deps fs (bB a p)).length-(intOf i).toNat)
    case atStart=>exact⟨0,cY,t,rfl,ZH _,H3⟩
    clear H3 fy jL HO
    obtain⟨j,FQ,t',rfl,hj,HR⟩:=hrel
    by_cases na:j<(deps fs (bB a p)).length
    ·obtain⟨g40,ayC,c40,he,aeD⟩:=HR.out.v.cell na
     cases he
     obtain⟨s,hs⟩:∃ s,s=(deps fs (bB a p))[j]:=⟨_,rfl⟩
     rw[← hs]at aeD
     have iJ:s.size≤maxLen:=HA.out.m.2.1 s ((HA.out.l s).2 (qc.1 (hs ▸ AH (Zp na))))
     have Hs:=Hd.mk hs
     clear hs
     obtain⟨l1,l2⟩:=HR.out.len
     by_cases fI:s∈t'.2
     ·go_wp2_with (at_lookup;refine ux _ rfl _ _ 69 rfl Tryz.underlying9 Tryz.underlying4 Tryz.underlying69 (Tryz.zeroValue4 _) w.heap.size t'.2 rfl HR.out.s.s s rfl iJ ?_;rw[Zi fI])
      go_roundw
      case rel=>exact⟨j+1,FQ,t',by go_num,na,⟨HR.out.seen na (by rw[← Hs.out];exact fI)⟩⟩
      case measure=>simp[intOf];omega
     ·have Wi:Hd ((deps fs (bB a p))[j]∉t'.2):=⟨by rw[← Hs.out];exact fI⟩
      go_wp2_with (first
       |(at_lookup;refine ux _ rfl _ _ 69 rfl Tryz.underlying9 Tryz.underlying4 Tryz.underlying69 (Tryz.zeroValue4 _) w.heap.size t'.2 rfl HR.out.s.s s rfl iJ ?_;rw[Zn fI])
       |(at_mapUpdate;refine CT _ rfl _ _ _ 69 rfl Tryz.underlying9 Tryz.underlying4 Tryz.underlying69 w.heap.size t'.2 rfl HR.out.s.s (by omega) s rfl iJ rfl ?_;intro w1 Jw eX;have Gm:=Hd.mk (HR.out.s.mark Jw eX);have H1:=Hd.mk (And.intro Jw eX);clear Jw eX)
       |(go_at_call 67;refine(abL (q:=p) Gm.out hk9 (by rw[Hp.out];exact Gm.out.p.own Wh.out ax)).mono ?_;rintro e w2 ⟨v1,rfl,aY,cW⟩;have H2:=Hd.mk (And.intro aY cW);clear aY cW)
       |(at_builtin;refine wpList_append_own _ rfl (.tmp 54) (.tmp 56) 43 rfl w1.heap.size 9 i0 (.string ⟨#[]⟩) 1 16 Tryz.underlying43 oe ka fA np rfl (by decide) v1 (k+1) _ rfl (H2.out.1.alloc _) ⟨w2.heap.size,0,none⟩ 1 1 [.string s] rfl rfl (N9 _ _ _) (awL s) (by omega) (by omega) (by have:=H2.out.2.size;simp;omega) ?_;intro u3 w3 fz pJ _;obtain⟨g5,sI,rfl⟩:=S5 fz (by omega);have H3:=Hd.mk (And.intro fz pJ);have H4:=Hd.mk (awH Gm.out H2.out.1 H2.out.2 pJ (.cells #[.slice (some ⟨g5,0,none⟩) (k+1+1) sI] 43));clear fz pJ)
       |(at_builtin;refine wpList_append_own _ rfl (.tmp 52) (.tmp 58) 116 rfl wo.heap.size 43 i1 (.slice none 0 0) 1 24 Tryz.underlying116 qU hy0 hy1 Rz rfl (by decide) u7 t'.1.length FQ rfl H4.out.1 ⟨w3.heap.size,0,none⟩ 1 1 [.slice (some ⟨g5,0,none⟩) (k+1+1) sI] rfl rfl (N9 _ _ _) (aha H3.out.1) (by omega) (by omega) H4.out.2 ?_;intro u4 w4 pO Bl _))
      have HE:=HR.out.step na Wi.out (by rw[← Hs.out];exact H1.out.1) H1.out.2 H2.out.1 H2.out.2 (by rw[← Hs.out];exact H3.out.1) H3.out.2 pO Bl
      go_roundw
      case rel=>exact⟨j+1,_,_,by go_num,na,⟨HE⟩⟩
      case measure=>simp[intOf];omega
    ·have HE:=Hd.mk (L3.done ax HS.out (by rw[← Hp.out];exact HR.out) (by rw[← Hp.out];omega) ep.out)
     go_wp2
     go_roundw
     case rel=>exact⟨i+1,_,_,by go_num,ax,HE⟩
     case measure=>simp[intOf];omega
  ·have Hn:Hd (∀ q∈P,a∉deps fs (bB a q)):=⟨fun q hq=>by obtain⟨j,hj,rfl⟩:=YK hq;exact HS.out.no j hj (by omega)⟩
   have ht:t=jn (deps fs) a P ([],S):=by rw[HS.out.e,ZD (by omega)]
   have HB:=Hd.mk (HI.out.next (fun n=>Hk fs n) Hn.out)
   have Wf:=Hd.mk (HS.out.s.q.mono HS.out.s.l)
   subst ht
   have HE:=Hd.mk (HL.out _ _ _ _ _ Wf.out HS.out.s.s HS.out.s.k HB.out)
   go_wp2
   go_roundw
   case rel=>exact HE.out.1
   case measure=>exact HE.out.2
def kE(base:Nat)(wr:World)(v:Value)(l:List ae):Prop:=(l=[]∧v= .slice none 0 0)∨∃ g cap,v= .slice (some ⟨g,0,none⟩) l.length cap∧0<l.length∧l.length≤maxLen∧wr.ownsRow base 9 1 v l.length (l.map .string)
theorem kE.below{base:Nat}{w w':World}{v:Value}{l:List ae}(h:kE base w v l)(hb:Below w.heap.size w w'):kE base w' v l:=by
 rcases h with h|⟨g,cap,h1,h2,h3,h4⟩
 ·exact .inl h
 ·exact .inr ⟨g,cap,h1,h2,h3,Kn h4 hb⟩
theorem kE.qe{base n:Nat}{w:World}{v:Value}{l:List ae}(h0:0<l.length)(h:w.ownsRow base 9 1 v n (l.map .string)):kE base w v l:=by
 have h1:=h.1
 rw[Z3,Yi]at h1
 subst h1
 obtain⟨g,cap,rfl⟩:=S5 h h0
 refine .inr ⟨g,cap,rfl,h0,?_,h⟩
 rcases h.2 with⟨h2,_⟩|⟨g',xp,cur,h2,_,_,h3,h4,_⟩
 ·cases h2
 ·omega
theorem kE.mono{base o9:Nat}{w:World}{v:Value}{l:List ae}(h:kE base w v l)(hb:o9≤base):kE o9 w v l:=by
 rcases h with h|⟨g,cap,h1,h2,h3,h4⟩
 ·exact .inl h
 ·exact .inr ⟨g,cap,h1,h2,h3,EX h4 hb⟩
theorem kE.names{base:Nat}{w:World}{v:Value}{l:List ae}(h:kE base w v l):names w 9 base v l:=by
 rcases h with⟨rfl,rfl⟩|⟨g,cap,_,_,_,h⟩
 ·exact⟨none,0,rfl,by simp,by simp,fun h=>absurd h (by omega)⟩
 ·exact names.SV h
structure oX(w:World)(fs:List aq)(bA lo:Nat)(vN:Value)(L:List ae)(F:ae→Nat)(k:Nat)(l:List ae)(wr:World)(vl:Value):Prop where
 v:kE w.heap.size wr vl l
 c:jz (deps fs) (bh fs) k l
 a:iq wr bA (w.heap.size+1) fs L F
 k:Below w.heap.size w wr
 r:qC wr lo vN (bh fs)
theorem oX.below{w:World}{fs:List aq}{bA lo:Nat}{vN:Value}{L:List ae}{F:ae→Nat}{k:Nat}{l:List ae}{wr w':World}{vl:Value}(h:oX w fs bA lo vN L F k l wr vl)(hb:Below wr.heap.size wr w'):oX w fs bA lo vN L F k l w' vl:=
 ⟨h.v.below hb,h.c,h.a.below hb,h.k.trans (gx hb h.k.size),h.r.to (.below hb)⟩
theorem oX.turn{w:World}{fs:List aq}{bA lo:Nat}{vN:Value}{L:List ae}{F:ae→Nat}{k k':Nat}{l l':List ae}{wr:World}{vl ly:Value}(h:oX w fs bA lo vN L F k l wr vl)(hv:kE w.heap.size wr ly l')(hc:jz (deps fs) (bh fs) k' l'):oX w fs bA lo vN L F k' l' wr ly:=
 ⟨hv,hc,h.a,h.k,h.r⟩
theorem oX.start{w w1 w2 w4:World}{fs:List aq}{bA:Nat}{o:Obj}{vN:Value}{L:List ae}{F:ae→Nat}{e:TypeId}{l0:Nat}(ib:w1=w.alloc o)(ha:iq w2 bA (w.heap.size+1) fs L F)(hb:Below (w.heap.size+1) w1 w2)(hn:names w4 e l0 vN (bh fs))(h4:Below w2.heap.size w2 w4):
  oX w fs bA w4.heap.size vN L F 0 [] w4 (.slice none 0 0):=by
 subst ib
 have l1:=hb.size
 have kN:Below w.heap.size w w2:=uO hb
 simp at l1
 exact⟨.inl ⟨rfl,rfl⟩,jz.start _ _,ha.below h4,kN.trans (gx h4 (by omega)),qC.SU hn (ZR _)⟩
set_option maxHeartbeats 4000000 in
set_option maxRecDepth 1000000 in
theorem acA(c:di)(hF:uB c.features){M:Mem}{w:World}(hI:Sx.Inv Tryz.prog M ⟨w,M⟩ [] w){Cc:Array Value}(hC:RL M c.cells Cc.toList):
  Calls Tryz.prog 16 #[.agg Cc] w fun e W'=>∃ v,e= .returned v∧names W' 9 w.heap.size v (mP (deps c.features) (bh c.features))∧Below w.heap.size w W':=by
 have lC:Cc.size=4:=by have:=hC.1;simpa[di.cells]using this.symm
 have Ar:Sx.eV Tryz.prog 25=some (true,Cc.toList.length):=by rw[Zb,lC];kernel_rfl
 clear lC
 have dZ:Below w.heap.size w (w.alloc (.cells Cc 25)):=((aW.refl w []).alloc _).below (ZR _) (by simp)
 have u9:=OG c hF (uP hI dZ) hC
 rw[show(w.alloc (.cells Cc 25)).heap.size=w.heap.size+1 by simp]at u9
 have z8:=Hd.mk u9
 clear u9
 have HC:=Hd.mk (Fc (heap_alloc_new w (.cells Cc 25)))
 have hlen:=hF.l
 have Eb:maxLen=9223372036854775807:=rfl
 have ayx:∀ (w:World) (a:Option Addr) (n k:Nat),(binOp .neq 43 (.slice a n k) (.slice none 0 0)).run Tryz.prog w= .ok (.bool (!a.isNone)) w:=fun w a n k=>run_neq_slice_nil_any w _ _ a n k 0 0 Tryz.underlying43
 have ayp:∀ (w:World) (a:Option Addr) (n k:Nat),(binOp .eql 43 (.slice a n k) (.slice none 0 0)).run Tryz.prog w= .ok (.bool a.isNone) w:=fun w a n k=>Lib.run_eql_slice_nil w _ _ a n k 0 0 Tryz.underlying43
 clear hI hC dZ
 go_enter Tryz.func16,Tryz.ntmps16
 go_wp2_with (first
  |(show wpList _ _ _ (⟨some 7,_,_,_,_,_⟩::_) _ _;refine qI rfl 25 (.tmp 1) rfl w.heap.size 0 rfl Cc HC.out Ar ?_)
  |(go_at_call 36;refine z8.out.mono ?_;rintro e w2 ⟨L,Fm,rfl,hA,cW⟩;have HA:=Hd.mk (And.intro hA cW);clear z8 HC hA cW)
  |(go_at_call 37;refine(R5 _ _).mono ?_;rintro e w3 ⟨rfl,rfl⟩)
  |(go_at_call 22;refine(Uy HA.out.1.m (Zk HA.out.1.len (by omega))).mono ?_;rintro e w4 ⟨vN,S,rfl,pB,s4,xO,A4⟩;have HS:=Hd.mk (oX.start rfl HA.out.1 HA.out.2 (HA.out.1.names pB s4 ▸ xO) (uO A4));have hS5:=HA.out.1.names pB s4;subst hS5;obtain⟨aN,ph,rfl⟩:=xO.shape;clear pB s4 xO A4 HA))
 have hN9:(bh c.features).length≤274877906944:=Zk (EM _) hlen
 go_loopw [2,13] (fun vl i wr=>∃ (k:Nat) (l:List ae),i= .int .i64 k∧k≤(bh c.features).length∧Hd (oX w c.features (w.heap.size+2) w4.heap.size (.slice aN (bh c.features).length ph) L Fm k l wr vl)) (fun _ i _=>(bh c.features).length-(intOf i).toNat)
 case atStart=>exact⟨0,[],rfl,ZH _,HS⟩
 clear HS
 obtain⟨k,l,rfl,hk,HS⟩:=hrel
 by_cases ax:k<(bh c.features).length
 ·obtain⟨_,_,he,_,hcell⟩:=HS.out.r
  cases he
  obtain⟨gN,SX,rfl,hgN,Bc⟩:=hcell k ax
  obtain⟨s,hs⟩:∃ s,s=(bh c.features)[k]:=⟨_,rfl⟩
  rw[← hs]at Bc
  have Me:=Hd.mk (awm c.features hlen HS.out.a s (hs ▸ Zp ax))
  have Hs:=Hd.mk hs
  clear hs hcell
  go_wp2_with (go_at_call 38;refine Me.out.mono ?_;rintro e w5 ⟨v5,rfl,Qk,pP⟩;have kD:=Hd.mk (HS.out.below Qk);have Wg:Hd ((v5= .slice none 0 0∧∀ q,¬jj (deps c.features) s q)∨∃ q g5 sI,v5= .slice (some ⟨g5,0,none⟩) (q.length+1) sI∧q.length+1≤maxLen∧oW (deps c.features) s q∧kE w.heap.size w5 v5 (s::q)):=⟨by rcases pP with h|⟨q,h1,n,h2⟩;exact .inl h;have h3:=(kE.qe (by simp) h2).mono HS.out.k.size;rcases h3 with⟨h4,_⟩|⟨g5,sI,h5,h6,h7,h8⟩;cases h4;exact .inr ⟨q,g5,sI,h5,h7,h1,.inr ⟨g5,sI,h5,h6,h7,h8⟩⟩⟩;clear Me Qk pP Bc;rcases Wg.out with⟨rfl,ep⟩|⟨q,g5,sI,rfl,BC,hB,hq⟩<;>rcases kD.out.v with⟨rfl,rfl⟩|⟨gl,ayj,rfl,nc,oi,D5⟩)
  all_goals have hs:=Hs.out;subst hs
  ·go_roundw
   case rel=>exact⟨k+1,_,by go_num,ax,⟨kD.out.turn kD.out.v (kD.out.c.none ax ep)⟩⟩
   case measure=>simp[intOf];omega
  ·go_roundw
   case rel=>exact⟨k+1,_,by go_num,ax,⟨kD.out.turn kD.out.v (kD.out.c.none ax ep)⟩⟩
   case measure=>simp[intOf];omega
  ·go_roundw
   case rel=>exact⟨k+1,_,by go_num,ax,⟨kD.out.turn hq (kD.out.c.take ax hB (.inl rfl))⟩⟩
   case measure=>simp[intOf];omega
  ·go_roundw
   case rel=>exact⟨k+1,_,by go_num,ax,⟨kD.out.turn hq (kD.out.c.take ax hB (.inr (by omega)))⟩⟩
   case measure=>simp[intOf];omega
  ·go_roundw
   case rel=>exact⟨k+1,_,by go_num,ax,⟨kD.out.turn kD.out.v (kD.out.c.skip ax hB (by intro e;rw[e]at nc;simp at nc) (by omega))⟩⟩
   case measure=>simp[intOf];omega
 ·have I0:Hd (l=mP (deps c.features) (bh c.features)):=⟨by have h:=HS.out.c;rw[show k=(bh c.features).length by omega]at h;exact h.done (EN _)⟩
  go_wp2
  go_ret
  exact⟨_,rfl,I0.out ▸ HS.out.v.names,HS.out.k⟩
end Go.Proofs.YtcccbdelfhgmlaaGreatDoor
namespace Go.Proofs.YtcccbdelfhgmlaaGreatDoor
open Go.RowKit Go.Proofs Go.Tb Go.Maps
open Go.Sx (AV Mem RL R M0 Glob Store BlkOK Base)
theorem RL.Ni{M:Mem}{l:List AV}{cs:List Value}(h:RL M [.agg l] cs):∃ C:Array Value,cs.toArray= #[.agg C]∧RL M l C.toList:=by
 obtain⟨v,rfl,h1⟩:=Sx.RL.eg h
 obtain⟨cs',rfl,h2⟩:=h1.qd
 exact⟨cs'.toArray,rfl,by simpa using h2⟩
theorem RL.aaV{M:Mem}{l l':List AV}{cs:List Value}(h:RL M [.agg l,.agg l'] cs):∃ C C':Array Value,cs.toArray= #[.agg C,.agg C']∧RL M l C.toList∧RL M l' C'.toList:=by
 obtain⟨v,G6,rfl,h1,h2⟩:=h.bS
 obtain⟨v2,rfl,h3⟩:=Sx.RL.eg h2
 obtain⟨cs',rfl,h4⟩:=h1.qd
 obtain⟨cs3,rfl,h5⟩:=h3.qd
 exact⟨cs'.toArray,cs3.toArray,rfl,by simpa using h4,by simpa using h5⟩
theorem S1(c:di)(hF:uB c.features):Sx.Pure Tryz.prog 15 [.agg c.cells] (jU (oM (deps c.features) (bh c.features))):=Pure.new fun M w cs hI hR=>by
 obtain⟨C,e,hC⟩:=RL.Ni hR
 rw[e]
 exact(ag8 c hF hI hC).mono fun e w' ⟨v,h1,h2,h3⟩=>⟨⟨v,h1,B0 h2 (ZR _)⟩,h3⟩
theorem Hb(c:di)(hF:uB c.features):Sx.Pure Tryz.prog 16 [.agg c.cells] (jU (mP (deps c.features) (bh c.features))):=Pure.new fun M w cs hI hR=>by
 obtain⟨C,e,hC⟩:=RL.Ni hR
 rw[e]
 exact(acA c hF hI hC).mono fun e w' ⟨v,h1,h2,h3⟩=>⟨⟨v,h1,B0 h2 (ZR _)⟩,h3⟩
theorem Lm(c:di)(x:Ex)(hU:Aj c.features x):Sx.Pure Tryz.prog 9 [.agg c.cells,.agg x.cells] (.aT [jU (rS c.features x),jU (rT c.features x)]):=Pure.new fun M w cs hI hR=>by
 obtain⟨C,X,e,hC,hX⟩:=RL.aaV hR
 rw[e]
 exact(axD c x hU hI hC hX).mono fun e w' ⟨v1,v2,h1,h2,h3,h4⟩=>⟨⟨_,h1,R.EI (cs:=[v1,v2]) (RL.cons (B0 h2 (ZR _)) (RL.cons (B0 h3 (ZR _)) RL.nil))⟩,h4⟩
end Go.Proofs.YtcccbdelfhgmlaaGreatDoor
