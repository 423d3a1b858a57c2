/- catalog.Order, walked. -/
import Derived.Test.YtomhopcnkicknaaGreatDoorCk
import Derived.WalkMore
import Derived.Test.YtomhopcnkicknaaGreatDoorSet
import Derived.Test.YtomhopcnkicknaaGreatDoorNm
import Derived.Lib.SliceRun
import Derived.Test.YtomhopcnkicknaaGreatDoorCj
import Derived.Test.YtomhopcnkicknaaGreatDoorSxZ
set_option linter.unusedVariables false
set_option linter.unusedSimpArgs false
namespace Go.Proofs.YtomhopcnkicknaaGreatDoor
open _root_.Go.Proofs.Tryz
open Go.RowKit Go.Proofs Go.Tb Go.Maps
open Go.Sx (AV Mem RL R M0 Glob)
set_option maxHeartbeats 4000000 in
set_option maxRecDepth 1000000 in
theorem ahe(c:az)(hF:sr c.features){M:Mem}{w:World}(hI:Sx.Inv prog M ⟨w,M⟩ [] w){Cc:Array Value}(hC:RL M c.cells Cc.toList):
  Calls prog 26 #[.agg Cc] w fun e W'=>∃ v,e= .returned v∧names W' 9 w.heap.size v (nL (deps c.features) (aQ c.features))∧Below w.heap.size w W':=by
 have lC:Cc.size=4:=by have:=hC.1;simpa[az.cells]using this.symm
 have xN:Sx.en prog 25=some (true,Cc.toList.length):=by rw[Zi,lC];kernel_rfl
 clear lC
 have cP:Below w.heap.size w (w.alloc (.cells Cc 25)):=((aZ.refl w []).alloc _).below (ZR _) (by simp)
 have s7:=K3 c hF (sJ hI cP) hC
 rw[show(w.alloc (.cells Cc 25)).heap.size=w.heap.size+1 by simp]at s7
 have xD:=Hd.mk s7
 clear s7
 have HC:=Hd.mk (Dg (heap_alloc_new w (.cells Cc 25)))
 have Cg:= @run_makeMap prog
 have hlen:=hF.l
 have Ch:maxLen=9223372036854775807:=rfl
 obtain⟨i0,my,fX,cj,dt⟩:=info_parts Dv
 obtain⟨Rel,iR⟩:∃ Rel:Nat→Nat→Nat→Nat→Value→List ae→(ae→Nat)→Value→World→Prop,∀ n bA bd lo vN L F vl wr,Rel n bA bd lo vN L F vl wr↔∃ out,gK w c.features bA bd lo vN L F out wr vl∧n=(aQ c.features).length-out.length:=⟨_,fun _ _ _ _ _ _ _ _ _=>Iff.rfl⟩
 have la:=Hd.mk iR
 clear iR hI hC cP
 go_enter func26,ntmps26
 go_wp2
 go_step3
 go_wp2_with (first
  |(show wpList _ _ _ (⟨some 10,_,_,_,_,_⟩::_) _ _;refine pC rfl 25 (.tmp 1) rfl w.heap.size 0 rfl Cc HC.out xN ?_)
  |(go_at_call 56;refine xD.out.mono ?_;rintro e w2 ⟨L,Fm,rfl,hA,cx⟩;have HA:=Hd.mk (And.intro hA cx);clear xD HC hA cx)
  |(go_at_call 57;refine(Oi _ _).mono ?_;rintro e w3 ⟨rfl,rfl⟩)
  |(go_at_call 53;refine(QE HA.out.1.m (ZJ HA.out.1.len (by omega))).mono ?_;rintro e w4 ⟨vN,S,rfl,rk,rl,vB,ym⟩;have HS:=Hd.mk (gK.start rfl HA.out.1 HA.out.2 (HA.out.1.names rk rl ▸ vB) (sI ym));clear rk rl vB ym HA))
 obtain⟨wo,Cz⟩:∃ wo,wo=w4.alloc (.map #[] 0):=⟨_,rfl⟩
 rw[← Cz]at HS
 have mA:wo.heap.size=w4.heap.size+1:=by rw[Cz];simp
 have H0:Hd (∃ n,Rel n (w.heap.size+2) w4.heap.size (w4.heap.size+1) vN L Fm (.slice none 0 0) wo):=⟨⟨_,(la.out _ _ _ _ _ _ _ _ _).2 ⟨[],HS.out,rfl⟩⟩⟩
 rw[← Cz]
 obtain⟨aN,oj,rfl,Nd,_⟩:=HS.out.r
 have hN9:(aQ c.features).length≤274877906944:=ZJ (wu _) hlen
 clear Cz HS mA
 go_step3
 go_wp2
 go_loopw [2] (fun vl wr=>∃ n,Rel n (w.heap.size+2) w4.heap.size (w4.heap.size+1) (.slice aN (aQ c.features).length oj) L Fm vl wr) (fun vl wr=>mu fun n=>Rel n (w.heap.size+2) w4.heap.size (w4.heap.size+1) (.slice aN (aQ c.features).length oj) L Fm vl wr)
 case atStart=>exact H0.out
 obtain⟨Aw,GY⟩:∃ v:Value,v=u2:=⟨u2,rfl⟩
 subst GY
 obtain⟨out,hS,hn⟩:=(la.out _ _ _ _ _ _ _ _ _).1 (HQ hrel)
 have HL:Hd (∀ (C6:List ae) (v':Value) (w':World),gK w c.features (w.heap.size+2) w4.heap.size (w4.heap.size+1) (.slice aN (aQ c.features).length oj) L Fm C6 w' v'→(aQ c.features).length-C6.length<(aQ c.features).length-out.length→
   (∃ n,Rel n (w.heap.size+2) w4.heap.size (w4.heap.size+1) (.slice aN (aQ c.features).length oj) L Fm v' w')∧(mu fun n=>Rel n (w.heap.size+2) w4.heap.size (w4.heap.size+1) (.slice aN (aQ c.features).length oj) L Fm v' w')<mu fun n=>Rel n (w.heap.size+2) w4.heap.size (w4.heap.size+1) (.slice aN (aQ c.features).length oj) L Fm Aw wr):=⟨fun C6 v' w' h1 h2=>by
  have h4:=(la.out _ _ _ _ _ _ _ v' w').2 ⟨C6,h1,rfl⟩
  exact⟨⟨_,h4⟩,HK h4 (by rw[hn];exact h2)⟩⟩
 have HS:=Hd.mk hS
 obtain⟨Ay,rfl⟩:∃ Ay:World,Ay=wr:=⟨wr,rfl⟩
 clear hn hS hrel H0 la
 go_wp2
 go_loopw [2,18] (fun vl i wr=>∃ k:Nat,i= .int .i64 k∧k≤(aQ c.features).length∧vl=Aw∧Hd (gK w c.features (w.heap.size+2) w4.heap.size (w4.heap.size+1) (.slice aN (aQ c.features).length oj) L Fm out wr Aw)∧Hd (∀ j (hj:j<(aQ c.features).length),j<k→ready (deps c.features) out (aQ c.features)[j]=false)) (fun _ i _=>(aQ c.features).length-(intOf i).toNat)
 case atStart=>exact⟨0,rfl,Z1 _,rfl,HS,⟨fun j hj h=>absurd h (by omega)⟩⟩
 clear HS
 obtain⟨k,rfl,hk,rfl,HS,HP⟩:=hrel
 by_cases ax:k<(aQ c.features).length
 ·obtain⟨_,_,he,_,hcell⟩:=HS.out.r
  cases he
  obtain⟨gN,Pl,rfl,hgN,yv⟩:=hcell k ax
  obtain⟨s,hs⟩:∃ s,s=(aQ c.features)[k]:=⟨_,rfl⟩
  rw[← hs]at yv
  have kO:s∈L:=(HS.out.a.l s).2 (oX.1 (hs ▸ Zf ax))
  have iw:s.size≤maxLen:=HS.out.a.m.2.1 s kO
  obtain⟨D,hD,yh⟩:=HS.out.a.s s kO
  have HD:=Hd.mk hD
  have uJ:=Hd.mk yh
  have Hs:=Hd.mk hs
  clear hD yh hs hcell
  go_wp2_with (first
   |(at_lookup;refine si _ rfl _ _ 86 rfl underlying9 underlying4 underlying86 (zeroValue4 _) w4.heap.size out rfl HS.out.d s rfl iw ?_)
   |(at_lookup;refine xg _ rfl _ _ 94 rfl underlying9 underlying94 (zeroValue86 _) (w.heap.size+2) L Fm rfl HS.out.a.m s rfl iw ?_;rw[Z3 kO])
   |(at_range;refine Jp _ rfl _ 86 rfl underlying9 4 underlying86 (plainElem prog 4) (Fm s) D (fun _=>tt) rfl HD.out ?_;intro w6 xV oL nh y7))
  have H3:=Hd.mk (pw.start HS.out oL nh)
  clear oL nh y7 yv
  obtain⟨uy,rfl⟩:∃ uy:World,uy=wr:=⟨wr,rfl⟩
  obtain⟨b0,fT⟩:∃ b0:Bool,b0= !decide (s∈out):=⟨_,rfl⟩
  rw[← fT]at H3
  try simp only[← fT]
  clear fT
  go_frame
  go_loopw [8] (fun v wr=>∃ (left:ae→Prop) (aY:Nat) (b:Bool),v= .bool b∧Hd (pw w c.features (w.heap.size+2) w4.heap.size (w4.heap.size+1) (.slice (some ⟨gN,Pl,none⟩) (aQ c.features).length oj) L Fm out s D uy.heap.size left aY b wr u2)) (fun _ wr=>wr.rangeLeft (Fm s) uy.heap.size)
  case atStart=>exact⟨_,xV,b0,rfl,H3⟩
  obtain⟨left,aY,b,rfl,HR⟩:=hrel
  clear H3
  go_wp2_with (first
   |(at_next;refine Jo _ rfl (.tmp 29) rfl underlying9 (plainElem prog 4) (fun _=> .bool true) (Fm s) uy.heap.size D (fun _=>tt) (fun s _ v ps h=>Bf underlying4 h) left aY rfl HR.out.q ?_ ?_))
  ·intro hd
   have hb:=Hd.mk (HR.out.done hd uJ.out)
   clear hd
   cases b
   ·go_wp2
    go_roundw
    case rel=>
     refine⟨k+1,by go_num,ax,rfl,⟨HR.out.o⟩,⟨fun j hj hjk=> ?_⟩⟩
     rcases Yv (Yp hjk)with h1|rfl
     ·exact HP.out j hj h1
     ·rw[← Hs.out];exact hb.out.symm
    case measure=>simp[intOf];omega
   ·have lH:Hd (j8 (deps c.features) (aQ c.features) out=some s):=⟨by rw[Hs.out];exact aha ax HP.out (by rw[← Hs.out];exact hb.out.symm)⟩
    have hol:out.length<(aQ c.features).length:=(HR.out.o.o.step lH.out).2
    go_wp2_with (first
     |(at_mapUpdate;refine Az _ rfl _ _ _ 86 rfl underlying9 underlying4 underlying86 w4.heap.size out rfl HR.out.o.d (by omega) s rfl iw rfl ?_;intro Jk y0 tu;have HM:=Hd.mk (HR.out.o.mid tu (.cells #[.string s] 9));have H2:=Hd.mk (And.intro y0 tu);clear y0 tu)
     |(at_builtin;refine R3 _ rfl (.tmp 43) (.tmp 45) 67 rfl 9 i0 (.string ⟨#[]⟩) underlying67 my fX cj dt rfl (w4.heap.size+1) HM.out.2 _ out rfl HM.out.1 Jk.heap.size s rfl ((lh (heap_alloc_new _ _)).trans rfl) (by omega) ?_;intro vn RU GZ F2))
    have HE:=HL.out _ vn RU (HR.out.o.put lH.out H2.out.1 H2.out.2 _ GZ F2) (by simp only[Z9,Zg];omega)
    go_roundw
    case rel=>exact HE.1
    case measure=>exact HE.2
  ·intro m w' eD Nh Cb lI ac0 eM nC vM
   have hms:m.size≤maxLen:=lI.2.1 m Nh
   have HN:=Hd.mk ((HR.out.next Nh lI eM).resolve_right fun h=>h Cb)
   have Sr:=Hd.mk (HR.out.o.iter HR.out.q.iter HR.out.r eM).d
   have AW:Hd (w'.rangeLeft (Fm s) uy.heap.size<wr.rangeLeft (Fm s) uy.heap.size):=⟨by rw[lI.left_eq,HR.out.q.left_eq];exact ac0⟩
   clear lI eM
   cases b
   ·go_wp2
    go_roundw
    case rel=>exact⟨_,eD,false,rfl,HN⟩
    case measure=>exact AW.out
   ·go_wp2_with (first
     |(show wpList _ _ _ (⟨some 38,_,_,_,_,some _⟩::_) _ _;refine aM7 rfl ?_;refine si _ rfl _ _ 86 rfl underlying9 underlying4 underlying86 (zeroValue4 _) w4.heap.size out rfl Sr.out m rfl hms ?_))
    go_roundw
    case rel=>exact⟨_,eD,decide (m∈out),rfl,by simpa using HN⟩
    case measure=>exact AW.out
 ·have nf:Hd (out=nL (deps c.features) (aQ c.features)):=⟨HS.out.o.done (ahb fun j hj=>HP.out j hj (by omega))⟩
  have lw:=HS.out.l1
  have lw2:=HS.out.l2
  go_wp2
  rw[Exit.noGoto_ret]
  go_ret
  exact⟨_,rfl,nf.out ▸ HS.out.v.mono (by omega),HS.out.k⟩
structure ej(base:Nat)(a:ae)(n:Nat)(P:List (List ae))(bj:List Value)(v:Value)(wr:World):Prop where
 r:wr.ownsRow base 67 1 v P.length bj
 l:bj.length=P.length
 p:∀ (i:Nat) (h1:i<bj.length) (h2:i<P.length),wr.ownsRow base 9 1 bj[i] n ((a::P[i]).map .string)
theorem zW{w:World}{base:Nat}{e:TypeId}{v:Value}{n:Nat}{xs:List Value}(h:w.ownsRow base e 1 v n xs){k:Nat}(hk:v.ownBlock=some k):∃ cur,w.heap[k]? =some (.cells cur e (0,0)):=by
 rcases h.2 with⟨rfl,_⟩|⟨g,cap,cur,rfl,hb,hg,_⟩
 ·simp[Value.ownBlock]at hk
 ·simp[Value.ownBlock]at hk;subst hk;exact⟨cur,hg⟩
theorem H8{w w':World}{base:Nat}{e:TypeId}{v:Value}{n:Nat}{xs:List Value}(h:w.ownsRow base e 1 v n xs)(hb:Below w.heap.size w w'):w'.ownsRow base e 1 v n xs:=by
 refine⟨h.1,?_⟩
 rcases h.2 with hn|⟨g,cap,cur,rfl,yt,tz,rest⟩
 ·exact .inl hn
 ·exact .inr ⟨g,cap,cur,rfl,yt,by rw[hb.block g (Z0.1 tz).1];exact tz,rest⟩
theorem ej.below{base:Nat}{a:ae}{n:Nat}{P:List (List ae)}{bj:List Value}{v:Value}{w w':World}(h:ej base a n P bj v w)(hb:Below w.heap.size w w'):ej base a n P bj v w':=
 ⟨H8 h.r hb,h.l,fun i h1 h2=>H8 (h.p i h1 h2) hb⟩
theorem C8{w:World}{base:Nat}{e:TypeId}{v:Value}{n:Nat}{xs:List Value}(h:w.ownsRow base e 1 v n xs){b:Nat}(hb:∀ cur,w.heap[b]?≠some (.cells cur e (0,0))):v.ownBlock≠some b:=fun e'=>by
 obtain⟨cur,hc⟩:=zW h e';exact hb cur hc
theorem ej.map{base:Nat}{a:ae}{n:Nat}{P:List (List ae)}{bj:List Value}{v:Value}{w w':World}{b:Nat}(h:ej base a n P bj v w)(hb:∃ es c,w.heap[b]? =some (.map es c))(hg:w.grownBy w' (some b)):ej base a n P bj v w':=
 ⟨h.r.kept hg (.inr (C8 h.r fun cur=>wy hb cur _ _)),h.l,fun i h1 h2=>(h.p i h1 h2).kept hg (.inr (C8 (h.p i h1 h2) fun cur=>wy hb cur _ _))⟩
theorem ej.other{base:Nat}{a:ae}{n:Nat}{P:List (List ae)}{bj:List Value}{v v':Value}{w w':World}{xs:List Value}{k oh:Nat}(h:ej base a n P bj v w)(h':w.ownsRow oh 67 1 v' k xs)(bB:∀ g,v'.ownBlock=some g→v.ownBlock≠some g)(hg:w.grownBy w' v'.ownBlock):ej base a n P bj v w':=by
 refine⟨h.r.kept hg ?_,h.l,fun i h1 h2=>(h.p i h1 h2).kept hg ?_⟩
 ·cases hb:v'.ownBlock with
  |none=>cases hv:v.ownBlock<;>simp
  |some g=>exact .inr (bB g hb)
 ·cases hb:v'.ownBlock with
  |none=>cases hv:bj[i].ownBlock<;>simp
  |some g=>
   obtain⟨cur,hc⟩:=zW h' hb
   refine .inr (C8 (h.p i h1 h2) fun ER e=> ?_)
   rw[hc]at e;cases e
theorem ej.push{base:Nat}{a:ae}{n:Nat}{P:List (List ae)}{bj:List Value}{v v' u:Value}{q:List ae}{w w':World}(h:ej base a n P bj v w)(hu:w.ownsRow base 9 1 u n ((a::q).map .string))(hg:w.grownBy w' v.ownBlock)(hr:w'.ownsRow base 67 1 v' (P.length+1) (bj++[u])):ej base a n (P++[q]) (bj++[u]) v' w':=by
 have key:∀ {x:Value} {n:Nat} {xs:List Value},w.ownsRow base 9 1 x n xs→w'.ownsRow base 9 1 x n xs:=fun {x n xs} hx=>by
  refine hx.kept hg ?_
  cases hb:v.ownBlock with
  |none=>cases hv:x.ownBlock<;>simp
  |some g=>
   obtain⟨cur,hc⟩:=zW h.r hb
   refine .inr (C8 hx fun ER e=> ?_)
   rw[hc]at e;cases e
 refine⟨by rw[Z9,Zg];exact hr,by simp[h.l],fun i h1 h2=> ?_⟩
 have hl:=h.l
 by_cases hi:i<P.length
 ·rw[Y4 hi,Y4 (by omega)]
  exact key (h.p i (by omega) hi)
 ·obtain rfl:i=P.length:=by simp at h2;omega
  rw[Y8 (by omega),Y8 (by omega)]
  simpa using key hu
theorem ej.nil(base:Nat)(a:ae)(n:Nat)(w:World):ej base a n [] [] (.slice none 0 0) w:=⟨World.ownsRow_nil _ _ _ _,rfl,fun i h=>absurd h (by simp)⟩
theorem ON:∀ (a:ae) (q:List ae),(a::q)[q.length]? =some (bh a q)
 |a,[]=>rfl
 |a,b::l=>by
  have:=ON b l
  rw[bh,← this];rfl
theorem ej.at{base:Nat}{a:ae}{n:Nat}{P:List (List ae)}{bj:List Value}{v:Value}{w:World}(h:ej base a (n+1) P bj v w){i:Nat}(hi:i<P.length)(hn:P[i].length=n):
  ∃ g cap g2 oi,v= .slice (some ⟨g,0,none⟩) P.length cap∧w.cell? ⟨g,i,none⟩=some (.slice (some ⟨g2,0,none⟩) (n+1) oi)∧w.cell? ⟨g2,n,none⟩=some (.string (bh a P[i]))∧w.ownsRow base 9 1 (.slice (some ⟨g2,0,none⟩) (n+1) oi) (n+1) ((a::P[i]).map .string)∧bj[i]? =some (.slice (some ⟨g2,0,none⟩) (n+1) oi):=by
 have hl:=h.l
 obtain⟨cur,F0⟩:∃ g,v.ownBlock=some g:=by
  rcases h.r.2 with⟨rfl,hz⟩|⟨g,cap,cur,rfl,_⟩
  ·omega
  ·exact⟨g,rfl⟩
 have hc:=h.r.cells F0 i bj[i] (ZX (by omega))
 have hp:=h.p i (by omega) hi
 rcases h.r.2 with⟨rfl,hz⟩|⟨g,cap,ER,rfl,_⟩
 ·omega
 simp only[Value.ownBlock,ZN]at F0
 subst F0
 rw[Addr.add_lit,Zl]at hc
 rcases hp.2 with⟨h1,h2⟩|⟨g2,oi,aNg,h1,_⟩
 ·omega
 have dj:=hp.cells (g:=g2) (by rw[h1];rfl) n (.string (bh a P[i])) (by
  have:=ON a P[i]
  rw[hn]at this
  rw[YK,this];rfl)
 rw[Addr.add_lit,Zl]at dj
 rw[h1]at hc hp
 exact⟨g,cap,g2,oi,rfl,hc,dj,hp,by rw[← h1];exact ZX (by omega)⟩
theorem ej.own{base:Nat}{a:ae}{n:Nat}{P:List (List ae)}{bj:List Value}{v u:Value}{w:World}(h:ej base a n P bj v w){i:Nat}(hu:bj[i]? =some u)(hi:i<P.length):w.ownsRow base 9 1 u n ((a::P[i]).map .string):=by
 obtain⟨h1,rfl⟩:=ZE.1 hu
 exact h.p i h1 hi
theorem C7{w:World}{base oh:Nat}{e:TypeId}{v:Value}{n:Nat}{xs:List Value}(h:w.ownsRow base e 1 v n xs)(hb:oh≤base):w.ownsRow oh e 1 v n xs:=by
 refine⟨h.1,?_⟩
 rcases h.2 with hn|⟨g,cap,cur,rfl,yt,rest⟩
 ·exact .inl hn
 ·exact .inr ⟨g,cap,cur,rfl,ZJ hb yt,rest⟩
theorem ej.mono{base oh:Nat}{a:ae}{n:Nat}{P:List (List ae)}{bj:List Value}{v:Value}{w:World}(h:ej base a n P bj v w)(hb:oh≤base):ej oh a n P bj v w:=⟨C7 h.r hb,h.l,fun i h1 h2=>C7 (h.p i h1 h2) hb⟩
structure iJ(w:World)(a:ae)(bs lv n:Nat)(P:List (List ae))(bj:List Value)(vp:Value)(Q:List (List ae))(cL:List Value)(S:List ae)(wr:World)(vl:Value):Prop where
 p:ej w.heap.size a (n+1) P bj vp wr
 q:ej lv a (n+2) Q cL vl wr
 s:bN wr bs S
 k:Below w.heap.size w wr
 d:∀ g,vp.ownBlock=some g→g<lv
 b:w.heap.size≤bs
 l:w.heap.size≤lv
 z:lv≤wr.heap.size
theorem iJ.below{w:World}{a:ae}{bs lv n:Nat}{P:List (List ae)}{bj:List Value}{vp:Value}{Q:List (List ae)}{cL:List Value}{S:List ae}{wr w':World}{vl:Value}(h:iJ w a bs lv n P bj vp Q cL S wr vl)(hb:Below wr.heap.size wr w'):iJ w a bs lv n P bj vp Q cL S w' vl:=
 ⟨h.p.below hb,h.q.below hb,qo h.s hb,h.k.trans (fR hb h.k.size),h.d,h.b,h.l,ZJ h.z hb.size⟩
theorem iJ.mark{w:World}{a:ae}{bs lv n:Nat}{P:List (List ae)}{bj:List Value}{vp:Value}{Q:List (List ae)}{cL:List Value}{S S':List ae}{wr w':World}{vl:Value}(h:iJ w a bs lv n P bj vp Q cL S wr vl)(hs:bN w' bs S')(hg:wr.grownBy w' (some bs)):iJ w a bs lv n P bj vp Q cL S' w' vl:=by
 have hb:=h.b
 exact⟨h.p.map h.s.isMap hg,h.q.map h.s.isMap hg,hs,h.k.trans ((aZ.j7 hg).below h.k.size (by simpa using hb)),h.d,h.b,h.l,ZJ h.z hg.size⟩
theorem iJ.push{w:World}{a:ae}{bs lv n:Nat}{P:List (List ae)}{bj:List Value}{vp:Value}{Q:List (List ae)}{cL:List Value}{S:List ae}{wr w':World}{vl kW u:Value}{q:List ae}(h:iJ w a bs lv n P bj vp Q cL S wr vl)(hu:wr.ownsRow lv 9 1 u (n+2) ((a::q).map .string))(hg:wr.grownBy w' vl.ownBlock)(hr:w'.ownsRow lv 67 1 kW (Q.length+1) (cL++[u])):
  iJ w a bs lv n P bj vp (Q++[q]) (cL++[u]) S w' kW:=by
 refine⟨h.p.other h.q.r (fun g hg e=>by have:=(h.q.r.lt g hg).1;have:=h.d g e;omega) hg,h.q.push hu hg hr,?_,?_,h.d,h.b,h.l,ZJ h.z hg.size⟩
 ·refine dh.kept h.s hg ?_
  cases hb:vl.ownBlock with
  |none=>simp
  |some g=>
   obtain⟨cur,hc⟩:=zW h.q.r hb
   simp only[ne_eq,ZN]
   rintro rfl
   exact wy h.s.isMap _ _ _ hc
 ·cases hb:vl.ownBlock with
  |none=>rw[hb]at hg;exact h.k.trans ((aZ.C4 hg []).below h.k.size (by simp))
  |some g=>
   rw[hb]at hg
   have:=(h.q.r.lt g hb).1
   have:=h.l
   exact h.k.trans ((aZ.j7 hg).below h.k.size (by simp;omega))
theorem iJ.level{w:World}{a:ae}{bs n:Nat}{P:List (List ae)}{bj:List Value}{vp:Value}{S:List ae}{wr:World}(h1:ej w.heap.size a (n+1) P bj vp wr)(h2:bN wr bs S)(h3:Below w.heap.size w wr)(hb:w.heap.size≤bs):iJ w a bs wr.heap.size n P bj vp [] [] S wr (.slice none 0 0):=
 ⟨h1,ej.nil _ _ _ _,h2,h3,fun g hg=>(h1.r.lt g hg).2,hb,h3.size,ZR _⟩
theorem ej.first(w:World)(a:ae):ej w.heap.size a (0+1) [[]] [.slice (some ⟨w.heap.size+1,0,none⟩) 1 1] (.slice (some ⟨w.heap.size+2,0,none⟩) 1 1) (((w.alloc (.map #[] 0)).alloc (.cells #[.string a] 9)).alloc (.cells #[.slice (some ⟨w.heap.size+1,0,none⟩) 1 1] 67))∧
  bN (((w.alloc (.map #[] 0)).alloc (.cells #[.string a] 9)).alloc (.cells #[.slice (some ⟨w.heap.size+1,0,none⟩) 1 1] 67)) w.heap.size []∧
  Below w.heap.size w (((w.alloc (.map #[] 0)).alloc (.cells #[.string a] 9)).alloc (.cells #[.slice (some ⟨w.heap.size+1,0,none⟩) 1 1] 67)):=by
 have e1:=heap_alloc_new (w.alloc (.map #[] 0)) (.cells #[.string a] 9)
 rw[show(w.alloc (.map #[] 0)).heap.size=w.heap.size+1 by simp]at e1
 have e2:=heap_alloc_new ((w.alloc (.map #[] 0)).alloc (.cells #[.string a] 9)) (.cells #[.slice (some ⟨w.heap.size+1,0,none⟩) 1 1] 67)
 rw[show((w.alloc (.map #[] 0)).alloc (.cells #[.string a] 9)).heap.size=w.heap.size+2 by simp]at e2
 have e1':=(heap_alloc_old ((w.alloc (.map #[] 0)).alloc (.cells #[.string a] 9)) (.cells #[.slice (some ⟨w.heap.size+1,0,none⟩) 1 1] 67) (Z0.1 e1).1).trans e1
 refine⟨⟨⟨rfl,.inr ⟨w.heap.size+2,1,_,rfl,by omega,e2,by simp,by decide,by simp,by simp⟩⟩,rfl,fun i h1 h2=> ?_⟩,((ui w _ _ _).alloc _).alloc _,((((aZ.refl w []).alloc _).alloc _).alloc _).below (ZR _) (by simp)⟩
 obtain rfl:i=0:=by simpa using h1
 exact⟨rfl,.inr ⟨w.heap.size+1,1,_,rfl,by omega,e1',by simp,by decide,by simp,by simp⟩⟩
theorem agG{w w':World}{e:TypeId}{lo:Nat}{v:Value}{L:List ae}(h:names w e lo v L)(hk:∀ (g:Nat) (cur:Array Value),w.heap[g]? =some (Obj.cells cur e (0,0))→w'.heap[g]? =w.heap[g]?):names w' e lo v L:=by
 obtain⟨a,cap,rfl,h1,h2,h3⟩:=h
 exact⟨a,cap,rfl,h1,h2,fun hc=>by obtain⟨g,off,cur,g1,g2,g3,g4⟩:=h3 hc;exact⟨g,off,cur,g1,g2,(hk g _ g3).trans g3,g4⟩⟩
theorem agH{w w':World}{lo base n:Nat}{v vl:Value}{L:List ae}{xs:List Value}(h:names w 9 lo v L)(hq:w.ownsRow base 67 1 vl n xs)(hg:w.grownBy w' vl.ownBlock):names w' 9 lo v L:=by
 refine agG h fun g cur hc=>hg.block g (Z0.1 hc).1 fun e=> ?_
 obtain⟨ER,gi⟩:=zW hq e.symm
 rw[hc]at gi;cases gi
theorem Db{fs:List aj}:∀ {a:ae} {q:List ae},a∈aQ fs→c6 (deps fs) a q→bh a q∈aQ fs
 |_,[],h,_=>h
 |a,b::l,_,h=>Db (a:=b) (q:=l) (vf h.1) h.2
theorem iI.QM{fs:List aj}{a:ae}{k:Nat}{P:List (List ae)}{S:List ae}(ha:a∈aQ fs)(h:iI (deps fs) a k P S):S.length≤(aQ fs).length:=gn h.d fun x hx=>by
 obtain⟨q,h1,h2,_⟩:=h.r x hx
 rw[← h2];exact Db ha h1
theorem Xa{w W:World}{a:ae}{bs lv n:Nat}{P:List (List ae)}{bj:List Value}{vp:Value}{Q:List (List ae)}{cL:List Value}{S:List ae}{vl:Value}{g2 oi:Nat}{q:List ae}(h:iJ w a bs lv n P bj vp Q cL S W vl)(hn:n≤274877906944)
  (hq:W.ownsRow w.heap.size 9 1 (.slice (some ⟨g2,0,none⟩) (n+1) oi) (n+1) ((a::q).map .string)):Calls prog 88 #[.slice (some ⟨g2,0,none⟩) (n+1) oi] W fun e W'=>∃ v,e= .returned v∧W'.ownsRow W.heap.size 9 1 v (n+1) ((a::q).map .string)∧Below W.heap.size W W':=by
 have hl:=hq.1
 rw[Z7,YO]at hl
 refine(Tryz.slices_Clone_string g2 0 (n+1) oi (a::q) W (by omega) (by omega) (fun j hj=> ?_)).mono fun e W' ⟨v,h1,h2,_,h4⟩=>⟨v,h1,?_,h4⟩
 ·have:=hq.cells (g:=g2) rfl j (.string ((a::q).getD j ByteArray.empty)) (by rw[YK,ZY,ZX hj];rfl)
  rw[Addr.add_lit]at this
  simpa using this
 ·rw[ZU (by omega)]at h2;exact h2
structure L2(fs:List aj)(w:World)(a:ae)(bs lv k:Nat)(P:List (List ae))(bj:List Value)(vp:Value)(S:List ae)(i:Nat)(cL:List Value)(t:List (List ae)×List ae)(wr:World)(vl:Value):Prop where
 s:iJ w a bs lv k P bj vp t.1 cL t.2 wr vl
 e:t=iQ (deps fs) a (P.take i) ([],S)
 b:t.1.length≤t.2.length
 n:∀ x∈t.2,x∈aQ fs
 no:∀ j (hj:j<P.length),j<i→a∉deps fs (bh a P[j])
structure L3(fs:List aj)(w:World)(a:ae)(bs lv k:Nat)(P:List (List ae))(bj:List Value)(vp:Value)(p:List ae)(t0:List (List ae)×List ae)(v40:Value)(j:Nat)(cL:List Value)(t:List (List ae)×List ae)(wr:World)(vl:Value):Prop where
 s:iJ w a bs lv k P bj vp t.1 cL t.2 wr vl
 e:t=ext1 p ((deps fs (bh a p)).take j) t0
 b:t.1.length≤t.2.length
 n:∀ x∈t.2,x∈aQ fs
 v:names wr 9 0 v40 (deps fs (bh a p))
theorem L3.seen{fs:List aj}{w:World}{a:ae}{bs lv k:Nat}{P:List (List ae)}{bj:List Value}{vp:Value}{p:List ae}{t0:List (List ae)×List ae}{v40:Value}{j:Nat}{cL:List Value}{t:List (List ae)×List ae}{wr:World}{vl:Value}(h:L3 fs w a bs lv k P bj vp p t0 v40 j cL t wr vl)(hj:j<(deps fs (bh a p)).length)(dq:(deps fs (bh a p))[j]∈t.2):L3 fs w a bs lv k P bj vp p t0 v40 (j+1) cL t wr vl:=by
 refine⟨h.s,?_,h.b,h.n,h.v⟩
 rw[ZV hj,E4,← h.e,Z3 dq]
theorem L3.len{fs:List aj}{w:World}{a:ae}{bs lv k:Nat}{P:List (List ae)}{bj:List Value}{vp:Value}{p:List ae}{t0:List (List ae)×List ae}{v40:Value}{j:Nat}{cL:List Value}{t:List (List ae)×List ae}{wr:World}{vl:Value}(h:L3 fs w a bs lv k P bj vp p t0 v40 j cL t wr vl):t.1.length≤(aQ fs).length∧t.2.length≤(aQ fs).length:=by
 have h1:=gn h.s.s.1 h.n
 have h2:=h.b
 omega
theorem L3.push{fs:List aj}{w:World}{a:ae}{bs lv k:Nat}{P:List (List ae)}{bj:List Value}{vp:Value}{p:List ae}{t0:List (List ae)×List ae}{v40:Value}{j:Nat}{cL:List Value}{t:List (List ae)×List ae}{wr w1 w4:World}{vl kW u:Value}(h:L3 fs w a bs lv k P bj vp p t0 v40 j cL t wr vl)(hj:j<(deps fs (bh a p)).length)(dq:(deps fs (bh a p))[j]∉t.2)
  (hs:iJ w a bs lv k P bj vp t.1 cL (ins t.2 (deps fs (bh a p))[j]) w1 vl) (hv:names w1 9 0 v40 (deps fs (bh a p))) (hu:w1.ownsRow lv 9 1 u (k+2) ((a::(p++[(deps fs (bh a p))[j]])).map .string)) (hg:w1.grownBy w4 vl.ownBlock) (hr:w4.ownsRow lv 67 1 kW (t.1.length+1) (cL++[u])):
  L3 fs w a bs lv k P bj vp p t0 v40 (j+1) (cL++[u]) (t.1++[p++[(deps fs (bh a p))[j]]],t.2++[(deps fs (bh a p))[j]]) w4 kW:=by
 have e:ins t.2 (deps fs (bh a p))[j]=t.2++[(deps fs (bh a p))[j]]:=by unfold ins;rw[Z6 dq]
 rw[e]at hs
 refine⟨hs.push hu hg hr,?_,?_,fun x hx=> ?_,agH hv hs.q.r hg⟩
 ·rw[ZV hj,E4,← h.e,Z6 dq]
 ·have:=h.b;simp only[Z9,Zg];omega
 ·rcases ZI.1 hx with hx|hx
  ·exact h.n x hx
  ·rw[Zq]at hx;subst hx;exact vf (Zf hj)
theorem L3.done{fs:List aj}{w:World}{a:ae}{bs lv k:Nat}{P:List (List ae)}{bj:List Value}{vp:Value}{S:List ae}{i:Nat}{aMI:List Value}{t0:List (List ae)×List ae}{wr0:World}{Aw:Value}{v40:Value}{j:Nat}{cL:List Value}{t:List (List ae)×List ae}{wr:World}{vl:Value}(hi:i<P.length)(h0:L2 fs w a bs lv k P bj vp S i aMI t0 wr0 Aw)
  (h:L3 fs w a bs lv k P bj vp P[i] t0 v40 j cL t wr vl) (hj:(deps fs (bh a P[i])).length≤j) (nu:a∉deps fs (bh a P[i])):L2 fs w a bs lv k P bj vp S (i+1) cL t wr vl:=by
 refine⟨h.s,?_,h.b,h.n,fun x hx vW=> ?_⟩
 ·rw[h.e,ZU hj,ZV hi,E5,← h0.e]
 ·rcases Yv (Yp vW)with h1|rfl
  ·exact h0.no x hx h1
  ·exact nu
theorem ahk{w:World}{base:Nat}{e:TypeId}{v:Value}{n:Nat}{xs:List Value}(h:w.ownsRow base e 1 v n xs):∀ u∈[v],u.oneCell'=true:=fun u hu=>by
 rw[Zq]at hu;subst hu
 rcases h.2 with⟨rfl,_⟩|⟨g,cap,cur,rfl,_⟩<;>rfl
theorem Pw{w:World}{base:Nat}{e:TypeId}{v:Value}{n:Nat}{xs:List Value}(h:w.ownsRow base e 1 v n xs)(hn:0<n):∃ g cap,v= .slice (some ⟨g,0,none⟩) n cap:=by
 rcases h.2 with⟨_,h1⟩|⟨g,cap,cur,h1,_⟩
 ·omega
 ·exact⟨g,cap,h1⟩
theorem aLQ(s:ae):∀ u∈[Value.string s],u.oneCell'=true:=fun u hu=>by rw[Zq]at hu;subst hu;rfl
theorem KP(w:World)(v:Value)(t:TypeId):∀ j u,[v][j]? =some u→(w.alloc (.cells #[v] t)).cell? ((⟨w.heap.size,0,none⟩:Addr).add j)=some u:=fun j u hj=>by
 match j,hj with
 |0,hj=>
  simp only[List.getElem?_cons_zero,ZN]at hj
  subst hj
  rw[Addr.add_lit,lh (heap_alloc_new _ _)];rfl
theorem Mh{w w':World}{base:Nat}{e:TypeId}{v:Value}{n:Nat}{xs:List Value}(h:w.ownsRow base e 1 v n xs)(hg:w.grownBy w' v.ownBlock)(hb:base≤w.heap.size):Below base w w':=
 ⟨hg.os,hg.tape,hg.output,hg.size,fun k hk=>hg.block k (by omega) fun e'=>by have:=(h.lt k e'.symm).1;omega⟩
theorem L2.start{fs:List aj}{w:World}{a:ae}{k:Nat}{P:List (List ae)}{bj:List Value}{vp:Value}{S:List ae}{wr:World}(ha:a∈aQ fs)(h1:ej w.heap.size a (k+1) P bj vp wr)(h2:bN wr w.heap.size S)(h3:Below w.heap.size w wr)(h4:iI (deps fs) a k P S):L2 fs w a w.heap.size wr.heap.size k P bj vp S 0 [] ([],S) wr (.slice none 0 0):=
 ⟨iJ.level h1 h2 h3 (ZR _),rfl,Z1 _,fun x hx=>by obtain⟨q,h5,h6,_⟩:=h4.r x hx;rw[← h6];exact Db ha h5,fun j _ h=>absurd h (by omega)⟩
theorem L3.start{fs:List aj}{w:World}{a:ae}{bs lv k:Nat}{P:List (List ae)}{bj:List Value}{vp:Value}{S:List ae}{i:Nat}{cL:List Value}{t:List (List ae)×List ae}{wr w5:World}{vl:Value}{p:List ae}{v40:Value}{l0:Nat}(h:L2 fs w a bs lv k P bj vp S i cL t wr vl)(hb:Below wr.heap.size wr w5)(hv:names w5 9 l0 v40 (deps fs (bh a p))):
  L3 fs w a bs lv k P bj vp p t v40 0 cL t w5 vl:=⟨h.s.below hb,rfl,h.b,h.n,hv.mono (Z1 _)⟩
theorem aLM{w:World}{a:ae}{bs lv n:Nat}{P:List (List ae)}{bj:List Value}{vp:Value}{Q:List (List ae)}{cL:List Value}{S:List ae}{w1 w2 w3:World}{vl v1:Value}{m:Nat}{xs:List Value}(s1:iJ w a bs lv n P bj vp Q cL S w1 vl)(cW:w2.ownsRow w1.heap.size 9 1 v1 m xs)(cx:Below w1.heap.size w1 w2){o1:Obj}(oE:(w2.alloc o1).grownBy w3 v1.ownBlock)(o2:Obj):
  (w3.alloc o2).ownsRow lv 67 1 vl Q.length cL∧lv≤(w3.alloc o2).heap.size:=by
 have l2:=cx.size
 have b3:Below w1.heap.size w2 (w2.alloc o1):=⟨rfl,rfl,rfl,by simp,fun k hk=>heap_alloc_old w2 o1 (by omega)⟩
 have b4:=Mh (cW.alloc o1) oE (by simp;omega)
 have l4:=b4.size
 have b5:Below w1.heap.size w3 (w3.alloc o2):=⟨rfl,rfl,rfl,by simp,fun k hk=>heap_alloc_old w3 o2 (by simp at l4;omega)⟩
 have s5:=s1.below (((cx.trans b3).trans b4).trans b5)
 exact⟨s5.q.r,s5.z⟩
theorem L3.step{fs:List aj}{w:World}{a:ae}{bs lv k:Nat}{P:List (List ae)}{bj:List Value}{vp:Value}{p:List ae}{t0:List (List ae)×List ae}{v40:Value}{j:Nat}{cL:List Value}{t:List (List ae)×List ae}{wr w1 w2 w3 w4:World}{vl kW v1 u:Value}(h:L3 fs w a bs lv k P bj vp p t0 v40 j cL t wr vl)(hj:j<(deps fs (bh a p)).length)(dq:(deps fs (bh a p))[j]∉t.2){o1 o2:Obj}
  (hs:bN w1 bs (ins t.2 (deps fs (bh a p))[j])) (eM:wr.grownBy w1 (some bs)) (cW:w2.ownsRow w1.heap.size 9 1 v1 (k+1) ((a::p).map .string)) (cx:Below w1.heap.size w1 w2)
  (jS:w3.ownsRow w1.heap.size 9 1 u (k+1+1) ((a::p).map .string++[.string (deps fs (bh a p))[j]])) (oE:(w2.alloc o1).grownBy w3 v1.ownBlock)
  (GC:w4.ownsRow lv 67 1 kW (t.1.length+1) (cL++[u])) (yE:(w3.alloc o2).grownBy w4 vl.ownBlock):
  L3 fs w a bs lv k P bj vp p t0 v40 (j+1) (cL++[u]) (t.1++[p++[(deps fs (bh a p))[j]]],t.2++[(deps fs (bh a p))[j]]) w4 kW:=by
 have s1:=h.s.mark hs eM
 have n1:=h.v.grown eM (wy h.s.s.isMap)
 have l2:=cx.size
 have b3:Below w1.heap.size w2 (w2.alloc o1):=⟨rfl,rfl,rfl,by simp,fun k hk=>heap_alloc_old w2 o1 (by omega)⟩
 have b4:=Mh (cW.alloc o1) oE (by simp;omega)
 have l4:=b4.size
 have b5:Below w1.heap.size w3 (w3.alloc o2):=⟨rfl,rfl,rfl,by simp,fun k hk=>heap_alloc_old w3 o2 (by simp at l4;omega)⟩
 have bb:=((cx.trans b3).trans b4).trans b5
 refine h.push hj dq (s1.below bb) (wx n1 bb) ?_ yE GC
 have:=C7 (jS.alloc o2) s1.z
 have e:(a::(p++[(deps fs (bh a p))[j]])).map Value.string=(a::p).map .string++[.string (deps fs (bh a p))[j]]:=by simp
 rw[e];exact this
theorem ahs:(prog.info? 67).map (fun i=>(i.zero,i.size,i.bytes))=some (some (.slice none 0 0),1,24):=by kernel_rfl
set_option maxHeartbeats 4000000 in
set_option maxRecDepth 1000000 in
theorem aLt(fs:List aj)(hlen:fs.length≤274877906944){w:World}{bA lo:Nat}{L:List ae}{Fm:ae→Nat}(hA:gJ w bA lo fs L Fm)(a:ae)(ha:a∈aQ fs):
  Calls prog 58 #[.map (some bA),.string a] w fun e W'=>∃ v,e= .returned v∧Below w.heap.size w W'∧((v= .slice none 0 0∧∀ q,¬fb (deps fs) a q)∨∃ q,me (deps fs) a q∧∃ n,W'.ownsRow w.heap.size 9 1 v n ((a::q).map .string)):=by
 have hN:=wu fs
 have Cg:= @run_makeMap prog
 have Ch:maxLen=9223372036854775807:=rfl
 have MF:a∈L:=(hA.l a).2 (oX.1 ha)
 have has:a.size≤maxLen:=hA.m.2.1 a MF
 obtain⟨i0,my,fX,cj,dt⟩:=info_parts Dv
 obtain⟨i1,ni,hy0,hy1,NQ⟩:=info_parts ahs
 obtain⟨Rel,iR⟩:∃ Rel:Nat→Value→World→Prop,∀ n v wr,Rel n v wr↔∃ k P bj S,ej w.heap.size a (k+1) P bj v wr∧bN wr w.heap.size S∧Below w.heap.size w wr∧iI (deps fs) a k P S∧k≤(aQ fs).length+1∧n=(aQ fs).length+1-k:=⟨_,fun _ _ _=>Iff.rfl⟩
 have H0:Hd (∃ n,Rel n (.slice (some ⟨w.heap.size+2,0,none⟩) 1 1) (((w.alloc (.map #[] 0)).alloc (.cells #[.string a] 9)).alloc (.cells #[.slice (some ⟨w.heap.size+1,0,none⟩) 1 1] 67))):=by
  obtain⟨h1,h2,h3⟩:=ej.first w a
  exact⟨⟨_,(iR _ _ _).2 ⟨0,_,_,_,h1,h2,h3,iI.start _ _,Z1 _,rfl⟩⟩⟩
 have la:=Hd.mk iR
 have HA:=Hd.mk hA
 have Ha:=Hd.mk ha
 clear iR hA ha MF
 go_enter func58,ntmps58
 go_wp2
 go_loopw [6] (fun v wr=>∃ n,Rel n v wr) (fun v wr=>mu fun n=>Rel n v wr)
 case atStart=>exact H0.out
 clear H0
 obtain⟨k,P,bj,S,hP,hS,hB,hI,hk,hn⟩:=(la.out _ _ _).1 (HQ hrel)
 obtain⟨wo,rfl⟩:∃ wo:World,wo=wr:=⟨wr,rfl⟩
 by_cases bB:P=[]
 ·subst bB
  rcases hP.r.2 with⟨rfl,_⟩|⟨g,cap,cur,rfl,_⟩
  all_goals
   have Sw:=Hd.mk hI.none
   clear hn hrel la hI hP
   go_wp2
   go_ret
   exact⟨_,rfl,hB,.inl ⟨rfl,Sw.out⟩⟩
 ·have hk9:k≤274877906944:=by have:=hI.z bB;have:=hI.QM Ha.out;omega
  have hPl:0<P.length:=Yl.2 bB
  obtain⟨gp,xT,rfl,hPm⟩:∃ gp xT,u6= .slice (some ⟨gp,0,none⟩) P.length xT∧P.length≤maxLen:=by
   rcases hP.r.2 with⟨_,h⟩|⟨g,cap,cur,h,_,_,h1,h2,_⟩
   ·omega
   ·exact⟨g,cap,h,by omega⟩
  have HL:Hd (∀ (P':List (List ae)) (Jd:List Value) (S':List ae) (v':Value) (w':World),ej w.heap.size a (k+1+1) P' Jd v' w'→bN w' w.heap.size S'→Below w.heap.size w w'→iI (deps fs) a (k+1) P' S'→(∃ n,Rel n v' w')∧(mu fun n=>Rel n v' w')<mu fun n=>Rel n (.slice (some ⟨gp,0,none⟩) P.length xT) wo):=⟨fun P' Jd S' v' w' h1 h2 h3 h4=>by
   have h5:k≤(aQ fs).length:=ZJ (hI.z bB) (hI.QM Ha.out)
   have h6:=(la.out _ v' w').2 ⟨k+1,P',Jd,S',h1,h2,h3,h4,by omega,rfl⟩
   exact⟨⟨_,h6⟩,HK h6 (by rw[hn];omega)⟩⟩
  have H2:=Hd.mk (L2.start Ha.out hP hS hB hI)
  have HI:=Hd.mk hI
  clear hn hrel la hP hS hB hI bB
  go_wp2
  go_loopw [7,22] (fun vl i wr=>∃ (i':Nat) (cL:List Value) (t:List (List ae)×List ae),i= .int .i64 i'∧i'≤P.length∧Hd (L2 fs w a w.heap.size wo.heap.size k P bj (.slice (some ⟨gp,0,none⟩) P.length xT) S i' cL t wr vl)) (fun _ i _=>P.length-(intOf i).toNat)
  case atStart=>exact⟨0,[],_,rfl,Z1 _,H2⟩
  clear H2
  obtain⟨i,cL,t,rfl,hi,HS⟩:=hrel
  by_cases ax:i<P.length
  ·obtain⟨_,_,g2,oi,he,cW,dj,ep,NL⟩:=HS.out.s.p.at ax (HI.out.p _ (Zf ax)).2
   cases he
   obtain⟨p,hp⟩:∃ p,p=P[i]:=⟨_,rfl⟩
   rw[← hp]at dj ep
   have Nq:c6 (deps fs) a p:=hp ▸ (HI.out.p _ (Zf ax)).1
   obtain⟨z,hz⟩:∃ z,z=bh a p:=⟨_,rfl⟩
   rw[← hz]at dj
   have CA:z∈L:=(HA.out.l z).2 (oX.1 (hz ▸ Db Ha.out Nq))
   have tP:z.size≤maxLen:=HA.out.m.2.1 z CA
   have Eg:=Hd.mk (HA.out.below HS.out.s.k)
   obtain⟨D,hD,yh⟩:=Eg.out.s z CA
   have HD:=Hd.mk hD
   have uJ:=Hd.mk yh
   have Hp:=Hd.mk hp
   have Hz:=Hd.mk hz
   have HO:=Hd.mk ep
   have Su:=Hd.mk NL
   clear NL hD yh hp hz ep Nq
   by_cases B6:a∈D
   ·have HB:=Hd.mk (HI.out.found (ZX ax) (by have:=(uJ.out a).1 B6;rw[Hz.out,Hp.out]at this;exact this) (fun j hj q hq=>by obtain⟨dK,rfl⟩:=ZE.1 hq;exact HS.out.no j dK hj))
    go_wp2_with (first
     |(at_lookup;refine xg _ rfl _ _ 94 rfl underlying9 underlying94 (zeroValue86 _) bA L Fm rfl Eg.out.m z rfl tP ?_;rw[Z3 CA])
     |(at_lookup;refine si _ rfl _ _ 86 rfl underlying9 underlying4 underlying86 (zeroValue4 _) (Fm z) D rfl HD.out a rfl has ?_;rw[Zd B6]))
    go_ret
    exact⟨_,rfl,HS.out.s.k,.inr ⟨p,by rw[Hp.out];exact HB.out,_,HO.out⟩⟩
   ·have nu:Hd (a∉deps fs (bh a P[i])):=⟨fun h=>B6 ((uJ.out a).2 (by rw[Hz.out,Hp.out];exact h))⟩
    have hDl:Hd (D.length≤4398046511104):=⟨by have:=gn HD.out.1 (b:=aQ fs) (fun m hm=>vf ((uJ.out m).1 hm));omega⟩
    go_wp2_with (first
     |(at_lookup;refine xg _ rfl _ _ 94 rfl underlying9 underlying94 (zeroValue86 _) bA L Fm rfl Eg.out.m z rfl tP ?_;rw[Z3 CA])
     |(at_lookup;refine si _ rfl _ _ 86 rfl underlying9 underlying4 underlying86 (zeroValue4 _) (Fm z) D rfl HD.out a rfl has ?_;rw[ZA B6])
     |(go_at_call 54;refine(Hk _ _).mono ?_;rintro e w6 ⟨rfl,rfl⟩)
     |(go_at_call 53;refine(Ds HD.out hDl.out).mono ?_;rintro e w5 ⟨v40,SK,rfl,jU,dL,GI,mA⟩;have acB:SK=deps fs (bh a p):=mH jU (Bp _ _) (fun x=>by rw[dL,uJ.out,Hz.out]);subst acB;have H3:=Hd.mk (L3.start HS.out (sI mA) GI);obtain⟨a40,WW,rfl⟩:=GI.shape;clear jU dL GI mA))
    have hdl:(deps fs (bh a p)).length≤274877906944:=by have:=gn (wR (Bp fs (bh a p))) (b:=aQ fs) (fun m hm=>vf hm);omega
    obtain⟨Ay,rfl⟩:∃ Ay:World,Ay=wr:=⟨wr,rfl⟩
    go_loopw [7,42] (fun vl i wr=>∃ (j:Nat) (DK:List Value) (t':List (List ae)×List ae),i= .int .i64 j∧j≤(deps fs (bh a p)).length∧Hd (L3 fs w a w.heap.size wo.heap.size k P bj (.slice (some ⟨gp,0,none⟩) P.length xT) p t (.slice a40 (deps fs (bh a p)).length WW) j DK t' wr vl)) (fun _ i _=>(deps fs (bh a p)).length-(intOf i).toNat)
    case atStart=>exact⟨0,cL,t,rfl,Z1 _,H3⟩
    clear H3 cW dj HO
    obtain⟨j,DK,t',rfl,hj,HR⟩:=hrel
    by_cases mz:j<(deps fs (bh a p)).length
    ·obtain⟨g40,aNv,WS,he,acK⟩:=HR.out.v.cell mz
     cases he
     obtain⟨s,hs⟩:∃ s,s=(deps fs (bh a p))[j]:=⟨_,rfl⟩
     rw[← hs]at acK
     have iw:s.size≤maxLen:=HA.out.m.2.1 s ((HA.out.l s).2 (oX.1 (hs ▸ vf (Zf mz))))
     have Hs:=Hd.mk hs
     clear hs
     obtain⟨l1,l2⟩:=HR.out.len
     by_cases dq:s∈t'.2
     ·go_wp2_with (at_lookup;refine si _ rfl _ _ 86 rfl underlying9 underlying4 underlying86 (zeroValue4 _) w.heap.size t'.2 rfl HR.out.s.s s rfl iw ?_;rw[Zd dq])
      go_roundw
      case rel=>exact⟨j+1,DK,t',by go_num,mz,⟨HR.out.seen mz (by rw[← Hs.out];exact dq)⟩⟩
      case measure=>simp[intOf];omega
     ·have Sv:Hd ((deps fs (bh a p))[j]∉t'.2):=⟨by rw[← Hs.out];exact dq⟩
      go_wp2_with (first
       |(at_lookup;refine si _ rfl _ _ 86 rfl underlying9 underlying4 underlying86 (zeroValue4 _) w.heap.size t'.2 rfl HR.out.s.s s rfl iw ?_;rw[ZA dq])
       |(at_mapUpdate;refine Az _ rfl _ _ _ 86 rfl underlying9 underlying4 underlying86 w.heap.size t'.2 rfl HR.out.s.s (by omega) s rfl iw rfl ?_;intro w1 GL eM;have Eh:=Hd.mk (HR.out.s.mark GL eM);have H1:=Hd.mk (And.intro GL eM);clear GL eM)
       |(go_at_call 88;refine(Xa (q:=p) Eh.out hk9 (by rw[Hp.out];exact Eh.out.p.own Su.out ax)).mono ?_;rintro e w2 ⟨v1,rfl,dr,cx⟩;have H2:=Hd.mk (And.intro dr cx);clear dr cx)
       |(at_builtin;refine wpList_append_own _ rfl (.tmp 54) (.tmp 56) 67 rfl w1.heap.size 9 i0 (.string ⟨#[]⟩) 1 16 underlying67 my fX cj dt rfl (by decide) v1 (k+1) _ rfl (H2.out.1.alloc _) ⟨w2.heap.size,0,none⟩ 1 1 [.string s] rfl rfl (KP _ _ _) (aLQ s) (by omega) (by omega) (by have:=H2.out.2.size;simp;omega) ?_;intro u3 w3 jS oE _;obtain⟨g5,qW,rfl⟩:=Pw jS (by omega);have H3:=Hd.mk (And.intro jS oE);have H4:=Hd.mk (aLM Eh.out H2.out.1 H2.out.2 oE (.cells #[.slice (some ⟨g5,0,none⟩) (k+1+1) qW] 67));clear jS oE)
       |(at_builtin;refine wpList_append_own _ rfl (.tmp 52) (.tmp 58) 128 rfl wo.heap.size 67 i1 (.slice none 0 0) 1 24 underlying128 ni hy0 hy1 NQ rfl (by decide) u7 t'.1.length DK rfl H4.out.1 ⟨w3.heap.size,0,none⟩ 1 1 [.slice (some ⟨g5,0,none⟩) (k+1+1) qW] rfl rfl (KP _ _ _) (ahk H3.out.1) (by omega) (by omega) H4.out.2 ?_;intro u4 w4 GC yE _))
      have HE:=HR.out.step mz Sv.out (by rw[← Hs.out];exact H1.out.1) H1.out.2 H2.out.1 H2.out.2 (by rw[← Hs.out];exact H3.out.1) H3.out.2 GC yE
      go_roundw
      case rel=>exact⟨j+1,_,_,by go_num,mz,⟨HE⟩⟩
      case measure=>simp[intOf];omega
    ·have HE:=Hd.mk (L3.done ax HS.out (by rw[← Hp.out];exact HR.out) (by rw[← Hp.out];omega) nu.out)
     go_wp2
     go_roundw
     case rel=>exact⟨i+1,_,_,by go_num,ax,HE⟩
     case measure=>simp[intOf];omega
  ·have Hn:Hd (∀ q∈P,a∉deps fs (bh a q)):=⟨fun q hq=>by obtain⟨j,hj,rfl⟩:=Zj hq;exact HS.out.no j hj (by omega)⟩
   have ht:t=iQ (deps fs) a P ([],S):=by rw[HS.out.e,ZU (by omega)]
   have HB:=Hd.mk (HI.out.next (fun n=>Bp fs n) Hn.out)
   have Ss:=Hd.mk (HS.out.s.q.mono HS.out.s.l)
   subst ht
   have HE:=Hd.mk (HL.out _ _ _ _ _ Ss.out HS.out.s.s HS.out.s.k HB.out)
   go_wp2
   go_roundw
   case rel=>exact HE.out.1
   case measure=>exact HE.out.2
def kr(base:Nat)(wr:World)(v:Value)(l:List ae):Prop:=(l=[]∧v= .slice none 0 0)∨∃ g cap,v= .slice (some ⟨g,0,none⟩) l.length cap∧0<l.length∧l.length≤maxLen∧wr.ownsRow base 9 1 v l.length (l.map .string)
theorem kr.below{base:Nat}{w w':World}{v:Value}{l:List ae}(h:kr base w v l)(hb:Below w.heap.size w w'):kr base w' v l:=by
 rcases h with h|⟨g,cap,h1,h2,h3,h4⟩
 ·exact .inl h
 ·exact .inr ⟨g,cap,h1,h2,h3,H8 h4 hb⟩
theorem kr.nJ{base n:Nat}{w:World}{v:Value}{l:List ae}(h0:0<l.length)(h:w.ownsRow base 9 1 v n (l.map .string)):kr base w v l:=by
 have h1:=h.1
 rw[Z7,YO]at h1
 subst h1
 obtain⟨g,cap,rfl⟩:=Pw h h0
 refine .inr ⟨g,cap,rfl,h0,?_,h⟩
 rcases h.2 with⟨h2,_⟩|⟨g',uY,cur,h2,_,_,h3,h4,_⟩
 ·cases h2
 ·omega
theorem kr.mono{base oh:Nat}{w:World}{v:Value}{l:List ae}(h:kr base w v l)(hb:oh≤base):kr oh w v l:=by
 rcases h with h|⟨g,cap,h1,h2,h3,h4⟩
 ·exact .inl h
 ·exact .inr ⟨g,cap,h1,h2,h3,C7 h4 hb⟩
theorem kr.names{base:Nat}{w:World}{v:Value}{l:List ae}(h:kr base w v l):names w 9 base v l:=by
 rcases h with⟨rfl,rfl⟩|⟨g,cap,_,_,_,h⟩
 ·exact⟨none,0,rfl,by simp,by simp,fun h=>absurd h (by omega)⟩
 ·exact names.Ph h
structure nZ(w:World)(fs:List aj)(bA lo:Nat)(vN:Value)(L:List ae)(F:ae→Nat)(k:Nat)(l:List ae)(wr:World)(vl:Value):Prop where
 v:kr w.heap.size wr vl l
 c:jb (deps fs) (aQ fs) k l
 a:gJ wr bA (w.heap.size+1) fs L F
 k:Below w.heap.size w wr
 r:px wr lo vN (aQ fs)
theorem nZ.below{w:World}{fs:List aj}{bA lo:Nat}{vN:Value}{L:List ae}{F:ae→Nat}{k:Nat}{l:List ae}{wr w':World}{vl:Value}(h:nZ w fs bA lo vN L F k l wr vl)(hb:Below wr.heap.size wr w'):nZ w fs bA lo vN L F k l w' vl:=
 ⟨h.v.below hb,h.c,h.a.below hb,h.k.trans (fR hb h.k.size),h.r.to (.below hb)⟩
theorem nZ.turn{w:World}{fs:List aj}{bA lo:Nat}{vN:Value}{L:List ae}{F:ae→Nat}{k k':Nat}{l l':List ae}{wr:World}{vl kW:Value}(h:nZ w fs bA lo vN L F k l wr vl)(hv:kr w.heap.size wr kW l')(hc:jb (deps fs) (aQ fs) k' l'):nZ w fs bA lo vN L F k' l' wr kW:=
 ⟨hv,hc,h.a,h.k,h.r⟩
theorem nZ.start{w w1 w2 w4:World}{fs:List aj}{bA:Nat}{o:Obj}{vN:Value}{L:List ae}{F:ae→Nat}{e:TypeId}{l0:Nat}(Cy:w1=w.alloc o)(ha:gJ w2 bA (w.heap.size+1) fs L F)(hb:Below (w.heap.size+1) w1 w2)(hn:names w4 e l0 vN (aQ fs))(h4:Below w2.heap.size w2 w4):
  nZ w fs bA w4.heap.size vN L F 0 [] w4 (.slice none 0 0):=by
 subst Cy
 have l1:=hb.size
 have fT:Below w.heap.size w w2:=sI hb
 simp at l1
 exact⟨.inl ⟨rfl,rfl⟩,jb.start _ _,ha.below h4,fT.trans (fR h4 (by omega)),px.Pg hn (ZR _)⟩
set_option maxHeartbeats 4000000 in
set_option maxRecDepth 1000000 in
theorem aag(c:az)(hF:sr c.features){M:Mem}{w:World}(hI:Sx.Inv prog M ⟨w,M⟩ [] w){Cc:Array Value}(hC:RL M c.cells Cc.toList):
  Calls prog 27 #[.agg Cc] w fun e W'=>∃ v,e= .returned v∧names W' 9 w.heap.size v (gM (deps c.features) (aQ c.features))∧Below w.heap.size w W':=by
 have lC:Cc.size=4:=by have:=hC.1;simpa[az.cells]using this.symm
 have xN:Sx.en prog 25=some (true,Cc.toList.length):=by rw[Zi,lC];kernel_rfl
 clear lC
 have cP:Below w.heap.size w (w.alloc (.cells Cc 25)):=((aZ.refl w []).alloc _).below (ZR _) (by simp)
 have s7:=K3 c hF (sJ hI cP) hC
 rw[show(w.alloc (.cells Cc 25)).heap.size=w.heap.size+1 by simp]at s7
 have xD:=Hd.mk s7
 clear s7
 have HC:=Hd.mk (Dg (heap_alloc_new w (.cells Cc 25)))
 have hlen:=hF.l
 have Ch:maxLen=9223372036854775807:=rfl
 have aNs:∀ (w:World) (a:Option Addr) (n k:Nat),(binOp .neq 67 (.slice a n k) (.slice none 0 0)).run prog w= .ok (.bool (!a.isNone)) w:=fun w a n k=>run_neq_slice_nil_any w _ _ a n k 0 0 underlying67
 have aNj:∀ (w:World) (a:Option Addr) (n k:Nat),(binOp .eql 67 (.slice a n k) (.slice none 0 0)).run prog w= .ok (.bool a.isNone) w:=fun w a n k=>Lib.run_eql_slice_nil w _ _ a n k 0 0 underlying67
 clear hI hC cP
 go_enter func27,ntmps27
 go_wp2_with (first
  |(show wpList _ _ _ (⟨some 7,_,_,_,_,_⟩::_) _ _;refine pC rfl 25 (.tmp 1) rfl w.heap.size 0 rfl Cc HC.out xN ?_)
  |(go_at_call 56;refine xD.out.mono ?_;rintro e w2 ⟨L,Fm,rfl,hA,cx⟩;have HA:=Hd.mk (And.intro hA cx);clear xD HC hA cx)
  |(go_at_call 57;refine(Oi _ _).mono ?_;rintro e w3 ⟨rfl,rfl⟩)
  |(go_at_call 53;refine(QE HA.out.1.m (ZJ HA.out.1.len (by omega))).mono ?_;rintro e w4 ⟨vN,S,rfl,rk,rl,vB,ym⟩;have HS:=Hd.mk (nZ.start rfl HA.out.1 HA.out.2 (HA.out.1.names rk rl ▸ vB) (sI ym));have hS5:=HA.out.1.names rk rl;subst hS5;obtain⟨aN,oj,rfl⟩:=vB.shape;clear rk rl vB ym HA))
 have hN9:(aQ c.features).length≤274877906944:=ZJ (wu _) hlen
 go_loopw [2,13] (fun vl i wr=>∃ (k:Nat) (l:List ae),i= .int .i64 k∧k≤(aQ c.features).length∧Hd (nZ w c.features (w.heap.size+2) w4.heap.size (.slice aN (aQ c.features).length oj) L Fm k l wr vl)) (fun _ i _=>(aQ c.features).length-(intOf i).toNat)
 case atStart=>exact⟨0,[],rfl,Z1 _,HS⟩
 clear HS
 obtain⟨k,l,rfl,hk,HS⟩:=hrel
 by_cases ax:k<(aQ c.features).length
 ·obtain⟨_,_,he,_,hcell⟩:=HS.out.r
  cases he
  obtain⟨gN,Pl,rfl,hgN,yv⟩:=hcell k ax
  obtain⟨s,hs⟩:∃ s,s=(aQ c.features)[k]:=⟨_,rfl⟩
  rw[← hs]at yv
  have JS:=Hd.mk (aLt c.features hlen HS.out.a s (hs ▸ Zf ax))
  have Hs:=Hd.mk hs
  clear hs hcell
  go_wp2_with (go_at_call 58;refine JS.out.mono ?_;rintro e w5 ⟨v5,rfl,BW,Nt⟩;have kq:=Hd.mk (HS.out.below BW);have St:Hd ((v5= .slice none 0 0∧∀ q,¬fb (deps c.features) s q)∨∃ q g5 qW,v5= .slice (some ⟨g5,0,none⟩) (q.length+1) qW∧q.length+1≤maxLen∧me (deps c.features) s q∧kr w.heap.size w5 v5 (s::q)):=⟨by rcases Nt with h|⟨q,h1,n,h2⟩;exact .inl h;have h3:=(kr.nJ (by simp) h2).mono HS.out.k.size;rcases h3 with⟨h4,_⟩|⟨g5,qW,h5,h6,h7,h8⟩;cases h4;exact .inr ⟨q,g5,qW,h5,h7,h1,.inr ⟨g5,qW,h5,h6,h7,h8⟩⟩⟩;clear JS BW Nt yv;rcases St.out with⟨rfl,nu⟩|⟨q,g5,qW,rfl,hq5,hB,hq⟩<;>rcases kq.out.v with⟨rfl,rfl⟩|⟨gl,aNf,rfl,oF,oG,hl3⟩)
  all_goals have hs:=Hs.out;subst hs
  ·go_roundw
   case rel=>exact⟨k+1,_,by go_num,ax,⟨kq.out.turn kq.out.v (kq.out.c.none ax nu)⟩⟩
   case measure=>simp[intOf];omega
  ·go_roundw
   case rel=>exact⟨k+1,_,by go_num,ax,⟨kq.out.turn kq.out.v (kq.out.c.none ax nu)⟩⟩
   case measure=>simp[intOf];omega
  ·go_roundw
   case rel=>exact⟨k+1,_,by go_num,ax,⟨kq.out.turn hq (kq.out.c.take ax hB (.inl rfl))⟩⟩
   case measure=>simp[intOf];omega
  ·go_roundw
   case rel=>exact⟨k+1,_,by go_num,ax,⟨kq.out.turn hq (kq.out.c.take ax hB (.inr (by omega)))⟩⟩
   case measure=>simp[intOf];omega
  ·go_roundw
   case rel=>exact⟨k+1,_,by go_num,ax,⟨kq.out.turn kq.out.v (kq.out.c.skip ax hB (by intro e;rw[e]at oF;simp at oF) (by omega))⟩⟩
   case measure=>simp[intOf];omega
 ·have nf:Hd (l=gM (deps c.features) (aQ c.features)):=⟨by have h:=HS.out.c;rw[show k=(aQ c.features).length by omega]at h;exact h.done (zR _)⟩
  go_wp2
  go_ret
  exact⟨_,rfl,nf.out ▸ HS.out.v.names,HS.out.k⟩
end Go.Proofs.YtomhopcnkicknaaGreatDoor
namespace Go.Proofs.YtomhopcnkicknaaGreatDoor
open _root_.Go.Proofs.Tryz
open Go.RowKit Go.Proofs Go.Tb Go.Maps
open Go.Sx (AV Mem RL R M0 Glob Store BlkOK Base Inv)
def lO(M:Mem)(n:Nat)(w':World):Mem:=fun b o=>if n≤b then w'.cell? ⟨b,o,none⟩else M b o
theorem Hx{M:Mem}{w0:Base}{w w':World}{σ:Store}(hI:Inv prog M w0 σ w):M.le (lO M w.heap.size w'):=fun b o v h=>by
 have:=World.block_lt_of_cell? _ _ (hI.cQ b o v h)
 unfold lO
 rw[Z6 (by simp at this;omega)];exact h
theorem N3{M:Mem}{w0:Base}{w w':World}{σ:Store}(hI:Inv prog M w0 σ w)(hb:Below w.heap.size w w'):Inv prog (lO M w.heap.size w') w0 σ w':=by
 have h1:=hI.after hb
 have hle:=Hx (w':=w') hI
 refine⟨h1.os,h1.tape,h1.output,h1.size,h1.old,fun b o v h=> ?_,fun e he=> ?_,h1.nd,fun g l hl=>(h1.gl g l hl).mono hle,h1.gw,fun b o v hv ax=>h1.bm b o v (by unfold lO at hv;rwa [Z6 (by have:=hI.size;omega)]at hv) ax⟩
 ·unfold lO at h
  split at h
  ·exact h
  ·exact h1.cQ b o v h
 ·obtain⟨g1,g2⟩:=h1.st e he
  refine⟨g1,?_⟩
  obtain⟨_,g3⟩:=hI.st e he
  have ax:e.2.1<w.heap.size:=by
   cases hx:e.2.2 with
   |cells l=>rw[hx]at g3;obtain⟨_,cs,t,a2,_⟩:=g3;exact(Z0.1 a2).1
   |tail u c=>rw[hx]at g3;obtain⟨_,cs,t,a2,_⟩:=g3;exact(Z0.1 a2).1
   |map es k=>rw[hx]at g3;obtain⟨_,l,a2,_⟩:=g3;exact(Z0.1 a2).1
  have hN:∀ o,lO M w.heap.size w' e.2.1 o=M e.2.1 o:=fun o=>by unfold lO;rw[Z6 (by omega)]
  cases hx:e.2.2 with
  |cells l=>rw[hx]at g2;obtain⟨a1,cs,t,a2,a3⟩:=g2;exact⟨fun o=>(hN o).trans (a1 o),cs,t,a2,a3.mono hle⟩
  |tail u c=>rw[hx]at g2;obtain⟨a1,cs,t,a2,a3⟩:=g2;exact⟨fun o ho=>(hN o).trans (a1 o ho),cs,t,a2,a3⟩
  |map es k=>rw[hx]at g2;obtain⟨a1,l,a2,a3,a4⟩:=g2;exact⟨fun o=>(hN o).trans (a1 o),l,a2,a3,a4.mono hle⟩
theorem vX{M:Mem}{w0:Base}{w:World}{σ:Store}(hI:Inv prog M w0 σ w):Inv prog M ⟨w,M⟩ [] w:=
 ⟨rfl,rfl,rfl,ZR _,fun _ _=>rfl,hI.cQ,fun e he=>(by cases he),XB,hI.gl,GW.bY hI.gw hI.size fun k cs t f h=>hI.old k (Z0.1 h).1,fun _ _ _ h _=>h⟩
theorem zS{M:Mem}{w':World}{n lo:Nat}{e:TypeId}{v:Value}{L:List ae}(h:names w' e lo v L)(hl:n≤lo):R (lO M n w') (.sl false 1 (L.map cq)) v:=by
 obtain⟨a,cap,rfl,h1,h2,h3⟩:=h
 by_cases hc:cap=0
 ·subst hc
  have:L=[]:=ZM (by omega)
  subst this
  exact .nil false 1 a (by simp)
 ·obtain⟨g,off,cur,rfl,g2,g3,g4,g5⟩:=h3 (by omega)
  have:=R.sl (M:=lO M n w') false 1 (L.map cq) g off cap (fun k=> .string (L.getD k ⟨#[]⟩)) (fun i hi=>by rw[ZF];rfl) (fun k hk=> ?_) (fun i hi j hj=> ?_) (by rw[Z7];exact h1) h2
  ·rw[Z7]at this;exact this
  ·have hk:k<L.length:=by simpa using hk
   unfold lO
   rw[Z3 (by omega),lh g3,g5 k hk,ZY,ZX hk];rfl
  ·have hi:i<L.length:=by simpa using hi
   simp only[ZF,cq,Z8,Z5]at hj ⊢
   obtain rfl:j=0:=by omega
   rw[ZY,YO,YN,ZX hi]
   exact .v _
theorem Pure.new{f:FuncId}{xs:List AV}{r:AV}(h:∀ (M:Mem) (w:World) (cs:List Value),Inv prog M ⟨w,M⟩ [] w→RL M xs cs→Calls prog f cs.toArray w fun e w'=>(∃ v,e= .returned v∧R (lO M w.heap.size w') r v)∧Below w.heap.size w w'):Sx.Pure prog f xs r:=
 ⟨fun σ M w0 w cs hI hR=>(h M w cs (vX hI) hR).mono fun e w' ⟨⟨v,he,hv⟩,hb⟩=>⟨lO M w.heap.size w',.ret r,σ,Hx hI,N3 hI hb,by subst he;exact hv,rfl,rfl⟩⟩
theorem RL.Ey{M:Mem}{l:List AV}{cs:List Value}(h:RL M [.agg l] cs):∃ C:Array Value,cs.toArray= #[.agg C]∧RL M l C.toList:=by
 obtain⟨v,rfl,h1⟩:=Sx.RL.eJ h
 obtain⟨cs',rfl,h2⟩:=h1.rL
 exact⟨cs'.toArray,rfl,by simpa using h2⟩
theorem RL.Wj{M:Mem}{l l':List AV}{cs:List Value}(h:RL M [.agg l,.agg l'] cs):∃ C C':Array Value,cs.toArray= #[.agg C,.agg C']∧RL M l C.toList∧RL M l' C'.toList:=by
 obtain⟨v,EP,rfl,h1,h2⟩:=h.bL
 obtain⟨v2,rfl,h3⟩:=Sx.RL.eJ h2
 obtain⟨cs',rfl,h4⟩:=h1.rL
 obtain⟨Xu,rfl,h5⟩:=h3.rL
 exact⟨cs'.toArray,Xu.toArray,rfl,by simpa using h4,by simpa using h5⟩
abbrev jA(l:List ae):AV:= .sl false 1 (l.map cq)
theorem Ps(c:az)(hF:sr c.features):Sx.Pure prog 26 [.agg c.cells] (jA (nL (deps c.features) (aQ c.features))):=Pure.new fun M w cs hI hR=>by
 obtain⟨C,e,hC⟩:=RL.Ey hR
 rw[e]
 exact(ahe c hF hI hC).mono fun e w' ⟨v,h1,h2,h3⟩=>⟨⟨v,h1,zS h2 (ZR _)⟩,h3⟩
theorem Bn(c:az)(hF:sr c.features):Sx.Pure prog 27 [.agg c.cells] (jA (gM (deps c.features) (aQ c.features))):=Pure.new fun M w cs hI hR=>by
 obtain⟨C,e,hC⟩:=RL.Ey hR
 rw[e]
 exact(aag c hF hI hC).mono fun e w' ⟨v,h1,h2,h3⟩=>⟨⟨v,h1,zS h2 (ZR _)⟩,h3⟩
theorem Rr(c:az)(x:Ex)(hU:xJ c.features x):Sx.Pure prog 24 [.agg c.cells,.agg x.cells] (.aE [jA (rY c.features x),jA (rZ c.features x)]):=Pure.new fun M w cs hI hR=>by
 obtain⟨C,X,e,hC,hX⟩:=RL.Wj hR
 rw[e]
 exact(aMD c x hU hI hC hX).mono fun e w' ⟨v1,v2,h1,h2,h3,h4⟩=>⟨⟨_,h1,R.CY (cs:=[v1,v2]) (RL.cons (zS h2 (ZR _)) (RL.cons (zS h3 (ZR _)) RL.nil))⟩,h4⟩
end Go.Proofs.YtomhopcnkicknaaGreatDoor
