/- catalog.Order, walked. -/
import Derived.Test.YtajimcniogfpcaaGreatDoorCk
import Derived.WalkMore
import Derived.Test.YtajimcniogfpcaaGreatDoorSet
import Derived.Test.YtajimcniogfpcaaGreatDoorNm
import Derived.Lib.SliceRun
import Derived.Test.YtajimcniogfpcaaGreatDoorCi
import Derived.Test.YtajimcniogfpcaaGreatDoorSxZ
set_option linter.unusedVariables false
set_option linter.unusedSimpArgs false
namespace Go.Proofs.YtajimcniogfpcaaGreatDoor
open _root_.Go.Proofs.Tryz
open Go.RowKit Go.Proofs Go.Tb Go.Maps
open Go.Sx (AV Mem RL R M0 Glob)
set_option maxHeartbeats 4000000 in
set_option maxRecDepth 1000000 in
theorem ain(c:az)(hF:q6 c.features){M:Mem}{w:World}(hI:Sx.Inv prog M ⟨w,M⟩ [] w){Cc:Array Value}(hC:RL M c.cells Cc.toList):
  Calls prog 10 #[.agg Cc] w fun e W'=>∃ v,e= .returned v∧names W' 9 w.heap.size v (kN (deps c.features) (aL c.features))∧Below w.heap.size w W':=by
 have lC:Cc.size=4:=by have:=hC.1;simpa[az.cells]using this.symm
 have Ii:Sx.gM prog 25=some (true,Cc.toList.length):=by rw[Zv,lC];kernel_rfl
 clear lC
 have mO:Below w.heap.size w (w.alloc (.cells Cc 25)):=((bB.refl w []).alloc _).below (ZM _) (by simp)
 have wV:=OL c hF (Bj hI mO) hC
 rw[show(w.alloc (.cells Cc 25)).heap.size=w.heap.size+1 by simp]at wV
 have AZ:=Hd.mk wV
 clear wV
 have HC:=Hd.mk (Uv (heap_alloc_new w (.cells Cc 25)))
 have Ks:= @run_makeMap prog
 have hlen:=hF.l
 have Ku:maxLen=9223372036854775807:=rfl
 obtain⟨i0,eB,ep,fy,fz⟩:=info_parts My
 obtain⟨Rel,mM⟩:∃ Rel:Nat→Nat→Nat→Nat→Value→List ae→(ae→Nat)→Value→World→Prop,∀ n bA bd lo vN L F vl wr,Rel n bA bd lo vN L F vl wr↔∃ out,ja w c.features bA bd lo vN L F out wr vl∧n=(aL c.features).length-out.length:=⟨_,fun _ _ _ _ _ _ _ _ _=>Iff.rfl⟩
 have rh:=Hd.mk mM
 clear mM hI hC mO
 go_enter func10,ntmps10
 go_wp2
 go_step3
 go_wp2_with (first
  |(show wpList _ _ _ (⟨some 10,_,_,_,_,_⟩::_) _ _;refine yR rfl 25 (.tmp 1) rfl w.heap.size 0 rfl Cc HC.out Ii ?_)
  |(go_at_call 33;refine AZ.out.mono ?_;rintro e w2 ⟨L,Fm,rfl,hA,dK⟩;have HA:=Hd.mk (And.intro hA dK);clear AZ HC hA dK)
  |(go_at_call 35;refine(Sw _ _).mono ?_;rintro e w3 ⟨rfl,rfl⟩)
  |(go_at_call 34;refine(UZ HA.out.1.m (ZG HA.out.1.len (by omega))).mono ?_;rintro e w4 ⟨vN,S,rfl,qh,uz,zA,BU⟩;have HS:=Hd.mk (ja.start rfl HA.out.1 HA.out.2 (HA.out.1.names qh uz ▸ zA) (Bh BU));clear qh uz zA BU HA))
 obtain⟨wo,E9⟩:∃ wo,wo=w4.alloc (.map #[] 0):=⟨_,rfl⟩
 rw[← E9]at HS
 have nV:wo.heap.size=w4.heap.size+1:=by rw[E9];simp
 have H0:Hd (∃ n,Rel n (w.heap.size+2) w4.heap.size (w4.heap.size+1) vN L Fm (.slice none 0 0) wo):=⟨⟨_,(rh.out _ _ _ _ _ _ _ _ _).2 ⟨[],HS.out,rfl⟩⟩⟩
 rw[← E9]
 obtain⟨aN,pW,rfl,hlN,_⟩:=HS.out.r
 have hN9:(aL c.features).length≤274877906944:=ZG (FD _) hlen
 clear E9 HS nV
 go_step3
 go_wp2
 go_loopw [2] (fun vl wr=>∃ n,Rel n (w.heap.size+2) w4.heap.size (w4.heap.size+1) (.slice aN (aL c.features).length pW) L Fm vl wr) (fun vl wr=>mu fun n=>Rel n (w.heap.size+2) w4.heap.size (w4.heap.size+1) (.slice aN (aL c.features).length pW) L Fm vl wr)
 case atStart=>exact H0.out
 obtain⟨Dv,KS⟩:∃ v:Value,v=u2:=⟨u2,rfl⟩
 subst KS
 obtain⟨out,hS,hn⟩:=(rh.out _ _ _ _ _ _ _ _ _).1 (S9 hrel)
 have HL:Hd (∀ (FP:List ae) (v':Value) (w':World),ja w c.features (w.heap.size+2) w4.heap.size (w4.heap.size+1) (.slice aN (aL c.features).length pW) L Fm FP w' v'→(aL c.features).length-FP.length<(aL c.features).length-out.length→
   (∃ n,Rel n (w.heap.size+2) w4.heap.size (w4.heap.size+1) (.slice aN (aL c.features).length pW) L Fm v' w')∧(mu fun n=>Rel n (w.heap.size+2) w4.heap.size (w4.heap.size+1) (.slice aN (aL c.features).length pW) L Fm v' w')<mu fun n=>Rel n (w.heap.size+2) w4.heap.size (w4.heap.size+1) (.slice aN (aL c.features).length pW) L Fm Dv wr):=⟨fun FP v' w' h1 h2=>by
  have h4:=(rh.out _ _ _ _ _ _ _ v' w').2 ⟨FP,h1,rfl⟩
  exact⟨⟨_,h4⟩,S8 h4 (by rw[hn];exact h2)⟩⟩
 have HS:=Hd.mk hS
 obtain⟨Dy,rfl⟩:∃ Dy:World,Dy=wr:=⟨wr,rfl⟩
 clear hn hS hrel H0 rh
 go_wp2
 go_loopw [2,18] (fun vl i wr=>∃ k:Nat,i= .int .i64 k∧k≤(aL c.features).length∧vl=Dv∧Hd (ja w c.features (w.heap.size+2) w4.heap.size (w4.heap.size+1) (.slice aN (aL c.features).length pW) L Fm out wr Dv)∧Hd (∀ j (hj:j<(aL c.features).length),j<k→ready (deps c.features) out (aL c.features)[j]=false)) (fun _ i _=>(aL c.features).length-(intOf i).toNat)
 case atStart=>exact⟨0,rfl,ZL _,rfl,HS,⟨fun j hj h=>absurd h (by omega)⟩⟩
 clear HS
 obtain⟨k,rfl,hk,rfl,HS,HP⟩:=hrel
 by_cases ar:k<(aL c.features).length
 ·obtain⟨_,_,he,_,hcell⟩:=HS.out.r
  cases he
  obtain⟨gN,Tw,rfl,hgN,B6⟩:=hcell k ar
  obtain⟨s,hs⟩:∃ s,s=(aL c.features)[k]:=⟨_,rfl⟩
  rw[← hs]at B6
  have ph:s∈L:=(HS.out.a.l s).2 (oj.1 (hs ▸ Zc ar))
  have lY:s.size≤maxLen:=HS.out.a.m.2.1 s ph
  obtain⟨D,hD,BP⟩:=HS.out.a.s s ph
  have HD:=Hd.mk hD
  have yC:=Hd.mk BP
  have Hs:=Hd.mk hs
  clear hD BP hs hcell
  go_wp2_with (first
   |(at_lookup;refine AU _ rfl _ _ 96 rfl underlying9 underlying4 underlying96 (zeroValue4 _) w4.heap.size out rfl HS.out.d s rfl lY ?_)
   |(at_lookup;refine AR _ rfl _ _ 90 rfl underlying9 underlying90 (zeroValue96 _) (w.heap.size+2) L Fm rfl HS.out.a.m s rfl lY ?_;rw[ZW ph])
   |(at_range;refine V9 _ rfl _ 96 rfl underlying9 4 underlying96 (plainElem prog 4) (Fm s) D (fun _=>tt) rfl HD.out ?_;intro w6 II xo xc KO))
  have H3:=Hd.mk (rj.start HS.out xo xc)
  clear xo xc KO B6
  obtain⟨yv,rfl⟩:∃ yv:World,yv=wr:=⟨wr,rfl⟩
  obtain⟨b0,o6⟩:∃ b0:Bool,b0= !decide (s∈out):=⟨_,rfl⟩
  rw[← o6]at H3
  try simp only[← o6]
  clear o6
  go_frame
  go_loopw [8] (fun v wr=>∃ (left:ae→Prop) (bu:Nat) (b:Bool),v= .bool b∧Hd (rj w c.features (w.heap.size+2) w4.heap.size (w4.heap.size+1) (.slice (some ⟨gN,Tw,none⟩) (aL c.features).length pW) L Fm out s D yv.heap.size left bu b wr u2)) (fun _ wr=>wr.rangeLeft (Fm s) yv.heap.size)
  case atStart=>exact⟨_,II,b0,rfl,H3⟩
  obtain⟨left,bu,b,rfl,HR⟩:=hrel
  clear H3
  go_wp2_with (first
   |(at_next;refine V8 _ rfl (.tmp 29) rfl underlying9 (plainElem prog 4) (fun _=> .bool true) (Fm s) yv.heap.size D (fun _=>tt) (fun s _ v ps h=>Is underlying4 h) left bu rfl HR.out.q ?_ ?_))
  ·intro hd
   have hb:=Hd.mk (HR.out.done hd yC.out)
   clear hd
   cases b
   ·go_wp2
    go_roundw
    case rel=>
     refine⟨k+1,by go_num,ar,rfl,⟨HR.out.o⟩,⟨fun j hj QI=> ?_⟩⟩
     rcases X8 (X4 QI)with h1|rfl
     ·exact HP.out j hj h1
     ·rw[← Hs.out];exact hb.out.symm
    case measure=>simp[intOf];omega
   ·have kJ:Hd (j6 (deps c.features) (aL c.features) out=some s):=⟨by rw[Hs.out];exact aia ar HP.out (by rw[← Hs.out];exact hb.out.symm)⟩
    have hol:out.length<(aL c.features).length:=(HR.out.o.o.step kJ.out).2
    go_wp2_with (first
     |(at_mapUpdate;refine G6 _ rfl _ _ _ 96 rfl underlying9 underlying4 underlying96 w4.heap.size out rfl HR.out.o.d (by omega) s rfl lY rfl ?_;intro w2' Q7 Kg;have HM:=Hd.mk (HR.out.o.mid Kg (.cells #[.string s] 9));have H2:=Hd.mk (And.intro Q7 Kg);clear Q7 Kg)
     |(at_builtin;refine alZ _ rfl (.tmp 43) (.tmp 45) 51 rfl 9 i0 (.string ⟨#[]⟩) underlying51 eB ep fy fz rfl (w4.heap.size+1) HM.out.2 _ out rfl HM.out.1 w2'.heap.size s rfl ((oO (heap_alloc_new _ _)).trans rfl) (by omega) ?_;intro vn w5' hvn hcw))
    have HE:=HL.out _ vn w5' (HR.out.o.put kJ.out H2.out.1 H2.out.2 _ hvn hcw) (by simp only[Z9,YZ];omega)
    go_roundw
    case rel=>exact HE.1
    case measure=>exact HE.2
  ·intro m w' fS QP Kr uN aeT gY E4 uG
   have hms:m.size≤maxLen:=uN.2.1 m QP
   have HN:=Hd.mk ((HR.out.next QP uN gY).resolve_right fun h=>h Kr)
   have Wu:=Hd.mk (HR.out.o.iter HR.out.q.iter HR.out.r gY).d
   have Nr:Hd (w'.rangeLeft (Fm s) yv.heap.size<wr.rangeLeft (Fm s) yv.heap.size):=⟨by rw[uN.left_eq,HR.out.q.left_eq];exact aeT⟩
   clear uN gY
   cases b
   ·go_wp2
    go_roundw
    case rel=>exact⟨_,fS,false,rfl,HN⟩
    case measure=>exact Nr.out
   ·go_wp2_with (first
     |(show wpList _ _ _ (⟨some 38,_,_,_,_,some _⟩::_) _ _;refine alY rfl ?_;refine AU _ rfl _ _ 96 rfl underlying9 underlying4 underlying96 (zeroValue4 _) w4.heap.size out rfl Wu.out m rfl hms ?_))
    go_roundw
    case rel=>exact⟨_,fS,decide (m∈out),rfl,by simpa using HN⟩
    case measure=>exact Nr.out
 ·have rP:Hd (out=kN (deps c.features) (aL c.features)):=⟨HS.out.o.done (aib fun j hj=>HP.out j hj (by omega))⟩
  have lw:=HS.out.l1
  have lw2:=HS.out.l2
  go_wp2
  rw[Exit.noGoto_ret]
  go_ret
  exact⟨_,rfl,rP.out ▸ HS.out.v.mono (by omega),HS.out.k⟩
structure eP(base:Nat)(a:ae)(n:Nat)(P:List (List ae))(br:List Value)(v:Value)(wr:World):Prop where
 r:wr.ownsRow base 51 1 v P.length br
 l:br.length=P.length
 p:∀ (i:Nat) (h1:i<br.length) (h2:i<P.length),wr.ownsRow base 9 1 br[i] n ((a::P[i]).map .string)
theorem CX{w:World}{base:Nat}{e:TypeId}{v:Value}{n:Nat}{xs:List Value}(h:w.ownsRow base e 1 v n xs){k:Nat}(hk:v.ownBlock=some k):∃ cur,w.heap[k]? =some (.cells cur e (0,0)):=by
 rcases h.2 with⟨rfl,_⟩|⟨g,cap,cur,rfl,hb,hg,_⟩
 ·simp[Value.ownBlock]at hk
 ·simp[Value.ownBlock]at hk;subst hk;exact⟨cur,hg⟩
theorem LN{w w':World}{base:Nat}{e:TypeId}{v:Value}{n:Nat}{xs:List Value}(h:w.ownsRow base e 1 v n xs)(hb:Below w.heap.size w w'):w'.ownsRow base e 1 v n xs:=by
 refine⟨h.1,?_⟩
 rcases h.2 with hn|⟨g,cap,cur,rfl,B4,xd,rest⟩
 ·exact .inl hn
 ·exact .inr ⟨g,cap,cur,rfl,B4,by rw[hb.block g (ZX.1 xd).1];exact xd,rest⟩
theorem eP.below{base:Nat}{a:ae}{n:Nat}{P:List (List ae)}{br:List Value}{v:Value}{w w':World}(h:eP base a n P br v w)(hb:Below w.heap.size w w'):eP base a n P br v w':=
 ⟨LN h.r hb,h.l,fun i h1 h2=>LN (h.p i h1 h2) hb⟩
theorem FT{w:World}{base:Nat}{e:TypeId}{v:Value}{n:Nat}{xs:List Value}(h:w.ownsRow base e 1 v n xs){b:Nat}(hb:∀ cur,w.heap[b]?≠some (.cells cur e (0,0))):v.ownBlock≠some b:=fun e'=>by
 obtain⟨cur,hc⟩:=CX h e';exact hb cur hc
theorem eP.map{base:Nat}{a:ae}{n:Nat}{P:List (List ae)}{br:List Value}{v:Value}{w w':World}{b:Nat}(h:eP base a n P br v w)(hb:∃ es c,w.heap[b]? =some (.map es c))(hg:w.grownBy w' (some b)):eP base a n P br v w':=
 ⟨h.r.kept hg (.inr (FT h.r fun cur=>Ae hb cur _ _)),h.l,fun i h1 h2=>(h.p i h1 h2).kept hg (.inr (FT (h.p i h1 h2) fun cur=>Ae hb cur _ _))⟩
theorem eP.other{base:Nat}{a:ae}{n:Nat}{P:List (List ae)}{br:List Value}{v v':Value}{w w':World}{xs:List Value}{k pT:Nat}(h:eP base a n P br v w)(h':w.ownsRow pT 51 1 v' k xs)(aH:∀ g,v'.ownBlock=some g→v.ownBlock≠some g)(hg:w.grownBy w' v'.ownBlock):eP base a n P br v w':=by
 refine⟨h.r.kept hg ?_,h.l,fun i h1 h2=>(h.p i h1 h2).kept hg ?_⟩
 ·cases hb:v'.ownBlock with
  |none=>cases hv:v.ownBlock<;>simp
  |some g=>exact .inr (aH g hb)
 ·cases hb:v'.ownBlock with
  |none=>cases hv:br[i].ownBlock<;>simp
  |some g=>
   obtain⟨cur,hc⟩:=CX h' hb
   refine .inr (FT (h.p i h1 h2) fun IK e=> ?_)
   rw[hc]at e;cases e
theorem eP.push{base:Nat}{a:ae}{n:Nat}{P:List (List ae)}{br:List Value}{v v' u:Value}{q:List ae}{w w':World}(h:eP base a n P br v w)(hu:w.ownsRow base 9 1 u n ((a::q).map .string))(hg:w.grownBy w' v.ownBlock)(hr:w'.ownsRow base 51 1 v' (P.length+1) (br++[u])):eP base a n (P++[q]) (br++[u]) v' w':=by
 have key:∀ {x:Value} {n:Nat} {xs:List Value},w.ownsRow base 9 1 x n xs→w'.ownsRow base 9 1 x n xs:=fun {x n xs} hx=>by
  refine hx.kept hg ?_
  cases hb:v.ownBlock with
  |none=>cases hv:x.ownBlock<;>simp
  |some g=>
   obtain⟨cur,hc⟩:=CX h.r hb
   refine .inr (FT hx fun IK e=> ?_)
   rw[hc]at e;cases e
 refine⟨by rw[Z9,YZ];exact hr,by simp[h.l],fun i h1 h2=> ?_⟩
 have hl:=h.l
 by_cases hi:i<P.length
 ·rw[Yj hi,Yj (by omega)]
  exact key (h.p i (by omega) hi)
 ·obtain rfl:i=P.length:=by simp at h2;omega
  rw[Yv (by omega),Yv (by omega)]
  simpa using key hu
theorem eP.nil(base:Nat)(a:ae)(n:Nat)(w:World):eP base a n [] [] (.slice none 0 0) w:=⟨World.ownsRow_nil _ _ _ _,rfl,fun i h=>absurd h (by simp)⟩
theorem SX:∀ (a:ae) (q:List ae),(a::q)[q.length]? =some (bn a q)
 |a,[]=>rfl
 |a,b::l=>by
  have:=SX b l
  rw[bn,← this];rfl
theorem eP.at{base:Nat}{a:ae}{n:Nat}{P:List (List ae)}{br:List Value}{v:Value}{w:World}(h:eP base a (n+1) P br v w){i:Nat}(hi:i<P.length)(hn:P[i].length=n):
  ∃ g cap g2 pV,v= .slice (some ⟨g,0,none⟩) P.length cap∧w.cell? ⟨g,i,none⟩=some (.slice (some ⟨g2,0,none⟩) (n+1) pV)∧w.cell? ⟨g2,n,none⟩=some (.string (bn a P[i]))∧w.ownsRow base 9 1 (.slice (some ⟨g2,0,none⟩) (n+1) pV) (n+1) ((a::P[i]).map .string)∧br[i]? =some (.slice (some ⟨g2,0,none⟩) (n+1) pV):=by
 have hl:=h.l
 obtain⟨cur,J5⟩:∃ g,v.ownBlock=some g:=by
  rcases h.r.2 with⟨rfl,hz⟩|⟨g,cap,cur,rfl,_⟩
  ·omega
  ·exact⟨g,rfl⟩
 have hc:=h.r.cells J5 i br[i] (ZY (by omega))
 have hp:=h.p i (by omega) hi
 rcases h.r.2 with⟨rfl,hz⟩|⟨g,cap,IK,rfl,_⟩
 ·omega
 simp only[Value.ownBlock,Z1]at J5
 subst J5
 rw[Addr.add_lit,ZA]at hc
 rcases hp.2 with⟨h1,h2⟩|⟨g2,pV,ana,h1,_⟩
 ·omega
 have c8:=hp.cells (g:=g2) (by rw[h1];rfl) n (.string (bn a P[i])) (by
  have:=SX a P[i]
  rw[hn]at this
  rw[Yq,this];rfl)
 rw[Addr.add_lit,ZA]at c8
 rw[h1]at hc hp
 exact⟨g,cap,g2,pV,rfl,hc,c8,hp,by rw[← h1];exact ZY (by omega)⟩
theorem eP.own{base:Nat}{a:ae}{n:Nat}{P:List (List ae)}{br:List Value}{v u:Value}{w:World}(h:eP base a n P br v w){i:Nat}(hu:br[i]? =some u)(hi:i<P.length):w.ownsRow base 9 1 u n ((a::P[i]).map .string):=by
 obtain⟨h1,rfl⟩:=ZK.1 hu
 exact h.p i h1 hi
theorem FR{w:World}{base pT:Nat}{e:TypeId}{v:Value}{n:Nat}{xs:List Value}(h:w.ownsRow base e 1 v n xs)(hb:pT≤base):w.ownsRow pT e 1 v n xs:=by
 refine⟨h.1,?_⟩
 rcases h.2 with hn|⟨g,cap,cur,rfl,B4,rest⟩
 ·exact .inl hn
 ·exact .inr ⟨g,cap,cur,rfl,ZG hb B4,rest⟩
theorem eP.mono{base pT:Nat}{a:ae}{n:Nat}{P:List (List ae)}{br:List Value}{v:Value}{w:World}(h:eP base a n P br v w)(hb:pT≤base):eP pT a n P br v w:=⟨FR h.r hb,h.l,fun i h1 h2=>FR (h.p i h1 h2) hb⟩
structure jN(w:World)(a:ae)(bs lv n:Nat)(P:List (List ae))(br:List Value)(vp:Value)(Q:List (List ae))(dh:List Value)(S:List ae)(wr:World)(vl:Value):Prop where
 p:eP w.heap.size a (n+1) P br vp wr
 q:eP lv a (n+2) Q dh vl wr
 s:cy wr bs S
 k:Below w.heap.size w wr
 d:∀ g,vp.ownBlock=some g→g<lv
 b:w.heap.size≤bs
 l:w.heap.size≤lv
 z:lv≤wr.heap.size
theorem jN.below{w:World}{a:ae}{bs lv n:Nat}{P:List (List ae)}{br:List Value}{vp:Value}{Q:List (List ae)}{dh:List Value}{S:List ae}{wr w':World}{vl:Value}(h:jN w a bs lv n P br vp Q dh S wr vl)(hb:Below wr.heap.size wr w'):jN w a bs lv n P br vp Q dh S w' vl:=
 ⟨h.p.below hb,h.q.below hb,C9 h.s hb,h.k.trans (tU hb h.k.size),h.d,h.b,h.l,ZG h.z hb.size⟩
theorem jN.mark{w:World}{a:ae}{bs lv n:Nat}{P:List (List ae)}{br:List Value}{vp:Value}{Q:List (List ae)}{dh:List Value}{S S':List ae}{wr w':World}{vl:Value}(h:jN w a bs lv n P br vp Q dh S wr vl)(hs:cy w' bs S')(hg:wr.grownBy w' (some bs)):jN w a bs lv n P br vp Q dh S' w' vl:=by
 have hb:=h.b
 exact⟨h.p.map h.s.isMap hg,h.q.map h.s.isMap hg,hs,h.k.trans ((bB.lq hg).below h.k.size (by simpa using hb)),h.d,h.b,h.l,ZG h.z hg.size⟩
theorem jN.push{w:World}{a:ae}{bs lv n:Nat}{P:List (List ae)}{br:List Value}{vp:Value}{Q:List (List ae)}{dh:List Value}{S:List ae}{wr w':World}{vl mC u:Value}{q:List ae}(h:jN w a bs lv n P br vp Q dh S wr vl)(hu:wr.ownsRow lv 9 1 u (n+2) ((a::q).map .string))(hg:wr.grownBy w' vl.ownBlock)(hr:w'.ownsRow lv 51 1 mC (Q.length+1) (dh++[u])):
  jN w a bs lv n P br vp (Q++[q]) (dh++[u]) S w' mC:=by
 refine⟨h.p.other h.q.r (fun g hg e=>by have:=(h.q.r.lt g hg).1;have:=h.d g e;omega) hg,h.q.push hu hg hr,?_,?_,h.d,h.b,h.l,ZG h.z hg.size⟩
 ·refine dC.kept h.s hg ?_
  cases hb:vl.ownBlock with
  |none=>simp
  |some g=>
   obtain⟨cur,hc⟩:=CX h.q.r hb
   simp only[ne_eq,Z1]
   rintro rfl
   exact Ae h.s.isMap _ _ _ hc
 ·cases hb:vl.ownBlock with
  |none=>rw[hb]at hg;exact h.k.trans ((bB.FJ hg []).below h.k.size (by simp))
  |some g=>
   rw[hb]at hg
   have:=(h.q.r.lt g hb).1
   have:=h.l
   exact h.k.trans ((bB.lq hg).below h.k.size (by simp;omega))
theorem jN.level{w:World}{a:ae}{bs n:Nat}{P:List (List ae)}{br:List Value}{vp:Value}{S:List ae}{wr:World}(h1:eP w.heap.size a (n+1) P br vp wr)(h2:cy wr bs S)(h3:Below w.heap.size w wr)(hb:w.heap.size≤bs):jN w a bs wr.heap.size n P br vp [] [] S wr (.slice none 0 0):=
 ⟨h1,eP.nil _ _ _ _,h2,h3,fun g hg=>(h1.r.lt g hg).2,hb,h3.size,ZM _⟩
theorem eP.first(w:World)(a:ae):eP w.heap.size a (0+1) [[]] [.slice (some ⟨w.heap.size+1,0,none⟩) 1 1] (.slice (some ⟨w.heap.size+2,0,none⟩) 1 1) (((w.alloc (.map #[] 0)).alloc (.cells #[.string a] 9)).alloc (.cells #[.slice (some ⟨w.heap.size+1,0,none⟩) 1 1] 51))∧
  cy (((w.alloc (.map #[] 0)).alloc (.cells #[.string a] 9)).alloc (.cells #[.slice (some ⟨w.heap.size+1,0,none⟩) 1 1] 51)) w.heap.size []∧
  Below w.heap.size w (((w.alloc (.map #[] 0)).alloc (.cells #[.string a] 9)).alloc (.cells #[.slice (some ⟨w.heap.size+1,0,none⟩) 1 1] 51)):=by
 have e1:=heap_alloc_new (w.alloc (.map #[] 0)) (.cells #[.string a] 9)
 rw[show(w.alloc (.map #[] 0)).heap.size=w.heap.size+1 by simp]at e1
 have e2:=heap_alloc_new ((w.alloc (.map #[] 0)).alloc (.cells #[.string a] 9)) (.cells #[.slice (some ⟨w.heap.size+1,0,none⟩) 1 1] 51)
 rw[show((w.alloc (.map #[] 0)).alloc (.cells #[.string a] 9)).heap.size=w.heap.size+2 by simp]at e2
 have p7:=(heap_alloc_old ((w.alloc (.map #[] 0)).alloc (.cells #[.string a] 9)) (.cells #[.slice (some ⟨w.heap.size+1,0,none⟩) 1 1] 51) (ZX.1 e1).1).trans e1
 refine⟨⟨⟨rfl,.inr ⟨w.heap.size+2,1,_,rfl,by omega,e2,by simp,by decide,by simp,by simp⟩⟩,rfl,fun i h1 h2=> ?_⟩,((Da w _ _ _).alloc _).alloc _,((((bB.refl w []).alloc _).alloc _).alloc _).below (ZM _) (by simp)⟩
 obtain rfl:i=0:=by simpa using h1
 exact⟨rfl,.inr ⟨w.heap.size+1,1,_,rfl,by omega,p7,by simp,by decide,by simp,by simp⟩⟩
theorem ahT{w w':World}{e:TypeId}{lo:Nat}{v:Value}{L:List ae}(h:names w e lo v L)(hk:∀ (g:Nat) (cur:Array Value),w.heap[g]? =some (Obj.cells cur e (0,0))→w'.heap[g]? =w.heap[g]?):names w' e lo v L:=by
 obtain⟨a,cap,rfl,h1,h2,h3⟩:=h
 exact⟨a,cap,rfl,h1,h2,fun hc=>by obtain⟨g,off,cur,g1,g2,g3,g4⟩:=h3 hc;exact⟨g,off,cur,g1,g2,(hk g _ g3).trans g3,g4⟩⟩
theorem ahU{w w':World}{lo base n:Nat}{v vl:Value}{L:List ae}{xs:List Value}(h:names w 9 lo v L)(hq:w.ownsRow base 51 1 vl n xs)(hg:w.grownBy w' vl.ownBlock):names w' 9 lo v L:=by
 refine ahT h fun g cur hc=>hg.block g (ZX.1 hc).1 fun e=> ?_
 obtain⟨IK,gU⟩:=CX hq e.symm
 rw[hc]at gU;cases gU
theorem FX{fs:List aj}:∀ {a:ae} {q:List ae},a∈aL fs→de (deps fs) a q→bn a q∈aL fs
 |_,[],h,_=>h
 |a,b::l,_,h=>FX (a:=b) (q:=l) (wK h.1) h.2
theorem jM.U8{fs:List aj}{a:ae}{k:Nat}{P:List (List ae)}{S:List ae}(ha:a∈aL fs)(h:jM (deps fs) a k P S):S.length≤(aL fs).length:=ic h.d fun x hx=>by
 obtain⟨q,h1,h2,_⟩:=h.r x hx
 rw[← h2];exact FX ha h1
theorem acy{w W:World}{a:ae}{bs lv n:Nat}{P:List (List ae)}{br:List Value}{vp:Value}{Q:List (List ae)}{dh:List Value}{S:List ae}{vl:Value}{g2 pV:Nat}{q:List ae}(h:jN w a bs lv n P br vp Q dh S W vl)(hn:n≤274877906944)
  (hq:W.ownsRow w.heap.size 9 1 (.slice (some ⟨g2,0,none⟩) (n+1) pV) (n+1) ((a::q).map .string)):Calls prog 123 #[.slice (some ⟨g2,0,none⟩) (n+1) pV] W fun e W'=>∃ v,e= .returned v∧W'.ownsRow W.heap.size 9 1 v (n+1) ((a::q).map .string)∧Below W.heap.size W W':=by
 have hl:=hq.1
 rw[Z4,XY]at hl
 refine(Tryz.slices_Clone_string g2 0 (n+1) pV (a::q) W (by omega) (by omega) (fun j hj=> ?_)).mono fun e W' ⟨v,h1,h2,_,h4⟩=>⟨v,h1,?_,h4⟩
 ·have:=hq.cells (g:=g2) rfl j (.string ((a::q).getD j ByteArray.empty)) (by rw[Yq,ZU,ZY hj];rfl)
  rw[Addr.add_lit]at this
  simpa using this
 ·rw[Zq (by omega)]at h2;exact h2
structure L2(fs:List aj)(w:World)(a:ae)(bs lv k:Nat)(P:List (List ae))(br:List Value)(vp:Value)(S:List ae)(i:Nat)(dh:List Value)(t:List (List ae)×List ae)(wr:World)(vl:Value):Prop where
 s:jN w a bs lv k P br vp t.1 dh t.2 wr vl
 e:t=jS (deps fs) a (P.take i) ([],S)
 b:t.1.length≤t.2.length
 n:∀ x∈t.2,x∈aL fs
 no:∀ j (hj:j<P.length),j<i→a∉deps fs (bn a P[j])
structure L3(fs:List aj)(w:World)(a:ae)(bs lv k:Nat)(P:List (List ae))(br:List Value)(vp:Value)(p:List ae)(t0:List (List ae)×List ae)(v40:Value)(j:Nat)(dh:List Value)(t:List (List ae)×List ae)(wr:World)(vl:Value):Prop where
 s:jN w a bs lv k P br vp t.1 dh t.2 wr vl
 e:t=ext1 p ((deps fs (bn a p)).take j) t0
 b:t.1.length≤t.2.length
 n:∀ x∈t.2,x∈aL fs
 v:names wr 9 0 v40 (deps fs (bn a p))
theorem L3.seen{fs:List aj}{w:World}{a:ae}{bs lv k:Nat}{P:List (List ae)}{br:List Value}{vp:Value}{p:List ae}{t0:List (List ae)×List ae}{v40:Value}{j:Nat}{dh:List Value}{t:List (List ae)×List ae}{wr:World}{vl:Value}(h:L3 fs w a bs lv k P br vp p t0 v40 j dh t wr vl)(hj:j<(deps fs (bn a p)).length)(dS:(deps fs (bn a p))[j]∈t.2):L3 fs w a bs lv k P br vp p t0 v40 (j+1) dh t wr vl:=by
 refine⟨h.s,?_,h.b,h.n,h.v⟩
 rw[ZF hj,I5,← h.e,ZW dS]
theorem L3.len{fs:List aj}{w:World}{a:ae}{bs lv k:Nat}{P:List (List ae)}{br:List Value}{vp:Value}{p:List ae}{t0:List (List ae)×List ae}{v40:Value}{j:Nat}{dh:List Value}{t:List (List ae)×List ae}{wr:World}{vl:Value}(h:L3 fs w a bs lv k P br vp p t0 v40 j dh t wr vl):t.1.length≤(aL fs).length∧t.2.length≤(aL fs).length:=by
 have h1:=ic h.s.s.1 h.n
 have h2:=h.b
 omega
theorem L3.push{fs:List aj}{w:World}{a:ae}{bs lv k:Nat}{P:List (List ae)}{br:List Value}{vp:Value}{p:List ae}{t0:List (List ae)×List ae}{v40:Value}{j:Nat}{dh:List Value}{t:List (List ae)×List ae}{wr w1 w4:World}{vl mC u:Value}(h:L3 fs w a bs lv k P br vp p t0 v40 j dh t wr vl)(hj:j<(deps fs (bn a p)).length)(dS:(deps fs (bn a p))[j]∉t.2)
  (hs:jN w a bs lv k P br vp t.1 dh (ins t.2 (deps fs (bn a p))[j]) w1 vl) (hv:names w1 9 0 v40 (deps fs (bn a p))) (hu:w1.ownsRow lv 9 1 u (k+2) ((a::(p++[(deps fs (bn a p))[j]])).map .string)) (hg:w1.grownBy w4 vl.ownBlock) (hr:w4.ownsRow lv 51 1 mC (t.1.length+1) (dh++[u])):
  L3 fs w a bs lv k P br vp p t0 v40 (j+1) (dh++[u]) (t.1++[p++[(deps fs (bn a p))[j]]],t.2++[(deps fs (bn a p))[j]]) w4 mC:=by
 have e:ins t.2 (deps fs (bn a p))[j]=t.2++[(deps fs (bn a p))[j]]:=by unfold ins;rw[Z5 dS]
 rw[e]at hs
 refine⟨hs.push hu hg hr,?_,?_,fun x hx=> ?_,ahU hv hs.q.r hg⟩
 ·rw[ZF hj,I5,← h.e,Z5 dS]
 ·have:=h.b;simp only[Z9,YZ];omega
 ·rcases ZJ.1 hx with hx|hx
  ·exact h.n x hx
  ·rw[Zm]at hx;subst hx;exact wK (Zc hj)
theorem L3.done{fs:List aj}{w:World}{a:ae}{bs lv k:Nat}{P:List (List ae)}{br:List Value}{vp:Value}{S:List ae}{i:Nat}{alA:List Value}{t0:List (List ae)×List ae}{wr0:World}{Dv:Value}{v40:Value}{j:Nat}{dh:List Value}{t:List (List ae)×List ae}{wr:World}{vl:Value}(hi:i<P.length)(h0:L2 fs w a bs lv k P br vp S i alA t0 wr0 Dv)
  (h:L3 fs w a bs lv k P br vp P[i] t0 v40 j dh t wr vl) (hj:(deps fs (bn a P[i])).length≤j) (uK:a∉deps fs (bn a P[i])):L2 fs w a bs lv k P br vp S (i+1) dh t wr vl:=by
 refine⟨h.s,?_,h.b,h.n,fun x hx zU=> ?_⟩
 ·rw[h.e,Zq hj,ZF hi,I6,← h0.e]
 ·rcases X8 (X4 zU)with h1|rfl
  ·exact h0.no x hx h1
  ·exact uK
theorem aiq{w:World}{base:Nat}{e:TypeId}{v:Value}{n:Nat}{xs:List Value}(h:w.ownsRow base e 1 v n xs):∀ u∈[v],u.oneCell'=true:=fun u hu=>by
 rw[Zm]at hu;subst hu
 rcases h.2 with⟨rfl,_⟩|⟨g,cap,cur,rfl,_⟩<;>rfl
theorem TF{w:World}{base:Nat}{e:TypeId}{v:Value}{n:Nat}{xs:List Value}(h:w.ownsRow base e 1 v n xs)(hn:0<n):∃ g cap,v= .slice (some ⟨g,0,none⟩) n cap:=by
 rcases h.2 with⟨_,h1⟩|⟨g,cap,cur,h1,_⟩
 ·omega
 ·exact⟨g,cap,h1⟩
theorem akF(s:ae):∀ u∈[Value.string s],u.oneCell'=true:=fun u hu=>by rw[Zm]at hu;subst hu;rfl
theorem Om(w:World)(v:Value)(t:TypeId):∀ j u,[v][j]? =some u→(w.alloc (.cells #[v] t)).cell? ((⟨w.heap.size,0,none⟩:Addr).add j)=some u:=fun j u hj=>by
 match j,hj with
 |0,hj=>
  simp only[List.getElem?_cons_zero,Z1]at hj
  subst hj
  rw[Addr.add_lit,oO (heap_alloc_new _ _)];rfl
theorem P4{w w':World}{base:Nat}{e:TypeId}{v:Value}{n:Nat}{xs:List Value}(h:w.ownsRow base e 1 v n xs)(hg:w.grownBy w' v.ownBlock)(hb:base≤w.heap.size):Below base w w':=
 ⟨hg.os,hg.tape,hg.output,hg.size,fun k hk=>hg.block k (by omega) fun e'=>by have:=(h.lt k e'.symm).1;omega⟩
theorem L2.start{fs:List aj}{w:World}{a:ae}{k:Nat}{P:List (List ae)}{br:List Value}{vp:Value}{S:List ae}{wr:World}(ha:a∈aL fs)(h1:eP w.heap.size a (k+1) P br vp wr)(h2:cy wr w.heap.size S)(h3:Below w.heap.size w wr)(h4:jM (deps fs) a k P S):L2 fs w a w.heap.size wr.heap.size k P br vp S 0 [] ([],S) wr (.slice none 0 0):=
 ⟨jN.level h1 h2 h3 (ZM _),rfl,ZL _,fun x hx=>by obtain⟨q,h5,h6,_⟩:=h4.r x hx;rw[← h6];exact FX ha h5,fun j _ h=>absurd h (by omega)⟩
theorem L3.start{fs:List aj}{w:World}{a:ae}{bs lv k:Nat}{P:List (List ae)}{br:List Value}{vp:Value}{S:List ae}{i:Nat}{dh:List Value}{t:List (List ae)×List ae}{wr w5:World}{vl:Value}{p:List ae}{v40:Value}{l0:Nat}(h:L2 fs w a bs lv k P br vp S i dh t wr vl)(hb:Below wr.heap.size wr w5)(hv:names w5 9 l0 v40 (deps fs (bn a p))):
  L3 fs w a bs lv k P br vp p t v40 0 dh t w5 vl:=⟨h.s.below hb,rfl,h.b,h.n,hv.mono (ZL _)⟩
theorem akA{w:World}{a:ae}{bs lv n:Nat}{P:List (List ae)}{br:List Value}{vp:Value}{Q:List (List ae)}{dh:List Value}{S:List ae}{w1 w2 w3:World}{vl v1:Value}{m:Nat}{xs:List Value}(s1:jN w a bs lv n P br vp Q dh S w1 vl)(cq:w2.ownsRow w1.heap.size 9 1 v1 m xs)(dK:Below w1.heap.size w1 w2){o1:Obj}(qm:(w2.alloc o1).grownBy w3 v1.ownBlock)(o2:Obj):
  (w3.alloc o2).ownsRow lv 51 1 vl Q.length dh∧lv≤(w3.alloc o2).heap.size:=by
 have l2:=dK.size
 have b3:Below w1.heap.size w2 (w2.alloc o1):=⟨rfl,rfl,rfl,by simp,fun k hk=>heap_alloc_old w2 o1 (by omega)⟩
 have b4:=P4 (cq.alloc o1) qm (by simp;omega)
 have l4:=b4.size
 have b5:Below w1.heap.size w3 (w3.alloc o2):=⟨rfl,rfl,rfl,by simp,fun k hk=>heap_alloc_old w3 o2 (by simp at l4;omega)⟩
 have s5:=s1.below (((dK.trans b3).trans b4).trans b5)
 exact⟨s5.q.r,s5.z⟩
theorem L3.step{fs:List aj}{w:World}{a:ae}{bs lv k:Nat}{P:List (List ae)}{br:List Value}{vp:Value}{p:List ae}{t0:List (List ae)×List ae}{v40:Value}{j:Nat}{dh:List Value}{t:List (List ae)×List ae}{wr w1 w2 w3 w4:World}{vl mC v1 u:Value}(h:L3 fs w a bs lv k P br vp p t0 v40 j dh t wr vl)(hj:j<(deps fs (bn a p)).length)(dS:(deps fs (bn a p))[j]∉t.2){o1 o2:Obj}
  (hs:cy w1 bs (ins t.2 (deps fs (bn a p))[j])) (gY:wr.grownBy w1 (some bs)) (cq:w2.ownsRow w1.heap.size 9 1 v1 (k+1) ((a::p).map .string)) (dK:Below w1.heap.size w1 w2)
  (lh:w3.ownsRow w1.heap.size 9 1 u (k+1+1) ((a::p).map .string++[.string (deps fs (bn a p))[j]])) (qm:(w2.alloc o1).grownBy w3 v1.ownBlock)
  (KE:w4.ownsRow lv 51 1 mC (t.1.length+1) (dh++[u])) (Cd:(w3.alloc o2).grownBy w4 vl.ownBlock):
  L3 fs w a bs lv k P br vp p t0 v40 (j+1) (dh++[u]) (t.1++[p++[(deps fs (bn a p))[j]]],t.2++[(deps fs (bn a p))[j]]) w4 mC:=by
 have s1:=h.s.mark hs gY
 have n1:=h.v.grown gY (Ae h.s.s.isMap)
 have l2:=dK.size
 have b3:Below w1.heap.size w2 (w2.alloc o1):=⟨rfl,rfl,rfl,by simp,fun k hk=>heap_alloc_old w2 o1 (by omega)⟩
 have b4:=P4 (cq.alloc o1) qm (by simp;omega)
 have l4:=b4.size
 have b5:Below w1.heap.size w3 (w3.alloc o2):=⟨rfl,rfl,rfl,by simp,fun k hk=>heap_alloc_old w3 o2 (by simp at l4;omega)⟩
 have bb:=((dK.trans b3).trans b4).trans b5
 refine h.push hj dS (s1.below bb) (LB n1 bb) ?_ Cd KE
 have:=FR (lh.alloc o2) s1.z
 have e:(a::(p++[(deps fs (bn a p))[j]])).map Value.string=(a::p).map .string++[.string (deps fs (bn a p))[j]]:=by simp
 rw[e];exact this
theorem aiC:(prog.info? 51).map (fun i=>(i.zero,i.size,i.bytes))=some (some (.slice none 0 0),1,24):=by kernel_rfl
set_option maxHeartbeats 4000000 in
set_option maxRecDepth 1000000 in
theorem akj(fs:List aj)(hlen:fs.length≤274877906944){w:World}{bA lo:Nat}{L:List ae}{Fm:ae→Nat}(hA:iY w bA lo fs L Fm)(a:ae)(ha:a∈aL fs):
  Calls prog 72 #[.map (some bA),.string a] w fun e W'=>∃ v,e= .returned v∧Below w.heap.size w W'∧((v= .slice none 0 0∧∀ q,¬eH (deps fs) a q)∨∃ q,nz (deps fs) a q∧∃ n,W'.ownsRow w.heap.size 9 1 v n ((a::q).map .string)):=by
 have hN:=FD fs
 have Ks:= @run_makeMap prog
 have Ku:maxLen=9223372036854775807:=rfl
 have Qp:a∈L:=(hA.l a).2 (oj.1 ha)
 have has:a.size≤maxLen:=hA.m.2.1 a Qp
 obtain⟨i0,eB,ep,fy,fz⟩:=info_parts My
 obtain⟨i1,rR,hy0,hy1,Rl⟩:=info_parts aiC
 obtain⟨Rel,mM⟩:∃ Rel:Nat→Value→World→Prop,∀ n v wr,Rel n v wr↔∃ k P br S,eP w.heap.size a (k+1) P br v wr∧cy wr w.heap.size S∧Below w.heap.size w wr∧jM (deps fs) a k P S∧k≤(aL fs).length+1∧n=(aL fs).length+1-k:=⟨_,fun _ _ _=>Iff.rfl⟩
 have H0:Hd (∃ n,Rel n (.slice (some ⟨w.heap.size+2,0,none⟩) 1 1) (((w.alloc (.map #[] 0)).alloc (.cells #[.string a] 9)).alloc (.cells #[.slice (some ⟨w.heap.size+1,0,none⟩) 1 1] 51))):=by
  obtain⟨h1,h2,h3⟩:=eP.first w a
  exact⟨⟨_,(mM _ _ _).2 ⟨0,_,_,_,h1,h2,h3,jM.start _ _,ZL _,rfl⟩⟩⟩
 have rh:=Hd.mk mM
 have HA:=Hd.mk hA
 have Ha:=Hd.mk ha
 clear mM hA ha Qp
 go_enter func72,ntmps72
 go_wp2
 go_loopw [6] (fun v wr=>∃ n,Rel n v wr) (fun v wr=>mu fun n=>Rel n v wr)
 case atStart=>exact H0.out
 clear H0
 obtain⟨k,P,br,S,hP,hS,hB,hI,hk,hn⟩:=(rh.out _ _ _).1 (S9 hrel)
 obtain⟨wo,rfl⟩:∃ wo:World,wo=wr:=⟨wr,rfl⟩
 by_cases aH:P=[]
 ·subst aH
  rcases hP.r.2 with⟨rfl,_⟩|⟨g,cap,cur,rfl,_⟩
  all_goals
   have WB:=Hd.mk hI.none
   clear hn hrel rh hI hP
   go_wp2
   go_ret
   exact⟨_,rfl,hB,.inl ⟨rfl,WB.out⟩⟩
 ·have hk9:k≤274877906944:=by have:=hI.z aH;have:=hI.U8 Ha.out;omega
  have hPl:0<P.length:=XB.2 aH
  obtain⟨gp,Bl,rfl,hPm⟩:∃ gp Bl,u6= .slice (some ⟨gp,0,none⟩) P.length Bl∧P.length≤maxLen:=by
   rcases hP.r.2 with⟨_,h⟩|⟨g,cap,cur,h,_,_,h1,h2,_⟩
   ·omega
   ·exact⟨g,cap,h,by omega⟩
  have HL:Hd (∀ (P':List (List ae)) (MY:List Value) (S':List ae) (v':Value) (w':World),eP w.heap.size a (k+1+1) P' MY v' w'→cy w' w.heap.size S'→Below w.heap.size w w'→jM (deps fs) a (k+1) P' S'→(∃ n,Rel n v' w')∧(mu fun n=>Rel n v' w')<mu fun n=>Rel n (.slice (some ⟨gp,0,none⟩) P.length Bl) wo):=⟨fun P' MY S' v' w' h1 h2 h3 h4=>by
   have h5:k≤(aL fs).length:=ZG (hI.z aH) (hI.U8 Ha.out)
   have h6:=(rh.out _ v' w').2 ⟨k+1,P',MY,S',h1,h2,h3,h4,by omega,rfl⟩
   exact⟨⟨_,h6⟩,S8 h6 (by rw[hn];omega)⟩⟩
  have H2:=Hd.mk (L2.start Ha.out hP hS hB hI)
  have HI:=Hd.mk hI
  clear hn hrel rh hP hS hB hI aH
  go_wp2
  go_loopw [7,22] (fun vl i wr=>∃ (i':Nat) (dh:List Value) (t:List (List ae)×List ae),i= .int .i64 i'∧i'≤P.length∧Hd (L2 fs w a w.heap.size wo.heap.size k P br (.slice (some ⟨gp,0,none⟩) P.length Bl) S i' dh t wr vl)) (fun _ i _=>P.length-(intOf i).toNat)
  case atStart=>exact⟨0,[],_,rfl,ZL _,H2⟩
  clear H2
  obtain⟨i,dh,t,rfl,hi,HS⟩:=hrel
  by_cases ar:i<P.length
  ·obtain⟨_,_,g2,pV,he,cq,c8,dY,Rf⟩:=HS.out.s.p.at ar (HI.out.p _ (Zc ar)).2
   cases he
   obtain⟨p,hp⟩:∃ p,p=P[i]:=⟨_,rfl⟩
   rw[← hp]at c8 dY
   have QW:de (deps fs) a p:=hp ▸ (HI.out.p _ (Zc ar)).1
   obtain⟨z,hz⟩:∃ z,z=bn a p:=⟨_,rfl⟩
   rw[← hz]at c8
   have Fa:z∈L:=(HA.out.l z).2 (oj.1 (hz ▸ FX Ha.out QW))
   have fK:z.size≤maxLen:=HA.out.m.2.1 z Fa
   have Ho:=Hd.mk (HA.out.below HS.out.s.k)
   obtain⟨D,hD,BP⟩:=Ho.out.s z Fa
   have HD:=Hd.mk hD
   have yC:=Hd.mk BP
   have Hp:=Hd.mk hp
   have Hz:=Hd.mk hz
   have HO:=Hd.mk dY
   have Wy:=Hd.mk Rf
   clear Rf hD BP hp hz dY QW
   by_cases EV:a∈D
   ·have HB:=Hd.mk (HI.out.found (ZY ar) (by have:=(yC.out a).1 EV;rw[Hz.out,Hp.out]at this;exact this) (fun j hj q hq=>by obtain⟨dW,rfl⟩:=ZK.1 hq;exact HS.out.no j dW hj))
    go_wp2_with (first
     |(at_lookup;refine AR _ rfl _ _ 90 rfl underlying9 underlying90 (zeroValue96 _) bA L Fm rfl Ho.out.m z rfl fK ?_;rw[ZW Fa])
     |(at_lookup;refine AU _ rfl _ _ 96 rfl underlying9 underlying4 underlying96 (zeroValue4 _) (Fm z) D rfl HD.out a rfl has ?_;rw[YR EV]))
    go_ret
    exact⟨_,rfl,HS.out.s.k,.inr ⟨p,by rw[Hp.out];exact HB.out,_,HO.out⟩⟩
   ·have uK:Hd (a∉deps fs (bn a P[i])):=⟨fun h=>EV ((yC.out a).2 (by rw[Hz.out,Hp.out];exact h))⟩
    have il:Hd (D.length≤4398046511104):=⟨by have:=ic HD.out.1 (b:=aL fs) (fun m hm=>wK ((yC.out m).1 hm));omega⟩
    go_wp2_with (first
     |(at_lookup;refine AR _ rfl _ _ 90 rfl underlying9 underlying90 (zeroValue96 _) bA L Fm rfl Ho.out.m z rfl fK ?_;rw[ZW Fa])
     |(at_lookup;refine AU _ rfl _ _ 96 rfl underlying9 underlying4 underlying96 (zeroValue4 _) (Fm z) D rfl HD.out a rfl has ?_;rw[Zd EV])
     |(go_at_call 122;refine(ag4 _ _).mono ?_;rintro e w6 ⟨rfl,rfl⟩)
     |(go_at_call 34;refine(akp HD.out il.out).mono ?_;rintro e w5 ⟨v40,WS,rfl,ia,fj,KH,nV⟩;have aet:WS=deps fs (bn a p):=ox ia (Eb _ _) (fun x=>by rw[fj,yC.out,Hz.out]);subst aet;have H3:=Hd.mk (L3.start HS.out (Bh nV) KH);obtain⟨a40,acb,rfl⟩:=KH.shape;clear ia fj KH nV))
    have jy:(deps fs (bn a p)).length≤274877906944:=by have:=ic (yj (Eb fs (bn a p))) (b:=aL fs) (fun m hm=>wK hm);omega
    obtain⟨Dy,rfl⟩:∃ Dy:World,Dy=wr:=⟨wr,rfl⟩
    go_loopw [7,42] (fun vl i wr=>∃ (j:Nat) (GV:List Value) (t':List (List ae)×List ae),i= .int .i64 j∧j≤(deps fs (bn a p)).length∧Hd (L3 fs w a w.heap.size wo.heap.size k P br (.slice (some ⟨gp,0,none⟩) P.length Bl) p t (.slice a40 (deps fs (bn a p)).length acb) j GV t' wr vl)) (fun _ i _=>(deps fs (bn a p)).length-(intOf i).toNat)
    case atStart=>exact⟨0,dh,t,rfl,ZL _,H3⟩
    clear H3 cq c8 HO
    obtain⟨j,GV,t',rfl,hj,HR⟩:=hrel
    by_cases jD:j<(deps fs (bn a p)).length
    ·obtain⟨g40,apz,c40,he,aez⟩:=HR.out.v.cell jD
     cases he
     obtain⟨s,hs⟩:∃ s,s=(deps fs (bn a p))[j]:=⟨_,rfl⟩
     rw[← hs]at aez
     have lY:s.size≤maxLen:=HA.out.m.2.1 s ((HA.out.l s).2 (oj.1 (hs ▸ wK (Zc jD))))
     have Hs:=Hd.mk hs
     clear hs
     obtain⟨l1,l2⟩:=HR.out.len
     by_cases dS:s∈t'.2
     ·go_wp2_with (at_lookup;refine AU _ rfl _ _ 96 rfl underlying9 underlying4 underlying96 (zeroValue4 _) w.heap.size t'.2 rfl HR.out.s.s s rfl lY ?_;rw[YR dS])
      go_roundw
      case rel=>exact⟨j+1,GV,t',by go_num,jD,⟨HR.out.seen jD (by rw[← Hs.out];exact dS)⟩⟩
      case measure=>simp[intOf];omega
     ·have Wz:Hd ((deps fs (bn a p))[j]∉t'.2):=⟨by rw[← Hs.out];exact dS⟩
      go_wp2_with (first
       |(at_lookup;refine AU _ rfl _ _ 96 rfl underlying9 underlying4 underlying96 (zeroValue4 _) w.heap.size t'.2 rfl HR.out.s.s s rfl lY ?_;rw[Zd dS])
       |(at_mapUpdate;refine G6 _ rfl _ _ _ 96 rfl underlying9 underlying4 underlying96 w.heap.size t'.2 rfl HR.out.s.s (by omega) s rfl lY rfl ?_;intro w1 KL gY;have Hq:=Hd.mk (HR.out.s.mark KL gY);have H1:=Hd.mk (And.intro KL gY);clear KL gY)
       |(go_at_call 123;refine(acy (q:=p) Hq.out hk9 (by rw[Hp.out];exact Hq.out.p.own Wy.out ar)).mono ?_;rintro e w2 ⟨v1,rfl,eo,dK⟩;have H2:=Hd.mk (And.intro eo dK);clear eo dK)
       |(at_builtin;refine wpList_append_own _ rfl (.tmp 54) (.tmp 56) 51 rfl w1.heap.size 9 i0 (.string ⟨#[]⟩) 1 16 underlying51 eB ep fy fz rfl (by decide) v1 (k+1) _ rfl (H2.out.1.alloc _) ⟨w2.heap.size,0,none⟩ 1 1 [.string s] rfl rfl (Om _ _ _) (akF s) (by omega) (by omega) (by have:=H2.out.2.size;simp;omega) ?_;intro u3 w3 lh qm _;obtain⟨g5,tV,rfl⟩:=TF lh (by omega);have H3:=Hd.mk (And.intro lh qm);have H4:=Hd.mk (akA Hq.out H2.out.1 H2.out.2 qm (.cells #[.slice (some ⟨g5,0,none⟩) (k+1+1) tV] 51));clear lh qm)
       |(at_builtin;refine wpList_append_own _ rfl (.tmp 52) (.tmp 58) 194 rfl wo.heap.size 51 i1 (.slice none 0 0) 1 24 underlying194 rR hy0 hy1 Rl rfl (by decide) u7 t'.1.length GV rfl H4.out.1 ⟨w3.heap.size,0,none⟩ 1 1 [.slice (some ⟨g5,0,none⟩) (k+1+1) tV] rfl rfl (Om _ _ _) (aiq H3.out.1) (by omega) (by omega) H4.out.2 ?_;intro u4 w4 KE Cd _))
      have HE:=HR.out.step jD Wz.out (by rw[← Hs.out];exact H1.out.1) H1.out.2 H2.out.1 H2.out.2 (by rw[← Hs.out];exact H3.out.1) H3.out.2 KE Cd
      go_roundw
      case rel=>exact⟨j+1,_,_,by go_num,jD,⟨HE⟩⟩
      case measure=>simp[intOf];omega
    ·have HE:=Hd.mk (L3.done ar HS.out (by rw[← Hp.out];exact HR.out) (by rw[← Hp.out];omega) uK.out)
     go_wp2
     go_roundw
     case rel=>exact⟨i+1,_,_,by go_num,ar,HE⟩
     case measure=>simp[intOf];omega
  ·have Hn:Hd (∀ q∈P,a∉deps fs (bn a q)):=⟨fun q hq=>by obtain⟨j,hj,rfl⟩:=Zf hq;exact HS.out.no j hj (by omega)⟩
   have ht:t=jS (deps fs) a P ([],S):=by rw[HS.out.e,Zq (by omega)]
   have HB:=Hd.mk (HI.out.next (fun n=>Eb fs n) Hn.out)
   have Wv:=Hd.mk (HS.out.s.q.mono HS.out.s.l)
   subst ht
   have HE:=Hd.mk (HL.out _ _ _ _ _ Wv.out HS.out.s.s HS.out.s.k HB.out)
   go_wp2
   go_roundw
   case rel=>exact HE.out.1
   case measure=>exact HE.out.2
def lG(base:Nat)(wr:World)(v:Value)(l:List ae):Prop:=(l=[]∧v= .slice none 0 0)∨∃ g cap,v= .slice (some ⟨g,0,none⟩) l.length cap∧0<l.length∧l.length≤maxLen∧wr.ownsRow base 9 1 v l.length (l.map .string)
theorem lG.below{base:Nat}{w w':World}{v:Value}{l:List ae}(h:lG base w v l)(hb:Below w.heap.size w w'):lG base w' v l:=by
 rcases h with h|⟨g,cap,h1,h2,h3,h4⟩
 ·exact .inl h
 ·exact .inr ⟨g,cap,h1,h2,h3,LN h4 hb⟩
theorem lG.qH{base n:Nat}{w:World}{v:Value}{l:List ae}(h0:0<l.length)(h:w.ownsRow base 9 1 v n (l.map .string)):lG base w v l:=by
 have h1:=h.1
 rw[Z4,XY]at h1
 subst h1
 obtain⟨g,cap,rfl⟩:=TF h h0
 refine .inr ⟨g,cap,rfl,h0,?_,h⟩
 rcases h.2 with⟨h2,_⟩|⟨g',yU,cur,h2,_,_,h3,h4,_⟩
 ·cases h2
 ·omega
theorem lG.mono{base pT:Nat}{w:World}{v:Value}{l:List ae}(h:lG base w v l)(hb:pT≤base):lG pT w v l:=by
 rcases h with h|⟨g,cap,h1,h2,h3,h4⟩
 ·exact .inl h
 ·exact .inr ⟨g,cap,h1,h2,h3,FR h4 hb⟩
theorem lG.names{base:Nat}{w:World}{v:Value}{l:List ae}(h:lG base w v l):names w 9 base v l:=by
 rcases h with⟨rfl,rfl⟩|⟨g,cap,_,_,_,h⟩
 ·exact⟨none,0,rfl,by simp,by simp,fun h=>absurd h (by omega)⟩
 ·exact names.Ts h
structure pO(w:World)(fs:List aj)(bA lo:Nat)(vN:Value)(L:List ae)(F:ae→Nat)(k:Nat)(l:List ae)(wr:World)(vl:Value):Prop where
 v:lG w.heap.size wr vl l
 c:kn (deps fs) (aL fs) k l
 a:iY wr bA (w.heap.size+1) fs L F
 k:Below w.heap.size w wr
 r:rk wr lo vN (aL fs)
theorem pO.below{w:World}{fs:List aj}{bA lo:Nat}{vN:Value}{L:List ae}{F:ae→Nat}{k:Nat}{l:List ae}{wr w':World}{vl:Value}(h:pO w fs bA lo vN L F k l wr vl)(hb:Below wr.heap.size wr w'):pO w fs bA lo vN L F k l w' vl:=
 ⟨h.v.below hb,h.c,h.a.below hb,h.k.trans (tU hb h.k.size),h.r.to (.below hb)⟩
theorem pO.turn{w:World}{fs:List aj}{bA lo:Nat}{vN:Value}{L:List ae}{F:ae→Nat}{k k':Nat}{l l':List ae}{wr:World}{vl mC:Value}(h:pO w fs bA lo vN L F k l wr vl)(hv:lG w.heap.size wr mC l')(hc:kn (deps fs) (aL fs) k' l'):pO w fs bA lo vN L F k' l' wr mC:=
 ⟨hv,hc,h.a,h.k,h.r⟩
theorem pO.start{w w1 w2 w4:World}{fs:List aj}{bA:Nat}{o:Obj}{vN:Value}{L:List ae}{F:ae→Nat}{e:TypeId}{l0:Nat}(uW:w1=w.alloc o)(ha:iY w2 bA (w.heap.size+1) fs L F)(hb:Below (w.heap.size+1) w1 w2)(hn:names w4 e l0 vN (aL fs))(h4:Below w2.heap.size w2 w4):
  pO w fs bA w4.heap.size vN L F 0 [] w4 (.slice none 0 0):=by
 subst uW
 have l1:=hb.size
 have o6:Below w.heap.size w w2:=Bh hb
 simp at l1
 exact⟨.inl ⟨rfl,rfl⟩,kn.start _ _,ha.below h4,o6.trans (tU h4 (by omega)),rk.Tr hn (ZM _)⟩
set_option maxHeartbeats 4000000 in
set_option maxRecDepth 1000000 in
theorem acP(c:az)(hF:q6 c.features){M:Mem}{w:World}(hI:Sx.Inv prog M ⟨w,M⟩ [] w){Cc:Array Value}(hC:RL M c.cells Cc.toList):
  Calls prog 32 #[.agg Cc] w fun e W'=>∃ v,e= .returned v∧names W' 9 w.heap.size v (iF (deps c.features) (aL c.features))∧Below w.heap.size w W':=by
 have lC:Cc.size=4:=by have:=hC.1;simpa[az.cells]using this.symm
 have Ii:Sx.gM prog 25=some (true,Cc.toList.length):=by rw[Zv,lC];kernel_rfl
 clear lC
 have mO:Below w.heap.size w (w.alloc (.cells Cc 25)):=((bB.refl w []).alloc _).below (ZM _) (by simp)
 have wV:=OL c hF (Bj hI mO) hC
 rw[show(w.alloc (.cells Cc 25)).heap.size=w.heap.size+1 by simp]at wV
 have AZ:=Hd.mk wV
 clear wV
 have HC:=Hd.mk (Uv (heap_alloc_new w (.cells Cc 25)))
 have hlen:=hF.l
 have Ku:maxLen=9223372036854775807:=rfl
 have an4:∀ (w:World) (a:Option Addr) (n k:Nat),(binOp .neq 51 (.slice a n k) (.slice none 0 0)).run prog w= .ok (.bool (!a.isNone)) w:=fun w a n k=>run_neq_slice_nil_any w _ _ a n k 0 0 underlying51
 have anW:∀ (w:World) (a:Option Addr) (n k:Nat),(binOp .eql 51 (.slice a n k) (.slice none 0 0)).run prog w= .ok (.bool a.isNone) w:=fun w a n k=>Lib.run_eql_slice_nil w _ _ a n k 0 0 underlying51
 clear hI hC mO
 go_enter func32,ntmps32
 go_wp2_with (first
  |(show wpList _ _ _ (⟨some 7,_,_,_,_,_⟩::_) _ _;refine yR rfl 25 (.tmp 1) rfl w.heap.size 0 rfl Cc HC.out Ii ?_)
  |(go_at_call 33;refine AZ.out.mono ?_;rintro e w2 ⟨L,Fm,rfl,hA,dK⟩;have HA:=Hd.mk (And.intro hA dK);clear AZ HC hA dK)
  |(go_at_call 35;refine(Sw _ _).mono ?_;rintro e w3 ⟨rfl,rfl⟩)
  |(go_at_call 34;refine(UZ HA.out.1.m (ZG HA.out.1.len (by omega))).mono ?_;rintro e w4 ⟨vN,S,rfl,qh,uz,zA,BU⟩;have HS:=Hd.mk (pO.start rfl HA.out.1 HA.out.2 (HA.out.1.names qh uz ▸ zA) (Bh BU));have hS5:=HA.out.1.names qh uz;subst hS5;obtain⟨aN,pW,rfl⟩:=zA.shape;clear qh uz zA BU HA))
 have hN9:(aL c.features).length≤274877906944:=ZG (FD _) hlen
 go_loopw [2,13] (fun vl i wr=>∃ (k:Nat) (l:List ae),i= .int .i64 k∧k≤(aL c.features).length∧Hd (pO w c.features (w.heap.size+2) w4.heap.size (.slice aN (aL c.features).length pW) L Fm k l wr vl)) (fun _ i _=>(aL c.features).length-(intOf i).toNat)
 case atStart=>exact⟨0,[],rfl,ZL _,HS⟩
 clear HS
 obtain⟨k,l,rfl,hk,HS⟩:=hrel
 by_cases ar:k<(aL c.features).length
 ·obtain⟨_,_,he,_,hcell⟩:=HS.out.r
  cases he
  obtain⟨gN,Tw,rfl,hgN,B6⟩:=hcell k ar
  obtain⟨s,hs⟩:∃ s,s=(aL c.features)[k]:=⟨_,rfl⟩
  rw[← hs]at B6
  have Ns:=Hd.mk (akj c.features hlen HS.out.a s (hs ▸ Zc ar))
  have Hs:=Hd.mk hs
  clear hs hcell
  go_wp2_with (go_at_call 72;refine Ns.out.mono ?_;rintro e w5 ⟨v5,rfl,EL,QY⟩;have lF:=Hd.mk (HS.out.below EL);have Ww:Hd ((v5= .slice none 0 0∧∀ q,¬eH (deps c.features) s q)∨∃ q g5 tV,v5= .slice (some ⟨g5,0,none⟩) (q.length+1) tV∧q.length+1≤maxLen∧nz (deps c.features) s q∧lG w.heap.size w5 v5 (s::q)):=⟨by rcases QY with h|⟨q,h1,n,h2⟩;exact .inl h;have h3:=(lG.qH (by simp) h2).mono HS.out.k.size;rcases h3 with⟨h4,_⟩|⟨g5,tV,h5,h6,h7,h8⟩;cases h4;exact .inr ⟨q,g5,tV,h5,h7,h1,.inr ⟨g5,tV,h5,h6,h7,h8⟩⟩⟩;clear Ns EL QY B6;rcases Ww.out with⟨rfl,uK⟩|⟨q,g5,tV,rfl,hq5,hB,hq⟩<;>rcases lF.out.v with⟨rfl,rfl⟩|⟨gl,am5,rfl,qn,Co,hl3⟩)
  all_goals have hs:=Hs.out;subst hs
  ·go_roundw
   case rel=>exact⟨k+1,_,by go_num,ar,⟨lF.out.turn lF.out.v (lF.out.c.none ar uK)⟩⟩
   case measure=>simp[intOf];omega
  ·go_roundw
   case rel=>exact⟨k+1,_,by go_num,ar,⟨lF.out.turn lF.out.v (lF.out.c.none ar uK)⟩⟩
   case measure=>simp[intOf];omega
  ·go_roundw
   case rel=>exact⟨k+1,_,by go_num,ar,⟨lF.out.turn hq (lF.out.c.take ar hB (.inl rfl))⟩⟩
   case measure=>simp[intOf];omega
  ·go_roundw
   case rel=>exact⟨k+1,_,by go_num,ar,⟨lF.out.turn hq (lF.out.c.take ar hB (.inr (by omega)))⟩⟩
   case measure=>simp[intOf];omega
  ·go_roundw
   case rel=>exact⟨k+1,_,by go_num,ar,⟨lF.out.turn lF.out.v (lF.out.c.skip ar hB (by intro e;rw[e]at qn;simp at qn) (by omega))⟩⟩
   case measure=>simp[intOf];omega
 ·have rP:Hd (l=iF (deps c.features) (aL c.features)):=⟨by have h:=HS.out.c;rw[show k=(aL c.features).length by omega]at h;exact h.done (xR _)⟩
  go_wp2
  go_ret
  exact⟨_,rfl,rP.out ▸ HS.out.v.names,HS.out.k⟩
end Go.Proofs.YtajimcniogfpcaaGreatDoor
namespace Go.Proofs.YtajimcniogfpcaaGreatDoor
open _root_.Go.Proofs.Tryz
open Go.RowKit Go.Proofs Go.Tb Go.Maps
open Go.Sx (AV Mem RL R M0 Glob Store BlkOK Base Inv)
def nj(M:Mem)(n:Nat)(w':World):Mem:=fun b o=>if n≤b then w'.cell? ⟨b,o,none⟩else M b o
theorem Lv{M:Mem}{w0:Base}{w w':World}{σ:Store}(hI:Inv prog M w0 σ w):M.le (nj M w.heap.size w'):=fun b o v h=>by
 have:=World.block_lt_of_cell? _ _ (hI.cH b o v h)
 unfold nj
 rw[Z5 (by simp at this;omega)];exact h
theorem RQ{M:Mem}{w0:Base}{w w':World}{σ:Store}(hI:Inv prog M w0 σ w)(hb:Below w.heap.size w w'):Inv prog (nj M w.heap.size w') w0 σ w':=by
 have h1:=hI.after hb
 have hle:=Lv (w':=w') hI
 refine⟨h1.os,h1.tape,h1.output,h1.size,h1.old,fun b o v h=> ?_,fun e he=> ?_,h1.nd,fun g l hl=>(h1.gl g l hl).mono hle,h1.gw,fun b o v hv ar=>h1.bm b o v (by unfold nj at hv;rwa [Z5 (by have:=hI.size;omega)]at hv) ar⟩
 ·unfold nj at h
  split at h
  ·exact h
  ·exact h1.cH b o v h
 ·obtain⟨g1,g2⟩:=h1.st e he
  refine⟨g1,?_⟩
  obtain⟨_,g3⟩:=hI.st e he
  have ar:e.2.1<w.heap.size:=by
   cases hx:e.2.2 with
   |cells l=>rw[hx]at g3;obtain⟨_,cs,t,a2,_⟩:=g3;exact(ZX.1 a2).1
   |tail u c=>rw[hx]at g3;obtain⟨_,cs,t,a2,_⟩:=g3;exact(ZX.1 a2).1
   |map es k=>rw[hx]at g3;obtain⟨_,l,a2,_⟩:=g3;exact(ZX.1 a2).1
  have hN:∀ o,nj M w.heap.size w' e.2.1 o=M e.2.1 o:=fun o=>by unfold nj;rw[Z5 (by omega)]
  cases hx:e.2.2 with
  |cells l=>rw[hx]at g2;obtain⟨a1,cs,t,a2,a3⟩:=g2;exact⟨fun o=>(hN o).trans (a1 o),cs,t,a2,a3.mono hle⟩
  |tail u c=>rw[hx]at g2;obtain⟨a1,cs,t,a2,a3⟩:=g2;exact⟨fun o ho=>(hN o).trans (a1 o ho),cs,t,a2,a3⟩
  |map es k=>rw[hx]at g2;obtain⟨a1,l,a2,a3,a4⟩:=g2;exact⟨fun o=>(hN o).trans (a1 o),l,a2,a3,a4.mono hle⟩
theorem RR{M:Mem}{w0:Base}{w:World}{σ:Store}(hI:Inv prog M w0 σ w):Inv prog M ⟨w,M⟩ [] w:=
 ⟨rfl,rfl,rfl,ZM _,fun _ _=>rfl,hI.cH,fun e he=>(by cases he),Xn,hI.gl,GW.aQ hI.gw hI.size fun k cs t f h=>hI.old k (ZX.1 h).1,fun _ _ _ h _=>h⟩
theorem LA{M:Mem}{w':World}{n lo:Nat}{e:TypeId}{v:Value}{L:List ae}(h:names w' e lo v L)(hl:n≤lo):R (nj M n w') (.sl false 1 (L.map eX)) v:=by
 obtain⟨a,cap,rfl,h1,h2,h3⟩:=h
 by_cases hc:cap=0
 ·subst hc
  have:L=[]:=Zx (by omega)
  subst this
  exact .nil false 1 a (by simp)
 ·obtain⟨g,off,cur,rfl,g2,g3,g4,g5⟩:=h3 (by omega)
  have:=R.sl (M:=nj M n w') false 1 (L.map eX) g off cap (fun k=> .string (L.getD k ⟨#[]⟩)) (fun i hi=>by rw[Zj];rfl) (fun k hk=> ?_) (fun i hi j hj=> ?_) (by rw[Z4];exact h1) h2
  ·rw[Z4]at this;exact this
  ·have hk:k<L.length:=by simpa using hk
   unfold nj
   rw[ZW (by omega),oO g3,g5 k hk,ZU,ZY hk];rfl
  ·have hi:i<L.length:=by simpa using hi
   simp only[Zj,eX,Z8,Z0]at hj ⊢
   obtain rfl:j=0:=by omega
   rw[ZU,XY,Yr,ZY hi]
   exact .v _
theorem Pure.new{f:FuncId}{xs:List AV}{r:AV}(h:∀ (M:Mem) (w:World) (cs:List Value),Inv prog M ⟨w,M⟩ [] w→RL M xs cs→Calls prog f cs.toArray w fun e w'=>(∃ v,e= .returned v∧R (nj M w.heap.size w') r v)∧Below w.heap.size w w'):Sx.Pure prog f xs r:=
 ⟨fun σ M w0 w cs hI hR=>(h M w cs (RR hI) hR).mono fun e w' ⟨⟨v,he,hv⟩,hb⟩=>⟨nj M w.heap.size w',.ret r,σ,Lv hI,RQ hI hb,by subst he;exact hv,rfl,rfl⟩⟩
theorem RL.NW{M:Mem}{l:List AV}{cs:List Value}(h:RL M [.agg l] cs):∃ C:Array Value,cs.toArray= #[.agg C]∧RL M l C.toList:=by
 obtain⟨v,rfl,h1⟩:=Sx.RL.cT h
 obtain⟨bP,rfl,h2⟩:=h1.np
 exact⟨bP.toArray,rfl,by simpa using h2⟩
abbrev qR(l:List ae):AV:= .sl false 1 (l.map eX)
theorem LK(c:az)(hF:q6 c.features):Sx.Pure prog 10 [.agg c.cells] (qR (kN (deps c.features) (aL c.features))):=Pure.new fun M w cs hI hR=>by
 obtain⟨C,e,hC⟩:=RL.NW hR
 rw[e]
 exact(ain c hF hI hC).mono fun e w' ⟨v,h1,h2,h3⟩=>⟨⟨v,h1,LA h2 (ZM _)⟩,h3⟩
theorem D8(c:az)(hF:q6 c.features):Sx.Pure prog 32 [.agg c.cells] (qR (iF (deps c.features) (aL c.features))):=Pure.new fun M w cs hI hR=>by
 obtain⟨C,e,hC⟩:=RL.NW hR
 rw[e]
 exact(acP c hF hI hC).mono fun e w' ⟨v,h1,h2,h3⟩=>⟨⟨v,h1,LA h2 (ZM _)⟩,h3⟩
end Go.Proofs.YtajimcniogfpcaaGreatDoor
