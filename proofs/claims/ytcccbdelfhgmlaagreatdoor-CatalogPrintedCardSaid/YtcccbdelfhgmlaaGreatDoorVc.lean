/- The lexer: a piece. -/
import Derived.Test.YtcccbdelfhgmlaaGreatDoorTz
import Derived.Shelf.Spec.DecodeRune
import Derived.Test.YtcccbdelfhgmlaaGreatDoorPt
set_option linter.unusedSimpArgs false
set_option linter.unusedVariables false
set_option linter.unusedSectionVars false
set_option maxRecDepth 100000
set_option maxHeartbeats 4000000
namespace Go.Proofs.YtcccbdelfhgmlaaGreatDoor
open Go.Sx Go.Proofs Go.RowKit
structure wT:Prop where
 int:∀ l:List UInt8,jk l→l.length≤16384→Pure Tryz.prog 106 [iv 2,sv ⟨l.toArray⟩] (iv (nr l))
 dec:∀ a b:List UInt8,jk a→jk b→(a++46::b).length≤16384→Pure Tryz.prog 106 [iv 3,sv ⟨(a++46::b).toArray⟩] (iv (kL (a++46::b)))
def iy(l:List UInt8):Int:=if 34∈l∨10∈l then aC (fun b=>b != 34 && b != 10) l else -1
def wP:Prop:=∀ (l:List UInt8) (nn:Bool),l.length≤16384→Pure Tryz.prog 107 [.sl nn 1 (l.map ck),sv ⟨#[34,10]⟩] (iv (iy l))
theorem UB{p q:UInt8→Bool}(h:∀ b,p b=q b)(s:List UInt8):aC p s=aC q s:=by
 rw[show p=q from funext h]
theorem aia(s:List UInt8):runN [2,3,4] s=aC fQ s:=UB (fun b=>by
 unfold fQ
 have h9:aE b<9:=by unfold aE;repeat' split
                    all_goals omega
 generalize aE b=k at *
 match k,h9 with
 |0,_|1,_|2,_|3,_|4,_|5,_|6,_|7,_|8,_=>rfl) s
theorem Cn(s:List UInt8):runN [3] s=aC bz s:=UB (fun b=>by
 unfold bz
 have h9:aE b<9:=by unfold aE;repeat' split
                    all_goals omega
 generalize aE b=k at *
 match k,h9 with
 |0,_|1,_|2,_|3,_|4,_|5,_|6,_|7,_|8,_=>rfl) s
theorem Co(ps:List UInt8)(ak:ps≠[])(src:List UInt8)(hl:src.length≤16384)(nn n2:Bool)(z:Int)(from_ k:Nat)(hz:z=from_)(hk:from_+runN ps (src.drop from_)=k)(hf:from_≤src.length):
  Pure Tryz.prog 104 [.v (.int .i64 z),.sl nn 1 (ps.map ck),.pc [.sl n2 1 (src.map ck)],.pc [.pc kK]] (iv (k:Nat)):=by
 subst hz;subst hk;exact aib ps ak src hl nn n2 from_ hf
theorem UC(p:UInt8→Bool):∀ s:List UInt8,s.take (aC p s)=s.takeWhile p
 |[]=>rfl
 |b::s=>by
  have ih:=UC p s
  unfold aC at *
  by_cases h:p b=true
  ·rw[Zl,Z8 h,Z6,Yc,ih]
  ·rw[Zl,Z9 h];rfl
theorem Su{p:UInt8→Bool}{b:UInt8}:∀ {s:List UInt8},b∈s.takeWhile p→p b=true
 |a::s,h=>by
  by_cases ha:p a=true
  ·rw[Zl,Z8 ha]at h
   rcases ZV.1 h with rfl|h
   ·exact ha
   ·exact Su h
  ·rw[Zl,Z9 ha]at h;cases h
theorem abM{b:UInt8}(h:aE b=3):48≤b.toNat∧b.toNat≤57:=by
 unfold aE at h
 split at h
 ·cases h
 split at h
 ·cases h
 split at h
 ·rename_i h3;exact h3
 repeat' split at h
 all_goals cases h
theorem AJ{s:List UInt8}(h:0<aC bz s):jk (s.take (aC bz s)):=by
 rw[UC]
 refine⟨fun e=> ?_,fun b hb=> ?_⟩
 ·unfold aC at h;rw[e]at h;exact absurd h (by simp)
 ·have:=Su hb
  unfold bz at this
  exact abM (Yv this)
theorem RD{c:UInt8}:0≤Lib.indexByte [61,33,60] c↔c=61∨c=33∨c=60:=by
 rw[yo];simp
theorem p_1{c:UInt8}{r:List UInt8}(h:aE c=1):aS (c::r)=(0,1,0):=by unfold aS;dsimp only;rw[Z8 h]
theorem E1{c:UInt8}{r:List UInt8}(h:aE c=6):aS (c::r)=(0,aC (fun b=>b != 10) (c::r),0):=by unfold aS;dsimp only;rw[Z9 (by omega),Z8 h]
theorem Kp{c:UInt8}{r:List UInt8}(h:aE c=2):aS (c::r)=(1,aC fQ (c::r),if aC fQ (c::r)>24 then 2 else 0):=by unfold aS;dsimp only;rw[Z9 (by omega),Z9 (by omega),Z8 h]
theorem EZ{c:UInt8}{r:List UInt8}(h:aE c=3):aS (c::r)=if((c::r).drop (aC bz (c::r))).head? =some 46∧aC bz (((c::r).drop (aC bz (c::r))).drop 1)>0 then(3,aC bz (c::r)+1+aC bz (((c::r).drop (aC bz (c::r))).drop 1),kL ((c::r).take (aC bz (c::r)+1+aC bz (((c::r).drop (aC bz (c::r))).drop 1))))else(2,aC bz (c::r),nr ((c::r).take (aC bz (c::r)))):=by
 unfold aS;dsimp only;rw[Z9 (by omega),Z9 (by omega),Z9 (by omega),Z8 h]
theorem E0{c:UInt8}{r:List UInt8}(h:aE c=5):aS (c::r)=if(r.drop (aC (fun b=>b != 34 && b != 10) r)).head? =some 34 then(4,aC (fun b=>b != 34 && b != 10) r+2,wu (r.take (aC (fun b=>b != 34 && b != 10) r)))else(-1,1,80):=by
 unfold aS;dsimp only;rw[Z9 (by omega),Z9 (by omega),Z9 (by omega),Z9 (by omega),Z8 h]
theorem tQ{c:UInt8}{r:List UInt8}(h:aE c=7∨aE c=8):aS (c::r)=if r.head? =some 61∧(c=61∨c=33∨c=60)then(5,2,0)else if c≠33 then(5,1,0)else(-1,1,80):=by
 unfold aS;dsimp only;rw[Z9 (by omega),Z9 (by omega),Z9 (by omega),Z9 (by omega),Z9 (by omega),Z8 h]
theorem Ko{c:UInt8}{r:List UInt8}(h:aE c≠1∧aE c≠6∧aE c≠2∧aE c≠3∧aE c≠5∧aE c≠7∧aE c≠8):aS (c::r)=(-1,1,80):=by
 unfold aS;dsimp only;rw[Z9 (by omega),Z9 (by omega),Z9 (by omega),Z9 (by omega),Z9 (by omega),Z9 (by omega)]
theorem UA{p:UInt8→Bool}{s:List UInt8}(h:∀ b∈s,p b=true):aC p s=s.length:=by
 induction s with
 |nil=>rfl
 |cons a s ih=>
  have:=ih fun b hb=>h b (ZU _ hb)
  unfold aC at *
  rw[Zl,Z8 (h a ZJ),Z6,this,Z6]
theorem awy{p:UInt8→Bool}{s:List UInt8}(h:∃ b∈s,p b=false):aC p s<s.length∧p (s.getD (aC p s) default)=false:=by
 induction s with
 |nil=>obtain⟨b,hb,_⟩:=h;cases hb
 |cons a s ih=>
  unfold aC at *
  by_cases ha:p a=true
  ·rw[Zl,Z8 ha,Z6,Z6]
   obtain⟨b,hb,hp⟩:=h
   have iG:b∈s:=by
    rcases ZV.1 hb with rfl|hb
    ·rw[ha]at hp;cases hp
    ·exact hb
   obtain⟨g1,g2⟩:=ih ⟨b,iG,hp⟩
   exact⟨by omega,by rw[XO];exact g2⟩
  ·rw[Zl,Z9 ha]
   exact⟨by simp,by rw[ZW,List.getD_cons_zero];simpa using ha⟩
def tR(at_:Nat)(p:Int×Nat×Int):AV:= .aT [iv p.1,iv (at_+p.2.1:Nat),iv p.2.2]
theorem Tn(hG:wT)(hA:wP)(src:List UInt8)(hl:src.length≤16384)(nn:Bool)(at_:Nat)(ha:at_<src.length):
  Pure Tryz.prog 74 [.sl nn 1 (src.map ck),iv at_,.pc kK] (tR at_ (aS (src.drop at_))):=by
 refine Pure.dF (fun i=>bif Nat.beq i 1000021 then 1 else 0) Tryz.func74 acg adw (Z7 rfl) fun σ=> ?_
 first|refine .k1 ?_|fail
 first|refine .k2 ?_|fail
 repeat'((fail_if_success (show WK _ _ _ _ _ _ _ _));(first|exact .nil|refine .k0 ?_|refine .k1 ?_|refine .r1 ?_ ?_|(refine .m1 ?_ ?_;intro b)|fail))
 rename_i b3
 refine kH rfl ?_
 refine Gw 5 b (.here) (.same (.same (.p0 (.same .nil)))) ?_
 refine Gw 3 b3 (.here) (.same (.p0 (.same (.same .nil)))) ?_
 obtain⟨c,r,eS⟩:∃ c r,src.drop at_=c::r:=⟨src[at_],src.drop (at_+1),Y8 ha⟩
 have fx:src.getD at_ default=c:=by
  rw[getD_eq ha]
  have:=Y8 ha
  rw[eS]at this
  exact(List.cons.inj this).1.symm
 have j9:(c::r).length=src.length-at_:=by rw[← eS,Zj]
 obtain⟨e2,D2⟩:∃ e2,at_+runN [2,3,4] (src.drop at_)=e2:=⟨_,rfl⟩
 obtain⟨e1,Qu⟩:∃ e1,at_+runN [3] (src.drop at_)=e1:=⟨_,rfl⟩
 obtain⟨e3,Qv⟩:∃ e3,e1+1+runN [3] (src.drop (e1+1))=e3:=⟨_,rfl⟩
 have cW:=KJ [2,3,4] (src.drop at_)
 have dZ:=KJ [3] (src.drop at_)
 have nZ:=KJ [3] (src.drop (e1+1))
 rw[Zj]at dZ cW nZ
 have ib:IntKind.i64.wrap ((at_:Int)+1)=((at_+1:Nat):Int):=by rw[bG (by omega)];rfl
 have hpc:(c::r)=src.drop at_:=eS.symm
 have tc:IntKind.i64.wrap ((e1:Int)+1)=((e1+1:Nat):Int):=by rw[bG (by omega)];rfl
 have vB:runN [3] (src.drop at_)=aC bz (c::r):=by rw[Cn,eS]
 have tj:(src.take e1).drop at_=(c::r).take (aC bz (c::r)):=by
  rw[Ya,eS,← vB];congr 1;omega
 rw[eS]
 repeat'(first|exact .nil|refine .k0 ?_|refine .k1 ?_|refine .k2 ?_|refine .k5 ?_|refine .r1 ?_ ?_|refine .t1 ?_ ?_ ?_|fail)
 all_goals(try simp only[BL]at *)
 rotate_right
 ·exact⟨by omega,by omega⟩
 ·exact⟨by omega,by have:=(src.getD at_ default).toNat_lt;show _<(256:Int);omega⟩
 by_cases h3:aE c=3
 ·have hn:0<aC bz (c::r):=by
   unfold aC
   rw[Zl,Z8 (by unfold bz;exact Zi h3),Z6]
   omega
  have j5:=hG.int ((src.take e1).drop at_) (by rw[tj];exact AJ hn) (by rw[Zj,ZK];omega)
  refine qE (.v (.int .u8 3)) rfl (fun _=> ?_) rfl .nil ?_
  ·have:=qK c;rw[fx];rw[h3]at this;simpa[jx]using this
  by_cases hq:(e1<src.length∧src.getD e1 default=46)∧e1+1<e3
  ·have hm:0<aC bz (src.drop (e1+1)):=by rw[← Cn];omega
   have BH:(src.take e3).drop at_=(c::r).take (aC bz (c::r))++46::(src.drop (e1+1)).take (aC bz (src.drop (e1+1))):=by
    have e4:e3-at_=aC bz (c::r)+(1+aC bz (src.drop (e1+1))):=by rw[← vB,← Cn (src.drop (e1+1))];omega
    have u0:src.drop e1=46::src.drop (e1+1):=by rw[Y8 hq.1.1,← getD_eq hq.1.1,hq.1.2]
    rw[Ya,e4,List.take_add,eS]
    congr 1
    rw[← eS,YL,show at_+aC bz (src.drop at_)=e1 by rw[eS,← vB];omega,u0,Nat.add_comm 1,Yc]
   have xQ:Pure Tryz.prog 106 [iv 3,sv ⟨((src.take e3).drop at_).toArray⟩] (iv (kL ((src.take e3).drop at_))):=by
    have QN:((src.take e3).drop at_).length≤16384:=by rw[Zj,ZK];omega
    rw[BH]at QN ⊢
    exact hG.dec _ _ (AJ hn) (AJ hm) QN
   have afh:(c::r).drop (aC bz (c::r))=46::src.drop (e1+1):=by
    rw[← eS,YL,show at_+aC bz (src.drop at_)=e1 by rw[eS,← vB];omega,Y8 hq.1.1,← getD_eq hq.1.1,hq.1.2]
   have hV:tR at_ (aS (c::r))= .aT [iv 3,iv (e3:Nat),iv (kL ((src.take e3).drop at_))]:=by
    rw[EZ h3,afh,Z8 ⟨rfl,hm⟩]
    have e4:aC bz (c::r)+1+aC bz (src.drop (e1+1))=e3-at_:=by rw[← vB,← Cn (src.drop (e1+1))];omega
    show AV.aT [iv 3,iv ((at_+(aC bz (c::r)+1+aC bz (src.drop (e1+1))):Nat)),iv (kL ((c::r).take (aC bz (c::r)+1+aC bz (src.drop (e1+1)))))]=_
    rw[e4,← eS,← Ya,show at_+(e3-at_)=e3 by omega]
   have j8:(decide ((e1:Int)<src.length) && decide (((src.getD e1 default).toNat:Int)=46) && decide (IntKind.i64.wrap ((e1:Int)+1)<e3))=true:=by
    rw[tc,hq.1.2];simp;exact⟨hq.1.1,by omega⟩
   have mT:decide ((3:Int)=3)=true:=rfl
   have h31:decide ((3:Int)=1)=false:=rfl
   have h36:decide ((3:Int)=6)=false:=rfl
   have h32:decide ((3:Int)=2)=false:=rfl
   repeat'(first|exact .nil|refine .k0 ?_|refine .k1 ?_|refine .k2 ?_|refine .k3 ?_|refine .k4 ?_|refine .k6 ?_|refine .k7 ?_|(refine .cd ?_ ?_<;>(intro hc;first|exact kf hc (by assumption)|exact kt hc (by assumption)|skip))|refine .r1 ?_ ?_|(refine .m2 ?_ ?_;intro hlen)|refine .t1 ?_ ?_ ?_|refine .t4 ?_ ?_ ?_|refine .an rfl (by intro br;first|exact Eo (src.drop at_) (by rw[eS];simp) 10 nn|exact Co [3] (by simp) src hl true nn _ at_ e1 rfl Qu (by omega)|exact Co [3] (by simp) src hl true nn _ (e1+1) e3 (by rw[bG (by omega)];rfl) Qv (by first|omega|fail)|exact xQ) ?_ ?_|refine .r5 ?_ ?_|fail)
   try any_goals(exact Zo)
   all_goals first
   |exact Z7 rfl
   |exact Sx.Fin.wk Zs (.oK hV.symm)
   |skip
  ·have hV:tR at_ (aS (c::r))= .aT [iv 2,iv (e1:Nat),iv (nr ((src.take e1).drop at_))]:=by
    rw[EZ h3,Z9 ?_]
    ·show AV.aT [iv 2,iv ((at_+aC bz (c::r):Nat)),iv (nr ((c::r).take (aC bz (c::r))))]=_
     rw[← tj,show at_+aC bz (c::r)=e1 by rw[← vB];omega]
    ·rintro⟨g1,g2⟩
     have jM:(c::r).drop (aC bz (c::r))=src.drop e1:=by
      rw[← eS,YL,show at_+aC bz (src.drop at_)=e1 by rw[eS,← vB];omega]
     rw[jM]at g1 g2
     rw[YL,← Cn]at g2
     have pH:e1<src.length:=by
      by_cases h:e1<src.length
      ·exact h
      ·rw[X3 (by omega)]at g1;cases g1
     rw[Y8 pH,List.head?_cons,Z1,← getD_eq pH]at g1
     exact hq ⟨⟨pH,g1⟩,by omega⟩
   have j8:(decide ((e1:Int)<src.length) && decide (((src.getD e1 default).toNat:Int)=46) && decide (IntKind.i64.wrap ((e1:Int)+1)<e3))=false:=by
    rw[tc,Bool.eq_false_iff]
    intro h
    simp only[Z0,Zq]at h
    exact hq ⟨⟨by omega,Yr.1 (by show(src.getD e1 default).toNat=46;omega)⟩,by omega⟩
   have mT:decide ((3:Int)=3)=true:=rfl
   have h31:decide ((3:Int)=1)=false:=rfl
   have h36:decide ((3:Int)=6)=false:=rfl
   have h32:decide ((3:Int)=2)=false:=rfl
   repeat'(first|exact .nil|refine .k0 ?_|refine .k1 ?_|refine .k2 ?_|refine .k3 ?_|refine .k4 ?_|refine .k6 ?_|refine .k7 ?_|refine .k9 ?_|(refine .cd ?_ ?_<;>(intro hc;first|exact kf hc (by assumption)|exact kt hc (by assumption)|skip))|refine .r1 ?_ ?_|(refine .m2 ?_ ?_;intro hlen)|refine .t1 ?_ ?_ ?_|refine .t4 ?_ ?_ ?_|refine .an rfl (by intro br;first|exact Eo (src.drop at_) (by rw[eS];simp) 10 nn|exact Co [3] (by simp) src hl true nn _ at_ e1 rfl Qu (by omega)|exact Co [3] (by simp) src hl true nn _ (e1+1) e3 (by rw[bG (by omega)];rfl) Qv (by(simp at br;omega))|exact j5|fail) ?_ ?_|refine .r5 ?_ ?_|fail)
   try any_goals(exact Zo)
   all_goals first
   |exact Z7 rfl
   |exact Sx.Fin.wk Zs (.oK hV.symm)
   |skip
 have Bh:src.drop (at_+1)=r:=by
  have:=Y8 ha
  rw[eS]at this
  exact(List.cons.inj this).2.symm
 have ayz:r.length=src.length-(at_+1):=by rw[← Bh,Zj]
 have hA1:(IntKind.i64.wrap ((at_:Int)+1)).toNat=at_+1:=by rw[ib];rfl
 have hsr:∀ q,q<r.length→src.getD (at_+1+q) default=r.getD q default:=fun q hq=>by
  rw[getD_eq (by omega),getD_eq hq]
  have:r[q]=(src.drop (at_+1))[q]'(by rw[Zj];omega):=by simp only[Bh]
  rw[this,XI]
 by_cases h1:aE c=1
 ·have hV:tR at_ (aS (c::r))= .aT [iv 0,iv (at_+1:Nat),iv 0]:=by rw[p_1 h1];rfl
  refine qE (.v (.int .u8 1)) rfl (fun _=> ?_) rfl .nil ?_
  ·have:=qK c;rw[fx];rw[h1]at this;simpa[jx]using this
  have d1:decide ((1:Int)=1)=true:=rfl
  repeat'(first|exact .nil|refine .k0 ?_|refine .k1 ?_|refine .k2 ?_|refine .k6 ?_|refine .k7 ?_|(refine .cd ?_ ?_<;>(intro hc;first|exact kf hc (by assumption)|skip))|refine .r1 ?_ ?_|fail)
  rw[ib]
  exact Sx.Fin.wk Zs (.oK hV.symm)
 by_cases h6:aE c=6
 ·refine qE (.v (.int .u8 6)) rfl (fun _=> ?_) rfl .nil ?_
  ·have:=qK c;rw[fx];rw[h6]at this;simpa[jx]using this
  have d1:decide ((6:Int)=1)=false:=rfl
  have d6:decide ((6:Int)=6)=true:=rfl
  repeat'(first|exact .nil|refine .k0 ?_|refine .k1 ?_|refine .k2 ?_|refine .k5 ?_|refine .k6 ?_|refine .k7 ?_|refine .k9 ?_|(refine .cd ?_ ?_<;>(intro hc;first|exact kf hc (by assumption)|exact kt hc (by assumption)|skip))|refine .r1 ?_ ?_|refine .t3 ?_ ?_ ?_|refine .an rfl (by intro br;first|exact Eo (src.drop at_) (by rw[eS];simp) 10 nn|fail) ?_ ?_|refine .r2 ?_ ?_|fail)
  try any_goals(exact Zo)
  all_goals(try simp only[BL]at *)
  ·have hm:=(yo _ _).1 hc
   have hV:tR at_ (aS (c::r))= .aT [iv 0,iv (at_+aC (fun b=>b != 10) (src.drop at_):Nat),iv 0]:=by rw[E1 h6,eS];rfl
   rw[hV,afp _ _ hm]
   have fJ:aC (fun b=>b != 10) (src.drop at_)≤(src.drop at_).length:=by unfold aC;exact(List.takeWhile_sublist _).length_le
   rw[Zj]at fJ
   rw[bG (by omega)]
   exact Sx.Fin.wk Zs (.refl _)
  ·have hm:¬(10:UInt8)∈src.drop at_:=fun h=>hc ((yo _ _).2 h)
   have fJ:aC (fun b=>b != 10) (src.drop at_)=(src.drop at_).length:=UA fun b hb=>by
    have:b≠10:=fun e=>hm (e ▸ hb)
    simp[this]
   have hV:tR at_ (aS (c::r))= .aT [iv 0,iv (src.length:Nat),iv 0]:=by
    rw[E1 h6,← eS,fJ,Zj]
    show AV.aT [iv 0,iv (at_+(src.length-at_):Nat),iv 0]=_
    rw[show at_+(src.length-at_)=src.length by omega]
   exact Sx.Fin.wk Zs (.oK hV.symm)
 by_cases h2:aE c=2
 ·have hWw:aC fQ (c::r)=e2-at_:=by rw[← eS,← aia];omega
  have hV:tR at_ (aS (c::r))= .aT [iv 1,iv (e2:Nat),iv (if e2-at_>24 then 2 else 0)]:=by
   rw[Kp h2,hWw]
   show AV.aT [iv 1,iv (at_+(e2-at_):Nat),_]=_
   rw[show at_+(e2-at_)=e2 by omega]
  rw[hV]
  refine qE (.v (.int .u8 2)) rfl (fun _=> ?_) rfl .nil ?_
  ·have:=qK c;rw[fx];rw[h2]at this;simpa[jx]using this
  have d1:decide ((2:Int)=1)=false:=rfl
  have d6:decide ((2:Int)=6)=false:=rfl
  have d2:decide ((2:Int)=2)=true:=rfl
  repeat'(first|exact .nil|refine .k0 ?_|refine .k1 ?_|refine .k2 ?_|refine .k6 ?_|refine .k7 ?_|refine .k9 ?_|(refine .cd ?_ ?_<;>(intro hc;first|exact kf hc (by assumption)|exact kt hc (by assumption)|skip))|refine .r1 ?_ ?_|refine .an rfl (by intro br;first|exact Co [2,3,4] (by simp) src hl true nn _ at_ e2 rfl D2 (by omega)|fail) ?_ ?_|fail)
  all_goals(try simp only[BL]at *)
  ·exact Z7 rfl
  ·rw[bG (by omega)]at hc;rw[Z8 (by omega)];exact Sx.Fin.wk Zs (.refl _)
  ·rw[bG (by omega)]at hc;rw[Z9 (by omega)];exact Sx.Fin.wk Zs (.refl _)
 by_cases h5:aE c=5
 ·have DL:Pure Tryz.prog 107 [.sl nn 1 ((src.drop (IntKind.i64.wrap ((at_:Int)+1)).toNat).map ck),sv ⟨#[34,10]⟩] (iv (iy r)):=by
   rw[hA1,Bh];exact hA r nn (by omega)
  have gD:∀ q:Nat,q≤16384→IntKind.i64.wrap (((at_+1:Nat):Int)+(q:Nat))=((at_+1+q:Nat):Int):=fun q hq=>by rw[bG (by omega)];omega
  have Ek:∀ q:Nat,q≤16384→IntKind.i64.wrap ((at_:Int)+(q:Nat))=((at_+q:Nat):Int):=fun q hq=>by rw[bG (by omega)];omega
  have oC:∀ q:Nat,q≤16384→IntKind.i64.wrap (((at_+q:Nat):Int)+1)=((at_+q+1:Nat):Int):=fun q hq=>by rw[bG (by omega)];omega
  have hw5:∀ q:Nat,q≤16384→IntKind.i64.wrap (((at_+q:Nat):Int)+2)=((at_+q+2:Nat):Int):=fun q hq=>by rw[bG (by omega)];omega
  refine qE (.v (.int .u8 5)) rfl (fun _=> ?_) rfl .nil ?_
  ·have:=qK c;rw[fx];rw[h5]at this;simpa[jx]using this
  have d1:decide ((5:Int)=1)=false:=rfl
  have d6:decide ((5:Int)=6)=false:=rfl
  have d2:decide ((5:Int)=2)=false:=rfl
  have d3:decide ((5:Int)=3)=false:=rfl
  have d5:decide ((5:Int)=5)=true:=rfl
  by_cases ef:34∈r∨10∈r
  ·obtain⟨jP,eG⟩:=awy (p:=fun b=>b != 34 && b != 10) (s:=r) (by
    rcases ef with h|h
    ·exact⟨34,h,rfl⟩
    ·exact⟨10,h,rfl⟩)
   have Ie:iy r=(aC (fun b=>b != 34 && b != 10) r:Nat):=Z8 ef
   have Iv:=E0 (r:=r) h5
   generalize aC (fun b=>b != 34 && b != 10) r=q at *
   rw[Ie]at DL
   have yh:src.getD (at_+1+q) default=r.getD q default:=hsr q jP
   have yi:r.getD q default=34∨r.getD q default=10:=by
    rw[Bool.and_eq_false_iff]at eG
    rcases eG with h|h
    ·exact .inl (by simpa using h)
    ·exact .inr (by simpa using h)
   have hqh:(r.drop q).head? =some (r.getD q default):=by rw[Y8 jP,List.head?_cons,getD_eq jP]
   rw[hqh]at Iv
   repeat'(first|exact .nil|refine .k0 ?_|refine .k1 ?_|refine .k2 ?_|refine .k3 ?_|refine .k6 ?_|refine .k7 ?_|refine .k9 ?_|(refine .cd ?_ ?_<;>(intro hc;first|exact kf hc (by assumption)|exact kt hc (by assumption)|skip))|refine .r1 ?_ ?_|refine .t1 ?_ ?_ ?_|refine .t3 ?_ ?_ ?_|refine .t4 ?_ ?_ ?_|refine .an rfl (by intro br;first|exact DL|exact axr _ _|fail) ?_ ?_|fail)
   try any_goals(exact Zo)
   all_goals(try simp only[BL]at *)
   all_goals simp only[ib,gD q (by omega),Ek q (by omega),oC q (by omega),hw5 q (by omega),YN,yh]at *
   ·have Ib:r.getD q default=10:=by
     rcases hc with h|h
     ·omega
     ·exact Yr.1 (by show(r.getD q default).toNat=10;omega)
    rw[Iv,Ib,Z9 (by decide)]
    exact Sx.Fin.wk Zs (.refl _)
   ·exact⟨by omega,by omega,by omega⟩
   ·have h34:r.getD q default=34:=by
     rcases yi with h|h
     ·exact h
     ·exact absurd (by rw[h];rfl) hc.2
    rw[Iv,h34,Z8 rfl]
    have e:(src.take (at_+q+1)).drop (at_+1)=r.take q:=by
     rw[Ya,Bh];congr 1;omega
    rw[e]
    exact Sx.Fin.wk Zs (.refl _)
   ·exact fun _=>⟨by omega,by omega⟩
  ·have Ie:iy r= -1:=Z9 ef
   rw[Ie]at DL
   have hV:tR at_ (aS (c::r))= .aT [iv (-1),iv (at_+1:Nat),iv 80]:=by
    have fJ:aC (fun b=>b != 34 && b != 10) r=r.length:=UA fun b hb=>by
     have h1:b≠34:=fun e=>ef (.inl (e ▸ hb))
     have h2:b≠10:=fun e=>ef (.inr (e ▸ hb))
     simp[h1,h2]
    rw[E0 h5,fJ,List.drop_length,Z9 (by simp)]
    rfl
   repeat'(first|exact .nil|refine .k0 ?_|refine .k1 ?_|refine .k2 ?_|refine .k3 ?_|refine .k4 ?_|refine .k6 ?_|refine .k7 ?_|(refine .cd ?_ ?_<;>(intro hc;first|exact kf hc (by assumption)|exact kt hc (by assumption)|skip))|refine .r1 ?_ ?_|refine .t1 ?_ ?_ ?_|refine .t3 ?_ ?_ ?_|refine .an rfl (by intro br;first|exact DL|fail) ?_ ?_|fail)
   try any_goals(exact Zo)
   all_goals(try simp only[BL]at *)
   all_goals simp only[ib]at *
   all_goals first
   |exact Sx.Fin.wk Zs (.oK hV.symm)
   |(exfalso;omega)
   |exact fun h=>absurd h (by decide)
   |skip
 have xY:r.head? =some 61↔(at_+1<src.length∧src.getD (at_+1) default=61):=by
  by_cases h:at_+1<src.length
  ·rw[← Bh,Y8 h,List.head?_cons,Z1,getD_eq h]
   exact⟨fun e=>⟨h,e⟩,fun e=>e.2⟩
  ·have:r=[]:=ZO (by omega)
   rw[this]
   exact⟨fun e=>(by cases e),fun e=>absurd e.1 h⟩
 have Rv:IntKind.i64.wrap (((at_+1:Nat):Int)+1)=((at_+2:Nat):Int):=by rw[bG (by omega)];omega
 by_cases PX:aE c=7
 ·refine qE (.v (.int .u8 7)) rfl (fun _=> ?_) rfl .nil ?_
  ·have:=qK c;rw[fx];rw[PX]at this;simpa[jx]using this
  have d1:decide ((7:Int)=1)=false:=rfl
  have d6:decide ((7:Int)=6)=false:=rfl
  have d2:decide ((7:Int)=2)=false:=rfl
  have d3:decide ((7:Int)=3)=false:=rfl
  have d5:decide ((7:Int)=5)=false:=rfl
  have d7:decide ((7:Int)=7)=true:=rfl
  repeat'(first|exact .nil|refine .k0 ?_|refine .k1 ?_|refine .k2 ?_|refine .k3 ?_|refine .k4 ?_|refine .k6 ?_|refine .k7 ?_|refine .k9 ?_|(refine .cd ?_ ?_<;>(intro hc;first|exact kf hc (by assumption)|exact kt hc (by assumption)|skip))|refine .r1 ?_ ?_|(refine .m2 ?_ ?_;intro hlen)|refine .t1 ?_ ?_ ?_|refine .an rfl (by intro br;first|exact RB _ _|fail) ?_ ?_|fail)
  try any_goals(exact Zo)
  all_goals(try simp only[BL]at *)
  all_goals simp only[ib,Rv,YN,fx,RD]at *
  ·rw[tQ (by omega),Z8 ⟨xY.2 ⟨by omega,Yr.1 (by show(src.getD (at_+1) default).toNat=61;omega)⟩,hc.2⟩]
   exact Sx.Fin.wk Zs (.refl _)
  ·rename_i ob
   have mT:c≠33:=fun e=>hc (by rw[e];rfl)
   rw[tQ (by omega),Z9 (fun h=> ?_),Z8 mT]
   ·exact Sx.Fin.wk Zs (.refl _)
   ·obtain⟨g1,g2⟩:=xY.1 h.1
    rcases ob with(h1|h1)|h1
    ·omega
    ·exact h1 (by rw[g2];rfl)
    ·exact h1 h.2
  ·rename_i ob
   have mT:c=33:=Yr.1 (by show c.toNat=33;omega)
   rw[tQ (by omega),Z9 (fun h=> ?_),Z9 (fun h=>h mT)]
   ·exact Sx.Fin.wk Zs (.refl _)
   ·obtain⟨g1,g2⟩:=xY.1 h.1
    rcases ob with(h1|h1)|h1
    ·omega
    ·exact h1 (by rw[g2];rfl)
    ·exact h1 h.2
 by_cases PY:aE c=8
 ·refine qE (.v (.int .u8 8)) rfl (fun _=> ?_) rfl .nil ?_
  ·have:=qK c;rw[fx];rw[PY]at this;simpa[jx]using this
  have d1:decide ((8:Int)=1)=false:=rfl
  have d6:decide ((8:Int)=6)=false:=rfl
  have d2:decide ((8:Int)=2)=false:=rfl
  have d3:decide ((8:Int)=3)=false:=rfl
  have d5:decide ((8:Int)=5)=false:=rfl
  have d7:decide ((8:Int)=7)=false:=rfl
  have d8:decide ((8:Int)=8)=true:=rfl
  repeat'(first|exact .nil|refine .k0 ?_|refine .k1 ?_|refine .k2 ?_|refine .k3 ?_|refine .k4 ?_|refine .k6 ?_|refine .k7 ?_|refine .k9 ?_|(refine .cd ?_ ?_<;>(intro hc;first|exact kf hc (by assumption)|exact kt hc (by assumption)|skip))|refine .r1 ?_ ?_|(refine .m2 ?_ ?_;intro hlen)|refine .t1 ?_ ?_ ?_|refine .an rfl (by intro br;first|exact RB _ _|fail) ?_ ?_|fail)
  try any_goals(exact Zo)
  all_goals(try simp only[BL]at *)
  all_goals simp only[ib,Rv,YN,fx,RD]at *
  ·rw[tQ (by omega),Z8 ⟨xY.2 ⟨by omega,Yr.1 (by show(src.getD (at_+1) default).toNat=61;omega)⟩,hc.2⟩]
   exact Sx.Fin.wk Zs (.refl _)
  ·rename_i ob
   have mT:c≠33:=fun e=>hc (by rw[e];rfl)
   rw[tQ (by omega),Z9 (fun h=> ?_),Z8 mT]
   ·exact Sx.Fin.wk Zs (.refl _)
   ·obtain⟨g1,g2⟩:=xY.1 h.1
    rcases ob with(h1|h1)|h1
    ·omega
    ·exact h1 (by rw[g2];rfl)
    ·exact h1 h.2
  ·rename_i ob
   have mT:c=33:=Yr.1 (by show c.toNat=33;omega)
   rw[tQ (by omega),Z9 (fun h=> ?_),Z9 (fun h=>h mT)]
   ·exact Sx.Fin.wk Zs (.refl _)
   ·obtain⟨g1,g2⟩:=xY.1 h.1
    rcases ob with(h1|h1)|h1
    ·omega
    ·exact h1 (by rw[g2];rfl)
    ·exact h1 h.2
 ·refine qE (.v (.int .u8 (aE c:Nat))) rfl (fun _=> ?_) rfl .nil ?_
  ·have:=qK c;rw[fx];simpa[jx]using this
  have d1:decide (((aE c:Nat):Int)=1)=false:=by simp;omega
  have d6:decide (((aE c:Nat):Int)=6)=false:=by simp;omega
  have d2:decide (((aE c:Nat):Int)=2)=false:=by simp;omega
  have d3:decide (((aE c:Nat):Int)=3)=false:=by simp;omega
  have d5:decide (((aE c:Nat):Int)=5)=false:=by simp;omega
  have d7:decide (((aE c:Nat):Int)=7)=false:=by simp;omega
  have d8:decide (((aE c:Nat):Int)=8)=false:=by simp;omega
  repeat'(first|exact .nil|refine .k0 ?_|refine .k1 ?_|refine .k2 ?_|refine .k6 ?_|refine .k7 ?_|refine .k9 ?_|(refine .cd ?_ ?_<;>(intro hc;first|exact kt hc (by assumption)|skip))|refine .r1 ?_ ?_|fail)
  rw[ib,Ko ⟨h1,h6,h2,h3,h5,PX,PY⟩]
  exact Sx.Fin.wk Zs (.refl _)
end Go.Proofs.YtcccbdelfhgmlaaGreatDoor
set_option maxHeartbeats 8000000
namespace Go.Proofs.YtcccbdelfhgmlaaGreatDoor
open Go.Proofs
def acD:Go.Shelf.Ren:=⟨fun|32=>145|49=>183|n=>n,fun|0=>0|3=>3|4=>4|5=>5|21=>21|25=>138|30=>42|33=>205|66=>129|68=>251|69=>252|n=>n,fun|2=>6|3=>7|n=>n⟩
theorem acB:Go.Proofs.Lays7.n32 Tryz.prog acD:=Go.Sx.rN
end Go.Proofs.YtcccbdelfhgmlaaGreatDoor
