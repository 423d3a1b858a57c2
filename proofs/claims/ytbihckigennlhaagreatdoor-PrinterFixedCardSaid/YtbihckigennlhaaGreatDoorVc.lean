/- The lexer: a piece. -/
import Derived.Test.YtbihckigennlhaaGreatDoorVb
import Derived.Shelf.Spec.DecodeRune
import Derived.Test.YtbihckigennlhaaGreatDoorPt
set_option linter.unusedSimpArgs false
set_option linter.unusedVariables false
set_option linter.unusedSectionVars false
set_option maxRecDepth 100000
set_option maxHeartbeats 4000000
namespace Go.Proofs.YtbihckigennlhaaGreatDoor
open Go.Sx Go.Proofs Go.RowKit
structure sX:Prop where
 int:∀ l:List UInt8,gN l→l.length≤16384→Pure Tryz.prog 95 [iv 2,sv ⟨l.toArray⟩] (iv (kD l))
 dec:∀ a b:List UInt8,gN a→gN b→(a++46::b).length≤16384→Pure Tryz.prog 95 [iv 3,sv ⟨(a++46::b).toArray⟩] (iv (jn (a++46::b)))
def ga(l:List UInt8):Int:=if 34∈l∨10∈l then az (fun b=>b != 34 && b != 10) l else -1
def sU:Prop:=∀ (l:List UInt8) (nn:Bool),l.length≤16384→Pure Tryz.prog 96 [.sl nn 1 (l.map bA),sv ⟨#[34,10]⟩] (iv (ga l))
theorem Mz{p q:UInt8→Bool}(h:∀ b,p b=q b)(s:List UInt8):az p s=az q s:=by
 rw[show p=q from funext h]
theorem ab7(s:List UInt8):runN [2,3,4] s=az eM s:=Mz (fun b=>by
 unfold eM
 have h9:aB b<9:=by unfold aB;repeat' split
                    all_goals omega
 generalize aB b=k at *
 match k,h9 with
 |0,_|1,_|2,_|3,_|4,_|5,_|6,_|7,_|8,_=>rfl) s
theorem xP(s:List UInt8):runN [3] s=az aW s:=Mz (fun b=>by
 unfold aW
 have h9:aB b<9:=by unfold aB;repeat' split
                    all_goals omega
 generalize aB b=k at *
 match k,h9 with
 |0,_|1,_|2,_|3,_|4,_|5,_|6,_|7,_|8,_=>rfl) s
theorem xQ(ps:List UInt8)(al:ps≠[])(src:List UInt8)(hl:src.length≤16384)(nn n2:Bool)(z:Int)(from_ k:Nat)(hz:z=from_)(hk:from_+runN ps (src.drop from_)=k)(hf:from_≤src.length):
  Pure Tryz.prog 93 [.v (.int .i64 z),.sl nn 1 (ps.map bA),.pc [.sl n2 1 (src.map bA)],.pc [.pc jm]] (iv (k:Nat)):=by
 subst hz;subst hk;exact ab8 ps al src hl nn n2 from_ hf
theorem MA(p:UInt8→Bool):∀ s:List UInt8,s.take (az p s)=s.takeWhile p
 |[]=>rfl
 |b::s=>by
  have ih:=MA p s
  unfold az at *
  by_cases h:p b=true
  ·rw[ZB,if_pos h,Z8,Yr,ih]
  ·rw[ZB,if_neg h];rfl
theorem KQ{p:UInt8→Bool}{b:UInt8}:∀ {s:List UInt8},b∈s.takeWhile p→p b=true
 |a::s,h=>by
  by_cases ha:p a=true
  ·rw[ZB,if_pos ha]at h
   rcases ZU.1 h with rfl|h
   ·exact ha
   ·exact KQ h
  ·rw[ZB,if_neg ha]at h;cases h
theorem Rs{b:UInt8}(h:aB b=3):48≤b.toNat∧b.toNat≤57:=by
 unfold aB at h
 split at h
 ·cases h
 split at h
 ·cases h
 split at h
 ·rename_i h3;exact h3
 repeat' split at h
 all_goals cases h
theorem we{s:List UInt8}(h:0<az aW s):gN (s.take (az aW s)):=by
 rw[MA]
 refine⟨fun e=> ?_,fun b hb=> ?_⟩
 ·unfold az at h;rw[e]at h;exact absurd h (by simp)
 ·have:=KQ hb
  unfold aW at this
  exact Rs (of_decide_eq_true this)
theorem Kf{c:UInt8}:0≤Lib.indexByte [61,33,60] c↔c=61∨c=33∨c=60:=by
 rw[uA];simp
theorem p_1{c:UInt8}{r:List UInt8}(h:aB c=1):aJ (c::r)=(0,1,0):=by unfold aJ;dsimp only;rw[if_pos h]
theorem Ak{c:UInt8}{r:List UInt8}(h:aB c=6):aJ (c::r)=(0,az (fun b=>b != 10) (c::r),0):=by unfold aJ;dsimp only;rw[if_neg (by omega),if_pos h]
theorem Eb{c:UInt8}{r:List UInt8}(h:aB c=2):aJ (c::r)=(1,az eM (c::r),if az eM (c::r)>24 then 2 else 0):=by unfold aJ;dsimp only;rw[if_neg (by omega),if_neg (by omega),if_pos h]
theorem Ai{c:UInt8}{r:List UInt8}(h:aB c=3):aJ (c::r)=if((c::r).drop (az aW (c::r))).head? =some 46∧az aW (((c::r).drop (az aW (c::r))).drop 1)>0 then(3,az aW (c::r)+1+az aW (((c::r).drop (az aW (c::r))).drop 1),jn ((c::r).take (az aW (c::r)+1+az aW (((c::r).drop (az aW (c::r))).drop 1))))else(2,az aW (c::r),kD ((c::r).take (az aW (c::r)))):=by
 unfold aJ;dsimp only;rw[if_neg (by omega),if_neg (by omega),if_neg (by omega),if_pos h]
theorem Aj{c:UInt8}{r:List UInt8}(h:aB c=5):aJ (c::r)=if(r.drop (az (fun b=>b != 34 && b != 10) r)).head? =some 34 then(4,az (fun b=>b != 34 && b != 10) r+2,sB (r.take (az (fun b=>b != 34 && b != 10) r)))else(-1,1,80):=by
 unfold aJ;dsimp only;rw[if_neg (by omega),if_neg (by omega),if_neg (by omega),if_neg (by omega),if_pos h]
theorem qa{c:UInt8}{r:List UInt8}(h:aB c=7∨aB c=8):aJ (c::r)=if r.head? =some 61∧(c=61∨c=33∨c=60)then(5,2,0)else if c≠33 then(5,1,0)else(-1,1,80):=by
 unfold aJ;dsimp only;rw[if_neg (by omega),if_neg (by omega),if_neg (by omega),if_neg (by omega),if_neg (by omega),if_pos h]
theorem Ea{c:UInt8}{r:List UInt8}(h:aB c≠1∧aB c≠6∧aB c≠2∧aB c≠3∧aB c≠5∧aB c≠7∧aB c≠8):aJ (c::r)=(-1,1,80):=by
 unfold aJ;dsimp only;rw[if_neg (by omega),if_neg (by omega),if_neg (by omega),if_neg (by omega),if_neg (by omega),if_neg (by omega)]
theorem My{p:UInt8→Bool}{s:List UInt8}(h:∀ b∈s,p b=true):az p s=s.length:=by
 induction s with
 |nil=>rfl
 |cons a s ih=>
  have:=ih fun b hb=>h b (ZX _ hb)
  unfold az at *
  rw[ZB,if_pos (h a ZR),Z8,this,Z8]
theorem asg{p:UInt8→Bool}{s:List UInt8}(h:∃ b∈s,p b=false):az p s<s.length∧p (s.getD (az p s) default)=false:=by
 induction s with
 |nil=>obtain⟨b,hb,_⟩:=h;cases hb
 |cons a s ih=>
  unfold az at *
  by_cases ha:p a=true
  ·rw[ZB,if_pos ha,Z8,Z8]
   obtain⟨b,hb,hp⟩:=h
   have fV:b∈s:=by
    rcases ZU.1 hb with rfl|hb
    ·rw[ha]at hp;cases hp
    ·exact hb
   obtain⟨g1,g2⟩:=ih ⟨b,fV,hp⟩
   exact⟨by omega,by rw[Yc];exact g2⟩
  ·rw[ZB,if_neg ha]
   exact⟨by simp,by rw[Z2,List.getD_cons_zero];simpa using ha⟩
def qb(at_:Nat)(p:Int×Nat×Int):AV:= .aL [iv p.1,iv (at_+p.2.1:Nat),iv p.2.2]
theorem Lx(hG:sX)(hA:sU)(src:List UInt8)(hl:src.length≤16384)(nn:Bool)(at_:Nat)(ha:at_<src.length):
  Pure Tryz.prog 49 [.sl nn 1 (src.map bA),iv at_,.pc jm] (qb at_ (aJ (src.drop at_))):=by
 refine Pure.cN (fun i=>bif Nat.beq i 1000021 then 1 else 0) Tryz.func49 R2 Tg (Z9 rfl) fun σ=> ?_
 first|refine .k1 ?_|fail
 first|refine .k2 ?_|fail
 repeat'((fail_if_success (show WK _ _ _ _ _ _ _ _));(first|exact .nil|refine .k0 ?_|refine .k1 ?_|refine .r1 ?_ ?_|(refine .m1 ?_ ?_;intro b)|fail))
 rename_i b3
 refine ji rfl ?_
 refine BD 5 b (.here) (.same (.same (.p0 (.same .nil)))) ?_
 refine BD 3 b3 (.here) (.same (.p0 (.same (.same .nil)))) ?_
 obtain⟨c,r,eX⟩:∃ c r,src.drop at_=c::r:=⟨src[at_],src.drop (at_+1),Zi ha⟩
 have ep:src.getD at_ default=c:=by
  rw[getD_eq ha]
  have:=Zi ha
  rw[eX]at this
  exact(List.cons.inj this).1.symm
 have iT:(c::r).length=src.length-at_:=by rw[← eX,Zq]
 obtain⟨e2,zD⟩:∃ e2,at_+runN [2,3,4] (src.drop at_)=e2:=⟨_,rfl⟩
 obtain⟨e1,Jo⟩:∃ e1,at_+runN [3] (src.drop at_)=e1:=⟨_,rfl⟩
 obtain⟨e3,Jp⟩:∃ e3,e1+1+runN [3] (src.drop (e1+1))=e3:=⟨_,rfl⟩
 have eW:=Eu [2,3,4] (src.drop at_)
 have UG:=Eu [3] (src.drop at_)
 have rm:=Eu [3] (src.drop (e1+1))
 rw[Zq]at UG eW rm
 have iC:IntKind.i64.wrap ((at_:Int)+1)=((at_+1:Nat):Int):=by rw[bw (by omega)];rfl
 have hpc:(c::r)=src.drop at_:=eX.symm
 have od:IntKind.i64.wrap ((e1:Int)+1)=((e1+1:Nat):Int):=by rw[bw (by omega)];rfl
 have rK:runN [3] (src.drop at_)=az aW (c::r):=by rw[xP,eX]
 have ui:(src.take e1).drop at_=(c::r).take (az aW (c::r)):=by
  rw[Yo,eX,← rK];congr 1;omega
 rw[eX]
 repeat'(first|exact .nil|refine .k0 ?_|refine .k1 ?_|refine .k2 ?_|refine .k5 ?_|refine .r1 ?_ ?_|refine .t1 ?_ ?_ ?_|fail)
 all_goals(try simp only[BL]at *)
 rotate_right
 ·exact⟨by omega,by omega⟩
 ·exact⟨by omega,by have:=(src.getD at_ default).toNat_lt;show _<(256:Int);omega⟩
 by_cases h3:aB c=3
 ·have hn:0<az aW (c::r):=by
   unfold az
   rw[ZB,if_pos (by unfold aW;exact Zn h3),Z8]
   omega
  have jK:=hG.int ((src.take e1).drop at_) (by rw[ui];exact we hn) (by rw[Zq,ZW];omega)
  refine nM (.v (.int .u8 3)) rfl (fun _=> ?_) rfl .nil ?_
  ·have:=nS c;rw[ep];rw[h3]at this;simpa[gZ]using this
  by_cases hq:(e1<src.length∧src.getD e1 default=46)∧e1+1<e3
  ·have hm:0<az aW (src.drop (e1+1)):=by rw[← xP];omega
   have VT:(src.take e3).drop at_=(c::r).take (az aW (c::r))++46::(src.drop (e1+1)).take (az aW (src.drop (e1+1))):=by
    have e4:e3-at_=az aW (c::r)+(1+az aW (src.drop (e1+1))):=by rw[← rK,← xP (src.drop (e1+1))];omega
    have qW:src.drop e1=46::src.drop (e1+1):=by rw[Zi hq.1.1,← getD_eq hq.1.1,hq.1.2]
    rw[Yo,e4,List.take_add,eX]
    congr 1
    rw[← eX,YP,show at_+az aW (src.drop at_)=e1 by rw[eX,← rK];omega,qW,Nat.add_comm 1,Yr]
   have CO:Pure Tryz.prog 95 [iv 3,sv ⟨((src.take e3).drop at_).toArray⟩] (iv (jn ((src.take e3).drop at_))):=by
    have JJ:((src.take e3).drop at_).length≤16384:=by rw[Zq,ZW];omega
    rw[VT]at JJ ⊢
    exact hG.dec _ _ (we hn) (we hm) JJ
   have V5:(c::r).drop (az aW (c::r))=46::src.drop (e1+1):=by
    rw[← eX,YP,show at_+az aW (src.drop at_)=e1 by rw[eX,← rK];omega,Zi hq.1.1,← getD_eq hq.1.1,hq.1.2]
   have hV:qb at_ (aJ (c::r))= .aL [iv 3,iv (e3:Nat),iv (jn ((src.take e3).drop at_))]:=by
    rw[Ai h3,V5,if_pos ⟨rfl,hm⟩]
    have e4:az aW (c::r)+1+az aW (src.drop (e1+1))=e3-at_:=by rw[← rK,← xP (src.drop (e1+1))];omega
    show AV.aL [iv 3,iv ((at_+(az aW (c::r)+1+az aW (src.drop (e1+1))):Nat)),iv (jn ((c::r).take (az aW (c::r)+1+az aW (src.drop (e1+1)))))]=_
    rw[e4,← eX,← Yo,show at_+(e3-at_)=e3 by omega]
   have rG:(decide ((e1:Int)<src.length) && decide (((src.getD e1 default).toNat:Int)=46) && decide (IntKind.i64.wrap ((e1:Int)+1)<e3))=true:=by
    rw[od,hq.1.2];simp;exact⟨hq.1.1,by omega⟩
   have kq:decide ((3:Int)=3)=true:=rfl
   have Ua:decide ((3:Int)=1)=false:=rfl
   have Ud:decide ((3:Int)=6)=false:=rfl
   have Ub:decide ((3:Int)=2)=false:=rfl
   repeat'(first|exact .nil|refine .k0 ?_|refine .k1 ?_|refine .k2 ?_|refine .k3 ?_|refine .k4 ?_|refine .k6 ?_|refine .k7 ?_|(refine .cd ?_ ?_<;>(intro hc;first|exact kf hc (by assumption)|exact kt hc (by assumption)|skip))|refine .r1 ?_ ?_|(refine .m2 ?_ ?_;intro hlen)|refine .t1 ?_ ?_ ?_|refine .t4 ?_ ?_ ?_|refine .an rfl (by intro aO;first|exact zU (src.drop at_) (by rw[eX];simp) 10 nn|exact xQ [3] (by simp) src hl true nn _ at_ e1 rfl Jo (by omega)|exact xQ [3] (by simp) src hl true nn _ (e1+1) e3 (by rw[bw (by omega)];rfl) Jp (by first|omega|fail)|exact CO) ?_ ?_|refine .r5 ?_ ?_|fail)
   try any_goals(exact Zo)
   all_goals first
   |exact Z9 rfl
   |exact Sx.Fin.wk Zs (.lY hV.symm)
   |skip
  ·have hV:qb at_ (aJ (c::r))= .aL [iv 2,iv (e1:Nat),iv (kD ((src.take e1).drop at_))]:=by
    rw[Ai h3,if_neg ?_]
    ·show AV.aL [iv 2,iv ((at_+az aW (c::r):Nat)),iv (kD ((c::r).take (az aW (c::r))))]=_
     rw[← ui,show at_+az aW (c::r)=e1 by rw[← rK];omega]
    ·rintro⟨g1,g2⟩
     have iq:(c::r).drop (az aW (c::r))=src.drop e1:=by
      rw[← eX,YP,show at_+az aW (src.drop at_)=e1 by rw[eX,← rK];omega]
     rw[iq]at g1 g2
     rw[YP,← xP]at g2
     have mN:e1<src.length:=by
      by_cases h:e1<src.length
      ·exact h
      ·rw[Yi (by omega)]at g1;cases g1
     rw[Zi mN,List.head?_cons,Z6,← getD_eq mN]at g1
     exact hq ⟨⟨mN,g1⟩,by omega⟩
   have rG:(decide ((e1:Int)<src.length) && decide (((src.getD e1 default).toNat:Int)=46) && decide (IntKind.i64.wrap ((e1:Int)+1)<e3))=false:=by
    rw[od,Bool.eq_false_iff]
    intro h
    simp only[Z3,ZG]at h
    exact hq ⟨⟨by omega,YD.1 (by show(src.getD e1 default).toNat=46;omega)⟩,by omega⟩
   have kq:decide ((3:Int)=3)=true:=rfl
   have Ua:decide ((3:Int)=1)=false:=rfl
   have Ud:decide ((3:Int)=6)=false:=rfl
   have Ub:decide ((3:Int)=2)=false:=rfl
   repeat'(first|exact .nil|refine .k0 ?_|refine .k1 ?_|refine .k2 ?_|refine .k3 ?_|refine .k4 ?_|refine .k6 ?_|refine .k7 ?_|refine .k9 ?_|(refine .cd ?_ ?_<;>(intro hc;first|exact kf hc (by assumption)|exact kt hc (by assumption)|skip))|refine .r1 ?_ ?_|(refine .m2 ?_ ?_;intro hlen)|refine .t1 ?_ ?_ ?_|refine .t4 ?_ ?_ ?_|refine .an rfl (by intro aO;first|exact zU (src.drop at_) (by rw[eX];simp) 10 nn|exact xQ [3] (by simp) src hl true nn _ at_ e1 rfl Jo (by omega)|exact xQ [3] (by simp) src hl true nn _ (e1+1) e3 (by rw[bw (by omega)];rfl) Jp (by(simp at aO;omega))|exact jK|fail) ?_ ?_|refine .r5 ?_ ?_|fail)
   try any_goals(exact Zo)
   all_goals first
   |exact Z9 rfl
   |exact Sx.Fin.wk Zs (.lY hV.symm)
   |skip
 have wM:src.drop (at_+1)=r:=by
  have:=Zi ha
  rw[eX]at this
  exact(List.cons.inj this).2.symm
 have atS:r.length=src.length-(at_+1):=by rw[← wM,Zq]
 have Uh:(IntKind.i64.wrap ((at_:Int)+1)).toNat=at_+1:=by rw[iC];rfl
 have V2:∀ q,q<r.length→src.getD (at_+1+q) default=r.getD q default:=fun q hq=>by
  rw[getD_eq (by omega),getD_eq hq]
  have:r[q]=(src.drop (at_+1))[q]'(by rw[Zq];omega):=by simp only[wM]
  rw[this,Yu]
 by_cases h1:aB c=1
 ·have hV:qb at_ (aJ (c::r))= .aL [iv 0,iv (at_+1:Nat),iv 0]:=by rw[p_1 h1];rfl
  refine nM (.v (.int .u8 1)) rfl (fun _=> ?_) rfl .nil ?_
  ·have:=nS c;rw[ep];rw[h1]at this;simpa[gZ]using this
  have d1:decide ((1:Int)=1)=true:=rfl
  repeat'(first|exact .nil|refine .k0 ?_|refine .k1 ?_|refine .k2 ?_|refine .k6 ?_|refine .k7 ?_|(refine .cd ?_ ?_<;>(intro hc;first|exact kf hc (by assumption)|skip))|refine .r1 ?_ ?_|fail)
  rw[iC]
  exact Sx.Fin.wk Zs (.lY hV.symm)
 by_cases h6:aB c=6
 ·refine nM (.v (.int .u8 6)) rfl (fun _=> ?_) rfl .nil ?_
  ·have:=nS c;rw[ep];rw[h6]at this;simpa[gZ]using this
  have d1:decide ((6:Int)=1)=false:=rfl
  have d6:decide ((6:Int)=6)=true:=rfl
  repeat'(first|exact .nil|refine .k0 ?_|refine .k1 ?_|refine .k2 ?_|refine .k5 ?_|refine .k6 ?_|refine .k7 ?_|refine .k9 ?_|(refine .cd ?_ ?_<;>(intro hc;first|exact kf hc (by assumption)|exact kt hc (by assumption)|skip))|refine .r1 ?_ ?_|refine .t3 ?_ ?_ ?_|refine .an rfl (by intro aO;first|exact zU (src.drop at_) (by rw[eX];simp) 10 nn|fail) ?_ ?_|refine .r2 ?_ ?_|fail)
  try any_goals(exact Zo)
  all_goals(try simp only[BL]at *)
  ·have hm:=(uA _ _).1 hc
   have hV:qb at_ (aJ (c::r))= .aL [iv 0,iv (at_+az (fun b=>b != 10) (src.drop at_):Nat),iv 0]:=by rw[Ak h6,eX];rfl
   rw[hV,Wv _ _ hm]
   have eD:az (fun b=>b != 10) (src.drop at_)≤(src.drop at_).length:=by unfold az;exact(List.takeWhile_sublist _).length_le
   rw[Zq]at eD
   rw[bw (by omega)]
   exact Sx.Fin.wk Zs (.refl _)
  ·have hm:¬(10:UInt8)∈src.drop at_:=fun h=>hc ((uA _ _).2 h)
   have eD:az (fun b=>b != 10) (src.drop at_)=(src.drop at_).length:=My fun b hb=>by
    have:b≠10:=fun e=>hm (e ▸ hb)
    simp[this]
   have hV:qb at_ (aJ (c::r))= .aL [iv 0,iv (src.length:Nat),iv 0]:=by
    rw[Ak h6,← eX,eD,Zq]
    show AV.aL [iv 0,iv (at_+(src.length-at_):Nat),iv 0]=_
    rw[show at_+(src.length-at_)=src.length by omega]
   exact Sx.Fin.wk Zs (.lY hV.symm)
 by_cases h2:aB c=2
 ·have UB:az eM (c::r)=e2-at_:=by rw[← eX,← ab7];omega
  have hV:qb at_ (aJ (c::r))= .aL [iv 1,iv (e2:Nat),iv (if e2-at_>24 then 2 else 0)]:=by
   rw[Eb h2,UB]
   show AV.aL [iv 1,iv (at_+(e2-at_):Nat),_]=_
   rw[show at_+(e2-at_)=e2 by omega]
  rw[hV]
  refine nM (.v (.int .u8 2)) rfl (fun _=> ?_) rfl .nil ?_
  ·have:=nS c;rw[ep];rw[h2]at this;simpa[gZ]using this
  have d1:decide ((2:Int)=1)=false:=rfl
  have d6:decide ((2:Int)=6)=false:=rfl
  have d2:decide ((2:Int)=2)=true:=rfl
  repeat'(first|exact .nil|refine .k0 ?_|refine .k1 ?_|refine .k2 ?_|refine .k6 ?_|refine .k7 ?_|refine .k9 ?_|(refine .cd ?_ ?_<;>(intro hc;first|exact kf hc (by assumption)|exact kt hc (by assumption)|skip))|refine .r1 ?_ ?_|refine .an rfl (by intro aO;first|exact xQ [2,3,4] (by simp) src hl true nn _ at_ e2 rfl zD (by omega)|fail) ?_ ?_|fail)
  all_goals(try simp only[BL]at *)
  ·exact Z9 rfl
  ·rw[bw (by omega)]at hc;rw[if_pos (by omega)];exact Sx.Fin.wk Zs (.refl _)
  ·rw[bw (by omega)]at hc;rw[if_neg (by omega)];exact Sx.Fin.wk Zs (.refl _)
 by_cases h5:aB c=5
 ·have yX:Pure Tryz.prog 96 [.sl nn 1 ((src.drop (IntKind.i64.wrap ((at_:Int)+1)).toNat).map bA),sv ⟨#[34,10]⟩] (iv (ga r)):=by
   rw[Uh,wM];exact hA r nn (by omega)
  have rO:∀ q:Nat,q≤16384→IntKind.i64.wrap (((at_+1:Nat):Int)+(q:Nat))=((at_+1+q:Nat):Int):=fun q hq=>by rw[bw (by omega)];omega
  have zS:∀ q:Nat,q≤16384→IntKind.i64.wrap ((at_:Int)+(q:Nat))=((at_+q:Nat):Int):=fun q hq=>by rw[bw (by omega)];omega
  have Wj:∀ q:Nat,q≤16384→IntKind.i64.wrap (((at_+q:Nat):Int)+1)=((at_+q+1:Nat):Int):=fun q hq=>by rw[bw (by omega)];omega
  have Wl:∀ q:Nat,q≤16384→IntKind.i64.wrap (((at_+q:Nat):Int)+2)=((at_+q+2:Nat):Int):=fun q hq=>by rw[bw (by omega)];omega
  refine nM (.v (.int .u8 5)) rfl (fun _=> ?_) rfl .nil ?_
  ·have:=nS c;rw[ep];rw[h5]at this;simpa[gZ]using this
  have d1:decide ((5:Int)=1)=false:=rfl
  have d6:decide ((5:Int)=6)=false:=rfl
  have d2:decide ((5:Int)=2)=false:=rfl
  have d3:decide ((5:Int)=3)=false:=rfl
  have d5:decide ((5:Int)=5)=true:=rfl
  by_cases iy:34∈r∨10∈r
  ·obtain⟨iA,dH⟩:=asg (p:=fun b=>b != 34 && b != 10) (s:=r) (by
    rcases iy with h|h
    ·exact⟨34,h,rfl⟩
    ·exact⟨10,h,rfl⟩)
   have Cz:ga r=(az (fun b=>b != 34 && b != 10) r:Nat):=if_pos iy
   have CP:=Aj (r:=r) h5
   generalize az (fun b=>b != 34 && b != 10) r=q at *
   rw[Cz]at yX
   have uo:src.getD (at_+1+q) default=r.getD q default:=V2 q iA
   have uq:r.getD q default=34∨r.getD q default=10:=by
    rw[Bool.and_eq_false_iff]at dH
    rcases dH with h|h
    ·exact .inl (by simpa using h)
    ·exact .inr (by simpa using h)
   have VM:(r.drop q).head? =some (r.getD q default):=by rw[Zi iA,List.head?_cons,getD_eq iA]
   rw[VM]at CP
   repeat'(first|exact .nil|refine .k0 ?_|refine .k1 ?_|refine .k2 ?_|refine .k3 ?_|refine .k6 ?_|refine .k7 ?_|refine .k9 ?_|(refine .cd ?_ ?_<;>(intro hc;first|exact kf hc (by assumption)|exact kt hc (by assumption)|skip))|refine .r1 ?_ ?_|refine .t1 ?_ ?_ ?_|refine .t3 ?_ ?_ ?_|refine .t4 ?_ ?_ ?_|refine .an rfl (by intro aO;first|exact yX|exact asZ _ _|fail) ?_ ?_|fail)
   try any_goals(exact Zo)
   all_goals(try simp only[BL]at *)
   all_goals simp only[iC,rO q (by omega),zS q (by omega),Wj q (by omega),Wl q (by omega),YS,uo]at *
   ·have IW:r.getD q default=10:=by
     rcases hc with h|h
     ·omega
     ·exact YD.1 (by show(r.getD q default).toNat=10;omega)
    rw[CP,IW,if_neg (by decide)]
    exact Sx.Fin.wk Zs (.refl _)
   ·exact⟨by omega,by omega,by omega⟩
   ·have Uc:r.getD q default=34:=by
     rcases uq with h|h
     ·exact h
     ·exact absurd (by rw[h];rfl) hc.2
    rw[CP,Uc,if_pos rfl]
    have e:(src.take (at_+q+1)).drop (at_+1)=r.take q:=by
     rw[Yo,wM];congr 1;omega
    rw[e]
    exact Sx.Fin.wk Zs (.refl _)
   ·exact fun _=>⟨by omega,by omega⟩
  ·have Cz:ga r= -1:=if_neg iy
   rw[Cz]at yX
   have hV:qb at_ (aJ (c::r))= .aL [iv (-1),iv (at_+1:Nat),iv 80]:=by
    have eD:az (fun b=>b != 34 && b != 10) r=r.length:=My fun b hb=>by
     have h1:b≠34:=fun e=>iy (.inl (e ▸ hb))
     have h2:b≠10:=fun e=>iy (.inr (e ▸ hb))
     simp[h1,h2]
    rw[Aj h5,eD,List.drop_length,if_neg (by simp)]
    rfl
   repeat'(first|exact .nil|refine .k0 ?_|refine .k1 ?_|refine .k2 ?_|refine .k3 ?_|refine .k4 ?_|refine .k6 ?_|refine .k7 ?_|(refine .cd ?_ ?_<;>(intro hc;first|exact kf hc (by assumption)|exact kt hc (by assumption)|skip))|refine .r1 ?_ ?_|refine .t1 ?_ ?_ ?_|refine .t3 ?_ ?_ ?_|refine .an rfl (by intro aO;first|exact yX|fail) ?_ ?_|fail)
   try any_goals(exact Zo)
   all_goals(try simp only[BL]at *)
   all_goals simp only[iC]at *
   all_goals first
   |exact Sx.Fin.wk Zs (.lY hV.symm)
   |(exfalso;omega)
   |exact fun h=>absurd h (by decide)
   |skip
 have tZ:r.head? =some 61↔(at_+1<src.length∧src.getD (at_+1) default=61):=by
  by_cases h:at_+1<src.length
  ·rw[← wM,Zi h,List.head?_cons,Z6,getD_eq h]
   exact⟨fun e=>⟨h,e⟩,fun e=>e.2⟩
  ·have:r=[]:=ZO (by omega)
   rw[this]
   exact⟨fun e=>(by cases e),fun e=>absurd e.1 h⟩
 have Ka:IntKind.i64.wrap (((at_+1:Nat):Int)+1)=((at_+2:Nat):Int):=by rw[bw (by omega)];omega
 by_cases I0:aB c=7
 ·refine nM (.v (.int .u8 7)) rfl (fun _=> ?_) rfl .nil ?_
  ·have:=nS c;rw[ep];rw[I0]at this;simpa[gZ]using this
  have d1:decide ((7:Int)=1)=false:=rfl
  have d6:decide ((7:Int)=6)=false:=rfl
  have d2:decide ((7:Int)=2)=false:=rfl
  have d3:decide ((7:Int)=3)=false:=rfl
  have d5:decide ((7:Int)=5)=false:=rfl
  have d7:decide ((7:Int)=7)=true:=rfl
  repeat'(first|exact .nil|refine .k0 ?_|refine .k1 ?_|refine .k2 ?_|refine .k3 ?_|refine .k4 ?_|refine .k6 ?_|refine .k7 ?_|refine .k9 ?_|(refine .cd ?_ ?_<;>(intro hc;first|exact kf hc (by assumption)|exact kt hc (by assumption)|skip))|refine .r1 ?_ ?_|(refine .m2 ?_ ?_;intro hlen)|refine .t1 ?_ ?_ ?_|refine .an rfl (by intro aO;first|exact Ke _ _|fail) ?_ ?_|fail)
  try any_goals(exact Zo)
  all_goals(try simp only[BL]at *)
  all_goals simp only[iC,Ka,YS,ep,Kf]at *
  ·rw[qa (by omega),if_pos ⟨tZ.2 ⟨by omega,YD.1 (by show(src.getD (at_+1) default).toNat=61;omega)⟩,hc.2⟩]
   exact Sx.Fin.wk Zs (.refl _)
  ·rename_i lE
   have kq:c≠33:=fun e=>hc (by rw[e];rfl)
   rw[qa (by omega),if_neg (fun h=> ?_),if_pos kq]
   ·exact Sx.Fin.wk Zs (.refl _)
   ·obtain⟨g1,g2⟩:=tZ.1 h.1
    rcases lE with(h1|h1)|h1
    ·omega
    ·exact h1 (by rw[g2];rfl)
    ·exact h1 h.2
  ·rename_i lE
   have kq:c=33:=YD.1 (by show c.toNat=33;omega)
   rw[qa (by omega),if_neg (fun h=> ?_),if_neg (fun h=>h kq)]
   ·exact Sx.Fin.wk Zs (.refl _)
   ·obtain⟨g1,g2⟩:=tZ.1 h.1
    rcases lE with(h1|h1)|h1
    ·omega
    ·exact h1 (by rw[g2];rfl)
    ·exact h1 h.2
 by_cases I3:aB c=8
 ·refine nM (.v (.int .u8 8)) rfl (fun _=> ?_) rfl .nil ?_
  ·have:=nS c;rw[ep];rw[I3]at this;simpa[gZ]using this
  have d1:decide ((8:Int)=1)=false:=rfl
  have d6:decide ((8:Int)=6)=false:=rfl
  have d2:decide ((8:Int)=2)=false:=rfl
  have d3:decide ((8:Int)=3)=false:=rfl
  have d5:decide ((8:Int)=5)=false:=rfl
  have d7:decide ((8:Int)=7)=false:=rfl
  have d8:decide ((8:Int)=8)=true:=rfl
  repeat'(first|exact .nil|refine .k0 ?_|refine .k1 ?_|refine .k2 ?_|refine .k3 ?_|refine .k4 ?_|refine .k6 ?_|refine .k7 ?_|refine .k9 ?_|(refine .cd ?_ ?_<;>(intro hc;first|exact kf hc (by assumption)|exact kt hc (by assumption)|skip))|refine .r1 ?_ ?_|(refine .m2 ?_ ?_;intro hlen)|refine .t1 ?_ ?_ ?_|refine .an rfl (by intro aO;first|exact Ke _ _|fail) ?_ ?_|fail)
  try any_goals(exact Zo)
  all_goals(try simp only[BL]at *)
  all_goals simp only[iC,Ka,YS,ep,Kf]at *
  ·rw[qa (by omega),if_pos ⟨tZ.2 ⟨by omega,YD.1 (by show(src.getD (at_+1) default).toNat=61;omega)⟩,hc.2⟩]
   exact Sx.Fin.wk Zs (.refl _)
  ·rename_i lE
   have kq:c≠33:=fun e=>hc (by rw[e];rfl)
   rw[qa (by omega),if_neg (fun h=> ?_),if_pos kq]
   ·exact Sx.Fin.wk Zs (.refl _)
   ·obtain⟨g1,g2⟩:=tZ.1 h.1
    rcases lE with(h1|h1)|h1
    ·omega
    ·exact h1 (by rw[g2];rfl)
    ·exact h1 h.2
  ·rename_i lE
   have kq:c=33:=YD.1 (by show c.toNat=33;omega)
   rw[qa (by omega),if_neg (fun h=> ?_),if_neg (fun h=>h kq)]
   ·exact Sx.Fin.wk Zs (.refl _)
   ·obtain⟨g1,g2⟩:=tZ.1 h.1
    rcases lE with(h1|h1)|h1
    ·omega
    ·exact h1 (by rw[g2];rfl)
    ·exact h1 h.2
 ·refine nM (.v (.int .u8 (aB c:Nat))) rfl (fun _=> ?_) rfl .nil ?_
  ·have:=nS c;rw[ep];simpa[gZ]using this
  have d1:decide (((aB c:Nat):Int)=1)=false:=by simp;omega
  have d6:decide (((aB c:Nat):Int)=6)=false:=by simp;omega
  have d2:decide (((aB c:Nat):Int)=2)=false:=by simp;omega
  have d3:decide (((aB c:Nat):Int)=3)=false:=by simp;omega
  have d5:decide (((aB c:Nat):Int)=5)=false:=by simp;omega
  have d7:decide (((aB c:Nat):Int)=7)=false:=by simp;omega
  have d8:decide (((aB c:Nat):Int)=8)=false:=by simp;omega
  repeat'(first|exact .nil|refine .k0 ?_|refine .k1 ?_|refine .k2 ?_|refine .k6 ?_|refine .k7 ?_|refine .k9 ?_|(refine .cd ?_ ?_<;>(intro hc;first|exact kt hc (by assumption)|skip))|refine .r1 ?_ ?_|fail)
  rw[iC,Ea ⟨h1,h6,h2,h3,h5,I0,I3⟩]
  exact Sx.Fin.wk Zs (.refl _)
end Go.Proofs.YtbihckigennlhaaGreatDoor
set_option maxHeartbeats 8000000
namespace Go.Proofs.YtbihckigennlhaaGreatDoor
open Go.Proofs
def Sj:Go.Shelf.Ren:=⟨fun|32=>142|49=>181|n=>n,fun|0=>0|3=>3|4=>4|5=>5|21=>21|25=>206|30=>22|33=>179|66=>94|68=>233|69=>234|n=>n,fun|2=>5|3=>6|n=>n⟩
theorem Sh:Go.Proofs.Lays7.n32 Tryz.prog Sj:=Go.Sx.oK
end Go.Proofs.YtbihckigennlhaaGreatDoor
