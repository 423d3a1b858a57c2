/- The lexer: a piece. -/
import Derived.Test.YtbihckigennlhaaGreatDoorVb
import Derived.Shelf.Spec.DecodeRune
import Derived.Test.YtbihckigennlhaaGreatDoorPt
set_option linter.unusedSimpArgs false
set_option linter.unusedVariables false
set_option linter.unusedSectionVars false
set_option maxRecDepth 100000
set_option maxHeartbeats 4000000
namespace Go.Proofs.YtbihckigennlhaaGreatDoor
open Go.Sx Go.Proofs Go.RowKit
structure ux:Prop where
 int:∀ l:List UInt8,iz l→l.length≤16384→Pure Tryz.prog 95 [iv 2,sv ⟨l.toArray⟩] (iv (lL l))
 dec:∀ a b:List UInt8,iz a→iz b→(a++46::b).length≤16384→Pure Tryz.prog 95 [iv 3,sv ⟨(a++46::b).toArray⟩] (iv (jV (a++46::b)))
def gD(l:List UInt8):Int:=if 34∈l∨10∈l then aD (fun b=>b != 34 && b != 10) l else -1
def ur:Prop:=∀ (l:List UInt8) (nn:Bool),l.length≤16384→Pure Tryz.prog 96 [.sl nn 1 (l.map bn),sv ⟨#[34,10]⟩] (iv (gD l))
theorem OQ{p q:UInt8→Bool}(h:∀ b,p b=q b)(s:List UInt8):aD p s=aD q s:=by
 rw[show p=q from funext h]
theorem aeh(s:List UInt8):runN [2,3,4] s=aD ey s:=OQ (fun b=>by
 unfold ey
 have h9:aC b<9:=by unfold aC;repeat' split
                    all_goals omega
 generalize aC b=k at *
 match k,h9 with
 |0,_|1,_|2,_|3,_|4,_|5,_|6,_|7,_|8,_=>rfl) s
theorem yZ(s:List UInt8):runN [3] s=aD aO s:=OQ (fun b=>by
 unfold aO
 have h9:aC b<9:=by unfold aC;repeat' split
                    all_goals omega
 generalize aC b=k at *
 match k,h9 with
 |0,_|1,_|2,_|3,_|4,_|5,_|6,_|7,_|8,_=>rfl) s
theorem y0(ps:List UInt8)(al:ps≠[])(src:List UInt8)(hl:src.length≤16384)(nn n2:Bool)(z:Int)(from_ k:Nat)(hz:z=from_)(hk:from_+runN ps (src.drop from_)=k)(hf:from_≤src.length):
  Pure Tryz.prog 93 [.v (.int .i64 z),.sl nn 1 (ps.map bn),.pc [.sl n2 1 (src.map bn)],.pc [.pc jU]] (iv (k:Nat)):=by
 subst hz;subst hk;exact aei ps al src hl nn n2 from_ hf
theorem OR(p:UInt8→Bool):∀ s:List UInt8,s.take (aD p s)=s.takeWhile p
 |[]=>rfl
 |b::s=>by
  have ih:=OR p s
  unfold aD at *
  by_cases h:p b=true
  ·rw[ZG,if_pos h,Z9,Yl,ih]
  ·rw[ZG,if_neg h];rfl
theorem MZ{p:UInt8→Bool}{b:UInt8}:∀ {s:List UInt8},b∈s.takeWhile p→p b=true
 |a::s,h=>by
  by_cases ha:p a=true
  ·rw[ZG,if_pos ha]at h
   rcases ZV.1 h with rfl|h
   ·exact ha
   ·exact MZ h
  ·rw[ZG,if_neg ha]at h;cases h
theorem Uk{b:UInt8}(h:aC b=3):48≤b.toNat∧b.toNat≤57:=by
 unfold aC at h
 split at h
 ·cases h
 split at h
 ·cases h
 split at h
 ·rename_i h3;exact h3
 repeat' split at h
 all_goals cases h
theorem xC{s:List UInt8}(h:0<aD aO s):iz (s.take (aD aO s)):=by
 rw[OR]
 refine⟨fun e=> ?_,fun b hb=> ?_⟩
 ·unfold aD at h;rw[e]at h;exact absurd h (by simp)
 ·have:=MZ hb
  unfold aO at this
  exact Uk (of_decide_eq_true this)
theorem Mb{c:UInt8}:0≤Lib.indexByte [61,33,60] c↔c=61∨c=33∨c=60:=by
 rw[vB];simp
theorem p_1{c:UInt8}{r:List UInt8}(h:aC c=1):ax (c::r)=(0,1,0):=by unfold ax;dsimp only;rw[if_pos h]
theorem BN{c:UInt8}{r:List UInt8}(h:aC c=6):ax (c::r)=(0,aD (fun b=>b != 10) (c::r),0):=by unfold ax;dsimp only;rw[if_neg (by omega),if_pos h]
theorem FR{c:UInt8}{r:List UInt8}(h:aC c=2):ax (c::r)=(1,aD ey (c::r),if aD ey (c::r)>24 then 2 else 0):=by unfold ax;dsimp only;rw[if_neg (by omega),if_neg (by omega),if_pos h]
theorem BK{c:UInt8}{r:List UInt8}(h:aC c=3):ax (c::r)=if((c::r).drop (aD aO (c::r))).head? =some 46∧aD aO (((c::r).drop (aD aO (c::r))).drop 1)>0 then(3,aD aO (c::r)+1+aD aO (((c::r).drop (aD aO (c::r))).drop 1),jV ((c::r).take (aD aO (c::r)+1+aD aO (((c::r).drop (aD aO (c::r))).drop 1))))else(2,aD aO (c::r),lL ((c::r).take (aD aO (c::r)))):=by
 unfold ax;dsimp only;rw[if_neg (by omega),if_neg (by omega),if_neg (by omega),if_pos h]
theorem BM{c:UInt8}{r:List UInt8}(h:aC c=5):ax (c::r)=if(r.drop (aD (fun b=>b != 34 && b != 10) r)).head? =some 34 then(4,aD (fun b=>b != 34 && b != 10) r+2,tZ (r.take (aD (fun b=>b != 34 && b != 10) r)))else(-1,1,80):=by
 unfold ax;dsimp only;rw[if_neg (by omega),if_neg (by omega),if_neg (by omega),if_neg (by omega),if_pos h]
theorem q9{c:UInt8}{r:List UInt8}(h:aC c=7∨aC c=8):ax (c::r)=if r.head? =some 61∧(c=61∨c=33∨c=60)then(5,2,0)else if c≠33 then(5,1,0)else(-1,1,80):=by
 unfold ax;dsimp only;rw[if_neg (by omega),if_neg (by omega),if_neg (by omega),if_neg (by omega),if_neg (by omega),if_pos h]
theorem FQ{c:UInt8}{r:List UInt8}(h:aC c≠1∧aC c≠6∧aC c≠2∧aC c≠3∧aC c≠5∧aC c≠7∧aC c≠8):ax (c::r)=(-1,1,80):=by
 unfold ax;dsimp only;rw[if_neg (by omega),if_neg (by omega),if_neg (by omega),if_neg (by omega),if_neg (by omega),if_neg (by omega)]
theorem OP{p:UInt8→Bool}{s:List UInt8}(h:∀ b∈s,p b=true):aD p s=s.length:=by
 induction s with
 |nil=>rfl
 |cons a s ih=>
  have:=ih fun b hb=>h b (ZX _ hb)
  unfold aD at *
  rw[ZG,if_pos (h a ZU),Z9,this,Z9]
theorem aya{p:UInt8→Bool}{s:List UInt8}(h:∃ b∈s,p b=false):aD p s<s.length∧p (s.getD (aD p s) default)=false:=by
 induction s with
 |nil=>obtain⟨b,hb,_⟩:=h;cases hb
 |cons a s ih=>
  unfold aD at *
  by_cases ha:p a=true
  ·rw[ZG,if_pos ha,Z9,Z9]
   obtain⟨b,hb,hp⟩:=h
   have gr:b∈s:=by
    rcases ZV.1 hb with rfl|hb
    ·rw[ha]at hp;cases hp
    ·exact hb
   obtain⟨g1,g2⟩:=ih ⟨b,gr,hp⟩
   exact⟨by omega,by rw[X2];exact g2⟩
  ·rw[ZG,if_neg ha]
   exact⟨by simp,by rw[Z4,List.getD_cons_zero];simpa using ha⟩
def rh(at_:Nat)(p:Int×Nat×Int):AV:= .aI [iv p.1,iv (at_+p.2.1:Nat),iv p.2.2]
theorem NN(hG:ux)(hA:ur)(src:List UInt8)(hl:src.length≤16384)(nn:Bool)(at_:Nat)(ha:at_<src.length):
  Pure Tryz.prog 49 [.sl nn 1 (src.map bn),iv at_,.pc jU] (rh at_ (ax (src.drop at_))):=by
 refine Pure.cY (fun i=>bif Nat.beq i 1000021 then 1 else 0) Tryz.func49 UQ V2 (Z8 rfl) fun σ=> ?_
 first|refine .k1 ?_|fail
 first|refine .k2 ?_|fail
 repeat'((fail_if_success (show WK _ _ _ _ _ _ _ _));(first|exact .nil|refine .k0 ?_|refine .k1 ?_|refine .r1 ?_ ?_|(refine .m1 ?_ ?_;intro b)|fail))
 rename_i b3
 refine jQ rfl ?_
 refine C6 5 b (.here) (.same (.same (.p0 (.same .nil)))) ?_
 refine C6 3 b3 (.here) (.same (.p0 (.same (.same .nil)))) ?_
 obtain⟨c,r,fy⟩:∃ c r,src.drop at_=c::r:=⟨src[at_],src.drop (at_+1),Y9 ha⟩
 have eN:src.getD at_ default=c:=by
  rw[getD_eq ha]
  have:=Y9 ha
  rw[fy]at this
  exact(List.cons.inj this).1.symm
 have jD:(c::r).length=src.length-at_:=by rw[← fy,Zx]
 obtain⟨e2,A9⟩:∃ e2,at_+runN [2,3,4] (src.drop at_)=e2:=⟨_,rfl⟩
 obtain⟨e1,K5⟩:∃ e1,at_+runN [3] (src.drop at_)=e1:=⟨_,rfl⟩
 obtain⟨e3,K6⟩:∃ e3,e1+1+runN [3] (src.drop (e1+1))=e3:=⟨_,rfl⟩
 have fx:=Gh [2,3,4] (src.drop at_)
 have Xw:=Gh [3] (src.drop at_)
 have sN:=Gh [3] (src.drop (e1+1))
 rw[Zx]at Xw fx sN
 have jf:IntKind.i64.wrap ((at_:Int)+1)=((at_+1:Nat):Int):=by rw[aW (by omega)];rfl
 have hpc:(c::r)=src.drop at_:=fy.symm
 have o7:IntKind.i64.wrap ((e1:Int)+1)=((e1+1:Nat):Int):=by rw[aW (by omega)];rfl
 have aAc:runN [3] (src.drop at_)=aD aO (c::r):=by rw[yZ,fy]
 have vn:(src.take e1).drop at_=(c::r).take (aD aO (c::r)):=by
  rw[Yh,fy,← aAc];congr 1;omega
 rw[fy]
 repeat'(first|exact .nil|refine .k0 ?_|refine .k1 ?_|refine .k2 ?_|refine .k5 ?_|refine .r1 ?_ ?_|refine .t1 ?_ ?_ ?_|fail)
 all_goals(try simp only[BL]at *)
 rotate_right
 ·exact⟨by omega,by omega⟩
 ·exact⟨by omega,by have:=(src.getD at_ default).toNat_lt;show _<(256:Int);omega⟩
 by_cases h3:aC c=3
 ·have hn:0<aD aO (c::r):=by
   unfold aD
   rw[ZG,if_pos (by unfold aO;exact Zi h3),Z9]
   omega
  have kr:=hG.int ((src.take e1).drop at_) (by rw[vn];exact xC hn) (by rw[Zx,ZT];omega)
  refine oM (.v (.int .u8 3)) rfl (fun _=> ?_) rfl .nil ?_
  ·have:=oS c;rw[eN];rw[h3]at this;simpa[iM]using this
  by_cases hq:(e1<src.length∧src.getD e1 default=46)∧e1+1<e3
  ·have hm:0<aD aO (src.drop (e1+1)):=by rw[← yZ];omega
   have hs3:(src.take e3).drop at_=(c::r).take (aD aO (c::r))++46::(src.drop (e1+1)).take (aD aO (src.drop (e1+1))):=by
    have e4:e3-at_=aD aO (c::r)+(1+aD aO (src.drop (e1+1))):=by rw[← aAc,← yZ (src.drop (e1+1))];omega
    have sF:src.drop e1=46::src.drop (e1+1):=by rw[Y9 hq.1.1,← getD_eq hq.1.1,hq.1.2]
    rw[Yh,e4,List.take_add,fy]
    congr 1
    rw[← fy,YK,show at_+aD aO (src.drop at_)=e1 by rw[fy,← aAc];omega,sF,Nat.add_comm 1,Yl]
   have Eg:Pure Tryz.prog 95 [iv 3,sv ⟨((src.take e3).drop at_).toArray⟩] (iv (jV ((src.take e3).drop at_))):=by
    have Ls:((src.take e3).drop at_).length≤16384:=by rw[Zx,ZT];omega
    rw[hs3]at Ls ⊢
    exact hG.dec _ _ (xC hn) (xC hm) Ls
   have aaI:(c::r).drop (aD aO (c::r))=46::src.drop (e1+1):=by
    rw[← fy,YK,show at_+aD aO (src.drop at_)=e1 by rw[fy,← aAc];omega,Y9 hq.1.1,← getD_eq hq.1.1,hq.1.2]
   have hV:rh at_ (ax (c::r))= .aI [iv 3,iv (e3:Nat),iv (jV ((src.take e3).drop at_))]:=by
    rw[BK h3,aaI,if_pos ⟨rfl,hm⟩]
    have e4:aD aO (c::r)+1+aD aO (src.drop (e1+1))=e3-at_:=by rw[← aAc,← yZ (src.drop (e1+1))];omega
    show AV.aI [iv 3,iv ((at_+(aD aO (c::r)+1+aD aO (src.drop (e1+1))):Nat)),iv (jV ((c::r).take (aD aO (c::r)+1+aD aO (src.drop (e1+1)))))]=_
    rw[e4,← fy,← Yh,show at_+(e3-at_)=e3 by omega]
   have sY:(decide ((e1:Int)<src.length) && decide (((src.getD e1 default).toNat:Int)=46) && decide (IntKind.i64.wrap ((e1:Int)+1)<e3))=true:=by
    rw[o7,hq.1.2];simp;exact⟨hq.1.1,by omega⟩
   have iU:decide ((3:Int)=3)=true:=rfl
   have WZ:decide ((3:Int)=1)=false:=rfl
   have h36:decide ((3:Int)=6)=false:=rfl
   have W0:decide ((3:Int)=2)=false:=rfl
   repeat'(first|exact .nil|refine .k0 ?_|refine .k1 ?_|refine .k2 ?_|refine .k3 ?_|refine .k4 ?_|refine .k6 ?_|refine .k7 ?_|(refine .cd ?_ ?_<;>(intro hc;first|exact kf hc (by assumption)|exact kt hc (by assumption)|skip))|refine .r1 ?_ ?_|(refine .m2 ?_ ?_;intro hlen)|refine .t1 ?_ ?_ ?_|refine .t4 ?_ ?_ ?_|refine .an rfl (by intro bx;first|exact Bq (src.drop at_) (by rw[fy];simp) 10 nn|exact y0 [3] (by simp) src hl true nn _ at_ e1 rfl K5 (by omega)|exact y0 [3] (by simp) src hl true nn _ (e1+1) e3 (by rw[aW (by omega)];rfl) K6 (by first|omega|fail)|exact Eg) ?_ ?_|refine .r5 ?_ ?_|fail)
   try any_goals(exact Zo)
   all_goals first
   |exact Z8 rfl
   |exact Sx.Fin.wk Zs (.mS hV.symm)
   |skip
  ·have hV:rh at_ (ax (c::r))= .aI [iv 2,iv (e1:Nat),iv (lL ((src.take e1).drop at_))]:=by
    rw[BK h3,if_neg ?_]
    ·show AV.aI [iv 2,iv ((at_+aD aO (c::r):Nat)),iv (lL ((c::r).take (aD aO (c::r))))]=_
     rw[← vn,show at_+aD aO (c::r)=e1 by rw[← aAc];omega]
    ·rintro⟨g1,g2⟩
     have iY:(c::r).drop (aD aO (c::r))=src.drop e1:=by
      rw[← fy,YK,show at_+aD aO (src.drop at_)=e1 by rw[fy,← aAc];omega]
     rw[iY]at g1 g2
     rw[YK,← yZ]at g2
     have nL:e1<src.length:=by
      by_cases h:e1<src.length
      ·exact h
      ·rw[Yc (by omega)]at g1;cases g1
     rw[Y9 nL,List.head?_cons,Z5,← getD_eq nL]at g1
     exact hq ⟨⟨nL,g1⟩,by omega⟩
   have sY:(decide ((e1:Int)<src.length) && decide (((src.getD e1 default).toNat:Int)=46) && decide (IntKind.i64.wrap ((e1:Int)+1)<e3))=false:=by
    rw[o7,Bool.eq_false_iff]
    intro h
    simp only[Z0,ZB]at h
    exact hq ⟨⟨by omega,Yy.1 (by show(src.getD e1 default).toNat=46;omega)⟩,by omega⟩
   have iU:decide ((3:Int)=3)=true:=rfl
   have WZ:decide ((3:Int)=1)=false:=rfl
   have h36:decide ((3:Int)=6)=false:=rfl
   have W0:decide ((3:Int)=2)=false:=rfl
   repeat'(first|exact .nil|refine .k0 ?_|refine .k1 ?_|refine .k2 ?_|refine .k3 ?_|refine .k4 ?_|refine .k6 ?_|refine .k7 ?_|refine .k9 ?_|(refine .cd ?_ ?_<;>(intro hc;first|exact kf hc (by assumption)|exact kt hc (by assumption)|skip))|refine .r1 ?_ ?_|(refine .m2 ?_ ?_;intro hlen)|refine .t1 ?_ ?_ ?_|refine .t4 ?_ ?_ ?_|refine .an rfl (by intro bx;first|exact Bq (src.drop at_) (by rw[fy];simp) 10 nn|exact y0 [3] (by simp) src hl true nn _ at_ e1 rfl K5 (by omega)|exact y0 [3] (by simp) src hl true nn _ (e1+1) e3 (by rw[aW (by omega)];rfl) K6 (by(simp at bx;omega))|exact kr|fail) ?_ ?_|refine .r5 ?_ ?_|fail)
   try any_goals(exact Zo)
   all_goals first
   |exact Z8 rfl
   |exact Sx.Fin.wk Zs (.mS hV.symm)
   |skip
 have xZ:src.drop (at_+1)=r:=by
  have:=Y9 ha
  rw[fy]at this
  exact(List.cons.inj this).2.symm
 have azT:r.length=src.length-(at_+1):=by rw[← xZ,Zx]
 have W6:(IntKind.i64.wrap ((at_:Int)+1)).toNat=at_+1:=by rw[jf];rfl
 have hsr:∀ q,q<r.length→src.getD (at_+1+q) default=r.getD q default:=fun q hq=>by
  rw[getD_eq (by omega),getD_eq hq]
  have:r[q]=(src.drop (at_+1))[q]'(by rw[Zx];omega):=by simp only[xZ]
  rw[this,YA]
 by_cases h1:aC c=1
 ·have hV:rh at_ (ax (c::r))= .aI [iv 0,iv (at_+1:Nat),iv 0]:=by rw[p_1 h1];rfl
  refine oM (.v (.int .u8 1)) rfl (fun _=> ?_) rfl .nil ?_
  ·have:=oS c;rw[eN];rw[h1]at this;simpa[iM]using this
  have d1:decide ((1:Int)=1)=true:=rfl
  repeat'(first|exact .nil|refine .k0 ?_|refine .k1 ?_|refine .k2 ?_|refine .k6 ?_|refine .k7 ?_|(refine .cd ?_ ?_<;>(intro hc;first|exact kf hc (by assumption)|skip))|refine .r1 ?_ ?_|fail)
  rw[jf]
  exact Sx.Fin.wk Zs (.mS hV.symm)
 by_cases h6:aC c=6
 ·refine oM (.v (.int .u8 6)) rfl (fun _=> ?_) rfl .nil ?_
  ·have:=oS c;rw[eN];rw[h6]at this;simpa[iM]using this
  have d1:decide ((6:Int)=1)=false:=rfl
  have d6:decide ((6:Int)=6)=true:=rfl
  repeat'(first|exact .nil|refine .k0 ?_|refine .k1 ?_|refine .k2 ?_|refine .k5 ?_|refine .k6 ?_|refine .k7 ?_|refine .k9 ?_|(refine .cd ?_ ?_<;>(intro hc;first|exact kf hc (by assumption)|exact kt hc (by assumption)|skip))|refine .r1 ?_ ?_|refine .t3 ?_ ?_ ?_|refine .an rfl (by intro bx;first|exact Bq (src.drop at_) (by rw[fy];simp) 10 nn|fail) ?_ ?_|refine .r2 ?_ ?_|fail)
  try any_goals(exact Zo)
  all_goals(try simp only[BL]at *)
  ·have hm:=(vB _ _).1 hc
   have hV:rh at_ (ax (c::r))= .aI [iv 0,iv (at_+aD (fun b=>b != 10) (src.drop at_):Nat),iv 0]:=by rw[BN h6,fy];rfl
   rw[hV,aaP _ _ hm]
   have eZ:aD (fun b=>b != 10) (src.drop at_)≤(src.drop at_).length:=by unfold aD;exact(List.takeWhile_sublist _).length_le
   rw[Zx]at eZ
   rw[aW (by omega)]
   exact Sx.Fin.wk Zs (.refl _)
  ·have hm:¬(10:UInt8)∈src.drop at_:=fun h=>hc ((vB _ _).2 h)
   have eZ:aD (fun b=>b != 10) (src.drop at_)=(src.drop at_).length:=OP fun b hb=>by
    have:b≠10:=fun e=>hm (e ▸ hb)
    simp[this]
   have hV:rh at_ (ax (c::r))= .aI [iv 0,iv (src.length:Nat),iv 0]:=by
    rw[BN h6,← fy,eZ,Zx]
    show AV.aI [iv 0,iv (at_+(src.length-at_):Nat),iv 0]=_
    rw[show at_+(src.length-at_)=src.length by omega]
   exact Sx.Fin.wk Zs (.mS hV.symm)
 by_cases h2:aC c=2
 ·have Xq:aD ey (c::r)=e2-at_:=by rw[← fy,← aeh];omega
  have hV:rh at_ (ax (c::r))= .aI [iv 1,iv (e2:Nat),iv (if e2-at_>24 then 2 else 0)]:=by
   rw[FR h2,Xq]
   show AV.aI [iv 1,iv (at_+(e2-at_):Nat),_]=_
   rw[show at_+(e2-at_)=e2 by omega]
  rw[hV]
  refine oM (.v (.int .u8 2)) rfl (fun _=> ?_) rfl .nil ?_
  ·have:=oS c;rw[eN];rw[h2]at this;simpa[iM]using this
  have d1:decide ((2:Int)=1)=false:=rfl
  have d6:decide ((2:Int)=6)=false:=rfl
  have d2:decide ((2:Int)=2)=true:=rfl
  repeat'(first|exact .nil|refine .k0 ?_|refine .k1 ?_|refine .k2 ?_|refine .k6 ?_|refine .k7 ?_|refine .k9 ?_|(refine .cd ?_ ?_<;>(intro hc;first|exact kf hc (by assumption)|exact kt hc (by assumption)|skip))|refine .r1 ?_ ?_|refine .an rfl (by intro bx;first|exact y0 [2,3,4] (by simp) src hl true nn _ at_ e2 rfl A9 (by omega)|fail) ?_ ?_|fail)
  all_goals(try simp only[BL]at *)
  ·exact Z8 rfl
  ·rw[aW (by omega)]at hc;rw[if_pos (by omega)];exact Sx.Fin.wk Zs (.refl _)
  ·rw[aW (by omega)]at hc;rw[if_neg (by omega)];exact Sx.Fin.wk Zs (.refl _)
 by_cases h5:aC c=5
 ·have AX:Pure Tryz.prog 96 [.sl nn 1 ((src.drop (IntKind.i64.wrap ((at_:Int)+1)).toNat).map bn),sv ⟨#[34,10]⟩] (iv (gD r)):=by
   rw[W6,xZ];exact hA r nn (by omega)
  have s9:∀ q:Nat,q≤16384→IntKind.i64.wrap (((at_+1:Nat):Int)+(q:Nat))=((at_+1+q:Nat):Int):=fun q hq=>by rw[aW (by omega)];omega
  have Bo:∀ q:Nat,q≤16384→IntKind.i64.wrap ((at_:Int)+(q:Nat))=((at_+q:Nat):Int):=fun q hq=>by rw[aW (by omega)];omega
  have hw4:∀ q:Nat,q≤16384→IntKind.i64.wrap (((at_+q:Nat):Int)+1)=((at_+q+1:Nat):Int):=fun q hq=>by rw[aW (by omega)];omega
  have LW:∀ q:Nat,q≤16384→IntKind.i64.wrap (((at_+q:Nat):Int)+2)=((at_+q+2:Nat):Int):=fun q hq=>by rw[aW (by omega)];omega
  refine oM (.v (.int .u8 5)) rfl (fun _=> ?_) rfl .nil ?_
  ·have:=oS c;rw[eN];rw[h5]at this;simpa[iM]using this
  have d1:decide ((5:Int)=1)=false:=rfl
  have d6:decide ((5:Int)=6)=false:=rfl
  have d2:decide ((5:Int)=2)=false:=rfl
  have d3:decide ((5:Int)=3)=false:=rfl
  have d5:decide ((5:Int)=5)=true:=rfl
  by_cases fg:34∈r∨10∈r
  ·obtain⟨jc,dQ⟩:=aya (p:=fun b=>b != 34 && b != 10) (s:=r) (by
    rcases fg with h|h
    ·exact⟨34,h,rfl⟩
    ·exact⟨10,h,rfl⟩)
   have D4:gD r=(aD (fun b=>b != 34 && b != 10) r:Nat):=if_pos fg
   have Eh:=BM (r:=r) h5
   generalize aD (fun b=>b != 34 && b != 10) r=q at *
   rw[D4]at AX
   have vr:src.getD (at_+1+q) default=r.getD q default:=hsr q jc
   have vu:r.getD q default=34∨r.getD q default=10:=by
    rw[Bool.and_eq_false_iff]at dQ
    rcases dQ with h|h
    ·exact .inl (by simpa using h)
    ·exact .inr (by simpa using h)
   have hqh:(r.drop q).head? =some (r.getD q default):=by rw[Y9 jc,List.head?_cons,getD_eq jc]
   rw[hqh]at Eh
   repeat'(first|exact .nil|refine .k0 ?_|refine .k1 ?_|refine .k2 ?_|refine .k3 ?_|refine .k6 ?_|refine .k7 ?_|refine .k9 ?_|(refine .cd ?_ ?_<;>(intro hc;first|exact kf hc (by assumption)|exact kt hc (by assumption)|skip))|refine .r1 ?_ ?_|refine .t1 ?_ ?_ ?_|refine .t3 ?_ ?_ ?_|refine .t4 ?_ ?_ ?_|refine .an rfl (by intro bx;first|exact AX|exact ayT _ _|fail) ?_ ?_|fail)
   try any_goals(exact Zo)
   all_goals(try simp only[BL]at *)
   all_goals simp only[jf,s9 q (by omega),Bo q (by omega),hw4 q (by omega),LW q (by omega),Y8,vr]at *
   ·have KB:r.getD q default=10:=by
     rcases hc with h|h
     ·omega
     ·exact Yy.1 (by show(r.getD q default).toNat=10;omega)
    rw[Eh,KB,if_neg (by decide)]
    exact Sx.Fin.wk Zs (.refl _)
   ·exact⟨by omega,by omega,by omega⟩
   ·have h34:r.getD q default=34:=by
     rcases vu with h|h
     ·exact h
     ·exact absurd (by rw[h];rfl) hc.2
    rw[Eh,h34,if_pos rfl]
    have e:(src.take (at_+q+1)).drop (at_+1)=r.take q:=by
     rw[Yh,xZ];congr 1;omega
    rw[e]
    exact Sx.Fin.wk Zs (.refl _)
   ·exact fun _=>⟨by omega,by omega⟩
  ·have D4:gD r= -1:=if_neg fg
   rw[D4]at AX
   have hV:rh at_ (ax (c::r))= .aI [iv (-1),iv (at_+1:Nat),iv 80]:=by
    have eZ:aD (fun b=>b != 34 && b != 10) r=r.length:=OP fun b hb=>by
     have h1:b≠34:=fun e=>fg (.inl (e ▸ hb))
     have h2:b≠10:=fun e=>fg (.inr (e ▸ hb))
     simp[h1,h2]
    rw[BM h5,eZ,List.drop_length,if_neg (by simp)]
    rfl
   repeat'(first|exact .nil|refine .k0 ?_|refine .k1 ?_|refine .k2 ?_|refine .k3 ?_|refine .k4 ?_|refine .k6 ?_|refine .k7 ?_|(refine .cd ?_ ?_<;>(intro hc;first|exact kf hc (by assumption)|exact kt hc (by assumption)|skip))|refine .r1 ?_ ?_|refine .t1 ?_ ?_ ?_|refine .t3 ?_ ?_ ?_|refine .an rfl (by intro bx;first|exact AX|fail) ?_ ?_|fail)
   try any_goals(exact Zo)
   all_goals(try simp only[BL]at *)
   all_goals simp only[jf]at *
   all_goals first
   |exact Sx.Fin.wk Zs (.mS hV.symm)
   |(exfalso;omega)
   |exact fun h=>absurd h (by decide)
   |skip
 have ve:r.head? =some 61↔(at_+1<src.length∧src.getD (at_+1) default=61):=by
  by_cases h:at_+1<src.length
  ·rw[← xZ,Y9 h,List.head?_cons,Z5,getD_eq h]
   exact⟨fun e=>⟨h,e⟩,fun e=>e.2⟩
  ·have:r=[]:=ZO (by omega)
   rw[this]
   exact⟨fun e=>(by cases e),fun e=>absurd e.1 h⟩
 have LX:IntKind.i64.wrap (((at_+1:Nat):Int)+1)=((at_+2:Nat):Int):=by rw[aW (by omega)];omega
 by_cases KF:aC c=7
 ·refine oM (.v (.int .u8 7)) rfl (fun _=> ?_) rfl .nil ?_
  ·have:=oS c;rw[eN];rw[KF]at this;simpa[iM]using this
  have d1:decide ((7:Int)=1)=false:=rfl
  have d6:decide ((7:Int)=6)=false:=rfl
  have d2:decide ((7:Int)=2)=false:=rfl
  have d3:decide ((7:Int)=3)=false:=rfl
  have d5:decide ((7:Int)=5)=false:=rfl
  have d7:decide ((7:Int)=7)=true:=rfl
  repeat'(first|exact .nil|refine .k0 ?_|refine .k1 ?_|refine .k2 ?_|refine .k3 ?_|refine .k4 ?_|refine .k6 ?_|refine .k7 ?_|refine .k9 ?_|(refine .cd ?_ ?_<;>(intro hc;first|exact kf hc (by assumption)|exact kt hc (by assumption)|skip))|refine .r1 ?_ ?_|(refine .m2 ?_ ?_;intro hlen)|refine .t1 ?_ ?_ ?_|refine .an rfl (by intro bx;first|exact Ma _ _|fail) ?_ ?_|fail)
  try any_goals(exact Zo)
  all_goals(try simp only[BL]at *)
  all_goals simp only[jf,LX,Y8,eN,Mb]at *
  ·rw[q9 (by omega),if_pos ⟨ve.2 ⟨by omega,Yy.1 (by show(src.getD (at_+1) default).toNat=61;omega)⟩,hc.2⟩]
   exact Sx.Fin.wk Zs (.refl _)
  ·rename_i mA
   have iU:c≠33:=fun e=>hc (by rw[e];rfl)
   rw[q9 (by omega),if_neg (fun h=> ?_),if_pos iU]
   ·exact Sx.Fin.wk Zs (.refl _)
   ·obtain⟨g1,g2⟩:=ve.1 h.1
    rcases mA with(h1|h1)|h1
    ·omega
    ·exact h1 (by rw[g2];rfl)
    ·exact h1 h.2
  ·rename_i mA
   have iU:c=33:=Yy.1 (by show c.toNat=33;omega)
   rw[q9 (by omega),if_neg (fun h=> ?_),if_neg (fun h=>h iU)]
   ·exact Sx.Fin.wk Zs (.refl _)
   ·obtain⟨g1,g2⟩:=ve.1 h.1
    rcases mA with(h1|h1)|h1
    ·omega
    ·exact h1 (by rw[g2];rfl)
    ·exact h1 h.2
 by_cases KG:aC c=8
 ·refine oM (.v (.int .u8 8)) rfl (fun _=> ?_) rfl .nil ?_
  ·have:=oS c;rw[eN];rw[KG]at this;simpa[iM]using this
  have d1:decide ((8:Int)=1)=false:=rfl
  have d6:decide ((8:Int)=6)=false:=rfl
  have d2:decide ((8:Int)=2)=false:=rfl
  have d3:decide ((8:Int)=3)=false:=rfl
  have d5:decide ((8:Int)=5)=false:=rfl
  have d7:decide ((8:Int)=7)=false:=rfl
  have d8:decide ((8:Int)=8)=true:=rfl
  repeat'(first|exact .nil|refine .k0 ?_|refine .k1 ?_|refine .k2 ?_|refine .k3 ?_|refine .k4 ?_|refine .k6 ?_|refine .k7 ?_|refine .k9 ?_|(refine .cd ?_ ?_<;>(intro hc;first|exact kf hc (by assumption)|exact kt hc (by assumption)|skip))|refine .r1 ?_ ?_|(refine .m2 ?_ ?_;intro hlen)|refine .t1 ?_ ?_ ?_|refine .an rfl (by intro bx;first|exact Ma _ _|fail) ?_ ?_|fail)
  try any_goals(exact Zo)
  all_goals(try simp only[BL]at *)
  all_goals simp only[jf,LX,Y8,eN,Mb]at *
  ·rw[q9 (by omega),if_pos ⟨ve.2 ⟨by omega,Yy.1 (by show(src.getD (at_+1) default).toNat=61;omega)⟩,hc.2⟩]
   exact Sx.Fin.wk Zs (.refl _)
  ·rename_i mA
   have iU:c≠33:=fun e=>hc (by rw[e];rfl)
   rw[q9 (by omega),if_neg (fun h=> ?_),if_pos iU]
   ·exact Sx.Fin.wk Zs (.refl _)
   ·obtain⟨g1,g2⟩:=ve.1 h.1
    rcases mA with(h1|h1)|h1
    ·omega
    ·exact h1 (by rw[g2];rfl)
    ·exact h1 h.2
  ·rename_i mA
   have iU:c=33:=Yy.1 (by show c.toNat=33;omega)
   rw[q9 (by omega),if_neg (fun h=> ?_),if_neg (fun h=>h iU)]
   ·exact Sx.Fin.wk Zs (.refl _)
   ·obtain⟨g1,g2⟩:=ve.1 h.1
    rcases mA with(h1|h1)|h1
    ·omega
    ·exact h1 (by rw[g2];rfl)
    ·exact h1 h.2
 ·refine oM (.v (.int .u8 (aC c:Nat))) rfl (fun _=> ?_) rfl .nil ?_
  ·have:=oS c;rw[eN];simpa[iM]using this
  have d1:decide (((aC c:Nat):Int)=1)=false:=by simp;omega
  have d6:decide (((aC c:Nat):Int)=6)=false:=by simp;omega
  have d2:decide (((aC c:Nat):Int)=2)=false:=by simp;omega
  have d3:decide (((aC c:Nat):Int)=3)=false:=by simp;omega
  have d5:decide (((aC c:Nat):Int)=5)=false:=by simp;omega
  have d7:decide (((aC c:Nat):Int)=7)=false:=by simp;omega
  have d8:decide (((aC c:Nat):Int)=8)=false:=by simp;omega
  repeat'(first|exact .nil|refine .k0 ?_|refine .k1 ?_|refine .k2 ?_|refine .k6 ?_|refine .k7 ?_|refine .k9 ?_|(refine .cd ?_ ?_<;>(intro hc;first|exact kt hc (by assumption)|skip))|refine .r1 ?_ ?_|fail)
  rw[jf,FQ ⟨h1,h6,h2,h3,h5,KF,KG⟩]
  exact Sx.Fin.wk Zs (.refl _)
end Go.Proofs.YtbihckigennlhaaGreatDoor
set_option maxHeartbeats 8000000
namespace Go.Proofs.YtbihckigennlhaaGreatDoor
open Go.Proofs
def U9:Go.Shelf.Ren:=⟨fun|32=>142|49=>181|n=>n,fun|0=>0|3=>3|4=>4|5=>5|21=>21|25=>206|30=>22|33=>179|66=>94|68=>233|69=>234|n=>n,fun|2=>5|3=>6|n=>n⟩
theorem U7:Go.Proofs.Lays7.n32 Tryz.prog U9:=Go.Sx.pK
end Go.Proofs.YtbihckigennlhaaGreatDoor
