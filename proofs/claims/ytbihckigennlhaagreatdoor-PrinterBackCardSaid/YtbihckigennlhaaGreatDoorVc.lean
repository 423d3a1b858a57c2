/- The lexer: a piece. -/
import Derived.Test.YtbihckigennlhaaGreatDoorVb
import Derived.Shelf.Spec.DecodeRune
import Derived.Test.YtbihckigennlhaaGreatDoorPt
set_option linter.unusedSimpArgs false
set_option linter.unusedVariables false
set_option linter.unusedSectionVars false
set_option maxRecDepth 100000
set_option maxHeartbeats 4000000
namespace Go.Proofs.YtbihckigennlhaaGreatDoor
open Go.Sx Go.Proofs Go.RowKit
structure GreatOk:Prop where
 int:∀ l:List UInt8,DigL l→l.length≤16384→Pure Tryz.prog 95 [iv 2,sv ⟨l.toArray⟩] (iv (intE l))
 dec:∀ a b:List UInt8,DigL a→DigL b→(a++46::b).length≤16384→Pure Tryz.prog 95 [iv 3,sv ⟨(a++46::b).toArray⟩] (iv (decE (a++46::b)))
def anyQ(l:List UInt8):Int:=if 34∈l∨10∈l then spanN (fun b=>b != 34 && b != 10) l else -1
def AnyOk:Prop:=∀ (l:List UInt8) (nn:Bool),l.length≤16384→Pure Tryz.prog 96 [.sl nn 1 (l.map byteRow),sv ⟨#[34,10]⟩] (iv (anyQ l))
theorem span_cong{p q:UInt8→Bool}(h:∀ b,p b=q b)(s:List UInt8):spanN p s=spanN q s:=by
 rw[show p=q from funext h]
theorem run_isW(s:List UInt8):runN [2,3,4] s=spanN isW s:=span_cong (fun b=>by
 unfold isW
 have h9:clsB b<9:=by unfold clsB;repeat' split
                      all_goals omega
 generalize clsB b=k at *
 match k,h9 with
 |0,_|1,_|2,_|3,_|4,_|5,_|6,_|7,_|8,_=>rfl) s
theorem run_isD(s:List UInt8):runN [3] s=spanN isD s:=span_cong (fun b=>by
 unfold isD
 have h9:clsB b<9:=by unfold clsB;repeat' split
                      all_goals omega
 generalize clsB b=k at *
 match k,h9 with
 |0,_|1,_|2,_|3,_|4,_|5,_|6,_|7,_|8,_=>rfl) s
theorem run_okn(ps:List UInt8)(hps:ps≠[])(src:List UInt8)(hl:src.length≤16384)(nn n2:Bool)(z:Int)(from_ k:Nat)(hz:z=from_)(hk:from_+runN ps (src.drop from_)=k)(hf:from_≤src.length):
  Pure Tryz.prog 93 [.v (.int .i64 z),.sl nn 1 (ps.map byteRow),.pc [.sl n2 1 (src.map byteRow)],.pc [.pc clsV]] (iv (k:Nat)):=by
 subst hz;subst hk;exact run_ok ps hps src hl nn n2 from_ hf
theorem span_take(p:UInt8→Bool):∀ s:List UInt8,s.take (spanN p s)=s.takeWhile p
 |[]=>rfl
 |b::s=>by
  have ih:=span_take p s
  unfold spanN at *
  by_cases h:p b=true
  ·rw[List.takeWhile_cons,if_pos h,List.length_cons,List.take_succ_cons,ih]
  ·rw[List.takeWhile_cons,if_neg h];rfl
theorem mem_tw{p:UInt8→Bool}{b:UInt8}:∀ {s:List UInt8},b∈s.takeWhile p→p b=true
 |a::s,h=>by
  by_cases ha:p a=true
  ·rw[List.takeWhile_cons,if_pos ha]at h
   rcases List.mem_cons.1 h with rfl|h
   ·exact ha
   ·exact mem_tw h
  ·rw[List.takeWhile_cons,if_neg ha]at h;cases h
theorem cls3{b:UInt8}(h:clsB b=3):48≤b.toNat∧b.toNat≤57:=by
 unfold clsB at h
 split at h
 ·cases h
 split at h
 ·cases h
 split at h
 ·rename_i h3;exact h3
 repeat' split at h
 all_goals cases h
theorem dig_take{s:List UInt8}(h:0<spanN isD s):DigL (s.take (spanN isD s)):=by
 rw[span_take]
 refine⟨fun e=> ?_,fun b hb=> ?_⟩
 ·unfold spanN at h;rw[e]at h;exact absurd h (by simp)
 ·have:=mem_tw hb
  unfold isD at this
  exact cls3 (of_decide_eq_true this)
theorem idx_3{c:UInt8}:0≤Lib.indexByte [61,33,60] c↔c=61∨c=33∨c=60:=by
 rw[idx_nn];simp
theorem p_1{c:UInt8}{r:List UInt8}(h:clsB c=1):pieceL (c::r)=(0,1,0):=by unfold pieceL;dsimp only;rw[if_pos h]
theorem p_6{c:UInt8}{r:List UInt8}(h:clsB c=6):pieceL (c::r)=(0,spanN (fun b=>b != 10) (c::r),0):=by unfold pieceL;dsimp only;rw[if_neg (by omega),if_pos h]
theorem p_2{c:UInt8}{r:List UInt8}(h:clsB c=2):pieceL (c::r)=(1,spanN isW (c::r),if spanN isW (c::r)>24 then 2 else 0):=by unfold pieceL;dsimp only;rw[if_neg (by omega),if_neg (by omega),if_pos h]
theorem p_3{c:UInt8}{r:List UInt8}(h:clsB c=3):pieceL (c::r)=if((c::r).drop (spanN isD (c::r))).head? =some 46∧spanN isD (((c::r).drop (spanN isD (c::r))).drop 1)>0 then(3,spanN isD (c::r)+1+spanN isD (((c::r).drop (spanN isD (c::r))).drop 1),decE ((c::r).take (spanN isD (c::r)+1+spanN isD (((c::r).drop (spanN isD (c::r))).drop 1))))else(2,spanN isD (c::r),intE ((c::r).take (spanN isD (c::r)))):=by
 unfold pieceL;dsimp only;rw[if_neg (by omega),if_neg (by omega),if_neg (by omega),if_pos h]
theorem p_5{c:UInt8}{r:List UInt8}(h:clsB c=5):pieceL (c::r)=if(r.drop (spanN (fun b=>b != 34 && b != 10) r)).head? =some 34 then(4,spanN (fun b=>b != 34 && b != 10) r+2,unfitE (r.take (spanN (fun b=>b != 34 && b != 10) r)))else(-1,1,80):=by
 unfold pieceL;dsimp only;rw[if_neg (by omega),if_neg (by omega),if_neg (by omega),if_neg (by omega),if_pos h]
theorem p_7{c:UInt8}{r:List UInt8}(h:clsB c=7∨clsB c=8):pieceL (c::r)=if r.head? =some 61∧(c=61∨c=33∨c=60)then(5,2,0)else if c≠33 then(5,1,0)else(-1,1,80):=by
 unfold pieceL;dsimp only;rw[if_neg (by omega),if_neg (by omega),if_neg (by omega),if_neg (by omega),if_neg (by omega),if_pos h]
theorem p_0{c:UInt8}{r:List UInt8}(h:clsB c≠1∧clsB c≠6∧clsB c≠2∧clsB c≠3∧clsB c≠5∧clsB c≠7∧clsB c≠8):pieceL (c::r)=(-1,1,80):=by
 unfold pieceL;dsimp only;rw[if_neg (by omega),if_neg (by omega),if_neg (by omega),if_neg (by omega),if_neg (by omega),if_neg (by omega)]
theorem span_all{p:UInt8→Bool}{s:List UInt8}(h:∀ b∈s,p b=true):spanN p s=s.length:=by
 induction s with
 |nil=>rfl
 |cons a s ih=>
  have:=ih fun b hb=>h b (List.mem_cons_of_mem _ hb)
  unfold spanN at *
  rw[List.takeWhile_cons,if_pos (h a List.mem_cons_self),List.length_cons,this,List.length_cons]
theorem span_hit{p:UInt8→Bool}{s:List UInt8}(h:∃ b∈s,p b=false):spanN p s<s.length∧p (s.getD (spanN p s) default)=false:=by
 induction s with
 |nil=>obtain⟨b,hb,_⟩:=h;cases hb
 |cons a s ih=>
  unfold spanN at *
  by_cases ha:p a=true
  ·rw[List.takeWhile_cons,if_pos ha,List.length_cons,List.length_cons]
   obtain⟨b,hb,hp⟩:=h
   have hb':b∈s:=by
    rcases List.mem_cons.1 hb with rfl|hb
    ·rw[ha]at hp;cases hp
    ·exact hb
   obtain⟨g1,g2⟩:=ih ⟨b,hb',hp⟩
   exact⟨by omega,by rw[List.getD_cons_succ];exact g2⟩
  ·rw[List.takeWhile_cons,if_neg ha]
   exact⟨by simp,by rw[List.length_nil,List.getD_cons_zero];simpa using ha⟩
def pcV(at_:Nat)(p:Int×Nat×Int):AV:= .tup [iv p.1,iv (at_+p.2.1:Nat),iv p.2.2]
theorem piece_ok(hG:GreatOk)(hA:AnyOk)(src:List UInt8)(hl:src.length≤16384)(nn:Bool)(at_:Nat)(ha:at_<src.length):
  Pure Tryz.prog 49 [.sl nn 1 (src.map byteRow),iv at_,.pc clsV] (pcV at_ (pieceL (src.drop at_))):=by
 refine Pure.runk (fun i=>bif Nat.beq i 1000021 then 1 else 0) Tryz.func49 comp49 era49 (Nat.le_of_ble_eq_true rfl) fun σ=> ?_
 first|refine .k1 ?_|fail
 first|refine .k2 ?_|fail
 repeat'((fail_if_success (show WK _ _ _ _ _ _ _ _));(first|exact .nil|refine .k0 ?_|refine .k1 ?_|refine .r1 ?_ ?_|(refine .m1 ?_ ?_;intro b)|fail))
 rename_i b3
 refine WK_keep rfl ?_
 refine WK_frz 5 b (.here) (.same (.same (.p0 (.same .nil)))) ?_
 refine WK_frz 3 b3 (.here) (.same (.p0 (.same (.same .nil)))) ?_
 obtain⟨c,r,hcr⟩:∃ c r,src.drop at_=c::r:=⟨src[at_],src.drop (at_+1),List.drop_eq_getElem_cons ha⟩
 have hc0:src.getD at_ default=c:=by
  rw[getD_eq ha]
  have:=List.drop_eq_getElem_cons ha
  rw[hcr]at this
  exact(List.cons.inj this).1.symm
 have hrl:(c::r).length=src.length-at_:=by rw[← hcr,List.length_drop]
 obtain⟨e2,he2⟩:∃ e2,at_+runN [2,3,4] (src.drop at_)=e2:=⟨_,rfl⟩
 obtain⟨e1,he1⟩:∃ e1,at_+runN [3] (src.drop at_)=e1:=⟨_,rfl⟩
 obtain⟨e3,he3⟩:∃ e3,e1+1+runN [3] (src.drop (e1+1))=e3:=⟨_,rfl⟩
 have hb2:=runN_le [2,3,4] (src.drop at_)
 have hb1:=runN_le [3] (src.drop at_)
 have hb3:=runN_le [3] (src.drop (e1+1))
 rw[List.length_drop]at hb1 hb2 hb3
 have hw1:IntKind.i64.wrap ((at_:Int)+1)=((at_+1:Nat):Int):=by rw[i64w (by omega)];rfl
 have hpc:(c::r)=src.drop at_:=hcr.symm
 have hk0:IntKind.i64.wrap ((e1:Int)+1)=((e1+1:Nat):Int):=by rw[i64w (by omega)];rfl
 have hrunD:runN [3] (src.drop at_)=spanN isD (c::r):=by rw[run_isD,hcr]
 have hlk:(src.take e1).drop at_=(c::r).take (spanN isD (c::r)):=by
  rw[List.drop_take,hcr,← hrunD];congr 1;omega
 rw[hcr]
 repeat'(first|exact .nil|refine .k0 ?_|refine .k1 ?_|refine .k2 ?_|refine .k5 ?_|refine .r1 ?_ ?_|refine .t1 ?_ ?_ ?_|fail)
 all_goals(try simp only[BL]at *)
 rotate_right
 ·exact⟨by omega,by omega⟩
 ·exact⟨by omega,by have:=(src.getD at_ default).toNat_lt;show _<(256:Int);omega⟩
 by_cases h3:clsB c=3
 ·have hn:0<spanN isD (c::r):=by
   unfold spanN
   rw[List.takeWhile_cons,if_pos (by unfold isD;exact decide_eq_true h3),List.length_cons]
   omega
  have hT2:=hG.int ((src.take e1).drop at_) (by rw[hlk];exact dig_take hn) (by rw[List.length_drop,List.length_take];omega)
  refine VY_ldp (.v (.int .u8 3)) rfl (fun _=> ?_) rfl .nil ?_
  ·have:=clsV_at c;rw[hc0];rw[h3]at this;simpa[u8v]using this
  by_cases hq:(e1<src.length∧src.getD e1 default=46)∧e1+1<e3
  ·have hm:0<spanN isD (src.drop (e1+1)):=by rw[← run_isD];omega
   have hs3:(src.take e3).drop at_=(c::r).take (spanN isD (c::r))++46::(src.drop (e1+1)).take (spanN isD (src.drop (e1+1))):=by
    have e4:e3-at_=spanN isD (c::r)+(1+spanN isD (src.drop (e1+1))):=by rw[← hrunD,← run_isD (src.drop (e1+1))];omega
    have h46:src.drop e1=46::src.drop (e1+1):=by rw[List.drop_eq_getElem_cons hq.1.1,← getD_eq hq.1.1,hq.1.2]
    rw[List.drop_take,e4,List.take_add,hcr]
    congr 1
    rw[← hcr,List.drop_drop,show at_+spanN isD (src.drop at_)=e1 by rw[hcr,← hrunD];omega,h46,Nat.add_comm 1,List.take_succ_cons]
   have hT3:Pure Tryz.prog 95 [iv 3,sv ⟨((src.take e3).drop at_).toArray⟩] (iv (decE ((src.take e3).drop at_))):=by
    have hlen3:((src.take e3).drop at_).length≤16384:=by rw[List.length_drop,List.length_take];omega
    rw[hs3]at hlen3 ⊢
    exact hG.dec _ _ (dig_take hn) (dig_take hm) hlen3
   have ht46:(c::r).drop (spanN isD (c::r))=46::src.drop (e1+1):=by
    rw[← hcr,List.drop_drop,show at_+spanN isD (src.drop at_)=e1 by rw[hcr,← hrunD];omega,List.drop_eq_getElem_cons hq.1.1,← getD_eq hq.1.1,hq.1.2]
   have hV:pcV at_ (pieceL (c::r))= .tup [iv 3,iv (e3:Nat),iv (decE ((src.take e3).drop at_))]:=by
    rw[p_3 h3,ht46,if_pos ⟨rfl,hm⟩]
    have e4:spanN isD (c::r)+1+spanN isD (src.drop (e1+1))=e3-at_:=by rw[← hrunD,← run_isD (src.drop (e1+1))];omega
    show AV.tup [iv 3,iv ((at_+(spanN isD (c::r)+1+spanN isD (src.drop (e1+1))):Nat)),iv (decE ((c::r).take (spanN isD (c::r)+1+spanN isD (src.drop (e1+1)))))]=_
    rw[e4,← hcr,← List.drop_take,show at_+(e3-at_)=e3 by omega]
   have hq':(decide ((e1:Int)<src.length) && decide (((src.getD e1 default).toNat:Int)=46) && decide (IntKind.i64.wrap ((e1:Int)+1)<e3))=true:=by
    rw[hk0,hq.1.2];simp;exact⟨hq.1.1,by omega⟩
   have h33:decide ((3:Int)=3)=true:=rfl
   have h31:decide ((3:Int)=1)=false:=rfl
   have h36:decide ((3:Int)=6)=false:=rfl
   have h32:decide ((3:Int)=2)=false:=rfl
   repeat'(first|exact .nil|refine .k0 ?_|refine .k1 ?_|refine .k2 ?_|refine .k3 ?_|refine .k4 ?_|refine .k6 ?_|refine .k7 ?_|(refine .cd ?_ ?_<;>(intro hc;first|exact kf hc (by assumption)|exact kt hc (by assumption)|skip))|refine .r1 ?_ ?_|(refine .m2 ?_ ?_;intro hlen)|refine .t1 ?_ ?_ ?_|refine .t4 ?_ ?_ ?_|refine .an rfl (by intro hob;first|exact idxB_ok (src.drop at_) (by rw[hcr];simp) 10 nn|exact run_okn [3] (by simp) src hl true nn _ at_ e1 rfl he1 (by omega)|exact run_okn [3] (by simp) src hl true nn _ (e1+1) e3 (by rw[i64w (by omega)];rfl) he3 (by first|omega|fail)|exact hT3) ?_ ?_|refine .r5 ?_ ?_|fail)
   try any_goals(exact Zo)
   all_goals first
   |exact Nat.le_of_ble_eq_true rfl
   |exact Sx.Fin.wk Zs (.ofeq hV.symm)
   |skip
  ·have hV:pcV at_ (pieceL (c::r))= .tup [iv 2,iv (e1:Nat),iv (intE ((src.take e1).drop at_))]:=by
    rw[p_3 h3,if_neg ?_]
    ·show AV.tup [iv 2,iv ((at_+spanN isD (c::r):Nat)),iv (intE ((c::r).take (spanN isD (c::r))))]=_
     rw[← hlk,show at_+spanN isD (c::r)=e1 by rw[← hrunD];omega]
    ·rintro⟨g1,g2⟩
     have hdd:(c::r).drop (spanN isD (c::r))=src.drop e1:=by
      rw[← hcr,List.drop_drop,show at_+spanN isD (src.drop at_)=e1 by rw[hcr,← hrunD];omega]
     rw[hdd]at g1 g2
     rw[List.drop_drop,← run_isD]at g2
     have hel:e1<src.length:=by
      by_cases h:e1<src.length
      ·exact h
      ·rw[List.drop_of_length_le (by omega)]at g1;cases g1
     rw[List.drop_eq_getElem_cons hel,List.head?_cons,Option.some.injEq,← getD_eq hel]at g1
     exact hq ⟨⟨hel,g1⟩,by omega⟩
   have hq':(decide ((e1:Int)<src.length) && decide (((src.getD e1 default).toNat:Int)=46) && decide (IntKind.i64.wrap ((e1:Int)+1)<e3))=false:=by
    rw[hk0,Bool.eq_false_iff]
    intro h
    simp only[Bool.and_eq_true,decide_eq_true_eq]at h
    exact hq ⟨⟨by omega,UInt8.toNat_inj.1 (by show(src.getD e1 default).toNat=46;omega)⟩,by omega⟩
   have h33:decide ((3:Int)=3)=true:=rfl
   have h31:decide ((3:Int)=1)=false:=rfl
   have h36:decide ((3:Int)=6)=false:=rfl
   have h32:decide ((3:Int)=2)=false:=rfl
   repeat'(first|exact .nil|refine .k0 ?_|refine .k1 ?_|refine .k2 ?_|refine .k3 ?_|refine .k4 ?_|refine .k6 ?_|refine .k7 ?_|refine .k9 ?_|(refine .cd ?_ ?_<;>(intro hc;first|exact kf hc (by assumption)|exact kt hc (by assumption)|skip))|refine .r1 ?_ ?_|(refine .m2 ?_ ?_;intro hlen)|refine .t1 ?_ ?_ ?_|refine .t4 ?_ ?_ ?_|refine .an rfl (by intro hob;first|exact idxB_ok (src.drop at_) (by rw[hcr];simp) 10 nn|exact run_okn [3] (by simp) src hl true nn _ at_ e1 rfl he1 (by omega)|exact run_okn [3] (by simp) src hl true nn _ (e1+1) e3 (by rw[i64w (by omega)];rfl) he3 (by(simp at hob;omega))|exact hT2|fail) ?_ ?_|refine .r5 ?_ ?_|fail)
   try any_goals(exact Zo)
   all_goals first
   |exact Nat.le_of_ble_eq_true rfl
   |exact Sx.Fin.wk Zs (.ofeq hV.symm)
   |skip
 have hdr:src.drop (at_+1)=r:=by
  have:=List.drop_eq_getElem_cons ha
  rw[hcr]at this
  exact(List.cons.inj this).2.symm
 have hrl2:r.length=src.length-(at_+1):=by rw[← hdr,List.length_drop]
 have hA1:(IntKind.i64.wrap ((at_:Int)+1)).toNat=at_+1:=by rw[hw1];rfl
 have hsr:∀ q,q<r.length→src.getD (at_+1+q) default=r.getD q default:=fun q hq=>by
  rw[getD_eq (by omega),getD_eq hq]
  have:r[q]=(src.drop (at_+1))[q]'(by rw[List.length_drop];omega):=by simp only[hdr]
  rw[this,List.getElem_drop]
 by_cases h1:clsB c=1
 ·have hV:pcV at_ (pieceL (c::r))= .tup [iv 0,iv (at_+1:Nat),iv 0]:=by rw[p_1 h1];rfl
  refine VY_ldp (.v (.int .u8 1)) rfl (fun _=> ?_) rfl .nil ?_
  ·have:=clsV_at c;rw[hc0];rw[h1]at this;simpa[u8v]using this
  have d1:decide ((1:Int)=1)=true:=rfl
  repeat'(first|exact .nil|refine .k0 ?_|refine .k1 ?_|refine .k2 ?_|refine .k6 ?_|refine .k7 ?_|(refine .cd ?_ ?_<;>(intro hc;first|exact kf hc (by assumption)|skip))|refine .r1 ?_ ?_|fail)
  rw[hw1]
  exact Sx.Fin.wk Zs (.ofeq hV.symm)
 by_cases h6:clsB c=6
 ·refine VY_ldp (.v (.int .u8 6)) rfl (fun _=> ?_) rfl .nil ?_
  ·have:=clsV_at c;rw[hc0];rw[h6]at this;simpa[u8v]using this
  have d1:decide ((6:Int)=1)=false:=rfl
  have d6:decide ((6:Int)=6)=true:=rfl
  repeat'(first|exact .nil|refine .k0 ?_|refine .k1 ?_|refine .k2 ?_|refine .k5 ?_|refine .k6 ?_|refine .k7 ?_|refine .k9 ?_|(refine .cd ?_ ?_<;>(intro hc;first|exact kf hc (by assumption)|exact kt hc (by assumption)|skip))|refine .r1 ?_ ?_|refine .t3 ?_ ?_ ?_|refine .an rfl (by intro hob;first|exact idxB_ok (src.drop at_) (by rw[hcr];simp) 10 nn|fail) ?_ ?_|refine .r2 ?_ ?_|fail)
  try any_goals(exact Zo)
  all_goals(try simp only[BL]at *)
  ·have hm:=(idx_nn _ _).1 hc
   have hV:pcV at_ (pieceL (c::r))= .tup [iv 0,iv (at_+spanN (fun b=>b != 10) (src.drop at_):Nat),iv 0]:=by rw[p_6 h6,hcr];rfl
   rw[hV,idx_span _ _ hm]
   have hsp:spanN (fun b=>b != 10) (src.drop at_)≤(src.drop at_).length:=by unfold spanN;exact(List.takeWhile_sublist _).length_le
   rw[List.length_drop]at hsp
   rw[i64w (by omega)]
   exact Sx.Fin.wk Zs (.refl _)
  ·have hm:¬(10:UInt8)∈src.drop at_:=fun h=>hc ((idx_nn _ _).2 h)
   have hsp:spanN (fun b=>b != 10) (src.drop at_)=(src.drop at_).length:=span_all fun b hb=>by
    have:b≠10:=fun e=>hm (e ▸ hb)
    simp[this]
   have hV:pcV at_ (pieceL (c::r))= .tup [iv 0,iv (src.length:Nat),iv 0]:=by
    rw[p_6 h6,← hcr,hsp,List.length_drop]
    show AV.tup [iv 0,iv (at_+(src.length-at_):Nat),iv 0]=_
    rw[show at_+(src.length-at_)=src.length by omega]
   exact Sx.Fin.wk Zs (.ofeq hV.symm)
 by_cases h2:clsB c=2
 ·have hWw:spanN isW (c::r)=e2-at_:=by rw[← hcr,← run_isW];omega
  have hV:pcV at_ (pieceL (c::r))= .tup [iv 1,iv (e2:Nat),iv (if e2-at_>24 then 2 else 0)]:=by
   rw[p_2 h2,hWw]
   show AV.tup [iv 1,iv (at_+(e2-at_):Nat),_]=_
   rw[show at_+(e2-at_)=e2 by omega]
  rw[hV]
  refine VY_ldp (.v (.int .u8 2)) rfl (fun _=> ?_) rfl .nil ?_
  ·have:=clsV_at c;rw[hc0];rw[h2]at this;simpa[u8v]using this
  have d1:decide ((2:Int)=1)=false:=rfl
  have d6:decide ((2:Int)=6)=false:=rfl
  have d2:decide ((2:Int)=2)=true:=rfl
  repeat'(first|exact .nil|refine .k0 ?_|refine .k1 ?_|refine .k2 ?_|refine .k6 ?_|refine .k7 ?_|refine .k9 ?_|(refine .cd ?_ ?_<;>(intro hc;first|exact kf hc (by assumption)|exact kt hc (by assumption)|skip))|refine .r1 ?_ ?_|refine .an rfl (by intro hob;first|exact run_okn [2,3,4] (by simp) src hl true nn _ at_ e2 rfl he2 (by omega)|fail) ?_ ?_|fail)
  all_goals(try simp only[BL]at *)
  ·exact Nat.le_of_ble_eq_true rfl
  ·rw[i64w (by omega)]at hc;rw[if_pos (by omega)];exact Sx.Fin.wk Zs (.refl _)
  ·rw[i64w (by omega)]at hc;rw[if_neg (by omega)];exact Sx.Fin.wk Zs (.refl _)
 by_cases h5:clsB c=5
 ·have hA5:Pure Tryz.prog 96 [.sl nn 1 ((src.drop (IntKind.i64.wrap ((at_:Int)+1)).toNat).map byteRow),sv ⟨#[34,10]⟩] (iv (anyQ r)):=by
   rw[hA1,hdr];exact hA r nn (by omega)
  have hw2:∀ q:Nat,q≤16384→IntKind.i64.wrap (((at_+1:Nat):Int)+(q:Nat))=((at_+1+q:Nat):Int):=fun q hq=>by rw[i64w (by omega)];omega
  have hw3:∀ q:Nat,q≤16384→IntKind.i64.wrap ((at_:Int)+(q:Nat))=((at_+q:Nat):Int):=fun q hq=>by rw[i64w (by omega)];omega
  have hw4:∀ q:Nat,q≤16384→IntKind.i64.wrap (((at_+q:Nat):Int)+1)=((at_+q+1:Nat):Int):=fun q hq=>by rw[i64w (by omega)];omega
  have hw5:∀ q:Nat,q≤16384→IntKind.i64.wrap (((at_+q:Nat):Int)+2)=((at_+q+2:Nat):Int):=fun q hq=>by rw[i64w (by omega)];omega
  refine VY_ldp (.v (.int .u8 5)) rfl (fun _=> ?_) rfl .nil ?_
  ·have:=clsV_at c;rw[hc0];rw[h5]at this;simpa[u8v]using this
  have d1:decide ((5:Int)=1)=false:=rfl
  have d6:decide ((5:Int)=6)=false:=rfl
  have d2:decide ((5:Int)=2)=false:=rfl
  have d3:decide ((5:Int)=3)=false:=rfl
  have d5:decide ((5:Int)=5)=true:=rfl
  by_cases hmem:34∈r∨10∈r
  ·obtain⟨hq1,hq2⟩:=span_hit (p:=fun b=>b != 34 && b != 10) (s:=r) (by
    rcases hmem with h|h
    ·exact⟨34,h,rfl⟩
    ·exact⟨10,h,rfl⟩)
   have hAq:anyQ r=(spanN (fun b=>b != 34 && b != 10) r:Nat):=if_pos hmem
   have hV0:=p_5 (r:=r) h5
   generalize spanN (fun b=>b != 34 && b != 10) r=q at *
   rw[hAq]at hA5
   have hq3:src.getD (at_+1+q) default=r.getD q default:=hsr q hq1
   have hq4:r.getD q default=34∨r.getD q default=10:=by
    rw[Bool.and_eq_false_iff]at hq2
    rcases hq2 with h|h
    ·exact .inl (by simpa using h)
    ·exact .inr (by simpa using h)
   have hqh:(r.drop q).head? =some (r.getD q default):=by rw[List.drop_eq_getElem_cons hq1,List.head?_cons,getD_eq hq1]
   rw[hqh]at hV0
   repeat'(first|exact .nil|refine .k0 ?_|refine .k1 ?_|refine .k2 ?_|refine .k3 ?_|refine .k6 ?_|refine .k7 ?_|refine .k9 ?_|(refine .cd ?_ ?_<;>(intro hc;first|exact kf hc (by assumption)|exact kt hc (by assumption)|skip))|refine .r1 ?_ ?_|refine .t1 ?_ ?_ ?_|refine .t3 ?_ ?_ ?_|refine .t4 ?_ ?_ ?_|refine .an rfl (by intro hob;first|exact hA5|exact unfit_ok _ _|fail) ?_ ?_|fail)
   try any_goals(exact Zo)
   all_goals(try simp only[BL]at *)
   all_goals simp only[hw1,hw2 q (by omega),hw3 q (by omega),hw4 q (by omega),hw5 q (by omega),Int.toNat_natCast,hq3]at *
   ·have h10:r.getD q default=10:=by
     rcases hc with h|h
     ·omega
     ·exact UInt8.toNat_inj.1 (by show(r.getD q default).toNat=10;omega)
    rw[hV0,h10,if_neg (by decide)]
    exact Sx.Fin.wk Zs (.refl _)
   ·exact⟨by omega,by omega,by omega⟩
   ·have h34:r.getD q default=34:=by
     rcases hq4 with h|h
     ·exact h
     ·exact absurd (by rw[h];rfl) hc.2
    rw[hV0,h34,if_pos rfl]
    have e:(src.take (at_+q+1)).drop (at_+1)=r.take q:=by
     rw[List.drop_take,hdr];congr 1;omega
    rw[e]
    exact Sx.Fin.wk Zs (.refl _)
   ·exact fun _=>⟨by omega,by omega⟩
  ·have hAq:anyQ r= -1:=if_neg hmem
   rw[hAq]at hA5
   have hV:pcV at_ (pieceL (c::r))= .tup [iv (-1),iv (at_+1:Nat),iv 80]:=by
    have hsp:spanN (fun b=>b != 34 && b != 10) r=r.length:=span_all fun b hb=>by
     have h1:b≠34:=fun e=>hmem (.inl (e ▸ hb))
     have h2:b≠10:=fun e=>hmem (.inr (e ▸ hb))
     simp[h1,h2]
    rw[p_5 h5,hsp,List.drop_length,if_neg (by simp)]
    rfl
   repeat'(first|exact .nil|refine .k0 ?_|refine .k1 ?_|refine .k2 ?_|refine .k3 ?_|refine .k4 ?_|refine .k6 ?_|refine .k7 ?_|(refine .cd ?_ ?_<;>(intro hc;first|exact kf hc (by assumption)|exact kt hc (by assumption)|skip))|refine .r1 ?_ ?_|refine .t1 ?_ ?_ ?_|refine .t3 ?_ ?_ ?_|refine .an rfl (by intro hob;first|exact hA5|fail) ?_ ?_|fail)
   try any_goals(exact Zo)
   all_goals(try simp only[BL]at *)
   all_goals simp only[hw1]at *
   all_goals first
   |exact Sx.Fin.wk Zs (.ofeq hV.symm)
   |(exfalso;omega)
   |exact fun h=>absurd h (by decide)
   |skip
 have hd61:r.head? =some 61↔(at_+1<src.length∧src.getD (at_+1) default=61):=by
  by_cases h:at_+1<src.length
  ·rw[← hdr,List.drop_eq_getElem_cons h,List.head?_cons,Option.some.injEq,getD_eq h]
   exact⟨fun e=>⟨h,e⟩,fun e=>e.2⟩
  ·have:r=[]:=List.eq_nil_of_length_eq_zero (by omega)
   rw[this]
   exact⟨fun e=>(by cases e),fun e=>absurd e.1 h⟩
 have hw6:IntKind.i64.wrap (((at_+1:Nat):Int)+1)=((at_+2:Nat):Int):=by rw[i64w (by omega)];omega
 by_cases h77:clsB c=7
 ·refine VY_ldp (.v (.int .u8 7)) rfl (fun _=> ?_) rfl .nil ?_
  ·have:=clsV_at c;rw[hc0];rw[h77]at this;simpa[u8v]using this
  have d1:decide ((7:Int)=1)=false:=rfl
  have d6:decide ((7:Int)=6)=false:=rfl
  have d2:decide ((7:Int)=2)=false:=rfl
  have d3:decide ((7:Int)=3)=false:=rfl
  have d5:decide ((7:Int)=5)=false:=rfl
  have d7:decide ((7:Int)=7)=true:=rfl
  repeat'(first|exact .nil|refine .k0 ?_|refine .k1 ?_|refine .k2 ?_|refine .k3 ?_|refine .k4 ?_|refine .k6 ?_|refine .k7 ?_|refine .k9 ?_|(refine .cd ?_ ?_<;>(intro hc;first|exact kf hc (by assumption)|exact kt hc (by assumption)|skip))|refine .r1 ?_ ?_|(refine .m2 ?_ ?_;intro hlen)|refine .t1 ?_ ?_ ?_|refine .an rfl (by intro hob;first|exact idxS_ok _ _|fail) ?_ ?_|fail)
  try any_goals(exact Zo)
  all_goals(try simp only[BL]at *)
  all_goals simp only[hw1,hw6,Int.toNat_natCast,hc0,idx_3]at *
  ·rw[p_7 (by omega),if_pos ⟨hd61.2 ⟨by omega,UInt8.toNat_inj.1 (by show(src.getD (at_+1) default).toNat=61;omega)⟩,hc.2⟩]
   exact Sx.Fin.wk Zs (.refl _)
  ·rename_i hcn
   have h33:c≠33:=fun e=>hc (by rw[e];rfl)
   rw[p_7 (by omega),if_neg (fun h=> ?_),if_pos h33]
   ·exact Sx.Fin.wk Zs (.refl _)
   ·obtain⟨g1,g2⟩:=hd61.1 h.1
    rcases hcn with(h1|h1)|h1
    ·omega
    ·exact h1 (by rw[g2];rfl)
    ·exact h1 h.2
  ·rename_i hcn
   have h33:c=33:=UInt8.toNat_inj.1 (by show c.toNat=33;omega)
   rw[p_7 (by omega),if_neg (fun h=> ?_),if_neg (fun h=>h h33)]
   ·exact Sx.Fin.wk Zs (.refl _)
   ·obtain⟨g1,g2⟩:=hd61.1 h.1
    rcases hcn with(h1|h1)|h1
    ·omega
    ·exact h1 (by rw[g2];rfl)
    ·exact h1 h.2
 by_cases h78:clsB c=8
 ·refine VY_ldp (.v (.int .u8 8)) rfl (fun _=> ?_) rfl .nil ?_
  ·have:=clsV_at c;rw[hc0];rw[h78]at this;simpa[u8v]using this
  have d1:decide ((8:Int)=1)=false:=rfl
  have d6:decide ((8:Int)=6)=false:=rfl
  have d2:decide ((8:Int)=2)=false:=rfl
  have d3:decide ((8:Int)=3)=false:=rfl
  have d5:decide ((8:Int)=5)=false:=rfl
  have d7:decide ((8:Int)=7)=false:=rfl
  have d8:decide ((8:Int)=8)=true:=rfl
  repeat'(first|exact .nil|refine .k0 ?_|refine .k1 ?_|refine .k2 ?_|refine .k3 ?_|refine .k4 ?_|refine .k6 ?_|refine .k7 ?_|refine .k9 ?_|(refine .cd ?_ ?_<;>(intro hc;first|exact kf hc (by assumption)|exact kt hc (by assumption)|skip))|refine .r1 ?_ ?_|(refine .m2 ?_ ?_;intro hlen)|refine .t1 ?_ ?_ ?_|refine .an rfl (by intro hob;first|exact idxS_ok _ _|fail) ?_ ?_|fail)
  try any_goals(exact Zo)
  all_goals(try simp only[BL]at *)
  all_goals simp only[hw1,hw6,Int.toNat_natCast,hc0,idx_3]at *
  ·rw[p_7 (by omega),if_pos ⟨hd61.2 ⟨by omega,UInt8.toNat_inj.1 (by show(src.getD (at_+1) default).toNat=61;omega)⟩,hc.2⟩]
   exact Sx.Fin.wk Zs (.refl _)
  ·rename_i hcn
   have h33:c≠33:=fun e=>hc (by rw[e];rfl)
   rw[p_7 (by omega),if_neg (fun h=> ?_),if_pos h33]
   ·exact Sx.Fin.wk Zs (.refl _)
   ·obtain⟨g1,g2⟩:=hd61.1 h.1
    rcases hcn with(h1|h1)|h1
    ·omega
    ·exact h1 (by rw[g2];rfl)
    ·exact h1 h.2
  ·rename_i hcn
   have h33:c=33:=UInt8.toNat_inj.1 (by show c.toNat=33;omega)
   rw[p_7 (by omega),if_neg (fun h=> ?_),if_neg (fun h=>h h33)]
   ·exact Sx.Fin.wk Zs (.refl _)
   ·obtain⟨g1,g2⟩:=hd61.1 h.1
    rcases hcn with(h1|h1)|h1
    ·omega
    ·exact h1 (by rw[g2];rfl)
    ·exact h1 h.2
 ·refine VY_ldp (.v (.int .u8 (clsB c:Nat))) rfl (fun _=> ?_) rfl .nil ?_
  ·have:=clsV_at c;rw[hc0];simpa[u8v]using this
  have d1:decide (((clsB c:Nat):Int)=1)=false:=by simp;omega
  have d6:decide (((clsB c:Nat):Int)=6)=false:=by simp;omega
  have d2:decide (((clsB c:Nat):Int)=2)=false:=by simp;omega
  have d3:decide (((clsB c:Nat):Int)=3)=false:=by simp;omega
  have d5:decide (((clsB c:Nat):Int)=5)=false:=by simp;omega
  have d7:decide (((clsB c:Nat):Int)=7)=false:=by simp;omega
  have d8:decide (((clsB c:Nat):Int)=8)=false:=by simp;omega
  repeat'(first|exact .nil|refine .k0 ?_|refine .k1 ?_|refine .k2 ?_|refine .k6 ?_|refine .k7 ?_|refine .k9 ?_|(refine .cd ?_ ?_<;>(intro hc;first|exact kt hc (by assumption)|skip))|refine .r1 ?_ ?_|fail)
  rw[hw1,p_0 ⟨h1,h6,h2,h3,h5,h77,h78⟩]
  exact Sx.Fin.wk Zs (.refl _)
end Go.Proofs.YtbihckigennlhaaGreatDoor
set_option maxHeartbeats 8000000
namespace Go.Proofs.YtbihckigennlhaaGreatDoor
open Go.Proofs
def decRen:Go.Shelf.Ren:=⟨fun|32=>142|49=>181|n=>n,fun|0=>0|3=>3|4=>4|5=>5|21=>21|25=>206|30=>22|33=>179|66=>94|68=>233|69=>234|n=>n,fun|2=>5|3=>6|n=>n⟩
theorem decLays:Go.Proofs.Lays7.n32 Tryz.prog decRen:={
 mixed:=by kernel_rfl
 f32:=Tryz.func142.trans (congrArg some (by kernel_rfl))
 f49:=Tryz.func181.trans (congrArg some (by kernel_rfl))
 t0:=Tryz.underlying0
 a0:=Tryz.isAgg0
 z0:=Tryz.sizeOf0
 v0:=Tryz.zeroValue0
 i0:=by kernel_rfl
 t3:=Tryz.underlying3
 a3:=Tryz.isAgg3
 z3:=Tryz.sizeOf3
 v3:=Tryz.zeroValue3
 i3:=by kernel_rfl
 t4:=Tryz.underlying4
 a4:=Tryz.isAgg4
 z4:=Tryz.sizeOf4
 v4:=Tryz.zeroValue4
 i4:=by kernel_rfl
 t5:=Tryz.underlying5
 a5:=Tryz.isAgg5
 z5:=Tryz.sizeOf5
 v5:=Tryz.zeroValue5
 i5:=by kernel_rfl
 t21:=Tryz.underlying21
 a21:=Tryz.isAgg21
 z21:=Tryz.sizeOf21
 v21:=Tryz.zeroValue21
 i21:=by kernel_rfl
 t25:=Tryz.underlying206
 a25:=Tryz.isAgg206
 z25:=Tryz.sizeOf206
 v25:=Tryz.zeroValue206
 i25:=by kernel_rfl
 t30:=Tryz.underlying22
 a30:=Tryz.isAgg22
 z30:=Tryz.sizeOf22
 v30:=Tryz.zeroValue22
 i30:=by kernel_rfl
 t33:=Tryz.underlying179
 a33:=Tryz.isAgg179
 z33:=Tryz.sizeOf179
 v33:=Tryz.zeroValue179
 i33:=by kernel_rfl
 t66:=Tryz.underlying94
 a66:=Tryz.isAgg94
 z66:=Tryz.sizeOf94
 t68:=Tryz.underlying233
 a68:=Tryz.isAgg233
 z68:=Tryz.sizeOf233
 v68:=Tryz.zeroValue233
 i68:=by kernel_rfl
 t69:=Tryz.underlying234
 a69:=Tryz.isAgg234
 z69:=Tryz.sizeOf234
 v69:=Tryz.zeroValue234
 i69:=by kernel_rfl
 g2:=by kernel_rfl
 g3:=by kernel_rfl}
end Go.Proofs.YtbihckigennlhaaGreatDoor
