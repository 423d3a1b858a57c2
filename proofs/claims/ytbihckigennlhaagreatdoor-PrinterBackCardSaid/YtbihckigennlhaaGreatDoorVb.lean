/- The lexer: searching bytes. -/
import Derived.Test.YtbihckigennlhaaGreatDoorUi
import Derived.Test.YtbihckigennlhaaGreatDoorPt
set_option linter.unusedSimpArgs false
set_option linter.unusedVariables false
set_option linter.unusedSectionVars false
set_option maxRecDepth 100000
set_option maxHeartbeats 4000000
namespace Go.Sx
open Go.RowKit
section
variable {P:Program}[Glob P]{N:Nat}{cfg:Nat→Nat}{K:Regs→Store→Prop}{E:List PanicEntry→Store→Prop}{σ:Store}{l:List CI}{d n:Nat}{y:AV}{xr:XR}{ps:List Prop}{g:Option (Nat×Bool)}{og:Option Bool}{als cf:List Nat}{ix:Nat}{ld:List CD}{ls:List AV}{x:Operand}
theorem VY_ldp(y:AV)(h:argO xr g [x]=some (og,[.pc ls],ps))(hy:og.getD true=true→ls[0]? =some y)(hok:okX als cf xr (.load false n x)=true)(hps:OB ps)(k:VY P cfg als ld K (putX og d y xr) σ):
  VY P cfg als (⟨ix,⟨some d,.load false n x,g⟩,cf⟩::ld) K xr σ:=by
 obtain⟨hc,he⟩:=argO_eq h
 unfold okX at hok
 rw[Bool.and_eq_true]at hok
 refine VY_gen hc (fun hg=> ?_) (fun hg=> ?_)
 ·have:=he hps hg
  simp only[evs,List.cons.injEq,and_true]at this
  simp only[vcOD,IOp.cls]
  refine⟨by rw[← (okd_den hok.1 (op:= .load false n x) (argO_raw h hps hg)).1];exact hok.2,?_⟩
  simp only[vcO,this,hy hg,Bool.false_eq_true,if_false]
  have:=k.h
  rw[putX_t hg]at this
  exact this
 ·rw[← putX_f hg (v:=y)];exact k.h
end
end Go.Sx
namespace Go.Proofs.YtbihckigennlhaaGreatDoor
open Go.Sx Go.Proofs Go.RowKit
theorem clsV_at(b:UInt8):(clsV.drop b.toNat)[0]? =some (u8v (clsB b)):=by
 have h:b.toNat<256:=b.toNat_lt
 unfold clsV
 rw[List.getElem?_drop,Nat.add_zero,List.getElem?_map,List.getElem?_range h]
 simp
theorem bytesOf_map(l:List UInt8):Lib.bytesOf (l.map fun b=>(b.toNat:Int))=l:=by
 unfold Lib.bytesOf
 rw[List.map_map]
 conv=>rhs;rw[← List.map_id l]
 exact List.map_congr_left fun b _=>by simp
theorem idxB_ok(l:List UInt8)(hl:l≠[])(c:UInt8)(nn:Bool):Pure Tryz.prog 94 [.sl nn 1 (l.map byteRow),.v (.int .u8 c.toNat)] (iv (Lib.indexByte l c)):=by
 refine Pure.shelf fun M w0 w σ cs hI hR=> ?_
 obtain⟨v1,vs,rfl,h1,h2⟩:=hR.uncons
 obtain⟨v2,rfl,h3⟩:=h2.un1
 obtain rfl:=h3.of_v
 rcases h1.of_sl with⟨a,_,h0,_⟩|⟨b,off,cap,cs,rfl,hr,h4,h5⟩
 ·exact absurd (List.map_eq_nil_iff.1 h0) hl
 have hlen:(l.map byteRow).length=l.length:=List.length_map _
 refine(Tryz.bytes_IndexByte b off _ cap (l.map fun b=>(b.toNat:Int)) c.toNat w (by simp) (fun i hi=> ?_)).mono fun e w' ⟨he,hw⟩=>⟨⟨_,he,?_⟩,by rw[hw];exact Below.refl _ _⟩
 ·have hi':i<l.length:=by omega
  have h6:=hI.imm _ _ _ (hr.mem i (by omega))
  have h7:=hr.rel i hi 0 (by simp[byteRow])
  simp only[List.getElem_map,byteRow,List.getElem_cons_zero,Nat.mul_one,Nat.add_zero]at h7
  rw[h6,h7.of_v]
  simp[List.getD_eq_getElem?_getD,hi']
 ·rw[bytesOf_map]
  have:((c.toNat:Int).toNat.toUInt8)=c:=by simp
  rw[this];exact .v _
theorem idxS_ok(s:Str)(c:UInt8):Pure Tryz.prog 98 [sv s,.v (.int .u8 c.toNat)] (iv (Lib.indexByte s.data.toList c)):=by
 refine Pure.shelf fun M w0 w σ cs hI hR=> ?_
 obtain⟨v1,vs,rfl,h1,h2⟩:=hR.uncons
 obtain⟨v2,rfl,h3⟩:=h2.un1
 obtain rfl:=h3.of_v
 obtain rfl:=h1.of_v
 exact(Tryz.strings_IndexByte s c.toNat w).mono fun e w' ⟨he,hw⟩=>⟨⟨_,he,by
  have:((c.toNat:Int).toNat.toUInt8)=c:=by simp
  rw[this];exact .v _⟩,by rw[hw];exact Below.refl _ _⟩
theorem idx_nn(l:List UInt8)(c:UInt8):0≤Lib.indexByte l c↔c∈l:=by
 induction l with
 |nil=>simp[Lib.indexByte]
 |cons b l ih=>
  have hg:=Lib.indexByte_ge l c
  unfold Lib.indexByte
  by_cases h:b=c
  ·subst h;simp
  ·have h1:(b == c)=false:=by simp[h]
   rw[h1]
   simp only[Bool.false_eq_true,if_false]
   by_cases h2:Lib.indexByte l c= -1
   ·rw[h2]at ih ⊢
    have:¬c∈l:=fun hm=>absurd (ih.2 hm) (by decide)
    simp[this]
    exact fun e=>h e.symm
   ·have h3:(Lib.indexByte l c == -1)=false:=by simp[h2]
    rw[h3]
    have:c∈l:=ih.1 (by omega)
    simp[this];omega
theorem idx_span(l:List UInt8)(c:UInt8)(h:c∈l):Lib.indexByte l c=spanN (fun b=>b != c) l:=by
 induction l with
 |nil=>cases h
 |cons b l ih=>
  unfold Lib.indexByte spanN
  by_cases hb:b=c
  ·subst hb;simp
  ·have hm:c∈l:=by rcases List.mem_cons.1 h with e|e;exact absurd e.symm hb;exact e
   have h1:(b == c)=false:=by simp[hb]
   have hi:=ih hm
   have hg:=(idx_nn l c).2 hm
   have h3:(Lib.indexByte l c == -1)=false:=by
    rw[beq_eq_false_iff_ne];omega
   rw[h1,h3]
   have hne:(b != c)=true:=by simp[hb]
   simp only[Bool.false_eq_true,if_false,List.takeWhile_cons,hne,if_true,List.length_cons]
   rw[hi];unfold spanN;omega
theorem unfit_ok(l:List UInt8)(nn:Bool):Pure Tryz.prog 97 [.sl nn 1 (l.map byteRow)] (iv (unfitE l)):=by
 refine Pure.runk (fun _=>0) Tryz.func97 comp97 era97 (Nat.le_of_ble_eq_true rfl) fun σ=> ?_
 unfold unfitE
 repeat'(first|exact .nil|refine .k0 ?_|refine .k1 ?_|refine .k2 ?_|refine .k6 ?_|refine .k7 ?_|refine .k9 ?_|(refine .cd ?_ ?_<;>(intro hc;skip))|refine .r1 ?_ ?_|(refine .m2 ?_ ?_;intro hlen)|fail)
 all_goals(try simp only[BL]at *)
 ·rw[if_pos (by omega)];exact Zw
 rw[if_neg (by omega)]
 refine WK_loop (fun m rg σ'=>∃ i:Nat,i≤l.length∧m=l.length-i∧(∀ c∈l.take i,¬(c.toNat<32∨c.toNat>126∨c=92))∧σ'=σ∧rg=[(8,.sl nn 1 (l.map byteRow)),(9,iv l.length),(10,iv i)]) l.length rfl ⟨_,_,Zr,Zs,0,Nat.zero_le _,rfl,(fun c h=>by cases h),rfl,rfl⟩ ?_
 rintro m _ _ ⟨i,hi,hm,hg,rfl,rfl⟩
 repeat'(first|exact .nil|refine .k0 ?_|refine .k1 ?_|refine .k2 ?_|refine .k4 ?_|refine .k6 ?_|refine .k7 ?_|refine .k8 ?_|refine .k9 ?_|(refine .cd ?_ ?_<;>(intro hc;skip))|refine .r1 ?_ ?_|refine .t1 ?_ ?_ ?_|fail)
 try any_goals(exact Zo)
 all_goals(try simp only[BL]at *)
 ·have hil:i<l.length:=by omega
  rw[if_pos ⟨l.getD i default,getD_mem hil,by rcases hc with(h|h)|h
                                              ·exact .inl (by omega)
                                              ·exact .inr (.inl (by omega))
                                              ·exact .inr (.inr (UInt8.toNat_inj.1 (by show(l.getD i default).toNat=92;omega)))⟩]
  exact Zw
 ·have hil:i<l.length:=by omega
  refine⟨m-1,by omega,_,_,Zr,Zs,i+1,by omega,by omega,fun c hm=> ?_,rfl,by rw[up1 hil (by assumption)]⟩
  rw[List.take_succ_eq_append_getElem hil,← getD_eq hil,List.mem_append,List.mem_singleton]at hm
  rcases hm with hm|rfl
  ·exact hg c hm
  ·rintro(h|h|h)
   ·exact hc.1.1 (by omega)
   ·exact hc.1.2 (by omega)
   ·exact hc.2 (by rw[h];rfl)
 ·have hil:i=l.length:=by omega
  subst hil
  rw[List.take_length]at hg
  rw[if_neg (fun⟨c,h1,h2⟩=>hg c h1 h2)]
  exact Zw
def runN(ps:List UInt8)(s:List UInt8):Nat:=spanN (fun b=>decide (UInt8.ofNat (clsB b)∈ps)) s
theorem runN_at{ps:List UInt8}{s:List UInt8}{i:Nat}(h:i<s.length):runN ps (s.drop i)=if UInt8.ofNat (clsB (s.getD i default))∈ps then runN ps (s.drop (i+1))+1 else 0:=by
 unfold runN spanN
 rw[List.drop_eq_getElem_cons h,getD_eq h]
 by_cases hm:UInt8.ofNat (clsB s[i])∈ps
 ·rw[if_pos hm,List.takeWhile_cons,if_pos (decide_eq_true hm),List.length_cons]
 ·rw[if_neg hm,List.takeWhile_cons,if_neg (by simp[hm])];rfl
theorem runN_le(ps s:List UInt8):runN ps s≤s.length:=by
 unfold runN spanN
 exact(List.takeWhile_sublist _).length_le
theorem cls_u8(b:UInt8):(UInt8.ofNat (clsB b)).toNat=clsB b:=by
 have:clsB b<9:=by unfold clsB;repeat' split
                   all_goals omega
 simp;omega
theorem run_ok(ps:List UInt8)(hps:ps≠[])(src:List UInt8)(hl:src.length≤16384)(nn n2:Bool)(from_:Nat)(hf:from_≤src.length):
  Pure Tryz.prog 93 [iv from_,.sl nn 1 (ps.map byteRow),.pc [.sl n2 1 (src.map byteRow)],.pc [.pc clsV]] (iv (from_+runN ps (src.drop from_):Nat)):=by
 refine Pure.runk (fun i=>bif Nat.beq i 1000019 then 1 else 0) Tryz.func93 comp93 era93 (Nat.le_of_ble_eq_true rfl) fun σ=> ?_
 repeat'(first|exact .nil|refine .k0 ?_|refine .k1 ?_|refine .k2 ?_|refine .k6 ?_|refine .r1 ?_ ?_|fail)
 all_goals(try simp only[BL]at *)
 refine WK_loop (fun m rg σ'=>∃ i:Nat,from_≤i∧i≤src.length∧m=src.length-i∧from_+runN ps (src.drop from_)=i+runN ps (src.drop i)∧σ'=σ∧rg=[(0,iv i),(1,.sl nn 1 (ps.map byteRow)),(2,.pc [.sl n2 1 (src.map byteRow)]),(3,.pc [.pc clsV])]) (src.length-from_) rfl ⟨_,_,Zr,Zs,from_,Nat.le_refl _,hf,rfl,rfl,rfl,rfl⟩ ?_
 rintro m _ _ ⟨i,hi0,hi,hm,he,rfl,rfl⟩
 rw[he]
 repeat'(first|exact .nil|refine .k1 ?_|refine .k3 ?_|refine .k4 ?_|refine .k5 ?_|refine .r1 ?_ ?_|refine .t1 ?_ ?_ ?_|refine .r2 ?_ ?_|fail)
 try any_goals(exact Zo)
 all_goals(try simp only[BL]at *)
 ·exact fun h=>⟨by omega,by have:=(src.getD i default).toNat_lt;show _<(256:Int);omega⟩
 refine VY_ldp (.v (.int .u8 ((UInt8.ofNat (clsB (src.getD i default))).toNat:Nat))) rfl (fun _=> ?_) rfl ?_ ?_
 ·rw[cls_u8];have:=clsV_at (src.getD i default);simpa[u8v]using this
 ·exact .cons (fun h=>h) .nil
 repeat'(first|exact .nil|refine .k0 ?_|refine .k1 ?_|refine .k2 ?_|refine .k4 ?_|refine .k6 ?_|refine .k7 ?_|refine .k8 ?_|refine .k9 ?_|(refine .cd ?_ ?_<;>(intro hc;skip))|refine .r1 ?_ ?_|refine .an rfl (by intro hob;exact idxB_ok ps hps _ nn) ?_ ?_|fail)
 all_goals(try simp only[BL]at *)
 ·have hil:i<src.length:=by omega
  have hm2:=(idx_nn _ _).1 hc.2
  refine⟨m-1,by omega,_,_,Zr,Zs,i+1,by omega,by omega,by omega,?_,rfl,by rw[up1 hil (by unfold maxLen;omega)]⟩
  rw[runN_at hil,if_pos hm2];omega
 ·by_cases hil:i<src.length
  ·have hm2:¬UInt8.ofNat (clsB (src.getD i default))∈ps:=fun h=>(hc.resolve_left (fun h=>h (by omega))) ((idx_nn _ _).2 h)
   rw[runN_at hil,if_neg hm2];exact Zw
  ·have hil:i=src.length:=by omega
   subst hil
   rw[List.drop_length]
   exact Zw
end Go.Proofs.YtbihckigennlhaaGreatDoor
