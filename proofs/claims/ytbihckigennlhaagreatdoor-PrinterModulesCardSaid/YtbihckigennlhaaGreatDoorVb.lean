/- The lexer: searching bytes. -/
import Derived.Test.YtbihckigennlhaaGreatDoorUi
import Derived.Test.YtbihckigennlhaaGreatDoorPt
set_option linter.unusedSimpArgs false
set_option linter.unusedVariables false
set_option linter.unusedSectionVars false
set_option maxRecDepth 100000
set_option maxHeartbeats 4000000
namespace Go.Sx
open Go.RowKit
section
variable {P:Program}[Glob P]{N:Nat}{cfg:Nat→Nat}{K:ae→Store→Prop}{E:List PanicEntry→Store→Prop}{σ:Store}{l:List CI}{d n:Nat}{y:AV}{xr:XR}{ps:List Prop}{g:Option (Nat×Bool)}{og:Option Bool}{ah cf:List Nat}{ix:Nat}{ld:List CD}{ls:List AV}{x:Operand}
theorem oM(y:AV)(h:aA xr g [x]=some (og,[.pc ls],ps))(hy:og.getD true=true→ls[0]? =some y)(hok:kL ah cf xr (.load false n x)=true)(al:OB ps)(k:VY P cfg ah ld K (bF og d y xr) σ):
  VY P cfg ah (⟨ix,⟨some d,.load false n x,g⟩,cf⟩::ld) K xr σ:=by
 obtain⟨hc,he⟩:=bZ h
 unfold kL at hok
 rw[Z0]at hok
 refine nB hc (fun hg=> ?_) (fun hg=> ?_)
 ·have:=he al hg
  simp only[aU,ZW,and_true]at this
  simp only[cO,aw.cls]
  refine⟨by rw[← (FL hok.1 (op:= .load false n x) (Dk h al hg)).1];exact hok.2,?_⟩
  simp only[aj,this,hy hg,ZS,Zt]
  have:=k.h
  rw[eP hg]at this
  exact this
 ·rw[← eO hg (v:=y)];exact k.h
end
end Go.Sx
namespace Go.Proofs.YtbihckigennlhaaGreatDoor
open Go.Sx Go.Proofs Go.RowKit
theorem oS(b:UInt8):(jU.drop b.toNat)[0]? =some (iM (aC b)):=by
 have h:b.toNat<256:=b.toNat_lt
 unfold jU
 rw[Ys,YN,X8,List.getElem?_range h]
 simp
theorem Ua(l:List UInt8):Lib.bytesOf (l.map fun b=>(b.toNat:Int))=l:=by
 unfold Lib.bytesOf
 rw[Yw]
 conv=>rhs;rw[← List.map_id l]
 exact List.map_congr_left fun b _=>by simp
theorem Bq(l:List UInt8)(hl:l≠[])(c:UInt8)(nn:Bool):Pure Tryz.prog 94 [.sl nn 1 (l.map bn),.v (.int .u8 c.toNat)] (iv (Lib.indexByte l c)):=by
 refine Pure.shelf fun M w0 w σ cs hI hR=> ?_
 obtain⟨v1,vs,rfl,h1,h2⟩:=hR.cN
 obtain⟨v2,rfl,h3⟩:=h2.dV
 obtain rfl:=h3.az
 rcases h1.pD with⟨a,_,h0,_⟩|⟨b,off,cap,cs,rfl,hr,h4,h5⟩
 ·exact absurd (YO.1 h0) hl
 have hlen:(l.map bn).length=l.length:=Z3 _
 refine(Tryz.bytes_IndexByte b off _ cap (l.map fun b=>(b.toNat:Int)) c.toNat w (by simp) (fun i hi=> ?_)).mono fun e w' ⟨he,hw⟩=>⟨⟨_,he,?_⟩,by rw[hw];exact Below.refl _ _⟩
 ·have cH:i<l.length:=by omega
  have h6:=hI.dB _ _ _ (hr.mem i (by omega))
  have h7:=hr.rel i hi 0 (by simp[bn])
  simp only[Zg,bn,YI,XU,YN]at h7
  rw[h6,h7.az]
  simp[Z1,cH]
 ·rw[Ua]
  have:((c.toNat:Int).toNat.toUInt8)=c:=by simp
  rw[this];exact .v _
theorem Ma(s:af)(c:UInt8):Pure Tryz.prog 98 [sv s,.v (.int .u8 c.toNat)] (iv (Lib.indexByte s.data.toList c)):=by
 refine Pure.shelf fun M w0 w σ cs hI hR=> ?_
 obtain⟨v1,vs,rfl,h1,h2⟩:=hR.cN
 obtain⟨v2,rfl,h3⟩:=h2.dV
 obtain rfl:=h3.az
 obtain rfl:=h1.az
 exact(Tryz.strings_IndexByte s c.toNat w).mono fun e w' ⟨he,hw⟩=>⟨⟨_,he,by
  have:((c.toNat:Int).toNat.toUInt8)=c:=by simp
  rw[this];exact .v _⟩,by rw[hw];exact Below.refl _ _⟩
theorem vB(l:List UInt8)(c:UInt8):0≤Lib.indexByte l c↔c∈l:=by
 induction l with
 |nil=>simp[Lib.indexByte]
 |cons b l ih=>
  have hg:=Lib.indexByte_ge l c
  unfold Lib.indexByte
  by_cases h:b=c
  ·subst h;simp
  ·have h1:(b == c)=false:=by simp[h]
   rw[h1]
   simp only[ZS,Zt]
   by_cases h2:Lib.indexByte l c= -1
   ·rw[h2]at ih ⊢
    have:¬c∈l:=fun hm=>absurd (ih.2 hm) (by decide)
    simp[this]
    exact fun e=>h e.symm
   ·have h3:(Lib.indexByte l c == -1)=false:=by simp[h2]
    rw[h3]
    have:c∈l:=ih.1 (by omega)
    simp[this];omega
theorem aaP(l:List UInt8)(c:UInt8)(h:c∈l):Lib.indexByte l c=aD (fun b=>b != c) l:=by
 induction l with
 |nil=>cases h
 |cons b l ih=>
  unfold Lib.indexByte aD
  by_cases hb:b=c
  ·subst hb;simp
  ·have hm:c∈l:=by rcases ZV.1 h with e|e;exact absurd e.symm hb;exact e
   have h1:(b == c)=false:=by simp[hb]
   have hi:=ih hm
   have hg:=(vB l c).2 hm
   have h3:(Lib.indexByte l c == -1)=false:=by
    rw[YU];omega
   rw[h1,h3]
   have aQ:(b != c)=true:=by simp[hb]
   simp only[ZS,Zt,ZG,aQ,Y7,Z9]
   rw[hi];unfold aD;omega
theorem ayT(l:List UInt8)(nn:Bool):Pure Tryz.prog 97 [.sl nn 1 (l.map bn)] (iv (tZ l)):=by
 refine k97.p fun σ=> ?_
 unfold tZ
 repeat'(first|exact .nil|refine .k0 ?_|refine .k1 ?_|refine .k2 ?_|refine .k6 ?_|refine .k7 ?_|refine .k9 ?_|(refine .cd ?_ ?_<;>(intro hc;skip))|refine .r1 ?_ ?_|(refine .m2 ?_ ?_;intro hlen)|fail)
 all_goals(try simp only[BL]at *)
 ·rw[if_pos (by omega)];exact Zw
 rw[if_neg (by omega)]
 refine cQ (fun m rg σ'=>∃ i:Nat,i≤l.length∧m=l.length-i∧(∀ c∈l.take i,¬(c.toNat<32∨c.toNat>126∨c=92))∧σ'=σ∧rg=[(8,.sl nn 1 (l.map bn)),(9,iv l.length),(10,iv i)]) l.length rfl ⟨_,_,Zr,Zs,0,ZK _,rfl,(fun c h=>by cases h),rfl,rfl⟩ ?_
 rintro m _ _ ⟨i,hi,hm,hg,rfl,rfl⟩
 repeat'(first|exact .nil|refine .k0 ?_|refine .k1 ?_|refine .k2 ?_|refine .k4 ?_|refine .k6 ?_|refine .k7 ?_|refine .k8 ?_|refine .k9 ?_|(refine .cd ?_ ?_<;>(intro hc;skip))|refine .r1 ?_ ?_|refine .t1 ?_ ?_ ?_|fail)
 try any_goals(exact Zo)
 all_goals(try simp only[BL]at *)
 ·have bz:i<l.length:=by omega
  rw[if_pos ⟨l.getD i default,cW bz,by rcases hc with(h|h)|h
                                       ·exact .inl (by omega)
                                       ·exact .inr (.inl (by omega))
                                       ·exact .inr (.inr (Yy.1 (by show(l.getD i default).toNat=92;omega)))⟩]
  exact Zw
 ·have bz:i<l.length:=by omega
  refine⟨m-1,by omega,_,_,Zr,Zs,i+1,by omega,by omega,fun c hm=> ?_,rfl,by rw[eD bz (by assumption)]⟩
  rw[Zv bz,← getD_eq bz,Zm,Y3]at hm
  rcases hm with hm|rfl
  ·exact hg c hm
  ·rintro(h|h|h)
   ·exact hc.1.1 (by omega)
   ·exact hc.1.2 (by omega)
   ·exact hc.2 (by rw[h];rfl)
 ·have bz:i=l.length:=by omega
  subst bz
  rw[List.take_length]at hg
  rw[if_neg (fun⟨c,h1,h2⟩=>hg c h1 h2)]
  exact Zw
def runN(ps:List UInt8)(s:List UInt8):Nat:=aD (fun b=>decide (UInt8.ofNat (aC b)∈ps)) s
theorem Oq{ps:List UInt8}{s:List UInt8}{i:Nat}(h:i<s.length):runN ps (s.drop i)=if UInt8.ofNat (aC (s.getD i default))∈ps then runN ps (s.drop (i+1))+1 else 0:=by
 unfold runN aD
 rw[Y9 h,getD_eq h]
 by_cases hm:UInt8.ofNat (aC s[i])∈ps
 ·rw[if_pos hm,ZG,if_pos (Zi hm),Z9]
 ·rw[if_neg hm,ZG,if_neg (by simp[hm])];rfl
theorem Gh(ps s:List UInt8):runN ps s≤s.length:=by
 unfold runN aD
 exact(List.takeWhile_sublist _).length_le
theorem Um(b:UInt8):(UInt8.ofNat (aC b)).toNat=aC b:=by
 have:aC b<9:=by unfold aC;repeat' split
                 all_goals omega
 simp;omega
theorem aei(ps:List UInt8)(al:ps≠[])(src:List UInt8)(hl:src.length≤16384)(nn n2:Bool)(from_:Nat)(hf:from_≤src.length):
  Pure Tryz.prog 93 [iv from_,.sl nn 1 (ps.map bn),.pc [.sl n2 1 (src.map bn)],.pc [.pc jU]] (iv (from_+runN ps (src.drop from_):Nat)):=by
 refine Pure.cY (fun i=>bif Nat.beq i 1000019 then 1 else 0) Tryz.func93 UY V9 (Z8 rfl) fun σ=> ?_
 repeat'(first|exact .nil|refine .k0 ?_|refine .k1 ?_|refine .k2 ?_|refine .k6 ?_|refine .r1 ?_ ?_|fail)
 all_goals(try simp only[BL]at *)
 refine cQ (fun m rg σ'=>∃ i:Nat,from_≤i∧i≤src.length∧m=src.length-i∧from_+runN ps (src.drop from_)=i+runN ps (src.drop i)∧σ'=σ∧rg=[(0,iv i),(1,.sl nn 1 (ps.map bn)),(2,.pc [.sl n2 1 (src.map bn)]),(3,.pc [.pc jU])]) (src.length-from_) rfl ⟨_,_,Zr,Zs,from_,ZI _,hf,rfl,rfl,rfl,rfl⟩ ?_
 rintro m _ _ ⟨i,kx,hi,hm,he,rfl,rfl⟩
 rw[he]
 repeat'(first|exact .nil|refine .k1 ?_|refine .k3 ?_|refine .k4 ?_|refine .k5 ?_|refine .r1 ?_ ?_|refine .t1 ?_ ?_ ?_|refine .r2 ?_ ?_|fail)
 try any_goals(exact Zo)
 all_goals(try simp only[BL]at *)
 ·exact fun h=>⟨by omega,by have:=(src.getD i default).toNat_lt;show _<(256:Int);omega⟩
 refine oM (.v (.int .u8 ((UInt8.ofNat (aC (src.getD i default))).toNat:Nat))) rfl (fun _=> ?_) rfl ?_ ?_
 ·rw[Um];have:=oS (src.getD i default);simpa[iM]using this
 ·exact .cons (fun h=>h) .nil
 repeat'(first|exact .nil|refine .k0 ?_|refine .k1 ?_|refine .k2 ?_|refine .k4 ?_|refine .k6 ?_|refine .k7 ?_|refine .k8 ?_|refine .k9 ?_|(refine .cd ?_ ?_<;>(intro hc;skip))|refine .r1 ?_ ?_|refine .an rfl (by intro bx;exact Bq ps al _ nn) ?_ ?_|fail)
 all_goals(try simp only[BL]at *)
 ·have bz:i<src.length:=by omega
  have lJ:=(vB _ _).1 hc.2
  refine⟨m-1,by omega,_,_,Zr,Zs,i+1,by omega,by omega,by omega,?_,rfl,by rw[eD bz (by unfold maxLen;omega)]⟩
  rw[Oq bz,if_pos lJ];omega
 ·by_cases bz:i<src.length
  ·have lJ:¬UInt8.ofNat (aC (src.getD i default))∈ps:=fun h=>(hc.resolve_left (fun h=>h (by omega))) ((vB _ _).2 h)
   rw[Oq bz,if_neg lJ];exact Zw
  ·have bz:i=src.length:=by omega
   subst bz
   rw[List.drop_length]
   exact Zw
end Go.Proofs.YtbihckigennlhaaGreatDoor
