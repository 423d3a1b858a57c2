/- Groups of bytes as numbers; the hash (plain). -/
import Derived.Test.YtomhopcnkicknaaGreatDoorPt
import Derived.Test.YtomhopcnkicknaaGreatDoorPc
import Derived.Test.YtomhopcnkicknaaGreatDoorCodeB
set_option linter.unusedSimpArgs false
set_option linter.unusedVariables false
set_option linter.unusedSectionVars false
namespace Go.Proofs.YtomhopcnkicknaaGreatDoor
open _root_.Go.Proofs.Tryz
open Go.Sx Go.Proofs
def iC:List UInt8→Nat
 |[]=>0
 |b::l=>b.toNat+256 * iC l
theorem Hm:∀ l:List UInt8,iC l<2 ^ (8 * l.length)
 |[]=>by simp[iC]
 |b::l=>by
  have:=Hm l
  have hb:b.toNat<256:=b.toNat_lt
  rw[iC,Z8,show 8 * (l.length+1)=8 * l.length+8 by omega,Nat.pow_add]
  omega
theorem Ow:∀ (l:List UInt8) (b:UInt8),iC (l++[b])=iC l+b.toNat * 2 ^ (8 * l.length)
 |[],b=>by simp[iC]
 |a::l,b=>by
  have:=Ow l b
  rw[Ze,iC,this,iC,Z8,show 8 * (l.length+1)=8 * l.length+8 by omega,Nat.pow_add]
  rw[Nat.mul_add,show b.toNat * (2 ^ (8 * l.length) * 2 ^ 8)=256 * (b.toNat * 2 ^ (8 * l.length)) by rw[XQ (2 ^ (8 * l.length)),Nat.mul_left_comm]]
  omega
theorem uq{n:Int}(h0:0≤n)(h:n<18446744073709551616):IntKind.u64.wrap n=n:=by
 have hs:IntKind.u64.signed=false:=rfl
 simp only[IntKind.wrap,IntKind.bits,hs]
 rw[Z6 (by simp)]
 exact Int.emod_eq_of_lt h0 (by omega)
theorem ag9{g x k:Nat}(hg:g<2 ^ (8 * k))(hk:k<8)(hx:x<256):
  bits .or .u64 (g:Int) (IntKind.u64.wrap ((x:Int) * 2 ^ (8 * k)))=((g+x * 2 ^ (8 * k):Nat):Int):=by
 have hp:2 ^ (8 * k) * 256≤18446744073709551616:=by
  rw[show(256:Nat)=2 ^ 8 by rfl,← Nat.pow_add,show(18446744073709551616:Nat)=2 ^ 64 by rfl]
  exact Nat.pow_le_pow_right (by omega) (by omega)
 have hy:x * 2 ^ (8 * k)+g<18446744073709551616:=by
  have h1:x * 2 ^ (8 * k)≤255 * 2 ^ (8 * k):=Yr _ (by omega)
  omega
 have hw:IntKind.u64.wrap ((x:Int) * 2 ^ (8 * k))=((x * 2 ^ (8 * k):Nat):Int):=by
  have e:(x:Int) * 2 ^ (8 * k)=((x * 2 ^ (8 * k):Nat):Int):=by push_cast;rfl
  rw[e]
  exact uq (Int.natCast_nonneg _) (by omega)
 rw[hw]
 have kN:x * 2 ^ (8 * k) ||| g=x * 2 ^ (8 * k)+g:=by
  have:=Nat.shiftLeft_add_eq_or_of_lt hg x
  rw[Nat.shiftLeft_eq]at this
  exact this.symm
 have hn:((BitVec.ofInt 64 (g:Int)) ||| (BitVec.ofInt 64 ((x * 2 ^ (8 * k):Nat):Int))).toNat=g+x * 2 ^ (8 * k):=by
  rw[BitVec.toNat_or,BitVec.ofInt_natCast,BitVec.ofInt_natCast,BitVec.toNat_ofNat,BitVec.toNat_ofNat,XP (by omega),XP (by omega),Nat.or_comm,kN]
  omega
 show IntKind.u64.wrap (((BitVec.ofInt 64 (g:Int)) ||| (BitVec.ofInt 64 ((x * 2 ^ (8 * k):Nat):Int))).toNat:Int)=_
 rw[hn]
 exact uq (Int.natCast_nonneg _) (by omega)
set_option maxRecDepth 100000
set_option maxHeartbeats 4000000
abbrev uh(n:Int):AV:= .v (.int .u64 n)
def Js(x n:Int):Int:=bits .xor .u64 x (x / 2 ^ n.toNat)
def CV(x:Int):Int:=Js (IntKind.u64.wrap (Js (IntKind.u64.wrap (Js x 30 * 13787848793156543929)) 27 * 10723151780598845931)) 31
theorem OW(x:Int):Pure prog 39 [uh x] (uh (CV x)):=by
 refine k39.p fun σ=> ?_
 repeat'(first|exact .nil|refine .k0 ?_|refine .k1 ?_|refine .k2 ?_|refine .k7 ?_|refine .r1 ?_ ?_|fail)
 all_goals(try simp only[BL]at *)
 all_goals first|decide|exact Sx.Fin.intro Zs rfl
theorem ags(x:Int):Pure prog 50 [uh x] (uh (CV x)):=by
 refine k50.p fun σ=> ?_
 repeat'(first|exact .nil|refine .k0 ?_|refine .k1 ?_|refine .k2 ?_|refine .k7 ?_|refine .r1 ?_ ?_|fail)
 all_goals(try simp only[BL]at *)
 all_goals first|decide|exact Sx.Fin.intro Zs rfl
def QH(h:Int)(g:Nat):Int:=CV (IntKind.u64.wrap (bits .xor .u64 h g+11400714819323198485))
def hN:Nat→List UInt8→Int→Int
 |0,_,h=>h
 |n+1,l,h=>hN n (l.drop 8) (QH h (iC (l.take 8)))
def tf(l:List UInt8):Int:=CV (hN ((l.length+7) / 8) l (bits .xor .u64 0 (IntKind.u64.wrap (IntKind.u64.wrap l.length * 11400714819323198485))))
theorem af0{l:List UInt8}{i n:Nat}(h:i<l.length):iC ((l.drop i).take (n+1))=(l.getD i 0).toNat+256 * iC ((l.drop (i+1)).take n):=by
 rw[List.drop_eq_getElem_cons h,XM,iC,ZY,ZX h];rfl
theorem af1(l:List UInt8){n:Nat}(h:n≤7):iC (l.take n) * 256<18446744073709551616:=by
 have h1:=Hm (l.take n)
 have h2:2 ^ (8 * (l.take n).length)≤2 ^ 56:=Nat.pow_le_pow_right (by omega) (by rw[Z4];omega)
 have h3:(2:Nat) ^ 56=72057594037927936:=rfl
 omega
theorem aco{g b:Nat}(h:g * 256<18446744073709551616)(hb:b<256):IntKind.u64.wrap (IntKind.u64.wrap ((g:Int) * 256)+IntKind.u64.wrap (b:Int))=((b+256 * g:Nat):Int):=by
 rw[uq (n:=(g:Int) * 256) (by omega) (by omega),uq (n:=(b:Int)) (by omega) (by omega),uq (by omega) (by omega)];omega
theorem acx(l:List UInt8)(i:Nat)(nn:Bool)(hi:i≤1099511627776):Pure prog 51 [.sl nn 1 (l.map dn),iv i] (uh (iC ((l.drop i).take 8))):=by
 refine k51.p fun σ=> ?_
 repeat'(first|exact .nil|refine .k0 ?_|refine .k1 ?_|refine .k2 ?_|refine .k6 ?_|refine .r1 ?_ ?_|fail)
 all_goals(try simp only[BL]at *)
 refine aH (fun m rg af=>∃ j:Nat,j≤8∧m=j∧af=σ∧rg=[(0,.sl nn 1 (l.map dn)),(1,iv i),(5,uh (iC ((l.drop (i+j)).take (8-j)))),(6,iv ((j:Int)-1))]) 8 rfl ⟨_,_,Zr,Zs,8,ZR _,rfl,rfl,by rw[Nat.sub_self,YB];rfl⟩ ?_
 rintro m _ _ ⟨j,hj,hm,rfl,rfl⟩
 have hw:0<j→IntKind.i64.wrap ((i:Int)+((j:Int)-1))=((i+(j-1):Nat):Int):=fun h=>by rw[aM (by omega)];omega
 have hg:=fun h:0<j=>af1 (l.drop (i+j)) (n:=8-j) (by omega)
 have hb:0<j→((j-1:Nat):Int)-1=IntKind.i64.wrap ((j:Int)-1-1):=fun h=>by rw[aM (by omega)];omega
 repeat'(first|exact .nil|refine .k0 ?_|refine .k1 ?_|refine .k2 ?_|refine .k6 ?_|refine .k7 ?_|refine .k8 ?_|refine .k9 ?_|(refine .cd ?_ ?_<;>(intro hc;skip))|refine .r1 ?_ ?_|(refine .m2 ?_ ?_;intro hlen)|refine .t1 ?_ ?_ ?_|fail)
 try any_goals(exact Zo)
 all_goals(try simp only[BL]at *)
 all_goals try(rw[hw (by omega)]at hc ⊢;omega)
 ·have h0:0<j:=by omega
  refine⟨j-1,by omega,_,_,Zr,Zs,j-1,by omega,rfl,rfl,?_⟩
  rw[hw h0]at hc ⊢
  have h1:=af0 (l:=l) (i:=i+(j-1)) (n:=8-j) (by omega)
  rw[show i+(j-1)+1=i+j by omega]at h1
  rw[hb h0,show 8-(j-1)=8-j+1 by omega,h1,← aco (hg h0) (UInt8.toNat_lt _)];rfl
 ·have h0:0<j:=by omega
  have hg:=hg h0
  refine⟨j-1,by omega,_,_,Zr,Zs,j-1,by omega,rfl,rfl,?_⟩
  rw[hw h0]at hc
  rw[hb h0,uq (by omega) (by omega),YQ (by omega),YQ (by omega),List.take_nil,List.take_nil];rfl
 ·obtain rfl:j=0:=by omega
  exact Sx.Fin.intro Zs rfl
theorem Mu{l:List UInt8}{i:Nat}(h:8 * i<l.length)(x:Int):hN ((l.length+7) / 8-i) (l.drop (8 * i)) x=hN ((l.length+7) / 8-(i+1)) (l.drop (8 * (i+1))) (QH x (iC ((l.drop (8 * i)).take 8))):=by
 rw[show(l.length+7) / 8-i=(l.length+7) / 8-(i+1)+1 by omega,hN,List.drop_drop,Nat.mul_add]
theorem Mv{l:List UInt8}{i:Nat}(h:l.length≤8 * i)(x:Int):hN ((l.length+7) / 8-i) (l.drop (8 * i)) x=x:=by
 rw[show(l.length+7) / 8-i=0 by omega,hN]
theorem acE(l:List UInt8)(nn:Bool)(hl:l.length≤1000000000):Pure prog 21 [uh 0,.sl nn 1 (l.map dn)] (uh (tf l)):=by
 refine k21.p fun σ=> ?_
 repeat'(first|exact .nil|refine .k0 ?_|refine .k1 ?_|refine .k2 ?_|refine .k6 ?_|refine .r1 ?_ ?_|(refine .m2 ?_ ?_;intro hlen)|fail)
 all_goals(try simp only[BL]at *)
 unfold tf
 refine aH (fun m rg af=>∃ (i:Nat) (x:Int),8 * i≤l.length+7∧m=l.length+8-8 * i∧hN ((l.length+7) / 8) l (bits .xor .u64 0 (IntKind.u64.wrap (IntKind.u64.wrap l.length * 11400714819323198485)))=hN ((l.length+7) / 8-i) (l.drop (8 * i)) x∧af=σ∧rg=[(1,.sl nn 1 (l.map dn)),(5,uh x),(6,iv (8 * i:Nat))]) (l.length+8) rfl ⟨_,_,Zr,Zs,0,_,by omega,rfl,rfl,rfl,rfl⟩ ?_
 rintro m _ _ ⟨i,x,hi,hm,hx,rfl,rfl⟩
 rw[hx]
 repeat'(first|exact .nil|refine .k0 ?_|refine .k1 ?_|refine .k2 ?_|refine .k6 ?_|refine .k7 ?_|refine .k8 ?_|refine .k9 ?_|(refine .cd ?_ ?_<;>(intro hc;skip))|refine .r1 ?_ ?_|(refine .m2 ?_ ?_;intro hlen)|refine .an rfl (by intro aq;first|exact ags _|exact acx l _ nn (by omega)) ?_ ?_|fail)
 all_goals(try simp only[BL]at *)
 ·refine⟨l.length+8-8 * (i+1),by omega,_,_,Zr,Zs,i+1,_,by omega,rfl,Mu (by omega) x,rfl,?_⟩
  rw[aM (by omega)];rfl
 ·rw[Mv (by omega)];exact Zw
theorem acF(l:List UInt8)(nn:Bool)(hl:l.length≤1000000000):Pure prog 14 [uh 0,.sl nn 1 (l.map dn)] (uh (tf l)):=by
 refine k14.p fun σ=> ?_
 repeat'(first|exact .nil|refine .k0 ?_|refine .k1 ?_|refine .k2 ?_|refine .k6 ?_|refine .r1 ?_ ?_|(refine .m2 ?_ ?_;intro hlen)|fail)
 all_goals(try simp only[BL]at *)
 unfold tf
 refine aH (fun m rg af=>∃ (i:Nat) (x:Int),8 * i≤l.length+7∧m=l.length+8-8 * i∧hN ((l.length+7) / 8) l (bits .xor .u64 0 (IntKind.u64.wrap (IntKind.u64.wrap l.length * 11400714819323198485)))=hN ((l.length+7) / 8-i) (l.drop (8 * i)) x∧af=σ∧rg=[(1,.sl nn 1 ((l.drop (8 * i)).map dn)),(4,uh x)]) (l.length+8) rfl ⟨_,_,Zr,Zs,0,_,by omega,rfl,rfl,rfl,rfl⟩ ?_
 rintro m _ _ ⟨i,x,hi,hm,hx,rfl,rfl⟩
 rw[hx]
 have hL:(l.drop (8 * i)).length=l.length-8 * i:=X9
 obtain⟨L,eL⟩:∃ L,L=l.drop (8 * i):=⟨_,rfl⟩
 rw[← eL]at hL ⊢
 have hM:(if True then if(L.length:Int)<8 then(L.length:Int)else 8 else if(L.length:Int)>8 then(L.length:Int)else 8)=((L.take 8).length:Int):=by rw[Z3 trivial,Z4];split<;>omega
 have hT:L.take (L.take 8).length=L.take 8:=by rw[Z4,← List.take_eq_take_min]
 have hD:L.drop (L.take 8).length=l.drop (8 * (i+1)):=by
  rcases Nat.le_total 8 L.length with h|h
  ·rw[Z4,X4 h,eL,List.drop_drop,Nat.mul_add]
  ·rw[YQ (by rw[Z4];omega),YQ (by omega)]
 rename Store=>σ
 repeat'(first|exact .nil|refine .k0 ?_|refine .k1 ?_|refine .k2 ?_|refine .k6 ?_|refine .k7 ?_|refine .k8 ?_|refine .k9 ?_|(refine .cd ?_ ?_<;>(intro hc;skip))|refine .r1 ?_ ?_|(refine .m2 ?_ ?_;intro hlen)|refine .t2 ?_ ?_ ?_|refine .an rfl (by intro aq;exact OW _) ?_ ?_|fail)
 all_goals(try simp only[BL]at *)
 ·rw[hM,Z4];omega
 ·rw[hM,YJ,hT]
  refine aH (fun m rg af=>∃ k:Nat,k≤(L.take 8).length∧m=(L.take 8).length-k∧af=σ∧rg=[(1,.sl nn 1 (L.map dn)),(4,uh x),(5,iv (L.take 8).length),(6,uh (iC ((L.take 8).take k))),(23,.sl nn 1 ((L.take 8).map dn)),(24,iv (L.take 8).length),(25,iv k)]) (L.take 8).length rfl ⟨_,_,Zr,Zs,0,Z1 _,rfl,rfl,rfl⟩ ?_
  rintro m2 _ _ ⟨k,hk,js,rfl,rfl⟩
  have h8:(L.take 8).length≤8:=by rw[Z4];omega
  obtain⟨T,eT⟩:∃ T,T=L.take 8:=⟨_,rfl⟩
  rw[← eT]at hk h8 js hD ⊢
  have hTL:T.length≤L.length:=by rw[eT,Z4];omega
  have hw:IntKind.i64.wrap (8 * (k:Int))=((8 * k:Nat):Int):=by rw[aM (by omega)];omega
  repeat'(first|exact .nil|refine .k0 ?_|refine .k1 ?_|refine .k2 ?_|refine .k6 ?_|refine .k8 ?_|refine .k9 ?_|(refine .cd ?_ ?_<;>(intro hc;skip))|refine .r1 ?_ ?_|refine .t1 ?_ ?_ ?_|refine .t3 ?_ ?_ ?_|refine .an rfl (by intro aq;exact OW _) ?_ ?_|fail)
  try any_goals(exact Zo)
  all_goals(try simp only[BL]at *)
  all_goals try omega
  ·rw[hw];show _∧_≤(64:Int);omega
  ·have B7:k<T.length:=by omega
   refine⟨m2-1,by omega,_,_,Zr,Zs,k+1,by omega,by omega,rfl,?_⟩
   have hb:=(T.getD k 0).toNat_lt
   have hg:=Hm (T.take k)
   rw[Z4,X4 hk]at hg
   have h1:=ag9 hg (k:=k) (by omega) hb
   have h2:=Ow (T.take k) (T.getD k 0)
   rw[Z4,X4 hk]at h2
   rw[qv B7,show T.getD k default=T.getD k 0 from rfl,h2,← h1,aO B7 (by unfold maxLen;omega),hw,uq (n:=((T.getD k 0).toNat:Int)) (by omega) (by omega)];rfl
  ·have B7:k=T.length:=by omega
   subst B7
   have h0:0<L.length:=by omega
   refine⟨l.length+8-8 * (i+1),by omega,_,_,Zr,Zs,i+1,_,by omega,rfl,?_,rfl,by rw[hD]⟩
   rw[eL,Mu (by omega),← eL,← eT,Yu];rfl
 ·rw[eL,Mv (by omega)];exact Zw
end Go.Proofs.YtomhopcnkicknaaGreatDoor
