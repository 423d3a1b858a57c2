/- The reference's decimal numbers and digest. -/
import Derived.Test.YtomhopcnkicknaaGreatDoorXa
import Derived.Test.YtomhopcnkicknaaGreatDoorXh
import Derived.Test.YtomhopcnkicknaaGreatDoorPl
import Derived.Test.YtomhopcnkicknaaGreatDoorIa
set_option linter.unusedSimpArgs false
set_option linter.unusedVariables false
set_option maxRecDepth 100000
set_option maxHeartbeats 8000000
namespace Go.Proofs.YtomhopcnkicknaaGreatDoor
open _root_.Go.Proofs.Tryz
open Go.Sx Go.Proofs Go.Tb
theorem aaj(n:Nat)(h1:1≤n)(h:n≤1152921504606846976):Pure prog 20 [iv n] (sv ⟨(Lib.decDigits n).toArray⟩):=by
 refine k20.p fun σ=> ?_
 repeat'(first|exact .nil|refine .k0 ?_|refine .k1 ?_|refine .k2 ?_|refine .k6 ?_|refine .r1 ?_ ?_|fail)
 all_goals(try simp only[BL]at *)
 refine aH (fun k rg af=>∃ (m:Nat) (s:ae),k=m+(if s=⟨#[]⟩then 1 else 0)∧m≤n∧(if s=⟨#[]⟩then m=n else kD m s.data.toList=Lib.decDigits n)∧af=σ∧rg=[(0,iv m),(3,sv s)]) (n+1) rfl ⟨_,_,Zr,Zs,n,⟨#[]⟩,rfl,ZR _,rfl,rfl,rfl⟩ ?_
 rintro k _ _ ⟨m,s,hk,hm,hp,rfl,rfl⟩
 have bC:s.size≤21:=by
  split at hp
  ·rename_i e;rw[e];decide
  ·have:=ET m s.data.toList
   have h2:=pH (u:=n) (by omega)
   rw[hp]at this
   exact ZJ this h2
 have h9:m % 10<10:=Nat.mod_lt _ (by omega)
 repeat'(first|exact .nil|refine .k0 ?_|refine .k1 ?_|refine .k2 ?_|refine .k4 ?_|refine .k6 ?_|refine .k7 ?_|refine .k8 ?_|refine .k9 ?_|(refine .cd ?_ ?_<;>(intro hc;skip))|refine .r1 ?_ ?_|refine .r4 ?_ ?_|fail)
 try any_goals(exact Zo)
 all_goals(try simp only[BL]at *)
 any_goals(exact ZW rfl)
 any_goals(rw[Bd];omega)
 ·have bB:¬((⟨#[UInt8.ofNat (48+m % 10)]⟩:ae)++s=⟨#[]⟩):=fun e=>by
   have:=Zy ByteArray.size e
   rw[bz,aV]at this
   have h2:(⟨#[]⟩:ae).size=0:=rfl
   rw[h2]at this;simp at this
  refine⟨m / 10,by split at hk;omega;(rcases hc with h|h;omega;exact absurd h ‹_›),_,_,Zr,Zs,m / 10,(⟨#[UInt8.ofNat (48+m % 10)]⟩:ae)++s,by rw[Z6 bB];rfl,by omega,?_,rfl,?_⟩
  ·rw[Z6 bB,jz]
   show kD (m / 10) (UInt8.ofNat (48+m % 10)::_)=_
   rw[Bo]
   split at hp
   ·rename_i e;rw[hp,e];simp
   ·rename_i e
    have:9<m:=by rcases hc with h|h;omega;exact absurd h e
    rw[← hp,kD,Z6 (by omega)];rfl
  ·rw[dB,DB,aM (by omega)]
 ·rename_i hs
  rw[Z6 hs.2,kD,Z6 (by omega),sQ (by omega)]at hp
  refine Sx.Fin.intro Zs (bs (j9 ?_))
  have e:=dB m
  rw[DD,XP (show m<10 by omega)]at e
  rw[e,jz];exact hp
 ·rename_i hs
  rw[Z6 hs.2,kD,Z3 (by omega)]at hp
  exact Sx.Fin.intro Zs (bs (j9 hp))
theorem aai(n:Int)(h:1≤n∧n≤1099511627776):Pure prog 20 [iv n] (sv (dH n)):=by
 have:=aaj n.toNat (by omega) (by omega)
 rw[← Lib.itoa_nonneg,show((n.toNat:Nat):Int)=n by omega]at this
 exact this
noncomputable def sS(C:az):Int:=if iM C=0 then tf (iP C).data.toList else 0
def zL(C:az)(i:Nat):Nat:=if i<C.features.length then 0 else if i<C.features.length+C.bn.length then 1 else 2
def ju(C:az):List ae:=C.features.map (mC 0)++C.bn.map (mC 1)++C.past.map (mC 2)
theorem Ht(C:az):fO C 3=gj C++ju C:=by simp[fO,oS,ju,LL]
theorem af7(C:az):(ju C).length=C.all.length:=by simp[ju,az.all]
theorem af6{C:az}{i:Nat}(h:i<C.all.length):(ju C).take (i+1)=(ju C).take i++[mC (zL C i) (C.all.getD i default)]:=by
 rw[List.take_add_one]
 congr 1
 have h2:=h
 unfold az.all at h2
 simp only[Z9]at h2
 unfold ju zL az.all
 simp only[ZY,List.getElem?_append,Z9,Z7,YK]
 by_cases h3:i<C.features.length
 ·simp[h3,show i<C.features.length+C.bn.length by omega]
 ·by_cases h4:i<C.features.length+C.bn.length
  ·have:i-C.features.length<C.bn.length:=by omega
   simp[h3,h4,this]
  ·have:i-(C.features.length+C.bn.length)<C.past.length:=by omega
   simp[h3,h4,this]
theorem pn.all{C:az}(h:pn C){f:aj}(hf:f∈C.all):∃ n<3,f∈LL C n:=by
 unfold az.all at hf
 rcases ZI.1 hf with hf|hf
 ·rcases ZI.1 hf with hf|hf
  ·exact⟨0,by omega,hf⟩
  ·exact⟨1,by omega,hf⟩
 ·exact⟨2,by omega,hf⟩
theorem OC{C:az}(h:pn C)(i:Nat):(dV (gj C++(ju C).take i)).size≤10000000:=by
 obtain⟨h1,h2⟩:=we h 3 (ZR 3)
 rw[Ht]at h1 h2
 have h3:=aNA (l:=gj C++(ju C).take i) fun x hx=>h1 x (by
  rcases ZI.1 hx with hx|hx
  ·exact ZK _ hx
  ·exact Zt _ (YZ hx))
 have h4:(gj C++(ju C).take i).length≤112:=by
  rw[Z9]at h2 ⊢
  rw[Z4];omega
 omega
theorem agb(X:ae)(n:Nat)(f:aj):X++(tT n++⟨#[32]⟩)++dH f.version++⟨#[32]⟩++kG f++⟨#[10]⟩=X++dV [mC n f]:=by
 simp only[dV,mC,eH,eS]
theorem aaF(C:az)(hS:Small C)(hC:Pure prog 16 [.agg C.cells] (iv (iM C))):Pure prog 6 [.agg C.cells] (.aE [uh (sS C),iv (iM C)]):=by
 have hV:=RP C hS
 unfold sS
 refine k6.p fun σ=> ?_
 repeat'(first|exact .nil|refine .k0 ?_|refine .k1 ?_|refine .k2 ?_|refine .k6 ?_|refine .k7 ?_|refine .k9 ?_|(refine .cd ?_ ?_<;>(intro hc;skip))|refine .r1 ?_ ?_|(refine .m1 ?_ ?_;intro b)|refine .an rfl (by intro aq;first|exact hC|fail) ?_ ?_|fail)
 all_goals(try simp only[BL]at *)
 ·rw[Z6 hc];exact Zw
 have hD:=Lj hc
 rw[Z3 hc,hc]
 have hT:=fun {i:Nat} (h:i<C.tables.length)=>(hD.t _ (bu h)) ▸ aL7 (C.tables.getD i default)
 refine aH (fun m rg af=>∃ i:Nat,i≤C.tables.length∧m=C.tables.length-i∧af=(1,b,.cells C.cells)::σ∧rg=[(1,.lp 1 b 0),(5,sv (dV ((gj C).take i))),(6,iv i)]) C.tables.length rfl ⟨_,_,Zr,Zs,0,Z1 _,rfl,rfl,rfl⟩ ?_
 rintro m _ _ ⟨i,hi,hm,rfl,rfl⟩
 have hz:=OD hD i
 have cj:=IP (C.tables.getD i default)
 have ha:=uQ C
 have oF:C.features.length≤32:=hD.ll 0
 have oG:C.bn.length≤32:=hD.ll 1
 have hl3:C.past.length≤32:=hD.ll 2
 have hw:IntKind.i64.wrap ((C.features.length:Int)+(C.bn.length:Int))=(C.features.length:Int)+(C.bn.length:Int):=aM (by omega)
 repeat'(first|exact .nil|refine .k0 ?_|refine .k1 ?_|refine .k2 ?_|refine .k6 ?_|refine .k7 ?_|refine .k8 ?_|refine .k9 ?_|(refine .cd ?_ ?_<;>(intro hc;skip))|refine .r1 ?_ ?_|(refine .m2 ?_ ?_;intro hlen)|refine .t1 ?_ ?_ ?_|refine .an rfl (by intro aq;first|exact hV|exact hT (by(simp only[BL]at *;omega))|fail) ?_ ?_|fail)
 try any_goals(exact Zo)
 all_goals(try simp only[BL]at *)
 any_goals(first|omega|(simp only[Z8,Z5,Z9,Z7,Z4,bz,aV,bU,Z2];omega))
 ·exfalso;simp at hc
 ·refine⟨C.tables.length-(i+1),by omega,_,_,Zr,Zs,i+1,by omega,rfl,rfl,?_⟩
  rw[show(gj C).take (i+1)=_ from IV rU (by omega),CK,dV,dV,eS,← eH,aO (n:=C.tables.length) (by omega) (by assumption)];rfl
 rw[ZU (by rw[gj,Z7];omega)]
 clear hz cj hT hm hi
 have hF:=fun {j:Nat} (h:j<C.all.length)=>show Pure prog 19 [.agg (C.all.getD j default).cells] (.aE [sv (kG (C.all.getD j default)),iv 0])from by
  obtain⟨n,hn,hf⟩:=hD.all (bu h)
  obtain⟨h1,h2,h3⟩:=hD.f n hn _ hf
  have:=abG (C.all.getD j default) (by omega)
  rwa [h1]at this
 have hN:=fun {j:Nat} (h:j<C.all.length)=>show Pure prog 20 [iv (C.all.getD j default).version] (sv (dH (C.all.getD j default).version))from by
  obtain⟨n,hn,hf⟩:=hD.all (bu h)
  exact aai _ (hD.f n hn _ hf).2.2
 have hH:Pure prog 21 [uh 0,.sl true 1 ((iP C).data.toList.map dn)] (uh (tf (iP C).data.toList)):=acE _ true (by
  have h:=OC hD (ju C).length
  rw[Yu,← Ht]at h
  have h2:(iP C).data.toList.length=(iP C).size:=Zi
  rw[h2];unfold iP;omega)
 refine aH (fun m rg af=>∃ j:Nat,j≤C.all.length∧m=C.all.length-j∧af=(1,b,.cells C.cells)::σ∧rg=[(1,.lp 1 b 0),(5,sv (dV (gj C++(ju C).take j))),(9,.sl false 18 (C.all.map aj.cells)),(10,iv j)]) C.all.length rfl ⟨_,_,Zr,Zs,0,Z1 _,rfl,rfl,by rw[YB,Zb];rfl⟩ ?_
 rintro m _ _ ⟨j,hj,hm,rfl,rfl⟩
 have hz:=OC hD j
 have cj:=fun h:j<C.all.length=>show(kG (C.all.getD j default)).size≤60000∧(dH (C.all.getD j default).version).size≤21 from by
  obtain⟨n,hn,hf⟩:=hD.all (bu h)
  obtain⟨h1,h2,h3⟩:=hD.f n hn _ hf
  exact⟨E8 (by omega),He h3⟩
 have eX:∀ n,n=zL C j→j<C.all.length→dV (gj C++(ju C).take j)++(tT n++⟨#[32]⟩)++dH (C.all.getD j default).version++⟨#[32]⟩++kG (C.all.getD j default)++⟨#[10]⟩=dV (gj C++(ju C).take (j+1)):=fun n hn h=>by
  rw[agb,af6 h,← ZB,CK (gj C++_),hn]
 have hE:¬j<C.all.length→dV (gj C++(ju C).take j)=iP C:=fun h=>by
  rw[ZU (by rw[af7];omega),← Ht];rfl
 have hH:¬j<C.all.length→Pure prog 21 [uh 0,.sl true 1 ((dV (gj C++(ju C).take j)).data.toList.map dn)] (uh (tf (iP C).data.toList)):=fun h=>by rw[hE h];exact hH
 repeat'(first|exact .nil|refine .k0 ?_|refine .k1 ?_|refine .k2 ?_|refine .k6 ?_|refine .k7 ?_|refine .k8 ?_|refine .k9 ?_|(refine .cd ?_ ?_<;>(intro hc;skip))|refine .r1 ?_ ?_|(refine .m2 ?_ ?_;intro hlen)|refine .t1 ?_ ?_ ?_|refine .an rfl (by intro aq;first|exact hC|exact hF (by(simp only[BL]at *;omega))|exact hN (by(simp only[BL]at *;omega))|exact hH (by(simp only[BL]at *;omega))) ?_ ?_|refine .t7 ?_ ?_ ?_|fail)
 try any_goals(exact Zo)
 all_goals(try simp only[BL]at *)
 any_goals(obtain⟨dt,G4⟩:=cj (by omega);((simp only[Z8,Z5,Z9,Z7,Z4,bz,aV,bU,Z2];omega)))
 ·exfalso;simp at hc
 ·refine⟨m-1,by omega,_,_,Zr,Zs,j+1,by omega,by omega,rfl,?_⟩
  rw[← eX 0 (Z3 (by omega)).symm (by omega),aO (n:=C.all.length) (by omega) (by assumption)];rfl
 ·refine⟨m-1,by omega,_,_,Zr,Zs,j+1,by omega,by omega,rfl,?_⟩
  rw[← eX 1 (by rw[hw]at hc;unfold zL;rw[Z6 (by omega),Z3 (by omega)]) (by omega),aO (n:=C.all.length) (by omega) (by assumption)];rfl
 ·refine⟨m-1,by omega,_,_,Zr,Zs,j+1,by omega,by omega,rfl,?_⟩
  rw[← eX 2 (by rw[hw]at hc;unfold zL;rw[Z6 (by omega),Z6 (by omega)]) (by omega),aO (n:=C.all.length) (by omega) (by assumption)];rfl
 ·exact Zw
end Go.Proofs.YtomhopcnkicknaaGreatDoor
