/- What each feature uses: names that are no features in force are struck. -/
import Derived.Test.YtajimcniogfpcaaGreatDoorCf
import Derived.Test.YtajimcniogfpcaaGreatDoorNm
import Derived.WalkLawsBesides
import Derived.WalkSpells
set_option linter.unusedVariables false
set_option linter.unusedSimpArgs false
namespace Go.Proofs.YtajimcniogfpcaaGreatDoor
open _root_.Go.Proofs.Tryz
open Go.RowKit Go.Proofs Go.Tb Go.Maps
structure Hd(p:Prop):Prop where
 out:p
theorem least{p:Nat→Prop}(h:∃ n,p n):∃ n,p n∧∀ m,p m→n≤m:=by
 obtain⟨n,hn⟩:=h
 induction n using Nat.strongRecOn with
 |ind n ih=>
  by_cases hm:∃ m,m<n∧p m
  ·obtain⟨m,h1,h2⟩:=hm;exact ih m h1 h2
  ·exact⟨n,hn,fun m h=>Nat.le_of_not_lt fun h'=>hm ⟨m,h',h⟩⟩
open Classical in
noncomputable def mu(p:Nat→Prop):Nat:=if h:∃ n,p n then(least h).choose else 0
theorem S9{p:Nat→Prop}(h:∃ n,p n):p (mu p):=by unfold mu;rw[dif_pos h];exact(least h).choose_spec.1
theorem ahL{p:Nat→Prop}{n:Nat}(h:p n):mu p≤n:=by
 have h':∃ n,p n:=⟨n,h⟩
 unfold mu;rw[dif_pos h'];exact(least h').choose_spec.2 n h
theorem S8{p q:Nat→Prop}{n:Nat}(h:q n)(hn:n<mu p):mu q<mu p:=Nat.lt_of_le_of_lt (ahL h) hn
def qL(q:ae→Bool):Lit→Bool
 | .string x=>q ⟨x.toArray⟩
 |_=>true
theorem L1(q:ae→Bool)(s:ae):qL q (ky s)=q s:=by unfold qL ky;simp
theorem aev{D:DataW Unit}(hT:IsMap D)(q:ae→Bool)(s:ae):has (Lib.deleteFuncD (fun l _=> !qL q l) D) (ky s)=(has D (ky s) && q s):=by
 obtain⟨es,rfl⟩:=hT
 show has (.map (es.filter fun p=> !(!qL q p.1))) (ky s)=_
 rw[has_eq,has_eq,List.any_filter]
 rw[YJ,Z6,Ym,Ym]
 constructor
 ·rintro⟨p,hp,h⟩
  rw[Z6,Bool.not_not]at h
  have e:=WideAt.sameKey_eq h.2
  refine⟨⟨p,hp,h.2⟩,?_⟩
  rw[e,L1]at h;exact h.1
 ·rintro⟨⟨p,hp,h⟩,hq⟩
  refine⟨p,hp,?_⟩
  have e:=WideAt.sameKey_eq h
  rw[Z6,Bool.not_not]
  refine⟨?_,h⟩
  rw[e,L1];exact hq
theorem ak3{P:Program}{k:TypeId}{R:Value→Option (DataW Unit×List MemPlace)}{w w':World}{b:Nat}{L:List ae}{f:ae→DataW Unit}(hk:P.underlying k=some .string)(q:ae→Bool){D:DataW Unit}(h1:L.Nodup)(h2:∀ s∈L,s.size≤maxLen)(h3:w.ownsMap P k R b L.length D)(h4:∀ s:ae,s.size≤maxLen→has D (ky s)=decide (s∈L))(h5:∀ s∈L,∀ z,D.atKey (ky s) z=f s)
  (h6:w'.ownsMap P k R b L.length (Lib.deleteFuncD (fun l _=> !qL q l) D)):dC w' P k R b (L.filter q) f:=by
 have hT:=h3.tidy (string_keyed hk)
 have h7:∀ s:ae,s.size≤maxLen→has (Lib.deleteFuncD (fun l _=> !qL q l) D) (ky s)=decide (s∈L.filter q):=fun s hs=>by
  rw[aev hT.isMap,h4 s hs]
  by_cases hm:s∈L<;>by_cases hq:q s=true<;>simp[Y5,hm,hq]
 refine⟨h1.filter _,fun s hs=>h2 s (Y5.1 hs).1,_,?_,h7,fun s hs z=> ?_⟩
 ·have hnd:=U6 h6 hk
  have j0:∀ x∈(strKeys (Lib.deleteFuncD (fun l _=> !qL q l) D)).map (fun l:List UInt8=>(⟨l.toArray⟩:ae)),x∈L.filter q:=fun x hx=>by
   obtain⟨y,hy,rfl⟩:=Y9.1 hx
   have h8:=(Lx h6 hk y).1 hy
   have h9:=strKeys_le h6 hk y hy
   have:=h7 ⟨y.toArray⟩ (by show y.toArray.size≤_;simpa using h9)
   rw[show ky (⟨y.toArray⟩:ae)= .string y by simp[ky],h8]at this
   simpa using this.symm
  have aeM:((strKeys (Lib.deleteFuncD (fun l _=> !qL q l) D)).map (fun l:List UInt8=>(⟨l.toArray⟩:ae))).Nodup:=W7.2 (hnd.imp fun {a b} zG e=>zG (by have:=Ze (fun s:ae=>s.data.toList) e;simpa using this))
  have hl:=ic aeM j0
  rw[Z4]at hl
  obtain⟨es,c,a1,a2,a3,a4⟩:=h6
  have e:(strKeys (Lib.deleteFuncD (fun l _=> !qL q l) D)).length=es.size:=by
   rw[a4]
   show(List.map _ _).length=_
   rw[Z4,length_read]
  exact⟨es,c,a1,a2,by omega,a4⟩
 ·obtain⟨es,rfl,Qq⟩:=hT
  have hm:=Y5.1 hs
  have h8:=h4 s (h2 s hm.1)
  rw[YR hm.1,has_eq,Ym]at h8
  obtain⟨p,hp,hpk⟩:=h8
  have e:=WideAt.sameKey_eq hpk
  have mT:(ky s,p.2)∈es:=by rw[← e];exact hp
  have h9:=(WideAt.atKey_mem .nil (zY s) Qq mT).symm.trans (h5 s hm.1 .nil)
  rw[← h9]
  refine WideAt.atKey_mem z (zY s) (Qq.filter _) (Y5.2 ⟨mT,?_⟩)
  rw[Bool.not_not]
  show qL q (ky s)=true
  rw[L1];exact hm.2
abbrev ri(w:World)(b:Nat)(L:List ae)(f:ae→Nat):Prop:=maps w prog 9 b L f
set_option maxRecDepth 100000 in
theorem afe{W:World}{bA pa:Nat}{N:List ae}{f:ae→Nat}(hA:ri W bA N f)(hc:W.cell? ⟨pa,0,none⟩=some (.map (some bA)))(s:ae)(hs:s.size≤maxLen)(v:Value):
  Calls prog 75 #[.string s,v,.pointer (some ⟨pa,0,none⟩)] W fun e w'=>e= .returned (.bool (decide (s∉N)))∧w'=W:=by
 have jj:∀ (w:World) (r:Option Nat),(binOp .eql 96 (.map r) (.map none)).run prog w= .ok (.bool r.isNone) w:=fun w r=>run_eql_map_nil w _ _ _ r underlying96
 go_enter func75,ntmps75
 go_wp2_with (at_lookup;refine AR _ rfl _ _ 90 rfl underlying9 underlying90 (zeroValue96 _) bA N f rfl hA s rfl hs ?_)
 all_goals go_ret
 all_goals simp_all
theorem akG{W:World}{b bA pa:Nat}{L N:List ae}{f:ae→Nat}(hL:cy W b L)(hA:ri W bA N f)(hc:W.cell? ⟨pa,0,none⟩=some (.map (some bA)))(aH:b≠bA):
  Calls prog 74 #[.map (some b),.func (.func 75) #[] #[.pointer (some ⟨pa,0,none⟩)]] W fun e w'=>e= .returned (.tuple #[])∧cy w' b (L.filter fun s=>decide (s∈N))∧W.grownBy w' (some b):=by
 have hpb:pa≠b:=fun e=>by
  subst e
  obtain⟨es,c,h⟩:=hL.isMap
  simp[World.cell?,h]at hc
 obtain⟨h1,h2,D,h3,h4,h5⟩:=hL
 refine(AnyDf.maps_DeleteFunc (H:=Unit) Tryz.del74 (string_keyed underlying9) (plainElem prog 4) (fun l _=> !qL (fun s=>decide (s∈N)) l) 75 #[.pointer (some ⟨pa,0,none⟩)] b L.length D W (enters_of func75 (by kernel_rfl) rfl) h3 ?_).mono fun e w' ⟨he,hw,hg⟩=>⟨he,ak3 underlying9 _ h1 h2 h3 h4 h5 hw,hg⟩
 intro W' key val kl yd yp lT Cn hv
 obtain⟨x,rfl,rfl,hx⟩:=Maps.keyOf_str underlying9 Cn
 have rI:ri W' bA N f:=hA.kept lT (by simpa using fun e=>aH e.symm)
 have gU:W'.cell? ⟨pa,0,none⟩=some (.map (some bA)):=(World.cell?_of_block (a:=⟨pa,0,none⟩) (lT.block pa (World.block_lt_of_cell? _ _ hc) (by simpa using hpb))).trans hc
 have Ka:encStr x= .string ⟨x.toArray⟩:=by simp[encStr]
 rw[Ka]
 refine(afe rI gU ⟨x.toArray⟩ (by show x.toArray.size≤_;simpa using hx) val).mono fun e w' ⟨he,hw⟩=>⟨?_,?_⟩
 ·rw[he];simp[qL]
 ·rw[hw];exact⟨rfl,rfl,rfl,ZM _,fun _ _ _=>rfl⟩
end Go.Proofs.YtajimcniogfpcaaGreatDoor
