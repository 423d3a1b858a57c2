/- What each feature uses: names that are no features in force are struck. -/
import Derived.Test.YthdeaajdmdmfnaaGreatDoorCf
import Derived.Test.YthdeaajdmdmfnaaGreatDoorNm
import Derived.WalkLawsBesides
import Derived.WalkSpells
set_option linter.unusedVariables false
set_option linter.unusedSimpArgs false
namespace Go.Proofs.YthdeaajdmdmfnaaGreatDoor
open _root_.Go.Proofs.Tryz
open Go.RowKit Go.Proofs Go.Tb Go.Maps
structure Hd(p:Prop):Prop where
 out:p
theorem least{p:Nat→Prop}(h:∃ n,p n):∃ n,p n∧∀ m,p m→n≤m:=by
 obtain⟨n,hn⟩:=h
 induction n using Nat.strongRecOn with
 |ind n ih=>
  by_cases hm:∃ m,m<n∧p m
  ·obtain⟨m,h1,h2⟩:=hm;exact ih m h1 h2
  ·exact⟨n,hn,fun m h=>Nat.le_of_not_lt fun h'=>hm ⟨m,h',h⟩⟩
open Classical in
noncomputable def mu(p:Nat→Prop):Nat:=if h:∃ n,p n then(least h).choose else 0
theorem ae4{p:Nat→Prop}(h:∃ n,p n):p (mu p):=by unfold mu;rw[dif_pos h];exact(least h).choose_spec.1
theorem ae2{p:Nat→Prop}{n:Nat}(h:p n):mu p≤n:=by
 have h':∃ n,p n:=⟨n,h⟩
 unfold mu;rw[dif_pos h'];exact(least h').choose_spec.2 n h
theorem ae3{p q:Nat→Prop}{n:Nat}(h:q n)(hn:n<mu p):mu q<mu p:=Nat.lt_of_le_of_lt (ae2 h) hn
def qL(q:af→Bool):Lit→Bool
 | .string x=>q ⟨x.toArray⟩
 |_=>true
theorem JZ(q:af→Bool)(s:af):qL q (ky s)=q s:=by unfold qL ky;simp
theorem abR{D:DataW Unit}(hT:IsMap D)(q:af→Bool)(s:af):has (Lib.deleteFuncD (fun l _=> !qL q l) D) (ky s)=(has D (ky s) && q s):=by
 obtain⟨es,rfl⟩:=hT
 show has (.map (es.filter fun p=> !(!qL q p.1))) (ky s)=_
 rw[has_eq,has_eq,List.any_filter]
 rw[YN,Z8,Yp,Yp]
 constructor
 ·rintro⟨p,hp,h⟩
  rw[Z8,Bool.not_not]at h
  have e:=WideAt.sameKey_eq h.2
  refine⟨⟨p,hp,h.2⟩,?_⟩
  rw[e,JZ]at h;exact h.1
 ·rintro⟨⟨p,hp,h⟩,hq⟩
  refine⟨p,hp,?_⟩
  have e:=WideAt.sameKey_eq h
  rw[Z8,Bool.not_not]
  refine⟨?_,h⟩
  rw[e,JZ];exact hq
theorem aiV{P:Program}{k:TypeId}{R:Value→Option (DataW Unit×List MemPlace)}{w w':World}{b:Nat}{L:List af}{f:af→DataW Unit}(hk:P.underlying k=some .string)(q:af→Bool){D:DataW Unit}(h1:L.Nodup)(h2:∀ s∈L,s.size≤maxLen)(h3:w.ownsMap P k R b L.length D)(h4:∀ s:af,s.size≤maxLen→has D (ky s)=decide (s∈L))(h5:∀ s∈L,∀ z,D.atKey (ky s) z=f s)
  (h6:w'.ownsMap P k R b L.length (Lib.deleteFuncD (fun l _=> !qL q l) D)):dj w' P k R b (L.filter q) f:=by
 have hT:=h3.tidy (string_keyed hk)
 have h7:∀ s:af,s.size≤maxLen→has (Lib.deleteFuncD (fun l _=> !qL q l) D) (ky s)=decide (s∈L.filter q):=fun s hs=>by
  rw[abR hT.isMap,h4 s hs]
  by_cases hm:s∈L<;>by_cases hq:q s=true<;>simp[Ze,hm,hq]
 refine⟨h1.filter _,fun s hs=>h2 s (Ze.1 hs).1,_,?_,h7,fun s hs z=> ?_⟩
 ·have hnd:=Sm h6 hk
  have kB:∀ x∈(strKeys (Lib.deleteFuncD (fun l _=> !qL q l) D)).map (fun l:List UInt8=>(⟨l.toArray⟩:af)),x∈L.filter q:=fun x hx=>by
   obtain⟨y,hy,rfl⟩:=Zi.1 hx
   have h8:=(JH h6 hk y).1 hy
   have h9:=strKeys_le h6 hk y hy
   have:=h7 ⟨y.toArray⟩ (by show y.toArray.size≤_;simpa using h9)
   rw[show ky (⟨y.toArray⟩:af)= .string y by simp[ky],h8]at this
   simpa using this.symm
  have acb:((strKeys (Lib.deleteFuncD (fun l _=> !qL q l) D)).map (fun l:List UInt8=>(⟨l.toArray⟩:af))).Nodup:=List.pairwise_map.2 (hnd.imp fun {a b} eT e=>eT (by have:=Zd (fun s:af=>s.data.toList) e;simpa using this))
  have hl:=jU acb kB
  rw[ZW]at hl
  obtain⟨es,c,a1,a2,a3,a4⟩:=h6
  have e:(strKeys (Lib.deleteFuncD (fun l _=> !qL q l) D)).length=es.size:=by
   rw[a4]
   show(List.map _ _).length=_
   rw[ZW,length_read]
  exact⟨es,c,a1,a2,by omega,a4⟩
 ·obtain⟨es,rfl,uH⟩:=hT
  have hm:=Ze.1 hs
  have h8:=h4 s (h2 s hm.1)
  rw[YJ hm.1,has_eq,Yp]at h8
  obtain⟨p,hp,hpk⟩:=h8
  have e:=WideAt.sameKey_eq hpk
  have lV:(ky s,p.2)∈es:=by rw[← e];exact hp
  have h9:=(WideAt.atKey_mem .nil (xY s) uH lV).symm.trans (h5 s hm.1 .nil)
  rw[← h9]
  refine WideAt.atKey_mem z (xY s) (uH.filter _) (Ze.2 ⟨lV,?_⟩)
  rw[Bool.not_not]
  show qL q (ky s)=true
  rw[JZ];exact hm.2
abbrev qb(w:World)(b:Nat)(L:List af)(f:af→Nat):Prop:=maps w prog 9 b L f
set_option maxRecDepth 100000 in
theorem acM{W:World}{bA pa:Nat}{N:List af}{f:af→Nat}(hA:qb W bA N f)(hc:W.cell? ⟨pa,0,none⟩=some (.map (some bA)))(s:af)(hs:s.size≤maxLen)(v:Value):
  Calls prog 182 #[.string s,v,.pointer (some ⟨pa,0,none⟩)] W fun e w'=>e= .returned (.bool (decide (s∉N)))∧w'=W:=by
 have iq:∀ (w:World) (r:Option Nat),(binOp .eql 200 (.map r) (.map none)).run prog w= .ok (.bool r.isNone) w:=fun w r=>run_eql_map_nil w _ _ _ r underlying200
 go_enter func182,ntmps182
 go_wp2_with (at_lookup;refine Bw _ rfl _ _ 194 rfl underlying9 underlying194 (zeroValue200 _) bA N f rfl hA s rfl hs ?_)
 all_goals go_ret
 all_goals simp_all
theorem aiF{W:World}{b bA pa:Nat}{L N:List af}{f:af→Nat}(hL:cB W b L)(hA:qb W bA N f)(hc:W.cell? ⟨pa,0,none⟩=some (.map (some bA)))(aE:b≠bA):
  Calls prog 181 #[.map (some b),.func (.func 182) #[] #[.pointer (some ⟨pa,0,none⟩)]] W fun e w'=>e= .returned (.tuple #[])∧cB w' b (L.filter fun s=>decide (s∈N))∧W.grownBy w' (some b):=by
 have hpb:pa≠b:=fun e=>by
  subst e
  obtain⟨es,c,h⟩:=hL.isMap
  simp[World.cell?,h]at hc
 obtain⟨h1,h2,D,h3,h4,h5⟩:=hL
 refine(AnyDf.maps_DeleteFunc (H:=Unit) Tryz.del181 (string_keyed underlying9) (plainElem prog 4) (fun l _=> !qL (fun s=>decide (s∈N)) l) 182 #[.pointer (some ⟨pa,0,none⟩)] b L.length D W (enters_of func182 (by kernel_rfl) rfl) h3 ?_).mono fun e w' ⟨he,hw,hg⟩=>⟨he,aiV underlying9 _ h1 h2 h3 h4 h5 hw,hg⟩
 intro W' key val kl yd yp mT Ah hv
 obtain⟨x,rfl,rfl,hx⟩:=Maps.keyOf_str underlying9 Ah
 have qq:qb W' bA N f:=hA.kept mT (by simpa using fun e=>aE e.symm)
 have gb:W'.cell? ⟨pa,0,none⟩=some (.map (some bA)):=(World.cell?_of_block (a:=⟨pa,0,none⟩) (mT.block pa (World.block_lt_of_cell? _ _ hc) (by simpa using hpb))).trans hc
 have Ii:encStr x= .string ⟨x.toArray⟩:=by simp[encStr]
 rw[Ii]
 refine(acM qq gb ⟨x.toArray⟩ (by show x.toArray.size≤_;simpa using hx) val).mono fun e w' ⟨he,hw⟩=>⟨?_,?_⟩
 ·rw[he];simp[qL]
 ·rw[hw];exact⟨rfl,rfl,rfl,ZX _,fun _ _ _=>rfl⟩
end Go.Proofs.YthdeaajdmdmfnaaGreatDoor
