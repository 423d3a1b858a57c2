/- What each feature uses: names that are no features in force are struck. -/
import Derived.Test.YtekngilbecjkhaaGreatDoorCf
import Derived.Test.YtekngilbecjkhaaGreatDoorShelfC
import Derived.WalkLawsBesides
import Derived.WalkSpells
set_option linter.unusedVariables false
set_option linter.unusedSimpArgs false
namespace Go.Proofs.YtekngilbecjkhaaGreatDoor
open Go.RowKit Go.Proofs Go.Tb Go.Maps
structure Hd(p:Prop):Prop where
 out:p
theorem least{p:Nat→Prop}(h:∃ n,p n):∃ n,p n∧∀ m,p m→n≤m:=by
 obtain⟨n,hn⟩:=h
 induction n using Nat.strongRecOn with
 |ind n ih=>
  by_cases hm:∃ m,m<n∧p m
  ·obtain⟨m,h1,h2⟩:=hm;exact ih m h1 h2
  ·exact⟨n,hn,fun m h=>Nat.le_of_not_lt fun h'=>hm ⟨m,h',h⟩⟩
open Classical in
noncomputable def mu(p:Nat→Prop):Nat:=if h:∃ n,p n then(least h).choose else 0
theorem mu_spec{p:Nat→Prop}(h:∃ n,p n):p (mu p):=by unfold mu;rw[dif_pos h];exact(least h).choose_spec.1
theorem mu_le{p:Nat→Prop}{n:Nat}(h:p n):mu p≤n:=by
 have h':∃ n,p n:=⟨n,h⟩
 unfold mu;rw[dif_pos h'];exact(least h').choose_spec.2 n h
theorem mu_lt{p q:Nat→Prop}{n:Nat}(h:q n)(hn:n<mu p):mu q<mu p:=Nat.lt_of_le_of_lt (mu_le h) hn
def qL(q:Str→Bool):Lit→Bool
 | .string x=>q ⟨x.toArray⟩
 |_=>true
theorem qL_ky(q:Str→Bool)(s:Str):qL q (ky s)=q s:=by unfold qL ky;simp
theorem has_del'{D:DataW Unit}(hT:IsMap D)(q:Str→Bool)(s:Str):has (Lib.deleteFuncD (fun l _=> !qL q l) D) (ky s)=(has D (ky s) && q s):=by
 obtain⟨es,rfl⟩:=hT
 show has (.map (es.filter fun p=> !(!qL q p.1))) (ky s)=_
 rw[has_eq,has_eq,List.any_filter]
 rw[Bool.eq_iff_iff,Bool.and_eq_true,List.any_eq_true,List.any_eq_true]
 constructor
 ·rintro⟨p,hp,h⟩
  rw[Bool.and_eq_true,Bool.not_not]at h
  have e:=WideAt.sameKey_eq h.2
  refine⟨⟨p,hp,h.2⟩,?_⟩
  rw[e,qL_ky]at h;exact h.1
 ·rintro⟨⟨p,hp,h⟩,hq⟩
  refine⟨p,hp,?_⟩
  have e:=WideAt.sameKey_eq h
  rw[Bool.and_eq_true,Bool.not_not]
  refine⟨?_,h⟩
  rw[e,qL_ky];exact hq
theorem tbl_del{P:Program}{k:TypeId}{R:Value→Option (DataW Unit×List MemPlace)}{w w':World}{b:Nat}{L:List Str}{f:Str→DataW Unit}(hk:P.underlying k=some .string)(q:Str→Bool){D:DataW Unit}(h1:L.Nodup)(h2:∀ s∈L,s.size≤maxLen)(h3:w.ownsMap P k R b L.length D)(h4:∀ s:Str,s.size≤maxLen→has D (ky s)=decide (s∈L))(h5:∀ s∈L,∀ z,D.atKey (ky s) z=f s)
  (h6:w'.ownsMap P k R b L.length (Lib.deleteFuncD (fun l _=> !qL q l) D)):tbl w' P k R b (L.filter q) f:=by
 have hT:=h3.tidy (string_keyed hk)
 have h7:∀ s:Str,s.size≤maxLen→has (Lib.deleteFuncD (fun l _=> !qL q l) D) (ky s)=decide (s∈L.filter q):=fun s hs=>by
  rw[has_del' hT.isMap,h4 s hs]
  by_cases hm:s∈L<;>by_cases hq:q s=true<;>simp[List.mem_filter,hm,hq]
 refine⟨h1.filter _,fun s hs=>h2 s (List.mem_filter.1 hs).1,_,?_,h7,fun s hs z=> ?_⟩
 ·have hnd:=strKeys_nodup h6 hk
  have hsub:∀ x∈(strKeys (Lib.deleteFuncD (fun l _=> !qL q l) D)).map (fun l:List UInt8=>(⟨l.toArray⟩:Str)),x∈L.filter q:=fun x hx=>by
   obtain⟨y,hy,rfl⟩:=List.mem_map.1 hx
   have h8:=(mem_strKeys h6 hk y).1 hy
   have h9:=strKeys_le h6 hk y hy
   have:=h7 ⟨y.toArray⟩ (by show y.toArray.size≤_;simpa using h9)
   rw[show ky (⟨y.toArray⟩:Str)= .string y by simp[ky],h8]at this
   simpa using this.symm
  have hinj:((strKeys (Lib.deleteFuncD (fun l _=> !qL q l) D)).map (fun l:List UInt8=>(⟨l.toArray⟩:Str))).Nodup:=List.pairwise_map.2 (hnd.imp fun {a b} hab e=>hab (by have:=congrArg (fun s:Str=>s.data.toList) e;simpa using this))
  have hl:=nodup_le hinj hsub
  rw[List.length_map]at hl
  obtain⟨es,c,a1,a2,a3,a4⟩:=h6
  have e:(strKeys (Lib.deleteFuncD (fun l _=> !qL q l) D)).length=es.size:=by
   rw[a4]
   show(List.map _ _).length=_
   rw[List.length_map,length_read]
  exact⟨es,c,a1,a2,by omega,a4⟩
 ·obtain⟨es,rfl,hap⟩:=hT
  have hm:=List.mem_filter.1 hs
  have h8:=h4 s (h2 s hm.1)
  rw[decide_eq_true hm.1,has_eq,List.any_eq_true]at h8
  obtain⟨p,hp,hpk⟩:=h8
  have e:=WideAt.sameKey_eq hpk
  have hp':(ky s,p.2)∈es:=by rw[← e];exact hp
  have h9:=(WideAt.atKey_mem .nil (ky_key s) hap hp').symm.trans (h5 s hm.1 .nil)
  rw[← h9]
  refine WideAt.atKey_mem z (ky_key s) (hap.filter _) (List.mem_filter.2 ⟨hp',?_⟩)
  rw[Bool.not_not]
  show qL q (ky s)=true
  rw[qL_ky];exact hm.2
abbrev MapsAt(w:World)(b:Nat)(L:List Str)(f:Str→Nat):Prop:=maps w Tryz.prog 9 b L f
set_option maxRecDepth 100000 in
theorem inForce_call{W:World}{bA pa:Nat}{N:List Str}{f:Str→Nat}(hA:MapsAt W bA N f)(hc:W.cell? ⟨pa,0,none⟩=some (.map (some bA)))(s:Str)(hs:s.size≤maxLen)(v:Value):
  Calls Tryz.prog 77 #[.string s,v,.pointer (some ⟨pa,0,none⟩)] W fun e w'=>e= .returned (.bool (decide (s∉N)))∧w'=W:=by
 have hnil:∀ (w:World) (r:Option Nat),(binOp .eql 70 (.map r) (.map none)).run Tryz.prog w= .ok (.bool r.isNone) w:=fun w r=>run_eql_map_nil w _ _ _ r Tryz.underlying70
 go_enter Tryz.func77,Tryz.ntmps77
 go_wp2_with (at_lookup;refine wp_getm _ rfl _ _ 76 rfl Tryz.underlying9 Tryz.underlying76 (Tryz.zeroValue70 _) bA N f rfl hA s rfl hs ?_)
 all_goals go_ret
 all_goals simp_all
theorem strike_call{W:World}{b bA pa:Nat}{L N:List Str}{f:Str→Nat}(hL:SetAt W b L)(hA:MapsAt W bA N f)(hc:W.cell? ⟨pa,0,none⟩=some (.map (some bA)))(hne:b≠bA):
  Calls Tryz.prog 76 #[.map (some b),.func (.func 77) #[] #[.pointer (some ⟨pa,0,none⟩)]] W fun e w'=>e= .returned (.tuple #[])∧SetAt w' b (L.filter fun s=>decide (s∈N))∧W.grownBy w' (some b):=by
 have hpb:pa≠b:=fun e=>by
  subst e
  obtain⟨es,c,h⟩:=hL.isMap
  simp[World.cell?,h]at hc
 obtain⟨h1,h2,D,h3,h4,h5⟩:=hL
 refine(AnyDf.maps_DeleteFunc (H:=Unit) Tryz.del76 (string_keyed Tryz.underlying9) (plainElem Tryz.prog 4) (fun l _=> !qL (fun s=>decide (s∈N)) l) 77 #[.pointer (some ⟨pa,0,none⟩)] b L.length D W (enters_of Tryz.func77 (by kernel_rfl) rfl) h3 ?_).mono fun e w' ⟨he,hw,hg⟩=>⟨he,tbl_del Tryz.underlying9 _ h1 h2 h3 h4 h5 hw,hg⟩
 intro W' key val kl yd yp hgr hkey hv
 obtain⟨x,rfl,rfl,hx⟩:=Maps.keyOf_str Tryz.underlying9 hkey
 have hA':MapsAt W' bA N f:=hA.kept hgr (by simpa using fun e=>hne e.symm)
 have hc':W'.cell? ⟨pa,0,none⟩=some (.map (some bA)):=(World.cell?_of_block (a:=⟨pa,0,none⟩) (hgr.block pa (World.block_lt_of_cell? _ _ hc) (by simpa using hpb))).trans hc
 have henc:encStr x= .string ⟨x.toArray⟩:=by simp[encStr]
 rw[henc]
 refine(inForce_call hA' hc' ⟨x.toArray⟩ (by show x.toArray.size≤_;simpa using hx) val).mono fun e w' ⟨he,hw⟩=>⟨?_,?_⟩
 ·rw[he];simp[qL]
 ·rw[hw];exact⟨rfl,rfl,rfl,Nat.le_refl _,fun _ _ _=>rfl⟩
end Go.Proofs.YtekngilbecjkhaaGreatDoor
