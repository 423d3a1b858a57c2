/- tooGreat (integers; decimals by decimal.Parse), walked by the kit. -/
import Derived.Test.YtcccbdelfhgmlaaGreatDoorWi
import Derived.RegionTactic
import Derived.OwnWalk
set_option linter.unusedSimpArgs false
set_option linter.unusedVariables false
set_option linter.unusedSectionVars false
set_option maxRecDepth 100000
set_option maxHeartbeats 4000000
namespace Go.Proofs.YtcccbdelfhgmlaaGreatDoor
section
open Go.RowKit Go.Proofs
theorem aer(s:ByteArray)(n:Int)(B:World→World→Prop)(w:World)(hA:Calls Tryz.prog 139 #[.string s] w fun e w'=>e= .returned (.tuple #[.int .i64 n,.nilIface])∧B w w'):
  Calls Tryz.prog 106 #[.int .i64 2,.string s] w fun e w'=>e= .returned (.int .i64 (if 1152921504606846976<n then 2 else 0))∧B w w':=by
 go_enter Tryz.func106,Tryz.ntmps106
 go_wp2_with (go_at_call 139;refine hA.mono ?_;rintro e w1 ⟨rfl,hB⟩)
 all_goals go_ret
 all_goals exact⟨rfl,hB⟩
theorem aep(s:ByteArray)(n:Int)(t:TypeId)(p:World→Value→Prop)(B:World→World→Prop)(w:World)(hA:Calls Tryz.prog 139 #[.string s] w fun e w'=>∃ q,e= .returned (.tuple #[.int .i64 n,.iface t q])∧B w w'):
  Calls Tryz.prog 106 #[.int .i64 2,.string s] w fun e w'=>e= .returned (.int .i64 2)∧B w w':=by
 go_enter Tryz.func106,Tryz.ntmps106
 go_wp2_with (go_at_call 139;refine hA.mono ?_;rintro e w1 ⟨q,rfl,hB⟩)
 all_goals go_ret
 all_goals exact⟨rfl,hB⟩
end
open Go.Sx Go.Proofs Go.RowKit
theorem adD{M:Mem}{w0:Base}{w:World}{σ:Store}(hI:Inv Tryz.prog M w0 σ w):∃ ev,w.cell? ⟨9,0,none⟩=some ev∧∃ te pe,ev= .iface te pe:=by
 have h:=hI.gl 9 [.iK 279 .any] (by rfl)
 obtain⟨b,off,cs,e,h1,h2⟩:=h.qf
 cases e
 have h3:=h1 0 (by simp)
 have h4:=h2 0 (by simp)
 obtain⟨u,hu,_⟩:=(show R M (.iK 279 .any) (cs 0)from h4).SS
 exact⟨cs 0,hI.dA _ _ _ h3,_,_,hu⟩
theorem aeq(l:List UInt8)(hd:jk l)(hl:l.length≤16384):Pure Tryz.prog 106 [iv 2,sv ⟨l.toArray⟩] (iv (nr l)):=by
 refine Pure.lj fun M w0 w σ cs hI hR=> ?_
 obtain⟨v1,wC,rfl,h1,jK⟩:=hR.bS
 obtain⟨v2,rfl,h2⟩:=jK.eg
 obtain rfl:=h1.ay
 obtain rfl:=h2.ay
 have aQ:(⟨l.toArray⟩:ByteArray).size≤16384:=by show l.toArray.size≤_;simpa using hl
 have ha:=Nt hd
 unfold nr
 by_cases hn:cD l 0<9223372036854775808
 ·rw[Z8 hn]at ha
  have hc:=Tryz.strconv_Atoi_ok ⟨l.toArray⟩ (by omega) _ (by simpa using ha) w
  refine(aer _ _ (fun w w'=>Below w.heap.size w w') w (hc.mono fun e w' ⟨he,hw⟩=>⟨he,?_⟩)).mono fun e w' ⟨he,hb⟩=>⟨⟨_,he,?_⟩,hb⟩
  ·rcases hw with rfl|⟨t,rfl⟩
   ·exact Below.refl _ _
   ·exact Nw w 5 t
  ·by_cases hg:cD l 0>1152921504606846976
   ·rw[Z8 hg,Z8 (by omega)];exact .v _
   ·rw[Z9 hg,Z9 (by omega)];exact .v _
 ·rw[Z9 hn]at ha
  obtain⟨ev,fy,IY⟩:=adD hI
  have hc:=Tryz.strconv_Atoi_range ⟨l.toArray⟩ (by omega) (by simpa using ha) ev w fy (.inr IY)
  refine(aep _ _ _ (fun _ _=>True) (fun w w'=>Below w.heap.size w w') w (hc.mono fun e w' ⟨N,he,h1,h2,h3⟩=>⟨_,he,h3⟩)).mono fun e w' ⟨he,hb⟩=>⟨⟨_,he,?_⟩,hb⟩
  rw[Z8 (by omega)];exact .v _
end Go.Proofs.YtcccbdelfhgmlaaGreatDoor
