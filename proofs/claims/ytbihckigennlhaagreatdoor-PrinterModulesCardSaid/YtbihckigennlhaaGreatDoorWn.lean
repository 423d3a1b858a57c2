/- tooGreat (integers; decimals by decimal.Parse), walked by the kit. -/
import Derived.Test.YtbihckigennlhaaGreatDoorWj
import Derived.RegionTactic
import Derived.OwnWalk
set_option linter.unusedSimpArgs false
set_option linter.unusedVariables false
set_option linter.unusedSectionVars false
set_option maxRecDepth 100000
set_option maxHeartbeats 4000000
namespace Go.Proofs.YtbihckigennlhaaGreatDoor
section
open Go.RowKit Go.Proofs
theorem WU(s:ByteArray)(n:Int)(B:World→World→Prop)(w:World)(hA:Calls Tryz.prog 136 #[.string s] w fun e w'=>e= .returned (.tuple #[.int .i64 n,.nilIface])∧B w w'):
  Calls Tryz.prog 95 #[.int .i64 2,.string s] w fun e w'=>e= .returned (.int .i64 (if 1152921504606846976<n then 2 else 0))∧B w w':=by
 go_enter Tryz.func95,Tryz.ntmps95
 go_wp2_with (go_at_call 136;refine hA.mono ?_;rintro e w1 ⟨rfl,hB⟩)
 all_goals go_ret
 all_goals exact⟨rfl,hB⟩
theorem WS(s:ByteArray)(n:Int)(t:TypeId)(p:World→Value→Prop)(B:World→World→Prop)(w:World)(hA:Calls Tryz.prog 136 #[.string s] w fun e w'=>∃ q,e= .returned (.tuple #[.int .i64 n,.iface t q])∧B w w'):
  Calls Tryz.prog 95 #[.int .i64 2,.string s] w fun e w'=>e= .returned (.int .i64 2)∧B w w':=by
 go_enter Tryz.func95,Tryz.ntmps95
 go_wp2_with (go_at_call 136;refine hA.mono ?_;rintro e w1 ⟨q,rfl,hB⟩)
 all_goals go_ret
 all_goals exact⟨rfl,hB⟩
end
open Go.Sx Go.Proofs Go.RowKit
theorem Wa{M:Mem}{w0:Base}{w:World}{σ:Store}(hI:Inv Tryz.prog M w0 σ w):∃ ev,w.cell? ⟨9,0,none⟩=some ev∧∃ te pe,ev= .iface te pe:=by
 have h:=hI.gl 9 [.gM 258 .any] (by rfl)
 obtain⟨b,off,cs,e,h1,h2⟩:=h.ot
 cases e
 have h3:=h1 0 (by simp)
 have h4:=h2 0 (by simp)
 obtain⟨u,hu,_⟩:=(show R M (.gM 258 .any) (cs 0)from h4).Nr
 exact⟨cs 0,hI.dB _ _ _ h3,_,_,hu⟩
theorem WT(l:List UInt8)(hd:iz l)(hl:l.length≤16384):Pure Tryz.prog 95 [iv 2,sv ⟨l.toArray⟩] (iv (lL l)):=by
 refine Pure.shelf fun M w0 w σ cs hI hR=> ?_
 obtain⟨v1,vs1,rfl,h1,iV⟩:=hR.cN
 obtain⟨v2,rfl,h2⟩:=iV.dV
 obtain rfl:=h1.az
 obtain rfl:=h2.az
 have hsz:(⟨l.toArray⟩:ByteArray).size≤16384:=by show l.toArray.size≤_;simpa using hl
 have ha:=IM hd
 unfold lL
 by_cases hn:ei l 0<9223372036854775808
 ·rw[if_pos hn]at ha
  have hc:=Tryz.strconv_Atoi_ok ⟨l.toArray⟩ (by omega) _ (by simpa using ha) w
  refine(WU _ _ (fun w w'=>Below w.heap.size w w') w (hc.mono fun e w' ⟨he,hw⟩=>⟨he,?_⟩)).mono fun e w' ⟨he,hb⟩=>⟨⟨_,he,?_⟩,hb⟩
  ·rcases hw with rfl|⟨t,rfl⟩
   ·exact Below.refl _ _
   ·exact IU w 5 t
  ·by_cases hg:ei l 0>1152921504606846976
   ·rw[if_pos hg,if_pos (by omega)];exact .v _
   ·rw[if_neg hg,if_neg (by omega)];exact .v _
 ·rw[if_neg hn]at ha
  obtain⟨ev,ia,Ey⟩:=Wa hI
  have hc:=Tryz.strconv_Atoi_range ⟨l.toArray⟩ (by omega) (by simpa using ha) ev w ia (.inr Ey)
  refine(WS _ _ _ (fun _ _=>True) (fun w w'=>Below w.heap.size w w') w (hc.mono fun e w' ⟨N,he,h1,h2,h3⟩=>⟨_,he,h3⟩)).mono fun e w' ⟨he,hb⟩=>⟨⟨_,he,?_⟩,hb⟩
  rw[if_pos (by omega)];exact .v _
end Go.Proofs.YtbihckigennlhaaGreatDoor
