/- tooGreat (integers; decimals by decimal.Parse), walked by the kit. -/
import Derived.Test.YtbihckigennlhaaGreatDoorWi
import Derived.RegionTactic
import Derived.OwnWalk
set_option linter.unusedSimpArgs false
set_option linter.unusedVariables false
set_option linter.unusedSectionVars false
set_option maxRecDepth 100000
set_option maxHeartbeats 4000000
namespace Go.Proofs.YtbihckigennlhaaGreatDoor
section
open Go.RowKit Go.Proofs
theorem T5(s:ByteArray)(n:Int)(B:World→World→Prop)(w:World)(hA:Calls Tryz.prog 136 #[.string s] w fun e w'=>e= .returned (.tuple #[.int .i64 n,.nilIface])∧B w w'):
  Calls Tryz.prog 95 #[.int .i64 2,.string s] w fun e w'=>e= .returned (.int .i64 (if 1152921504606846976<n then 2 else 0))∧B w w':=by
 go_enter Tryz.func95,Tryz.ntmps95
 go_wp2_with (go_at_call 136;refine hA.mono ?_;rintro e w1 ⟨rfl,hB⟩)
 all_goals go_ret
 all_goals exact⟨rfl,hB⟩
theorem T3(s:ByteArray)(n:Int)(t:TypeId)(p:World→Value→Prop)(B:World→World→Prop)(w:World)(hA:Calls Tryz.prog 136 #[.string s] w fun e w'=>∃ q,e= .returned (.tuple #[.int .i64 n,.iface t q])∧B w w'):
  Calls Tryz.prog 95 #[.int .i64 2,.string s] w fun e w'=>e= .returned (.int .i64 2)∧B w w':=by
 go_enter Tryz.func95,Tryz.ntmps95
 go_wp2_with (go_at_call 136;refine hA.mono ?_;rintro e w1 ⟨q,rfl,hB⟩)
 all_goals go_ret
 all_goals exact⟨rfl,hB⟩
end
open Go.Sx Go.Proofs Go.RowKit
theorem Tp{M:Mem}{w0:Base}{w:World}{σ:Store}(hI:Inv Tryz.prog M w0 σ w):∃ ev,w.cell? ⟨9,0,none⟩=some ev∧∃ te pe,ev= .iface te pe:=by
 have h:=hI.gl 9 [.gp 258 .any] (by rfl)
 obtain⟨b,off,cs,e,h1,h2⟩:=h.nw
 cases e
 have h3:=h1 0 (by simp)
 have h4:=h2 0 (by simp)
 obtain⟨u,hu,_⟩:=(show R M (.gp 258 .any) (cs 0)from h4).Lb
 exact⟨cs 0,hI.dr _ _ _ h3,_,_,hu⟩
theorem T4(l:List UInt8)(hd:gN l)(hl:l.length≤16384):Pure Tryz.prog 95 [iv 2,sv ⟨l.toArray⟩] (iv (kD l)):=by
 refine Pure.jB fun M w0 w σ cs hI hR=> ?_
 obtain⟨v1,vp,rfl,h1,ik⟩:=hR.cE
 obtain⟨v2,rfl,h2⟩:=ik.dN
 obtain rfl:=h1.ax
 obtain rfl:=h2.ax
 have aT:(⟨l.toArray⟩:ByteArray).size≤16384:=by show l.toArray.size≤_;simpa using hl
 have ha:=GZ hd
 unfold kD
 by_cases hn:bW l 0<9223372036854775808
 ·rw[if_pos hn]at ha
  have hc:=Tryz.strconv_Atoi_ok ⟨l.toArray⟩ (by omega) _ (by simpa using ha) w
  refine(T5 _ _ (fun w w'=>Below w.heap.size w w') w (hc.mono fun e w' ⟨he,hw⟩=>⟨he,?_⟩)).mono fun e w' ⟨he,hb⟩=>⟨⟨_,he,?_⟩,hb⟩
  ·rcases hw with rfl|⟨t,rfl⟩
   ·exact Below.refl _ _
   ·exact G2 w 5 t
  ·by_cases hg:bW l 0>1152921504606846976
   ·rw[if_pos hg,if_pos (by omega)];exact .v _
   ·rw[if_neg hg,if_neg (by omega)];exact .v _
 ·rw[if_neg hn]at ha
  obtain⟨ev,gC,C3⟩:=Tp hI
  have hc:=Tryz.strconv_Atoi_range ⟨l.toArray⟩ (by omega) (by simpa using ha) ev w gC (.inr C3)
  refine(T3 _ _ _ (fun _ _=>True) (fun w w'=>Below w.heap.size w w') w (hc.mono fun e w' ⟨N,he,h1,h2,h3⟩=>⟨_,he,h3⟩)).mono fun e w' ⟨he,hb⟩=>⟨⟨_,he,?_⟩,hb⟩
  rw[if_pos (by omega)];exact .v _
end Go.Proofs.YtbihckigennlhaaGreatDoor
