/- The sorted keys of a map, in the walk's words. -/
import Derived.Test.YtcccbdelfhgmlaaGreatDoorCd
import Derived.Test.YtcccbdelfhgmlaaGreatDoorNm
set_option linter.unusedVariables false
set_option linter.unusedSimpArgs false
namespace Go.Proofs.YtcccbdelfhgmlaaGreatDoor
open Go.RowKit Go.Proofs Go.Tb Go.Maps
abbrev R3(w:World):Value:= .func (.func 50) #[] #[.pointer (some ⟨w.heap.size,0,none⟩)]
abbrev R4(w:World):Value:= .func (.func 66) #[] #[.pointer (some ⟨w.heap.size,0,none⟩)]
theorem JZ(b:Nat)(w:World):Calls Tryz.prog 23 #[.map (some b)] w fun e w'=>e= .returned (R3 w)∧w'=w.alloc (.cells #[.map (some b)] 69):=callsIn_wide.1 (Tryz.maps_Keys_23 (some b) w)
theorem R5(b:Nat)(w:World):Calls Tryz.prog 37 #[.map (some b)] w fun e w'=>e= .returned (R4 w)∧w'=w.alloc (.cells #[.map (some b)] 81):=callsIn_wide.1 (Tryz.maps_Keys_37 (some b) w)
theorem Fw{w:World}{b:Nat}{L:List ae}(h:bV w b L)(hn:L.length≤4398046511104):Calls Tryz.prog 22 #[R3 w] (w.alloc (.cells #[.map (some b)] 69)) fun e w'=>
  ∃ v S,e= .returned v∧bO S∧(∀ s,s∈S↔s∈L)∧names w' 9 (w.heap.size+1) v S∧Below (w.heap.size+1) (w.alloc (.cells #[.map (some b)] 69)) w':=by
 obtain⟨h1,h2,D,h3,h4,h5⟩:=h
 have hz:=h3.size_le
 refine(callsIn_wide.1 (Tryz.slices_Sorted_keys_22_23 b L.length D _ w h3 (by unfold maxLen;omega) (by omega))).mono fun e w' ⟨v,ss,he,hp,nh,_,hb⟩=> ?_
 obtain⟨S,g1,g2,g3⟩:=KZ Tryz.underlying9 h3 h2 h4 hp nh
 have e1:(w.alloc (.cells #[.map (some b)] 69)).heap.size=w.heap.size+1:=by simp
 rw[e1]at g3 hb
 exact⟨v,S,he,g1,g2,g3,hb⟩
theorem Uy{w:World}{b:Nat}{L:List ae}{f:ae→Nat}(h:maps w Tryz.prog 9 b L f)(hn:L.length≤4398046511104):Calls Tryz.prog 22 #[R4 w] (w.alloc (.cells #[.map (some b)] 81)) fun e w'=>
  ∃ v S,e= .returned v∧bO S∧(∀ s,s∈S↔s∈L)∧names w' 9 (w.heap.size+1) v S∧Below (w.heap.size+1) (w.alloc (.cells #[.map (some b)] 81)) w':=by
 obtain⟨h1,h2,D,h3,h4,h5⟩:=h
 have hz:=h3.size_le
 refine(callsIn_wide.1 (Tryz.slices_Sorted_keys_22_37 b L.length D _ w h3 (by unfold maxLen;omega) (by omega))).mono fun e w' ⟨v,ss,he,hp,nh,_,hb⟩=> ?_
 obtain⟨S,g1,g2,g3⟩:=KZ Tryz.underlying9 h3 h2 h4 hp nh
 have e1:(w.alloc (.cells #[.map (some b)] 81)).heap.size=w.heap.size+1:=by simp
 rw[e1]at g3 hb
 exact⟨v,S,he,g1,g2,g3,hb⟩
end Go.Proofs.YtcccbdelfhgmlaaGreatDoor
