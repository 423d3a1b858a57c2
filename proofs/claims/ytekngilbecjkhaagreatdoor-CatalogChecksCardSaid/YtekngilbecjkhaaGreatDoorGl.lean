/- Package variables; contracts of the library, as contracts of the layer. -/
import Derived.Test.YtekngilbecjkhaaGreatDoorPt
import Derived.Test.YtekngilbecjkhaaGreatDoorShelf
import Derived.Test.YtekngilbecjkhaaGreatDoorSxL
import Derived.Lib.Join
import Derived.Lib.Small
import Derived.Lib.IndexMore
import Derived.Shelf.Strings.Search1
set_option linter.unusedVariables false
namespace Go.Proofs.YtekngilbecjkhaaGreatDoor
open Go.Sx Go.Proofs Go.RowKit
theorem str_of{M:Mem}{s:Str}{v:Value}(h:R M (sv s) v):v= .string s:=h.of_v
theorem maxLen_of{M:Mem}{w0 w:World}{σ:Store}(hI:Inv Tryz.prog M w0 σ w):∃ m,w.cell? ⟨3,0,none⟩=some (.int .i64 m):=by
 obtain⟨b,off,cs,hv,hM,hR⟩:=(hI.gl 3 [.ai .i64] rfl).of_pc
 cases hv
 obtain⟨n,hn⟩:=(hR 0 (by simp)).of_ai
 have h1:=hI.imm _ _ _ (hM 0 (by simp))
 have hn:cs 0= .int .i64 n:=hn
 rw[hn]at h1
 exact⟨n,h1⟩
theorem contains_one_ok(s:Str)(c:UInt8):Pure Tryz.prog 121 [sv s,sv ⟨#[c]⟩] (.v (.bool (decide (0≤Lib.indexByte s.data.toList c)))):=by
 refine Pure.shelf fun M w0 w σ cs hI hR=> ?_
 obtain⟨v1,vs,rfl,h1,h2⟩:=hR.uncons
 obtain⟨v2,rfl,h3⟩:=h2.un1
 obtain rfl:=str_of h1
 obtain rfl:=str_of h3
 exact(Tryz.strings_Contains_one s c w).mono fun e w' ⟨he,hw⟩=>⟨⟨_,he,.v _⟩,by rw[hw];exact Below.refl _ _⟩
theorem contains_ok(s t:Str)(hs:s.size<4294967281):Pure Tryz.prog 121 [sv s,sv t] (.v (.bool (Lib.contains s.data.toList t.data.toList))):=by
 refine Pure.shelf fun M w0 w σ cs hI hR=> ?_
 obtain⟨v1,vs,rfl,h1,h2⟩:=hR.uncons
 obtain⟨v2,rfl,h3⟩:=h2.un1
 obtain rfl:=str_of h1
 obtain rfl:=str_of h3
 obtain⟨m,hm⟩:=maxLen_of hI
 exact(Tryz.strings_Contains s t m w hs hm).mono fun e w' ⟨he,hw⟩=>⟨⟨_,he,.v _⟩,by rw[hw];exact Below.refl _ _⟩
def itoaS(n:Int):Str:=⟨(Lib.itoa n).toArray⟩
def joinS(ws:List Str)(sep:Str):Str:=⟨(Lib.join (ws.map (·.data.toList)) sep.data.toList).toArray⟩
end Go.Proofs.YtekngilbecjkhaaGreatDoor
