/- The hypotheses of the walks, proved: Normal, Parse, tooGreat. -/
import Derived.Test.YtbihckigennlhaaGreatDoorYf
import Derived.Test.YtbihckigennlhaaGreatDoorWo
import Derived.Test.YtbihckigennlhaaGreatDoorWn
set_option linter.unusedSimpArgs false
set_option linter.unusedVariables false
set_option linter.unusedSectionVars false
set_option maxRecDepth 100000
set_option maxHeartbeats 4000000
namespace Go.Proofs.YtbihckigennlhaaGreatDoor
open Go.Sx Go.Proofs
theorem ac1:rZ:=fun l _ h hl=>ac3 l (fun f hf=>(h f hf).1) (fun f hf=>(h f hf).2) hl
theorem AF{a b:List UInt8}(ha:iz a):((a++46::b).takeWhile fun c=>c != 46)=a∧(((a++46::b).dropWhile fun c=>c != 46).drop 1)=b:=by
 have h:∀ c∈a,(c != 46)=true:=fun c hc=>by
  have:=(ha.2 c hc).1
  rw[bne_iff_ne]
  rintro rfl
  exact absurd this (by decide)
 constructor
 ·rw[List.takeWhile_append_of_pos h,List.takeWhile_cons_of_neg (by decide),Zn]
 ·rw[List.dropWhile_append_of_pos h,List.dropWhile_cons_of_neg (by decide)];rfl
theorem U8:uw:=fun t ht hk=>by
 obtain⟨a,b,h1,h2,h3,h4,h5⟩:=ht.dec hk
 have hs:t.text=⟨(a++46::b).toArray⟩:=by rw[← h1]
 have hz:=ht.sz
 have hp:=ND a b h2 h3 (by rw[← h1];simpa using hz)
 have e1:jG a b=0:=by unfold jG;rw[if_neg (by omega),if_neg (by omega)]
 have e2:ov a b=nE t.text:=by
  unfold ov nE
  rw[if_pos e1,h1,(AF h2).1,(AF h2).2]
  simp only[Int.natCast_mul,Int.natCast_pow];rfl
 rw[← hs,e1,e2]at hp
 exact hp
section
open Go.RowKit Go.Proofs
theorem WQ(s:ByteArray)(x n:Int)(B:World→World→Prop)(w:World)(hA:Calls Tryz.prog 135 #[.string s] w fun e w'=>e= .returned (.tuple #[.int .i64 x,.int .i64 n])∧B w w'):
  Calls Tryz.prog 95 #[.int .i64 3,.string s] w fun e w'=>e= .returned (.int .i64 n)∧B w w':=by
 go_enter Tryz.func95,Tryz.ntmps95
 go_wp2_with (go_at_call 135;refine hA.mono ?_;rintro e w1 ⟨rfl,hB⟩)
 all_goals go_ret
 all_goals exact⟨rfl,hB⟩
end
theorem WR(a b:List UInt8)(ha:iz a)(hb:iz b)(hl:(a++46::b).length≤16384):Pure Tryz.prog 95 [iv 3,sv ⟨(a++46::b).toArray⟩] (iv (jV (a++46::b))):=by
 refine Pure.shelf fun M w0 w σ cs hI hR=> ?_
 obtain⟨v1,vs1,rfl,h1,iV⟩:=hR.cN
 obtain⟨v2,rfl,h2⟩:=iV.dV
 obtain rfl:=h1.az
 obtain rfl:=h2.az
 have hc:=(ND a b ha hb hl).sp [] M ⟨w,M⟩ w [.string ⟨(a++46::b).toArray⟩] (Mj hI) (RL.cons (.v _) RL.nil)
 have hE:jG a b=jV (a++46::b):=by unfold jG jV;rw[(AF ha).1,(AF ha).2]
 rw[← hE]
 refine(WQ _ (ov a b) (jG a b) (fun w w'=>Go.RowKit.Below w.heap.size w w') w (hc.mono fun e w' ⟨M',r,σ',hM,hI',hr,hq⟩=> ?_)).mono fun e w' ⟨he,hb⟩=>⟨⟨_,he,.v _⟩,hb⟩
 obtain⟨rfl,_⟩:=hq
 cases e with
 |returned v=>
  obtain⟨vs,rfl,nY⟩:=R.BI hr
  obtain⟨u1,us,rfl,g1,g2⟩:=nY.cN
  obtain⟨u2,rfl,g3⟩:=g2.dV
  rw[g1.az,g3.az]
  exact⟨rfl,hI'.os,hI'.tape,hI'.output,hI'.size,hI'.old⟩
 |_=>exact hr.elim
theorem DZ:ux:=⟨WT,WR⟩
end Go.Proofs.YtbihckigennlhaaGreatDoor
