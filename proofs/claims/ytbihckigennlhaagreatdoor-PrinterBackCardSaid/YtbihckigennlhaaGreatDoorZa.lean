/- The hypotheses of the walks, proved: Normal, Parse, tooGreat. -/
import Derived.Test.YtbihckigennlhaaGreatDoorYf
import Derived.Test.YtbihckigennlhaaGreatDoorWo
import Derived.Test.YtbihckigennlhaaGreatDoorWn
set_option linter.unusedSimpArgs false
set_option linter.unusedVariables false
set_option linter.unusedSectionVars false
set_option maxRecDepth 100000
set_option maxHeartbeats 4000000
namespace Go.Proofs.YtbihckigennlhaaGreatDoor
open Go.Sx Go.Proofs
theorem normOk:NormOk:=fun l _ h hl=>normal_ok l (fun f hf=>(h f hf).1) (fun f hf=>(h f hf).2) hl
theorem dig_split{a b:List UInt8}(ha:DigL a):((a++46::b).takeWhile fun c=>c != 46)=a∧(((a++46::b).dropWhile fun c=>c != 46).drop 1)=b:=by
 have h:∀ c∈a,(c != 46)=true:=fun c hc=>by
  have:=(ha.2 c hc).1
  rw[bne_iff_ne]
  rintro rfl
  exact absurd this (by decide)
 constructor
 ·rw[List.takeWhile_append_of_pos h,List.takeWhile_cons_of_neg (by decide),List.append_nil]
 ·rw[List.dropWhile_append_of_pos h,List.dropWhile_cons_of_neg (by decide)];rfl
theorem decOk:DecOk:=fun t ht hk=>by
 obtain⟨a,b,h1,h2,h3,h4,h5⟩:=ht.dec hk
 have hs:t.text=⟨(a++46::b).toArray⟩:=by rw[← h1]
 have hz:=ht.sz
 have hp:=parse_ok a b h2 h3 (by rw[← h1];simpa using hz)
 have e1:parseE a b=0:=by unfold parseE;rw[if_neg (by omega),if_neg (by omega)]
 have e2:parseX a b=decV t.text:=by
  unfold parseX decV
  rw[if_pos e1,h1,(dig_split h2).1,(dig_split h2).2]
  simp only[Int.natCast_mul,Int.natCast_pow];rfl
 rw[← hs,e1,e2]at hp
 exact hp
section
open Go.RowKit Go.Proofs
theorem great_cd(s:ByteArray)(x n:Int)(B:World→World→Prop)(w:World)(hA:Calls Tryz.prog 135 #[.string s] w fun e w'=>e= .returned (.tuple #[.int .i64 x,.int .i64 n])∧B w w'):
  Calls Tryz.prog 95 #[.int .i64 3,.string s] w fun e w'=>e= .returned (.int .i64 n)∧B w w':=by
 go_enter Tryz.func95,Tryz.ntmps95
 go_wp2_with (go_at_call 135;refine hA.mono ?_;rintro e w1 ⟨rfl,hB⟩)
 all_goals go_ret
 all_goals exact⟨rfl,hB⟩
end
theorem great_dec(a b:List UInt8)(ha:DigL a)(hb:DigL b)(hl:(a++46::b).length≤16384):Pure Tryz.prog 95 [iv 3,sv ⟨(a++46::b).toArray⟩] (iv (decE (a++46::b))):=by
 refine Pure.shelf fun M w0 w σ cs hI hR=> ?_
 obtain⟨v1,vs1,rfl,h1,hR1⟩:=hR.uncons
 obtain⟨v2,rfl,h2⟩:=hR1.un1
 obtain rfl:=h1.of_v
 obtain rfl:=h2.of_v
 have hc:=(parse_ok a b ha hb hl).sp [] M ⟨w,M⟩ w [.string ⟨(a++46::b).toArray⟩] (inv_start hI) (RL.cons (.v _) RL.nil)
 have hE:parseE a b=decE (a++46::b):=by unfold parseE decE;rw[(dig_split ha).1,(dig_split ha).2]
 rw[← hE]
 refine(great_cd _ (parseX a b) (parseE a b) (fun w w'=>Go.RowKit.Below w.heap.size w w') w (hc.mono fun e w' ⟨M',r,σ',hM,hI',hr,hq⟩=> ?_)).mono fun e w' ⟨he,hb⟩=>⟨⟨_,he,.v _⟩,hb⟩
 obtain⟨rfl,_⟩:=hq
 cases e with
 |returned v=>
  obtain⟨vs,rfl,hvs⟩:=R.of_tup hr
  obtain⟨u1,us,rfl,g1,g2⟩:=hvs.uncons
  obtain⟨u2,rfl,g3⟩:=g2.un1
  rw[g1.of_v,g3.of_v]
  exact⟨rfl,hI'.os,hI'.tape,hI'.output,hI'.size,hI'.old⟩
 |_=>exact hr.elim
theorem greatOk:GreatOk:=⟨great_int,great_dec⟩
end Go.Proofs.YtbihckigennlhaaGreatDoor
