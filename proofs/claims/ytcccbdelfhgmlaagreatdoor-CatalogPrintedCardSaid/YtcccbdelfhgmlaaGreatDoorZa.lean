/- The hypotheses of the walks, proved: Normal, Parse, tooGreat. -/
import Derived.Test.YtcccbdelfhgmlaaGreatDoorYf
import Derived.Test.YtcccbdelfhgmlaaGreatDoorWo
import Derived.Test.YtcccbdelfhgmlaaGreatDoorWn
set_option linter.unusedSimpArgs false
set_option linter.unusedVariables false
set_option linter.unusedSectionVars false
set_option maxRecDepth 100000
set_option maxHeartbeats 4000000
namespace Go.Proofs.YtcccbdelfhgmlaaGreatDoor
open Go.Sx Go.Proofs
theorem agO:uG:=fun l _ h hl=>agQ l (fun f hf=>(h f hf).1) (fun f hf=>(h f hf).2) hl
theorem Dt{a b:List UInt8}(ha:jk a):((a++46::b).takeWhile fun c=>c != 46)=a∧(((a++46::b).dropWhile fun c=>c != 46).drop 1)=b:=by
 have h:∀ c∈a,(c != 46)=true:=fun c hc=>by
  have:=(ha.2 c hc).1
  rw[bne_iff_ne]
  rintro rfl
  exact absurd this (by decide)
 constructor
 ·rw[List.takeWhile_append_of_pos h,List.takeWhile_cons_of_neg (by decide),Zg]
 ·rw[List.dropWhile_append_of_pos h,List.dropWhile_cons_of_neg (by decide)];rfl
theorem acC:wS:=fun t ht hk=>by
 obtain⟨a,b,h1,h2,h3,h4,h5⟩:=ht.dec hk
 have hs:t.text=⟨(a++46::b).toArray⟩:=by rw[← h1]
 have hz:=ht.sz
 have hp:=Te a b h2 h3 (by rw[← h1];simpa using hz)
 have e1:km a b=0:=by unfold km;rw[Z9 (by omega),Z9 (by omega)]
 have e2:qi a b=pq t.text:=by
  unfold qi pq
  rw[Z8 e1,h1,(Dt h2).1,(Dt h2).2]
  simp only[Int.natCast_mul,Int.natCast_pow];rfl
 rw[← hs,e1,e2]at hp
 exact hp
section
open Go.RowKit Go.Proofs
theorem aen(s:ByteArray)(x n:Int)(B:World→World→Prop)(w:World)(hA:Calls Tryz.prog 138 #[.string s] w fun e w'=>e= .returned (.tuple #[.int .i64 x,.int .i64 n])∧B w w'):
  Calls Tryz.prog 106 #[.int .i64 3,.string s] w fun e w'=>e= .returned (.int .i64 n)∧B w w':=by
 go_enter Tryz.func106,Tryz.ntmps106
 go_wp2_with (go_at_call 138;refine hA.mono ?_;rintro e w1 ⟨rfl,hB⟩)
 all_goals go_ret
 all_goals exact⟨rfl,hB⟩
end
theorem aeo(a b:List UInt8)(ha:jk a)(hb:jk b)(hl:(a++46::b).length≤16384):Pure Tryz.prog 106 [iv 3,sv ⟨(a++46::b).toArray⟩] (iv (kL (a++46::b))):=by
 refine Pure.lj fun M w0 w σ cs hI hR=> ?_
 obtain⟨v1,wC,rfl,h1,jK⟩:=hR.bS
 obtain⟨v2,rfl,h2⟩:=jK.eg
 obtain rfl:=h1.ay
 obtain rfl:=h2.ay
 have hc:=(Te a b ha hb hl).sp [] M ⟨w,M⟩ w [.string ⟨(a++46::b).toArray⟩] (JP hI) (RL.cons (.v _) RL.nil)
 have hE:km a b=kL (a++46::b):=by unfold km kL;rw[(Dt ha).1,(Dt ha).2]
 rw[← hE]
 refine(aen _ (qi a b) (km a b) (fun w w'=>Go.RowKit.Below w.heap.size w w') w (hc.mono fun e w' ⟨M',r,σ',hM,aP,hr,hq⟩=> ?_)).mono fun e w' ⟨he,hb⟩=>⟨⟨_,he,.v _⟩,hb⟩
 obtain⟨rfl,_⟩:=hq
 cases e with
 |returned v=>
  obtain⟨vs,rfl,pR⟩:=R.EU hr
  obtain⟨u1,us,rfl,g1,g2⟩:=pR.bS
  obtain⟨u2,rfl,g3⟩:=g2.eg
  rw[g1.ay,g3.ay]
  exact⟨rfl,aP.os,aP.tape,aP.output,aP.size,aP.old⟩
 |_=>exact hr.elim
theorem aem:wT:=⟨aeq,aeo⟩
end Go.Proofs.YtcccbdelfhgmlaaGreatDoor
