/- The hypotheses of the walks, proved: Normal, Parse, tooGreat. -/
import Derived.Test.YtbihckigennlhaaGreatDoorYf
import Derived.Test.YtbihckigennlhaaGreatDoorWo
import Derived.Test.YtbihckigennlhaaGreatDoorWn
set_option linter.unusedSimpArgs false
set_option linter.unusedVariables false
set_option linter.unusedSectionVars false
set_option maxRecDepth 100000
set_option maxHeartbeats 4000000
namespace Go.Proofs.YtbihckigennlhaaGreatDoor
open Go.Sx Go.Proofs
theorem aaT:qD:=fun l _ h hl=>aaV l (fun f hf=>(h f hf).1) (fun f hf=>(h f hf).2) hl
theorem yL{a b:List UInt8}(ha:gN a):((a++46::b).takeWhile fun c=>c != 46)=a∧(((a++46::b).dropWhile fun c=>c != 46).drop 1)=b:=by
 have h:∀ c∈a,(c != 46)=true:=fun c hc=>by
  have:=(ha.2 c hc).1
  rw[bne_iff_ne]
  rintro rfl
  exact absurd this (by decide)
 constructor
 ·rw[List.takeWhile_append_of_pos h,List.takeWhile_cons_of_neg (by decide),Zx]
 ·rw[List.dropWhile_append_of_pos h,List.dropWhile_cons_of_neg (by decide)];rfl
theorem Si:sW:=fun t ht hk=>by
 obtain⟨a,b,h1,h2,h3,h4,h5⟩:=ht.dec hk
 have hs:t.text=⟨(a++46::b).toArray⟩:=by rw[← h1]
 have hz:=ht.sz
 have hp:=Ln a b h2 h3 (by rw[← h1];simpa using hz)
 have e1:iW a b=0:=by unfold iW;rw[if_neg (by omega),if_neg (by omega)]
 have e2:ny a b=mG t.text:=by
  unfold ny mG
  rw[if_pos e1,h1,(yL h2).1,(yL h2).2]
  simp only[Int.natCast_mul,Int.natCast_pow];rfl
 rw[← hs,e1,e2]at hp
 exact hp
section
open Go.RowKit Go.Proofs
theorem T0(s:ByteArray)(x n:Int)(B:World→World→Prop)(w:World)(hA:Calls Tryz.prog 135 #[.string s] w fun e w'=>e= .returned (.tuple #[.int .i64 x,.int .i64 n])∧B w w'):
  Calls Tryz.prog 95 #[.int .i64 3,.string s] w fun e w'=>e= .returned (.int .i64 n)∧B w w':=by
 go_enter Tryz.func95,Tryz.ntmps95
 go_wp2_with (go_at_call 135;refine hA.mono ?_;rintro e w1 ⟨rfl,hB⟩)
 all_goals go_ret
 all_goals exact⟨rfl,hB⟩
end
theorem T2(a b:List UInt8)(ha:gN a)(hb:gN b)(hl:(a++46::b).length≤16384):Pure Tryz.prog 95 [iv 3,sv ⟨(a++46::b).toArray⟩] (iv (jn (a++46::b))):=by
 refine Pure.jB fun M w0 w σ cs hI hR=> ?_
 obtain⟨v1,vp,rfl,h1,ik⟩:=hR.cE
 obtain⟨v2,rfl,h2⟩:=ik.dN
 obtain rfl:=h1.ax
 obtain rfl:=h2.ax
 have hc:=(Ln a b ha hb hl).sp [] M ⟨w,M⟩ w [.string ⟨(a++46::b).toArray⟩] (Kn hI) (RL.cons (.v _) RL.nil)
 have hE:iW a b=jn (a++46::b):=by unfold iW jn;rw[(yL ha).1,(yL ha).2]
 rw[← hE]
 refine(T0 _ (ny a b) (iW a b) (fun w w'=>Go.RowKit.Below w.heap.size w w') w (hc.mono fun e w' ⟨M',r,σ',hM,bo,hr,hq⟩=> ?_)).mono fun e w' ⟨he,hb⟩=>⟨⟨_,he,.v _⟩,hb⟩
 obtain⟨rfl,_⟩:=hq
 cases e with
 |returned v=>
  obtain⟨vs,rfl,na⟩:=R.Ag hr
  obtain⟨u1,us,rfl,g1,g2⟩:=na.cE
  obtain⟨u2,rfl,g3⟩:=g2.dN
  rw[g1.ax,g3.ax]
  exact⟨rfl,bo.os,bo.tape,bo.output,bo.size,bo.old⟩
 |_=>exact hr.elim
theorem TZ:sX:=⟨T4,T2⟩
end Go.Proofs.YtbihckigennlhaaGreatDoor
