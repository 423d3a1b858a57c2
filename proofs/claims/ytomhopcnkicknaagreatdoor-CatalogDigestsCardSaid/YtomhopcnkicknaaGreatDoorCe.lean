/- catalog.find, Feature, Draft: the first feature with a name. -/
import Derived.Test.YtomhopcnkicknaaGreatDoorSet
import Derived.Test.YtomhopcnkicknaaGreatDoorPl
set_option linter.unusedSimpArgs false
set_option linter.unusedVariables false
set_option maxRecDepth 100000
set_option maxHeartbeats 4000000
namespace Go.Proofs.YtomhopcnkicknaaGreatDoor
open _root_.Go.Proofs.Tryz
open Go.Sx Go.Proofs
def BB:List AV:=[sv ⟨#[]⟩,sv ⟨#[]⟩,iv 0,.v (.slice none 0 0),sv ⟨#[]⟩,iv 0,sv ⟨#[]⟩,sv ⟨#[]⟩,sv ⟨#[]⟩,iv 0,iv 0,sv ⟨#[]⟩,.v (.slice none 0 0),iv 0,iv 0,iv 0,.v (.slice none 0 0),iv 0]
def L7(o:Option aj):AV:=match o with
 |some f=> .aE [.agg f.cells,.v (.bool true)]
 |none=> .aE [.agg BB,.v (.bool false)]
theorem agz(x:aj)(n:ae)(b c:Nat)(Y:aG)(τ:Store):At prog 137 [.agg x.cells,.lp 3 b 0] (.v (.bool (decide (x.name=n)))) ((4,c,Y)::(3,b,aG.cells [sv n])::τ):=by
 refine At.nO (fun _=>0) func137 Xf aa1 (ZW rfl) ?_
 repeat'(first|exact .nil|refine .k0 ?_|refine .k1 ?_|refine .k2 ?_|refine .k7 ?_|refine .r1 ?_ ?_|(refine .m1 ?_ ?_;intro b)|fail)
 all_goals(try simp only[BL]at *)
 ·exact Sx.Fin.intro Zs rfl
theorem NT(fs:List aj)(n:ae)(b c:Nat)(Y:aG)(τ:Store):At prog 136 [.sl false 18 (fs.map aj.cells),.v (.func (.func 137) #[] #[.pointer (some ⟨b,0,none⟩)])] (iv (firstIdx (fun x=>decide (x.name=n)) fs 0)) ((4,c,Y)::(3,b,aG.cells [sv n])::τ):=by
 refine At.nO (fun _=>0) func136 Xe aa0 (ZW rfl) ?_
 repeat'(first|exact .nil|refine .k0 ?_|refine .k1 ?_|refine .k2 ?_|refine .k6 ?_|refine .r1 ?_ ?_|(refine .m2 ?_ ?_;intro hlen)|fail)
 all_goals(try simp only[BL]at *)
 refine aH (fun m rg af=>∃ i:Nat,i≤fs.length∧m=fs.length-i∧(∀ j,j<i→¬(fs.getD j default).name=n)∧af=(4,c,Y)::(3,b,aG.cells [sv n])::τ∧rg=[(0,.sl false 18 (fs.map aj.cells)),(1,.v (.func (.func 137) #[] #[.pointer (some ⟨b,0,none⟩)])),(7,iv fs.length),(8,iv i)]) fs.length rfl ⟨_,_,Zr,Zs,0,Z1 _,rfl,fun j hj=>absurd hj (by omega),rfl,rfl⟩ ?_
 rintro m _ _ ⟨i,hi,hn,hp,rfl,rfl⟩
 repeat'(first|exact .nil|refine .k0 ?_|refine .k1 ?_|refine .k2 ?_|refine .k6 ?_|refine .k7 ?_|refine .k8 ?_|refine .k9 ?_|(refine .cd ?_ ?_<;>(intro hc;skip))|refine .r1 ?_ ?_|refine .t1 ?_ ?_ ?_|fail)
 try any_goals(exact Zo)
 all_goals(try simp only[BL]at *)
 refine J7 rfl rfl (by rfl) (fun _=>(agz (fs.getD i default) n b c Y τ).wk (cD.cons (Wk.refl _) (cD.cons (Wk.ptr _ _ _) cD.nil))) OB.nil ?_
 repeat'(first|exact .nil|refine .k0 ?_|refine .k1 ?_|refine .k2 ?_|refine .k7 ?_|refine .k9 ?_|(refine .cd ?_ ?_<;>(intro hc;skip))|refine .r1 ?_ ?_|fail)
 all_goals(try simp only[BL]at *)
 ·rw[q7 (p:=fun x:aj=>decide (x.name=n)) (l:=fs) (k:=0) (i:=i) (fun j hj=>ZA (hp j hj)) (by omega) (Zd hc),Zl]
  exact Zw
 ·refine⟨fs.length-(i+1),by omega,_,_,Zr,Zs,i+1,by omega,rfl,dp hp hc,rfl,by rw[aO (by omega) hlen]⟩
 ·rw[q8 (fun y hy=>ZA (nQ (p:=fun y:aj=>¬y.name=n) (fun j hj=>hp j (by omega)) y hy))]
  exact Zw
theorem BG(p:aj→Bool):∀ (l:List aj) (k:Nat),(l.find? p=none∧firstIdx p l k= -1)∨∃ i:Nat,i<l.length∧firstIdx p l k=((k+i:Nat):Int)∧l.find? p=some (l.getD i default)
 |[],k=> .inl ⟨rfl,rfl⟩
 |x::l,k=>by
  unfold firstIdx
  by_cases h:p x=true
  ·exact .inr ⟨0,by simp,by simp[h],by simp[h]⟩
  ·rcases BG p l (k+1)with⟨h1,h2⟩|⟨i,h1,h2,h3⟩
   ·exact .inl ⟨by simp[h,h1],by simp[h,h2]⟩
   ·exact .inr ⟨i+1,by simpa using h1,by rw[Z6 h,h2];omega,by simp[h,h3]⟩
theorem ab6(fs:List aj)(n:ae)(h:findF fs n=none):Pure prog 84 [.sl false 18 (fs.map aj.cells),sv n] (.aE [.agg BB,.v (.bool false)]):=by
 have hi:=fun b c Y τ=>NT fs n b c Y τ
 have h2:firstIdx (fun x=>decide (x.name=n)) fs 0= -1:=by
  rcases BG (fun x=>decide (x.name=n)) fs 0 with⟨h1,h2⟩|⟨i,h3,h2,h1⟩
  ·exact h2
  ·unfold findF at h;rw[h]at h1;cases h1
 rw[h2]at hi
 refine Oc.p fun σ=> ?_
 repeat'(first|exact .nil|refine .k0 ?_|refine .k1 ?_|refine .k2 ?_|refine .r1 ?_ ?_|(refine .l1 ?_;intro b)|(refine .m1 ?_ ?_;intro b)|fail)
 all_goals(try simp only[BL]at *)
 refine A2 rfl (fun _=>hi _ _ _ _) OB.nil ?_
 repeat'(first|exact .nil|refine .k0 ?_|refine .k1 ?_|refine .k2 ?_|refine .k7 ?_|refine .k9 ?_|(refine .cd ?_ ?_<;>(intro hc;skip))|refine .r1 ?_ ?_|refine .t1 ?_ ?_ ?_|fail)
 try any_goals(exact Zo)
 all_goals(try simp only[BL]at *)
 all_goals first|(exfalso;omega)|((refine Sx.Fin.wk Zs ?_;repeat' first|exact .refl _|fail))|fail
theorem ab7(fs:List aj)(n:ae)(f:aj)(h:findF fs n=some f):Pure prog 84 [.sl false 18 (fs.map aj.cells),sv n] (.aE [.agg f.cells,.v (.bool true)]):=by
 have hi:=fun b c Y τ=>NT fs n b c Y τ
 obtain⟨i,h3,h2,h1⟩:∃ i:Nat,i<fs.length∧firstIdx (fun x=>decide (x.name=n)) fs 0=(i:Int)∧fs.getD i default=f:=by
  rcases BG (fun x=>decide (x.name=n)) fs 0 with⟨h1,h2⟩|⟨i,h3,h2,h1⟩
  ·unfold findF at h;rw[h]at h1;cases h1
  ·unfold findF at h;rw[h]at h1;cases h1;exact⟨i,h3,by rw[h2];omega,rfl⟩
 rw[h2]at hi
 subst h1
 refine Oc.p fun σ=> ?_
 repeat'(first|exact .nil|refine .k0 ?_|refine .k1 ?_|refine .k2 ?_|refine .r1 ?_ ?_|(refine .l1 ?_;intro b)|(refine .m1 ?_ ?_;intro b)|fail)
 all_goals(try simp only[BL]at *)
 refine A2 rfl (fun _=>hi _ _ _ _) OB.nil ?_
 repeat'(first|exact .nil|refine .k0 ?_|refine .k1 ?_|refine .k2 ?_|refine .k7 ?_|refine .k9 ?_|(refine .cd ?_ ?_<;>(intro hc;skip))|refine .r1 ?_ ?_|refine .t1 ?_ ?_ ?_|fail)
 try any_goals(exact Zo)
 all_goals(try simp only[BL]at *)
 all_goals first|(exfalso;omega)|((refine Sx.Fin.wk Zs ?_;repeat' first|exact .refl _|fail))|fail
theorem abM(c:az)(n:ae)(h:findF c.features n=none):Pure prog 55 [.agg c.cells,sv n] (.aE [.agg BB,.v (.bool false)]):=by
 refine Ob.p fun σ=> ?_
 repeat'(first|exact .nil|refine .k0 ?_|refine .k1 ?_|refine .k2 ?_|refine .k7 ?_|refine .r1 ?_ ?_|(refine .l1 ?_;intro b)|(refine .m1 ?_ ?_;intro b)|refine .an rfl (by intro aq;exact ab6 _ _ h) ?_ ?_|fail)
 all_goals(try simp only[BL]at *)
 all_goals first|((refine Sx.Fin.wk Zs ?_;repeat' first|exact .refl _|fail))|fail
theorem abN(c:az)(n:ae)(f:aj)(h:findF c.features n=some f):Pure prog 55 [.agg c.cells,sv n] (.aE [.agg f.cells,.v (.bool true)]):=by
 refine Ob.p fun σ=> ?_
 repeat'(first|exact .nil|refine .k0 ?_|refine .k1 ?_|refine .k2 ?_|refine .k7 ?_|refine .r1 ?_ ?_|(refine .l1 ?_;intro b)|(refine .m1 ?_ ?_;intro b)|refine .an rfl (by intro aq;exact ab7 _ _ _ h) ?_ ?_|fail)
 all_goals(try simp only[BL]at *)
 all_goals first|((refine Sx.Fin.wk Zs ?_;repeat' first|exact .refl _|fail))|fail
end Go.Proofs.YtomhopcnkicknaaGreatDoor
