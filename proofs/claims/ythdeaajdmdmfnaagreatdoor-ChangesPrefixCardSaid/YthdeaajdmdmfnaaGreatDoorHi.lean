/- Wide numbers: sums. -/
import Derived.Test.YthdeaajdmdmfnaaGreatDoorCd
import Derived.Laws.Externs
import Derived.Shelf.Spec.BitsCarry
import Derived.Test.YthdeaajdmdmfnaaGreatDoorGa
import Derived.Test.YthdeaajdmdmfnaaGreatDoorFa
import Derived.RegionTactic
import Derived.OwnWalk
import Derived.Test.YthdeaajdmdmfnaaGreatDoorHa
import Derived.Test.YthdeaajdmdmfnaaGreatDoorCo
import Derived.Sort.OwnSorted
import Derived.Lib.SliceRun
set_option linter.unusedSimpArgs false
set_option linter.unusedVariables false
set_option linter.unusedSectionVars false
set_option maxRecDepth 100000
set_option maxHeartbeats 4000000
namespace Go.Proofs.YthdeaajdmdmfnaaGreatDoor
open _root_.Go.Proofs.Tryz
open Go.RowKit Go.Proofs Go.Tb
theorem LW(x y c:Int)(hx:0≤x)(hy:0≤y)(kj:0≤c)(hc:c≤1)(w:World):(callFunc 385 #[.int .u64 x,.int .u64 y,.int .u64 c]).run prog w=
  .ok (.value (.tuple #[.int .u64 ((x+y+c) % 18446744073709551616),.int .u64 ((x+y+c) / 18446744073709551616)])) w:=by
 rw[run_callFunc_extern func385 (by kernel_rfl) (by kernel_rfl) (by kernel_rfl) (e:=add64Entry) (by kernel_rfl),run_add64 x y c hx hy kj hc]
 rfl
theorem Vx(x y:Int)(hx:0≤x)(hy:0≤y)(w:World):(callFunc 385 #[.int .u64 x,.int .u64 y,.int .u64 0]).run prog w=
  .ok (.value (.tuple #[.int .u64 ((x+y) % 18446744073709551616),.int .u64 ((x+y) / 18446744073709551616)])) w:=by
 rw[LW x y 0 hx hy (by omega) (by omega),Int.add_zero]
def gA(n:Int):Int:=n % 18446744073709551616
def jo(n:Int):Int:=if n<0 then -1 else 0
abbrev wv(n:Int):Value:= .agg #[.int .i64 (jo n),.int .u64 (gA n)]
theorem VB(n m:Int)(w:World)(hn: -1000≤n∧n≤1000)(hm: -1000≤m∧m≤1000):Calls prog 368 #[wv n,wv m] w fun e w'=>e= .returned (wv (n+m))∧Below w.heap.size w w':=by
 have h1:0≤gA n:=by unfold gA;omega
 have h2:0≤gA m:=by unfold gA;omega
 generalize Dh:gA n=ln at *
 generalize IA:gA m=lm at *
 generalize hhn:jo n=jq at *
 generalize hhm:jo m=Aj at *
 go_enter func368,ntmps368
 have e1:=Vx ln lm h1 h2
 have w1:0≤IntKind.u64.wrap jq:=by rw[IntKind.wrap_u64];omega
 have w2:0≤IntKind.u64.wrap Aj:=by rw[IntKind.wrap_u64];omega
 have e2:=LW (IntKind.u64.wrap jq) (IntKind.u64.wrap Aj) ((ln+lm) / 18446744073709551616) w1 w2 (by omega) (by rw[← Dh,← IA];unfold gA;omega)
 have xE:(ln+lm) % 18446744073709551616=gA (n+m):=by rw[← Dh,← IA];unfold gA;omega
 have Iq:IntKind.i64.wrap ((IntKind.u64.wrap jq+IntKind.u64.wrap Aj+(ln+lm) / 18446744073709551616) % 18446744073709551616)=jo (n+m):=by
  rw[← Dh,← IA,← hhn,← hhm,IntKind.wrap_u64,IntKind.wrap_u64,IntKind.wrap_i64]
  unfold gA jo
  split<;>split<;>split<;>omega
 go_wp2
 simp[bodyPost,results,Tryz.results368,go_sem,Iq]
 exact(((Below.refl _ w).alloc (ZX _) _).alloc (by simp) _).alloc (by simp;omega) _
theorem Ss(x y b:Int)(hx:0≤x)(hy:0≤y)(Pb:y<18446744073709551616)(uI:0≤b)(hb:b≤1)(w:World):(callFunc 411 #[.int .u64 x,.int .u64 y,.int .u64 b]).run prog w=
  .ok (.value (.tuple #[.int .u64 ((x-y-b) % 18446744073709551616),.int .u64 (if x<y+b then 1 else 0)])) w:=by
 obtain⟨X,rfl⟩:=Int.eq_ofNat_of_zero_le hx
 obtain⟨Y,rfl⟩:=Int.eq_ofNat_of_zero_le hy
 obtain⟨B,rfl⟩:=Int.eq_ofNat_of_zero_le uI
 rw[run_callFunc_extern func411 (by kernel_rfl) (by kernel_rfl) (by kernel_rfl) (e:=sub64Entry) (by kernel_rfl),run_sub64 X Y B (by omega)]
 have e1:(((X+18446744073709551616-Y-B) % 18446744073709551616:Nat):Int)=((X:Int)-Y-B) % 18446744073709551616:=by omega
 have e2:((if X<Y+B then 1 else 0:Nat):Int)=if(X:Int)<Y+B then 1 else 0:=by
  by_cases h:X<Y+B
  ·rw[ZV h,ZV (by omega)];rfl
  ·rw[Z7 h,Z7 (by omega)];rfl
 rw[e1,e2]
 rfl
theorem aii(n:Int)(w:World)(hn: -1000≤n∧n≤1000):Calls prog 386 #[wv n] w fun e w'=>e= .returned (.agg #[.int .u64 n.natAbs,.int .u64 0])∧Below w.heap.size w w':=by
 by_cases h0:n<0
 ·have hh:jo n= -1:=ZV h0
  have hl:gA n=n+18446744073709551616:=by unfold gA;omega
  have e1:=Ss 0 (n+18446744073709551616) 0 (by omega) (by omega) (by omega) (by omega) (by omega)
  rw[ZV (by omega),show((0:Int)-(n+18446744073709551616)-0) % 18446744073709551616=n.natAbs by omega]at e1
  have e2:=Ss 0 18446744073709551615 1 (by omega) (by omega) (by omega) (by omega) (by omega)
  rw[ZV (by omega),show((0:Int)-18446744073709551615-1) % 18446744073709551616=0 by omega]at e2
  have hw:IntKind.u64.wrap (-1)=18446744073709551615:=by rw[IntKind.wrap_u64];rfl
  rw[← hw]at e2
  clear hw
  show Calls prog 386 #[.agg #[.int .i64 (jo n),.int .u64 (gA n)]] w _
  rw[hh,hl]
  clear hh hl
  go_enter func386,ntmps386
  go_wp2
  simp[bodyPost,results,Tryz.results386,go_sem]
  rename_i a
  refine a _ _ ?_
  go_wp2
  simp[bodyPost,results,Tryz.results386,go_sem]
  rename_i a2 q k1 k0
  refine a2 _ _ ?_
  go_wp2
  simp[bodyPost,results,Tryz.results386,go_sem]
  exact(((((((Below.refl _ w).alloc (ZX _) _).alloc (by simp) _).alloc (by simp;omega) _).alloc (by simp;omega) _).alloc (by simp;omega) _).alloc (by simp;omega) _).alloc (by simp;omega) _
 ·have hh:jo n=0:=Z7 h0
  have hl:gA n=n.natAbs:=by unfold gA;omega
  show Calls prog 386 #[.agg #[.int .i64 (jo n),.int .u64 (gA n)]] w _
  rw[hh,hl]
  clear hh hl
  go_enter func386,ntmps386
  go_wp2
  simp[bodyPost,results,Tryz.results386,go_sem]
  exact((Below.refl _ w).alloc (ZX _) _).alloc (by simp) _
end Go.Proofs.YthdeaajdmdmfnaaGreatDoor
namespace Go.Proofs.YthdeaajdmdmfnaaGreatDoor
open _root_.Go.Proofs.Tryz
section
open Go.RowKit Go.Proofs Go.Tb
theorem aay(x:Int)(w:World)(hx:0≤x)(ef:x<18446744073709551616):Calls prog 387 #[.int .u64 0,.int .u64 x,.int .u64 1] w fun e w'=>e= .returned (.tuple #[.int .u64 x,.int .u64 0])∧Below w.heap.size w w':=by
 go_enter func387,ntmps387
 go_wp2
 go_region
 all_goals go_wp2
 all_goals go_ret2
 refine⟨?_,?_⟩
 ·rfl
 ·exact(Below.refl _ _).drew
end
open Go.Sx Go.Proofs Go.Tb
abbrev wA(n:Int):AV:= .agg [iv (jo n),.v (.int .u64 (gA n))]
theorem D4{M:Mem}{n:Int}{v:Value}(h:R M (wA n) v):v=wv n:=by
 obtain⟨cs,rfl,hl⟩:=h.oG
 obtain⟨a,as',rfl,h1,h2⟩:=hl.aX
 obtain⟨b,rfl,h3⟩:=h2.cJ
 rw[h1.ay,h3.ay]
theorem RE{M:Mem}(n:Int):R M (wA n) (wv n):= .agg _ [.int .i64 (jo n),.int .u64 (gA n)] rfl fun i h1 h2=>by
 match i with
 |0=>exact .v _
 |1=>exact .v _
theorem Vy{n m:Int}(hn: -1000≤n∧n≤1000)(hm: -1000≤m∧m≤1000):Pure prog 368 [wA n,wA m] (wA (n+m)):=
 Pure.vV fun M w0 w σ cs hI hR=>by
  obtain⟨a,as',rfl,h1,h2⟩:=hR.aX
  obtain⟨b,rfl,h3⟩:=h2.cJ
  rw[D4 h1,D4 h3]
  exact(VB n m w hn hm).mono fun e w' ⟨h,hb⟩=>⟨⟨_,h,RE _⟩,hb⟩
abbrev szA(n:Int):AV:= .agg [.v (.int .u64 n.natAbs),.v (.int .u64 0)]
theorem Se{n:Int}(hn: -1000≤n∧n≤1000):Pure prog 386 [wA n] (szA n):=
 Pure.vV fun M w0 w σ cs hI hR=>by
  obtain⟨a,rfl,h1⟩:=hR.cJ
  rw[D4 h1]
  exact(aii n w hn).mono fun e w' ⟨h,hb⟩=>⟨⟨_,h,.agg _ [.int .u64 n.natAbs,.int .u64 0] rfl fun i h1 h2=>by
   match i with
   |0=>exact .v _
   |1=>exact .v _⟩,hb⟩
theorem QR{n:Int}(hn: -1000≤n∧n≤1000):Pure prog 369 [iv n] (wA n):=by
 refine aen.p fun σ=> ?_
 repeat'(first|exact .nil|refine .k0 ?_|refine .k1 ?_|refine .k2 ?_|refine .k7 ?_|refine .r1 ?_ ?_|(refine .l1 ?_;intro b)|fail)
 all_goals(try simp only[BL]at *)
 ·decide
 ·rw[show n / 2 ^ Int.toNat 63=jo n by show n / 9223372036854775808=_;unfold jo;split<;>omega,show IntKind.u64.wrap n=gA n from IntKind.wrap_u64 n]
  exact Zw
theorem aax{x:Int}(hx:0≤x)(ef:x<18446744073709551616):Pure prog 387 [.v (.int .u64 0),.v (.int .u64 x),.v (.int .u64 1)] (.bo [.v (.int .u64 x),.v (.int .u64 0)]):=
 Pure.vV fun M w0 w σ cs hI hR=>by
  obtain⟨a,as',rfl,h1,h2⟩:=hR.aX
  obtain⟨b,bs',rfl,h3,h4⟩:=h2.aX
  obtain⟨c,rfl,h5⟩:=h4.cJ
  rw[h1.ay,h3.ay,h5.ay]
  exact(aay x w hx ef).mono fun e w' ⟨h,hb⟩=>⟨⟨_,h,.bo _ [.int .u64 x,.int .u64 0] rfl fun i h1 h2=>by
   match i with
   |0=>exact .v _
   |1=>exact .v _⟩,hb⟩
theorem TL{x i:Operand}{ty:TypeId}{a b:Int}:jC prog (.index 415 x i) ty [] [x,i] [.agg [.v (.int .u64 a),.v (.int .u64 b)],.v (.int .i64 0)] (.v (.int .u64 a)):=⟨fun σ bx M w0 w ρ hI hR=>by
 obtain⟨v1,cq,e1,h1,bY⟩:=hR.aX
 obtain⟨v2,e2,h2⟩:=bY.cJ
 subst e2
 simp only[Zv,YT,Z2,Zn]at e1
 obtain⟨cs,rfl,hl⟩:=h1.oG
 obtain⟨p,ps,rfl,g1,g2⟩:=hl.aX
 obtain⟨q,rfl,g3⟩:=g2.cJ
 have hu:=underlying415
 have h64:=underlying147
 refine⟨.value (.int .u64 a),w,M,.v (.int .u64 a),.int .u64 a,σ,?_,rfl,Mem.le.refl _,hI,.v _,rfl,rfl⟩
 simp[execOp,e1.1,e1.2,Instr.index,asIntOf,h2.ay,g1.ay,aW hu,part,isAgg,aW h64]⟩
theorem aaz{n:Int}(hn: -1000≤n∧n≤1000):Pure prog 371 [wA n,iv 1] (.bo [iv n,.v (.bool true)]):=by
 have hS:=Se hn
 have xm:=QR (n:=1) (by omega)
 have uE:=Se (n:=1) (by omega)
 have hD:=aax (x:=n.natAbs) (by omega) (by omega)
 refine aeo.p fun σ=> ?_
 repeat'(first|exact .nil|refine .k0 ?_|refine .k1 ?_|refine .k2 ?_|refine .k7 ?_|refine .k9 ?_|(refine .cd ?_ ?_<;>(intro hc;skip))|refine .r1 ?_ ?_|(refine .m1 ?_ ?_;intro b)|refine .an rfl (by intro aI;first|exact hS|exact xm|exact uE|fail) ?_ ?_|fail)
 all_goals(try simp only[BL]at *)
 ·exact absurd hc (by decide)
 refine yV rfl (fun _=>TL) OB.nil ?_
 repeat'(first|exact .nil|refine .k0 ?_|refine .k1 ?_|refine .k2 ?_|refine .k4 ?_|refine .k7 ?_|refine .k9 ?_|(refine .cd ?_ ?_<;>(intro hc;first|exact kt hc (by assumption)|skip))|refine .r1 ?_ ?_|(refine .l1 ?_;intro b)|refine .an rfl (by intro aI;exact hD) ?_ ?_|fail)
 ·exact⟨by decide,by decide⟩
 ·exact absurd hc (by decide)
 ·exact⟨by decide,by decide⟩
 ·exact⟨by decide,by decide⟩
 ·intro _;decide
 ·have:=XK hc;omega
 ·have aw:n<0:=by
   by_cases h:n<0
   ·exact h
   ·rw[show jo n=0 from Z7 h]at hc;exact absurd hc (by decide)
  rw[dN (n:=(n.natAbs:Int)) (by omega),dN (by omega),show(0:Int)-n.natAbs=n by omega]
  exact Zw
 ·have aw:0≤n:=by
   by_cases h:n<0
   ·rw[show jo n= -1 from ZV h]at hc;exact absurd hc (by decide)
   ·omega
  rw[dN (n:=(n.natAbs:Int)) (by omega),show(n.natAbs:Int)=n by omega]
  exact Zw
end Go.Proofs.YthdeaajdmdmfnaaGreatDoor
set_option maxHeartbeats 1000000
namespace Go.Sx
open Go.RowKit
section
variable {P:Program}[Glob P]{N:Nat}{cfg:Nat→Nat}{rg:ag}{σ:Store}
def Fl(P:Program)[Glob P](cfg:Nat→Nat)(K:ag→Store→Prop)(c:CI)(l2:List CI)(rg:ag)(σ:Store):Prop:=∃ x,QV P cfg c rg σ x∧cZ P cfg [] (bare l2) (Cl K) (bz c.d x rg) σ
theorem TZ{l1 l2:List CI}{c:CI}{Q:Exit→ag→Store→Prop}(cfg:Nat→Nat)(bV:c.op.cls≤1)(h:cZ P cfg [] (bare l1) (Fl P cfg (Q .normal) c l2) rg σ):SW P N (.c8 (l1++c::l2)) Q rg σ:=by
 refine yT (wH cfg fun hc=> ?_)
 obtain⟨xs,h1,⟨bu,⟨x,hq,hv⟩,h3⟩,h4⟩:=KV l1 rg rg (fun _=>rfl) (fun c h=>hc c (by simp[h])) h
 have uN:=yC l1 rg (fun c h=>hc c (by simp[h])) h
 have abY:=yC l2 _ (fun c h=>hc c (by simp[h])) hv
 have oh:QV P cfg c (dA l1 xs rg) σ x:=uc (fun t _=>h3 t) hq
 obtain⟨ys,g1,⟨fg,k1,k2⟩,g3⟩:=yB l2 _ (bz c.d x (dA l1 xs rg)) (x4 h3 c.d x) (fun c h=>hc c (by simp[h])) hv
 refine⟨⟨xs++x::ys,by simp[h1,g1],⟨fg,k1,fun i=> ?_⟩,fun i h h'=> ?_⟩,fun c' gb=> ?_⟩
 ·rw[A8 _ _ _ _ _ h1];exact k2 i
 ·rcases X4 i l1.length with hi|hi|hi
  ·have:=h4 i hi (by omega)
   simp only[Yf hi,Yf (show i<xs.length by omega),Za (show i≤l1.length by omega),Za (show i≤xs.length by omega)]
   exact this
  ·subst hi
   have hz:=h'
   have e1:(l1++c::l2)[l1.length]=c:=by simp
   have e2:(xs++x::ys)[l1.length]'hz=x:=by simp[← h1]
   have e3:(l1++c::l2).take l1.length=l1:=by simp
   have e4:(xs++x::ys).take l1.length=xs:=by rw[← h1];simp
   rw[e1,e2,e3,e4]
   exact oh
  ·obtain⟨m,hm⟩:∃ m,i=l1.length+1+m:=⟨i-(l1.length+1),by omega⟩
   subst hm
   have OI:m<l2.length:=by simp at h;omega
   have hz:=h'
   have hmy:m<ys.length:=by omega
   have e1:(l1++c::l2)[l1.length+1+m]=l2[m]:=by
    rw[YM (by omega)]
    simp only[show l1.length+1+m-l1.length=m+1 by omega,XM]
   have e2:(xs++x::ys)[l1.length+1+m]'hz=ys[m]:=by
    rw[YM (by omega)]
    simp only[show l1.length+1+m-xs.length=m+1 by omega,XM]
   have e3:(l1++c::l2).take (l1.length+1+m)=l1++c::l2.take m:=by
    rw[List.take_append,Zq (by omega),show l1.length+1+m-l1.length=m+1 by omega];rfl
   have e4:(xs++x::ys).take (l1.length+1+m)=xs++x::ys.take m:=by
    rw[List.take_append,Zq (by omega),show l1.length+1+m-xs.length=m+1 by omega];rfl
   rw[e1,e2,e3,e4,A8 _ _ _ _ _ h1]
   exact g3 m OI hmy
 ·rcases Zy.1 gb with hm|hm
  ·exact uN c' hm
  ·rcases ZK.1 hm with rfl|hm
   ·exact bV
   ·exact abY c' hm
end
section
variable {P:Program}[Glob P]{N:Nat}{cfg:Nat→Nat}{Q:Exit→ag→Store→Prop}{rg:ag}{σ:Store}{k:List Fr}{xr:XR}
theorem Vi(d:Nat){l l1 l2:List CI}{s:CI}(hl:Bm d l=some (l1,s,l2))(hs:Nat.ble s.op.cls 1=true)(hx:toXO rg=some xr)
  (h:VY P cfg [] (bare l1) (Fl P cfg (FK P N cfg Q .normal k) s l2) xr σ):WK P N cfg Q (.c8 l) k rg σ:=by
 have e:=Sh hl
 subst e
 refine⟨WA.mono (Q:=fun e=>FK P N cfg Q e k) ⟨rfl,TZ cfg (ZF hs) ?_⟩ fun _ _ _ h=>h.h⟩
 have:=h.h
 rw[← yv hx,w7]at this
 exact this
end
end Go.Sx
namespace Go.Proofs.YthdeaajdmdmfnaaGreatDoor
open _root_.Go.Proofs.Tryz
open Go.Sx Go.Proofs Go.Tb Go.RowKit
def dP:List (af×Int)→af→Int
 |[],_=>0
 |p::es,s=>if p.1=s then p.2 else dP es s
def iW:List (af×Int)→af→Int→List (af×Int)
 |[],s,v=>[(s,v)]
 |p::es,s,v=>if p.1=s then(s,v)::es else p::iW es s v
def wE(es:List (af×Int)):List (Value×Nat×AV):=es.zipIdx.map fun p=>(.string p.1.1,p.2,wA p.1.2)
theorem EZ(es:List (af×Int)):(wE es).map (fun e=>(e.1,e.2.1))=es.zipIdx.map fun q=>(Value.string q.1.1,q.2):=by unfold wE;rw[Yg];rfl
theorem E0(es:List (af×Int)):(wE es).map (·.2.2)=es.map fun p=>wA p.2:=by
 unfold wE
 rw[Yg]
 refine XW (by simp) fun j h1 h2=>by simp
theorem ajw(es:List (af×Int))(p:af×Int):wE es++[(.string p.1,es.length,wA p.2)]=wE (es++[p]):=by
 unfold wE;rw[List.zipIdx_append];simp
theorem La(s:af):∀ (es:List (af×Int)) (l:List MapEntry) (k0 i:Nat),l.map (fun e=>(e.key,e.born))=(es.zipIdx k0).map (fun q=>(Value.string q.1.1,q.2))→
  (Instr.findNow .string (.string s) l i=some none∧dP es s=0∧∀ v,iW es s v=es++[(s,v)])∨
  ∃ j,∃ hj:j<es.length,∃ dK:j<l.length,Instr.findNow .string (.string s) l i=some (some (i+j,l[j].val))∧es[j].1=s∧dP es s=es[j].2∧l[j].key= .string s∧∀ v,iW es s v=es.set j (s,v)
 |[],l,k0,i,h=>by
  have:l=[]:=by simpa using h
  subst this
  exact .inl ⟨rfl,rfl,fun _=>rfl⟩
 |p::es,l,k0,i,h=>by
  cases l with
  |nil=>simp at h
  |cons e l=>
   simp only[List.zipIdx_cons,Zv,Z2,YW]at h
   have sM:Instr.sameNow .string (.string s) e.key=some (decide (s=p.1)):=by
    rw[h.1.1]
    show some (s == p.1)=_
    rw[Ky]
   by_cases hp:s=p.1
   ·subst hp
    refine .inr ⟨0,by simp,by simp,?_,rfl,by simp[dP],h.1.1,fun v=>by simp[iW]⟩
    simp only[Instr.findNow,sM,decide_true,Ym,Yx]
   ·have lV:¬p.1=s:=fun e=>hp e.symm
    rcases La s es l (k0+1) (i+1) h.2 with⟨a1,a2,a3⟩|⟨j,hj,dK,a1,a2,a3,a4,a5⟩
    ·refine .inl ⟨?_,by simp[dP,lV,a2],fun v=>by simp[iW,lV,a3]⟩
     simp only[Instr.findNow,sM,Zh hp]
     exact a1
    ·refine .inr ⟨j+1,by simp;omega,by simp;omega,?_,by simpa using a2,by simp[dP,lV,a3],by simpa using a4,fun v=>by simp[iW,lV,a5]⟩
     simp only[Instr.findNow,sM,Zh hp]
     rw[a1,show i+1+j=i+(j+1) by omega];simp
theorem ajV(w:World):(zeroValue 398).run prog w= .ok (wv 0) w:=by
 have h:(prog.info? 398).map (fun i=>i.zero)=some (some (wv 0)):=by kernel_rfl
 obtain⟨i,h1,h2⟩:=Z9.1 h
 simp[zeroValue,typeInfo,h1,h2]
theorem E7(w:World)(b:Bool)(s:af):(Instr.checkKey b 10000 9 (.string s)).run prog w= .ok () w:=
 Sx.run_checkKey (n:=9999) (q:= .str) (kd:= .string) rfl underlying9
section
variable {M:Mem}{w0:Base}{w:World}{σ:Store}
theorem Lv{tg b bX:Nat}{es:List (af×Int)}{t ty:TypeId}{q:TI}{m k:Operand}{s:af}(hl:aV σ tg=some (b,.map (wE es) bX)):
  fC prog (.lookup t m k false) ty [.mp 9 398,q] [m,k] [.bD tg b,sv s] σ fun y σ'=>y=wA (dP es s)∧σ'=σ:=by
 intro bx M w0 w ρ hI hR
 simp only[ei,Z2,Zn]at bx
 have ht:=tL bx.1
 have hk:=underlying9
 obtain⟨v1,cq,e1,h1,bY⟩:=hR.aX
 obtain⟨v2,e2,h2⟩:=bY.cJ
 subst e2
 simp only[Zv,YT,Z2,Zn]at e1
 obtain⟨hM,l,hh,fJ,gu⟩:=hI.qp hl
 have g1:=h1.pN
 have g2:=h2.ay
 subst g1 g2
 rw[EZ]at fJ
 rw[E0]at gu
 rcases La s es l 0 0 fJ with⟨a1,a2,a3⟩|⟨j,hj,dK,a1,a2,a3,a4,a5⟩
 ·refine⟨.value (wv 0),w,M,wA (dP es s),wv 0,σ,?_,rfl,Mem.le.refl _,hI,by rw[a2];exact RE 0,rfl,rfl⟩
  simp only[execOp,e1.1,e1.2,Instr.lookup,Sem.run_bind,aW ht,Result.andThen_ok,getObj,Sem.run,hh,E7,Instr.findKey,aW hk,a1,Sem.run_pure,ajV]
  rfl
 ·refine⟨.value l[j].val,w,M,wA (dP es s),l[j].val,σ,?_,rfl,Mem.le.refl _,hI,?_,rfl,rfl⟩
  ·simp only[execOp,e1.1,e1.2,Instr.lookup,Sem.run_bind,aW ht,Result.andThen_ok,getObj,Sem.run,hh,E7,Instr.findKey,aW hk,a1,Sem.run_pure]
   rfl
  ·have:=gu.2 j (by simpa using hj) (by simpa using dK)
   rw[a3]
   simpa using this
theorem ajG(w:World)(s:af):(Instr.keyThatStays (.string s) (.string s)).run prog w= .ok (.string s) w:=by
 simp[Instr.keyThatStays,Instr.sameBits,Ky]
theorem TV{tg b:Nat}{es:List (af×Int)}{t ty:TypeId}{q:TI}{m k x:Operand}{s:af}{v:Int}(hl:aV σ tg=some (b,.map (wE es) es.length)):
  fC prog (.mapUpdate t m k x) ty [.mp 9 398,q] [m,k,x] [.bD tg b,sv s,wA v] σ fun y σ'=>y= .v undef∧σ'=du σ tg b (.map (wE (iW es s v)) (iW es s v).length):=by
 intro bx M w0 w ρ hI hR
 simp only[ei,Z2,Zn]at bx
 have ht:=tL bx.1
 have hk:=underlying9
 obtain⟨v1,cq,e1,h1,bY⟩:=hR.aX
 obtain⟨v2,oP,e2,h2,dM⟩:=bY.aX
 obtain⟨v3,e3,h3⟩:=dM.cJ
 subst e3 e2
 simp only[Zv,YT,Z2,Zn]at e1
 obtain⟨hM,l,hh,fJ,gu⟩:=hI.qp hl
 have g1:=h1.pN
 have g2:=h2.ay
 subst g1 g2
 have aw:b<w.heap.size:=(Z6.1 hh).1
 have ace:=fJ
 have acH:=gu
 rw[EZ]at fJ
 rw[E0]at gu
 rcases La s es l 0 0 fJ with⟨a1,a2,a3⟩|⟨j,hj,dK,a1,a2,a3,a4,a5⟩
 ·let w':World:={w with heap:=w.heap.setIfInBounds b (.map (l++[(⟨.string s,v3,es.length⟩:MapEntry)]).toArray (es.length+1))}
  refine⟨.skip,w',M,.v undef,undef,_,?_,rfl,Mem.le.refl _,?_,.v _,rfl,rfl⟩
  ·have hu:l.toArray.push (⟨.string s,v3,es.length⟩:MapEntry)=(l++[(⟨.string s,v3,es.length⟩:MapEntry)]).toArray:=by apply Yw;simp
   simp only[execOp,e1.1,e1.2.1,e1.2.2,Instr.mapUpdate,Sem.run_bind,aW ht,Result.andThen_ok,getObj,Sem.run,hh,E7,Instr.findKey,aW hk,a1,Sem.run_pure,setObj,hu]
   rfl
  ·rw[a3,Z4,YB,← ajw]
   refine hI.yA (w':=w') (y:= .map (wE es++[(.string s,es.length,wA v)]) (es.length+1)) hl (fun k hk=> ?_) rfl rfl rfl (by simp[w']) hM ⟨hM,l++[⟨.string s,v3,es.length⟩],?_,?_,?_⟩
   ·simp only[w']
    rw[YH (fun e=>hk e.symm)]
   ·simp only[w']
    rw[XG aw]
   ·simp[ace]
   ·simp only[YZ,Zv,YT]
    exact RL.append acH (RL.cons h3 RL.nil)
 ·let f:MapEntry→MapEntry:=fun e=>{e with key:= .string s,val:=v3}
  let w':World:={w with heap:=w.heap.setIfInBounds b (.map (l.modify j f).toArray es.length)}
  refine⟨.skip,w',M,.v undef,undef,_,?_,rfl,Mem.le.refl _,?_,.v _,rfl,rfl⟩
  ·have hu:l.toArray.modify j f=(l.modify j f).toArray:=by simp
   have OD:(l.toArray[j]?.map (·.key)).getD (.string s)= .string s:=by
    rw[XL,Z1 dK];exact a4
   simp only[execOp,e1.1,e1.2.1,e1.2.2,Instr.mapUpdate,Sem.run_bind,aW ht,Result.andThen_ok,getObj,Sem.run,hh,E7,Instr.findKey,aW hk,a1,Sem.run_pure,setObj,ZH,OD,ajG,hu]
   show Result.ok Next.skip ({w with heap:=w.heap.setIfInBounds b (.map (l.toArray.modify j f) es.length)}:World)=_
   rw[hu]
  ·rw[a5,Xv]
   refine hI.yA (w':=w') (y:= .map (wE (es.set j (s,v))) es.length) hl (fun k hk=> ?_) rfl rfl rfl (by simp[w']) hM ⟨hM,l.modify j f,?_,?_,?_⟩
   ·simp only[w']
    rw[YH (fun e=>hk e.symm)]
   ·simp only[w']
    rw[XG aw]
   ·rw[EZ]
    refine XW ?_ fun i g1 g2=> ?_
    ·have:=Zd List.length fJ;simpa using this
    ·have h6:i<l.length:=by simpa using g1
     have h7:i<es.length:=by simpa using g2
     have h5:=Zd (fun x=>x[i]?) fJ
     simp[h6,h7]at h5
     simp only[Zu,List.getElem_modify,List.getElem_zipIdx,List.getElem_set,ZH]
     by_cases gd:j=i
     ·subst gd
      simp[f,h5.2]
     ·simp[gd,h5.1,h5.2]
   ·rw[E0]
    refine⟨?_,fun i g1 g2=> ?_⟩
    ·have:=gu.1;simpa using this
    ·have h6:i<l.length:=by simpa using g2
     have h7:i<es.length:=by simpa using g1
     have h5:=gu.2 i (by simpa using h7) (by simpa using h6)
     simp only[Zu,List.getElem_modify,List.getElem_set]at h5 ⊢
     by_cases gd:j=i
     ·subst gd
      simpa[f]using h3
     ·simpa[gd]using h5
end
section
variable {cfg:Nat→Nat}{K:ag→Store→Prop}{E:List PanicEntry→Store→Prop}{σ σ':Store}{l:List CI}{d:Nat}{xr:XR}{ps:List Prop}{og:Option Bool}
theorem Up{t:TypeId}{q:TI}{ty:TypeId}{m k:Operand}{tg b b' bX:Nat}{es:List (af×Int)}{s:af}(h:aS xr none [m,k]=some (og,[.bD tg b,sv s],ps))(hl:aV σ tg=some (b',.map (wE es) bX))(hb:b=b')(hps:OB ps)
  (kk:VX prog cfg l K E ((d,.s (wA (dP es s)))::xr) σ):VX prog cfg (⟨some d,.cu (.lookup t m k false) ty [.mp 9 398,q] [m,k],none⟩::l) K E xr σ:=by
 obtain⟨hc,he⟩:=cM h
 have dy:=rN h
 subst dy
 subst hb
 constructor
 simp only[fh,cK,aj,he hps rfl]
 refine(Lv hl).mono fun y s ⟨e1,e2⟩=> ?_
 subst e1 e2
 exact kk.h
theorem UB{t:TypeId}{q:TI}{ty:TypeId}{m k x:Operand}{tg b b':Nat}{es:List (af×Int)}{s:af}{v:Int}(h:aS xr none [m,k,x]=some (og,[.bD tg b,sv s,wA v],ps))(hl:aV σ tg=some (b',.map (wE es) es.length))(hb:b=b')(hu:tP σ tg b (.map (wE (iW es s v)) (iW es s v).length)=some σ')(hps:OB ps)
  (kk:VX prog cfg l K E xr σ'):VX prog cfg (⟨none,.exts (.mapUpdate t m k x) ty [.mp 9 398,q] [m,k,x],none⟩::l) K E xr σ:=by
 obtain⟨hc,he⟩:=cM h
 have dy:=rN h
 subst dy
 subst hb
 constructor
 simp only[fh,cK,aj,he hps rfl]
 refine(TV hl).mono fun y s ⟨e1,e2⟩=> ?_
 rw[Bt hu]at e2
 subst e1 e2
 exact kk.h
theorem UY{t:TypeId}{q:TI}{ty:TypeId}{m k:Operand}{tg b b' bX:Nat}{es:List (af×Int)}{s:af}{l2:List CI}(h:aS xr none [m,k]=some (og,[.bD tg b,sv s],ps))(hl:aV σ tg=some (b',.map (wE es) bX))(hb:b=b')(hps:OB ps)
  (kk:VY prog cfg [] (bare l2) (Cl K) ((d,.s (wA (dP es s)))::xr) σ):VY prog cfg [] [] (Fl prog cfg K ⟨some d,.cu (.lookup t m k false) ty [.mp 9 398,q] [m,k],none⟩ l2) xr σ:=by
 obtain⟨hc,he⟩:=cM h
 have dy:=rN h
 subst dy
 subst hb
 refine⟨wA (dP es s),?_,kk.h⟩
 unfold QV
 simp only[cK,aj,he hps rfl]
 exact Lv hl
end
end Go.Proofs.YthdeaajdmdmfnaaGreatDoor
set_option maxHeartbeats 4000000
namespace Go.Proofs.YthdeaajdmdmfnaaGreatDoor
open _root_.Go.Proofs.Tryz
section
open Go.RowKit Go.Proofs Go.Tb Go.Maps Go.Sort
def oQ(v:Value):Option (DataW Unit×List MemPlace):=match v with
 | .agg cs=>match cs.toList with
  |[.int .i64 h,.int .u64 l]=>some (.agg [.lit (.int .i64 h),.lit (.int .u64 l)],[])
  |_=>none
 |_=>none
def Td(c:Int×Int):Value:= .agg #[.int .i64 c.1,.int .u64 c.2]
theorem ajy{v:Value}{y:DataW Unit×List MemPlace}(h:oQ v=some y):∃ c,v=Td c:=by
 unfold oQ at h
 split at h
 ·rename_i cs
  split at h
  ·rename_i hh ll e
   exact⟨(hh,ll),Zd Value.agg (by apply Yw;simpa using e)⟩
  ·cases h
 ·cases h
theorem aip{w:World}{b n:Nat}{D:DataW Unit}(dt:w.ownsMap prog 9 oQ b n D)(qA:Maps.size D≤1000):Calls prog 370 #[.map (some b)] w fun e w'=>
  ∃ (v:Value) (ss:List (List UInt8)),e= .returned v∧ss.Perm (strKeys D)∧w'.ownsRow w.heap.size 9 1 v ss.length ((ss.mergeSort (fun x y=>decide (x≤y))).map encStr)∧Below w.heap.size w w':=by
 obtain⟨i0,hi,dR,jT,gy⟩:=info_parts Sl
 have kh:=dt.lt
 go_enter func370,ntmps370
 go_wp2_with (at_range;refine wpList_range_own _ rfl _ 396 rfl 9 398 (string_keyed underlying9) underlying396 _ b n _ rfl dt ?_;intro w0 Dn Dc js)
 go_frame
 go_loopw [3] (fun v wr=>∃ (left:Lit→Bool) (bJ:Nat) (ss:List (List UInt8)),wr.ranges prog 9 oQ b w.heap.size n D left bJ∧ss.length+bJ≤Maps.size D∧wr.ownsRow w.heap.size 9 1 v ss.length (ss.map encStr)∧Collected D left ss∧Below w.heap.size w wr) (fun _ wr=>wr.rangeLeft b w.heap.size)
 case atStart=>exact⟨_,_,[],Dn,by simp,⟨by simp,.inl ⟨rfl,rfl⟩⟩,Collected.start D,(Below.refl _ _).grown Dc (ZX _) (fun j hj=>by cases hj)⟩
 obtain⟨left,bJ,ss,uZ,bK,iu,hC,kz⟩:=hrel
 go_wp2_with (at_next;refine wpList_next_ranges _ rfl _ rfl 9 (string_keyed underlying9) oQ encStr Td (fun key kl hk=>by obtain⟨x,hx,_⟩:=Maps.keyOf_str underlying9 hk;exact⟨x,hx⟩) (fun v y hv=>ajy hv) b w.heap.size n _ _ _ rfl uZ ?_ ?_)
 ·intro kj kV
  rcases iu.2 with⟨iq,IC⟩|⟨g,cap,cur,rfl,pk,hb,h1,h2,h3,h4⟩
  ·subst iq
   have pF:ss=[]:=Zt IC
   subst pF
   have hc:Calls prog 184 #[.slice none 0 0] wr _:=AnyM.slices_Sort_string_none Tryz.sort184 none 0 wr
   go_wp2_with (go_at_call 184;refine hc.mono ?_;rintro e w' ⟨rfl,rfl⟩)
   go_ret
   exact⟨_,[],rfl,hC.perm dt (string_keyed underlying9) underlying9 kV,(by rw[List.mergeSort_nil];exact iu),kz⟩
  ·have hH:Holds encStr wr g 0 ss.toArray:=holds_of_block hb (by simpa using h4)
   have hgl:g<wr.heap.size:=(Z6.1 hb).1
   have hc:Calls prog 184 #[.slice (some ⟨g,0,none⟩) ss.length cap] wr _:=AnyM.slices_Sort_string Tryz.sort184 g 0 cap ss wr hH hgl (by omega)
   go_wp2_with (go_at_call 184;refine hc.mono ?_;rintro e w' ⟨rfl,nn,os,rfl⟩)
   go_ret
   exact⟨_,ss,rfl,hC.perm dt (string_keyed underlying9) underlying9 kV,ownsRow_sorted (by simp) pk hb h1 h2 h3,kz.grown (grownBy_sorted _) kz.size (fun j hj=>by cases hj;exact pk)⟩
 ·intro x c1 c2 kl yd yp w2 Xg Ah Ai hv ke OV aw nW eL uQ
  obtain⟨x',ex,rfl,_⟩:=Maps.keyOf_str underlying9 Ah
  obtain rfl:x=x':=encStr_inj ex
  have Dp:=iu.kept nW (Or.inr (row_ne_iter iu uZ).symm)
  clear eL
  go_wp2_with (at_builtin;refine wpList_append_own _ rfl _ _ 87 rfl w.heap.size 9 i0 (.string ⟨#[]⟩) 1 16 underlying87 hi dR jT gy rfl (by decide) _ _ _ rfl (Dp.alloc _) ⟨w2.heap.size,0,none⟩ 1 1 [encStr x] rfl rfl (cell_one_new _ _ _) (by simp[Value.oneCell',encStr]) (by unfold maxLen at *;omega) (by omega) (by have:=kz.size;have:=nW.size;simp;omega) ?_;intro v' w3 acr pq akb;go_frame)
  have OW:=(OV.alloc _).kept pq (row_ne_low Dp kh) (row_ne_iter Dp OV)
  go_roundw
  case rel=>
   refine⟨_,Xg,ss++[x],OW,by simp;omega,by simpa using acr,hC.step Ai ke,?_⟩
   exact((kz.grown nW kz.size (fun j hj=>by cases hj;exact ZX _)).alloc (by have:=kz.size;have:=nW.size;omega) _).grown pq (by have:=kz.size;have:=nW.size;simp;omega) (fun j hj=>(Dp.lt j hj).1)
  case measure=>rw[OW.left_eq,uZ.left_eq];exact aw
end
section
open Go.Sx Go.Proofs Go.Tb Go.RowKit Go.Maps
theorem ajz{n:Int}:oQ (wv n)=some (.agg [.lit (.int .i64 (jo n)),.lit (.int .u64 (gA n))],[]):=rfl
theorem aju{M:Mem}{l:List MapEntry}{es:List (af×Int)}(hk:l.map (fun e=>(e.key,e.born))=(wE es).map (fun e=>(e.1,e.2.1)))(hv:RL M ((wE es).map (·.2.2)) (l.map (·.val))):l.length=es.length∧∀ i (h:i<l.length) (h':i<es.length),l[i].key= .string es[i].1∧l[i].born=i∧l[i].val=wv es[i].2:=by
 rw[EZ]at hk
 rw[E0]at hv
 refine⟨by have:=Zd List.length hk;simpa using this,fun i h h'=> ?_⟩
 have h5:=Zd (fun x=>x[i]?) hk
 simp[h,h']at h5
 have h6:=hv.2 i (by simpa using h') (by simpa using h)
 simp only[Zu]at h6
 exact⟨h5.1,h5.2,D4 h6⟩
theorem K3{e:MapEntry}{s:af}{n:Int}(g1:e.key= .string s)(g3:e.val=wv n)(g4:s.size≤maxLen):WideElems.rd prog 9 oQ e=some (ky s,.agg [.lit (.int .i64 (jo n)),.lit (.int .u64 (gA n))]):=by
 unfold WideElems.rd
 simp only[g1,g3,WideMaps.keyOf_string_mk underlying9 g4,Option.bind_some,ajz,ZJ]
 rfl
theorem ajv{l:List MapEntry}{es:List (af×Int)}(hlen:l.length=es.length)(ke:∀ i (h:i<l.length) (h':i<es.length),l[i].key= .string es[i].1∧l[i].born=i∧l[i].val=wv es[i].2)(hn:(es.map Prod.fst).Nodup)(hs:∀ p∈es,p.1.size≤maxLen)(hl:es.length≤1000):
  WideElems.Fit prog 9 oQ l.toArray es.length:=by
 refine⟨by simp;unfold maxLen;omega,⟨fun x hx=> ?_,?_,?_⟩,fun x hx=> ?_⟩
 ·obtain⟨i,hi,rfl⟩:=YR.1 hx
  have cD:i<l.length:=by simpa using hi
  simp only[]
  rw[(ke i cD (by omega)).2.1];omega
 ·have e:l.toArray.toList.map (fun x=>x.born)=List.range es.length:=by
   refine XW (by simp[hlen]) fun i h1 h2=> ?_
   have cD:i<l.length:=by simpa using h1
   simp[(ke i cD (by omega)).2.1]
  rw[e];exact List.nodup_range
 ·have e:l.toArray.toList.map (fun x=>x.key)=(es.map Prod.fst).map Value.string:=by
   refine XW (by simp[hlen]) fun i h1 h2=> ?_
   have cD:i<l.length:=by simpa using h1
   simp[(ke i cD (by omega)).1]
  rw[e]
  exact List.pairwise_map.2 (hn.imp fun h e=>h (by injection e))
 ·obtain⟨i,hi,rfl⟩:=YR.1 hx
  have cD:i<l.length:=by simpa using hi
  obtain⟨g1,g2,g3⟩:=ke i cD (by omega)
  exact⟨_,K3 g1 g3 (hs es[i] (Zf (by omega)))⟩
theorem aio{σ:Store}{tg b:Nat}{es:List (af×Int)}(hl:aV σ tg=some (b,.map (wE es) es.length))(hn:(es.map Prod.fst).Nodup)(hs:∀ p∈es,p.1.size≤maxLen)(hz:es.length≤1000):
  Sx.Spec prog 370 [.bD tg b] σ fun r σ'=>r= .ret (EG (kH (es.map Prod.fst)))∧σ'=σ:=by
 intro M w0 w cs hI hR
 obtain⟨v,rfl,h1⟩:=RL.cJ hR
 have g1:=h1.pN
 subst g1
 obtain⟨hM,l,hh,fJ,gu⟩:=hI.qp hl
 obtain⟨hlen,ke⟩:=aju fJ gu
 have hF:=ajv hlen ke hn hs hz
 have dt:=World.ownsMap_of_fit (R:=oQ) hh hF (fun x _ z h=>h)
 have bg:=dt.size_le
 have Ax:l.toArray.size≤1000:=by simp;omega
 refine(aip dt (by omega)).mono fun e w' ⟨v,ss,he,hp,iu,hb⟩=> ?_
 have hk:∀ s:af,s.size≤maxLen→has (DataW.map (List.foldr DataW.insert [] (List.map (WideElems.rg prog 9 oQ) l.toArray.toList))) (ky s)=decide (s∈es.map Prod.fst):=fun s om=>by
  rw[YN,has_eq,Yp,decide_eq_true_iff]
  constructor
  ·rintro⟨p,hp,acw⟩
   rw[mem_sorted]at hp
   obtain⟨x,hx,rfl⟩:=Zi.1 hp
   obtain⟨i,hi,rfl⟩:=YR.1 hx
   have cD:i<l.length:=by simpa using hi
   obtain⟨g1,g2,g3⟩:=ke i cD (by omega)
   have oj:=K3 g1 g3 (hs es[i] (Zf (by omega)))
   have e:=WideAt.sameKey_eq acw
   unfold WideElems.rg at e
   simp only[List.getElem_toArray,oj,Zp]at e
   have e2:=Qa e
   rw[← e2]
   exact Zi.2 ⟨_,Zf (by omega),rfl⟩
  ·intro h
   obtain⟨p,hp,rfl⟩:=Zi.1 h
   obtain⟨i,hi,rfl⟩:=YR.1 hp
   obtain⟨g1,g2,g3⟩:=ke i (by omega) hi
   have oj:=K3 g1 g3 (hs es[i] hp)
   refine⟨WideElems.rg prog 9 oQ l[i],mem_sorted.2 (Zi.2 ⟨l[i],by simp,rfl⟩),?_⟩
   unfold WideElems.rg
   rw[oj]
   exact WideAt.sameKey_self (xY _)
 obtain⟨S,g1,g2,g3⟩:=Kr underlying9 dt (L:=es.map Prod.fst) (fun s h=>by obtain⟨p,hp,rfl⟩:=Zi.1 h;exact hs p hp) hk hp iu
 have hS:S=kH (es.map Prod.fst):=tH g1 (Bl _) fun x=>by rw[g2,Bk]
 refine⟨mn M w.heap.size w',.ret (EG (kH (es.map Prod.fst))),σ,JF hI,Py hI hb,?_,rfl,rfl⟩
 subst he
 rw[← hS]
 exact QI g3 (ZX _)
end
end Go.Proofs.YthdeaajdmdmfnaaGreatDoor
namespace Go.Proofs.YthdeaajdmdmfnaaGreatDoor
open Go.Sx Go.Proofs Go.Tb
def j3(es:List (af×Int))(f:aC):List (af×Int):=iW es f.name (dP es f.name+f.exp)
def ja(l:List aC):List (af×Int):=l.foldl j3 []
theorem aiI{l:List aC}{i:Nat}(h:i<l.length):ja (l.take (i+1))=j3 (ja (l.take i)) (l.getD i default):=by
 unfold ja
 rw[ZC h,Xm,← getD_eq h];rfl
theorem NH(s t:af)(v:Int):∀ es,dP (iW es s v) t=if t=s then v else dP es t
 |[]=>by
  simp only[iW,dP]
  grind
 |p::es=>by
  have ih:=NH s t v es
  by_cases hp:p.1=s
  ·subst hp
   simp only[iW,YX,dP]
   grind
  ·simp only[iW,Z7 hp,dP]
   grind
theorem Rt(s:af)(v:Int):∀ es,(iW es s v).map Prod.fst=if s∈es.map Prod.fst then es.map Prod.fst else es.map Prod.fst++[s]
 |[]=>by rfl
 |p::es=>by
  have ih:=Rt s v es
  by_cases hp:p.1=s
  ·subst hp;simp[iW]
  ·have lV:¬s=p.1:=fun e=>hp e.symm
   simp only[iW,Z7 hp,Zv,ih,ZK,lV,false_or]
   grind
theorem M6(f:aC)(l:List aC)(s:af):fU (f::l) s=(if f.name=s then f.exp else 0)+fU l s:=by
 unfold fU
 by_cases h:f.name=s
 ·simp[h]
 ·simp[h]
theorem NG(s:af):∀ (l:List aC) (es:List (af×Int)),dP (l.foldl j3 es) s=dP es s+fU l s
 |[],es=>by simp[fU]
 |f::l,es=>by
  rw[Yt,NG s l,M6,j3,NH]
  grind
theorem GU(l:List aC)(s:af):dP (ja l) s=fU l s:=by unfold ja;rw[NG];simp[dP]
theorem St:∀ (l:List aC) (es:List (af×Int)),(es.map Prod.fst).Nodup→((l.foldl j3 es).map Prod.fst).Nodup∧(∀ s,s∈(l.foldl j3 es).map Prod.fst↔s∈es.map Prod.fst∨s∈l.map aC.name)∧(l.foldl j3 es).length≤es.length+l.length
 |[],es,h=>⟨h,fun s=>by simp,ZX _⟩
 |f::l,es,h=>by
  have hk:=Rt f.name (dP es f.name+f.exp) es
  have hl:(j3 es f).length≤es.length+1:=by
   have h2:=Zd List.length hk
   unfold j3
   grind
  have hm:∀ s,s∈(j3 es f).map Prod.fst↔s∈es.map Prod.fst∨s=f.name:=fun s=>by
   unfold j3;grind
  have hn:((j3 es f).map Prod.fst).Nodup:=by
   unfold j3;grind
  obtain⟨g1,g2,g3⟩:=St l (j3 es f) hn
  grind
theorem Gk(s:af):∀ (l:List aC),(∀ f∈l, -8≤f.exp∧f.exp≤8)→-8 * (l.length:Int)≤fU l s∧fU l s≤8 * (l.length:Int)
 |[],_=>by simp[fU]
 |f::l,h=>by
  have h1:=Gk s l fun f hf=>h f (ZL _ hf)
  have h2:=h f ZD
  rw[M6,ZS]
  split<;>omega
def gZ(lab:Nat)(rows:List (List AV))(x:AV)(τ:Store):Prop:=(rows=[]∧x=iU∧τ=[])∨∃ b u c,x= .own 2 lab b u c rows∧τ=[(lab,b,.tail u c)]
theorem gZ.z{lab:Nat}:gZ lab [] iU []:= .inl ⟨rfl,rfl,rfl⟩
theorem gZ.n{lab:Nat}{rows:List (List AV)}(h:rows=[]):gZ lab rows iU []:= .inl ⟨h,rfl,rfl⟩
theorem gZ.s{lab b u c:Nat}{rows rows':List (List AV)}(h:rows'=rows):gZ lab rows (.own 2 lab b u c rows') [(lab,b,.tail u c)]:= .inr ⟨b,u,c,by rw[h],rfl⟩
def rW(l:List aC)(L:List af):List aC:=(L.map fun n=>(⟨n,fU l n⟩:aC)).filter fun f=>decide (f.exp≠0)
theorem aa2{l:List aC}{N:List af}{i:Nat}(h:i<N.length):rW l (N.take (i+1))=rW l (N.take i)++if fU l (N.getD i default)≠0 then[⟨N.getD i default,fU l (N.getD i default)⟩]else[]:=by
 unfold rW
 rw[ZC h,← getD_eq h,YZ,Xt,List.map_singleton,List.filter_cons]
 simp
theorem aa1(l:List aC)(L:List af):(rW l L).length≤L.length:=ZI (X8 _ _) (by rw[ZW];exact ZX _)
theorem afk(l:List aC)(hw:∀ f∈l,Word f.name)(hb:∀ f∈l, -8≤f.exp∧f.exp≤8)(hl:l.length≤8):Pure Tryz.prog 341 [.sl false 2 (l.map aC.cells)] (yx (x9 l)):=by
 refine aek.p fun σ=> ?_
 repeat'(first|exact .nil|refine .k0 ?_|refine .k1 ?_|refine .k2 ?_|refine .k6 ?_|refine .r1 ?_ ?_|(refine .m2 ?_ ?_;intro hlen)|(refine .l3 ?_;intro b)|fail)
 all_goals(try simp only[BL]at *)
 rename Nat=>b1
 refine cr (fun m rg σ'=>∃ (i:Nat),i≤l.length∧m=l.length-i∧σ'=(11,b1,.map (wE (ja (l.take i))) (ja (l.take i)).length)::σ∧rg=[(2,iU),(4,.bD 11 b1),(12,.sl false 2 (l.map aC.cells)),(13,iv l.length),(14,iv i)]) l.length rfl ⟨_,_,Zr,Zs,0,ZM _,rfl,rfl,rfl⟩ ?_
 rintro m _ _ ⟨i,hi,hm,rfl,rfl⟩
 have Hc:i<l.length→-1000≤(l.getD i default).exp∧(l.getD i default).exp≤1000:=fun h=>by
  have:=hb _ (dp h);omega
 have NZ:∀ s, -1000≤dP (ja (l.take i)) s∧dP (ja (l.take i)) s≤1000:=fun s=>by
  have h1:=Gk s (l.take i) fun f hf=>hb f (YS hf)
  rw[Zx]at h1
  rw[GU];omega
 repeat'((fail_if_success (show WK _ _ _ _ (.c8 _) _ _ _));(first|exact .nil|refine .k0 ?_|refine .k1 ?_|refine .k2 ?_|refine .k6 ?_|refine .k7 ?_|refine .k8 ?_|refine .k9 ?_|(refine .cd ?_ ?_<;>(intro hc;skip))|refine .r1 ?_ ?_|(refine .l1 ?_;intro b)|refine .t1 ?_ ?_ ?_|refine .an rfl (by intro aI;first|exact Tg _|fail) ?_ ?_|fail))
 try any_goals((intro aI;first|(simp_all;done)|fail))
 all_goals(try simp only[BL]at *)
 ·exact absurd (hw _ (dp (by omega))) hc
 ·have bW:i<l.length:=by omega
  refine Vi 28 rfl rfl rfl ?_
  repeat'(first|exact .nil|refine .k0 ?_|refine .r1 ?_ ?_|fail)
  refine UY rfl rfl rfl OB.nil ?_
  repeat'(first|exact .nil|refine .k0 ?_|refine .k1 ?_|refine .k2 ?_|refine .r1 ?_ ?_|refine .an rfl (by intro aI;first|exact QR (Hc (by first|omega|fail))|exact Vy (NZ _) (Hc (by first|omega|fail))|fail) ?_ ?_|fail)
  all_goals(try simp only[BL]at *)
  refine UB (es:=ja (l.take i)) (s:=(l.getD i default).name) (v:=dP (ja (l.take i)) (l.getD i default).name+(l.getD i default).exp) rfl rfl rfl rfl OB.nil ?_
  repeat'(first|exact .nil|refine .k0 ?_|refine .k1 ?_|refine .k2 ?_|refine .r1 ?_ ?_|fail)
  all_goals(try simp only[BL]at *)
  refine⟨m-1,by omega,_,(11,b1,.map (wE (ja (l.take (i+1)))) (ja (l.take (i+1))).length)::σ,Zr,by rw[aiI bW];repeat' first|exact .refl _|refine .cons ?_,i+1,by omega,by omega,rfl,by rw[cm (n:=l.length) (by omega) (by assumption)]⟩
 ·have bW:i=l.length:=by omega
  subst bW
  rw[Yr]
  have hK:=St l [] List.nodup_nil
  have qC:kH ((ja l).map Prod.fst)=kH (l.map aC.name):=tH (Bl _) (Bl _) fun x=>by
   rw[Bk,Bk];exact(hK.2.1 x).trans (by simp)
  refine yW rfl (aio (es:=ja l) rfl hK.1 (fun p hp=> ?_) (by have:=hK.2.2;simp only[ZA]at this;show(l.foldl j3 []).length≤_;omega)) OB.nil (fun x σ' hR=> ?_) (fun ch σ' hR=> ?_)
  ·have h1:=(hK.2.1 p.1).1 (Zi.2 ⟨p,hp,rfl⟩)
   rcases h1 with h1|h1
   ·cases h1
   ·obtain⟨f,hf,e⟩:=Zi.1 h1
    have:=(hw f hf).2.1
    rw[← e];unfold maxLen;omega
  rotate_left
  ·exact nomatch hR.1
  obtain⟨e1,e2⟩:=hR
  cases e1
  subst e2
  rw[qC]
  have Ho:x9 l=if∃ n∈kH (l.map aC.name),fU l n>8∨fU l n< -8 then([],70)else if(rW l (kH (l.map aC.name))).length>4 then([],2)else(rW l (kH (l.map aC.name)),0):=rfl
  have hNl:(kH (l.map aC.name)).length≤8:=by
   have:=jU (EC (Bl (l.map aC.name))) fun x hx=>Bk.1 hx
   rw[ZW]at this;omega
  generalize kH (l.map aC.name)=N at *
  repeat'(first|exact .nil|refine .k0 ?_|refine .k1 ?_|refine .k6 ?_|refine .r1 ?_ ?_|(refine .m2 ?_ ?_;intro hlen)|fail)
  all_goals(try simp only[BL]at *)
  clear Hc NZ qC hK hi hm hc
  have hE7:∀ s, -1000≤dP (ja l) s∧dP (ja l) s≤1000:=fun s=>by
   have h1:=Gk s l hb
   rw[GU];omega
  have hG:=fun s=>GU l s
  generalize ja l=es at *
  refine cr (fun m rg σ'=>∃ (i:Nat) (x:AV) (τ:Store),i≤N.length∧m=N.length-i∧(∀ n∈N.take i,¬(fU l n>8∨fU l n< -8))∧gZ 61 ((rW l (N.take i)).map aC.cells) x τ∧σ'=τ++(11,b1,.map (wE es) es.length)::σ∧rg=[(2,x),(4,.bD 11 b1),(35,EG N),(36,iv N.length),(37,iv i)]) N.length rfl ⟨_,_,Zr,Zs,0,_,_,ZM _,rfl,(fun n h=>by cases h),gZ.z,rfl,rfl⟩ ?_
  rintro m2 _ _ ⟨i,x,τ,hi,hm,hP,hR,rfl,rfl⟩
  have eu:(rW l (N.take i)).length≤8:=ZI (aa1 _ _) (by rw[Zx];omega)
  have sM:=fun(h:i<N.length)=>aa2 (l:=l) h
  have N7:i<N.length→¬(fU l (N.getD i default)>8∨fU l (N.getD i default)< -8)→∀ n∈N.take (i+1),¬(fU l n>8∨fU l n< -8):=fun h h1 n hn=>by
   rw[ZC h,← getD_eq h,Zy,Zg]at hn
   rcases hn with hn|rfl
   ·exact hP n hn
   ·exact h1
  rcases hR with⟨hE,rfl,rfl⟩|⟨b3,u3,c3,rfl,rfl⟩
  all_goals
   repeat'(first|exact .nil|refine .k0 ?_|refine .k1 ?_|refine .k2 ?_|refine .k6 ?_|refine .k7 ?_|refine .k8 ?_|refine .k9 ?_|(refine .cd ?_ ?_<;>(intro hc;skip))|refine .r1 ?_ ?_|(refine .m2 ?_ ?_;intro hlen)|refine .t1 ?_ ?_ ?_|refine .r8 ?_ ?_|fail)
   refine Up rfl rfl rfl OB.nil ?_
   repeat'(first|exact .nil|refine .k0 ?_|refine .k1 ?_|refine .k2 ?_|refine .k7 ?_|refine .k9 ?_|(refine .cd ?_ ?_<;>(intro hc;skip))|refine .r1 ?_ ?_|refine .u1 ?_ ?_ ?_ (fun b u c=> ?_)|refine .u2 ?_ ?_ ?_ (fun b u c=> ?_)|refine .an rfl (by intro aI;first|exact Q6 _ 8 (by decide)|exact aaz (hE7 _)) ?_ ?_|(show List.all _ _=true;rfl)|fail)
   try any_goals((intro aI;first|(simp_all;done)|fail))
   all_goals(try simp only[BL]at *)
   ·rw[Ho,ZV ⟨N.getD i default,dp (by omega),by rw[hG]at hc;exact hc⟩]
    exact Zw
   ·show _≤1000000;simp only[ZS,ZA];omega
   ·show _ * _≤_;simp only[ZW,ZS,ZA];omega
   ·have Al:¬(dP es (N.getD i default)>8∨dP es (N.getD i default)< -8):=by assumption
    rw[hG]at hc Al
    refine⟨m2-1,by omega,_,_,Zr,Zs,i+1,_,_,by omega,by omega,N7 (by omega) Al,gZ.s ?_,rfl,by rw[cm (n:=N.length) (by omega) (by assumption)]⟩
    rw[sM (by omega),ZV hc,YZ,hG]
    first|(rw[hE];rfl)|rfl
   ·have Al:¬(dP es (N.getD i default)>8∨dP es (N.getD i default)< -8):=by assumption
    rw[hG]at hc Al
    refine⟨m2-1,by omega,_,_,Zr,Zs,i+1,_,_,by omega,by omega,N7 (by omega) Al,?_,rfl,by rw[cm (n:=N.length) (by omega) (by assumption)]⟩
    rw[sM (by omega),Z7 (by rw[hc];simp),YP]
    first|exact gZ.n hE|exact gZ.s rfl
   ·have qy:N.take i=N:=Zq (by omega)
    rw[qy]at hP
    try rw[qy]at hE
    try rw[qy]at hc
    try rw[qy]
    rw[Ho,Z7 (by rintro⟨n,hn,dZ⟩;exact hP n hn dZ)]
    first
     |exact absurd hc (by decide)
     |(rw[ZV (by omega)];(refine Sx.Fin.wk Zs ?_;repeat' first|exact .refl _|exact .nil|refine .cons ?_ ?_|refine .bo ?_|fail))
   ·have qy:N.take i=N:=Zq (by omega)
    rw[qy]at hP
    try rw[qy]at hE
    try rw[qy]at hc
    try rw[qy]
    rw[Ho,Z7 (by rintro⟨n,hn,dZ⟩;exact hP n hn dZ)]
    first
     |(rw[Xz.1 hE,Z7 (by decide)];refine Sx.Fin.wk Zs (.bo (.cons .nil (.cons (.refl _) .nil)));done)
     |(rw[Z7 (by omega)];(refine Sx.Fin.wk Zs ?_;repeat' first|exact .refl _|refine .cons ?_ ?_|refine .bo ?_|exact .own _))
end Go.Proofs.YthdeaajdmdmfnaaGreatDoor
namespace Go.Proofs.YthdeaajdmdmfnaaGreatDoor
open _root_.Go.Proofs.Tryz
section
open Go.RowKit Go.Proofs Go.Tb Go.Shelf
theorem aaY:(prog.info? 125).map (fun i=>(i.zero,i.size,i.bytes))=some (some (.agg #[.string ⟨#[]⟩,.int .i64 0]),2,24):=by kernel_rfl
theorem WX{w:World}{ad:Addr}{n c:Nat}{news:List Value}(hlen:news.length=n * 2)(hc:∀ j u,news[j]? =some u→w.cell? (ad.add j)=some u)(h1:∀ u∈news,u.oneCell'=true)(hn:n≤8):
  Calls prog 381 #[.slice (some ad) n c] w fun e w'=>∃ v',e= .returned v'∧w'.ownsRow w.heap.size 125 2 v' n news∧v'≠.slice none 0 0∧Below w.heap.size w w':=by
 obtain⟨i0,hi,dR,jT,gy⟩:=info_parts aaY
 have tz:∀ (w:World) (a:Option Addr) (n c n' c':Nat),(binOp .eql 26 (.slice a n c) (.slice none n' c')).run prog w= .ok (.bool a.isNone) w:=fun w a n c n' c'=>Lib.run_eql_slice_nil w _ _ a n c n' c' underlying26
 have A:Aside (∀ j u,news[j]? =some u→w.cell? (ad.add j)=some u):=hc
 clear hc
 go_enter func381,ntmps381
 go_wp2_with (at_builtin;refine wpList_append_own _ rfl _ _ 26 rfl w.heap.size 125 i0 (.agg #[.string ⟨#[]⟩,.int .i64 0]) 2 24 underlying26 hi dR jT gy rfl (by decide) _ _ _ rfl (World.ownsRow_made w #[] 0 (ZX _) (ZM _) rfl) ad n c news rfl hlen ?qc2 h1 ?qc4 ?qc5 ?qc6 ?_)
 case qc2=>
  intro j u hj
  exact Lib.cell?_alloc_some _ (A.out j u hj)
 case qc4=>unfold maxLen;omega
 case qc5=>omega
 case qc6=>simp
 intro v' w1 dt Aa iq
 go_wp2
 go_ret
 refine⟨v',rfl,by simpa using dt,?_,?_⟩
 ·first|exact iq|fail
 ·exact((Below.refl _ w).alloc (ZX _) _).grown Aa (by simp) (by intro k hk;simp[Value.ownBlock]at hk;omega)
theorem WW(n c:Nat)(w:World):Calls prog 381 #[.slice none n c] w fun e w'=>e= .returned (.slice none 0 0)∧w'=w:=by
 have tz:∀ (w:World) (a:Option Addr) (n c n' c':Nat),(binOp .eql 26 (.slice a n c) (.slice none n' c')).run prog w= .ok (.bool a.isNone) w:=fun w a n c n' c'=>Lib.run_eql_slice_nil w _ _ a n c n' c' underlying26
 go_enter func381,ntmps381
 go_wp2
 go_ret
 exact⟨rfl,rfl⟩
end
section
open Go.Sx Go.Proofs Go.Tb Go.RowKit
def oE(M:Mem)(g u:Nat)(w':World):Mem:=fun b o=>if b=g∧o<u then w'.cell? ⟨b,o,none⟩else M b o
theorem JG{M:Mem}{w0:Base}{w w':World}{σ:Store}{g u:Nat}(hI:Inv prog M w0 σ w)(hg:w.heap.size≤g):M.le (oE M g u w'):=fun b o v h=>by
 have:=World.block_lt_of_cell? _ _ (hI.bL b o v h)
 unfold oE
 rw[Z7 (by simp at this;omega)];exact h
theorem adb{M:Mem}{w0:Base}{w w':World}{σ:Store}{g u lab:Nat}{cur:Array Value}{ty:TypeId}(hI:Inv prog M w0 σ w)(hb:Below w.heap.size w w')(hg:w.heap.size≤g)(hh:w'.heap[g]? =some (.cells cur ty (0,0)))(hu:u≤cur.size):
  Inv prog (oE M g u w') w0 ((lab,g,.tail u cur.size)::σ) w':=by
 have h1:=hI.after hb
 have hle:=JG (w':=w') (u:=u) hI hg
 have Im:∀ o,M g o=none:=fun o=>by
  cases h:M g o with
  |none=>rfl
  |some v=>
   have:=World.block_lt_of_cell? _ _ (hI.bL g o v h)
   simp at this;omega
 have aw:∀ e∈σ,e.2.1<w.heap.size:=fun e he=>by
  obtain⟨_,g3⟩:=hI.st e he
  cases hx:e.2.2 with
  |cells l=>rw[hx]at g3;obtain⟨_,cs,t,a2,_⟩:=g3;exact(Z6.1 a2).1
  |tail u c=>rw[hx]at g3;obtain⟨_,cs,t,a2,_⟩:=g3;exact(Z6.1 a2).1
  |map es k=>rw[hx]at g3;obtain⟨_,l,a2,_⟩:=g3;exact(Z6.1 a2).1
 refine⟨h1.os,h1.tape,h1.output,h1.size,h1.old,fun b o v h=> ?_,fun e he=> ?_,?_,fun g l hl=>(h1.gl g l hl).mono hle,h1.gw,fun b o v hv aw=>h1.bm b o v (by unfold oE at hv;rwa [Z7 (by have:=hI.size;omega)]at hv) aw⟩
 ·unfold oE at h
  split at h
  ·exact h
  ·exact h1.bL b o v h
 ·rcases ZK.1 he with rfl|he
  ·refine⟨ZI hI.size hg,fun o ho=> ?_,cur,ty,hh,rfl,hu⟩
   unfold oE
   rw[Z7 (by omega)];exact Im o
  ·obtain⟨g1,g2⟩:=h1.st e he
   have h4:=aw e he
   refine⟨g1,?_⟩
   have hN:∀ o,oE M g u w' e.2.1 o=M e.2.1 o:=fun o=>by unfold oE;rw[Z7 (by omega)]
   cases hx:e.2.2 with
   |cells l=>rw[hx]at g2;obtain⟨a1,cs,t,a2,a3⟩:=g2;exact⟨fun o=>(hN o).trans (a1 o),cs,t,a2,a3.mono hle⟩
   |tail u c=>rw[hx]at g2;obtain⟨a1,cs,t,a2,a3⟩:=g2;exact⟨fun o ho=>(hN o).trans (a1 o ho),cs,t,a2,a3⟩
   |map es k=>rw[hx]at g2;obtain⟨a1,l,a2,a3,a4⟩:=g2;exact⟨fun o=>(hN o).trans (a1 o),l,a2,a3,a4.mono hle⟩
 ·simp only[Zv,Yy]
  refine⟨fun h=> ?_,h1.nd⟩
  obtain⟨e,he,heq⟩:=Zi.1 h
  have:=aw e he
  omega
theorem Xd(l:List aC)(hl:l.length≤8)(σ:Store):Sx.Spec prog 381 [.sl false 2 (l.map aC.cells)] σ fun r σ'=>(l=[]∧r= .ret iU∧σ'=σ)∨∃ g u c,r= .ret (.own 2 40 g u c (l.map aC.cells))∧σ'=(40,g,.tail u c)::σ:=by
 intro M w0 w cs hI hR
 obtain⟨v,rfl,h1⟩:=RL.cJ hR
 have key:∀ (ad:Addr) (c:Nat) (f:Nat→Value),(∀ k,k<l.length * 2→w.cell? (ad.add k)=some (f k))→(∀ i (h:i<(l.map aC.cells).length) j (h2:j<((l.map aC.cells)[i]).length),R M ((l.map aC.cells)[i])[j] (f (i * 2+j)))→v= .slice (some ad) l.length c→
   Calls prog 381 #[v] w fun e w'=>∃ M' r σ',M.le M'∧Inv prog M' w0 σ' w'∧iH M' r e∧((l=[]∧r= .ret iU∧σ'=σ)∨∃ g u c,r= .ret (.own 2 40 g u c (l.map aC.cells))∧σ'=(40,g,.tail u c)::σ):=fun ad c f hf hr hv=>by
  subst hv
  have qD:∀ i (h:i<l.length),f (i * 2)= .string l[i].name∧f (i * 2+1)= .int .i64 l[i].exp:=fun i h=>by
   have a0:=hr i (by simpa using h) 0 (by simp[aC.cells])
   have a1:=hr i (by simpa using h) 1 (by simp[aC.cells])
   simp only[Zu]at a0 a1
   exact⟨a0.ay,a1.ay⟩
  refine(WX (w:=w) (ad:=ad) (n:=l.length) (c:=c) (news:=(List.range (l.length * 2)).map f) (by simp) (fun j u hj=> ?_) (fun u hu=> ?_) hl).mono fun e w' ⟨v',he,dt,An,hb⟩=> ?_
  ·have ik:j<l.length * 2:=by have:=(ZE.1 hj).1;simpa using this
   rw[hf j ik]
   simpa[ik]using hj
  ·obtain⟨k,hk,rfl⟩:=Zi.1 hu
   have eZ:k<l.length * 2:=Y2.1 hk
   have:=qD (k / 2) (by omega)
   rcases Nat.mod_two_eq_zero_or_one k with h|h
   ·rw[show k=k / 2 * 2 by omega,this.1];rfl
   ·rw[show k=k / 2 * 2+1 by omega,this.2];rfl
  ·obtain⟨g1,g2⟩:=dt
   rcases g2 with⟨iq,_⟩|⟨g,cap,cur,rfl,pk,hh,hc,hm,hs,ht⟩
   ·exact absurd iq An
   ·refine⟨oE M g (l.length * 2) w',.ret (.own 2 40 g (l.length * 2) cur.size (l.map aC.cells)),_,JG hI pk,adb hI hb pk hh (by omega),?_,.inr ⟨g,_,_,rfl,rfl⟩⟩
    subst he
    have hcell:∀ k,k<l.length * 2→w'.cell? ⟨g,k,none⟩=some (f k):=fun k hk=>by
     rw[qi hh]
     have:=Zd (fun x=>x[k]?) ht
     simp[hk]at this
     exact this
    have:=R.own (M:=oE M g (l.length * 2) w') 2 40 g (l.length * 2) cur.size (l.map aC.cells) 0 cap f (fun i hi=>by rw[Zu];rfl) (fun k hk=> ?_) (fun i hi j hj=>(hr i hi j hj).mono (JG hI pk)) (by rw[ZW];exact hc) hm (.inr ⟨by rw[ZW];omega,by omega⟩) (by decide)
    ·rw[ZW]at this;exact this
    ·rw[ZW]at hk
     unfold oE
     rw[ZV ⟨rfl,by omega⟩,ZH]
     exact hcell k hk
 generalize hX:(AV.sl false 2 (l.map aC.cells))=X at h1
 cases h1<;>(try cases hX)
 ·rename_i a h0
  have kV:l=[]:=by simp at hX;exact hX.2.2
  subst kV
  cases a with
  |none=>exact(WW 0 0 w).mono fun e w' ⟨h1,h2⟩=>⟨M,.ret iU,σ,Mem.le.refl _,by rw[h2];exact hI,by subst h1;exact .v _,.inl ⟨rfl,rfl,rfl⟩⟩
  |some ad=>exact key ad 0 (fun _=>undef) (fun k hk=>by simp at hk) (fun i hi=>by simp at hi) rfl
 ·rename_i b off cap f hm hc bg hM nQ
  exact key ⟨b,off,none⟩ cap f (fun k hk=>by rw[Addr.add_lit];exact hI.bL _ _ _ (hM k (by simpa using hk))) nQ (by simp)
end
end Go.Proofs.YthdeaajdmdmfnaaGreatDoor
namespace Go.Proofs.YthdeaajdmdmfnaaGreatDoor
open Go.Sx Go.Proofs Go.Tb
theorem aaX{p:Option af}{f:aC}(h:pd p f=0):Word f.name∧-8≤f.exp∧f.exp≤8:=by
 unfold pd at h
 split at h
 ·cases h
 split at h
 ·cases h
 ·rename_i h1 h2
  exact⟨Classical.not_not.1 h1,by omega,by omega⟩
theorem SK:∀ {l:List aC} {p:Option af},nA p l=0→∀ f∈l,Word f.name∧-8≤f.exp∧f.exp≤8
 |[],_,_,f,hf=>by cases hf
 |f::l,p,h,g,hg=>by
  rw[nA]at h
  split at h
  ·rename_i h1
   rcases ZK.1 hg with rfl|hg
   ·exact aaX h1
   ·exact SK h g hg
  ·rename_i h1;exact absurd h h1
theorem SL{l:List aC}(h:jc l=0):l.length≤4∧∀ f∈l,Word f.name∧-8≤f.exp∧f.exp≤8:=by
 unfold jc at h
 split at h
 ·cases h
 ·exact⟨by omega,SK h⟩
def ni(sg:Int)(f:aC):aC:=⟨f.name,sg * f.exp⟩
theorem abC{l:List aC}{lab:Nat}{x:AV}{τ:Store}(h:gZ lab (l.map aC.cells) x τ):Wk x (.sl false 2 (l.map aC.cells)):=by
 rcases h with⟨hE,rfl,rfl⟩|⟨b,u,c,rfl,rfl⟩
 ·rw[hE];exact .nil
 ·exact .own _
theorem Ri(a d:List aC)(sg:Int)(lY:sg=1∨sg= -1):Pure Tryz.prog 360 [.sl false 2 (a.map aC.cells),.sl false 2 (d.map aC.cells),iv sg] (yx (lg a d sg)):=by
 refine aem.p fun σ=> ?_
 repeat'(first|exact .nil|refine .k0 ?_|refine .k1 ?_|refine .k2 ?_|refine .k7 ?_|refine .k9 ?_|(refine .cd ?_ ?_<;>(intro hc;skip))|refine .r1 ?_ ?_|refine .an rfl (by intro aI;first|exact SJ _|fail) ?_ ?_|fail)
 all_goals(try simp only[BL]at *)
 ·rw[show lg a d sg=([],jc a)from ZV hc]
  refine Sx.Fin.wk Zs (.bo (.cons .nil (.cons (.refl _) .nil)))
 ·have ha:jc a=0:=by assumption
  rw[show lg a d sg=([],jc d)from by unfold lg;rw[Z7 (by rw[ha];simp),ZV hc]]
  refine Sx.Fin.wk Zs (.bo (.cons .nil (.cons (.refl _) .nil)))
 have ha:jc a=0:=by assumption
 have hb:jc d=0:=by assumption
 have hP:lg a d sg=x9 (a++d.map (ni sg)):=by unfold lg;rw[Z7 (by rw[ha];simp),Z7 (by rw[hb];simp)];rfl
 obtain⟨pj,iP⟩:=SL ha
 obtain⟨su,dZ⟩:=SL hb
 refine yW rfl (Xd a (by omega) _) OB.nil (fun x σ' hR=> ?_) (fun ch σ' hR=> ?_)
 rotate_left
 ·rcases hR with⟨_,h,_⟩|⟨_,_,_,h,_⟩<;>cases h
 have fb:∀ (g u c:Nat),gZ 40 ((a++(d.take 0).map (ni sg)).map aC.cells) (.own 2 40 g u c (a.map aC.cells)) [(40,g,.tail u c)]:=fun g u c=>gZ.s (by rw[List.take_zero,YT,YP])
 have acB:a=[]→gZ 40 ((a++(d.take 0).map (ni sg)).map aC.cells) iU []:=fun h=>gZ.n (by rw[h];rfl)
 have hNo:Pure Tryz.prog 341 [.sl false 2 ((a++d.map (ni sg)).map aC.cells)] (yx (x9 (a++d.map (ni sg)))):=by
  refine afk _ (fun f hf=> ?_) (fun f hf=> ?_) (by rw[Z4,ZW];omega)
  ·rcases Zy.1 hf with hf|hf
   ·exact(iP f hf).1
   ·obtain⟨q,hq,rfl⟩:=Zi.1 hf
    exact(dZ q hq).1
  ·rcases Zy.1 hf with hf|hf
   ·exact(iP f hf).2
   ·obtain⟨q,hq,rfl⟩:=Zi.1 hf
    have:=(dZ q hq).2
    show -8≤sg * q.exp∧sg * q.exp≤8
    rcases lY with rfl|rfl<;>omega
 rw[hP]
 clear hP hc
 rcases hR with⟨h0,h,rfl⟩|⟨g,u,c,h,rfl⟩<;>cases h
 all_goals
  repeat'(first|exact .nil|refine .k0 ?_|refine .k1 ?_|refine .k2 ?_|refine .k6 ?_|refine .r1 ?_ ?_|(refine .m2 ?_ ?_;intro hlen)|fail)
  all_goals(try simp only[BL]at *)
  first
   |(have _:=g
     rename Store=>σ
     refine cr (fun m rg σ'=>∃ (i:Nat) (x:AV) (τ:Store),i≤d.length∧m=d.length-i∧gZ 40 ((a++(d.take i).map (ni sg)).map aC.cells) x τ∧σ'=τ++σ∧rg=[(2,iv sg),(10,x),(25,.sl false 2 (d.map aC.cells)),(26,iv d.length),(27,iv i)]) d.length rfl ⟨_,_,Zr,Zs,0,_,_,ZM _,rfl,fb g u c,rfl,rfl⟩ ?_)
   |(rename Store=>σ
     refine cr (fun m rg σ'=>∃ (i:Nat) (x:AV) (τ:Store),i≤d.length∧m=d.length-i∧gZ 40 ((a++(d.take i).map (ni sg)).map aC.cells) x τ∧σ'=τ++σ∧rg=[(2,iv sg),(10,x),(25,.sl false 2 (d.map aC.cells)),(26,iv d.length),(27,iv i)]) d.length rfl ⟨_,_,Zr,Zs,0,_,_,ZM _,rfl,acB h0,rfl,rfl⟩ ?_)
  rintro m2 _ _ ⟨i,x,τ,hi,hm,hR,rfl,rfl⟩
  have hN3:i=d.length→Pure Tryz.prog 341 [x] (yx (x9 (a++d.map (ni sg)))):=fun h=>by
   subst h
   rw[Yr]at hR
   exact hNo.wk (.cons (abC hR) .nil)
  have sM:i<d.length→(a++(d.take (i+1)).map (ni sg)).map aC.cells=(a++(d.take i).map (ni sg)).map aC.cells++[[sv (d.getD i default).name,iv (sg * (d.getD i default).exp)]]:=fun h=>by
   rw[ZC h,← getD_eq h];simp[ni,aC.cells]
  have hwr:i<d.length→IntKind.i64.wrap (sg * (d.getD i default).exp)=sg * (d.getD i default).exp:=fun h=>by
   have:=(dZ _ (dp h)).2
   rcases lY with rfl|rfl<;>exact dN (by omega)
  have Dh:(a++(d.take i).map (ni sg)).length≤8:=by rw[Z4,ZW,Zx];omega
  rcases hR with⟨hE,rfl,rfl⟩|⟨b3,u3,c3,rfl,rfl⟩
  all_goals
   repeat'(first|exact .nil|refine .k0 ?_|refine .k1 ?_|refine .k2 ?_|refine .k6 ?_|refine .k7 ?_|refine .k8 ?_|refine .k9 ?_|(refine .cd ?_ ?_<;>(intro hc;skip))|refine .r1 ?_ ?_|(refine .l1 ?_;intro b)|refine .t1 ?_ ?_ ?_|refine .u1 ?_ ?_ ?_ (fun b u c=> ?_)|refine .u2 ?_ ?_ ?_ (fun b u c=> ?_)|refine .an rfl (by intro aI;exact hN3 (by(simp only[BL]at *;omega))) ?_ ?_|(show List.all _ _=true;rfl)|fail)
   try any_goals((intro aI;first|(simp_all;done)|fail))
   all_goals(try simp only[BL]at *)
   ·show _≤1000000;simp only[ZS,ZA];omega
   ·show _ * _≤_;simp only[ZW,ZS,ZA];omega
   ·rw[hwr (by omega)]
    refine⟨m2-1,by omega,_,_,Zr,Zs,i+1,_,_,by omega,by omega,gZ.s ?_,rfl,by rw[cm (n:=d.length) (by omega) (by assumption)]⟩
    rw[sM (by omega)]
    try rw[hE]
    try rfl
   ·exact Zw
theorem KJ:lK:=fun a b=>by
 have hp:=Ri a b 1 (.inl rfl)
 refine aei.p fun σ=> ?_
 repeat'(first|exact .nil|refine .k0 ?_|refine .k1 ?_|refine .k2 ?_|refine .k7 ?_|refine .r1 ?_ ?_|refine .an rfl (by intro aI;exact hp) ?_ ?_|fail)
 all_goals(try simp only[BL]at *)
 exact Zw
theorem JO:lJ:=fun a b=>by
 have hp:=Ri a b (-1) (.inr rfl)
 refine aej.p fun σ=> ?_
 repeat'(first|exact .nil|refine .k0 ?_|refine .k1 ?_|refine .k2 ?_|refine .k7 ?_|refine .r1 ?_ ?_|refine .an rfl (by intro aI;exact hp) ?_ ?_|fail)
 all_goals(try simp only[BL]at *)
 exact Zw
end Go.Proofs.YthdeaajdmdmfnaaGreatDoor
