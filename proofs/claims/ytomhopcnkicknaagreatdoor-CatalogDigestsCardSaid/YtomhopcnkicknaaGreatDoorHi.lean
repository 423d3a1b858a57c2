/- Wide numbers: sums. -/
import Derived.Test.YtomhopcnkicknaaGreatDoorCd
import Derived.Laws.Externs
import Derived.Shelf.Spec.BitsCarry
import Derived.Test.YtomhopcnkicknaaGreatDoorGa
import Derived.RegionTactic
import Derived.OwnWalk
import Derived.Test.YtomhopcnkicknaaGreatDoorHa
import Derived.Test.YtomhopcnkicknaaGreatDoorCn
import Derived.Test.YtomhopcnkicknaaGreatDoorFb
import Derived.Sort.OwnSorted
import Derived.Lib.SliceRun
set_option linter.unusedSimpArgs false
set_option linter.unusedVariables false
set_option linter.unusedSectionVars false
set_option maxRecDepth 100000
set_option maxHeartbeats 4000000
namespace Go.Proofs.YtomhopcnkicknaaGreatDoor
open _root_.Go.Proofs.Tryz
open Go.RowKit Go.Proofs Go.Tb
theorem Kh(x y c:Int)(hx:0≤x)(hy:0≤y)(gC:0≤c)(hc:c≤1)(w:World):(callFunc 262 #[.int .u64 x,.int .u64 y,.int .u64 c]).run prog w=
  .ok (.value (.tuple #[.int .u64 ((x+y+c) % 18446744073709551616),.int .u64 ((x+y+c) / 18446744073709551616)])) w:=by
 rw[run_callFunc_extern func262 (by kernel_rfl) (by kernel_rfl) (by kernel_rfl) (e:=add64Entry) (by kernel_rfl),run_add64 x y c hx hy gC hc]
 rfl
theorem We(x y:Int)(hx:0≤x)(hy:0≤y)(w:World):(callFunc 262 #[.int .u64 x,.int .u64 y,.int .u64 0]).run prog w=
  .ok (.value (.tuple #[.int .u64 ((x+y) % 18446744073709551616),.int .u64 ((x+y) / 18446744073709551616)])) w:=by
 rw[Kh x y 0 hx hy (by omega) (by omega),Int.add_zero]
def dz(n:Int):Int:=n % 18446744073709551616
def eo(n:Int):Int:=if n<0 then -1 else 0
abbrev wv(n:Int):Value:= .agg #[.int .i64 (eo n),.int .u64 (dz n)]
theorem Wh(n m:Int)(w:World)(hn: -1000≤n∧n≤1000)(hm: -1000≤m∧m≤1000):Calls prog 255 #[wv n,wv m] w fun e w'=>e= .returned (wv (n+m))∧Below w.heap.size w w':=by
 have h1:0≤dz n:=by unfold dz;omega
 have h2:0≤dz m:=by unfold dz;omega
 generalize tD:dz n=ln at *
 generalize Gl:dz m=lm at *
 generalize hhn:eo n=jQ at *
 generalize hhm:eo m=Gm at *
 go_enter func255,ntmps255
 have e1:=We ln lm h1 h2
 have w1:0≤IntKind.u64.wrap jQ:=by rw[IntKind.wrap_u64];omega
 have w2:0≤IntKind.u64.wrap Gm:=by rw[IntKind.wrap_u64];omega
 have e2:=Kh (IntKind.u64.wrap jQ) (IntKind.u64.wrap Gm) ((ln+lm) / 18446744073709551616) w1 w2 (by omega) (by rw[← tD,← Gl];unfold dz;omega)
 have tE:(ln+lm) % 18446744073709551616=dz (n+m):=by rw[← tD,← Gl];unfold dz;omega
 have yI:IntKind.i64.wrap ((IntKind.u64.wrap jQ+IntKind.u64.wrap Gm+(ln+lm) / 18446744073709551616) % 18446744073709551616)=eo (n+m):=by
  rw[← tD,← Gl,← hhn,← hhm,IntKind.wrap_u64,IntKind.wrap_u64,IntKind.wrap_i64]
  unfold dz eo
  split<;>split<;>split<;>omega
 go_wp2
 simp[bodyPost,results,Tryz.results255,go_sem,yI]
 exact(((Below.refl _ w).alloc (ZR _) _).alloc (by simp) _).alloc (by simp;omega) _
theorem QN(x y b:Int)(hx:0≤x)(hy:0≤y)(NQ:y<18446744073709551616)(fT:0≤b)(hb:b≤1)(w:World):(callFunc 277 #[.int .u64 x,.int .u64 y,.int .u64 b]).run prog w=
  .ok (.value (.tuple #[.int .u64 ((x-y-b) % 18446744073709551616),.int .u64 (if x<y+b then 1 else 0)])) w:=by
 obtain⟨X,rfl⟩:=Int.eq_ofNat_of_zero_le hx
 obtain⟨Y,rfl⟩:=Int.eq_ofNat_of_zero_le hy
 obtain⟨B,rfl⟩:=Int.eq_ofNat_of_zero_le fT
 rw[run_callFunc_extern func277 (by kernel_rfl) (by kernel_rfl) (by kernel_rfl) (e:=sub64Entry) (by kernel_rfl),run_sub64 X Y B (by omega)]
 have e1:(((X+18446744073709551616-Y-B) % 18446744073709551616:Nat):Int)=((X:Int)-Y-B) % 18446744073709551616:=by omega
 have e2:((if X<Y+B then 1 else 0:Nat):Int)=if(X:Int)<Y+B then 1 else 0:=by
  by_cases h:X<Y+B
  ·rw[Z3 h,Z3 (by omega)];rfl
  ·rw[Z6 h,Z6 (by omega)];rfl
 rw[e1,e2]
 rfl
theorem aLx(n:Int)(w:World)(hn: -1000≤n∧n≤1000):Calls prog 263 #[wv n] w fun e w'=>e= .returned (.agg #[.int .u64 n.natAbs,.int .u64 0])∧Below w.heap.size w w':=by
 by_cases h0:n<0
 ·have hh:eo n= -1:=Z3 h0
  have hl:dz n=n+18446744073709551616:=by unfold dz;omega
  have e1:=QN 0 (n+18446744073709551616) 0 (by omega) (by omega) (by omega) (by omega) (by omega)
  rw[Z3 (by omega),show((0:Int)-(n+18446744073709551616)-0) % 18446744073709551616=n.natAbs by omega]at e1
  have e2:=QN 0 18446744073709551615 1 (by omega) (by omega) (by omega) (by omega) (by omega)
  rw[Z3 (by omega),show((0:Int)-18446744073709551615-1) % 18446744073709551616=0 by omega]at e2
  have hw:IntKind.u64.wrap (-1)=18446744073709551615:=by rw[IntKind.wrap_u64];rfl
  rw[← hw]at e2
  clear hw
  show Calls prog 263 #[.agg #[.int .i64 (eo n),.int .u64 (dz n)]] w _
  rw[hh,hl]
  clear hh hl
  go_enter func263,ntmps263
  go_wp2
  simp[bodyPost,results,Tryz.results263,go_sem]
  rename_i a
  refine a _ _ ?_
  go_wp2
  simp[bodyPost,results,Tryz.results263,go_sem]
  rename_i a2 q k1 k0
  refine a2 _ _ ?_
  go_wp2
  simp[bodyPost,results,Tryz.results263,go_sem]
  exact(((((((Below.refl _ w).alloc (ZR _) _).alloc (by simp) _).alloc (by simp;omega) _).alloc (by simp;omega) _).alloc (by simp;omega) _).alloc (by simp;omega) _).alloc (by simp;omega) _
 ·have hh:eo n=0:=Z6 h0
  have hl:dz n=n.natAbs:=by unfold dz;omega
  show Calls prog 263 #[.agg #[.int .i64 (eo n),.int .u64 (dz n)]] w _
  rw[hh,hl]
  clear hh hl
  go_enter func263,ntmps263
  go_wp2
  simp[bodyPost,results,Tryz.results263,go_sem]
  exact((Below.refl _ w).alloc (ZR _) _).alloc (by simp) _
end Go.Proofs.YtomhopcnkicknaaGreatDoor
namespace Go.Proofs.YtomhopcnkicknaaGreatDoor
open _root_.Go.Proofs.Tryz
section
open Go.RowKit Go.Proofs Go.Tb
theorem aaV(x:Int)(w:World)(hx:0≤x)(fM:x<18446744073709551616):Calls prog 264 #[.int .u64 0,.int .u64 x,.int .u64 1] w fun e w'=>e= .returned (.tuple #[.int .u64 x,.int .u64 0])∧Below w.heap.size w w':=by
 go_enter func264,ntmps264
 go_wp2
 go_region
 all_goals go_wp2
 all_goals go_ret2
 refine⟨?_,?_⟩
 ·rfl
 ·exact(Below.refl _ _).drew
end
open Go.Sx Go.Proofs Go.Tb
abbrev wA(n:Int):AV:= .agg [iv (eo n),.v (.int .u64 (dz n))]
theorem C5{M:Mem}{n:Int}{v:Value}(h:R M (wA n) v):v=wv n:=by
 obtain⟨cs,rfl,hl⟩:=h.rL
 obtain⟨a,as',rfl,h1,h2⟩:=hl.bL
 obtain⟨b,rfl,h3⟩:=h2.eJ
 rw[h1.aC,h3.aC]
theorem PV{M:Mem}(n:Int):R M (wA n) (wv n):= .agg _ [.int .i64 (eo n),.int .u64 (dz n)] rfl fun i h1 h2=>by
 match i with
 |0=>exact .v _
 |1=>exact .v _
theorem Wf{n m:Int}(hn: -1000≤n∧n≤1000)(hm: -1000≤m∧m≤1000):Pure prog 255 [wA n,wA m] (wA (n+m)):=
 Pure.qp fun M w0 w σ cs hI hR=>by
  obtain⟨a,as',rfl,h1,h2⟩:=hR.bL
  obtain⟨b,rfl,h3⟩:=h2.eJ
  rw[C5 h1,C5 h3]
  exact(Wh n m w hn hm).mono fun e w' ⟨h,hb⟩=>⟨⟨_,h,PV _⟩,hb⟩
abbrev szA(n:Int):AV:= .agg [.v (.int .u64 n.natAbs),.v (.int .u64 0)]
theorem Qx{n:Int}(hn: -1000≤n∧n≤1000):Pure prog 263 [wA n] (szA n):=
 Pure.qp fun M w0 w σ cs hI hR=>by
  obtain⟨a,rfl,h1⟩:=hR.eJ
  rw[C5 h1]
  exact(aLx n w hn).mono fun e w' ⟨h,hb⟩=>⟨⟨_,h,.agg _ [.int .u64 n.natAbs,.int .u64 0] rfl fun i h1 h2=>by
   match i with
   |0=>exact .v _
   |1=>exact .v _⟩,hb⟩
theorem aNE{n:Int}(hn: -1000≤n∧n≤1000):Pure prog 256 [iv n] (wA n):=by
 refine afE.p fun σ=> ?_
 repeat'(first|exact .nil|refine .k0 ?_|refine .k1 ?_|refine .k2 ?_|refine .k7 ?_|refine .r1 ?_ ?_|(refine .l1 ?_;intro b)|fail)
 all_goals(try simp only[BL]at *)
 ·decide
 ·rw[show n / 2 ^ Int.toNat 63=eo n by show n / 9223372036854775808=_;unfold eo;split<;>omega,show IntKind.u64.wrap n=dz n from IntKind.wrap_u64 n]
  exact Zw
theorem aaU{x:Int}(hx:0≤x)(fM:x<18446744073709551616):Pure prog 264 [.v (.int .u64 0),.v (.int .u64 x),.v (.int .u64 1)] (.aE [.v (.int .u64 x),.v (.int .u64 0)]):=
 Pure.qp fun M w0 w σ cs hI hR=>by
  obtain⟨a,as',rfl,h1,h2⟩:=hR.bL
  obtain⟨b,bs',rfl,h3,h4⟩:=h2.bL
  obtain⟨c,rfl,h5⟩:=h4.eJ
  rw[h1.aC,h3.aC,h5.aC]
  exact(aaV x w hx fM).mono fun e w' ⟨h,hb⟩=>⟨⟨_,h,.aE _ [.int .u64 x,.int .u64 0] rfl fun i h1 h2=>by
   match i with
   |0=>exact .v _
   |1=>exact .v _⟩,hb⟩
theorem SA{x i:Operand}{ty:TypeId}{a b:Int}:sw prog (.index 248 x i) ty [] [x,i] [.agg [.v (.int .u64 a),.v (.int .u64 b)],.v (.int .i64 0)] (.v (.int .u64 a)):=⟨fun σ db M w0 w ρ hI hR=>by
 obtain⟨v1,dI,e1,h1,fh⟩:=hR.bL
 obtain⟨v2,e2,h2⟩:=fh.eJ
 subst e2
 simp only[ZC,Y5,ZS,Zk]at e1
 obtain⟨cs,rfl,hl⟩:=h1.rL
 obtain⟨p,ps,rfl,g1,g2⟩:=hl.bL
 obtain⟨q,rfl,g3⟩:=g2.eJ
 have hu:=underlying248
 have h64:=underlying27
 refine⟨.value (.int .u64 a),w,M,.v (.int .u64 a),.int .u64 a,σ,?_,rfl,Mem.le.refl _,hI,.v _,rfl,rfl⟩
 simp[execOp,e1.1,e1.2,Instr.index,asIntOf,h2.aC,g1.aC,aW hu,part,isAgg,aW h64]⟩
theorem aaW{n:Int}(hn: -1000≤n∧n≤1000):Pure prog 258 [wA n,iv 1] (.aE [iv n,.v (.bool true)]):=by
 have hS:=Qx hn
 have vx:=aNE (n:=1) (by omega)
 have rk:=Qx (n:=1) (by omega)
 have hD:=aaU (x:=n.natAbs) (by omega) (by omega)
 refine afF.p fun σ=> ?_
 repeat'(first|exact .nil|refine .k0 ?_|refine .k1 ?_|refine .k2 ?_|refine .k7 ?_|refine .k9 ?_|(refine .cd ?_ ?_<;>(intro hc;skip))|refine .r1 ?_ ?_|(refine .m1 ?_ ?_;intro b)|refine .an rfl (by intro aq;first|exact hS|exact vx|exact rk|fail) ?_ ?_|fail)
 all_goals(try simp only[BL]at *)
 ·exact absurd hc (by decide)
 refine xK rfl (fun _=>SA) OB.nil ?_
 repeat'(first|exact .nil|refine .k0 ?_|refine .k1 ?_|refine .k2 ?_|refine .k4 ?_|refine .k7 ?_|refine .k9 ?_|(refine .cd ?_ ?_<;>(intro hc;first|exact kt hc (by assumption)|skip))|refine .r1 ?_ ?_|(refine .l1 ?_;intro b)|refine .an rfl (by intro aq;exact hD) ?_ ?_|fail)
 ·exact⟨by decide,by decide⟩
 ·exact absurd hc (by decide)
 ·exact⟨by decide,by decide⟩
 ·exact⟨by decide,by decide⟩
 ·intro _;decide
 ·have:=Yq hc;omega
 ·have ax:n<0:=by
   by_cases h:n<0
   ·exact h
   ·rw[show eo n=0 from Z6 h]at hc;exact absurd hc (by decide)
  rw[aM (n:=(n.natAbs:Int)) (by omega),aM (by omega),show(0:Int)-n.natAbs=n by omega]
  exact Zw
 ·have ax:0≤n:=by
   by_cases h:n<0
   ·rw[show eo n= -1 from Z3 h]at hc;exact absurd hc (by decide)
   ·omega
  rw[aM (n:=(n.natAbs:Int)) (by omega),show(n.natAbs:Int)=n by omega]
  exact Zw
end Go.Proofs.YtomhopcnkicknaaGreatDoor
set_option maxHeartbeats 1000000
namespace Go.Sx
open Go.RowKit
section
variable {P:Program}[Glob P]{N:Nat}{cfg:Nat→Nat}{rg:ah}{σ:Store}
def Ek(P:Program)[Glob P](cfg:Nat→Nat)(K:ah→Store→Prop)(c:CI)(l2:List CI)(rg:ah)(σ:Store):Prop:=∃ x,QV P cfg c rg σ x∧ef P cfg [] (bare l2) (Cl K) (cr c.d x rg) σ
theorem SN{l1 l2:List CI}{c:CI}{Q:Exit→ah→Store→Prop}(cfg:Nat→Nat)(cW:c.op.cls≤1)(h:ef P cfg [] (bare l1) (Ek P cfg (Q .normal) c l2) rg σ):SW P N (.cG (l1++c::l2)) Q rg σ:=by
 refine AZ (uO cfg fun hc=> ?_)
 obtain⟨xs,h1,⟨jy,⟨x,hq,hv⟩,h3⟩,h4⟩:=Rz l1 rg rg (fun _=>rfl) (fun c h=>hc c (by simp[h])) h
 have yx:=Av l1 rg (fun c h=>hc c (by simp[h])) h
 have acM:=Av l2 _ (fun c h=>hc c (by simp[h])) hv
 have nz:QV P cfg c (dv l1 xs rg) σ x:=sx (fun t _=>h3 t) hq
 obtain⟨ys,g1,⟨fP,k1,k2⟩,g3⟩:=Au l2 _ (cr c.d x (dv l1 xs rg)) (zM h3 c.d x) (fun c h=>hc c (by simp[h])) hv
 refine⟨⟨xs++x::ys,by simp[h1,g1],⟨fP,k1,fun i=> ?_⟩,fun i h h'=> ?_⟩,fun c' gi=> ?_⟩
 ·rw[z1 _ _ _ _ _ h1];exact k2 i
 ·rcases Yb i l1.length with hi|hi|hi
  ·have:=h4 i hi (by omega)
   simp only[Y4 hi,Y4 (show i<xs.length by omega),YS (show i≤l1.length by omega),YS (show i≤xs.length by omega)]
   exact this
  ·subst hi
   have hz:=h'
   have e1:(l1++c::l2)[l1.length]=c:=by simp
   have e2:(xs++x::ys)[l1.length]'hz=x:=by simp[← h1]
   have e3:(l1++c::l2).take l1.length=l1:=by simp
   have e4:(xs++x::ys).take l1.length=xs:=by rw[← h1];simp
   rw[e1,e2,e3,e4]
   exact nz
  ·obtain⟨m,hm⟩:∃ m,i=l1.length+1+m:=⟨i-(l1.length+1),by omega⟩
   subst hm
   have hml:m<l2.length:=by simp at h;omega
   have hz:=h'
   have hmy:m<ys.length:=by omega
   have e1:(l1++c::l2)[l1.length+1+m]=l2[m]:=by
    rw[Y8 (by omega)]
    simp only[show l1.length+1+m-l1.length=m+1 by omega,Yj]
   have e2:(xs++x::ys)[l1.length+1+m]'hz=ys[m]:=by
    rw[Y8 (by omega)]
    simp only[show l1.length+1+m-xs.length=m+1 by omega,Yj]
   have e3:(l1++c::l2).take (l1.length+1+m)=l1++c::l2.take m:=by
    rw[List.take_append,ZU (by omega),show l1.length+1+m-l1.length=m+1 by omega];rfl
   have e4:(xs++x::ys).take (l1.length+1+m)=xs++x::ys.take m:=by
    rw[List.take_append,ZU (by omega),show l1.length+1+m-xs.length=m+1 by omega];rfl
   rw[e1,e2,e3,e4,z1 _ _ _ _ _ h1]
   exact g3 m hml hmy
 ·rcases ZI.1 gi with hm|hm
  ·exact yx c' hm
  ·rcases ZQ.1 hm with rfl|hm
   ·exact cW
   ·exact acM c' hm
end
section
variable {P:Program}[Glob P]{N:Nat}{cfg:Nat→Nat}{Q:Exit→ah→Store→Prop}{rg:ah}{σ:Store}{k:List Fr}{xr:XR}
theorem Uc(d:Nat){l l1 l2:List CI}{s:CI}(hl:Ai d l=some (l1,s,l2))(hs:Nat.ble s.op.cls 1=true)(hx:toXO rg=some xr)
  (h:VY P cfg [] (bare l1) (Ek P cfg (FK P N cfg Q .normal k) s l2) xr σ):WK P N cfg Q (.cG l) k rg σ:=by
 have e:=QF hl
 subst e
 refine⟨WA.mono (Q:=fun e=>FK P N cfg Q e k) ⟨rfl,SN cfg (ZW hs) ?_⟩ fun _ _ _ h=>h.h⟩
 have:=h.h
 rw[← wV hx,vd]at this
 exact this
end
end Go.Sx
namespace Go.Proofs.YtomhopcnkicknaaGreatDoor
open _root_.Go.Proofs.Tryz
open Go.Sx Go.Proofs Go.Tb Go.RowKit
def dU:List (ae×Int)→ae→Int
 |[],_=>0
 |p::es,s=>if p.1=s then p.2 else dU es s
def iE:List (ae×Int)→ae→Int→List (ae×Int)
 |[],s,v=>[(s,v)]
 |p::es,s,v=>if p.1=s then(s,v)::es else p::iE es s v
def wE(es:List (ae×Int)):List (Value×Nat×AV):=es.zipIdx.map fun p=>(.string p.1.1,p.2,wA p.1.2)
theorem DM(es:List (ae×Int)):(wE es).map (fun e=>(e.1,e.2.1))=es.zipIdx.map fun q=>(Value.string q.1.1,q.2):=by unfold wE;rw[Yk];rfl
theorem DN(es:List (ae×Int)):(wE es).map (·.2.2)=es.map fun p=>wA p.2:=by
 unfold wE
 rw[Yk]
 refine Ys (by simp) fun j h1 h2=>by simp
theorem aMT(es:List (ae×Int))(p:ae×Int):wE es++[(.string p.1,es.length,wA p.2)]=wE (es++[p]):=by
 unfold wE;rw[List.zipIdx_append];simp
theorem Jq(s:ae):∀ (es:List (ae×Int)) (l:List MapEntry) (k0 i:Nat),l.map (fun e=>(e.key,e.born))=(es.zipIdx k0).map (fun q=>(Value.string q.1.1,q.2))→
  (Instr.findNow .string (.string s) l i=some none∧dU es s=0∧∀ v,iE es s v=es++[(s,v)])∨
  ∃ j,∃ hj:j<es.length,∃ dK:j<l.length,Instr.findNow .string (.string s) l i=some (some (i+j,l[j].val))∧es[j].1=s∧dU es s=es[j].2∧l[j].key= .string s∧∀ v,iE es s v=es.set j (s,v)
 |[],l,k0,i,h=>by
  have:l=[]:=by simpa using h
  subst this
  exact .inl ⟨rfl,rfl,fun _=>rfl⟩
 |p::es,l,k0,i,h=>by
  cases l with
  |nil=>simp at h
  |cons e l=>
   simp only[List.zipIdx_cons,ZC,ZS,YH]at h
   have fy:Instr.sameNow .string (.string s) e.key=some (decide (s=p.1)):=by
    rw[h.1.1]
    show some (s == p.1)=_
    rw[II]
   by_cases hp:s=p.1
   ·subst hp
    refine .inr ⟨0,by simp,by simp,?_,rfl,by simp[dU],h.1.1,fun v=>by simp[iE]⟩
    simp only[Instr.findNow,fy,decide_true,YN,YR]
   ·have nw:¬p.1=s:=fun e=>hp e.symm
    rcases Jq s es l (k0+1) (i+1) h.2 with⟨a1,a2,a3⟩|⟨j,hj,dK,a1,a2,a3,a4,a5⟩
    ·refine .inl ⟨?_,by simp[dU,nw,a2],fun v=>by simp[iE,nw,a3]⟩
     simp only[Instr.findNow,fy,ZA hp]
     exact a1
    ·refine .inr ⟨j+1,by simp;omega,by simp;omega,?_,by simpa using a2,by simp[dU,nw,a3],by simpa using a4,fun v=>by simp[iE,nw,a5]⟩
     simp only[Instr.findNow,fy,ZA hp]
     rw[a1,show i+1+j=i+(j+1) by omega];simp
theorem aNe(w:World):(zeroValue 240).run prog w= .ok (wv 0) w:=by
 have h:(prog.info? 240).map (fun i=>i.zero)=some (some (wv 0)):=by kernel_rfl
 obtain⟨i,h1,h2⟩:=ZO.1 h
 simp[zeroValue,typeInfo,h1,h2]
theorem aNC(w:World)(b:Bool)(s:ae):(Instr.checkKey b 10000 9 (.string s)).run prog w= .ok () w:=
 Sx.run_checkKey (n:=9999) (q:= .str) (kd:= .string) rfl underlying9
section
variable {M:Mem}{w0:Base}{w:World}{σ:Store}
theorem JX{tg b dE:Nat}{es:List (ae×Int)}{t ty:TypeId}{q:TI}{m k:Operand}{s:ae}(hl:bo σ tg=some (b,.map (wE es) dE)):
  jf prog (.lookup t m k false) ty [.mp 9 240,q] [m,k] [.dc tg b,sv s] σ fun y af=>y=wA (dU es s)∧af=σ:=by
 intro db M w0 w ρ hI hR
 simp only[fq,ZS,Zk]at db
 have ht:=wU db.1
 have hk:=underlying9
 obtain⟨v1,dI,e1,h1,fh⟩:=hR.bL
 obtain⟨v2,e2,h2⟩:=fh.eJ
 subst e2
 simp only[ZC,Y5,ZS,Zk]at e1
 obtain⟨hM,l,hh,gS,iy⟩:=hI.s3 hl
 have g1:=h1.tZ
 have g2:=h2.aC
 subst g1 g2
 rw[DM]at gS
 rw[DN]at iy
 rcases Jq s es l 0 0 gS with⟨a1,a2,a3⟩|⟨j,hj,dK,a1,a2,a3,a4,a5⟩
 ·refine⟨.value (wv 0),w,M,wA (dU es s),wv 0,σ,?_,rfl,Mem.le.refl _,hI,by rw[a2];exact PV 0,rfl,rfl⟩
  simp only[execOp,e1.1,e1.2,Instr.lookup,Sem.run_bind,aW ht,Result.andThen_ok,getObj,Sem.run,hh,aNC,Instr.findKey,aW hk,a1,Sem.run_pure,aNe]
  rfl
 ·refine⟨.value l[j].val,w,M,wA (dU es s),l[j].val,σ,?_,rfl,Mem.le.refl _,hI,?_,rfl,rfl⟩
  ·simp only[execOp,e1.1,e1.2,Instr.lookup,Sem.run_bind,aW ht,Result.andThen_ok,getObj,Sem.run,hh,aNC,Instr.findKey,aW hk,a1,Sem.run_pure]
   rfl
  ·have:=iy.2 j (by simpa using hj) (by simpa using dK)
   rw[a3]
   simpa using this
theorem aNb(w:World)(s:ae):(Instr.keyThatStays (.string s) (.string s)).run prog w= .ok (.string s) w:=by
 simp[Instr.keyThatStays,Instr.sameBits,II]
theorem SI{tg b:Nat}{es:List (ae×Int)}{t ty:TypeId}{q:TI}{m k x:Operand}{s:ae}{v:Int}(hl:bo σ tg=some (b,.map (wE es) es.length)):
  jf prog (.mapUpdate t m k x) ty [.mp 9 240,q] [m,k,x] [.dc tg b,sv s,wA v] σ fun y af=>y= .v undef∧af=eB σ tg b (.map (wE (iE es s v)) (iE es s v).length):=by
 intro db M w0 w ρ hI hR
 simp only[fq,ZS,Zk]at db
 have ht:=wU db.1
 have hk:=underlying9
 obtain⟨v1,dI,e1,h1,fh⟩:=hR.bL
 obtain⟨v2,Jj,e2,h2,gP⟩:=fh.bL
 obtain⟨v3,e3,h3⟩:=gP.eJ
 subst e3 e2
 simp only[ZC,Y5,ZS,Zk]at e1
 obtain⟨hM,l,hh,gS,iy⟩:=hI.s3 hl
 have g1:=h1.tZ
 have g2:=h2.aC
 subst g1 g2
 have ax:b<w.heap.size:=(Z0.1 hh).1
 have acW:=gS
 have adk:=iy
 rw[DM]at gS
 rw[DN]at iy
 rcases Jq s es l 0 0 gS with⟨a1,a2,a3⟩|⟨j,hj,dK,a1,a2,a3,a4,a5⟩
 ·let w':World:={w with heap:=w.heap.setIfInBounds b (.map (l++[(⟨.string s,v3,es.length⟩:MapEntry)]).toArray (es.length+1))}
  refine⟨.skip,w',M,.v undef,undef,_,?_,rfl,Mem.le.refl _,?_,.v _,rfl,rfl⟩
  ·have hu:l.toArray.push (⟨.string s,v3,es.length⟩:MapEntry)=(l++[(⟨.string s,v3,es.length⟩:MapEntry)]).toArray:=by apply YD;simp
   simp only[execOp,e1.1,e1.2.1,e1.2.2,Instr.mapUpdate,Sem.run_bind,aW ht,Result.andThen_ok,getObj,Sem.run,hh,aNC,Instr.findKey,aW hk,a1,Sem.run_pure,setObj,hu]
   rfl
  ·rw[a3,Z9,Zg,← aMT]
   refine hI.Aq (w':=w') (y:= .map (wE es++[(.string s,es.length,wA v)]) (es.length+1)) hl (fun k hk=> ?_) rfl rfl rfl (by simp[w']) hM ⟨hM,l++[⟨.string s,v3,es.length⟩],?_,?_,?_⟩
   ·simp only[w']
    rw[YW (fun e=>hk e.symm)]
   ·simp only[w']
    rw[XZ ax]
   ·simp[acW]
   ·simp only[Zz,ZC,Y5]
    exact RL.append adk (RL.cons h3 RL.nil)
 ·let f:MapEntry→MapEntry:=fun e=>{e with key:= .string s,val:=v3}
  let w':World:={w with heap:=w.heap.setIfInBounds b (.map (l.modify j f).toArray es.length)}
  refine⟨.skip,w',M,.v undef,undef,_,?_,rfl,Mem.le.refl _,?_,.v _,rfl,rfl⟩
  ·have hu:l.toArray.modify j f=(l.modify j f).toArray:=by simp
   have Nb:(l.toArray[j]?.map (·.key)).getD (.string s)= .string s:=by
    rw[X1,ZX dK];exact a4
   simp only[execOp,e1.1,e1.2.1,e1.2.2,Instr.mapUpdate,Sem.run_bind,aW ht,Result.andThen_ok,getObj,Sem.run,hh,aNC,Instr.findKey,aW hk,a1,Sem.run_pure,setObj,Zl,Nb,aNb,hu]
   show Result.ok Next.skip ({w with heap:=w.heap.setIfInBounds b (.map (l.toArray.modify j f) es.length)}:World)=_
   rw[hu]
  ·rw[a5,List.length_set]
   refine hI.Aq (w':=w') (y:= .map (wE (es.set j (s,v))) es.length) hl (fun k hk=> ?_) rfl rfl rfl (by simp[w']) hM ⟨hM,l.modify j f,?_,?_,?_⟩
   ·simp only[w']
    rw[YW (fun e=>hk e.symm)]
   ·simp only[w']
    rw[XZ ax]
   ·rw[DM]
    refine Ys ?_ fun i g1 g2=> ?_
    ·have:=Zy List.length gS;simpa using this
    ·have h6:i<l.length:=by simpa using g1
     have h7:i<es.length:=by simpa using g2
     have h5:=Zy (fun x=>x[i]?) gS
     simp[h6,h7]at h5
     simp only[ZF,List.getElem_modify,List.getElem_zipIdx,List.getElem_set,Zl]
     by_cases fV:j=i
     ·subst fV
      simp[f,h5.2]
     ·simp[fV,h5.1,h5.2]
   ·rw[DN]
    refine⟨?_,fun i g1 g2=> ?_⟩
    ·have:=iy.1;simpa using this
    ·have h6:i<l.length:=by simpa using g2
     have h7:i<es.length:=by simpa using g1
     have h5:=iy.2 i (by simpa using h7) (by simpa using h6)
     simp only[ZF,List.getElem_modify,List.getElem_set]at h5 ⊢
     by_cases fV:j=i
     ·subst fV
      simpa[f]using h3
     ·simpa[fV]using h5
end
section
variable {cfg:Nat→Nat}{K:ah→Store→Prop}{E:List PanicEntry→Store→Prop}{σ af:Store}{l:List CI}{d:Nat}{xr:XR}{ps:List Prop}{og:Option Bool}
theorem Tl{t:TypeId}{q:TI}{ty:TypeId}{m k:Operand}{tg b b' dE:Nat}{es:List (ae×Int)}{s:ae}(h:aL xr none [m,k]=some (og,[.dc tg b,sv s],ps))(hl:bo σ tg=some (b',.map (wE es) dE))(hb:b=b')(aw:OB ps)
  (kk:VX prog cfg l K E ((d,.s (wA (dU es s)))::xr) σ):VX prog cfg (⟨some d,.bS (.lookup t m k false) ty [.mp 9 240,q] [m,k],none⟩::l) K E xr σ:=by
 obtain⟨hc,he⟩:=cE h
 have cY:=qT h
 subst cY
 subst hb
 constructor
 simp only[fF,dP,ak,he aw rfl]
 refine(JX hl).mono fun y s ⟨e1,e2⟩=> ?_
 subst e1 e2
 exact kk.h
theorem Tx{t:TypeId}{q:TI}{ty:TypeId}{m k x:Operand}{tg b b':Nat}{es:List (ae×Int)}{s:ae}{v:Int}(h:aL xr none [m,k,x]=some (og,[.dc tg b,sv s,wA v],ps))(hl:bo σ tg=some (b',.map (wE es) es.length))(hb:b=b')(hu:rX σ tg b (.map (wE (iE es s v)) (iE es s v).length)=some af)(aw:OB ps)
  (kk:VX prog cfg l K E xr af):VX prog cfg (⟨none,.exts (.mapUpdate t m k x) ty [.mp 9 240,q] [m,k,x],none⟩::l) K E xr σ:=by
 obtain⟨hc,he⟩:=cE h
 have cY:=qT h
 subst cY
 subst hb
 constructor
 simp only[fF,dP,ak,he aw rfl]
 refine(SI hl).mono fun y s ⟨e1,e2⟩=> ?_
 rw[Ar hu]at e2
 subst e1 e2
 exact kk.h
theorem TR{t:TypeId}{q:TI}{ty:TypeId}{m k:Operand}{tg b b' dE:Nat}{es:List (ae×Int)}{s:ae}{l2:List CI}(h:aL xr none [m,k]=some (og,[.dc tg b,sv s],ps))(hl:bo σ tg=some (b',.map (wE es) dE))(hb:b=b')(aw:OB ps)
  (kk:VY prog cfg [] (bare l2) (Cl K) ((d,.s (wA (dU es s)))::xr) σ):VY prog cfg [] [] (Ek prog cfg K ⟨some d,.bS (.lookup t m k false) ty [.mp 9 240,q] [m,k],none⟩ l2) xr σ:=by
 obtain⟨hc,he⟩:=cE h
 have cY:=qT h
 subst cY
 subst hb
 refine⟨wA (dU es s),?_,kk.h⟩
 unfold QV
 simp only[dP,ak,he aw rfl]
 exact JX hl
end
end Go.Proofs.YtomhopcnkicknaaGreatDoor
set_option maxHeartbeats 4000000
namespace Go.Proofs.YtomhopcnkicknaaGreatDoor
open _root_.Go.Proofs.Tryz
section
open Go.RowKit Go.Proofs Go.Tb Go.Maps Go.Sort
def nV(v:Value):Option (DataW Unit×List MemPlace):=match v with
 | .agg cs=>match cs.toList with
  |[.int .i64 h,.int .u64 l]=>some (.agg [.lit (.int .i64 h),.lit (.int .u64 l)],[])
  |_=>none
 |_=>none
def RW(c:Int×Int):Value:= .agg #[.int .i64 c.1,.int .u64 c.2]
theorem aMX{v:Value}{y:DataW Unit×List MemPlace}(h:nV v=some y):∃ c,v=RW c:=by
 unfold nV at h
 split at h
 ·rename_i cs
  split at h
  ·rename_i hh ll e
   exact⟨(hh,ll),Zy Value.agg (by apply YD;simpa using e)⟩
  ·cases h
 ·cases h
theorem aLE{w:World}{b n:Nat}{D:DataW Unit}(ep:w.ownsMap prog 9 nV b n D)(pQ:Maps.size D≤1000):Calls prog 257 #[.map (some b)] w fun e w'=>
  ∃ (v:Value) (ss:List (List UInt8)),e= .returned v∧ss.Perm (strKeys D)∧w'.ownsRow w.heap.size 9 1 v ss.length ((ss.mergeSort (fun x y=>decide (x≤y))).map encStr)∧Below w.heap.size w w':=by
 obtain⟨i0,hi,fX,cj,dt⟩:=info_parts Dv
 have fU:=ep.lt
 go_enter func257,ntmps257
 go_wp2_with (at_range;refine wpList_range_own _ rfl _ 238 rfl 9 240 (string_keyed underlying9) underlying238 _ b n _ rfl ep ?_;intro w0 oL nh pT)
 go_frame
 go_loopw [3] (fun v wr=>∃ (left:Lit→Bool) (aY:Nat) (ss:List (List UInt8)),wr.ranges prog 9 nV b w.heap.size n D left aY∧ss.length+aY≤Maps.size D∧wr.ownsRow w.heap.size 9 1 v ss.length (ss.map encStr)∧Collected D left ss∧Below w.heap.size w wr) (fun _ wr=>wr.rangeLeft b w.heap.size)
 case atStart=>exact⟨_,_,[],oL,by simp,⟨by simp,.inl ⟨rfl,rfl⟩⟩,Collected.start D,(Below.refl _ _).grown nh (ZR _) (fun j hj=>by cases hj)⟩
 obtain⟨left,aY,ss,tI,iU,fW,hC,lH⟩:=hrel
 go_wp2_with (at_next;refine wpList_next_ranges _ rfl _ rfl 9 (string_keyed underlying9) nV encStr RW (fun key kl hk=>by obtain⟨x,hx,_⟩:=Maps.keyOf_str underlying9 hk;exact⟨x,hx⟩) (fun v y hv=>aMX hv) b w.heap.size n _ _ _ rfl tI ?_ ?_)
 ·intro gC jq
  rcases fW.2 with⟨nr,hn0⟩|⟨g,cap,cur,rfl,vH,hb,h1,h2,h3,h4⟩
  ·subst nr
   have iw:ss=[]:=ZM hn0
   subst iw
   have hc:Calls prog 82 #[.slice none 0 0] wr _:=AnyM.slices_Sort_string_none Tryz.sort82 none 0 wr
   go_wp2_with (go_at_call 82;refine hc.mono ?_;rintro e w' ⟨rfl,rfl⟩)
   go_ret
   exact⟨_,[],rfl,hC.perm ep (string_keyed underlying9) underlying9 jq,(by rw[List.mergeSort_nil];exact fW),lH⟩
  ·have hH:Holds encStr wr g 0 ss.toArray:=holds_of_block hb (by simpa using h4)
   have hgl:g<wr.heap.size:=(Z0.1 hb).1
   have hc:Calls prog 82 #[.slice (some ⟨g,0,none⟩) ss.length cap] wr _:=AnyM.slices_Sort_string Tryz.sort82 g 0 cap ss wr hH hgl (by omega)
   go_wp2_with (go_at_call 82;refine hc.mono ?_;rintro e w' ⟨rfl,nn,os,rfl⟩)
   go_ret
   exact⟨_,ss,rfl,hC.perm ep (string_keyed underlying9) underlying9 jq,ownsRow_sorted (by simp) vH hb h1 h2 h3,lH.grown (grownBy_sorted _) lH.size (fun j hj=>by cases hj;exact vH)⟩
 ·intro x c1 c2 kl yd yp w2 Xd yN yQ hv jN Ny ax il dL vM
  obtain⟨x',ex,rfl,_⟩:=Maps.keyOf_str underlying9 yN
  obtain rfl:x=x':=encStr_inj ex
  have Cn:=fW.kept il (Or.inr (row_ne_iter fW tI).symm)
  clear dL
  go_wp2_with (at_builtin;refine wpList_append_own _ rfl _ _ 67 rfl w.heap.size 9 i0 (.string ⟨#[]⟩) 1 16 underlying67 hi fX cj dt rfl (by decide) _ _ _ rfl (Cn.alloc _) ⟨w2.heap.size,0,none⟩ 1 1 [encStr x] rfl rfl (cell_one_new _ _ _) (by simp[Value.oneCell',encStr]) (by unfold maxLen at *;omega) (by omega) (by have:=lH.size;have:=il.size;simp;omega) ?_;intro v' w3 Cj oE aNt;go_frame)
  have Nz:=(Ny.alloc _).kept oE (row_ne_low Cn fU) (row_ne_iter Cn Ny)
  go_roundw
  case rel=>
   refine⟨_,Xd,ss++[x],Nz,by simp;omega,by simpa using Cj,hC.step yQ jN,?_⟩
   exact((lH.grown il lH.size (fun j hj=>by cases hj;exact ZR _)).alloc (by have:=lH.size;have:=il.size;omega) _).grown oE (by have:=lH.size;have:=il.size;simp;omega) (fun j hj=>(Cn.lt j hj).1)
  case measure=>rw[Nz.left_eq,tI.left_eq];exact ax
end
section
open Go.Sx Go.Proofs Go.Tb Go.RowKit Go.Maps
theorem aMY{n:Int}:nV (wv n)=some (.agg [.lit (.int .i64 (eo n)),.lit (.int .u64 (dz n))],[]):=rfl
theorem aMR{M:Mem}{l:List MapEntry}{es:List (ae×Int)}(hk:l.map (fun e=>(e.key,e.born))=(wE es).map (fun e=>(e.1,e.2.1)))(hv:RL M ((wE es).map (·.2.2)) (l.map (·.val))):l.length=es.length∧∀ i (h:i<l.length) (h':i<es.length),l[i].key= .string es[i].1∧l[i].born=i∧l[i].val=wv es[i].2:=by
 rw[DM]at hk
 rw[DN]at hv
 refine⟨by have:=Zy List.length hk;simpa using this,fun i h h'=> ?_⟩
 have h5:=Zy (fun x=>x[i]?) hk
 simp[h,h']at h5
 have h6:=hv.2 i (by simpa using h') (by simpa using h)
 simp only[ZF]at h6
 exact⟨h5.1,h5.2,C5 h6⟩
theorem Jl{e:MapEntry}{s:ae}{n:Int}(g1:e.key= .string s)(g3:e.val=wv n)(g4:s.size≤maxLen):WideElems.rd prog 9 nV e=some (ky s,.agg [.lit (.int .i64 (eo n)),.lit (.int .u64 (dz n))]):=by
 unfold WideElems.rd
 simp only[g1,g3,WideMaps.keyOf_string_mk underlying9 g4,Option.bind_some,aMY,Zc]
 rfl
theorem aMS{l:List MapEntry}{es:List (ae×Int)}(hlen:l.length=es.length)(jN:∀ i (h:i<l.length) (h':i<es.length),l[i].key= .string es[i].1∧l[i].born=i∧l[i].val=wv es[i].2)(hn:(es.map Prod.fst).Nodup)(hs:∀ p∈es,p.1.size≤maxLen)(hl:es.length≤1000):
  WideElems.Fit prog 9 nV l.toArray es.length:=by
 refine⟨by simp;unfold maxLen;omega,⟨fun x hx=> ?_,?_,?_⟩,fun x hx=> ?_⟩
 ·obtain⟨i,hi,rfl⟩:=Y3.1 hx
  have dw:i<l.length:=by simpa using hi
  simp only[]
  rw[(jN i dw (by omega)).2.1];omega
 ·have e:l.toArray.toList.map (fun x=>x.born)=List.range es.length:=by
   refine Ys (by simp[hlen]) fun i h1 h2=> ?_
   have dw:i<l.length:=by simpa using h1
   simp[(jN i dw (by omega)).2.1]
  rw[e];exact List.nodup_range
 ·have e:l.toArray.toList.map (fun x=>x.key)=(es.map Prod.fst).map Value.string:=by
   refine Ys (by simp[hlen]) fun i h1 h2=> ?_
   have dw:i<l.length:=by simpa using h1
   simp[(jN i dw (by omega)).1]
  rw[e]
  exact XC.2 (hn.imp fun h e=>h (by injection e))
 ·obtain⟨i,hi,rfl⟩:=Y3.1 hx
  have dw:i<l.length:=by simpa using hi
  obtain⟨g1,g2,g3⟩:=jN i dw (by omega)
  exact⟨_,Jl g1 g3 (hs es[i] (Zf (by omega)))⟩
theorem aLD{σ:Store}{tg b:Nat}{es:List (ae×Int)}(hl:bo σ tg=some (b,.map (wE es) es.length))(hn:(es.map Prod.fst).Nodup)(hs:∀ p∈es,p.1.size≤maxLen)(hz:es.length≤1000):
  Sx.Spec prog 257 [.dc tg b] σ fun r af=>r= .ret (jA (fQ (es.map Prod.fst)))∧af=σ:=by
 intro M w0 w cs hI hR
 obtain⟨v,rfl,h1⟩:=RL.eJ hR
 have g1:=h1.tZ
 subst g1
 obtain⟨hM,l,hh,gS,iy⟩:=hI.s3 hl
 obtain⟨hlen,jN⟩:=aMR gS iy
 have hF:=aMS hlen jN hn hs hz
 have ep:=World.ownsMap_of_fit (R:=nV) hh hF (fun x _ z h=>h)
 have bC:=ep.size_le
 have kP:l.toArray.size≤1000:=by simp;omega
 refine(aLE ep (by omega)).mono fun e w' ⟨v,ss,he,hp,fW,hb⟩=> ?_
 have hk:∀ s:ae,s.size≤maxLen→has (DataW.map (List.foldr DataW.insert [] (List.map (WideElems.rg prog 9 nV) l.toArray.toList))) (ky s)=decide (s∈es.map Prod.fst):=fun s pS=>by
  rw[Yy,has_eq,YC,decide_eq_true_iff]
  constructor
  ·rintro⟨p,hp,ada⟩
   rw[mem_sorted]at hp
   obtain⟨x,hx,rfl⟩:=Y9.1 hp
   obtain⟨i,hi,rfl⟩:=Y3.1 hx
   have dw:i<l.length:=by simpa using hi
   obtain⟨g1,g2,g3⟩:=jN i dw (by omega)
   have nA:=Jl g1 g3 (hs es[i] (Zf (by omega)))
   have e:=WideAt.sameKey_eq ada
   unfold WideElems.rg at e
   simp only[List.getElem_toArray,nA,Zu]at e
   have e2:=Oo e
   rw[← e2]
   exact Y9.2 ⟨_,Zf (by omega),rfl⟩
  ·intro h
   obtain⟨p,hp,rfl⟩:=Y9.1 h
   obtain⟨i,hi,rfl⟩:=Y3.1 hp
   obtain⟨g1,g2,g3⟩:=jN i (by omega) hi
   have nA:=Jl g1 g3 (hs es[i] hp)
   refine⟨WideElems.rg prog 9 nV l[i],mem_sorted.2 (Y9.2 ⟨l[i],by simp,rfl⟩),?_⟩
   unfold WideElems.rg
   rw[nA]
   exact WideAt.sameKey_self (vZ _)
 obtain⟨S,g1,g2,g3⟩:=aND underlying9 ep (L:=es.map Prod.fst) (fun s h=>by obtain⟨p,hp,rfl⟩:=Y9.1 h;exact hs p hp) hk hp fW
 have hS:S=fQ (es.map Prod.fst):=mH g1 (wP _) fun x=>by rw[g2,wO]
 refine⟨lO M w.heap.size w',.ret (jA (fQ (es.map Prod.fst))),σ,Hx hI,N3 hI hb,?_,rfl,rfl⟩
 subst he
 rw[← hS]
 exact zS g3 (ZR _)
end
end Go.Proofs.YtomhopcnkicknaaGreatDoor
namespace Go.Proofs.YtomhopcnkicknaaGreatDoor
open Go.Sx Go.Proofs Go.Tb
def jH(es:List (ae×Int))(f:ar):List (ae×Int):=iE es f.name (dU es f.name+f.exp)
def iF(l:List ar):List (ae×Int):=l.foldl jH []
theorem aLU{l:List ar}{i:Nat}(h:i<l.length):iF (l.take (i+1))=jH (iF (l.take i)) (l.getD i default):=by
 unfold iF
 rw[ZV h,List.foldl_append,← getD_eq h];rfl
theorem Md(s t:ae)(v:Int):∀ es,dU (iE es s v) t=if t=s then v else dU es t
 |[]=>by
  simp only[iE,dU]
  grind
 |p::es=>by
  have ih:=Md s t v es
  by_cases hp:p.1=s
  ·subst hp
   simp only[iE,YV,dU]
   grind
  ·simp only[iE,Z6 hp,dU]
   grind
theorem PS(s:ae)(v:Int):∀ es,(iE es s v).map Prod.fst=if s∈es.map Prod.fst then es.map Prod.fst else es.map Prod.fst++[s]
 |[]=>by rfl
 |p::es=>by
  have ih:=PS s v es
  by_cases hp:p.1=s
  ·subst hp;simp[iE]
  ·have nw:¬s=p.1:=fun e=>hp e.symm
   simp only[iE,Z6 hp,ZC,ih,ZQ,nw,false_or]
   grind
theorem Lw(f:ar)(l:List ar)(s:ae):bQ (f::l) s=(if f.name=s then f.exp else 0)+bQ l s:=by
 unfold bQ
 by_cases h:f.name=s
 ·simp[h]
 ·simp[h]
theorem Mc(s:ae):∀ (l:List ar) (es:List (ae×Int)),dU (l.foldl jH es) s=dU es s+bQ l s
 |[],es=>by simp[bQ]
 |f::l,es=>by
  rw[List.foldl_cons,Mc s l,Lw,jH,Md]
  grind
theorem Fq(l:List ar)(s:ae):dU (iF l) s=bQ l s:=by unfold iF;rw[Mc];simp[dU]
theorem QO:∀ (l:List ar) (es:List (ae×Int)),(es.map Prod.fst).Nodup→((l.foldl jH es).map Prod.fst).Nodup∧(∀ s,s∈(l.foldl jH es).map Prod.fst↔s∈es.map Prod.fst∨s∈l.map ar.name)∧(l.foldl jH es).length≤es.length+l.length
 |[],es,h=>⟨h,fun s=>by simp,ZR _⟩
 |f::l,es,h=>by
  have hk:=PS f.name (dU es f.name+f.exp) es
  have hl:(jH es f).length≤es.length+1:=by
   have h2:=Zy List.length hk
   unfold jH
   grind
  have hm:∀ s,s∈(jH es f).map Prod.fst↔s∈es.map Prod.fst∨s=f.name:=fun s=>by
   unfold jH;grind
  have hn:((jH es f).map Prod.fst).Nodup:=by
   unfold jH;grind
  obtain⟨g1,g2,g3⟩:=QO l (jH es f) hn
  grind
theorem vj(s:ae):∀ (l:List ar),(∀ f∈l, -8≤f.exp∧f.exp≤8)→-8 * (l.length:Int)≤bQ l s∧bQ l s≤8 * (l.length:Int)
 |[],_=>by simp[bQ]
 |f::l,h=>by
  have h1:=vj s l fun f hf=>h f (ZL _ hf)
  have h2:=h f Zv
  rw[Lw,Z8]
  split<;>omega
def eK(du:Nat)(rows:List (List AV))(x:AV)(τ:Store):Prop:=(rows=[]∧x=dM∧τ=[])∨∃ b u c,x= .own 2 du b u c rows∧τ=[(du,b,.tail u c)]
theorem eK.z{du:Nat}:eK du [] dM []:= .inl ⟨rfl,rfl,rfl⟩
theorem eK.n{du:Nat}{rows:List (List AV)}(h:rows=[]):eK du rows dM []:= .inl ⟨h,rfl,rfl⟩
theorem eK.s{du b u c:Nat}{rows rows':List (List AV)}(h:rows'=rows):eK du rows (.own 2 du b u c rows') [(du,b,.tail u c)]:= .inr ⟨b,u,c,by rw[h],rfl⟩
def mn(l:List ar)(L:List ae):List ar:=(L.map fun n=>(⟨n,bQ l n⟩:ar)).filter fun f=>decide (f.exp≠0)
theorem LD{l:List ar}{N:List ae}{i:Nat}(h:i<N.length):mn l (N.take (i+1))=mn l (N.take i)++if bQ l (N.getD i default)≠0 then[⟨N.getD i default,bQ l (N.getD i default)⟩]else[]:=by
 unfold mn
 rw[ZV h,← getD_eq h,Zz,XF,List.map_singleton,List.filter_cons]
 simp
theorem LC(l:List ar)(L:List ae):(mn l L).length≤L.length:=ZJ (Yw _ _) (by rw[Z7];exact ZR _)
theorem agT(l:List ar)(hw:∀ f∈l,Word f.name)(hb:∀ f∈l, -8≤f.exp∧f.exp≤8)(hl:l.length≤8):Pure Tryz.prog 251 [.sl false 2 (l.map ar.cells)] (qy (qj l)):=by
 refine afA.p fun σ=> ?_
 repeat'(first|exact .nil|refine .k0 ?_|refine .k1 ?_|refine .k2 ?_|refine .k6 ?_|refine .r1 ?_ ?_|(refine .m2 ?_ ?_;intro hlen)|(refine .l3 ?_;intro b)|fail)
 all_goals(try simp only[BL]at *)
 rename Nat=>b1
 refine aH (fun m rg af=>∃ (i:Nat),i≤l.length∧m=l.length-i∧af=(11,b1,.map (wE (iF (l.take i))) (iF (l.take i)).length)::σ∧rg=[(2,dM),(4,.dc 11 b1),(12,.sl false 2 (l.map ar.cells)),(13,iv l.length),(14,iv i)]) l.length rfl ⟨_,_,Zr,Zs,0,Z1 _,rfl,rfl,rfl⟩ ?_
 rintro m _ _ ⟨i,hi,hm,rfl,rfl⟩
 have s8:i<l.length→-1000≤(l.getD i default).exp∧(l.getD i default).exp≤1000:=fun h=>by
  have:=hb _ (bu h);omega
 have yi:∀ s, -1000≤dU (iF (l.take i)) s∧dU (iF (l.take i)) s≤1000:=fun s=>by
  have h1:=vj s (l.take i) fun f hf=>hb f (YZ hf)
  rw[Z4]at h1
  rw[Fq];omega
 repeat'((fail_if_success (show WK _ _ _ _ (.cG _) _ _ _));(first|exact .nil|refine .k0 ?_|refine .k1 ?_|refine .k2 ?_|refine .k6 ?_|refine .k7 ?_|refine .k8 ?_|refine .k9 ?_|(refine .cd ?_ ?_<;>(intro hc;skip))|refine .r1 ?_ ?_|(refine .l1 ?_;intro b)|refine .t1 ?_ ?_ ?_|refine .an rfl (by intro aq;first|exact R2 _|fail) ?_ ?_|fail))
 try any_goals((intro aq;first|(simp_all;done)|fail))
 all_goals(try simp only[BL]at *)
 ·exact absurd (hw _ (bu (by omega))) hc
 ·have bp:i<l.length:=by omega
  refine Uc 28 rfl rfl rfl ?_
  repeat'(first|exact .nil|refine .k0 ?_|refine .r1 ?_ ?_|fail)
  refine TR rfl rfl rfl OB.nil ?_
  repeat'(first|exact .nil|refine .k0 ?_|refine .k1 ?_|refine .k2 ?_|refine .r1 ?_ ?_|refine .an rfl (by intro aq;first|exact aNE (s8 (by first|omega|fail))|exact Wf (yi _) (s8 (by first|omega|fail))|fail) ?_ ?_|fail)
  all_goals(try simp only[BL]at *)
  refine Tx (es:=iF (l.take i)) (s:=(l.getD i default).name) (v:=dU (iF (l.take i)) (l.getD i default).name+(l.getD i default).exp) rfl rfl rfl rfl OB.nil ?_
  repeat'(first|exact .nil|refine .k0 ?_|refine .k1 ?_|refine .k2 ?_|refine .r1 ?_ ?_|fail)
  all_goals(try simp only[BL]at *)
  refine⟨m-1,by omega,_,(11,b1,.map (wE (iF (l.take (i+1)))) (iF (l.take (i+1))).length)::σ,Zr,by rw[aLU bp];repeat' first|exact .refl _|refine .cons ?_,i+1,by omega,by omega,rfl,by rw[aO (n:=l.length) (by omega) (by assumption)]⟩
 ·have bp:i=l.length:=by omega
  subst bp
  rw[Yu]
  have hK:=QO l [] XB
  have yR:fQ ((iF l).map Prod.fst)=fQ (l.map ar.name):=mH (wP _) (wP _) fun x=>by
   rw[wO,wO];exact(hK.2.1 x).trans (by simp)
  refine A3 rfl (aLD (es:=iF l) rfl hK.1 (fun p hp=> ?_) (by have:=hK.2.2;simp only[Z5]at this;show(l.foldl jH []).length≤_;omega)) OB.nil (fun x af hR=> ?_) (fun ch af hR=> ?_)
  ·have h1:=(hK.2.1 p.1).1 (Y9.2 ⟨p,hp,rfl⟩)
   rcases h1 with h1|h1
   ·cases h1
   ·obtain⟨f,hf,e⟩:=Y9.1 h1
    have:=(hw f hf).2.1
    rw[← e];unfold maxLen;omega
  rotate_left
  ·exact nomatch hR.1
  obtain⟨e1,e2⟩:=hR
  cases e1
  subst e2
  rw[yR]
  have tc:qj l=if∃ n∈fQ (l.map ar.name),bQ l n>8∨bQ l n< -8 then([],70)else if(mn l (fQ (l.map ar.name))).length>4 then([],2)else(mn l (fQ (l.map ar.name)),0):=rfl
  have Mw:(fQ (l.map ar.name)).length≤8:=by
   have:=gn (wR (wP (l.map ar.name))) fun x hx=>wO.1 hx
   rw[Z7]at this;omega
  generalize fQ (l.map ar.name)=N at *
  repeat'(first|exact .nil|refine .k0 ?_|refine .k1 ?_|refine .k6 ?_|refine .r1 ?_ ?_|(refine .m2 ?_ ?_;intro hlen)|fail)
  all_goals(try simp only[BL]at *)
  clear s8 yi yR hK hi hm hc
  have BO:∀ s, -1000≤dU (iF l) s∧dU (iF l) s≤1000:=fun s=>by
   have h1:=vj s l hb
   rw[Fq];omega
  have hG:=fun s=>Fq l s
  generalize iF l=es at *
  refine aH (fun m rg af=>∃ (i:Nat) (x:AV) (τ:Store),i≤N.length∧m=N.length-i∧(∀ n∈N.take i,¬(bQ l n>8∨bQ l n< -8))∧eK 61 ((mn l (N.take i)).map ar.cells) x τ∧af=τ++(11,b1,.map (wE es) es.length)::σ∧rg=[(2,x),(4,.dc 11 b1),(35,jA N),(36,iv N.length),(37,iv i)]) N.length rfl ⟨_,_,Zr,Zs,0,_,_,Z1 _,rfl,(fun n h=>by cases h),eK.z,rfl,rfl⟩ ?_
  rintro m2 _ _ ⟨i,x,τ,hi,hm,hP,hR,rfl,rfl⟩
  have yD:(mn l (N.take i)).length≤8:=ZJ (LC _ _) (by rw[Z4];omega)
  have fy:=fun(h:i<N.length)=>LD (l:=l) h
  have yk:i<N.length→¬(bQ l (N.getD i default)>8∨bQ l (N.getD i default)< -8)→∀ n∈N.take (i+1),¬(bQ l n>8∨bQ l n< -8):=fun h h1 n hn=>by
   rw[ZV h,← getD_eq h,ZI,Zq]at hn
   rcases hn with hn|rfl
   ·exact hP n hn
   ·exact h1
  rcases hR with⟨hE,rfl,rfl⟩|⟨b3,u3,c3,rfl,rfl⟩
  all_goals
   repeat'(first|exact .nil|refine .k0 ?_|refine .k1 ?_|refine .k2 ?_|refine .k6 ?_|refine .k7 ?_|refine .k8 ?_|refine .k9 ?_|(refine .cd ?_ ?_<;>(intro hc;skip))|refine .r1 ?_ ?_|(refine .m2 ?_ ?_;intro hlen)|refine .t1 ?_ ?_ ?_|refine .r8 ?_ ?_|fail)
   refine Tl rfl rfl rfl OB.nil ?_
   repeat'(first|exact .nil|refine .k0 ?_|refine .k1 ?_|refine .k2 ?_|refine .k7 ?_|refine .k9 ?_|(refine .cd ?_ ?_<;>(intro hc;skip))|refine .r1 ?_ ?_|refine .u1 ?_ ?_ ?_ (fun b u c=> ?_)|refine .u2 ?_ ?_ ?_ (fun b u c=> ?_)|refine .an rfl (by intro aq;first|exact Pv _ 8 (by decide)|exact aaW (BO _)) ?_ ?_|(show List.all _ _=true;rfl)|fail)
   try any_goals((intro aq;first|(simp_all;done)|fail))
   all_goals(try simp only[BL]at *)
   ·rw[tc,Z3 ⟨N.getD i default,bu (by omega),by rw[hG]at hc;exact hc⟩]
    exact Zw
   ·show _≤1000000;simp only[Z8,Z5];omega
   ·show _ * _≤_;simp only[Z7,Z8,Z5];omega
   ·have np:¬(dU es (N.getD i default)>8∨dU es (N.getD i default)< -8):=by assumption
    rw[hG]at hc np
    refine⟨m2-1,by omega,_,_,Zr,Zs,i+1,_,_,by omega,by omega,yk (by omega) np,eK.s ?_,rfl,by rw[aO (n:=N.length) (by omega) (by assumption)]⟩
    rw[fy (by omega),Z3 hc,Zz,hG]
    first|(rw[hE];rfl)|rfl
   ·have np:¬(dU es (N.getD i default)>8∨dU es (N.getD i default)< -8):=by assumption
    rw[hG]at hc np
    refine⟨m2-1,by omega,_,_,Zr,Zs,i+1,_,_,by omega,by omega,yk (by omega) np,?_,rfl,by rw[aO (n:=N.length) (by omega) (by assumption)]⟩
    rw[fy (by omega),Z6 (by rw[hc];simp),Zb]
    first|exact eK.n hE|exact eK.s rfl
   ·have fi:N.take i=N:=ZU (by omega)
    rw[fi]at hP
    try rw[fi]at hE
    try rw[fi]at hc
    try rw[fi]
    rw[tc,Z6 (by rintro⟨n,hn,cx⟩;exact hP n hn cx)]
    first
     |exact absurd hc (by decide)
     |(rw[Z3 (by omega)];(refine Sx.Fin.wk Zs ?_;repeat' first|exact .refl _|exact .nil|refine .cons ?_ ?_|refine .aE ?_|fail))
   ·have fi:N.take i=N:=ZU (by omega)
    rw[fi]at hP
    try rw[fi]at hE
    try rw[fi]at hc
    try rw[fi]
    rw[tc,Z6 (by rintro⟨n,hn,cx⟩;exact hP n hn cx)]
    first
     |(rw[Ym.1 hE,Z6 (by decide)];refine Sx.Fin.wk Zs (.aE (.cons .nil (.cons (.refl _) .nil)));done)
     |(rw[Z6 (by omega)];(refine Sx.Fin.wk Zs ?_;repeat' first|exact .refl _|refine .cons ?_ ?_|refine .aE ?_|exact .own _))
end Go.Proofs.YtomhopcnkicknaaGreatDoor
namespace Go.Proofs.YtomhopcnkicknaaGreatDoor
open _root_.Go.Proofs.Tryz
section
open Go.RowKit Go.Proofs Go.Tb Go.Shelf
theorem abr:(prog.info? 135).map (fun i=>(i.zero,i.size,i.bytes))=some (some (.agg #[.string ⟨#[]⟩,.int .i64 0]),2,24):=by kernel_rfl
theorem W9{w:World}{ad:Addr}{n c:Nat}{news:List Value}(hlen:news.length=n * 2)(hc:∀ j u,news[j]? =some u→w.cell? (ad.add j)=some u)(h1:∀ u∈news,u.oneCell'=true)(hn:n≤8):
  Calls prog 250 #[.slice (some ad) n c] w fun e w'=>∃ v',e= .returned v'∧w'.ownsRow w.heap.size 135 2 v' n news∧v'≠.slice none 0 0∧Below w.heap.size w w':=by
 obtain⟨i0,hi,fX,cj,dt⟩:=info_parts abr
 have q22:∀ (w:World) (a:Option Addr) (n c n' c':Nat),(binOp .eql 33 (.slice a n c) (.slice none n' c')).run prog w= .ok (.bool a.isNone) w:=fun w a n c n' c'=>Lib.run_eql_slice_nil w _ _ a n c n' c' underlying33
 have A:Aside (∀ j u,news[j]? =some u→w.cell? (ad.add j)=some u):=hc
 clear hc
 go_enter func250,ntmps250
 go_wp2_with (at_builtin;refine wpList_append_own _ rfl _ _ 33 rfl w.heap.size 135 i0 (.agg #[.string ⟨#[]⟩,.int .i64 0]) 2 24 underlying33 hi fX cj dt rfl (by decide) _ _ _ rfl (World.ownsRow_made w #[] 0 (ZR _) (Z1 _) rfl) ad n c news rfl hlen ?qc2 h1 ?qc4 ?qc5 ?qc6 ?_)
 case qc2=>
  intro j u hj
  exact Lib.cell?_alloc_some _ (A.out j u hj)
 case qc4=>unfold maxLen;omega
 case qc5=>omega
 case qc6=>simp
 intro v' w1 ep yG nr
 go_wp2
 go_ret
 refine⟨v',rfl,by simpa using ep,?_,?_⟩
 ·first|exact nr|fail
 ·exact((Below.refl _ w).alloc (ZR _) _).grown yG (by simp) (by intro k hk;simp[Value.ownBlock]at hk;omega)
theorem W8(n c:Nat)(w:World):Calls prog 250 #[.slice none n c] w fun e w'=>e= .returned (.slice none 0 0)∧w'=w:=by
 have q22:∀ (w:World) (a:Option Addr) (n c n' c':Nat),(binOp .eql 33 (.slice a n c) (.slice none n' c')).run prog w= .ok (.bool a.isNone) w:=fun w a n c n' c'=>Lib.run_eql_slice_nil w _ _ a n c n' c' underlying33
 go_enter func250,ntmps250
 go_wp2
 go_ret
 exact⟨rfl,rfl⟩
end
section
open Go.Sx Go.Proofs Go.Tb Go.RowKit
def nG(M:Mem)(g u:Nat)(w':World):Mem:=fun b o=>if b=g∧o<u then w'.cell? ⟨b,o,none⟩else M b o
theorem Hy{M:Mem}{w0:Base}{w w':World}{σ:Store}{g u:Nat}(hI:Inv prog M w0 σ w)(hg:w.heap.size≤g):M.le (nG M g u w'):=fun b o v h=>by
 have:=World.block_lt_of_cell? _ _ (hI.cQ b o v h)
 unfold nG
 rw[Z6 (by simp at this;omega)];exact h
theorem adL{M:Mem}{w0:Base}{w w':World}{σ:Store}{g u du:Nat}{cur:Array Value}{ty:TypeId}(hI:Inv prog M w0 σ w)(hb:Below w.heap.size w w')(hg:w.heap.size≤g)(hh:w'.heap[g]? =some (.cells cur ty (0,0)))(hu:u≤cur.size):
  Inv prog (nG M g u w') w0 ((du,g,.tail u cur.size)::σ) w':=by
 have h1:=hI.after hb
 have hle:=Hy (w':=w') (u:=u) hI hg
 have Ga:∀ o,M g o=none:=fun o=>by
  cases h:M g o with
  |none=>rfl
  |some v=>
   have:=World.block_lt_of_cell? _ _ (hI.cQ g o v h)
   simp at this;omega
 have ax:∀ e∈σ,e.2.1<w.heap.size:=fun e he=>by
  obtain⟨_,g3⟩:=hI.st e he
  cases hx:e.2.2 with
  |cells l=>rw[hx]at g3;obtain⟨_,cs,t,a2,_⟩:=g3;exact(Z0.1 a2).1
  |tail u c=>rw[hx]at g3;obtain⟨_,cs,t,a2,_⟩:=g3;exact(Z0.1 a2).1
  |map es k=>rw[hx]at g3;obtain⟨_,l,a2,_⟩:=g3;exact(Z0.1 a2).1
 refine⟨h1.os,h1.tape,h1.output,h1.size,h1.old,fun b o v h=> ?_,fun e he=> ?_,?_,fun g l hl=>(h1.gl g l hl).mono hle,h1.gw,fun b o v hv ax=>h1.bm b o v (by unfold nG at hv;rwa [Z6 (by have:=hI.size;omega)]at hv) ax⟩
 ·unfold nG at h
  split at h
  ·exact h
  ·exact h1.cQ b o v h
 ·rcases ZQ.1 he with rfl|he
  ·refine⟨ZJ hI.size hg,fun o ho=> ?_,cur,ty,hh,rfl,hu⟩
   unfold nG
   rw[Z6 (by omega)];exact Ga o
  ·obtain⟨g1,g2⟩:=h1.st e he
   have h4:=ax e he
   refine⟨g1,?_⟩
   have hN:∀ o,nG M g u w' e.2.1 o=M e.2.1 o:=fun o=>by unfold nG;rw[Z6 (by omega)]
   cases hx:e.2.2 with
   |cells l=>rw[hx]at g2;obtain⟨a1,cs,t,a2,a3⟩:=g2;exact⟨fun o=>(hN o).trans (a1 o),cs,t,a2,a3.mono hle⟩
   |tail u c=>rw[hx]at g2;obtain⟨a1,cs,t,a2,a3⟩:=g2;exact⟨fun o ho=>(hN o).trans (a1 o ho),cs,t,a2,a3⟩
   |map es k=>rw[hx]at g2;obtain⟨a1,l,a2,a3,a4⟩:=g2;exact⟨fun o=>(hN o).trans (a1 o),l,a2,a3,a4.mono hle⟩
 ·simp only[ZC,YX]
  refine⟨fun h=> ?_,h1.nd⟩
  obtain⟨e,he,heq⟩:=Y9.1 h
  have:=ax e he
  omega
theorem Xb(l:List ar)(hl:l.length≤8)(σ:Store):Sx.Spec prog 250 [.sl false 2 (l.map ar.cells)] σ fun r af=>(l=[]∧r= .ret dM∧af=σ)∨∃ g u c,r= .ret (.own 2 40 g u c (l.map ar.cells))∧af=(40,g,.tail u c)::σ:=by
 intro M w0 w cs hI hR
 obtain⟨v,rfl,h1⟩:=RL.eJ hR
 have key:∀ (ad:Addr) (c:Nat) (f:Nat→Value),(∀ k,k<l.length * 2→w.cell? (ad.add k)=some (f k))→(∀ i (h:i<(l.map ar.cells).length) j (h2:j<((l.map ar.cells)[i]).length),R M ((l.map ar.cells)[i])[j] (f (i * 2+j)))→v= .slice (some ad) l.length c→
   Calls prog 250 #[v] w fun e w'=>∃ M' r af,M.le M'∧Inv prog M' w0 af w'∧sy M' r e∧((l=[]∧r= .ret dM∧af=σ)∨∃ g u c,r= .ret (.own 2 40 g u c (l.map ar.cells))∧af=(40,g,.tail u c)::σ):=fun ad c f hf hr hv=>by
  subst hv
  have oK:∀ i (h:i<l.length),f (i * 2)= .string l[i].name∧f (i * 2+1)= .int .i64 l[i].exp:=fun i h=>by
   have a0:=hr i (by simpa using h) 0 (by simp[ar.cells])
   have a1:=hr i (by simpa using h) 1 (by simp[ar.cells])
   simp only[ZF]at a0 a1
   exact⟨a0.aC,a1.aC⟩
  refine(W9 (w:=w) (ad:=ad) (n:=l.length) (c:=c) (news:=(List.range (l.length * 2)).map f) (by simp) (fun j u hj=> ?_) (fun u hu=> ?_) hl).mono fun e w' ⟨v',he,ep,hnn,hb⟩=> ?_
  ·have kM:j<l.length * 2:=by have:=(ZE.1 hj).1;simpa using this
   rw[hf j kM]
   simpa[kM]using hj
  ·obtain⟨k,hk,rfl⟩:=Y9.1 hu
   have c9:k<l.length * 2:=Y6.1 hk
   have:=oK (k / 2) (by omega)
   rcases Nat.mod_two_eq_zero_or_one k with h|h
   ·rw[show k=k / 2 * 2 by omega,this.1];rfl
   ·rw[show k=k / 2 * 2+1 by omega,this.2];rfl
  ·obtain⟨g1,g2⟩:=ep
   rcases g2 with⟨nr,_⟩|⟨g,cap,cur,rfl,vH,hh,hc,hm,hs,ht⟩
   ·exact absurd nr hnn
   ·refine⟨nG M g (l.length * 2) w',.ret (.own 2 40 g (l.length * 2) cur.size (l.map ar.cells)),_,Hy hI vH,adL hI hb vH hh (by omega),?_,.inr ⟨g,_,_,rfl,rfl⟩⟩
    subst he
    have hcell:∀ k,k<l.length * 2→w'.cell? ⟨g,k,none⟩=some (f k):=fun k hk=>by
     rw[lh hh]
     have:=Zy (fun x=>x[k]?) ht
     simp[hk]at this
     exact this
    have:=R.own (M:=nG M g (l.length * 2) w') 2 40 g (l.length * 2) cur.size (l.map ar.cells) 0 cap f (fun i hi=>by rw[ZF];rfl) (fun k hk=> ?_) (fun i hi j hj=>(hr i hi j hj).mono (Hy hI vH)) (by rw[Z7];exact hc) hm (.inr ⟨by rw[Z7];omega,by omega⟩) (by decide)
    ·rw[Z7]at this;exact this
    ·rw[Z7]at hk
     unfold nG
     rw[Z3 ⟨rfl,by omega⟩,Zl]
     exact hcell k hk
 generalize hX:(AV.sl false 2 (l.map ar.cells))=X at h1
 cases h1<;>(try cases hX)
 ·rename_i a h0
  have jq:l=[]:=by simp at hX;exact hX.2.2
  subst jq
  cases a with
  |none=>exact(W8 0 0 w).mono fun e w' ⟨h1,h2⟩=>⟨M,.ret dM,σ,Mem.le.refl _,by rw[h2];exact hI,by subst h1;exact .v _,.inl ⟨rfl,rfl,rfl⟩⟩
  |some ad=>exact key ad 0 (fun _=>undef) (fun k hk=>by simp at hk) (fun i hi=>by simp at hi) rfl
 ·rename_i b off cap f hm hc bC hM kJ
  exact key ⟨b,off,none⟩ cap f (fun k hk=>by rw[Addr.add_lit];exact hI.cQ _ _ _ (hM k (by simpa using hk))) kJ (by simp)
end
end Go.Proofs.YtomhopcnkicknaaGreatDoor
namespace Go.Proofs.YtomhopcnkicknaaGreatDoor
open Go.Sx Go.Proofs Go.Tb
theorem abq{p:Option ae}{f:ar}(h:ie p f=0):Word f.name∧-8≤f.exp∧f.exp≤8:=by
 unfold ie at h
 split at h
 ·cases h
 split at h
 ·cases h
 ·rename_i h1 h2
  exact⟨Classical.not_not.1 h1,by omega,by omega⟩
theorem Rg:∀ {l:List ar} {p:Option ae},gq p l=0→∀ f∈l,Word f.name∧-8≤f.exp∧f.exp≤8
 |[],_,_,f,hf=>by cases hf
 |f::l,p,h,g,hg=>by
  rw[gq]at h
  split at h
  ·rename_i h1
   rcases ZQ.1 hg with rfl|hg
   ·exact abq h1
   ·exact Rg h g hg
  ·rename_i h1;exact absurd h h1
theorem xa{l:List ar}(h:dk l=0):l.length≤4∧∀ f∈l,Word f.name∧-8≤f.exp∧f.exp≤8:=by
 unfold dk at h
 split at h
 ·cases h
 ·exact⟨by omega,Rg h⟩
def fA(sg:Int)(f:ar):ar:=⟨f.name,sg * f.exp⟩
theorem acu{l:List ar}{du:Nat}{x:AV}{τ:Store}(h:eK du (l.map ar.cells) x τ):Wk x (.sl false 2 (l.map ar.cells)):=by
 rcases h with⟨hE,rfl,rfl⟩|⟨b,u,c,rfl,rfl⟩
 ·rw[hE];exact .nil
 ·exact .own _
theorem PH(a d:List ar)(sg:Int)(nB:sg=1∨sg= -1):Pure Tryz.prog 240 [.sl false 2 (a.map ar.cells),.sl false 2 (d.map ar.cells),iv sg] (qy (eA a d sg)):=by
 refine aft.p fun σ=> ?_
 repeat'(first|exact .nil|refine .k0 ?_|refine .k1 ?_|refine .k2 ?_|refine .k7 ?_|refine .k9 ?_|(refine .cd ?_ ?_<;>(intro hc;skip))|refine .r1 ?_ ?_|refine .an rfl (by intro aq;first|exact Rf _|fail) ?_ ?_|fail)
 all_goals(try simp only[BL]at *)
 ·rw[show eA a d sg=([],dk a)from Z3 hc]
  refine Sx.Fin.wk Zs (.aE (.cons .nil (.cons (.refl _) .nil)))
 ·have ha:dk a=0:=by assumption
  rw[show eA a d sg=([],dk d)from by unfold eA;rw[Z6 (by rw[ha];simp),Z3 hc]]
  refine Sx.Fin.wk Zs (.aE (.cons .nil (.cons (.refl _) .nil)))
 have ha:dk a=0:=by assumption
 have hb:dk d=0:=by assumption
 have hP:eA a d sg=qj (a++d.map (fA sg)):=by unfold eA;rw[Z6 (by rw[ha];simp),Z6 (by rw[hb];simp)];rfl
 obtain⟨yq,oz⟩:=xa ha
 obtain⟨cP,cx⟩:=xa hb
 refine A3 rfl (Xb a (by omega) _) OB.nil (fun x af hR=> ?_) (fun ch af hR=> ?_)
 rotate_left
 ·rcases hR with⟨_,h,_⟩|⟨_,_,_,h,_⟩<;>cases h
 have eX:∀ (g u c:Nat),eK 40 ((a++(d.take 0).map (fA sg)).map ar.cells) (.own 2 40 g u c (a.map ar.cells)) [(40,g,.tail u c)]:=fun g u c=>eK.s (by rw[YB,Y5,Zb])
 have adg:a=[]→eK 40 ((a++(d.take 0).map (fA sg)).map ar.cells) dM []:=fun h=>eK.n (by rw[h];rfl)
 have hNo:Pure Tryz.prog 251 [.sl false 2 ((a++d.map (fA sg)).map ar.cells)] (qy (qj (a++d.map (fA sg)))):=by
  refine agT _ (fun f hf=> ?_) (fun f hf=> ?_) (by rw[Z9,Z7];omega)
  ·rcases ZI.1 hf with hf|hf
   ·exact(oz f hf).1
   ·obtain⟨q,hq,rfl⟩:=Y9.1 hf
    exact(cx q hq).1
  ·rcases ZI.1 hf with hf|hf
   ·exact(oz f hf).2
   ·obtain⟨q,hq,rfl⟩:=Y9.1 hf
    have:=(cx q hq).2
    show -8≤sg * q.exp∧sg * q.exp≤8
    rcases nB with rfl|rfl<;>omega
 rw[hP]
 clear hP hc
 rcases hR with⟨h0,h,rfl⟩|⟨g,u,c,h,rfl⟩<;>cases h
 all_goals
  repeat'(first|exact .nil|refine .k0 ?_|refine .k1 ?_|refine .k2 ?_|refine .k6 ?_|refine .r1 ?_ ?_|(refine .m2 ?_ ?_;intro hlen)|fail)
  all_goals(try simp only[BL]at *)
  first
   |(have _:=g
     rename Store=>σ
     refine aH (fun m rg af=>∃ (i:Nat) (x:AV) (τ:Store),i≤d.length∧m=d.length-i∧eK 40 ((a++(d.take i).map (fA sg)).map ar.cells) x τ∧af=τ++σ∧rg=[(2,iv sg),(10,x),(25,.sl false 2 (d.map ar.cells)),(26,iv d.length),(27,iv i)]) d.length rfl ⟨_,_,Zr,Zs,0,_,_,Z1 _,rfl,eX g u c,rfl,rfl⟩ ?_)
   |(rename Store=>σ
     refine aH (fun m rg af=>∃ (i:Nat) (x:AV) (τ:Store),i≤d.length∧m=d.length-i∧eK 40 ((a++(d.take i).map (fA sg)).map ar.cells) x τ∧af=τ++σ∧rg=[(2,iv sg),(10,x),(25,.sl false 2 (d.map ar.cells)),(26,iv d.length),(27,iv i)]) d.length rfl ⟨_,_,Zr,Zs,0,_,_,Z1 _,rfl,adg h0,rfl,rfl⟩ ?_)
  rintro m2 _ _ ⟨i,x,τ,hi,hm,hR,rfl,rfl⟩
  have hN3:i=d.length→Pure Tryz.prog 251 [x] (qy (qj (a++d.map (fA sg)))):=fun h=>by
   subst h
   rw[Yu]at hR
   exact hNo.wk (.cons (acu hR) .nil)
  have fy:i<d.length→(a++(d.take (i+1)).map (fA sg)).map ar.cells=(a++(d.take i).map (fA sg)).map ar.cells++[[sv (d.getD i default).name,iv (sg * (d.getD i default).exp)]]:=fun h=>by
   rw[ZV h,← getD_eq h];simp[fA,ar.cells]
  have hwr:i<d.length→IntKind.i64.wrap (sg * (d.getD i default).exp)=sg * (d.getD i default).exp:=fun h=>by
   have:=(cx _ (bu h)).2
   rcases nB with rfl|rfl<;>exact aM (by omega)
  have tD:(a++(d.take i).map (fA sg)).length≤8:=by rw[Z9,Z7,Z4];omega
  rcases hR with⟨hE,rfl,rfl⟩|⟨b3,u3,c3,rfl,rfl⟩
  all_goals
   repeat'(first|exact .nil|refine .k0 ?_|refine .k1 ?_|refine .k2 ?_|refine .k6 ?_|refine .k7 ?_|refine .k8 ?_|refine .k9 ?_|(refine .cd ?_ ?_<;>(intro hc;skip))|refine .r1 ?_ ?_|(refine .l1 ?_;intro b)|refine .t1 ?_ ?_ ?_|refine .u1 ?_ ?_ ?_ (fun b u c=> ?_)|refine .u2 ?_ ?_ ?_ (fun b u c=> ?_)|refine .an rfl (by intro aq;exact hN3 (by(simp only[BL]at *;omega))) ?_ ?_|(show List.all _ _=true;rfl)|fail)
   try any_goals((intro aq;first|(simp_all;done)|fail))
   all_goals(try simp only[BL]at *)
   ·show _≤1000000;simp only[Z8,Z5];omega
   ·show _ * _≤_;simp only[Z7,Z8,Z5];omega
   ·rw[hwr (by omega)]
    refine⟨m2-1,by omega,_,_,Zr,Zs,i+1,_,_,by omega,by omega,eK.s ?_,rfl,by rw[aO (n:=d.length) (by omega) (by assumption)]⟩
    rw[fy (by omega)]
    try rw[hE]
    try rfl
   ·exact Zw
theorem aMm:mP:=fun a b=>by
 have hp:=PH a b 1 (.inl rfl)
 refine afj.p fun σ=> ?_
 repeat'(first|exact .nil|refine .k0 ?_|refine .k1 ?_|refine .k2 ?_|refine .k7 ?_|refine .r1 ?_ ?_|refine .an rfl (by intro aq;exact hp) ?_ ?_|fail)
 all_goals(try simp only[BL]at *)
 exact Zw
theorem ahh:mO:=fun a b=>by
 have hp:=PH a b (-1) (.inr rfl)
 refine afk.p fun σ=> ?_
 repeat'(first|exact .nil|refine .k0 ?_|refine .k1 ?_|refine .k2 ?_|refine .k7 ?_|refine .r1 ?_ ?_|refine .an rfl (by intro aq;exact hp) ?_ ?_|fail)
 all_goals(try simp only[BL]at *)
 exact Zw
end Go.Proofs.YtomhopcnkicknaaGreatDoor
