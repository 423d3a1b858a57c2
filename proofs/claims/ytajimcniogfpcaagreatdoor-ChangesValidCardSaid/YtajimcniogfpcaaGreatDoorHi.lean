/- Wide numbers: sums. -/
import Derived.Test.YtajimcniogfpcaaGreatDoorCd
import Derived.Laws.Externs
import Derived.Shelf.Spec.BitsCarry
import Derived.Test.YtajimcniogfpcaaGreatDoorGa
import Derived.Test.YtajimcniogfpcaaGreatDoorFa
import Derived.RegionTactic
import Derived.OwnWalk
import Derived.Test.YtajimcniogfpcaaGreatDoorHa
import Derived.Test.YtajimcniogfpcaaGreatDoorCn
import Derived.Sort.OwnSorted
import Derived.Lib.SliceRun
set_option linter.unusedSimpArgs false
set_option linter.unusedVariables false
set_option linter.unusedSectionVars false
set_option maxRecDepth 100000
set_option maxHeartbeats 4000000
namespace Go.Proofs.YtajimcniogfpcaaGreatDoor
open _root_.Go.Proofs.Tryz
open Go.RowKit Go.Proofs Go.Tb
theorem NV(x y c:Int)(hx:0≤x)(hy:0≤y)(gV:0≤c)(hc:c≤1)(w:World):(callFunc 301 #[.int .u64 x,.int .u64 y,.int .u64 c]).run prog w=
  .ok (.value (.tuple #[.int .u64 ((x+y+c) % 18446744073709551616),.int .u64 ((x+y+c) / 18446744073709551616)])) w:=by
 rw[run_callFunc_extern func301 (by kernel_rfl) (by kernel_rfl) (by kernel_rfl) (e:=add64Entry) (by kernel_rfl),run_add64 x y c hx hy gV hc]
 rfl
theorem abr(x y:Int)(hx:0≤x)(hy:0≤y)(w:World):(callFunc 301 #[.int .u64 x,.int .u64 y,.int .u64 0]).run prog w=
  .ok (.value (.tuple #[.int .u64 ((x+y) % 18446744073709551616),.int .u64 ((x+y) / 18446744073709551616)])) w:=by
 rw[NV x y 0 hx hy (by omega) (by omega),Int.add_zero]
def eC(n:Int):Int:=n % 18446744073709551616
def iH(n:Int):Int:=if n<0 then -1 else 0
abbrev wv(n:Int):Value:= .agg #[.int .i64 (iH n),.int .u64 (eC n)]
theorem abw(n m:Int)(w:World)(hn: -1000≤n∧n≤1000)(hm: -1000≤m∧m≤1000):Calls prog 276 #[wv n,wv m] w fun e w'=>e= .returned (wv (n+m))∧Below w.heap.size w w':=by
 have h1:0≤eC n:=by unfold eC;omega
 have h2:0≤eC m:=by unfold eC;omega
 generalize qp:eC n=ln at *
 generalize zO:eC m=lm at *
 generalize Kj:iH n=jX at *
 generalize Ki:iH m=pd at *
 go_enter func276,ntmps276
 have e1:=abr ln lm h1 h2
 have w1:0≤IntKind.u64.wrap jX:=by rw[IntKind.wrap_u64];omega
 have w2:0≤IntKind.u64.wrap pd:=by rw[IntKind.wrap_u64];omega
 have e2:=NV (IntKind.u64.wrap jX) (IntKind.u64.wrap pd) ((ln+lm) / 18446744073709551616) w1 w2 (by omega) (by rw[← qp,← zO];unfold eC;omega)
 have zP:(ln+lm) % 18446744073709551616=eC (n+m):=by rw[← qp,← zO];unfold eC;omega
 have Cj:IntKind.i64.wrap ((IntKind.u64.wrap jX+IntKind.u64.wrap pd+(ln+lm) / 18446744073709551616) % 18446744073709551616)=iH (n+m):=by
  rw[← qp,← zO,← Kj,← Ki,IntKind.wrap_u64,IntKind.wrap_u64,IntKind.wrap_i64]
  unfold eC iH
  split<;>split<;>split<;>omega
 go_wp2
 simp[bodyPost,results,Tryz.results276,go_sem,Cj]
 exact(((Below.refl _ w).alloc (ZM _) _).alloc (by simp) _).alloc (by simp;omega) _
theorem Gp(x y b:Int)(hx:0≤x)(hy:0≤y)(Rl:y<18446744073709551616)(o6:0≤b)(hb:b≤1)(w:World):(callFunc 330 #[.int .u64 x,.int .u64 y,.int .u64 b]).run prog w=
  .ok (.value (.tuple #[.int .u64 ((x-y-b) % 18446744073709551616),.int .u64 (if x<y+b then 1 else 0)])) w:=by
 obtain⟨X,rfl⟩:=Int.eq_ofNat_of_zero_le hx
 obtain⟨Y,rfl⟩:=Int.eq_ofNat_of_zero_le hy
 obtain⟨B,rfl⟩:=Int.eq_ofNat_of_zero_le o6
 rw[run_callFunc_extern func330 (by kernel_rfl) (by kernel_rfl) (by kernel_rfl) (e:=sub64Entry) (by kernel_rfl),run_sub64 X Y B (by omega)]
 have e1:(((X+18446744073709551616-Y-B) % 18446744073709551616:Nat):Int)=((X:Int)-Y-B) % 18446744073709551616:=by omega
 have e2:((if X<Y+B then 1 else 0:Nat):Int)=if(X:Int)<Y+B then 1 else 0:=by
  by_cases h:X<Y+B
  ·rw[ZW h,ZW (by omega)];rfl
  ·rw[Z5 h,Z5 (by omega)];rfl
 rw[e1,e2]
 rfl
theorem akl(n:Int)(w:World)(hn: -1000≤n∧n≤1000):Calls prog 302 #[wv n] w fun e w'=>e= .returned (.agg #[.int .u64 n.natAbs,.int .u64 0])∧Below w.heap.size w w':=by
 by_cases h0:n<0
 ·have hh:iH n= -1:=ZW h0
  have hl:eC n=n+18446744073709551616:=by unfold eC;omega
  have e1:=Gp 0 (n+18446744073709551616) 0 (by omega) (by omega) (by omega) (by omega) (by omega)
  rw[ZW (by omega),show((0:Int)-(n+18446744073709551616)-0) % 18446744073709551616=n.natAbs by omega]at e1
  have e2:=Gp 0 18446744073709551615 1 (by omega) (by omega) (by omega) (by omega) (by omega)
  rw[ZW (by omega),show((0:Int)-18446744073709551615-1) % 18446744073709551616=0 by omega]at e2
  have hw:IntKind.u64.wrap (-1)=18446744073709551615:=by rw[IntKind.wrap_u64];rfl
  rw[← hw]at e2
  clear hw
  show Calls prog 302 #[.agg #[.int .i64 (iH n),.int .u64 (eC n)]] w _
  rw[hh,hl]
  clear hh hl
  go_enter func302,ntmps302
  go_wp2
  simp[bodyPost,results,Tryz.results302,go_sem]
  rename_i a
  refine a _ _ ?_
  go_wp2
  simp[bodyPost,results,Tryz.results302,go_sem]
  rename_i a2 q k1 k0
  refine a2 _ _ ?_
  go_wp2
  simp[bodyPost,results,Tryz.results302,go_sem]
  exact(((((((Below.refl _ w).alloc (ZM _) _).alloc (by simp) _).alloc (by simp;omega) _).alloc (by simp;omega) _).alloc (by simp;omega) _).alloc (by simp;omega) _).alloc (by simp;omega) _
 ·have hh:iH n=0:=Z5 h0
  have hl:eC n=n.natAbs:=by unfold eC;omega
  show Calls prog 302 #[.agg #[.int .i64 (iH n),.int .u64 (eC n)]] w _
  rw[hh,hl]
  clear hh hl
  go_enter func302,ntmps302
  go_wp2
  simp[bodyPost,results,Tryz.results302,go_sem]
  exact((Below.refl _ w).alloc (ZM _) _).alloc (by simp) _
end Go.Proofs.YtajimcniogfpcaaGreatDoor
namespace Go.Proofs.YtajimcniogfpcaaGreatDoor
open _root_.Go.Proofs.Tryz
section
open Go.RowKit Go.Proofs Go.Tb
theorem ac7(x:Int)(w:World)(hx:0≤x)(eV:x<18446744073709551616):Calls prog 303 #[.int .u64 0,.int .u64 x,.int .u64 1] w fun e w'=>e= .returned (.tuple #[.int .u64 x,.int .u64 0])∧Below w.heap.size w w':=by
 go_enter func303,ntmps303
 go_wp2
 go_region
 all_goals go_wp2
 all_goals go_ret2
 refine⟨?_,?_⟩
 ·rfl
 ·exact(Below.refl _ _).drew
end
open Go.Sx Go.Proofs Go.Tb
abbrev wA(n:Int):AV:= .agg [iv (iH n),.v (.int .u64 (eC n))]
theorem FL{M:Mem}{n:Int}{v:Value}(h:R M (wA n) v):v=wv n:=by
 obtain⟨cs,rfl,hl⟩:=h.np
 obtain⟨a,as',rfl,h1,h2⟩:=hl.bg
 obtain⟨b,rfl,h3⟩:=h2.cT
 rw[h1.ay,h3.ay]
theorem Uc{M:Mem}(n:Int):R M (wA n) (wv n):= .agg _ [.int .i64 (iH n),.int .u64 (eC n)] rfl fun i h1 h2=>by
 match i with
 |0=>exact .v _
 |1=>exact .v _
theorem abt{n m:Int}(hn: -1000≤n∧n≤1000)(hm: -1000≤m∧m≤1000):Pure prog 276 [wA n,wA m] (wA (n+m)):=
 Pure.sW fun M w0 w σ cs hI hR=>by
  obtain⟨a,as',rfl,h1,h2⟩:=hR.bg
  obtain⟨b,rfl,h3⟩:=h2.cT
  rw[FL h1,FL h3]
  exact(abw n m w hn hm).mono fun e w' ⟨h,hb⟩=>⟨⟨_,h,Uc _⟩,hb⟩
abbrev szA(n:Int):AV:= .agg [.v (.int .u64 n.natAbs),.v (.int .u64 0)]
theorem UW{n:Int}(hn: -1000≤n∧n≤1000):Pure prog 302 [wA n] (szA n):=
 Pure.sW fun M w0 w σ cs hI hR=>by
  obtain⟨a,rfl,h1⟩:=hR.cT
  rw[FL h1]
  exact(akl n w hn).mono fun e w' ⟨h,hb⟩=>⟨⟨_,h,.agg _ [.int .u64 n.natAbs,.int .u64 0] rfl fun i h1 h2=>by
   match i with
   |0=>exact .v _
   |1=>exact .v _⟩,hb⟩
theorem Tn{n:Int}(hn: -1000≤n∧n≤1000):Pure prog 277 [iv n] (wA n):=by
 refine agT.p fun σ=> ?_
 repeat'(first|exact .nil|refine .k0 ?_|refine .k1 ?_|refine .k2 ?_|refine .k7 ?_|refine .r1 ?_ ?_|(refine .l1 ?_;intro b)|fail)
 all_goals(try simp only[BL]at *)
 ·decide
 ·rw[show n / 2 ^ Int.toNat 63=iH n by show n / 9223372036854775808=_;unfold iH;split<;>omega,show IntKind.u64.wrap n=eC n from IntKind.wrap_u64 n]
  exact Zw
theorem ac6{x:Int}(hx:0≤x)(eV:x<18446744073709551616):Pure prog 303 [.v (.int .u64 0),.v (.int .u64 x),.v (.int .u64 1)] (.aP [.v (.int .u64 x),.v (.int .u64 0)]):=
 Pure.sW fun M w0 w σ cs hI hR=>by
  obtain⟨a,as',rfl,h1,h2⟩:=hR.bg
  obtain⟨b,bs',rfl,h3,h4⟩:=h2.bg
  obtain⟨c,rfl,h5⟩:=h4.cT
  rw[h1.ay,h3.ay,h5.ay]
  exact(ac7 x w hx eV).mono fun e w' ⟨h,hb⟩=>⟨⟨_,h,.aP _ [.int .u64 x,.int .u64 0] rfl fun i h1 h2=>by
   match i with
   |0=>exact .v _
   |1=>exact .v _⟩,hb⟩
theorem WD{x i:Operand}{ty:TypeId}{a b:Int}:ko prog (.index 363 x i) ty [] [x,i] [.agg [.v (.int .u64 a),.v (.int .u64 b)],.v (.int .i64 0)] (.v (.int .u64 a)):=⟨fun σ bx M w0 w ρ hI hR=>by
 obtain⟨v1,cP,e1,h1,cJ⟩:=hR.bg
 obtain⟨v2,e2,h2⟩:=cJ.cT
 subst e2
 simp only[ZE,Y4,Z3,Zn]at e1
 obtain⟨cs,rfl,hl⟩:=h1.np
 obtain⟨p,ps,rfl,g1,g2⟩:=hl.bg
 obtain⟨q,rfl,g3⟩:=g2.cT
 have hu:=underlying363
 have VL:=underlying158
 refine⟨.value (.int .u64 a),w,M,.v (.int .u64 a),.int .u64 a,σ,?_,rfl,Mem.le.refl _,hI,.v _,rfl,rfl⟩
 simp[execOp,e1.1,e1.2,Instr.index,asIntOf,h2.ay,g1.ay,aZ hu,part,isAgg,aZ VL]⟩
theorem ac8{n:Int}(hn: -1000≤n∧n≤1000):Pure prog 279 [wA n,iv 1] (.aP [iv n,.v (.bool true)]):=by
 have hS:=UW hn
 have zw:=Tn (n:=1) (by omega)
 have qh:=UW (n:=1) (by omega)
 have hD:=ac6 (x:=n.natAbs) (by omega) (by omega)
 refine agU.p fun σ=> ?_
 repeat'(first|exact .nil|refine .k0 ?_|refine .k1 ?_|refine .k2 ?_|refine .k7 ?_|refine .k9 ?_|(refine .cd ?_ ?_<;>(intro hc;skip))|refine .r1 ?_ ?_|(refine .m1 ?_ ?_;intro b)|refine .an rfl (by intro aB;first|exact hS|exact zw|exact qh|fail) ?_ ?_|fail)
 all_goals(try simp only[BL]at *)
 ·exact absurd hc (by decide)
 refine A7 rfl (fun _=>WD) OB.nil ?_
 repeat'(first|exact .nil|refine .k0 ?_|refine .k1 ?_|refine .k2 ?_|refine .k4 ?_|refine .k7 ?_|refine .k9 ?_|(refine .cd ?_ ?_<;>(intro hc;first|exact kt hc (by assumption)|skip))|refine .r1 ?_ ?_|(refine .l1 ?_;intro b)|refine .an rfl (by intro aB;exact hD) ?_ ?_|fail)
 ·exact⟨by decide,by decide⟩
 ·exact absurd hc (by decide)
 ·exact⟨by decide,by decide⟩
 ·exact⟨by decide,by decide⟩
 ·intro _;decide
 ·have:=Ye hc;omega
 ·have ar:n<0:=by
   by_cases h:n<0
   ·exact h
   ·rw[show iH n=0 from Z5 h]at hc;exact absurd hc (by decide)
  rw[eu (n:=(n.natAbs:Int)) (by omega),eu (by omega),show(0:Int)-n.natAbs=n by omega]
  exact Zw
 ·have ar:0≤n:=by
   by_cases h:n<0
   ·rw[show iH n= -1 from ZW h]at hc;exact absurd hc (by decide)
   ·omega
  rw[eu (n:=(n.natAbs:Int)) (by omega),show(n.natAbs:Int)=n by omega]
  exact Zw
end Go.Proofs.YtajimcniogfpcaaGreatDoor
set_option maxHeartbeats 1000000
namespace Go.Sx
open Go.RowKit
section
variable {P:Program}[Glob P]{N:Nat}{cfg:Nat→Nat}{rg:af}{σ:Store}
def Ht(P:Program)[Glob P](cfg:Nat→Nat)(K:af→Store→Prop)(c:CI)(l2:List CI)(rg:af)(σ:Store):Prop:=∃ x,QV P cfg c rg σ x∧bG P cfg [] (bare l2) (Cl K) (bj c.d x rg) σ
theorem WU{l1 l2:List CI}{c:CI}{Q:Exit→af→Store→Prop}(cfg:Nat→Nat)(cq:c.op.cls≤1)(h:bG P cfg [] (bare l1) (Ht P cfg (Q .normal) c l2) rg σ):SW P N (.dF (l1++c::l2)) Q rg σ:=by
 refine A5 (yH cfg fun hc=> ?_)
 obtain⟨xs,h1,⟨bh,⟨x,hq,hv⟩,h3⟩,h4⟩:=M5 l1 rg rg (fun _=>rfl) (fun c h=>hc c (by simp[h])) h
 have w8:=AL l1 rg (fun c h=>hc c (by simp[h])) h
 have aeB:=AL l2 _ (fun c h=>hc c (by simp[h])) hv
 have jY:QV P cfg c (dH l1 xs rg) σ x:=wj (fun t _=>h3 t) hq
 obtain⟨ys,g1,⟨ga,k1,k2⟩,g3⟩:=AK l2 _ (bj c.d x (dH l1 xs rg)) (sk h3 c.d x) (fun c h=>hc c (by simp[h])) hv
 refine⟨⟨xs++x::ys,by simp[h1,g1],⟨ga,k1,fun i=> ?_⟩,fun i h h'=> ?_⟩,fun c' gU=> ?_⟩
 ·rw[C0 _ _ _ _ _ h1];exact k2 i
 ·rcases XG i l1.length with hi|hi|hi
  ·have:=h4 i hi (by omega)
   simp only[Yj hi,Yj (show i<xs.length by omega),Y1 (show i≤l1.length by omega),Y1 (show i≤xs.length by omega)]
   exact this
  ·subst hi
   have hz:=h'
   have e1:(l1++c::l2)[l1.length]=c:=by simp
   have e2:(xs++x::ys)[l1.length]'hz=x:=by simp[← h1]
   have e3:(l1++c::l2).take l1.length=l1:=by simp
   have e4:(xs++x::ys).take l1.length=xs:=by rw[← h1];simp
   rw[e1,e2,e3,e4]
   exact jY
  ·obtain⟨m,hm⟩:∃ m,i=l1.length+1+m:=⟨i-(l1.length+1),by omega⟩
   subst hm
   have QR:m<l2.length:=by simp at h;omega
   have hz:=h'
   have hmy:m<ys.length:=by omega
   have e1:(l1++c::l2)[l1.length+1+m]=l2[m]:=by
    rw[Yv (by omega)]
    simp only[show l1.length+1+m-l1.length=m+1 by omega,XZ]
   have e2:(xs++x::ys)[l1.length+1+m]'hz=ys[m]:=by
    rw[Yv (by omega)]
    simp only[show l1.length+1+m-xs.length=m+1 by omega,XZ]
   have e3:(l1++c::l2).take (l1.length+1+m)=l1++c::l2.take m:=by
    rw[List.take_append,Zq (by omega),show l1.length+1+m-l1.length=m+1 by omega];rfl
   have e4:(xs++x::ys).take (l1.length+1+m)=xs++x::ys.take m:=by
    rw[List.take_append,Zq (by omega),show l1.length+1+m-xs.length=m+1 by omega];rfl
   rw[e1,e2,e3,e4,C0 _ _ _ _ _ h1]
   exact g3 m QR hmy
 ·rcases ZJ.1 gU with hm|hm
  ·exact w8 c' hm
  ·rcases ZT.1 hm with rfl|hm
   ·exact cq
   ·exact aeB c' hm
end
section
variable {P:Program}[Glob P]{N:Nat}{cfg:Nat→Nat}{Q:Exit→af→Store→Prop}{rg:af}{σ:Store}{k:List Fr}{xr:XR}
theorem abf(d:Nat){l l1 l2:List CI}{s:CI}(hl:AA d l=some (l1,s,l2))(hs:Nat.ble s.op.cls 1=true)(hx:toXO rg=some xr)
  (h:VY P cfg [] (bare l1) (Ht P cfg (FK P N cfg Q .normal k) s l2) xr σ):WK P N cfg Q (.dF l) k rg σ:=by
 have e:=Mt hl
 subst e
 refine⟨WA.mono (Q:=fun e=>FK P N cfg Q e k) ⟨rfl,WU cfg (ZR hs) ?_⟩ fun _ _ _ h=>h.h⟩
 have:=h.h
 rw[← vL hx,tY]at this
 exact this
end
end Go.Sx
namespace Go.Proofs.YtajimcniogfpcaaGreatDoor
open _root_.Go.Proofs.Tryz
open Go.Sx Go.Proofs Go.Tb Go.RowKit
def eI:List (ae×Int)→ae→Int
 |[],_=>0
 |p::es,s=>if p.1=s then p.2 else eI es s
def jo:List (ae×Int)→ae→Int→List (ae×Int)
 |[],s,v=>[(s,v)]
 |p::es,s,v=>if p.1=s then(s,v)::es else p::jo es s v
def wE(es:List (ae×Int)):List (Value×Nat×AV):=es.zipIdx.map fun p=>(.string p.1.1,p.2,wA p.1.2)
theorem G0(es:List (ae×Int)):(wE es).map (fun e=>(e.1,e.2.1))=es.zipIdx.map fun q=>(Value.string q.1.1,q.2):=by unfold wE;rw[Yi];rfl
theorem G1(es:List (ae×Int)):(wE es).map (·.2.2)=es.map fun p=>wA p.2:=by
 unfold wE
 rw[Yi]
 refine X7 (by simp) fun j h1 h2=>by simp
theorem alQ(es:List (ae×Int))(p:ae×Int):wE es++[(.string p.1,es.length,wA p.2)]=wE (es++[p]):=by
 unfold wE;rw[List.zipIdx_append];simp
theorem Ni(s:ae):∀ (es:List (ae×Int)) (l:List MapEntry) (k0 i:Nat),l.map (fun e=>(e.key,e.born))=(es.zipIdx k0).map (fun q=>(Value.string q.1.1,q.2))→
  (Instr.findNow .string (.string s) l i=some none∧eI es s=0∧∀ v,jo es s v=es++[(s,v)])∨
  ∃ j,∃ hj:j<es.length,∃ dW:j<l.length,Instr.findNow .string (.string s) l i=some (some (i+j,l[j].val))∧es[j].1=s∧eI es s=es[j].2∧l[j].key= .string s∧∀ v,jo es s v=es.set j (s,v)
 |[],l,k0,i,h=>by
  have:l=[]:=by simpa using h
  subst this
  exact .inl ⟨rfl,rfl,fun _=>rfl⟩
 |p::es,l,k0,i,h=>by
  cases l with
  |nil=>simp at h
  |cons e l=>
   simp only[List.zipIdx_cons,ZE,Z3,Y3]at h
   have uS:Instr.sameNow .string (.string s) e.key=some (decide (s=p.1)):=by
    rw[h.1.1]
    show some (s == p.1)=_
    rw[MA]
   by_cases hp:s=p.1
   ·subst hp
    refine .inr ⟨0,by simp,by simp,?_,rfl,by simp[eI],h.1.1,fun v=>by simp[jo]⟩
    simp only[Instr.findNow,uS,decide_true,Yr,YG]
   ·have mT:¬p.1=s:=fun e=>hp e.symm
    rcases Ni s es l (k0+1) (i+1) h.2 with⟨a1,a2,a3⟩|⟨j,hj,dW,a1,a2,a3,a4,a5⟩
    ·refine .inl ⟨?_,by simp[eI,mT,a2],fun v=>by simp[jo,mT,a3]⟩
     simp only[Instr.findNow,uS,Zd hp]
     exact a1
    ·refine .inr ⟨j+1,by simp;omega,by simp;omega,?_,by simpa using a2,by simp[eI,mT,a3],by simpa using a4,fun v=>by simp[jo,mT,a5]⟩
     simp only[Instr.findNow,uS,Zd hp]
     rw[a1,show i+1+j=i+(j+1) by omega];simp
theorem ami(w:World):(zeroValue 341).run prog w= .ok (wv 0) w:=by
 have h:(prog.info? 341).map (fun i=>i.zero)=some (some (wv 0)):=by kernel_rfl
 obtain⟨i,h1,h2⟩:=Z7.1 h
 simp[zeroValue,typeInfo,h1,h2]
theorem G7(w:World)(b:Bool)(s:ae):(Instr.checkKey b 10000 9 (.string s)).run prog w= .ok () w:=
 Sx.run_checkKey (n:=9999) (q:= .str) (kd:= .string) rfl underlying9
section
variable {M:Mem}{w0:Base}{w:World}{σ:Store}
theorem NB{tg b cG:Nat}{es:List (ae×Int)}{t ty:TypeId}{q:TI}{m k:Operand}{s:ae}(hl:aM σ tg=some (b,.map (wE es) cG)):
  gb prog (.lookup t m k false) ty [.mp 9 341,q] [m,k] [.bH tg b,sv s] σ fun y σ'=>y=wA (eI es s)∧σ'=σ:=by
 intro bx M w0 w ρ hI hR
 simp only[eK,Z3,Zn]at bx
 have ht:=vJ bx.1
 have hk:=underlying9
 obtain⟨v1,cP,e1,h1,cJ⟩:=hR.bg
 obtain⟨v2,e2,h2⟩:=cJ.cT
 subst e2
 simp only[ZE,Y4,Z3,Zn]at e1
 obtain⟨hM,l,hh,gq,iy⟩:=hI.rH hl
 have g1:=h1.qF
 have g2:=h2.ay
 subst g1 g2
 rw[G0]at gq
 rw[G1]at iy
 rcases Ni s es l 0 0 gq with⟨a1,a2,a3⟩|⟨j,hj,dW,a1,a2,a3,a4,a5⟩
 ·refine⟨.value (wv 0),w,M,wA (eI es s),wv 0,σ,?_,rfl,Mem.le.refl _,hI,by rw[a2];exact Uc 0,rfl,rfl⟩
  simp only[execOp,e1.1,e1.2,Instr.lookup,Sem.run_bind,aZ ht,Result.andThen_ok,getObj,Sem.run,hh,G7,Instr.findKey,aZ hk,a1,Sem.run_pure,ami]
  rfl
 ·refine⟨.value l[j].val,w,M,wA (eI es s),l[j].val,σ,?_,rfl,Mem.le.refl _,hI,?_,rfl,rfl⟩
  ·simp only[execOp,e1.1,e1.2,Instr.lookup,Sem.run_bind,aZ ht,Result.andThen_ok,getObj,Sem.run,hh,G7,Instr.findKey,aZ hk,a1,Sem.run_pure]
   rfl
  ·have:=iy.2 j (by simpa using hj) (by simpa using dW)
   rw[a3]
   simpa using this
theorem al2(w:World)(s:ae):(Instr.keyThatStays (.string s) (.string s)).run prog w= .ok (.string s) w:=by
 simp[Instr.keyThatStays,Instr.sameBits,MA]
theorem WQ{tg b:Nat}{es:List (ae×Int)}{t ty:TypeId}{q:TI}{m k x:Operand}{s:ae}{v:Int}(hl:aM σ tg=some (b,.map (wE es) es.length)):
  gb prog (.mapUpdate t m k x) ty [.mp 9 341,q] [m,k,x] [.bH tg b,sv s,wA v] σ fun y σ'=>y= .v undef∧σ'=dx σ tg b (.map (wE (jo es s v)) (jo es s v).length):=by
 intro bx M w0 w ρ hI hR
 simp only[eK,Z3,Zn]at bx
 have ht:=vJ bx.1
 have hk:=underlying9
 obtain⟨v1,cP,e1,h1,cJ⟩:=hR.bg
 obtain⟨v2,qX,e2,h2,eA⟩:=cJ.bg
 obtain⟨v3,e3,h3⟩:=eA.cT
 subst e3 e2
 simp only[ZE,Y4,Z3,Zn]at e1
 obtain⟨hM,l,hh,gq,iy⟩:=hI.rH hl
 have g1:=h1.qF
 have g2:=h2.ay
 subst g1 g2
 have ar:b<w.heap.size:=(ZX.1 hh).1
 have aeO:=gq
 have afa:=iy
 rw[G0]at gq
 rw[G1]at iy
 rcases Ni s es l 0 0 gq with⟨a1,a2,a3⟩|⟨j,hj,dW,a1,a2,a3,a4,a5⟩
 ·let w':World:={w with heap:=w.heap.setIfInBounds b (.map (l++[(⟨.string s,v3,es.length⟩:MapEntry)]).toArray (es.length+1))}
  refine⟨.skip,w',M,.v undef,undef,_,?_,rfl,Mem.le.refl _,?_,.v _,rfl,rfl⟩
  ·have hu:l.toArray.push (⟨.string s,v3,es.length⟩:MapEntry)=(l++[(⟨.string s,v3,es.length⟩:MapEntry)]).toArray:=by apply YB;simp
   simp only[execOp,e1.1,e1.2.1,e1.2.2,Instr.mapUpdate,Sem.run_bind,aZ ht,Result.andThen_ok,getObj,Sem.run,hh,G7,Instr.findKey,aZ hk,a1,Sem.run_pure,setObj,hu]
   rfl
  ·rw[a3,Z9,YZ,← alQ]
   refine hI.AH (w':=w') (y:= .map (wE es++[(.string s,es.length,wA v)]) (es.length+1)) hl (fun k hk=> ?_) rfl rfl rfl (by simp[w']) hM ⟨hM,l++[⟨.string s,v3,es.length⟩],?_,?_,?_⟩
   ·simp only[w']
    rw[YP (fun e=>hk e.symm)]
   ·simp only[w']
    rw[X5 ar]
   ·simp[aeO]
   ·simp only[Y7,ZE,Y4]
    exact RL.append afa (RL.cons h3 RL.nil)
 ·let f:MapEntry→MapEntry:=fun e=>{e with key:= .string s,val:=v3}
  let w':World:={w with heap:=w.heap.setIfInBounds b (.map (l.modify j f).toArray es.length)}
  refine⟨.skip,w',M,.v undef,undef,_,?_,rfl,Mem.le.refl _,?_,.v _,rfl,rfl⟩
  ·have hu:l.toArray.modify j f=(l.modify j f).toArray:=by simp
   have QN:(l.toArray[j]?.map (·.key)).getD (.string s)= .string s:=by
    rw[Ya,ZY dW];exact a4
   simp only[execOp,e1.1,e1.2.1,e1.2.2,Instr.mapUpdate,Sem.run_bind,aZ ht,Result.andThen_ok,getObj,Sem.run,hh,G7,Instr.findKey,aZ hk,a1,Sem.run_pure,setObj,ZA,QN,al2,hu]
   show Result.ok Next.skip ({w with heap:=w.heap.setIfInBounds b (.map (l.toArray.modify j f) es.length)}:World)=_
   rw[hu]
  ·rw[a5,Xe]
   refine hI.AH (w':=w') (y:= .map (wE (es.set j (s,v))) es.length) hl (fun k hk=> ?_) rfl rfl rfl (by simp[w']) hM ⟨hM,l.modify j f,?_,?_,?_⟩
   ·simp only[w']
    rw[YP (fun e=>hk e.symm)]
   ·simp only[w']
    rw[X5 ar]
   ·rw[G0]
    refine X7 ?_ fun i g1 g2=> ?_
    ·have:=Ze List.length gq;simpa using this
    ·have h6:i<l.length:=by simpa using g1
     have h7:i<es.length:=by simpa using g2
     have h5:=Ze (fun x=>x[i]?) gq
     simp[h6,h7]at h5
     simp only[Zj,List.getElem_modify,List.getElem_zipIdx,List.getElem_set,ZA]
     by_cases gZ:j=i
     ·subst gZ
      simp[f,h5.2]
     ·simp[gZ,h5.1,h5.2]
   ·rw[G1]
    refine⟨?_,fun i g1 g2=> ?_⟩
    ·have:=iy.1;simpa using this
    ·have h6:i<l.length:=by simpa using g2
     have h7:i<es.length:=by simpa using g1
     have h5:=iy.2 i (by simpa using h7) (by simpa using h6)
     simp only[Zj,List.getElem_modify,List.getElem_set]at h5 ⊢
     by_cases gZ:j=i
     ·subst gZ
      simpa[f]using h3
     ·simpa[gZ]using h5
end
section
variable {cfg:Nat→Nat}{K:af→Store→Prop}{E:List PanicEntry→Store→Prop}{σ σ':Store}{l:List CI}{d:Nat}{xr:XR}{ps:List Prop}{og:Option Bool}
theorem aas{t:TypeId}{q:TI}{ty:TypeId}{m k:Operand}{tg b b' cG:Nat}{es:List (ae×Int)}{s:ae}(h:aD xr none [m,k]=some (og,[.bH tg b,sv s],ps))(hl:aM σ tg=some (b',.map (wE es) cG))(hb:b=b')(aq:OB ps)
  (kk:VX prog cfg l K E ((d,.s (wA (eI es s)))::xr) σ):VX prog cfg (⟨some d,.cQ (.lookup t m k false) ty [.mp 9 341,q] [m,k],none⟩::l) K E xr σ:=by
 obtain⟨hc,he⟩:=bZ h
 have cE:=ry h
 subst cE
 subst hb
 constructor
 simp only[dD,bY,al,he aq rfl]
 refine(NB hl).mono fun y s ⟨e1,e2⟩=> ?_
 subst e1 e2
 exact kk.h
theorem aaE{t:TypeId}{q:TI}{ty:TypeId}{m k x:Operand}{tg b b':Nat}{es:List (ae×Int)}{s:ae}{v:Int}(h:aD xr none [m,k,x]=some (og,[.bH tg b,sv s,wA v],ps))(hl:aM σ tg=some (b',.map (wE es) es.length))(hb:b=b')(hu:vO σ tg b (.map (wE (jo es s v)) (jo es s v).length)=some σ')(aq:OB ps)
  (kk:VX prog cfg l K E xr σ'):VX prog cfg (⟨none,.exts (.mapUpdate t m k x) ty [.mp 9 341,q] [m,k,x],none⟩::l) K E xr σ:=by
 obtain⟨hc,he⟩:=bZ h
 have cE:=ry h
 subst cE
 subst hb
 constructor
 simp only[dD,bY,al,he aq rfl]
 refine(WQ hl).mono fun y s ⟨e1,e2⟩=> ?_
 rw[Dq hu]at e2
 subst e1 e2
 exact kk.h
theorem aaV{t:TypeId}{q:TI}{ty:TypeId}{m k:Operand}{tg b b' cG:Nat}{es:List (ae×Int)}{s:ae}{l2:List CI}(h:aD xr none [m,k]=some (og,[.bH tg b,sv s],ps))(hl:aM σ tg=some (b',.map (wE es) cG))(hb:b=b')(aq:OB ps)
  (kk:VY prog cfg [] (bare l2) (Cl K) ((d,.s (wA (eI es s)))::xr) σ):VY prog cfg [] [] (Ht prog cfg K ⟨some d,.cQ (.lookup t m k false) ty [.mp 9 341,q] [m,k],none⟩ l2) xr σ:=by
 obtain⟨hc,he⟩:=bZ h
 have cE:=ry h
 subst cE
 subst hb
 refine⟨wA (eI es s),?_,kk.h⟩
 unfold QV
 simp only[bY,al,he aq rfl]
 exact NB hl
end
end Go.Proofs.YtajimcniogfpcaaGreatDoor
set_option maxHeartbeats 4000000
namespace Go.Proofs.YtajimcniogfpcaaGreatDoor
open _root_.Go.Proofs.Tryz
section
open Go.RowKit Go.Proofs Go.Tb Go.Maps Go.Sort
def pN(v:Value):Option (DataW Unit×List MemPlace):=match v with
 | .agg cs=>match cs.toList with
  |[.int .i64 h,.int .u64 l]=>some (.agg [.lit (.int .i64 h),.lit (.int .u64 l)],[])
  |_=>none
 |_=>none
def V3(c:Int×Int):Value:= .agg #[.int .i64 c.1,.int .u64 c.2]
theorem alS{v:Value}{y:DataW Unit×List MemPlace}(h:pN v=some y):∃ c,v=V3 c:=by
 unfold pN at h
 split at h
 ·rename_i cs
  split at h
  ·rename_i hh ll e
   exact⟨(hh,ll),Ze Value.agg (by apply YB;simpa using e)⟩
  ·cases h
 ·cases h
theorem akr{w:World}{b n:Nat}{D:DataW Unit}(dY:w.ownsMap prog 9 pN b n D)(rV:Maps.size D≤1000):Calls prog 278 #[.map (some b)] w fun e w'=>
  ∃ (v:Value) (ss:List (List UInt8)),e= .returned v∧ss.Perm (strKeys D)∧w'.ownsRow w.heap.size 9 1 v ss.length ((ss.mergeSort (fun x y=>decide (x≤y))).map encStr)∧Below w.heap.size w w':=by
 obtain⟨i0,hi,ep,fy,fz⟩:=info_parts My
 have mP:=dY.lt
 go_enter func278,ntmps278
 go_wp2_with (at_range;refine wpList_range_own _ rfl _ 339 rfl 9 341 (string_keyed underlying9) underlying339 _ b n _ rfl dY ?_;intro w0 xo xc qu)
 go_frame
 go_loopw [3] (fun v wr=>∃ (left:Lit→Bool) (bu:Nat) (ss:List (List UInt8)),wr.ranges prog 9 pN b w.heap.size n D left bu∧ss.length+bu≤Maps.size D∧wr.ownsRow w.heap.size 9 1 v ss.length (ss.map encStr)∧Collected D left ss∧Below w.heap.size w wr) (fun _ wr=>wr.rangeLeft b w.heap.size)
 case atStart=>exact⟨_,_,[],xo,by simp,⟨by simp,.inl ⟨rfl,rfl⟩⟩,Collected.start D,(Below.refl _ _).grown xc (ZM _) (fun j hj=>by cases hj)⟩
 obtain⟨left,bu,ss,xn,cC,nT,hC,kJ⟩:=hrel
 go_wp2_with (at_next;refine wpList_next_ranges _ rfl _ rfl 9 (string_keyed underlying9) pN encStr V3 (fun key kl hk=>by obtain⟨x,hx,_⟩:=Maps.keyOf_str underlying9 hk;exact⟨x,hx⟩) (fun v y hv=>alS hv) b w.heap.size n _ _ _ rfl xn ?_ ?_)
 ·intro gV mS
  rcases nT.2 with⟨jj,QT⟩|⟨g,cap,cur,rfl,qj,hb,h1,h2,h3,h4⟩
  ·subst jj
   have lY:ss=[]:=Zx QT
   subst lY
   have hc:Calls prog 77 #[.slice none 0 0] wr _:=AnyM.slices_Sort_string_none Tryz.sort77 none 0 wr
   go_wp2_with (go_at_call 77;refine hc.mono ?_;rintro e w' ⟨rfl,rfl⟩)
   go_ret
   exact⟨_,[],rfl,hC.perm dY (string_keyed underlying9) underlying9 mS,(by rw[List.mergeSort_nil];exact nT),kJ⟩
  ·have hH:Holds encStr wr g 0 ss.toArray:=holds_of_block hb (by simpa using h4)
   have hgl:g<wr.heap.size:=(ZX.1 hb).1
   have hc:Calls prog 77 #[.slice (some ⟨g,0,none⟩) ss.length cap] wr _:=AnyM.slices_Sort_string Tryz.sort77 g 0 cap ss wr hH hgl (by omega)
   go_wp2_with (go_at_call 77;refine hc.mono ?_;rintro e w' ⟨rfl,nn,os,rfl⟩)
   go_ret
   exact⟨_,ss,rfl,hC.perm dY (string_keyed underlying9) underlying9 mS,ownsRow_sorted (by simp) qj hb h1 h2 h3,kJ.grown (grownBy_sorted _) kJ.size (fun j hj=>by cases hj;exact qj)⟩
 ·intro x c1 c2 kl yd yp w2 acB Cn Cp hv lg Q4 ar jC fj uG
  obtain⟨x',ex,rfl,_⟩:=Maps.keyOf_str underlying9 Cn
  obtain rfl:x=x':=encStr_inj ex
  have E0:=nT.kept jC (Or.inr (row_ne_iter nT xn).symm)
  clear fj
  go_wp2_with (at_builtin;refine wpList_append_own _ rfl _ _ 51 rfl w.heap.size 9 i0 (.string ⟨#[]⟩) 1 16 underlying51 hi ep fy fz rfl (by decide) _ _ _ rfl (E0.alloc _) ⟨w2.heap.size,0,none⟩ 1 1 [encStr x] rfl rfl (cell_one_new _ _ _) (by simp[Value.oneCell',encStr]) (by unfold maxLen at *;omega) (by omega) (by have:=kJ.size;have:=jC.size;simp;omega) ?_;intro v' w3 aeY qm an5;go_frame)
  have Q5:=(Q4.alloc _).kept qm (row_ne_low E0 mP) (row_ne_iter E0 Q4)
  go_roundw
  case rel=>
   refine⟨_,acB,ss++[x],Q5,by simp;omega,by simpa using aeY,hC.step Cp lg,?_⟩
   exact((kJ.grown jC kJ.size (fun j hj=>by cases hj;exact ZM _)).alloc (by have:=kJ.size;have:=jC.size;omega) _).grown qm (by have:=kJ.size;have:=jC.size;simp;omega) (fun j hj=>(E0.lt j hj).1)
  case measure=>rw[Q5.left_eq,xn.left_eq];exact ar
end
section
open Go.Sx Go.Proofs Go.Tb Go.RowKit Go.Maps
theorem alT{n:Int}:pN (wv n)=some (.agg [.lit (.int .i64 (iH n)),.lit (.int .u64 (eC n))],[]):=rfl
theorem alO{M:Mem}{l:List MapEntry}{es:List (ae×Int)}(hk:l.map (fun e=>(e.key,e.born))=(wE es).map (fun e=>(e.1,e.2.1)))(hv:RL M ((wE es).map (·.2.2)) (l.map (·.val))):l.length=es.length∧∀ i (h:i<l.length) (h':i<es.length),l[i].key= .string es[i].1∧l[i].born=i∧l[i].val=wv es[i].2:=by
 rw[G0]at hk
 rw[G1]at hv
 refine⟨by have:=Ze List.length hk;simpa using this,fun i h h'=> ?_⟩
 have h5:=Ze (fun x=>x[i]?) hk
 simp[h,h']at h5
 have h6:=hv.2 i (by simpa using h') (by simpa using h)
 simp only[Zj]at h6
 exact⟨h5.1,h5.2,FL h6⟩
theorem Nc{e:MapEntry}{s:ae}{n:Int}(g1:e.key= .string s)(g3:e.val=wv n)(g4:s.size≤maxLen):WideElems.rd prog 9 pN e=some (ky s,.agg [.lit (.int .i64 (iH n)),.lit (.int .u64 (eC n))]):=by
 unfold WideElems.rd
 simp only[g1,g3,WideMaps.keyOf_string_mk underlying9 g4,Option.bind_some,alT,ZD]
 rfl
theorem alP{l:List MapEntry}{es:List (ae×Int)}(hlen:l.length=es.length)(lg:∀ i (h:i<l.length) (h':i<es.length),l[i].key= .string es[i].1∧l[i].born=i∧l[i].val=wv es[i].2)(hn:(es.map Prod.fst).Nodup)(hs:∀ p∈es,p.1.size≤maxLen)(hl:es.length≤1000):
  WideElems.Fit prog 9 pN l.toArray es.length:=by
 refine⟨by simp;unfold maxLen;omega,⟨fun x hx=> ?_,?_,?_⟩,fun x hx=> ?_⟩
 ·obtain⟨i,hi,rfl⟩:=YQ.1 hx
  have cK:i<l.length:=by simpa using hi
  simp only[]
  rw[(lg i cK (by omega)).2.1];omega
 ·have e:l.toArray.toList.map (fun x=>x.born)=List.range es.length:=by
   refine X7 (by simp[hlen]) fun i h1 h2=> ?_
   have cK:i<l.length:=by simpa using h1
   simp[(lg i cK (by omega)).2.1]
  rw[e];exact List.nodup_range
 ·have e:l.toArray.toList.map (fun x=>x.key)=(es.map Prod.fst).map Value.string:=by
   refine X7 (by simp[hlen]) fun i h1 h2=> ?_
   have cK:i<l.length:=by simpa using h1
   simp[(lg i cK (by omega)).1]
  rw[e]
  exact W7.2 (hn.imp fun h e=>h (by injection e))
 ·obtain⟨i,hi,rfl⟩:=YQ.1 hx
  have cK:i<l.length:=by simpa using hi
  obtain⟨g1,g2,g3⟩:=lg i cK (by omega)
  exact⟨_,Nc g1 g3 (hs es[i] (Zc (by omega)))⟩
theorem akq{σ:Store}{tg b:Nat}{es:List (ae×Int)}(hl:aM σ tg=some (b,.map (wE es) es.length))(hn:(es.map Prod.fst).Nodup)(hs:∀ p∈es,p.1.size≤maxLen)(hz:es.length≤1000):
  Sx.Spec prog 278 [.bH tg b] σ fun r σ'=>r= .ret (qR (ke (es.map Prod.fst)))∧σ'=σ:=by
 intro M w0 w cs hI hR
 obtain⟨v,rfl,h1⟩:=RL.cT hR
 have g1:=h1.qF
 subst g1
 obtain⟨hM,l,hh,gq,iy⟩:=hI.rH hl
 obtain⟨hlen,lg⟩:=alO gq iy
 have hF:=alP hlen lg hn hs hz
 have dY:=World.ownsMap_of_fit (R:=pN) hh hF (fun x _ z h=>h)
 have aY:=dY.size_le
 have CC:l.toArray.size≤1000:=by simp;omega
 refine(akr dY (by omega)).mono fun e w' ⟨v,ss,he,hp,nT,hb⟩=> ?_
 have hk:∀ s:ae,s.size≤maxLen→has (DataW.map (List.foldr DataW.insert [] (List.map (WideElems.rg prog 9 pN) l.toArray.toList))) (ky s)=decide (s∈es.map Prod.fst):=fun s lX=>by
  rw[YJ,has_eq,Ym,decide_eq_true_iff]
  constructor
  ·rintro⟨p,hp,ae1⟩
   rw[mem_sorted]at hp
   obtain⟨x,hx,rfl⟩:=Y9.1 hp
   obtain⟨i,hi,rfl⟩:=YQ.1 hx
   have cK:i<l.length:=by simpa using hi
   obtain⟨g1,g2,g3⟩:=lg i cK (by omega)
   have pg:=Nc g1 g3 (hs es[i] (Zc (by omega)))
   have e:=WideAt.sameKey_eq ae1
   unfold WideElems.rg at e
   simp only[List.getElem_toArray,pg,Zk]at e
   have e2:=SA e
   rw[← e2]
   exact Y9.2 ⟨_,Zc (by omega),rfl⟩
  ·intro h
   obtain⟨p,hp,rfl⟩:=Y9.1 h
   obtain⟨i,hi,rfl⟩:=YQ.1 hp
   obtain⟨g1,g2,g3⟩:=lg i (by omega) hi
   have pg:=Nc g1 g3 (hs es[i] hp)
   refine⟨WideElems.rg prog 9 pN l[i],mem_sorted.2 (Y9.2 ⟨l[i],by simp,rfl⟩),?_⟩
   unfold WideElems.rg
   rw[pg]
   exact WideAt.sameKey_self (zY _)
 obtain⟨S,g1,g2,g3⟩:=Ms underlying9 dY (L:=es.map Prod.fst) (fun s h=>by obtain⟨p,hp,rfl⟩:=Y9.1 h;exact hs p hp) hk hp nT
 have hS:S=ke (es.map Prod.fst):=ox g1 (vG _) fun x=>by rw[g2,yi]
 refine⟨nj M w.heap.size w',.ret (qR (ke (es.map Prod.fst))),σ,Lv hI,RQ hI hb,?_,rfl,rfl⟩
 subst he
 rw[← hS]
 exact LA g3 (ZM _)
end
end Go.Proofs.YtajimcniogfpcaaGreatDoor
namespace Go.Proofs.YtajimcniogfpcaaGreatDoor
open Go.Sx Go.Proofs Go.Tb
def kV(es:List (ae×Int))(f:ax):List (ae×Int):=jo es f.name (eI es f.name+f.exp)
def jK(l:List ax):List (ae×Int):=l.foldl kV []
theorem akK{l:List ax}{i:Nat}(h:i<l.length):jK (l.take (i+1))=kV (jK (l.take i)) (l.getD i default):=by
 unfold jK
 rw[ZF h,List.foldl_append,← getD_eq h];rfl
theorem PZ(s t:ae)(v:Int):∀ es,eI (jo es s v) t=if t=s then v else eI es t
 |[]=>by
  simp only[jo,eI]
  grind
 |p::es=>by
  have ih:=PZ s t v es
  by_cases hp:p.1=s
  ·subst hp
   simp only[jo,Y2,eI]
   grind
  ·simp only[jo,Z5 hp,eI]
   grind
theorem T3(s:ae)(v:Int):∀ es,(jo es s v).map Prod.fst=if s∈es.map Prod.fst then es.map Prod.fst else es.map Prod.fst++[s]
 |[]=>by rfl
 |p::es=>by
  have ih:=T3 s v es
  by_cases hp:p.1=s
  ·subst hp;simp[jo]
  ·have mT:¬s=p.1:=fun e=>hp e.symm
   simp only[jo,Z5 hp,ZE,ih,ZT,mT,false_or]
   grind
theorem Pg(f:ax)(l:List ax)(s:ae):gP (f::l) s=(if f.name=s then f.exp else 0)+gP l s:=by
 unfold gP
 by_cases h:f.name=s
 ·simp[h]
 ·simp[h]
theorem PY(s:ae):∀ (l:List ax) (es:List (ae×Int)),eI (l.foldl kV es) s=eI es s+gP l s
 |[],es=>by simp[gP]
 |f::l,es=>by
  rw[Xd,PY s l,Pg,kV,PZ]
  grind
theorem Ju(l:List ax)(s:ae):eI (jK l) s=gP l s:=by unfold jK;rw[PY];simp[eI]
theorem U9:∀ (l:List ax) (es:List (ae×Int)),(es.map Prod.fst).Nodup→((l.foldl kV es).map Prod.fst).Nodup∧(∀ s,s∈(l.foldl kV es).map Prod.fst↔s∈es.map Prod.fst∨s∈l.map ax.name)∧(l.foldl kV es).length≤es.length+l.length
 |[],es,h=>⟨h,fun s=>by simp,ZM _⟩
 |f::l,es,h=>by
  have hk:=T3 f.name (eI es f.name+f.exp) es
  have hl:(kV es f).length≤es.length+1:=by
   have h2:=Ze List.length hk
   unfold kV
   grind
  have hm:∀ s,s∈(kV es f).map Prod.fst↔s∈es.map Prod.fst∨s=f.name:=fun s=>by
   unfold kV;grind
  have hn:((kV es f).map Prod.fst).Nodup:=by
   unfold kV;grind
  obtain⟨g1,g2,g3⟩:=U9 l (kV es f) hn
  grind
theorem I3(s:ae):∀ (l:List ax),(∀ f∈l, -8≤f.exp∧f.exp≤8)→-8 * (l.length:Int)≤gP l s∧gP l s≤8 * (l.length:Int)
 |[],_=>by simp[gP]
 |f::l,h=>by
  have h1:=I3 s l fun f hf=>h f (ZO _ hf)
  have h2:=h f ZC
  rw[Pg,Z8]
  split<;>omega
def iZ(lab:Nat)(rows:List (List AV))(x:AV)(τ:Store):Prop:=(rows=[]∧x=gK∧τ=[])∨∃ b u c,x= .own 2 lab b u c rows∧τ=[(lab,b,.tail u c)]
theorem iZ.z{lab:Nat}:iZ lab [] gK []:= .inl ⟨rfl,rfl,rfl⟩
theorem iZ.n{lab:Nat}{rows:List (List AV)}(h:rows=[]):iZ lab rows gK []:= .inl ⟨h,rfl,rfl⟩
theorem iZ.s{lab b u c:Nat}{rows rows':List (List AV)}(h:rows'=rows):iZ lab rows (.own 2 lab b u c rows') [(lab,b,.tail u c)]:= .inr ⟨b,u,c,by rw[h],rfl⟩
def ui(l:List ax)(L:List ae):List ax:=(L.map fun n=>(⟨n,gP l n⟩:ax)).filter fun f=>decide (f.exp≠0)
theorem adz{l:List ax}{N:List ae}{i:Nat}(h:i<N.length):ui l (N.take (i+1))=ui l (N.take i)++if gP l (N.getD i default)≠0 then[⟨N.getD i default,gP l (N.getD i default)⟩]else[]:=by
 unfold ui
 rw[ZF h,← getD_eq h,Y7,XQ,List.map_singleton,Yn]
 simp
theorem ady(l:List ax)(L:List ae):(ui l L).length≤L.length:=ZG (Xt _ _) (by rw[Z4];exact ZM _)
theorem ah2(l:List ax)(hw:∀ f∈l,Word f.name)(hb:∀ f∈l, -8≤f.exp∧f.exp≤8)(hl:l.length≤8):Pure Tryz.prog 245 [.sl false 2 (l.map ax.cells)] (AE (Ad l)):=by
 refine agK.p fun σ=> ?_
 repeat'(first|exact .nil|refine .k0 ?_|refine .k1 ?_|refine .k2 ?_|refine .k6 ?_|refine .r1 ?_ ?_|(refine .m2 ?_ ?_;intro hlen)|(refine .l3 ?_;intro b)|fail)
 all_goals(try simp only[BL]at *)
 rename Nat=>b1
 refine bO (fun m rg σ'=>∃ (i:Nat),i≤l.length∧m=l.length-i∧σ'=(11,b1,.map (wE (jK (l.take i))) (jK (l.take i)).length)::σ∧rg=[(2,gK),(4,.bH 11 b1),(12,.sl false 2 (l.map ax.cells)),(13,iv l.length),(14,iv i)]) l.length rfl ⟨_,_,Zr,Zs,0,ZL _,rfl,rfl,rfl⟩ ?_
 rintro m _ _ ⟨i,hi,hm,rfl,rfl⟩
 have JH:i<l.length→-1000≤(l.getD i default).exp∧(l.getD i default).exp≤1000:=fun h=>by
  have:=hb _ (dt h);omega
 have Qf:∀ s, -1000≤eI (jK (l.take i)) s∧eI (jK (l.take i)) s≤1000:=fun s=>by
  have h1:=I3 s (l.take i) fun f hf=>hb f (Yh hf)
  rw[ZQ]at h1
  rw[Ju];omega
 repeat'((fail_if_success (show WK _ _ _ _ (.dF _) _ _ _));(first|exact .nil|refine .k0 ?_|refine .k1 ?_|refine .k2 ?_|refine .k6 ?_|refine .k7 ?_|refine .k8 ?_|refine .k9 ?_|(refine .cd ?_ ?_<;>(intro hc;skip))|refine .r1 ?_ ?_|(refine .l1 ?_;intro b)|refine .t1 ?_ ?_ ?_|refine .an rfl (by intro aB;first|exact V6 _|fail) ?_ ?_|fail))
 try any_goals((intro aB;first|(simp_all;done)|fail))
 all_goals(try simp only[BL]at *)
 ·exact absurd (hw _ (dt (by omega))) hc
 ·have cD:i<l.length:=by omega
  refine abf 28 rfl rfl rfl ?_
  repeat'(first|exact .nil|refine .k0 ?_|refine .r1 ?_ ?_|fail)
  refine aaV rfl rfl rfl OB.nil ?_
  repeat'(first|exact .nil|refine .k0 ?_|refine .k1 ?_|refine .k2 ?_|refine .r1 ?_ ?_|refine .an rfl (by intro aB;first|exact Tn (JH (by first|omega|fail))|exact abt (Qf _) (JH (by first|omega|fail))|fail) ?_ ?_|fail)
  all_goals(try simp only[BL]at *)
  refine aaE (es:=jK (l.take i)) (s:=(l.getD i default).name) (v:=eI (jK (l.take i)) (l.getD i default).name+(l.getD i default).exp) rfl rfl rfl rfl OB.nil ?_
  repeat'(first|exact .nil|refine .k0 ?_|refine .k1 ?_|refine .k2 ?_|refine .r1 ?_ ?_|fail)
  all_goals(try simp only[BL]at *)
  refine⟨m-1,by omega,_,(11,b1,.map (wE (jK (l.take (i+1)))) (jK (l.take (i+1))).length)::σ,Zr,by rw[akK cD];repeat' first|exact .refl _|refine .cons ?_,i+1,by omega,by omega,rfl,by rw[cu (n:=l.length) (by omega) (by assumption)]⟩
 ·have cD:i=l.length:=by omega
  subst cD
  rw[XA]
  have hK:=U9 l [] Xn
  have qq:ke ((jK l).map Prod.fst)=ke (l.map ax.name):=ox (vG _) (vG _) fun x=>by
   rw[yi,yi];exact(hK.2.1 x).trans (by simp)
  refine A8 rfl (akq (es:=jK l) rfl hK.1 (fun p hp=> ?_) (by have:=hK.2.2;simp only[Z0]at this;show(l.foldl kV []).length≤_;omega)) OB.nil (fun x σ' hR=> ?_) (fun ch σ' hR=> ?_)
  ·have h1:=(hK.2.1 p.1).1 (Y9.2 ⟨p,hp,rfl⟩)
   rcases h1 with h1|h1
   ·cases h1
   ·obtain⟨f,hf,e⟩:=Y9.1 h1
    have:=(hw f hf).2.1
    rw[← e];unfold maxLen;omega
  rotate_left
  ·exact nomatch hR.1
  obtain⟨e1,e2⟩:=hR
  cases e1
  subst e2
  rw[qq]
  have JM:Ad l=if∃ n∈ke (l.map ax.name),gP l n>8∨gP l n< -8 then([],70)else if(ui l (ke (l.map ax.name))).length>4 then([],2)else(ui l (ke (l.map ax.name)),0):=rfl
  have hNl:(ke (l.map ax.name)).length≤8:=by
   have:=ic (yj (vG (l.map ax.name))) fun x hx=>yi.1 hx
   rw[Z4]at this;omega
  generalize ke (l.map ax.name)=N at *
  repeat'(first|exact .nil|refine .k0 ?_|refine .k1 ?_|refine .k6 ?_|refine .r1 ?_ ?_|(refine .m2 ?_ ?_;intro hlen)|fail)
  all_goals(try simp only[BL]at *)
  clear JH Qf qq hK hi hm hc
  have hE7:∀ s, -1000≤eI (jK l) s∧eI (jK l) s≤1000:=fun s=>by
   have h1:=I3 s l hb
   rw[Ju];omega
  have hG:=fun s=>Ju l s
  generalize jK l=es at *
  refine bO (fun m rg σ'=>∃ (i:Nat) (x:AV) (τ:Store),i≤N.length∧m=N.length-i∧(∀ n∈N.take i,¬(gP l n>8∨gP l n< -8))∧iZ 61 ((ui l (N.take i)).map ax.cells) x τ∧σ'=τ++(11,b1,.map (wE es) es.length)::σ∧rg=[(2,x),(4,.bH 11 b1),(35,qR N),(36,iv N.length),(37,iv i)]) N.length rfl ⟨_,_,Zr,Zs,0,_,_,ZL _,rfl,(fun n h=>by cases h),iZ.z,rfl,rfl⟩ ?_
  rintro m2 _ _ ⟨i,x,τ,hi,hm,hP,hR,rfl,rfl⟩
  have eY:(ui l (N.take i)).length≤8:=ZG (ady _ _) (by rw[ZQ];omega)
  have uS:=fun(h:i<N.length)=>adz (l:=l) h
  have Ql:i<N.length→¬(gP l (N.getD i default)>8∨gP l (N.getD i default)< -8)→∀ n∈N.take (i+1),¬(gP l n>8∨gP l n< -8):=fun h h1 n hn=>by
   rw[ZF h,← getD_eq h,ZJ,Zm]at hn
   rcases hn with hn|rfl
   ·exact hP n hn
   ·exact h1
  rcases hR with⟨hE,rfl,rfl⟩|⟨b3,u3,c3,rfl,rfl⟩
  all_goals
   repeat'(first|exact .nil|refine .k0 ?_|refine .k1 ?_|refine .k2 ?_|refine .k6 ?_|refine .k7 ?_|refine .k8 ?_|refine .k9 ?_|(refine .cd ?_ ?_<;>(intro hc;skip))|refine .r1 ?_ ?_|(refine .m2 ?_ ?_;intro hlen)|refine .t1 ?_ ?_ ?_|refine .r8 ?_ ?_|fail)
   refine aas rfl rfl rfl OB.nil ?_
   repeat'(first|exact .nil|refine .k0 ?_|refine .k1 ?_|refine .k2 ?_|refine .k7 ?_|refine .k9 ?_|(refine .cd ?_ ?_<;>(intro hc;skip))|refine .r1 ?_ ?_|refine .u1 ?_ ?_ ?_ (fun b u c=> ?_)|refine .u2 ?_ ?_ ?_ (fun b u c=> ?_)|refine .an rfl (by intro aB;first|exact TD _ 8 (by decide)|exact ac8 (hE7 _)) ?_ ?_|(show List.all _ _=true;rfl)|fail)
   try any_goals((intro aB;first|(simp_all;done)|fail))
   all_goals(try simp only[BL]at *)
   ·rw[JM,ZW ⟨N.getD i default,dt (by omega),by rw[hG]at hc;exact hc⟩]
    exact Zw
   ·show _≤1000000;simp only[Z8,Z0];omega
   ·show _ * _≤_;simp only[Z4,Z8,Z0];omega
   ·have Cq:¬(eI es (N.getD i default)>8∨eI es (N.getD i default)< -8):=by assumption
    rw[hG]at hc Cq
    refine⟨m2-1,by omega,_,_,Zr,Zs,i+1,_,_,by omega,by omega,Ql (by omega) Cq,iZ.s ?_,rfl,by rw[cu (n:=N.length) (by omega) (by assumption)]⟩
    rw[uS (by omega),ZW hc,Y7,hG]
    first|(rw[hE];rfl)|rfl
   ·have Cq:¬(eI es (N.getD i default)>8∨eI es (N.getD i default)< -8):=by assumption
    rw[hG]at hc Cq
    refine⟨m2-1,by omega,_,_,Zr,Zs,i+1,_,_,by omega,by omega,Ql (by omega) Cq,?_,rfl,by rw[cu (n:=N.length) (by omega) (by assumption)]⟩
    rw[uS (by omega),Z5 (by rw[hc];simp),YX]
    first|exact iZ.n hE|exact iZ.s rfl
   ·have rS:N.take i=N:=Zq (by omega)
    rw[rS]at hP
    try rw[rS]at hE
    try rw[rS]at hc
    try rw[rS]
    rw[JM,Z5 (by rintro⟨n,hn,dK⟩;exact hP n hn dK)]
    first
     |exact absurd hc (by decide)
     |(rw[ZW (by omega)];(refine Sx.Fin.wk Zs ?_;repeat' first|exact .refl _|exact .nil|refine .cons ?_ ?_|refine .aP ?_|fail))
   ·have rS:N.take i=N:=Zq (by omega)
    rw[rS]at hP
    try rw[rS]at hE
    try rw[rS]at hc
    try rw[rS]
    rw[JM,Z5 (by rintro⟨n,hn,dK⟩;exact hP n hn dK)]
    first
     |(rw[XC.1 hE,Z5 (by decide)];refine Sx.Fin.wk Zs (.aP (.cons .nil (.cons (.refl _) .nil)));done)
     |(rw[Z5 (by omega)];(refine Sx.Fin.wk Zs ?_;repeat' first|exact .refl _|refine .cons ?_ ?_|refine .aP ?_|exact .own _))
end Go.Proofs.YtajimcniogfpcaaGreatDoor
namespace Go.Proofs.YtajimcniogfpcaaGreatDoor
open _root_.Go.Proofs.Tryz
section
open Go.RowKit Go.Proofs Go.Tb Go.Shelf
theorem adv:(prog.info? 150).map (fun i=>(i.zero,i.size,i.bytes))=some (some (.agg #[.string ⟨#[]⟩,.int .i64 0]),2,24):=by kernel_rfl
theorem acr{w:World}{ad:Addr}{n c:Nat}{news:List Value}(hlen:news.length=n * 2)(hc:∀ j u,news[j]? =some u→w.cell? (ad.add j)=some u)(h1:∀ u∈news,u.oneCell'=true)(hn:n≤8):
  Calls prog 244 #[.slice (some ad) n c] w fun e w'=>∃ v',e= .returned v'∧w'.ownsRow w.heap.size 150 2 v' n news∧v'≠.slice none 0 0∧Below w.heap.size w w':=by
 obtain⟨i0,hi,ep,fy,fz⟩:=info_parts adv
 have vy:∀ (w:World) (a:Option Addr) (n c n' c':Nat),(binOp .eql 29 (.slice a n c) (.slice none n' c')).run prog w= .ok (.bool a.isNone) w:=fun w a n c n' c'=>Lib.run_eql_slice_nil w _ _ a n c n' c' underlying29
 have A:Aside (∀ j u,news[j]? =some u→w.cell? (ad.add j)=some u):=hc
 clear hc
 go_enter func244,ntmps244
 go_wp2_with (at_builtin;refine wpList_append_own _ rfl _ _ 29 rfl w.heap.size 150 i0 (.agg #[.string ⟨#[]⟩,.int .i64 0]) 2 24 underlying29 hi ep fy fz rfl (by decide) _ _ _ rfl (World.ownsRow_made w #[] 0 (ZM _) (ZL _) rfl) ad n c news rfl hlen ?qc2 h1 ?qc4 ?qc5 ?qc6 ?_)
 case qc2=>
  intro j u hj
  exact Lib.cell?_alloc_some _ (A.out j u hj)
 case qc4=>unfold maxLen;omega
 case qc5=>omega
 case qc6=>simp
 intro v' w1 dY Ch jj
 go_wp2
 go_ret
 refine⟨v',rfl,by simpa using dY,?_,?_⟩
 ·first|exact jj|fail
 ·exact((Below.refl _ w).alloc (ZM _) _).grown Ch (by simp) (by intro k hk;simp[Value.ownBlock]at hk;omega)
theorem acq(n c:Nat)(w:World):Calls prog 244 #[.slice none n c] w fun e w'=>e= .returned (.slice none 0 0)∧w'=w:=by
 have vy:∀ (w:World) (a:Option Addr) (n c n' c':Nat),(binOp .eql 29 (.slice a n c) (.slice none n' c')).run prog w= .ok (.bool a.isNone) w:=fun w a n c n' c'=>Lib.run_eql_slice_nil w _ _ a n c n' c' underlying29
 go_enter func244,ntmps244
 go_wp2
 go_ret
 exact⟨rfl,rfl⟩
end
section
open Go.Sx Go.Proofs Go.Tb Go.RowKit
def pA(M:Mem)(g u:Nat)(w':World):Mem:=fun b o=>if b=g∧o<u then w'.cell? ⟨b,o,none⟩else M b o
theorem Lw{M:Mem}{w0:Base}{w w':World}{σ:Store}{g u:Nat}(hI:Inv prog M w0 σ w)(hg:w.heap.size≤g):M.le (pA M g u w'):=fun b o v h=>by
 have:=World.block_lt_of_cell? _ _ (hI.cH b o v h)
 unfold pA
 rw[Z5 (by simp at this;omega)];exact h
theorem afB{M:Mem}{w0:Base}{w w':World}{σ:Store}{g u lab:Nat}{cur:Array Value}{ty:TypeId}(hI:Inv prog M w0 σ w)(hb:Below w.heap.size w w')(hg:w.heap.size≤g)(hh:w'.heap[g]? =some (.cells cur ty (0,0)))(hu:u≤cur.size):
  Inv prog (pA M g u w') w0 ((lab,g,.tail u cur.size)::σ) w':=by
 have h1:=hI.after hb
 have hle:=Lw (w':=w') (u:=u) hI hg
 have Kf:∀ o,M g o=none:=fun o=>by
  cases h:M g o with
  |none=>rfl
  |some v=>
   have:=World.block_lt_of_cell? _ _ (hI.cH g o v h)
   simp at this;omega
 have ar:∀ e∈σ,e.2.1<w.heap.size:=fun e he=>by
  obtain⟨_,g3⟩:=hI.st e he
  cases hx:e.2.2 with
  |cells l=>rw[hx]at g3;obtain⟨_,cs,t,a2,_⟩:=g3;exact(ZX.1 a2).1
  |tail u c=>rw[hx]at g3;obtain⟨_,cs,t,a2,_⟩:=g3;exact(ZX.1 a2).1
  |map es k=>rw[hx]at g3;obtain⟨_,l,a2,_⟩:=g3;exact(ZX.1 a2).1
 refine⟨h1.os,h1.tape,h1.output,h1.size,h1.old,fun b o v h=> ?_,fun e he=> ?_,?_,fun g l hl=>(h1.gl g l hl).mono hle,h1.gw,fun b o v hv ar=>h1.bm b o v (by unfold pA at hv;rwa [Z5 (by have:=hI.size;omega)]at hv) ar⟩
 ·unfold pA at h
  split at h
  ·exact h
  ·exact h1.cH b o v h
 ·rcases ZT.1 he with rfl|he
  ·refine⟨ZG hI.size hg,fun o ho=> ?_,cur,ty,hh,rfl,hu⟩
   unfold pA
   rw[Z5 (by omega)];exact Kf o
  ·obtain⟨g1,g2⟩:=h1.st e he
   have h4:=ar e he
   refine⟨g1,?_⟩
   have hN:∀ o,pA M g u w' e.2.1 o=M e.2.1 o:=fun o=>by unfold pA;rw[Z5 (by omega)]
   cases hx:e.2.2 with
   |cells l=>rw[hx]at g2;obtain⟨a1,cs,t,a2,a3⟩:=g2;exact⟨fun o=>(hN o).trans (a1 o),cs,t,a2,a3.mono hle⟩
   |tail u c=>rw[hx]at g2;obtain⟨a1,cs,t,a2,a3⟩:=g2;exact⟨fun o ho=>(hN o).trans (a1 o ho),cs,t,a2,a3⟩
   |map es k=>rw[hx]at g2;obtain⟨a1,l,a2,a3,a4⟩:=g2;exact⟨fun o=>(hN o).trans (a1 o),l,a2,a3,a4.mono hle⟩
 ·simp only[ZE,YV]
  refine⟨fun h=> ?_,h1.nd⟩
  obtain⟨e,he,heq⟩:=Y9.1 h
  have:=ar e he
  omega
theorem acz(l:List ax)(hl:l.length≤8)(σ:Store):Sx.Spec prog 244 [.sl false 2 (l.map ax.cells)] σ fun r σ'=>(l=[]∧r= .ret gK∧σ'=σ)∨∃ g u c,r= .ret (.own 2 40 g u c (l.map ax.cells))∧σ'=(40,g,.tail u c)::σ:=by
 intro M w0 w cs hI hR
 obtain⟨v,rfl,h1⟩:=RL.cT hR
 have key:∀ (ad:Addr) (c:Nat) (f:Nat→Value),(∀ k,k<l.length * 2→w.cell? (ad.add k)=some (f k))→(∀ i (h:i<(l.map ax.cells).length) j (h2:j<((l.map ax.cells)[i]).length),R M ((l.map ax.cells)[i])[j] (f (i * 2+j)))→v= .slice (some ad) l.length c→
   Calls prog 244 #[v] w fun e w'=>∃ M' r σ',M.le M'∧Inv prog M' w0 σ' w'∧kq M' r e∧((l=[]∧r= .ret gK∧σ'=σ)∨∃ g u c,r= .ret (.own 2 40 g u c (l.map ax.cells))∧σ'=(40,g,.tail u c)::σ):=fun ad c f hf hr hv=>by
  subst hv
  have xk:∀ i (h:i<l.length),f (i * 2)= .string l[i].name∧f (i * 2+1)= .int .i64 l[i].exp:=fun i h=>by
   have a0:=hr i (by simpa using h) 0 (by simp[ax.cells])
   have a1:=hr i (by simpa using h) 1 (by simp[ax.cells])
   simp only[Zj]at a0 a1
   exact⟨a0.ay,a1.ay⟩
  refine(acr (w:=w) (ad:=ad) (n:=l.length) (c:=c) (news:=(List.range (l.length * 2)).map f) (by simp) (fun j u hj=> ?_) (fun u hu=> ?_) hl).mono fun e w' ⟨v',he,dY,Ct,hb⟩=> ?_
  ·have iU:j<l.length * 2:=by have:=(ZK.1 hj).1;simpa using this
   rw[hf j iU]
   simpa[iU]using hj
  ·obtain⟨k,hk,rfl⟩:=Y9.1 hu
   have fW:k<l.length * 2:=YT.1 hk
   have:=xk (k / 2) (by omega)
   rcases Nat.mod_two_eq_zero_or_one k with h|h
   ·rw[show k=k / 2 * 2 by omega,this.1];rfl
   ·rw[show k=k / 2 * 2+1 by omega,this.2];rfl
  ·obtain⟨g1,g2⟩:=dY
   rcases g2 with⟨jj,_⟩|⟨g,cap,cur,rfl,qj,hh,hc,hm,hs,ht⟩
   ·exact absurd jj Ct
   ·refine⟨pA M g (l.length * 2) w',.ret (.own 2 40 g (l.length * 2) cur.size (l.map ax.cells)),_,Lw hI qj,afB hI hb qj hh (by omega),?_,.inr ⟨g,_,_,rfl,rfl⟩⟩
    subst he
    have hcell:∀ k,k<l.length * 2→w'.cell? ⟨g,k,none⟩=some (f k):=fun k hk=>by
     rw[oO hh]
     have:=Ze (fun x=>x[k]?) ht
     simp[hk]at this
     exact this
    have:=R.own (M:=pA M g (l.length * 2) w') 2 40 g (l.length * 2) cur.size (l.map ax.cells) 0 cap f (fun i hi=>by rw[Zj];rfl) (fun k hk=> ?_) (fun i hi j hj=>(hr i hi j hj).mono (Lw hI qj)) (by rw[Z4];exact hc) hm (.inr ⟨by rw[Z4];omega,by omega⟩) (by decide)
    ·rw[Z4]at this;exact this
    ·rw[Z4]at hk
     unfold pA
     rw[ZW ⟨rfl,by omega⟩,ZA]
     exact hcell k hk
 generalize hX:(AV.sl false 2 (l.map ax.cells))=X at h1
 cases h1<;>(try cases hX)
 ·rename_i a h0
  have mS:l=[]:=by simp at hX;exact hX.2.2
  subst mS
  cases a with
  |none=>exact(acq 0 0 w).mono fun e w' ⟨h1,h2⟩=>⟨M,.ret gK,σ,Mem.le.refl _,by rw[h2];exact hI,by subst h1;exact .v _,.inl ⟨rfl,rfl,rfl⟩⟩
  |some ad=>exact key ad 0 (fun _=>undef) (fun k hk=>by simp at hk) (fun i hi=>by simp at hi) rfl
 ·rename_i b off cap f hm hc aY hM oW
  exact key ⟨b,off,none⟩ cap f (fun k hk=>by rw[Addr.add_lit];exact hI.cH _ _ _ (hM k (by simpa using hk))) oW (by simp)
end
end Go.Proofs.YtajimcniogfpcaaGreatDoor
namespace Go.Proofs.YtajimcniogfpcaaGreatDoor
open Go.Sx Go.Proofs Go.Tb
theorem adu{p:Option ae}{f:ax}(h:oS p f=0):Word f.name∧-8≤f.exp∧f.exp≤8:=by
 unfold oS at h
 split at h
 ·cases h
 split at h
 ·cases h
 ·rename_i h1 h2
  exact⟨Classical.not_not.1 h1,by omega,by omega⟩
theorem Vv:∀ {l:List ax} {p:Option ae},my p l=0→∀ f∈l,Word f.name∧-8≤f.exp∧f.exp≤8
 |[],_,_,f,hf=>by cases hf
 |f::l,p,h,g,hg=>by
  rw[my]at h
  split at h
  ·rename_i h1
   rcases ZT.1 hg with rfl|hg
   ·exact adu h1
   ·exact Vv h g hg
  ·rename_i h1;exact absurd h h1
theorem Vw{l:List ax}(h:iN l=0):l.length≤4∧∀ f∈l,Word f.name∧-8≤f.exp∧f.exp≤8:=by
 unfold iN at h
 split at h
 ·cases h
 ·exact⟨by omega,Vv h⟩
def oh(sg:Int)(f:ax):ax:=⟨f.name,sg * f.exp⟩
theorem aeh{l:List ax}{lab:Nat}{x:AV}{τ:Store}(h:iZ lab (l.map ax.cells) x τ):Wk x (.sl false 2 (l.map ax.cells)):=by
 rcases h with⟨hE,rfl,rfl⟩|⟨b,u,c,rfl,rfl⟩
 ·rw[hE];exact .nil
 ·exact .own _
theorem TQ(a d:List ax)(sg:Int)(mW:sg=1∨sg= -1):Pure Tryz.prog 209 [.sl false 2 (a.map ax.cells),.sl false 2 (d.map ax.cells),iv sg] (AE (ml a d sg)):=by
 refine ago.p fun σ=> ?_
 repeat'(first|exact .nil|refine .k0 ?_|refine .k1 ?_|refine .k2 ?_|refine .k7 ?_|refine .k9 ?_|(refine .cd ?_ ?_<;>(intro hc;skip))|refine .r1 ?_ ?_|refine .an rfl (by intro aB;first|exact Vu _|fail) ?_ ?_|fail)
 all_goals(try simp only[BL]at *)
 ·rw[show ml a d sg=([],iN a)from ZW hc]
  refine Sx.Fin.wk Zs (.aP (.cons .nil (.cons (.refl _) .nil)))
 ·have ha:iN a=0:=by assumption
  rw[show ml a d sg=([],iN d)from by unfold ml;rw[Z5 (by rw[ha];simp),ZW hc]]
  refine Sx.Fin.wk Zs (.aP (.cons .nil (.cons (.refl _) .nil)))
 have ha:iN a=0:=by assumption
 have hb:iN d=0:=by assumption
 have hP:ml a d sg=Ad (a++d.map (oh sg)):=by unfold ml;rw[Z5 (by rw[ha];simp),Z5 (by rw[hb];simp)];rfl
 obtain⟨qi,o0⟩:=Vw ha
 obtain⟨mO,dK⟩:=Vw hb
 refine A8 rfl (acz a (by omega) _) OB.nil (fun x σ' hR=> ?_) (fun ch σ' hR=> ?_)
 rotate_left
 ·rcases hR with⟨_,h,_⟩|⟨_,_,_,h,_⟩<;>cases h
 have eU:∀ (g u c:Nat),iZ 40 ((a++(d.take 0).map (oh sg)).map ax.cells) (.own 2 40 g u c (a.map ax.cells)) [(40,g,.tail u c)]:=fun g u c=>iZ.s (by rw[List.take_zero,Y4,YX])
 have ae5:a=[]→iZ 40 ((a++(d.take 0).map (oh sg)).map ax.cells) gK []:=fun h=>iZ.n (by rw[h];rfl)
 have hNo:Pure Tryz.prog 245 [.sl false 2 ((a++d.map (oh sg)).map ax.cells)] (AE (Ad (a++d.map (oh sg)))):=by
  refine ah2 _ (fun f hf=> ?_) (fun f hf=> ?_) (by rw[Z9,Z4];omega)
  ·rcases ZJ.1 hf with hf|hf
   ·exact(o0 f hf).1
   ·obtain⟨q,hq,rfl⟩:=Y9.1 hf
    exact(dK q hq).1
  ·rcases ZJ.1 hf with hf|hf
   ·exact(o0 f hf).2
   ·obtain⟨q,hq,rfl⟩:=Y9.1 hf
    have:=(dK q hq).2
    show -8≤sg * q.exp∧sg * q.exp≤8
    rcases mW with rfl|rfl<;>omega
 rw[hP]
 clear hP hc
 rcases hR with⟨h0,h,rfl⟩|⟨g,u,c,h,rfl⟩<;>cases h
 all_goals
  repeat'(first|exact .nil|refine .k0 ?_|refine .k1 ?_|refine .k2 ?_|refine .k6 ?_|refine .r1 ?_ ?_|(refine .m2 ?_ ?_;intro hlen)|fail)
  all_goals(try simp only[BL]at *)
  first
   |(have _:=g
     rename Store=>σ
     refine bO (fun m rg σ'=>∃ (i:Nat) (x:AV) (τ:Store),i≤d.length∧m=d.length-i∧iZ 40 ((a++(d.take i).map (oh sg)).map ax.cells) x τ∧σ'=τ++σ∧rg=[(2,iv sg),(10,x),(25,.sl false 2 (d.map ax.cells)),(26,iv d.length),(27,iv i)]) d.length rfl ⟨_,_,Zr,Zs,0,_,_,ZL _,rfl,eU g u c,rfl,rfl⟩ ?_)
   |(rename Store=>σ
     refine bO (fun m rg σ'=>∃ (i:Nat) (x:AV) (τ:Store),i≤d.length∧m=d.length-i∧iZ 40 ((a++(d.take i).map (oh sg)).map ax.cells) x τ∧σ'=τ++σ∧rg=[(2,iv sg),(10,x),(25,.sl false 2 (d.map ax.cells)),(26,iv d.length),(27,iv i)]) d.length rfl ⟨_,_,Zr,Zs,0,_,_,ZL _,rfl,ae5 h0,rfl,rfl⟩ ?_)
  rintro m2 _ _ ⟨i,x,τ,hi,hm,hR,rfl,rfl⟩
  have hN3:i=d.length→Pure Tryz.prog 245 [x] (AE (Ad (a++d.map (oh sg)))):=fun h=>by
   subst h
   rw[XA]at hR
   exact hNo.wk (.cons (aeh hR) .nil)
  have uS:i<d.length→(a++(d.take (i+1)).map (oh sg)).map ax.cells=(a++(d.take i).map (oh sg)).map ax.cells++[[sv (d.getD i default).name,iv (sg * (d.getD i default).exp)]]:=fun h=>by
   rw[ZF h,← getD_eq h];simp[oh,ax.cells]
  have hwr:i<d.length→IntKind.i64.wrap (sg * (d.getD i default).exp)=sg * (d.getD i default).exp:=fun h=>by
   have:=(dK _ (dt h)).2
   rcases mW with rfl|rfl<;>exact eu (by omega)
  have qp:(a++(d.take i).map (oh sg)).length≤8:=by rw[Z9,Z4,ZQ];omega
  rcases hR with⟨hE,rfl,rfl⟩|⟨b3,u3,c3,rfl,rfl⟩
  all_goals
   repeat'(first|exact .nil|refine .k0 ?_|refine .k1 ?_|refine .k2 ?_|refine .k6 ?_|refine .k7 ?_|refine .k8 ?_|refine .k9 ?_|(refine .cd ?_ ?_<;>(intro hc;skip))|refine .r1 ?_ ?_|(refine .l1 ?_;intro b)|refine .t1 ?_ ?_ ?_|refine .u1 ?_ ?_ ?_ (fun b u c=> ?_)|refine .u2 ?_ ?_ ?_ (fun b u c=> ?_)|refine .an rfl (by intro aB;exact hN3 (by(simp only[BL]at *;omega))) ?_ ?_|(show List.all _ _=true;rfl)|fail)
   try any_goals((intro aB;first|(simp_all;done)|fail))
   all_goals(try simp only[BL]at *)
   ·show _≤1000000;simp only[Z8,Z0];omega
   ·show _ * _≤_;simp only[Z4,Z8,Z0];omega
   ·rw[hwr (by omega)]
    refine⟨m2-1,by omega,_,_,Zr,Zs,i+1,_,_,by omega,by omega,iZ.s ?_,rfl,by rw[cu (n:=d.length) (by omega) (by assumption)]⟩
    rw[uS (by omega)]
    try rw[hE]
    try rfl
   ·exact Zw
theorem Gy:lI:=fun a b=>by
 have hp:=TQ a b 1 (.inl rfl)
 refine agf.p fun σ=> ?_
 repeat'(first|exact .nil|refine .k0 ?_|refine .k1 ?_|refine .k2 ?_|refine .k7 ?_|refine .r1 ?_ ?_|refine .an rfl (by intro aB;exact hp) ?_ ?_|fail)
 all_goals(try simp only[BL]at *)
 exact Zw
theorem FQ:lH:=fun a b=>by
 have hp:=TQ a b (-1) (.inr rfl)
 refine agh.p fun σ=> ?_
 repeat'(first|exact .nil|refine .k0 ?_|refine .k1 ?_|refine .k2 ?_|refine .k7 ?_|refine .r1 ?_ ?_|refine .an rfl (by intro aB;exact hp) ?_ ?_|fail)
 all_goals(try simp only[BL]at *)
 exact Zw
theorem VS:∀ (l:List aj) (p:Option ae) (vs:List (ae×Int)),(eM 0 p l vs).1=0→(∀ q,p=some q→∀ f∈l,bL q f.name=true)∧bl (l.map aj.name)
 |[],_,_,_=>⟨fun _ _ f hf=>(by cases hf),List.Pairwise.nil⟩
 |f::l,p,vs,h=>by
  rw[eM]at h
  split at h
  ·rename_i h1;exact absurd h h1
  split at h
  ·cases h
  rename_i h2
  split at h
  ·cases h
  obtain⟨g1,g2⟩:=VS l (some f.name) _ h
  have hq:∀ q,p=some q→bL q f.name=true:=fun q hq=>by
   subst hq
   unfold jG at h2
   cases e:bL q f.name with
   |true=>rfl
   |false=>
    exfalso
    cases e2:bL f.name q with
    |true=>exact h2 (.inl e2)
    |false=>exact h2 (.inr ⟨by decide,Ax e2 e⟩)
  refine⟨fun q jY g hg=> ?_,Yp.2 ⟨fun b hb=> ?_,g2⟩⟩
  ·rcases ZT.1 hg with rfl|hg
   ·exact hq q jY
   ·exact Aw (hq q jY) (g1 _ rfl g hg)
  ·obtain⟨g,hg,rfl⟩:=Y9.1 hb
   exact g1 _ rfl g hg
theorem Pu{C:az}:∀ {l:List aj},lN C l=0→∀ f∈l,kZ C f=0
 |[],_,f,hf=>by cases hf
 |g::l,h,f,hf=>by
  rw[lN]at h
  split at h
  ·rename_i h1;exact absurd h h1
  rename_i h1
  rcases ZT.1 hf with rfl|hf
  ·simpa using h1
  ·exact Pu h f hf
theorem acd{C:az}(h:jw C=0):kP C=0∧(∀ f∈C.features,kZ C f=0)∧iF (deps C.features) (aL C.features)=[]:=by
 unfold jw at h
 split at h
 ·cases h
 split at h
 ·rename_i h1;exact absurd h h1
 split at h
 ·rename_i h1;exact absurd h h1
 rename_i h3
 split at h
 ·rename_i h1;exact absurd h h1
 rename_i h4
 split at h
 ·cases h
 rename_i h5
 exact⟨by simpa using h3,Pu (by simpa using h4),Classical.not_not.1 h5⟩
theorem ahS{C:az}(h:kP C=0):aL C.features=C.features.map aj.name:=by
 have h1:(eM 0 none C.features []).1=0:=by
  unfold kP at h
  rw[yu]at h
  by_cases h2:(eM 0 none (LL C 0) []).1=0
  ·exact h2
  ·rw[ZW h2]at h;exact h
 refine ox (xR _) (VS _ _ _ h1).2 fun x=> ?_
 rw[oj,CG,Y9]
theorem Pq{C:az}{f:aj}(h:kZ C f=0):nc C f.cN f.body=(f.type,0):=by
 unfold kZ at h
 split at h
 ·cases h
 split at h
 ·rename_i h1;exact absurd h h1
 split at h
 ·rename_i h1;exact absurd h h1
 rename_i h2
 have h2:(nc C f.cN f.body).2=0:=by simpa using h2
 have h3:(nc C f.cN f.body).1=f.type:=by
  unfold qP at h
  split at h
  ·cases h
  split at h
  ·cases h
  rename_i h4 h5
  generalize (nc C f.cN f.body).1=a at *
  generalize f.type=b at *
  cases a;cases b
  simp only[not_or,Classical.not_not]at h4 h5
  simp only[Ty.mk.injEq]
  exact⟨h4.1,h5,h4.2⟩
 exact Prod.ext h3 h2
end Go.Proofs.YtajimcniogfpcaaGreatDoor
