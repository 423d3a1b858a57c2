import Derived.Test.YtmemninechdogaaGreatDoorCd
import Derived.Shelf.Spec.BitsCarry
import Derived.Test.YtmemninechdogaaGreatDoorGa
import Derived.Test.YtmemninechdogaaGreatDoorHa
set_option linter.all false
set_option maxRecDepth 100000
set_option maxHeartbeats 4000000
namespace Go.Proofs.YtmemninechdogaaGreatDoor
open _root_.Go.Proofs.Tryz
open Go.RowKit Go.Proofs Go.Tb
theorem Mu(x y c:Int)(hx:0<=x)(hy:0<=y)(eY:0<=c)(hc:c<=1)(w:World):(callFunc 384 #[.int .u64 x,.int .u64 y,.int .u64 c]).run prog w=
  .ok (.value (.tuple #[.int .u64 ((x+y+c)%18446744073709551616),.int .u64 ((x+y+c) / 18446744073709551616)])) w:=by
 rw[run_callFunc_extern func384 (by kernel_rfl) (by kernel_rfl) (by kernel_rfl) (e:=add64Entry) (by kernel_rfl),run_add64 x y c hx hy eY hc];rfl
theorem WV(x y:Int)(hx:0<=x)(hy:0<=y)(w:World):(callFunc 384 #[.int .u64 x,.int .u64 y,.int .u64 0]).run prog w=
  .ok (.value (.tuple #[.int .u64 ((x+y)%18446744073709551616),.int .u64 ((x+y) / 18446744073709551616)])) w:=by
 rw[Mu x y 0 hx hy (by omega) (by omega),Int.add_zero]
def dO(n:Int):Int:=n%18446744073709551616
def eI(n:Int):Int:=if n<0 then -1 else 0
abbrev wv(n:Int):Value:=.agg #[.int .i64 (eI n),.int .u64 (dO n)]
theorem W6(n m:Int)(w:World)(hn: -1000<=n/\n<=1000)(hm: -1000<=m/\m<=1000):Calls prog 372 #[wv n,wv m] w fun e w'=>e= .returned (wv (n+m))/\Below w.heap.size w w':=by
 have h1:0<=dO n:=by unfold dO;omega
 have h2:0<=dO m:=by unfold dO;omega
 generalize DP:dO n=ln at*;generalize Jf:dO m=lm at*;generalize hhn:eI n=nI at*;generalize hhm:eI m=AB at*
 go_enter func372,ntmps372
 have e1:=WV ln lm h1 h2;have w1:0<=IntKind.u64.wrap nI:=by rw[IntKind.wrap_u64];omega
 have w2:0<=IntKind.u64.wrap AB:=by rw[IntKind.wrap_u64];omega
 have e2:=Mu (IntKind.u64.wrap nI) (IntKind.u64.wrap AB) ((ln+lm) / 18446744073709551616) w1 w2 (by omega) (by rw[<-DP,<-Jf];unfold dO;omega);have AA:(ln+lm)%18446744073709551616=dO (n+m):=by rw[<-DP,<-Jf];unfold dO;omega
 have Aq:IntKind.i64.wrap ((IntKind.u64.wrap nI+IntKind.u64.wrap AB+(ln+lm) / 18446744073709551616)%18446744073709551616)=eI (n+m):=by rw[<-DP,<-Jf,<-hhn,<-hhm,IntKind.wrap_u64,IntKind.wrap_u64,IntKind.wrap_i64];unfold dO eI;split<;>split<;>split<;>omega
 go_wp2
 simp[bodyPost,results,Tryz.results372,go_sem,Aq];exact(((Below.refl _ w).alloc (ZO _) _).alloc (by simp) _).alloc (by simp;omega) _
theorem TK(x y b:Int)(hx:0<=x)(hy:0<=y)(PY:y<18446744073709551616)(vw:0<=b)(hb:b<=1)(w:World):(callFunc 409 #[.int .u64 x,.int .u64 y,.int .u64 b]).run prog w=
  .ok (.value (.tuple #[.int .u64 ((x-y-b)%18446744073709551616),.int .u64 (if x<y+b then 1 else 0)])) w:=by
 obtain⟨X,rfl⟩:=Int.eq_ofNat_of_zero_le hx;obtain⟨Y,rfl⟩:=Int.eq_ofNat_of_zero_le hy;obtain⟨B,rfl⟩:=Int.eq_ofNat_of_zero_le vw;rw[run_callFunc_extern func409 (by kernel_rfl) (by kernel_rfl) (by kernel_rfl) (e:=sub64Entry) (by kernel_rfl),run_sub64 X Y B (by omega)];have e1:(((X+18446744073709551616-Y-B)%18446744073709551616:Nat):Int)=((X:Int)-Y-B)%18446744073709551616:=by omega
 have e2:((if X<Y+B then 1 else 0:Nat):Int)=if(X:Int)<Y+B then 1 else 0:=by
  by_cases h:X<Y+B
  .rw[Z3 h,Z3 (by omega)];rfl
  .rw[Z9 h,Z9 (by omega)];rfl
 rw[e1,e2];rfl
theorem akY(n:Int)(w:World)(hn: -1000<=n/\n<=1000):Calls prog 385 #[wv n] w fun e w'=>e= .returned (.agg #[.int .u64 n.natAbs,.int .u64 0])/\Below w.heap.size w w':=by
 by_cases h0:n<0
 .have hh:eI n= -1:=Z3 h0;have hl:dO n=n+18446744073709551616:=by unfold dO;omega
  have e1:=TK 0 (n+18446744073709551616) 0 (by omega) (by omega) (by omega) (by omega) (by omega);rw[Z3 (by omega),show((0:Int)-(n+18446744073709551616)-0)%18446744073709551616=n.natAbs by omega]at e1;have e2:=TK 0 18446744073709551615 1 (by omega) (by omega) (by omega) (by omega) (by omega);rw[Z3 (by omega),show((0:Int)-18446744073709551615-1)%18446744073709551616=0 by omega]at e2;have hw:IntKind.u64.wrap (-1)=18446744073709551615:=by rw[IntKind.wrap_u64];rfl
  rw[<-hw]at e2;clear hw;show Calls prog 385 #[.agg #[.int .i64 (eI n),.int .u64 (dO n)]] w _;rw[hh,hl];clear hh hl
  go_enter func385,ntmps385
  go_wp2
  simp[bodyPost,results,Tryz.results385,go_sem];rename_i a;refine a _ _ ?_
  go_wp2
  simp[bodyPost,results,Tryz.results385,go_sem];rename_i a2 q k1 k0;refine a2 _ _ ?_
  go_wp2
  simp[bodyPost,results,Tryz.results385,go_sem];exact(((((((Below.refl _ w).alloc (ZO _) _).alloc (by simp) _).alloc (by simp;omega) _).alloc (by simp;omega) _).alloc (by simp;omega) _).alloc (by simp;omega) _).alloc (by simp;omega) _
 .have hh:eI n=0:=Z9 h0;have hl:dO n=n.natAbs:=by unfold dO;omega
  show Calls prog 385 #[.agg #[.int .i64 (eI n),.int .u64 (dO n)]] w _;rw[hh,hl];clear hh hl
  go_enter func385,ntmps385
  go_wp2
  simp[bodyPost,results,Tryz.results385,go_sem];exact((Below.refl _ w).alloc (ZO _) _).alloc (by simp) _
end Go.Proofs.YtmemninechdogaaGreatDoor
namespace Go.Proofs.YtmemninechdogaaGreatDoor
open _root_.Go.Proofs.Tryz
section
open Go.RowKit Go.Proofs Go.Tb
theorem abY(x:Int)(w:World)(hx:0<=x)(eu:x<18446744073709551616):Calls prog 386 #[.int .u64 0,.int .u64 x,.int .u64 1] w fun e w'=>e= .returned (.tuple #[.int .u64 x,.int .u64 0])/\Below w.heap.size w w':=by
 go_wp2
 go_region
 all_goals go_wp2
 all_goals go_ret2
 refine⟨?_,?_⟩
 .rfl
 .exact(Below.refl _ _).drew
end
open Go.Sx Go.Proofs Go.Tb
abbrev wA(n:Int):AV:=.agg [iv (eI n),.v (.int .u64 (dO n))]
theorem EC{M:Mem}{n:Int}{v:Value}(h:R M (wA n) v):v=wv n:=by obtain⟨cs,rfl,hl⟩:=h.qq;obtain⟨a,as',rfl,h1,h2⟩:=hl.aZ;obtain⟨b,rfl,h3⟩:=h2.cR;rw[h1.aC,h3.aC]
theorem SL{M:Mem}(n:Int):R M (wA n) (wv n):=.agg _ [.int .i64 (eI n),.int .u64 (dO n)] rfl fun i h1 h2=>by
 match i with
 |0=>exact .v _|1=>exact .v _
theorem WW{n m:Int}(hn: -1000<=n/\n<=1000)(hm: -1000<=m/\m<=1000):Pure prog 372 [wA n,wA m] (wA (n+m)):=
 Pure.wI fun M w0 w Z cs hI hR=>by obtain⟨a,as',rfl,h1,h2⟩:=hR.aZ;obtain⟨b,rfl,h3⟩:=h2.cR;rw[EC h1,EC h3];exact(W6 n m w hn hm).mono fun e w' ⟨h,hb⟩=>⟨⟨_,h,SL _⟩,hb⟩
abbrev szA(n:Int):AV:=.agg [.v (.int .u64 n.natAbs),.v (.int .u64 0)]
theorem Ts{n:Int}(hn: -1000<=n/\n<=1000):Pure prog 385 [wA n] (szA n):=
 Pure.wI fun M w0 w Z cs hI hR=>by
  obtain⟨a,rfl,h1⟩:=hR.cR;rw[EC h1];exact(akY n w hn).mono fun e w' ⟨h,hb⟩=>⟨⟨_,h,.agg _ [.int .u64 n.natAbs,.int .u64 0] rfl fun i h1 h2=>by
   match i with
   |0=>exact .v _|1=>exact .v _⟩,hb⟩
theorem RZ{n:Int}(hn: -1000<=n/\n<=1000):Pure prog 373 [iv n] (wA n):=by
 refine agV.p fun Z=>?_;repeat'(first|exact .nil|refine .k ?_|refine .r1 ?_ ?_|refine .l1 fun b=>?_|fail)
 .decide
 .rw[show n / 2^Int.toNat 63=eI n by unfold eI;grind,show IntKind.u64.wrap n=dO n from IntKind.wrap_u64 n];exact Zw
theorem abX{x:Int}(hx:0<=x)(eu:x<18446744073709551616):Pure prog 386 [.v (.int .u64 0),.v (.int .u64 x),.v (.int .u64 1)] (.aG [.v (.int .u64 x),.v (.int .u64 0)]):=
 Pure.wI fun M w0 w Z cs hI hR=>by
  obtain⟨a,as',rfl,h1,h2⟩:=hR.aZ;obtain⟨b,bs',rfl,h3,h4⟩:=h2.aZ;obtain⟨c,rfl,h5⟩:=h4.cR;rw[h1.aC,h3.aC,h5.aC];exact(abY x w hx eu).mono fun e w' ⟨h,hb⟩=>⟨⟨_,h,.aG _ [.int .u64 x,.int .u64 0] rfl fun i h1 h2=>by
   match i with
   |0=>exact .v _|1=>exact .v _⟩,hb⟩
theorem Vc{x i:Operand}{ty:TypeId}{a b:Int}:jU prog (.index 413 x i) ty [] [x,i] [.agg [.v (.int .u64 a),.v (.int .u64 b)],.v (.int .i64 0)] (.v (.int .u64 a)):=⟨fun Z bu M w0 w U hI hR=>by
 obtain⟨v1,cB,e1,h1,bV⟩:=hR.aZ;obtain⟨v2,e2,h2⟩:=bV.cR;subst e2;simp at e1;obtain⟨cs,rfl,hl⟩:=h1.qq;obtain⟨p,ps,rfl,g1,g2⟩:=hl.aZ;have hu:=underlying413;have h64:=underlying56;refine⟨.value (.int .u64 a),w,M,.v (.int .u64 a),.int .u64 a,Z,?_,rfl,Mem.le.refl _,hI,.v _,rfl,rfl⟩
 simp[execOp,e1.1,e1.2,Instr.index,asIntOf,h2.aC,g1.aC,aX hu,part,isAgg,aX h64]⟩
theorem abZ{n:Int}(hn: -1000<=n/\n<=1000):Pure prog 375 [wA n,iv 1] (.aG [iv n,.v (.bool true)]):=by
 have hS:=Ts hn;have xJ:=RZ (n:=1) (by omega);have vq:=Ts (n:=1) (by omega);have hD:=abX (x:=n.natAbs) (by omega) (by omega);refine agW.p fun Z=>?_;repeat'(first|exact .nil|refine .k ?_|omega|refine .k ?_|(refine .cd ?_ ?_<;>intro hc)|refine .r1 ?_ ?_|(refine .m1 ?_ ?_;intro b)|refine .an rfl (by intro ar;omega) ?_ ?_|fail)
 all_goals(try simp only[BL]at*)
 .grind
 refine Cm rfl (fun _=>Vc) OB.nil ?_;repeat'(first|exact .nil|refine .k ?_|(refine .cd ?_ ?_<;>(intro hc;first|exact kt hc (by assumption)|skip))|refine .r1 ?_ ?_|refine .l1 fun b=>?_|refine .an rfl (by intro ar;exact hD) ?_ ?_|fail)
 .exact⟨by decide,by decide⟩
 .exact absurd hc (by decide)
 .exact⟨by decide,by decide⟩
 .exact⟨by decide,by decide⟩
 .intro _;decide
 .have:=Yl hc;omega
 .have az:n<0:=by
   by_cases h:n<0
   .exact h
   .rw[show eI n=0 from Z9 h]at hc;exact absurd hc (by decide)
  rw[bn (n:=(n.natAbs:Int)) (by omega),bn (by omega),show(0:Int)-n.natAbs=n by omega];exact Zw
 .have az:0<=n:=by
   by_cases h:n<0
   .rw[show eI n= -1 from Z3 h]at hc;exact absurd hc (by decide)
   .omega
  rw[bn (n:=(n.natAbs:Int)) (by omega),show(n.natAbs:Int)=n by omega];exact Zw
end Go.Proofs.YtmemninechdogaaGreatDoor
set_option maxHeartbeats 1000000
namespace Go.Sx
open Go.RowKit
section
variable {P:Program}[Glob P]{N:Nat}{cfg:Nat->Nat}{rg:ag}{Z:Store}
def Gb(P:Program)[Glob P](cfg:Nat->Nat)(K:ag->Store->Prop)(c:CI)(l2:List CI)(rg:ag)(Z:Store):Prop:=∃x,QV P cfg c rg Z x/\da P cfg [] (bare l2) (Cl K) (bB c.d x rg) Z
theorem Vr{l1 l2:List CI}{c:CI}{Q:Exit->ag->Store->Prop}(cfg:Nat->Nat)(bC:c.op.cls<=1)(h:da P cfg [] (bare l1) (Gb P cfg (Q .normal) c l2) rg Z):SW P N (.de (l1++c::l2)) Q rg Z:=by
 refine zk (wZ cfg fun hc=>?_);obtain⟨xs,h1,⟨so,⟨x,hq,hv⟩,h3⟩,h4⟩:=Lw l1 rg rg (fun _=>rfl) (fun c h=>hc c (by simp[h])) h;have vA:=yX l1 rg (fun c h=>hc c (by simp[h])) h;have adI:=yX l2 _ (fun c h=>hc c (by simp[h])) hv;have oV:QV P cfg c (dE l1 xs rg) Z x:=uO (fun t _=>h3 t) hq;obtain⟨ys,g1,⟨fF,k1,k2⟩,g3⟩:=yW l2 _ (bB c.d x (dE l1 xs rg)) (yh h3 c.d x) (fun c h=>hc c (by simp[h])) hv;refine⟨⟨xs++x::ys,by grind,⟨fF,k1,fun i=>?_⟩,fun i h h'=>?_⟩,fun c' gG=>?_⟩
 .rw[Bt _ _ _ _ _ h1];exact k2 i
 .rcases XN i l1.length with hi|hi|hi
  .grind
  .grind
  .obtain⟨m,hm⟩:∃m,i=l1.length+1+m:=⟨i-(l1.length+1),by omega⟩
   subst hm;have Pv:m<l2.length:=by grind
   have hz:=h';have hmy:m<ys.length:=by omega
   have e1:(l1++c::l2)[l1.length+1+m]=l2[m]:=by grind
   have e2:(xs++x::ys)[l1.length+1+m]'hz=ys[m]:=by grind
   have e3:(l1++c::l2).take (l1.length+1+m)=l1++c::l2.take m:=by rw[List.take_append,ZM (by omega),show l1.length+1+m-l1.length=m+1 by omega];rfl
   have e4:(xs++x::ys).take (l1.length+1+m)=xs++x::ys.take m:=by rw[List.take_append,ZM (by omega),show l1.length+1+m-xs.length=m+1 by omega];rfl
   rw[e1,e2,e3,e4,Bt _ _ _ _ _ h1];exact g3 m Pv hmy
 grind
end
section
variable {P:Program}[Glob P]{N:Nat}{cfg:Nat->Nat}{Q:Exit->ag->Store->Prop}{rg:ag}{Z:Store}{k:List Fr}{xr:XR}
theorem WH(d:Nat){l l1 l2:List CI}{s:CI}(hl:BG d l=some (l1,s,l2))(hs:Nat.ble s.op.cls 1=true)(hx:toXO rg=some xr)
  (h:VY P cfg [] (bare l1) (Gb P cfg (FK P N cfg Q .normal k) s l2) xr Z):WK P N cfg Q (.de l) k rg Z:=by
 have e:=Tw hl;subst e;refine⟨WA.mono (Q:=fun e=>FK P N cfg Q e k) ⟨rfl,Vr cfg (ZE hs) ?_⟩ fun _ _ _ h=>h.h⟩;have:=h.h;rw[← yP hx,xn]at this;grind
end
end Go.Sx
namespace Go.Proofs.YtmemninechdogaaGreatDoor
open _root_.Go.Proofs.Tryz
open Go.Sx Go.Proofs Go.Tb Go.RowKit
def ep:List (ae×Int)->ae->Int
 |[],_=>0|p::es,s=>if p.1=s then p.2 else ep es s
def jj:List (ae×Int)->ae->Int->List (ae×Int)
 |[],s,v=>[(s,v)]
 |p::es,s,v=>if p.1=s then(s,v)::es else p::jj es s v
def wE(es:List (ae×Int)):List (Value×Nat×AV):=es.zipIdx.map fun p=>(.string p.1.1,p.2,wA p.1.2)
theorem FN(es:List (ae×Int)):(wE es).map (fun e=>(e.1,e.2.1))=es.zipIdx.map fun q=>(Value.string q.1.1,q.2):=by unfold wE;rw[Yu];rfl
theorem FO(es:List (ae×Int)):(wE es).map (·.2.2)=es.map fun p=>wA p.2:=by unfold wE;refine X9 (by simp) fun j h1 h2=>by simp
theorem ame(es:List (ae×Int))(p:ae×Int):wE es++[(.string p.1,es.length,wA p.2)]=wE (es++[p]):=by unfold wE;rw[List.zipIdx_append];simp
theorem LM(s:ae):∀(es:List (ae×Int)) (l:List MapEntry) (k0 i:Nat),l.map (fun e=>(e.key,e.born))=(es.zipIdx k0).map (fun q=>(Value.string q.1.1,q.2))->
  (Instr.findNow .string (.string s) l i=some none/\ep es s=0/\∀v,jj es s v=es++[(s,v)])\/
  ∃j,∃hj:j<es.length,∃dU:j<l.length,Instr.findNow .string (.string s) l i=some (some (i+j,l[j].val))/\es[j].1=s/\ep es s=es[j].2/\l[j].key= .string s/\∀v,jj es s v=es.set j (s,v)
 |[],l,k0,i,h=>by
  have:l=[]:=by simp_all
  subst this;exact .inl ⟨rfl,rfl,fun _=>rfl⟩
 |p::es,l,k0,i,h=>by
  cases l with
  |nil=>simp at h|cons e l=>
   simp only[List.zipIdx_cons,Zz,Z2,YX]at h;have gj:Instr.sameNow .string (.string s) e.key=some (decide (s=p.1)):=by rw[h.1.1];show some (s == p.1)=_;rw[K9]
   by_cases hp:s=p.1
   .subst hp;refine .inr ⟨0,by simp,by simp,?_,rfl,by simp[ep],h.1.1,fun v=>by simp[jj]⟩;simp only[Instr.findNow,gj,decide_true,Yr,Yq]
   .have mQ:¬p.1=s:=fun e=>hp e.symm;rcases LM s es l (k0+1) (i+1) h.2 with⟨a1,a2,a3⟩|⟨j,hj,dU,a1,a2,a3,a4,a5⟩
    .refine .inl ⟨?_,by simp[ep,mQ,a2],fun v=>by simp[jj,mQ,a3]⟩;simp only[Instr.findNow,gj,Zp hp];grind
    .refine .inr ⟨j+1,by grind,by grind,?_,by grind,by simp[ep,mQ,a3],by grind,fun v=>by simp[jj,mQ,a5]⟩;simp only[Instr.findNow,gj,Zp hp];grind
theorem amJ(w:World):(zeroValue 399).run prog w= .ok (wv 0) w:=by
 have h:(prog.info? 399).map (fun i=>i.zero)=some (some (wv 0)):=by kernel_rfl
 obtain⟨i,h1,h2⟩:=Z8.1 h;simp[zeroValue,typeInfo,h1,h2]
theorem FV(w:World)(b:Bool)(s:ae):(Instr.checkKey b 10000 9 (.string s)).run prog w= .ok () w:=
 Sx.run_checkKey (n:=9999) (q:=.str) (kd:=.string) rfl underlying9
section
variable {M:Mem}{w0:Base}{w:World}{Z:Store}
theorem L7{tg b ck:Nat}{es:List (ae×Int)}{t ty:TypeId}{q:TI}{m k:Operand}{s:ae}(hl:aV Z tg=some (b,.map (wE es) ck)):
  fH prog (.lookup t m k false) ty [.mp 9 399,q] [m,k] [.bJ tg b,sv s] Z fun y af=>y=wA (ep es s)/\af=Z:=by
 intro bu M w0 w U hI hR;simp only[ey,Z2,Zn]at bu;have ht:=uA bu.1;have hk:=underlying9;obtain⟨v1,cB,e1,h1,bV⟩:=hR.aZ;obtain⟨v2,e2,h2⟩:=bV.cR;subst e2;simp at e1;obtain⟨hM,l,hh,gi,gU⟩:=hI.rh hl;have g1:=h1.qs;have g2:=h2.aC;subst g1 g2;rw[FN]at gi;rw[FO]at gU;rcases LM s es l 0 0 gi with⟨a1,a2,a3⟩|⟨j,hj,dU,a1,a2,a3,a4,a5⟩
 .refine⟨.value (wv 0),w,M,wA (ep es s),wv 0,Z,?_,rfl,Mem.le.refl _,hI,by rw[a2];exact SL 0,rfl,rfl⟩;simp only[execOp,e1.1,e1.2,Instr.lookup,Sem.run_bind,aX ht,Result.andThen_ok,getObj,Sem.run,hh,FV,Instr.findKey,aX hk,a1,Sem.run_pure,amJ];rfl
 .refine⟨.value l[j].val,w,M,wA (ep es s),l[j].val,Z,?_,rfl,Mem.le.refl _,hI,?_,rfl,rfl⟩
  .simp only[execOp,e1.1,e1.2,Instr.lookup,Sem.run_bind,aX ht,Result.andThen_ok,getObj,Sem.run,hh,FV,Instr.findKey,aX hk,a1,Sem.run_pure];rfl
  .have:=gU.2 j (by grind) (by grind);grind
theorem amu(w:World)(s:ae):(Instr.keyThatStays (.string s) (.string s)).run prog w= .ok (.string s) w:=by simp[Instr.keyThatStays,Instr.sameBits,K9]
theorem Vn{tg b:Nat}{es:List (ae×Int)}{t ty:TypeId}{q:TI}{m k x:Operand}{s:ae}{v:Int}(hl:aV Z tg=some (b,.map (wE es) es.length)):
  fH prog (.mapUpdate t m k x) ty [.mp 9 399,q] [m,k,x] [.bJ tg b,sv s,wA v] Z fun y af=>y= .v undef/\af=du Z tg b (.map (wE (jj es s v)) (jj es s v).length):=by
 intro bu M w0 w U hI hR;simp only[ey,Z2,Zn]at bu;have ht:=uA bu.1;have hk:=underlying9;obtain⟨v1,cB,e1,h1,bV⟩:=hR.aZ;obtain⟨v2,qG,e2,h2,ef⟩:=bV.aZ;obtain⟨v3,e3,h3⟩:=ef.cR;subst e3 e2;simp only[Zz,YJ,Z2,Zn]at e1;obtain⟨hM,l,hh,gi,gU⟩:=hI.rh hl;have g1:=h1.qs;have g2:=h2.aC;subst g1 g2;have az:b<w.heap.size:=(ZW.1 hh).1;have adX:=gi;have aek:=gU;rw[FN]at gi;rw[FO]at gU;rcases LM s es l 0 0 gi with⟨a1,a2,a3⟩|⟨j,hj,dU,a1,a2,a3,a4,a5⟩
 .let w':World:={w with heap:=w.heap.setIfInBounds b (.map (l++[(⟨.string s,v3,es.length⟩:MapEntry)]).toArray (es.length+1))}
  refine⟨.skip,w',M,.v undef,undef,_,?_,rfl,Mem.le.refl _,?_,.v _,rfl,rfl⟩
  .have hu:l.toArray.push (⟨.string s,v3,es.length⟩:MapEntry)=(l++[(⟨.string s,v3,es.length⟩:MapEntry)]).toArray:=by grind
   simp only[execOp,e1.1,e1.2.1,e1.2.2,Instr.mapUpdate,Sem.run_bind,aX ht,Result.andThen_ok,getObj,Sem.run,hh,FV,Instr.findKey,aX hk,a1,Sem.run_pure,setObj,hu];rfl
  .rw[a3,Z7,Y1,<-ame];refine hI.yV (w':=w') (y:=.map (wE es++[(.string s,es.length,wA v)]) (es.length+1)) hl (fun k hk=>?_) rfl rfl rfl (by simp[w']) hM ⟨hM,l++[⟨.string s,v3,es.length⟩],?_,?_,?_⟩
   .grind
   .grind
   .grind
   .simp only[Zl,Zz,YJ];exact RL.append aek (RL.cons h3 RL.nil)
 .let f:MapEntry->MapEntry:=fun e=>{e with key:=.string s,val:=v3}
  let w':World:={w with heap:=w.heap.setIfInBounds b (.map (l.modify j f).toArray es.length)}
  refine⟨.skip,w',M,.v undef,undef,_,?_,rfl,Mem.le.refl _,?_,.v _,rfl,rfl⟩
  .have hu:l.toArray.modify j f=(l.modify j f).toArray:=by simp
   have Pt:(l.toArray[j]?.map (·.key)).getD (.string s)= .string s:=by grind
   simp only[execOp,e1.1,e1.2.1,e1.2.2,Instr.mapUpdate,Sem.run_bind,aX ht,Result.andThen_ok,getObj,Sem.run,hh,FV,Instr.findKey,aX hk,a1,Sem.run_pure,setObj,ZH,Pt,amu,hu];grind
  .rw[a5,XB];refine hI.yV (w':=w') (y:=.map (wE (es.set j (s,v))) es.length) hl (fun k hk=>?_) rfl rfl rfl (by simp[w']) hM ⟨hM,l.modify j f,?_,?_,?_⟩
   .simp only[w'];rw[YD (fun e=>hk e.symm)]
   .simp only[w'];rw[Xx az]
   .rw[FN];refine X9 ?_ fun i g1 g2=>?_
    .have:=Zk List.length gi;simpa using this
    .have h6:i<l.length:=by simpa using g1
     have h7:i<es.length:=by simpa using g2
     have h5:=Zk (fun x=>x[i]?) gi;simp[h6,h7]at h5;simp only[Zv,List.getElem_modify,List.getElem_zipIdx,List.getElem_set,ZH];by_cases gH:j=i
     .subst gH;simp[f,h5.2]
     .simp[gH,h5.1,h5.2]
   .rw[FO];refine⟨?_,fun i g1 g2=>?_⟩
    .have:=gU.1;simpa using this
    .have h6:i<l.length:=by simpa using g2
     have h7:i<es.length:=by simpa using g1
     have h5:=gU.2 i (by simpa using h7) (by simpa using h6);simp only[Zv,List.getElem_modify,List.getElem_set]at h5|-;by_cases gH:j=i
     .subst gH;simpa[f]using h3
     .simpa[gH]using h5
end
section
variable {cfg:Nat->Nat}{K:ag->Store->Prop}{E:List PanicEntry->Store->Prop}{Z af:Store}{l:List CI}{d:Nat}{xr:XR}{ps:List Prop}{og:Option Bool}
theorem VO{t:TypeId}{q:TI}{ty:TypeId}{m k:Operand}{tg b b' ck:Nat}{es:List (ae×Int)}{s:ae}(h:wa xr none [m,k]=some (og,[.bJ tg b,sv s],ps))(hl:aV Z tg=some (b',.map (wE es) ck))(hb:b=b')(aw:OB ps)
  (kk:VX prog cfg l K E ((d,.s (wA (ep es s)))::xr) Z):VX prog cfg (⟨some d,.cL (.lookup t m k false) ty [.mp 9 399,q] [m,k],none⟩::l) K E xr Z:=by
 obtain⟨hc,he⟩:=cC h;have cO:=qT h;subst cO;subst hb;constructor;simp only[fb,cE,ak,he aw rfl];refine(L7 hl).mono fun y s ⟨e1,e2⟩=>?_;subst e1 e2;exact kk.h
theorem V2{t:TypeId}{q:TI}{ty:TypeId}{m k x:Operand}{tg b b':Nat}{es:List (ae×Int)}{s:ae}{v:Int}(h:wa xr none [m,k,x]=some (og,[.bJ tg b,sv s,wA v],ps))(hl:aV Z tg=some (b',.map (wE es) es.length))(hb:b=b')(hu:uD Z tg b (.map (wE (jj es s v)) (jj es s v).length)=some af)(aw:OB ps)
  (kk:VX prog cfg l K E xr af):VX prog cfg (⟨none,.exts (.mapUpdate t m k x) ty [.mp 9 399,q] [m,k,x],none⟩::l) K E xr Z:=by
 obtain⟨hc,he⟩:=cC h;have cO:=qT h;subst cO;subst hb;constructor;simp only[fb,cE,ak,he aw rfl];refine(Vn hl).mono fun y s ⟨e1,e2⟩=>?_;rw[BO hu]at e2;subst e1 e2;exact kk.h
theorem Wl{t:TypeId}{q:TI}{ty:TypeId}{m k:Operand}{tg b b' ck:Nat}{es:List (ae×Int)}{s:ae}{l2:List CI}(h:wa xr none [m,k]=some (og,[.bJ tg b,sv s],ps))(hl:aV Z tg=some (b',.map (wE es) ck))(hb:b=b')(aw:OB ps)
  (kk:VY prog cfg [] (bare l2) (Cl K) ((d,.s (wA (ep es s)))::xr) Z):VY prog cfg [] [] (Gb prog cfg K ⟨some d,.cL (.lookup t m k false) ty [.mp 9 399,q] [m,k],none⟩ l2) xr Z:=by
 obtain⟨hc,he⟩:=cC h;have cO:=qT h;subst cO;subst hb;refine⟨wA (ep es s),?_,kk.h⟩;unfold QV;simp only[cE,ak,he aw rfl];exact L7 hl
end
end Go.Proofs.YtmemninechdogaaGreatDoor
set_option maxHeartbeats 4000000
namespace Go.Proofs.YtmemninechdogaaGreatDoor
open _root_.Go.Proofs.Tryz
section
open Go.RowKit Go.Proofs Go.Tb Go.Maps Go.Sort
def py(v:Value):Option (DataW Unit×List MemPlace):=match v with
 |.agg cs=>match cs.toList with
  |[.int .i64 h,.int .u64 l]=>some (.agg [.lit (.int .i64 h),.lit (.int .u64 l)],[])|_=>none
 |_=>none
def UA(c:Int×Int):Value:=.agg #[.int .i64 c.1,.int .u64 c.2]
theorem ami{v:Value}{y:DataW Unit×List MemPlace}(h:py v=some y):∃c,v=UA c:=by
 unfold py at h;split at h
 .split at h
  .rename_i hh ll e;exact⟨(hh,ll),Zk Value.agg (by grind)⟩
  grind
 grind
theorem ak5{w:World}{b n:Nat}{D:DataW Unit}(dL:w.ownsMap prog 9 py b n D)(rA:Maps.size D<=1000):Calls prog 374 #[.map (some b)] w fun e w'=>
  ∃(v:Value) (ss:List (List UInt8)),e= .returned v/\ss.Perm (strKeys D)/\w'.ownsRow w.heap.size 9 1 v ss.length ((ss.mergeSort (fun x y=>decide (x<=y))).map encStr)/\Below w.heap.size w w':=by
 obtain⟨i0,hi,ew,iz,gV⟩:=info_parts TE;have kJ:=dL.lt
 go_enter func374,ntmps374
 go_wp2_with (at_range;refine wpList_range_own _ rfl _ 397 rfl 9 399 (string_keyed underlying9) underlying397 _ b n _ rfl dL ?_;intro w0 DU DK qe)
 go_frame
 go_loopw [3] (fun v wr=>∃(left:Lit->Bool) (bG:Nat) (ss:List (List UInt8)),wr.ranges prog 9 py b w.heap.size n D left bG/\ss.length+bG<=Maps.size D/\wr.ownsRow w.heap.size 9 1 v ss.length (ss.map encStr)/\Collected D left ss/\Below w.heap.size w wr) (fun _ wr=>wr.rangeLeft b w.heap.size)
 case atStart=>exact⟨_,_,[],DU,by simp,⟨by simp,.inl ⟨rfl,rfl⟩⟩,Collected.start D,(Below.refl _ _).grown DK (ZO _) (fun j hj=>by cases hj)⟩
 obtain⟨left,bG,ss,vR,bY,nK,hC,mP⟩:=hrel
 go_wp2_with (at_next;refine wpList_next_ranges _ rfl _ rfl 9 (string_keyed underlying9) py encStr UA (fun key kl hk=>by obtain⟨x,hx,_⟩:=Maps.keyOf_str underlying9 hk;grind) (fun v y hv=>ami hv) b w.heap.size n _ _ _ rfl vR ?_ ?_)
 .intro eY nH;rcases nK.2 with⟨iQ,PA⟩|⟨g,cap,cur,rfl,anl,hb,h1,h2,h3,h4⟩
  .subst iQ;have qg:ss=[]:=Zt PA;subst qg;have hc:Calls prog 191 #[.slice none 0 0] wr _:=AnyM.slices_Sort_string_none Tryz.sort191 none 0 wr
   go_wp2_with (go_at_call 191;refine hc.mono ?_;simp_all)
   go_ret
   exact⟨_,[],rfl,hC.perm dL (string_keyed underlying9) underlying9 nH,(by simp_all),mP⟩
  .have hH:Holds encStr wr g 0 ss.toArray:=holds_of_block hb (by grind);have hgl:g<wr.heap.size:=(ZW.1 hb).1;have hc:Calls prog 191 #[.slice (some ⟨g,0,none⟩) ss.length cap] wr _:=AnyM.slices_Sort_string Tryz.sort191 g 0 cap ss wr hH hgl (by omega)
   go_wp2_with (go_at_call 191;refine hc.mono ?_;rintro e w' ⟨rfl,nn,os,rfl⟩)
   go_ret
   exact⟨_,ss,rfl,hC.perm dL (string_keyed underlying9) underlying9 nH,ownsRow_sorted (by simp) anl hb h1 h2 h3,mP.grown (grownBy_sorted _) mP.size (fun j hj=>by cases hj;exact anl)⟩
 .intro x c1 c2 kl yd yp w2 abe Ax Az hv kI PL az kL fy vC;obtain⟨x',ex,rfl,_⟩:=Maps.keyOf_str underlying9 Ax;obtain rfl:x=x':=encStr_inj ex;have DV:=nK.kept kL (Or.inr (row_ne_iter nK vR).symm);clear fy
  go_wp2_with (at_builtin;refine wpList_append_own _ rfl _ _ 85 rfl w.heap.size 9 i0 (.string ⟨#[]⟩) 1 16 underlying85 hi ew iz gV rfl (by decide) _ _ _ rfl (DV.alloc _) ⟨w2.heap.size,0,none⟩ 1 1 [encStr x] rfl rfl (cell_one_new _ _ _) (by simp[Value.oneCell',encStr]) (by unfold maxLen at*;omega) (by omega) (by have:=mP.size;have:=kL.size;simp;omega) ?_;intro v' w3 ad6 hg3 amW;go_frame)
  have PN:=(PL.alloc _).kept hg3 (row_ne_low DV kJ) (row_ne_iter DV PL)
  go_roundw
  case rel=>
   refine⟨_,abe,ss++[x],PN,by simp;omega,by simpa using ad6,hC.step Az kI,?_⟩;exact((mP.grown kL mP.size (fun j hj=>by cases hj;exact ZO _)).alloc (by have:=mP.size;have:=kL.size;omega) _).grown hg3 (by have:=mP.size;have:=kL.size;simp;omega) (fun j hj=>(DV.lt j hj).1)
  case measure=>rw[PN.left_eq,vR.left_eq];exact az
end
section
open Go.Sx Go.Proofs Go.Tb Go.RowKit Go.Maps
theorem amj{n:Int}:py (wv n)=some (.agg [.lit (.int .i64 (eI n)),.lit (.int .u64 (dO n))],[]):=rfl
theorem amc{M:Mem}{l:List MapEntry}{es:List (ae×Int)}(hk:l.map (fun e=>(e.key,e.born))=(wE es).map (fun e=>(e.1,e.2.1)))(hv:RL M ((wE es).map (·.2.2)) (l.map (·.val))):l.length=es.length/\∀i (h:i<l.length) (h':i<es.length),l[i].key= .string es[i].1/\l[i].born=i/\l[i].val=wv es[i].2:=by rw[FN]at hk;rw[FO]at hv;refine⟨by have:=Zk List.length hk;simpa using this,fun i h h'=>?_⟩;have h5:=Zk (fun x=>x[i]?) hk;simp[h,h']at h5;have h6:=hv.2 i (by grind) (by grind);simp at h6;exact⟨h5.1,h5.2,EC h6⟩
theorem LC{e:MapEntry}{s:ae}{n:Int}(g1:e.key= .string s)(g3:e.val=wv n)(g4:s.size<=maxLen):WideElems.rd prog 9 py e=some (ky s,.agg [.lit (.int .i64 (eI n)),.lit (.int .u64 (dO n))]):=by unfold WideElems.rd;simp only[g1,g3,WideMaps.keyOf_string_mk underlying9 g4,Option.bind_some,amj,ZJ];rfl
theorem amd{l:List MapEntry}{es:List (ae×Int)}(hlen:l.length=es.length)(kI:∀i (h:i<l.length) (h':i<es.length),l[i].key= .string es[i].1/\l[i].born=i/\l[i].val=wv es[i].2)(hn:(es.map Prod.fst).Nodup)(hs:∀p∈es,p.1.size<=maxLen)(hl:es.length<=1000):
  WideElems.Fit prog 9 py l.toArray es.length:=by
 refine⟨by simp;unfold maxLen;omega,⟨fun x hx=>?_,?_,?_⟩,fun x hx=>?_⟩
 .obtain⟨i,hi,rfl⟩:=YO.1 hx;grind
 .have e:l.toArray.toList.map (fun x=>x.born)=List.range es.length:=by refine X9 (by simp[hlen]) fun i h1 h2=>?_;grind
  grind
 .have e:l.toArray.toList.map (fun x=>x.key)=(es.map Prod.fst).map Value.string:=by
   refine X9 (by simp[hlen]) fun i h1 h2=>?_;have cJ:i<l.length:=by simpa using h1
   simp_all
  rw[e];exact Xe.2 (hn.imp fun h e=>h (by injection e))
 .obtain⟨i,hi,rfl⟩:=YO.1 hx;have cJ:i<l.length:=by simpa using hi
  obtain⟨g1,g2,g3⟩:=kI i cJ (by omega);exact⟨_,LC g1 g3 (hs es[i] (Zb (by omega)))⟩
theorem ak4{Z:Store}{tg b:Nat}{es:List (ae×Int)}(hl:aV Z tg=some (b,.map (wE es) es.length))(hn:(es.map Prod.fst).Nodup)(hs:∀p∈es,p.1.size<=maxLen)(hz:es.length<=1000):
  Sx.Spec prog 374 [.bJ tg b] Z fun r af=>r= .ret (Fj (gK (es.map Prod.fst)))/\af=Z:=by
 intro M w0 w cs hI hR;obtain⟨v,rfl,h1⟩:=RL.cR hR;have g1:=h1.qs;subst g1;obtain⟨hM,l,hh,gi,gU⟩:=hI.rh hl;obtain⟨hlen,kI⟩:=amc gi gU;have hF:=amd hlen kI hn hs hz;have dL:=World.ownsMap_of_fit (R:=py) hh hF (fun x _ z h=>h);have bl:=dL.size_le;have AU:l.toArray.size<=1000:=by grind
 refine(ak5 dL (by omega)).mono fun e w' ⟨v,ss,he,hp,nK,hb⟩=>?_;have hk:∀s:ae,s.size<=maxLen->has (DataW.map (List.foldr DataW.insert [] (List.map (WideElems.rg prog 9 py) l.toArray.toList))) (ky s)=decide (s∈es.map Prod.fst):=fun s lW=>by
  rw[YH,has_eq,Yh,decide_eq_true_iff];constructor
  .rintro⟨p,hp,aea⟩;rw[mem_sorted]at hp;obtain⟨x,hx,rfl⟩:=Ze.1 hp;obtain⟨i,hi,rfl⟩:=YO.1 hx;have cJ:i<l.length:=by grind
   obtain⟨g1,g2,g3⟩:=kI i cJ (by omega);have oW:=LC g1 g3 (hs es[i] (Zb (by omega)));have e:=WideAt.sameKey_eq aea;unfold WideElems.rg at e;simp only[List.getElem_toArray,oW,Zm]at e;have e2:=QZ e;grind
  .intro h;obtain⟨p,hp,rfl⟩:=Ze.1 h;obtain⟨i,hi,rfl⟩:=YO.1 hp;obtain⟨g1,g2,g3⟩:=kI i (by omega) hi;have oW:=LC g1 g3 (hs es[i] hp);refine⟨WideElems.rg prog 9 py l[i],mem_sorted.2 (Ze.2 ⟨l[i],by simp,rfl⟩),?_⟩;unfold WideElems.rg;rw[oW];exact WideAt.sameKey_self (yf _)
 obtain⟨S,g1,g2,g3⟩:=K2 underlying9 dL (L:=es.map Prod.fst) (fun s h=>by grind) hk hp nK;have hS:S=gK (es.map Prod.fst):=qA g1 (yM _) fun x=>by rw[g2,yL]
 refine⟨nc M w.heap.size w',.ret (Fj (gK (es.map Prod.fst))),Z,J6 hI,Qj hI hb,?_,rfl,rfl⟩;subst he;rw[<-hS];exact RD g3 (ZO _)
end
end Go.Proofs.YtmemninechdogaaGreatDoor
namespace Go.Proofs.YtmemninechdogaaGreatDoor
open Go.Sx Go.Proofs Go.Tb
def kA(es:List (ae×Int))(f:ax):List (ae×Int):=jj es f.name (ep es f.name+f.exp)
def jl(l:List ax):List (ae×Int):=l.foldl kA []
theorem alq{l:List ax}{i:Nat}(h:i<l.length):jl (l.take (i+1))=kA (jl (l.take i)) (l.getD i default):=by unfold jl;rw[ZU h,List.foldl_append,<-getD_eq h];rfl
theorem Ov(s t:ae)(v:Int):∀es,ep (jj es s v) t=if t=s then v else ep es t
 |[]=>by simp only[jj,ep];grind|p::es=>by
  have ih:=Ov s t v es;by_cases hp:p.1=s
  .subst hp;simp only[jj,YK,ep];grind
  .simp only[jj,Z9 hp,ep];grind
theorem SI(s:ae)(v:Int):∀es,(jj es s v).map Prod.fst=if s∈es.map Prod.fst then es.map Prod.fst else es.map Prod.fst++[s]
 |[]=>by rfl|p::es=>by
  have ih:=SI s v es;by_cases hp:p.1=s
  .subst hp;simp[jj]
  .have mQ:¬s=p.1:=fun e=>hp e.symm;simp only[jj,Z9 hp,Zz,ih,ZR,mQ,false_or];grind
theorem NK(f:ax)(l:List ax)(s:ae):bU (f::l) s=(if f.name=s then f.exp else 0)+bU l s:=by
 unfold bU;by_cases h:f.name=s
 .simp[h]
 .simp[h]
theorem Ou(s:ae):∀(l:List ax) (es:List (ae×Int)),ep (l.foldl kA es) s=ep es s+bU l s
 |[],es=>by simp[bU]|f::l,es=>by rw[List.foldl_cons,Ou s l,NK,kA,Ov];grind
theorem H9(l:List ax)(s:ae):ep (jl l) s=bU l s:=by unfold jl;rw[Ou];simp[ep]
theorem TL:∀(l:List ax) (es:List (ae×Int)),(es.map Prod.fst).Nodup->((l.foldl kA es).map Prod.fst).Nodup/\(∀s,s∈(l.foldl kA es).map Prod.fst↔s∈es.map Prod.fst\/s∈l.map ax.name)/\(l.foldl kA es).length<=es.length+l.length
 |[],es,h=>⟨h,fun s=>by simp,ZO _⟩
 |f::l,es,h=>by
  have hk:=SI f.name (ep es f.name+f.exp) es;have hl:(kA es f).length<=es.length+1:=by have h2:=Zk List.length hk;unfold kA;grind
  have hm:∀s,s∈(kA es f).map Prod.fst↔s∈es.map Prod.fst\/s=f.name:=fun s=>by unfold kA;grind
  have hn:((kA es f).map Prod.fst).Nodup:=by unfold kA;grind
  obtain⟨g1,g2,g3⟩:=TL l (kA es f) hn;grind
theorem xv(s:ae):∀(l:List ax),(∀f∈l, -8<=f.exp/\f.exp<=8)->-8*(l.length:Int)<=bU l s/\bU l s<=8*(l.length:Int)
 |[],_=>by simp[bU]|f::l,h=>by have h1:=xv s l fun f hf=>h f (ZN _ hf);rw[NK,ZY];grind
def fq(lab:Nat)(rows:List (List AV))(x:AV)(T:Store):Prop:=(rows=[]/\x=ej/\T=[])\/∃b u c,x= .own 2 lab b u c rows/\T=[(lab,b,.tail u c)]
theorem fq.z{lab:Nat}:fq lab [] ej []:=.inl ⟨rfl,rfl,rfl⟩
theorem fq.n{lab:Nat}{rows:List (List AV)}(h:rows=[]):fq lab rows ej []:=.inl ⟨h,rfl,rfl⟩
theorem fq.s{lab b u c:Nat}{rows rows':List (List AV)}(h:rows'=rows):fq lab rows (.own 2 lab b u c rows') [(lab,b,.tail u c)]:=.inr ⟨b,u,c,by rw[h],rfl⟩
def nA(l:List ax)(L:List ae):List ax:=(L.map fun n=>(⟨n,bU l n⟩:ax)).filter fun f=>decide (f.exp≠0)
theorem NR{l:List ax}{N:List ae}{i:Nat}(h:i<N.length):nA l (N.take (i+1))=nA l (N.take i)++if bU l (N.getD i default)≠0 then[⟨N.getD i default,bU l (N.getD i default)⟩]else[]:=by unfold nA;rw[ZU h,<-getD_eq h,Zl,X0,List.map_singleton,Xp];simp
theorem NQ(l:List ax)(L:List ae):(nA l L).length<=L.length:=ZD (Yd _ _) (by rw[Z5];exact ZO _)
theorem aih(l:List ax)(hw:∀f∈l,Word f.name)(hb:∀f∈l, -8<=f.exp/\f.exp<=8)(hl:l.length<=8):Pure Tryz.prog 354 [.sl false 2 (l.map ax.cells)] (sj (rQ l)):=by
 refine agP.p fun Z=>?_;repeat'(first|exact .nil|refine .k ?_|refine .r1 ?_ ?_|(refine .m2 ?_ ?_;intro hlen)|refine .l3 fun b=>?_|fail)
 all_goals(try simp only[BL]at*)
 rename Nat=>b1
 refine aP (fun m rg af=>∃(i:Nat),i<=l.length/\m=l.length-i/\af=(11,b1,.map (wE (jl (l.take i))) (jl (l.take i)).length)::Z/\rg=[(2,ej),(4,.bJ 11 b1),(12,.sl false 2 (l.map ax.cells)),(13,iv l.length),(14,iv i)]) l.length rfl ⟨_,_,Zr,Zs,0,Z4 _,rfl,rfl,rfl⟩ ?_;rintro m _ _ ⟨i,hi,hm,rfl,rfl⟩;have vj:i<l.length->-1000<=(l.getD i default).exp/\(l.getD i default).exp<=1000:=fun h=>by have:=hb _ (bN h);omega
 have z6:∀s, -1000<=ep (jl (l.take i)) s/\ep (jl (l.take i)) s<=1000:=fun s=>by have h1:=xv s (l.take i) fun f hf=>hb f (YT hf);rw[ZL]at h1;rw[H9];omega
 repeat'((fail_if_success (show WK _ _ _ _ (.de _) _ _ _));(first|exact .nil|refine .k ?_|(refine .cd ?_ ?_<;>intro hc)|refine .r1 ?_ ?_|refine .l1 fun b=>?_|refine .t1 ?_ ?_ ?_|refine .an rfl (by intro ar;first|exact UK _|fail) ?_ ?_|fail))
 try any_goals((intro ar;first|(simp_all;done)|fail))
 all_goals(try simp only[BL]at*)
 .exact absurd (hw _ (bN (by omega))) hc
 .have bp:i<l.length:=by omega
  refine WH 28 rfl rfl rfl ?_;repeat'(first|exact .nil|refine .k ?_|refine .r1 ?_ ?_|fail)
  refine Wl rfl rfl rfl OB.nil ?_;repeat'(first|exact .nil|refine .k ?_|refine .r1 ?_ ?_|refine .an rfl (by intro ar;first|exact RZ (vj (by first|omega|fail))|exact WW (z6 _) (vj (by first|omega|fail))|fail) ?_ ?_|fail)
  all_goals(try simp only[BL]at*)
  refine V2 (es:=jl (l.take i)) (s:=(l.getD i default).name) (v:=ep (jl (l.take i)) (l.getD i default).name+(l.getD i default).exp) rfl rfl rfl rfl OB.nil ?_;repeat'(first|exact .nil|refine .k ?_|refine .r1 ?_ ?_|fail)
  all_goals(try simp only[BL]at*)
  refine⟨m-1,by omega,_,(11,b1,.map (wE (jl (l.take (i+1)))) (jl (l.take (i+1))).length)::Z,Zr,by rw[alq bp];repeat' first|exact .refl _|refine .cons ?_,i+1,by omega,by omega,rfl,by rw[bj (n:=l.length) (by omega) (by assumption)]⟩
 .have bp:i=l.length:=by omega
  subst bp;rw[Yb];have hK:=TL l [] List.nodup_nil;have rB:gK ((jl l).map Prod.fst)=gK (l.map ax.name):=qA (yM _) (yM _) fun x=>by rw[yL,yL];exact(hK.2.1 x).trans (by simp)
  refine uP rfl (ak4 (es:=jl l) rfl hK.1 (fun p hp=>?_) (by have:=hK.2.2;simp only[ZP]at this;show(l.foldl kA []).length<=_;omega)) OB.nil (fun x af hR=>?_) (fun ch af hR=>?_)
  .have h1:=(hK.2.1 p.1).1 (Ze.2 ⟨p,hp,rfl⟩);rcases h1 with h1|h1
   .cases h1
   .obtain⟨f,hf,e⟩:=Ze.1 h1;have:=(hw f hf).2.1;rw[<-e];unfold maxLen;omega
  rotate_left
  .exact nomatch hR.1
  obtain⟨e1,e2⟩:=hR;cases e1;subst e2;rw[rB];have vn:rQ l=if∃n∈gK (l.map ax.name),bU l n>8\/bU l n< -8 then([],70)else if(nA l (gK (l.map ax.name))).length>4 then([],2)else(nA l (gK (l.map ax.name)),0):=rfl
  have OT:(gK (l.map ax.name)).length<=8:=by have:=jh (Fe (yM (l.map ax.name))) fun x hx=>yL.1 hx;rw[Z5]at this;omega
  generalize gK (l.map ax.name)=N at*;repeat'(first|exact .nil|refine .k ?_|refine .r1 ?_ ?_|(refine .m2 ?_ ?_;intro hlen)|fail)
  all_goals(try simp only[BL]at*)
  clear vj z6 rB hK hi hm hc;have Dl:∀s, -1000<=ep (jl l) s/\ep (jl l) s<=1000:=fun s=>by have h1:=xv s l hb;rw[H9];omega
  have hG:=fun s=>H9 l s;generalize jl l=es at*;refine aP (fun m rg af=>∃(i:Nat) (x:AV) (T:Store),i<=N.length/\m=N.length-i/\(∀n∈N.take i,¬(bU l n>8\/bU l n< -8))/\fq 61 ((nA l (N.take i)).map ax.cells) x T/\af=T++(11,b1,.map (wE es) es.length)::Z/\rg=[(2,x),(4,.bJ 11 b1),(35,Fj N),(36,iv N.length),(37,iv i)]) N.length rfl ⟨_,_,Zr,Zs,0,_,_,Z4 _,rfl,(fun n h=>by cases h),fq.z,rfl,rfl⟩ ?_;rintro m2 _ _ ⟨i,x,T,hi,hm,hP,hR,rfl,rfl⟩;have eg:(nA l (N.take i)).length<=8:=ZD (NQ _ _) (by rw[ZL];omega);have gj:=fun(h:i<N.length)=>NR (l:=l) h;have Ab:i<N.length->¬(bU l (N.getD i default)>8\/bU l (N.getD i default)< -8)->∀n∈N.take (i+1),¬(bU l n>8\/bU l n< -8):=fun h h1 n hn=>by
   rw[ZU h,<-getD_eq h,ZI,Zd]at hn;rcases hn with hn|rfl
   .exact hP n hn
   .exact h1
  rcases hR with⟨hE,rfl,rfl⟩|⟨b3,u3,c3,rfl,rfl⟩
  all_goals
   repeat'(first|exact .nil|refine .k ?_|(refine .cd ?_ ?_<;>intro hc)|refine .r1 ?_ ?_|(refine .m2 ?_ ?_;intro hlen)|refine .t1 ?_ ?_ ?_|refine .r8 ?_ ?_|fail)
   refine VO rfl rfl rfl OB.nil ?_;repeat'(first|exact .nil|refine .k ?_|(refine .cd ?_ ?_<;>intro hc)|refine .r1 ?_ ?_|refine .u1 ?_ ?_ ?_ (fun b u c=>?_)|refine .u2 ?_ ?_ ?_ (fun b u c=>?_)|refine .an rfl (by intro ar;first|exact Sf _ 8 (by decide)|exact abZ (Dl _)) ?_ ?_|(show List.all _ _=true;rfl)|fail)
   try any_goals((intro ar;first|(simp_all;done)|fail))
   all_goals(try simp only[BL]at*)
   .rw[vn,Z3 ⟨N.getD i default,bN (by omega),by rw[hG]at hc;exact hc⟩];exact Zw
   .show _<=1000000;simp only[ZY,ZP];omega
   .show _ * _<=_;simp only[Z5,ZY,ZP];omega
   .have oT:¬(ep es (N.getD i default)>8\/ep es (N.getD i default)< -8):=by assumption
    rw[hG]at hc oT;refine⟨m2-1,by omega,_,_,Zr,Zs,i+1,_,_,by omega,by omega,Ab (by omega) oT,fq.s ?_,rfl,by rw[bj (n:=N.length) (by omega) (by assumption)]⟩;rw[gj (by omega),Z3 hc,Zl,hG];first|(rw[hE];rfl)|rfl
   .have oT:¬(ep es (N.getD i default)>8\/ep es (N.getD i default)< -8):=by assumption
    rw[hG]at hc oT;refine⟨m2-1,by omega,_,_,Zr,Zs,i+1,_,_,by omega,by omega,Ab (by omega) oT,?_,rfl,by rw[bj (n:=N.length) (by omega) (by assumption)]⟩;rw[gj (by omega),Z9 (by rw[hc];simp),Y5];first|exact fq.n hE|exact fq.s rfl
   .have fL:N.take i=N:=ZM (by omega);rw[fL]at hP;try rw[fL]at hE
    try rw[fL]at hc
    try rw[fL]
    rw[vn,Z9 (by rintro⟨n,hn,dC⟩;exact hP n hn dC)];first
     |exact absurd hc (by decide)
     |(rw[Z3 (by omega)];(refine Sx.Fin.wk Zs ?_;repeat' first|exact .refl _|exact .nil|refine .cons ?_ ?_|refine .aG ?_|fail))
   .have fL:N.take i=N:=ZM (by omega);rw[fL]at hP;try rw[fL]at hE
    try rw[fL]at hc
    try rw[fL]
    rw[vn,Z9 (by rintro⟨n,hn,dC⟩;exact hP n hn dC)];first
     |(rw[Yn.1 hE,Z9 (by decide)];refine Sx.Fin.wk Zs (.aG (.cons .nil (.cons (.refl _) .nil)));done)
     |(rw[Z9 (by omega)];(refine Sx.Fin.wk Zs ?_;repeat' first|exact .refl _|refine .cons ?_ ?_|refine .aG ?_|exact .own _))
end Go.Proofs.YtmemninechdogaaGreatDoor
namespace Go.Proofs.YtmemninechdogaaGreatDoor
open _root_.Go.Proofs.Tryz
section
open Go.RowKit Go.Proofs Go.Tb Go.Shelf
theorem acn:(prog.info? 133).map (fun i=>(i.zero,i.size,i.bytes))=some (some (.agg #[.string ⟨#[]⟩,.int .i64 0]),2,24):=by kernel_rfl
theorem aa3{w:World}{ad:Addr}{n c:Nat}{news:List Value}(hlen:news.length=n*2)(hc:∀j u,news[j]? =some u->w.cell? (ad.add j)=some u)(h1:∀u∈news,u.oneCell'=true)(hn:n<=8):
  Calls prog 380 #[.slice (some ad) n c] w fun e w'=>∃v',e= .returned v'/\w'.ownsRow w.heap.size 133 2 v' n news/\v'≠.slice none 0 0/\Below w.heap.size w w':=by
 obtain⟨i0,hi,ew,iz,gV⟩:=info_parts acn;have yx:∀(w:World) (a:Option Addr) (n c n' c':Nat),(binOp .eql 26 (.slice a n c) (.slice none n' c')).run prog w= .ok (.bool a.isNone) w:=fun w a n c n' c'=>Lib.run_eql_slice_nil w _ _ a n c n' c' underlying26;have A:Aside (∀j u,news[j]? =some u->w.cell? (ad.add j)=some u):=hc
 go_enter func380,ntmps380
 go_wp2_with (refine wpList_append_own _ rfl _ _ 26 rfl w.heap.size 133 i0 (.agg #[.string ⟨#[]⟩,.int .i64 0]) 2 24 underlying26 hi ew iz gV rfl (by decide) _ _ _ rfl (World.ownsRow_made w #[] 0 (ZO _) (Z4 _) rfl) ad n c news rfl hlen ?qc2 h1 ?qc4 ?qc5 ?qc6 ?_)
 case qc2=>
  intro j u hj;exact Lib.cell?_alloc_some _ (A.out j u hj)
 case qc4=>unfold maxLen;omega
 case qc5=>omega
 case qc6=>simp
 intro v' w1 dL Ao iQ
 go_wp2
 go_ret
 refine⟨v',rfl,by grind,?_,?_⟩
 .grind
 .exact((Below.refl _ w).alloc (ZO _) _).grown Ao (by simp) (by intro k hk;simp[Value.ownBlock]at hk;omega)
theorem aa2(n c:Nat)(w:World):Calls prog 380 #[.slice none n c] w fun e w'=>e= .returned (.slice none 0 0)/\w'=w:=by
 have yx:∀(w:World) (a:Option Addr) (n c n' c':Nat),(binOp .eql 26 (.slice a n c) (.slice none n' c')).run prog w= .ok (.bool a.isNone) w:=fun w a n c n' c'=>Lib.run_eql_slice_nil w _ _ a n c n' c' underlying26
 go_wp2
 go_ret
 simp_all
end
section
open Go.Sx Go.Proofs Go.Tb Go.RowKit
def o9(M:Mem)(g u:Nat)(w':World):Mem:=fun b o=>if b=g/\o<u then w'.cell? ⟨b,o,none⟩else M b o
theorem J7{M:Mem}{w0:Base}{w w':World}{Z:Store}{g u:Nat}(hI:Inv prog M w0 Z w)(hg:w.heap.size<=g):M.le (o9 M g u w'):=fun b o v h=>by have:=World.block_lt_of_cell? _ _ (hI.bZ b o v h);unfold o9;grind
theorem aeX{M:Mem}{w0:Base}{w w':World}{Z:Store}{g u lab:Nat}{cur:Array Value}{ty:TypeId}(hI:Inv prog M w0 Z w)(hb:Below w.heap.size w w')(hg:w.heap.size<=g)(hh:w'.heap[g]? =some (.cells cur ty (0,0)))(hu:u<=cur.size):
  Inv prog (o9 M g u w') w0 ((lab,g,.tail u cur.size)::Z) w':=by
 have h1:=hI.after hb;have hle:=J7 (w':=w') (u:=u) hI hg;have Am:∀o,M g o=none:=fun o=>by
  cases h:M g o with
  |none=>rfl|some v=>have:=World.block_lt_of_cell? _ _ (hI.bZ g o v h);grind
 have az:∀e∈Z,e.2.1<w.heap.size:=fun e he=>by
  obtain⟨_,g3⟩:=hI.st e he;cases hx:e.2.2 with
  |cells l=>rw[hx]at g3;obtain⟨_,cs,t,a2,_⟩:=g3;grind
  |tail u c=>rw[hx]at g3;obtain⟨_,cs,t,a2,_⟩:=g3;grind
  |map es k=>rw[hx]at g3;obtain⟨_,l,a2,_⟩:=g3;grind
 refine⟨h1.os,h1.tape,h1.output,h1.size,h1.old,fun b o v h=>?_,fun e he=>?_,?_,fun g l hl=>(h1.gl g l hl).mono hle,h1.gw,fun b o v hv az=>h1.bm b o v (by unfold o9 at hv;rwa [Z9 (by have:=hI.size;omega)]at hv) az⟩
 .unfold o9 at h;split at h
  .exact h
  .exact h1.bZ b o v h
 .rcases ZR.1 he with rfl|he
  .refine⟨ZD hI.size hg,fun o ho=>?_,cur,ty,hh,rfl,hu⟩;unfold o9;grind
  .obtain⟨g1,g2⟩:=h1.st e he;have h4:=az e he;refine⟨g1,?_⟩;have hN:∀o,o9 M g u w' e.2.1 o=M e.2.1 o:=fun o=>by unfold o9;rw[Z9 (by omega)]
   cases hx:e.2.2 with
   |cells l=>rw[hx]at g2;obtain⟨a1,cs,t,a2,a3⟩:=g2;exact⟨fun o=>(hN o).trans (a1 o),cs,t,a2,a3.mono hle⟩
   |tail u c=>rw[hx]at g2;obtain⟨a1,cs,t,a2,a3⟩:=g2;exact⟨fun o ho=>(hN o).trans (a1 o ho),cs,t,a2,a3⟩
   |map es k=>rw[hx]at g2;obtain⟨a1,l,a2,a3,a4⟩:=g2;exact⟨fun o=>(hN o).trans (a1 o),l,a2,a3,a4.mono hle⟩
 .simp only[Zz,YQ];refine⟨fun h=>?_,h1.nd⟩;obtain⟨e,he,heq⟩:=Ze.1 h;have:=az e he;omega
theorem aba(l:List ax)(hl:l.length<=8)(Z:Store):Sx.Spec prog 380 [.sl false 2 (l.map ax.cells)] Z fun r af=>(l=[]/\r= .ret ej/\af=Z)\/∃g u c,r= .ret (.own 2 40 g u c (l.map ax.cells))/\af=(40,g,.tail u c)::Z:=by
 intro M w0 w cs hI hR;obtain⟨v,rfl,h1⟩:=RL.cR hR
 have key:∀(ad:Addr) (c:Nat) (f:Nat->Value),(∀k,k<l.length*2->w.cell? (ad.add k)=some (f k))->(∀i (h:i<(l.map ax.cells).length) j (h2:j<((l.map ax.cells)[i]).length),R M ((l.map ax.cells)[i])[j] (f (i*2+j)))->v= .slice (some ad) l.length c->
   Calls prog 380 #[v] w fun e w'=>∃M' r af,M.le M'/\Inv prog M' w0 af w'/\jV M' r e/\((l=[]/\r= .ret ej/\af=Z)\/∃g u c,r= .ret (.own 2 40 g u c (l.map ax.cells))/\af=(40,g,.tail u c)::Z):=fun ad c f hf hr hv=>by
  subst hv;have vO:∀i (h:i<l.length),f (i*2)= .string l[i].name/\f (i*2+1)= .int .i64 l[i].exp:=fun i h=>by have a0:=hr i (by grind) 0 (by simp[ax.cells]);have a1:=hr i (by grind) 1 (by simp[ax.cells]);simp only[Zv]at a0 a1;exact⟨a0.aC,a1.aC⟩
  refine(aa3 (w:=w) (ad:=ad) (n:=l.length) (c:=c) (news:=(List.range (l.length*2)).map f) (by simp) (fun j u hj=>?_) (fun u hu=>?_) hl).mono fun e w' ⟨v',he,dL,AF,hb⟩=>?_
  .grind
  .obtain⟨k,hk,rfl⟩:=Ze.1 hu;have fO:k<l.length*2:=YW.1 hk;have:=vO (k / 2) (by omega);rcases Nat.mod_two_eq_zero_or_one k with h|h
   .rw[show k=k / 2*2 by omega,this.1];rfl
   .rw[show k=k / 2*2+1 by omega,this.2];rfl
  .obtain⟨g1,g2⟩:=dL;rcases g2 with⟨iQ,_⟩|⟨g,cap,cur,rfl,anl,hh,hc,hm,hs,ht⟩
   .exact absurd iQ AF
   .refine⟨o9 M g (l.length*2) w',.ret (.own 2 40 g (l.length*2) cur.size (l.map ax.cells)),_,J7 hI anl,aeX hI hb anl hh (by omega),?_,.inr ⟨g,_,_,rfl,rfl⟩⟩;subst he;have AN:∀k,k<l.length*2->w'.cell? ⟨g,k,none⟩=some (f k):=fun k hk=>by rw[pO hh];have:=Zk (fun x=>x[k]?) ht;simp[hk]at this;exact this
    have:=R.own (M:=o9 M g (l.length*2) w') 2 40 g (l.length*2) cur.size (l.map ax.cells) 0 cap f (fun i hi=>by rw[Zv];rfl) (fun k hk=>?_) (fun i hi j hj=>(hr i hi j hj).mono (J7 hI anl)) (by rw[Z5];exact hc) hm (.inr ⟨by rw[Z5];omega,by omega⟩) (by decide)
    .rw[Z5]at this;exact this
    .rw[Z5]at hk;unfold o9;rw[Z3 ⟨rfl,by omega⟩,ZH];exact AN k hk
 generalize hX:(AV.sl false 2 (l.map ax.cells))=X at h1;cases h1<;>(try cases hX)
 .rename_i a h0;have nH:l=[]:=by simp at hX;exact hX.2.2
  subst nH;cases a with
  |none=>exact(aa2 0 0 w).mono fun e w' ⟨h1,h2⟩=>⟨M,.ret ej,Z,Mem.le.refl _,by rw[h2];exact hI,by subst h1;exact .v _,.inl ⟨rfl,rfl,rfl⟩⟩
  |some ad=>exact key ad 0 (fun _=>undef) (fun k hk=>by simp at hk) (fun i hi=>by simp at hi) rfl
 .rename_i b off cap f hm hc bl hM lQ;exact key ⟨b,off,none⟩ cap f (fun k hk=>by rw[Addr.add_lit];exact hI.bZ _ _ _ (hM k (by simpa using hk))) lQ (by simp)
end
end Go.Proofs.YtmemninechdogaaGreatDoor
namespace Go.Proofs.YtmemninechdogaaGreatDoor
open Go.Sx Go.Proofs Go.Tb
theorem acm{p:Option ae}{f:ax}(h:jv p f=0):Word f.name/\-8<=f.exp/\f.exp<=8:=by unfold jv at h;grind
theorem T8:∀{l:List ax} {p:Option ae},iX p l=0->∀f∈l,Word f.name/\-8<=f.exp/\f.exp<=8
 |[],_,_,f,hf=>by cases hf|f::l,p,h,g,hg=>by
  rw[iX]at h;split at h
  .rename_i h1;rcases ZR.1 hg with rfl|hg
   .exact acm h1
   .exact T8 h g hg
  grind
theorem yT{l:List ax}(h:dK l=0):l.length<=4/\∀f∈l,Word f.name/\-8<=f.exp/\f.exp<=8:=by
 unfold dK at h;split at h
 .cases h
 .exact⟨by omega,T8 h⟩
def gq(sg:Int)(f:ax):ax:=⟨f.name,sg*f.exp⟩
theorem adk{l:List ax}{lab:Nat}{x:AV}{T:Store}(h:fq lab (l.map ax.cells) x T):Wk x (.sl false 2 (l.map ax.cells)):=by
 rcases h with⟨hE,rfl,rfl⟩|⟨b,u,c,rfl,rfl⟩
 .rw[hE];exact .nil
 .exact .own _
theorem St(a d:List ax)(sg:Int)(mT:sg=1\/sg= -1):Pure Tryz.prog 362 [.sl false 2 (a.map ax.cells),.sl false 2 (d.map ax.cells),iv sg] (sj (eV a d sg)):=by
 refine agU.p fun Z=>?_;repeat'(first|exact .nil|refine .k ?_|(refine .cd ?_ ?_<;>intro hc)|refine .r1 ?_ ?_|refine .an rfl (by intro ar;first|exact T7 _|fail) ?_ ?_|fail)
 all_goals(try simp only[BL]at*)
 .rw[show eV a d sg=([],dK a)from Z3 hc];refine Sx.Fin.wk Zs (.aG (.cons .nil (.cons (.refl _) .nil)))
 .have ha:dK a=0:=by assumption
  rw[show eV a d sg=([],dK d)from by unfold eV;rw[Z9 (by rw[ha];simp),Z3 hc]];refine Sx.Fin.wk Zs (.aG (.cons .nil (.cons (.refl _) .nil)))
 have ha:dK a=0:=by assumption
 have hb:dK d=0:=by assumption
 have hP:eV a d sg=rQ (a++d.map (gq sg)):=by unfold eV;rw[Z9 (by rw[ha];simp),Z9 (by rw[hb];simp)];rfl
 obtain⟨oK,lR⟩:=yT ha;obtain⟨rm,dC⟩:=yT hb;refine uP rfl (aba a (by omega) _) OB.nil (fun x af hR=>?_) (fun ch af hR=>?_)
 rotate_left
 .rcases hR with⟨_,h,_⟩|⟨_,_,_,h,_⟩<;>cases h
 have fD:∀(g u c:Nat),fq 40 ((a++(d.take 0).map (gq sg)).map ax.cells) (.own 2 40 g u c (a.map ax.cells)) [(40,g,.tail u c)]:=fun g u c=>fq.s (by rw[List.take_zero,YJ,Y5]);have aee:a=[]->fq 40 ((a++(d.take 0).map (gq sg)).map ax.cells) ej []:=fun h=>fq.n (by rw[h];rfl);have hNo:Pure Tryz.prog 354 [.sl false 2 ((a++d.map (gq sg)).map ax.cells)] (sj (rQ (a++d.map (gq sg)))):=by
  refine aih _ (fun f hf=>?_) (fun f hf=>?_) (by rw[Z7,Z5];omega)
  .rcases ZI.1 hf with hf|hf
   .exact(lR f hf).1
   .obtain⟨q,hq,rfl⟩:=Ze.1 hf;exact(dC q hq).1
  .rcases ZI.1 hf with hf|hf
   .exact(lR f hf).2
   .obtain⟨q,hq,rfl⟩:=Ze.1 hf;have:=(dC q hq).2;show -8<=sg*q.exp/\sg*q.exp<=8;rcases mT with rfl|rfl<;>omega
 rw[hP];clear hP hc;rcases hR with⟨h0,h,rfl⟩|⟨g,u,c,h,rfl⟩<;>cases h
 all_goals
  repeat'(first|exact .nil|refine .k ?_|refine .r1 ?_ ?_|(refine .m2 ?_ ?_;intro hlen)|fail)
  all_goals(try simp only[BL]at*)
  first
   |(have _:=g
     rename Store=>Z
     refine aP (fun m rg af=>∃(i:Nat) (x:AV) (T:Store),i<=d.length/\m=d.length-i/\fq 40 ((a++(d.take i).map (gq sg)).map ax.cells) x T/\af=T++Z/\rg=[(2,iv sg),(10,x),(25,.sl false 2 (d.map ax.cells)),(26,iv d.length),(27,iv i)]) d.length rfl ⟨_,_,Zr,Zs,0,_,_,Z4 _,rfl,fD g u c,rfl,rfl⟩ ?_)
   |(rename Store=>Z
     refine aP (fun m rg af=>∃(i:Nat) (x:AV) (T:Store),i<=d.length/\m=d.length-i/\fq 40 ((a++(d.take i).map (gq sg)).map ax.cells) x T/\af=T++Z/\rg=[(2,iv sg),(10,x),(25,.sl false 2 (d.map ax.cells)),(26,iv d.length),(27,iv i)]) d.length rfl ⟨_,_,Zr,Zs,0,_,_,Z4 _,rfl,aee h0,rfl,rfl⟩ ?_)
  rintro m2 _ _ ⟨i,x,T,hi,hm,hR,rfl,rfl⟩;have hN3:i=d.length->Pure Tryz.prog 354 [x] (sj (rQ (a++d.map (gq sg)))):=fun h=>by subst h;rw[Yb]at hR;exact hNo.wk (.cons (adk hR) .nil)
  have gj:i<d.length->(a++(d.take (i+1)).map (gq sg)).map ax.cells=(a++(d.take i).map (gq sg)).map ax.cells++[[sv (d.getD i default).name,iv (sg*(d.getD i default).exp)]]:=fun h=>by rw[ZU h,<-getD_eq h];simp[gq,ax.cells]
  have hwr:i<d.length->IntKind.i64.wrap (sg*(d.getD i default).exp)=sg*(d.getD i default).exp:=fun h=>by have:=(dC _ (bN h)).2;rcases mT with rfl|rfl<;>exact bn (by omega)
  have DP:(a++(d.take i).map (gq sg)).length<=8:=by rw[Z7,Z5,ZL];omega
  rcases hR with⟨hE,rfl,rfl⟩|⟨b3,u3,c3,rfl,rfl⟩
  all_goals
   repeat'(first|exact .nil|refine .k ?_|(refine .cd ?_ ?_<;>intro hc)|refine .r1 ?_ ?_|refine .l1 fun b=>?_|refine .t1 ?_ ?_ ?_|refine .u1 ?_ ?_ ?_ (fun b u c=>?_)|refine .u2 ?_ ?_ ?_ (fun b u c=>?_)|refine .an rfl (by intro ar;exact hN3 (by(simp only[BL]at*;omega))) ?_ ?_|(show List.all _ _=true;rfl)|fail)
   try any_goals((intro ar;first|(simp_all;done)|fail))
   all_goals(try simp only[BL]at*)
   .show _<=1000000;simp only[ZY,ZP];omega
   .show _ * _<=_;simp only[Z5,ZY,ZP];omega
   .rw[hwr (by omega)];refine⟨m2-1,by omega,_,_,Zr,Zs,i+1,_,_,by omega,by omega,fq.s ?_,rfl,by rw[bj (n:=d.length) (by omega) (by assumption)]⟩;rw[gj (by omega)];try rw[hE]
    try rfl
   .exact Zw
theorem Fv:mA:=fun a b=>by
 have hp:=St a b 1 (.inl rfl);refine agN.p fun Z=>?_;repeat'(first|exact .nil|refine .k ?_|refine .r1 ?_ ?_|refine .an rfl (by intro ar;omega) ?_ ?_|fail)
 exact Zw
theorem EG:mz:=fun a b=>by
 have hp:=St a b (-1) (.inr rfl);refine agO.p fun Z=>?_;repeat'(first|exact .nil|refine .k ?_|refine .r1 ?_ ?_|refine .an rfl (by intro ar;omega) ?_ ?_|fail)
 exact Zw
