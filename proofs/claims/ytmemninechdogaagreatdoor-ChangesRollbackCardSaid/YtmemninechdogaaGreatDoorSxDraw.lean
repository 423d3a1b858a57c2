import Derived.Test.YtmemninechdogaaGreatDoorSxCtl
set_option linter.all false
namespace Go.Sx
open Go.RowKit
theorem te{rg al:ag}{x:Operand}(h:∀t∈tmpsOf [x],lk rg t=lk al t):ev rg x=ev al x:=by cases x<;>simp_all [ev,tmpsOf]
theorem si(x:Operand)(l:List Operand):tmpsOf (x::l)=tmpsOf [x]++tmpsOf l:=by cases x<;>rfl
theorem Lj(l l':List Operand):tmpsOf (l++l')=tmpsOf l++tmpsOf l':=by
 induction l with
 |nil=>rfl|cons x l ih=>rw[ZB,si,si x l,ih,Zq]
theorem mH{rg al:ag}:∀(l:List Operand),(∀t∈tmpsOf l,lk rg t=lk al t)->aL rg l=aL al l
 |[],_=>rfl|x::l,h=>by rw[si]at h;simp only[aL];rw[te fun t ht=>h t (Zy _ ht),mH l fun t ht=>h t (Y3 _ ht)]
theorem NF{rg al:ag}:∀(l:List (Nat×Nat×Operand)),(∀t∈tmpsOf (l.map (·.2.2)),lk rg t=lk al t)->mG rg l=mG al l
 |[],_=>rfl|(o,n,x)::l,h=>by rw[Zz,si]at h;simp only[mG];rw[te fun t ht=>h t (Zy _ ht),NF l fun t ht=>h t (Y3 _ ht)]
theorem qF{P:Program}[Glob P]{cfg:Nat->Nat}{d:Option Nat}{rg al:ag}{X:Store}{K:AV->Store->Prop}{E:List PanicEntry->Store->Prop}{op:aB}(h:∀t∈tmpsOf op.opers,lk rg t=lk al t):
  ak P cfg d rg X K E op=ak P cfg d al X K E op:=by
 have e1:∀x,x∈op.opers->ev rg x=ev al x:=fun x hx=>te fun t ht=>h t (by
  obtain⟨l1,l2,e⟩:=Xh hx;rw[e,Lj,si]
  grind)
 cases op with
 |build z parts=>simp only[ak];rw[NF parts h]|TO t ah parts=>simp only[ak];rw[mH parts h]|call f args=>simp only[ak];rw[mH args h]|fZ f args=>have hf:ev rg f=ev al f:=e1 f (by simp[aB.opers]);have ha:aL rg args=aL al args:=mH args fun t ht=>h t (by simp only[aB.opers];rw[si];grind);simp only[ak];grind
 |nQ fn first captured=>
  have hf:aL rg first=aL al first:=mH first fun t ht=>h t (by simp only[aB.opers];rw[Lj];grind)
  have ha:aL rg captured=aL al captured:=mH captured fun t ht=>h t (by simp only[aB.opers];rw[Lj];grind);simp only[ak];grind
 |slice ah x lo hi=>
  have hx:ev rg x=ev al x:=e1 x (by simp[aB.opers]);have hl:lo.map (ev rg)=lo.map (ev al):=by cases lo with
   |none=>rfl|some y=>simp only[ZJ];rw[e1 y (by simp[aB.opers])]
  have hh:hi.map (ev rg)=hi.map (ev al):=by cases hi with
   |none=>rfl|some y=>simp only[ZJ];rw[e1 y (by simp[aB.opers])]
  simp only[ak];grind
 |len s x=>cases s<;>(simp only[ak];rw[e1 x (by simp[aB.opers])])|alloc t z=>rfl|cL op ty ti args=>simp only[ak];rw[mH args h]|exts op ty ti args=>simp only[ak];rw[mH args h]|pick c x y=>simp only[ak];rw[e1 c (by simp[aB.opers]),e1 x (by simp[aB.opers]),e1 y (by simp[aB.opers])]|store n x y=>simp only[ak];rw[e1 x (by simp[aB.opers]),e1 y (by simp[aB.opers])]|bin op x y=>simp only[ak];rw[e1 x (by simp[aB.opers]),e1 y (by simp[aB.opers])]|jt n k x y=>simp only[ak];rw[e1 x (by simp[aB.opers]),e1 y (by simp[aB.opers])]|eqs n k x y=>simp only[ak];rw[e1 x (by simp[aB.opers]),e1 y (by simp[aB.opers])]|fh n x y=>simp only[ak];rw[e1 x (by simp[aB.opers]),e1 y (by simp[aB.opers])]|mV n k x y=>simp only[ak];rw[e1 x (by simp[aB.opers]),e1 y (by simp[aB.opers])]|idxs x y=>simp only[ak];rw[e1 x (by simp[aB.opers]),e1 y (by simp[aB.opers])]|append t n k z x y=>simp only[ak];rw[e1 x (by simp[aB.opers]),e1 y (by simp[aB.opers])]|max2 x y=>simp only[ak];rw[e1 x (by simp[aB.opers]),e1 y (by simp[aB.opers])]|min2 x y=>simp only[ak];rw[e1 x (by simp[aB.opers]),e1 y (by simp[aB.opers])]|mv x=>simp only[ak];rw[e1 x (by simp[aB.opers])]|box t x=>simp only[ak];rw[e1 x (by simp[aB.opers])]|load g n x=>simp only[ak];rw[e1 x (by simp[aB.opers])]|ng x=>simp only[ak];rw[e1 x (by simp[aB.opers])]|un op x=>simp only[ak];rw[e1 x (by simp[aB.opers])]|mD k x=>simp only[ak];rw[e1 x (by simp[aB.opers])]|nw x=>simp only[ak];rw[e1 x (by simp[aB.opers])]|nR t x=>simp only[ak];rw[e1 x (by simp[aB.opers])]|panic x=>simp only[ak];rw[e1 x (by simp[aB.opers])]|cG n x=>simp only[ak];rw[e1 x (by simp[aB.opers])]|field g o n x=>simp only[ak];rw[e1 x (by simp[aB.opers])]|extract x i=>simp only[ak];rw[e1 x (by simp[aB.opers])]
def QV(P:Program)[Glob P](cfg:Nat->Nat)(c:CI)(rg:ag)(X:Store)(x:AV):Prop:=cE P cfg c (fun y af=>y=x/\af=X) (fun _ _=>False) rg X
theorem uO{P:Program}[Glob P]{cfg:Nat->Nat}{c:CI}{rg al:ag}{X:Store}{x:AV}(h:∀t∈c.reads,lk rg t=lk al t)(hq:QV P cfg c rg X x):QV P cfg c al X x:=by
 unfold QV cE at*;have h1:∀K E,ak P cfg c.d rg X K E c.op=ak P cfg c.d al X K E c.op:=fun K E=>qF fun t ht=>h t (Zy _ ht);cases hg:c.g with
 |none=>grind|some p=>obtain⟨u,want⟩:=p;have hu:lk rg u=lk al u:=h u (Y3 _ (by simp[hg]));grind
def wY(P:Program)[Glob P](f:FuncId)(as:List AV)(K:AV->Prop):Prop:=∃r,Pure P f as r/\K r
theorem qcall_congr{P:Program}[Glob P]{f:FuncId}{as as':List AV}{K:AV->Prop}(h:as=as'):wY P f as K=wY P f as' K:=by rw[h]
def aM(P:Program)[Glob P](cfg:Nat->Nat)(d:Option Nat)(rg:ag)(X:Store)(K:AV->Prop):aB->Prop
 |.box .. |.alloc .. |.store .. |.append .. |.exts .. |.panic .. =>False|.cL op ty ti args=>∃r,jU P op ty ti args (aL rg args) r/\K r|.fZ f args=>match ev rg f with
  |.v (.func (.func f) a c)=>im P f=true/\wY P f (a.toList.map .v++aL rg args++c.toList.map .v) K|.cl f a c=>im P f=true/\wY P f (a++aL rg args++c) K|_=>False
 |.call f args=>wY P f (aL rg args) K| .TO _ ah parts=>match rowsOf ah (aL rg parts)with
  |some rows=>rows.length<=1000000/\match cfg (d.getD 0)with
   |0=>K (.sl true ah rows)|3=>K (.fl ah rows)|_=>False
  |none=>False
 |.len true x=>match ev rg x with
  |.v (.string s)=>K (.v (.int .i64 s.size))|_=>False
 |.len false x=>match ev rg x with
  |.v (.slice _ n _)=>K (.v (.int .i64 n))|.ms _ _ _ n _=>K (.v (.int .i64 n))|.sl _ _ rows=>K (.v (.int .i64 rows.length))|.own _ _ _ _ _ rows=>K (.v (.int .i64 rows.length))|_=>False
 |op=>ak P cfg d rg X (fun x _=>K x) (fun _ _=>False) op
theorem Ui{op:BinOp}{a b:Value}{K:Value->Prop}(h:mo op a b K):∃x,K x/\∀K':Value->Prop,K' x->mo op a b K':=by
 unfold mo at h;split at h
 .cases op<;>simp only at h<;>simp only[mo];all_goals grind
 .cases op<;>simp only at h<;>simp only[mo]
  case add=>grind
  case eql=>grind
  case neq=>grind
  case lss=>grind
  case leq=>grind
  case gtr=>grind
  grind
 grind
theorem Lx{P:Program}[Glob P]{cfg:Nat->Nat}{d:Option Nat}{rg:ag}{X:Store}{K:AV->Prop}{op:aB}(h:aM P cfg d rg X K op):
  ∃x,K x/\∀(K':AV->Store->Prop) (E':List PanicEntry->Store->Prop),K' x X->ak P cfg d rg X K' E' op:=by
 cases op with
 |box t x=>exact h.elim|alloc t z=>exact h.elim|store n x y=>exact h.elim|append t n k z x y=>exact h.elim|exts op ty ti args=>exact h.elim|panic x=>exact h.elim|cL op ty ti args=>obtain⟨r,hp,hk⟩:=h;exact⟨r,hk,fun K' E' h=>(hp.sp X).mono fun x af ⟨e1,e2⟩=>by grind⟩
 |call f args=>obtain⟨r,hp,hk⟩:=h;exact⟨r,hk,fun K' E' h=>xg hp h⟩
 |fZ f args=>
  simp only[aM]at h;simp only[ak];split at h
  .rename_i g b c he;obtain⟨bL,r,hp,hk⟩:=h
   (try rw[he])
   exact⟨r,hk,fun K' E' h=>⟨bL,xg hp h⟩⟩
  .rename_i g b c he;obtain⟨bL,r,hp,hk⟩:=h
   (try rw[he])
   exact⟨r,hk,fun K' E' h=>⟨bL,xg hp h⟩⟩
  grind
 |TO t ah parts=>
  simp only[aM]at h;simp only[ak];split at h
  .rename_i rows he
   (try rw[he])
   obtain⟨hn,h⟩:=h;split at h
   .rename_i e;exact⟨_,h,fun K' E' hk=>⟨hn,by simp only[e];exact hk⟩⟩
   .rename_i e;exact⟨_,h,fun K' E' hk=>⟨hn,by simp only[e];exact hk⟩⟩
   .exact h.elim
  .exact h.elim
 |len s x=>
  cases s<;>simp only[aM]at h<;>simp only[ak]
  .split at h
   .rename_i b n c he;(try rw[he]);exact⟨_,h,fun K' E' hk=>hk⟩
   .rename_i tg b o n c he;(try rw[he]);exact⟨_,h,fun K' E' hk=>hk⟩
   .rename_i nn ez rows he;(try rw[he]);exact⟨_,h,fun K' E' hk _=>hk⟩
   .rename_i ez tg b u c rows he;(try rw[he]);exact⟨_,h,fun K' E' hk _=>hk⟩
   .exact h.elim
  .split at h
   .rename_i s he;(try rw[he]);exact⟨_,h,fun K' E' hk=>hk⟩
   .exact h.elim
 |mv x=>exact⟨_,h,fun K' E' hk=>hk⟩|nR t x=>exact⟨_,h,fun K' E' hk=>hk⟩|pick c x y=>
  simp only[aM,ak]at h;simp only[ak];split at h
  .rename_i t he;(try rw[he]);exact⟨_,h,fun K' E' hk=>hk⟩
  .exact h.elim
 |build z parts=>
  simp only[aM,ak]at h;simp only[ak];split at h
  .rename_i t he;(try rw[he]);exact⟨_,h,fun K' E' hk=>hk⟩
  .exact h.elim
 |load g n x=>
  simp only[aM,ak]at h;simp only[ak];split at h
  .rename_i tg b o he
   (try rw[he])
   split at h
   .rename_i b' l hb;obtain⟨rfl,h⟩:=h
    (try simp only[hb])
    cases g with
    |true=>simp only[YK]at h|-;exact⟨_,h.2,fun K' E' hk=>⟨trivial,h.1,hk⟩⟩|false=>
     simp only[ZT,YU]at h|-;split at h
     .rename_i y hy;(try rw[hy]);exact⟨_,h,fun K' E' hk=>⟨trivial,hk⟩⟩
     .exact h.elim
   .exact h.elim
  .rename_i l he
   (try rw[he])
   cases g with
   |true=>simp only[YK]at h|-;exact⟨_,h.2,fun K' E' hk=>⟨h.1,hk⟩⟩|false=>
    simp only[ZT,YU]at h|-;split at h
    .rename_i y hy;(try rw[hy]);exact⟨_,h,fun K' E' hk=>hk⟩
    .exact h.elim
  .rename_i gv he
   (try rw[he])
   split at h
   .rename_i l hl
    (try simp only[hl])
    cases g with
    |true=>simp only[YK]at h|-;exact⟨_,h.2,fun K' E' hk=>⟨h.1,hk⟩⟩|false=>
     simp only[ZT,YU]at h|-;split at h
     .rename_i y hy;(try rw[hy]);exact⟨_,h,fun K' E' hk=>hk⟩
     .exact h.elim
   .exact h.elim
  .exact h.elim
 |ng x=>simp only[aM,ak]at h;simp only[ak];split at h<;>first|exact h.elim|(rename_i he;(try rw[he]);exact⟨_,h,fun K' E' hk=>hk⟩)
 |bin op x y=>
  simp only[aM,ak]at h;simp only[ak];split at h
  .rename_i u v hu hv
   (try rw[hu,hv])
   obtain⟨z,hz,qk⟩:=Ui h;exact⟨.v z,hz,fun K' E' hk=>qk _ hk⟩
  .exact h.elim
 |jt n k x y=>
  simp only[aM,ak]at h;simp only[ak];split at h
  .rename_i t he;(try rw[he]);exact⟨_,h,fun K' E' hk=>hk⟩
  .exact h.elim
 |eqs n k x y=>
  simp only[aM,ak]at h;simp only[ak];split at h
  .rename_i xs ys h1 h2
   (try rw[h1,h2])
   split at h
   .rename_i t he;(try simp only[he]);exact⟨_,h,fun K' E' hk=>hk⟩
   .exact h.elim
  .exact h.elim
 |un op x=>
  simp only[aM,ak]at h;simp only[ak];split at h
  .rename_i u hu
   (try rw[hu])
   split at h
   .rename_i t he;(try simp only[he]);exact⟨_,h,fun K' E' hk=>hk⟩
   .exact h.elim
  .exact h.elim
 |mD k x=>
  simp only[aM,ak]at h;simp only[ak];split at h
  .rename_i k' n he;(try rw[he]);exact⟨_,h,fun K' E' hk=>hk⟩
  .exact h.elim
 |nw x=>
  simp only[aM,ak]at h;simp only[ak];split at h
  .rename_i s he;(try rw[he]);exact⟨_,h,fun K' E' hk=>hk⟩
  .exact h.elim
 |nQ fn first captured=>
  simp only[aM,ak]at h;simp only[ak];split at h
  .rename_i u v h1 h2;(try rw[h1,h2]);exact⟨_,h,fun K' E' hk=>hk⟩
  .split at h
   .exact⟨_,h,fun K' E' hk=>hk⟩
   .exact h.elim
 |slice ah x lo hi=>
  simp only[aM,ak]at h;simp only[ak];split at h
  .rename_i cw DO h1 h2
   (try rw[h1,h2])
   split at h
   .rename_i nn e rows he;(try simp only[he]);exact⟨_,h.2.2.2.2,fun K' E' hk=>⟨h.1,h.2.1,h.2.2.1,h.2.2.2.1,hk⟩⟩
   .rename_i e tg b u c rows he;(try simp only[he]);exact⟨_,h.2.2.2.2,fun K' E' hk=>⟨h.1,h.2.1,h.2.2.1,h.2.2.2.1,hk⟩⟩
   .rename_i he;(try simp only[he]);exact⟨_,h.2.2,fun K' E' hk=>⟨h.1,h.2.1,hk⟩⟩
   .exact h.elim
  .exact h.elim
 |cG off x=>simp only[aM,ak]at h;simp only[ak];split at h<;>first|exact h.elim|(rename_i he;(try rw[he]);exact⟨_,h,fun K' E' hk=>hk⟩)
 |field g o n x=>
  simp only[aM,ak]at h;simp only[ak];split at h
  .rename_i l hl
   (try rw[hl])
   obtain⟨az,h⟩:=h;cases g with
   |true=>simp only[YK]at h|-;exact⟨_,h,fun K' E' hk=>⟨az,hk⟩⟩|false=>
    simp only[ZT,YU]at h|-;split at h
    .rename_i y hy;(try rw[hy]);exact⟨_,h,fun K' E' hk=>⟨az,hk⟩⟩
    .exact h.elim
  .exact h.elim
 |fh ah x i=>
  simp only[aM,ak]at h;simp only[ak];split at h
  .rename_i k j hi
   (try rw[hi])
   split at h
   .rename_i nn e rows he;(try simp only[he]);exact⟨_,h.2.2.2,fun K' E' hk=>⟨h.1,h.2.1,h.2.2.1,hk⟩⟩
   .rename_i e tg b u c rows he;(try simp only[he]);exact⟨_,h.2.2.2,fun K' E' hk=>⟨h.1,h.2.1,h.2.2.1,hk⟩⟩
   .rename_i tg b o n c he;(try simp only[he]);exact⟨_,h.2.2,fun K' E' hk=>⟨h.1,h.2.1,hk⟩⟩
   .exact h.elim
  .exact h.elim
 |mV n ah x i=>
  simp only[aM,ak]at h;simp only[ak];split at h
  .rename_i k j hi
   (try rw[hi])
   split at h
   .rename_i tg b o he;(try simp only[he]);exact⟨_,h.2.2,fun K' E' hk=>⟨h.1,h.2.1,hk⟩⟩
   .rename_i l he;(try simp only[he]);exact⟨_,h.2.2,fun K' E' hk=>⟨h.1,h.2.1,hk⟩⟩
   .rename_i g o he;(try simp only[he]);obtain⟨l,ha,h0,h1,h2,h3⟩:=h;exact⟨_,h3,fun K' E' hk=>⟨l,ha,h0,h1,h2,hk⟩⟩
   .exact h.elim
  .exact h.elim
 |idxs x i=>
  simp only[aM,ak]at h;simp only[ak];split at h
  .rename_i k j s h1 h2
   (try rw[h1,h2])
   obtain⟨az,h⟩:=h;exact⟨_,h,fun K' E' hk=>⟨az,hk⟩⟩
  .exact h.elim
 |extract x i=>
  simp only[aM,ak]at h;simp only[ak];split at h
  .rename_i xs he
   (try rw[he])
   split at h
   .rename_i y hy;(try simp only[hy]);exact⟨_,h,fun K' E' hk=>hk⟩
   .exact h.elim
  .rename_i xs he
   (try rw[he])
   split at h
   .rename_i y hy;(try simp only[hy]);exact⟨_,h,fun K' E' hk=>hk⟩
   .exact h.elim
  .exact h.elim
 |max2 x y=>
  simp only[aM,ak]at h;simp only[ak];split at h
  .rename_i u v h1 h2
   (try rw[h1,h2])
   split at h
   .rename_i t he;(try simp only[he]);exact⟨_,h,fun K' E' hk=>hk⟩
   .exact h.elim
  .exact h.elim
 |min2 x y=>
  simp only[aM,ak]at h;simp only[ak];split at h
  .rename_i u v h1 h2
   (try rw[h1,h2])
   split at h
   .rename_i t he;(try simp only[he]);exact⟨_,h,fun K' E' hk=>hk⟩
   .exact h.elim
  .exact h.elim
def uF(P:Program)[Glob P](cfg:Nat->Nat)(c:CI)(K:AV->Prop)(rg:ag)(X:Store):Prop:=
 match c.g with
 |none=>aM P cfg c.d rg X K c.op|some (t,want)=>match lk rg t with
  |.v (.bool b)=>(b=want->aM P cfg c.d rg X K c.op)/\(b= !want->K (.v undef))|.v (.tuple _)=>K (.v undef)|_=>False
theorem Uk{P:Program}[Glob P]{cfg:Nat->Nat}{c:CI}{rg:ag}{X:Store}{K:AV->Prop}(h:uF P cfg c K rg X):∃x,K x/\QV P cfg c rg X x:=by
 unfold uF at h;unfold QV cE;cases hg:c.g with
 |none=>rw[hg]at h;obtain⟨x,hx,hv⟩:=Lx h;grind
 |some p=>
  obtain⟨u,want⟩:=p;rw[hg]at h;simp only at h|-;split at h
  .rename_i b he;by_cases hb:b=want
   .obtain⟨x,hx,hv⟩:=Lx (h.1 hb);grind
   .have jA:b= !want:=by cases b<;>cases want<;>simp_all
    grind
  .grind
  grind
def pw(P:Program)[Glob P](cfg:Nat->Nat):List CI->(K:ag->Prop)->ag->Store->Prop
 |[],K,rg,_=>K rg|c::l,K,rg,X=>match c.g with
  |none=>aM P cfg c.d rg X (fun x=>pw P cfg l K (bB c.d x rg) X) c.op|some (t,want)=>match lk rg t with
   |.v (.bool b)=>Gd b want (aM P cfg c.d ((t,.v (.bool want))::rg) X (fun x=>pw P cfg l K (bB c.d x ((t,.v (.bool want))::rg)) X) c.op)
     (pw P cfg l K (bB c.d (.v undef) ((t,.v (.bool !want))::rg)) X)
   |.v (.tuple _)=>pw P cfg l K (bB c.d (.v undef) rg) X|_=>False
theorem Uq{P:Program}[Glob P]{cfg:Nat->Nat}{c:CI}{l:List CI}{K:ag->Prop}{rg:ag}{X:Store}(h:pw P cfg (c::l) K rg X):
  ∃al,(∀i,lk al i=lk rg i)/\uF P cfg c (fun x=>pw P cfg l K (bB c.d x al) X) al X:=by
 simp only[pw]at h;split at h
 .exact⟨rg,fun _=>rfl,by unfold uF;grind⟩
 .rename_i t want hg;split at h
  .rename_i b hb;by_cases mN:b=want
   .subst mN;have e:lk ((t,AV.v (.bool b))::rg) t= .v (.bool b):=by simp[lk,Yv]
    refine⟨_,En hb,?_⟩;unfold uF;rw[hg];simp only[e];exact⟨fun _=>h.l rfl,fun h'=>by grind⟩
   .have jA:b= !want:=by cases b<;>cases want<;>simp_all
    subst jA;have e:lk ((t,AV.v (.bool !want))::rg) t= .v (.bool !want):=by simp[lk,Yv]
    refine⟨_,En hb,?_⟩;unfold uF;rw[hg];simp only[e];exact⟨fun h'=>absurd h' mN,fun _=>h.r rfl⟩
  .exact⟨rg,fun _=>rfl,by unfold uF;grind⟩
  grind
theorem yh{rg al:ag}(h:∀i,lk al i=lk rg i)(d:Option Nat)(x:AV)(i:Nat):lk (bB d x al) i=lk (bB d x rg) i:=by
 cases d with
 |none=>exact h i|some d=>simp only[bB,lk];rw[h]
theorem Rf(i j:Nat)(x:AV)(r:ag):lk ((i,x)::r) j=if i=j then x else lk r j:=by simp only[lk];simp_all
def dE:List CI->List AV->ag->ag
 |c::l,x::xs,rg=>dE l xs (bB c.d x rg)|_,_,rg=>rg
theorem Uo{P:Program}[Glob P]{cfg:Nat->Nat}{X:Store}{K:ag->Prop}:∀(l:List CI) (rg eK:ag),(∀i,lk rg i=lk eK i)->pw P cfg l K rg X->
  ∃xs:List AV,xs.length=l.length/\(∃fF,K fF/\∀i,lk fF i=lk (dE l xs eK) i)/\∀i (h:i<l.length) (h':i<xs.length),QV P cfg l[i] (dE (l.take i) (xs.take i) eK) X xs[i]
 |[],rg,eK,he,h=>⟨[],rfl,⟨rg,h,he⟩,fun i h=>absurd h (by simp)⟩
 |c::l,rg,eK,he,h=>by
  obtain⟨al,j5,hv⟩:=Uq h;obtain⟨x,hx,hq⟩:=Uk hv;have Pj:∀i,lk al i=lk eK i:=fun i=>(j5 i).trans (he i);obtain⟨xs,h1,h2,h3⟩:=Uo l _ (bB c.d x eK) (yh Pj c.d x) hx;refine⟨x::xs,by simp[h1],h2,fun i hi cJ=>?_⟩;cases i with
  |zero=>exact uO (fun t _=>Pj t) hq|succ i=>simpa[dE]using h3 i (by grind) (by grind)
theorem al6{P:Program}[Glob P]{cfg:Nat->Nat}{d:Option Nat}{rg:ag}{X:Store}{K:AV->Prop}{op:aB}(h4:op.cls=4)(h:aM P cfg d rg X K op):False:=by cases op<;>simp only[aB.cls,reduceCtorEq,Nat.reduceEqDiff,Nat.zero_ne_add_one]at h4<;>exact h
theorem Up{P:Program}[Glob P]{cfg:Nat->Nat}{X:Store}{K:ag->Prop}:∀(l:List CI) (rg:ag),(∀c∈l,c.op.cls<=1\/(c.op.cls=4/\c.g=none))->pw P cfg l K rg X->∀c∈l,c.op.cls<=1
 |[],_,_,_=>fun _ h=>by cases h
 |c::l,rg,hc,h=>by
  obtain⟨al,_,hv⟩:=Uq h;obtain⟨x,hx,_⟩:=Uk hv;intro c' gG;rcases ZR.1 gG with rfl|gG
  .rcases hc c' (by simp)with h1|⟨h1,h2⟩
   .exact h1
   .exfalso;unfold uF at hv;simp only[h2]at hv;exact al6 h1 hv
  .exact Up l _ (fun c h=>hc c (by simp[h])) hx c' gG
theorem wj:∀(l:List CI) (xs:List AV) (rg:ag) (t:Nat),(∀c∈l,c.d≠some t)->lk (dE l xs rg) t=lk rg t
 |[],xs,rg,t,_=>rfl|c::l,[],rg,t,_=>rfl|c::l,x::xs,rg,t,h=>by
  simp only[dE];rw[wj l xs _ t (fun c' hc=>h c' (ZN _ hc))];have hc:=h c (by simp);cases hd:c.d with
  |none=>rfl|some d=>
   have:Nat.beq d t=false:=by rw[← X8,Nat.beq_eq];grind
   simp[bB,lk,this]
theorem Bb:∀(l:List CI) (xs:List AV) (rg:ag),(l.map (·.d)).Nodup->xs.length=l.length->∀j (h:j<l.length) (h':j<xs.length) t,l[j].d=some t->lk (dE l xs rg) t=xs[j]
 |[],xs,rg,_,_,j,h,_,_,_=>absurd h (by simp)|c::l,[],rg,_,hl,_,_,_,_,_=>by grind|c::l,x::xs,rg,hn,hl,j,h,h',t,hd=>by
  simp only[Zz,YQ]at hn;simp only[dE];cases j with
  |zero=>simp at hd|-;rw[wj l xs _ t (fun c' hc e=>hn.1 (by grind))];simp[bB,hd,lk,Yv]|succ j=>exact Bb l xs _ hn.2 (by grind) j (by grind) (by grind) t (by grind)
theorem filter_lt{Y:Type}(p q:Y->Bool):∀(l:List Y),(∀x∈l,q x=true->p x=true)->(∃x∈l,p x=true/\q x=false)->(l.filter q).length+1<=(l.filter p).length
 |[],_,⟨x,hx,_⟩=>by grind|y::l,h,⟨x,hx,hp,hq⟩=>by
  have hle:∀(l:List Y),(∀x∈l,q x=true->p x=true)->(l.filter q).length<=(l.filter p).length:=by
   intro l
   induction l with
   |nil=>simp|cons z l ih=>grind
  rcases ZR.1 hx with rfl|hx
  .grind
  .have ih:=filter_lt p q l (fun x hx=>h x (by simp[hx])) ⟨x,hx,hp,hq⟩;grind
section
variable {P:Program}[Glob P]{M:Mem}{w0:Base}{w:World}{X:Store}{rg:ag}{a:Act}{cfg:Nat->Nat}{N:Nat}
theorem CL{ops:Array Oper}:∀(os:List Oper) (l:List CI),iJ P N ops os=some l->l.length=os.length/\∀i (h:i<os.length) (h':i<l.length),qY P N ops os[i]=some l[i]
 |[],l,h=>by simp only[iJ,ZV]at h;grind|o::os,l,h=>by
  simp only[iJ]at h;split at h
  .obtain⟨l',h1,rfl⟩:=Z8.1 h;obtain⟨h2,h3⟩:=CL os l' h1;grind
  grind
theorem ab5{ops:Array Oper}{l:List CI}(h:q7 ops l=true):∃k,∃hk:k<l.length,qt l 0=some k/\l[k].op.cls=4:=by
 unfold q7 at h;split at h
 .cases h
 .rename_i k e;obtain⟨i,h1,h2,h3,_⟩:=Kp _ _ e;obtain rfl:k=i:=by omega
  exact⟨k,h1,e,h3⟩
theorem Nu{ops:Array Oper}{l:List CI}(h:q6 ops l=true\/q7 ops l=true):∀c∈l,c.op.cls<=1\/(c.op.cls=4/\c.g=none):=fun c hc=>by
 have key:c.d.isSome=true/\(c.op.cls.ble 1=true\/(c.op.cls.beq 4=true/\c.g.isNone=true)):=by
  rcases h with h|h
  .unfold q6 at h;simp_all
  .unfold q7 at h;split at h
   .cases h
   .simp only[Z6,ZA,YL]at h;exact h.1.2 c hc
 simp_all
def B0(P:Program)[Glob P](cfg:Nat->Nat)(K:ag->Prop)(l:List CI)(rg:ag)(X:Store):Prop:=
 ∃xs:List AV,xs.length=l.length/\(∃fF,K fF/\∀i,lk fF i=lk (dE l xs rg) i)/\∀i (h:i<l.length) (h':i<xs.length),QV P cfg l[i] (dE (l.take i) (xs.take i) rg) X xs[i]
theorem wZ{l:List CI}{Q:Exit->ag->Store->Prop}(cfg:Nat->Nat)(h:(∀c∈l,c.op.cls<=1\/(c.op.cls=4/\c.g=none))->B0 P cfg (fun al=>Q .normal al X) l rg X/\∀c∈l,c.op.cls<=1):SW P N (.de l) Q rg X:=by
 intro c hc M w0 a w hI hR hN hD;obtain⟨id,ops,rfl,hl,cr,tE⟩:=fC hc;obtain⟨hlen,x6⟩:=CL ops.toList l hl;have tH:l.length=ops.size:=by grind
 obtain⟨⟨xs,ct,⟨fF,hK,hF⟩,hQV⟩,dp⟩:=h (Nu cr);replace cr:q6 ops l=true:=by
  rcases cr with cr|cr
  .grind
  .exfalso;obtain⟨k,hk,_,h4⟩:=ab5 cr;grind
 unfold q6 at cr;simp only[Yp,XI]at cr;simp only[Z6,ZQ]at cr;obtain⟨⟨BE,_⟩,anm⟩:=cr;rw[ZA]at anm;have fD:∀i (hi:i<l.length) (ho:i<ops.size),(∀e∈ops[i].after,Region.binds .any e=true->e.on<i)/\∀t∈l[i].reads,(∀c∈l,c.d≠some t)\/∃j,∃hj:j<l.length,l[j].d=some t/\j<i/\∃e∈ops[i].after,Region.binds .any e=true/\e.on=j:=by
  intro i hi ho;have hm:((l[i],ops[i]),i)∈(l.zip ops.toList).zipIdx:=by grind
  have:=anm _ hm;simp only[Z6]at this;obtain⟨h1,h2⟩:=this;have hb:∀e∈ops[i].after,Region.binds .any e=true->e.on<i:=by intro e he lS;have:=ZC.1 h1 e he;simpa[lS]using this
  refine⟨hb,fun t ht=>?_⟩;have h3:=ZA.1 h2 t ht;split at h3
  .rename_i j hj;right;rw[Xy]at h3;obtain⟨m,fg,h4⟩:=h3;simp only[Z6,beq_iff_eq]at h4;have kM:j<l.length/\(l.map (·.d))[j]? =some (some t):=by
    obtain⟨i',h5,h6⟩:=Kr _ _ hj;obtain rfl:j=i':=by omega
    exact⟨by have:=(ZG.1 h6).1;simpa using this,h6⟩
   obtain⟨ru,jE⟩:=kM;refine⟨j,ru,by simpa[ru]using jE,?_,ops[i].after[m],X5 fg,h4.1,h4.2⟩;rw[<-h4.2];exact hb _ (X5 fg) h4.1
  .rename_i hj;left;intro c hc e;exact Kq _ _ hj (by rw[<-e];exact Ye hc)
 let RG:=dE l xs rg
 have xK:∀j (h:j<l.length) t,l[j].d=some t->lk RG t=xs[j]'(by omega):=fun j h t ht=>Bb l xs rg BE ct j h (by omega) t ht;have xR:∀t,(∀c∈l,c.d≠some t)->lk RG t=lk rg t:=fun t ht=>wj l xs rg t ht;have hQ:∀i (hi:i<l.length),QV P cfg l[i] RG X (xs[i]'(by omega)):=by
  intro i hi;refine uO (fun t ht=>?_) (hQV i hi (by omega));rcases(fD i hi (by omega)).2 t ht with hn|⟨j,hj,cM,jF,_⟩
  .rw[xR t hn];exact wj _ _ _ _ (fun c hc=>hn c (YT hc))
  .rw[xK j hj t cM];have e1:(l.take i)[j]'(by simp;omega)=l[j]:=by simp
   have e2:(xs.take i)[j]'(by simp;omega)=xs[j]'(by omega):=by simp
   rw[<-e2];refine Bb (l.take i) (xs.take i) rg ?_ (by simp[ct]) j (by simp;omega) (by simp;omega) t (by rw[e1];exact cM);rw[XJ];exact BE.sublist (List.take_sublist _ _)
 refine G3 tE ?_
 have main:∀(fuel:Nat) (listed:Array Bool) (a:Act) (w:World),listed.size=ops.size->((List.range ops.size).filter (fun i=>!listed.getD i true)).length<=fuel->
   (∃M2,M.le M2/\Inv P M2 w0 X w/\a.tmps.size=N/\a.defers=Glob.df P/\(∀t,(∀c∈l,c.d≠some t)->R M2 (lk rg t) (a.tmps.getD t undef))/\∀j (h:j<l.length) t,listed.getD j true=true->l[j].d=some t->R M2 (xs[j]'(by omega)) (a.tmps.getD t undef))->
   wpAny P .any ops (jr P M w0 N Q) fuel listed a w:=by
  intro fuel
  induction fuel with
  |zero=>
   rintro listed a w bl x3 ⟨M2,g1,g2,g3,g4,g5,g6⟩;have bW:∀i,i<ops.size->listed.getD i true=true:=by
    intro i hi;cases oR:listed.getD i true with
    |true=>rfl|false=>
     have:i∈(List.range ops.size).filter (fun i=>!listed.getD i true):=by simp only[Y6,YW,hi,oR,Xt,and_self]
     have:=List.length_pos_of_mem this;omega
   refine⟨?_,M2,fF,X,g1,g2,fun t=>?_,g3,g4,hK⟩
   .unfold Region.ready;rw[Yf];intro i hi;simp[bW i (by simpa using hi)]
   .rw[hF];by_cases ht:∃j,∃h:j<l.length,l[j].d=some t
    .obtain⟨j,hj,cM⟩:=ht;show R M2 (lk RG t) _;rw[xK j hj t cM];exact g6 j hj t (bW j (by omega)) cM
    .show R M2 (lk RG t) _;rw[xR t (fun c hc e=>by
      obtain⟨j,hj,rfl⟩:=YO.1 hc
      exact ht ⟨j,hj,e⟩)]
     exact g5 t (fun c hc e=>by
      obtain⟨j,hj,rfl⟩:=YO.1 hc
      exact ht ⟨j,hj,e⟩)
  |succ fuel ih=>
   rintro listed a w bl x3 ⟨M2,g1,g2,g3,g4,g5,g6⟩;refine⟨fun hr=>?_,fun i hi=>?_⟩
   ·
    have bW:∀i,i<ops.size->listed.getD i true=true:=by
     intro i
     induction i using Nat.strongRecOn with
     |_ i JK=>
      intro hi;cases oR:listed.getD i true with
      |true=>rfl|false=>
       have:i∈Region.ready .any ops listed:=by
        unfold Region.ready;rw[Y6];refine⟨by simpa using hi,?_⟩;simp only[oR,Xt,Bool.true_and,ZF hi,ZJ,Zm];rw[ZC];intro e he;cases lS:Region.binds .any e with
        |false=>rfl|true=>
         have az:=(fD i (by omega) hi).1 e he lS;have:=JK e.on az (by omega);have h2:listed.getD e.on false=true:=by rw[ZS]at this|-;rw[ZF (by omega)]at this|-;exact this
         simp[h2]
       rw[hr]at this;cases this
    refine⟨M2,fF,X,g1,g2,fun t=>?_,g3,g4,hK⟩;rw[hF];by_cases ht:∃j,∃h:j<l.length,l[j].d=some t
    .obtain⟨j,hj,cM⟩:=ht;show R M2 (lk RG t) _;rw[xK j hj t cM];exact g6 j hj t (bW j (by omega)) cM
    .show R M2 (lk RG t) _;rw[xR t (fun c hc e=>by
      obtain⟨j,hj,rfl⟩:=YO.1 hc
      exact ht ⟨j,hj,e⟩)]
     exact g5 t (fun c hc e=>by
      obtain⟨j,hj,rfl⟩:=YO.1 hc
      exact ht ⟨j,hj,e⟩)
   .unfold Region.ready at hi;rw[Y6]at hi;obtain⟨oP,jD⟩:=hi;have fM:i<ops.size:=by simpa using oP
    simp only[Z6,YA,ZF fM,ZJ,Zm]at jD;obtain⟨gT,x4⟩:=jD;have bp:i<l.length:=by omega
    have nG:qY P N ops ops[i]=some l[i]:=by have:=x6 i (by simpa using fM) bp;simpa using this
    obtain⟨kK,az⟩:=zC nG
    let al:=Sx.eP l[i].reads RG
    have lQ:bS M2 al a:=by
     intro t;by_cases ht:t∈l[i].reads
     .rw[Em ht];rcases(fD i bp fM).2 t ht with hn|⟨j,hj,cM,jF,e,he,lS,IU⟩
      .rw[xR t hn];exact g5 t hn
      .rw[xK j hj t cM];refine g6 j hj t ?_ cM;have:=ZC.1 x4 e he;simp only[lS,Bool.not_true,Bool.false_or,IU]at this;rw[ZS]at this|-;rw[ZF (by omega)]at this|-;exact this
     .rw[Rg ht];exact .any _
    have hq:QV P cfg l[i] al X (xs[i]'(by omega)):=uO (fun t ht=>(Em ht).symm) (hQ i bp);unfold wpOp;simp only[ZF fM];refine vh (K:=fun y af=>y=xs[i]'(by omega)/\af=X) (E:=fun _ _=>False) nG hq g2 lQ ⟨?_,fun _ _ _ _ _ _ h=>h.elim⟩;rintro M3 x af v w' hM bg hx ⟨rfl,rfl⟩;refine ih _ _ _ (by simp[bl]) ?_ ⟨M3,g1.trans hM,bg,by rw[Act.size_put];exact g3,by rw[Act.zD];exact g4,fun t ht=>?_,fun j hj t j6 cM=>?_⟩
    .have:=filter_lt (fun i=>!listed.getD i true) (fun k=>!(listed.setIfInBounds i true).getD k true) (List.range ops.size) (fun k _ hk=>by
      simp only[YA]at hk|-;rw[ZS,Zj]at hk;split at hk
      .split at hk<;>simp at hk
      .rw[ZS];exact hk) ⟨i,oP,by simpa using gT,by
       simp only[Bool.not_eq_false'];rw[ZS,Zj]
       simp[bl,fM]⟩
     omega
    .have aW:ops[i].dst≠some t:=by rw[<-kK];exact ht _ (Zb bp)
     have:=(g5 t ht).mono hM;have e:(a.put ops[i].dst v).tmps.getD t undef=a.tmps.getD t undef:=by
      cases hd:ops[i].dst with
      |none=>rfl|some u=>have vW:u≠t:=fun e=>aW (by rw[hd,e]);simp[Act.put,YD vW]
     rw[e];exact this
    .by_cases gH:j=i
     .subst gH;have hd:ops[j].dst=some t:=by rw[<-kK];exact cM
      have JA:t<a.tmps.size:=by rw[g3];exact az t cM
      have e:(a.put ops[j].dst v).tmps.getD t undef=v:=by simp[hd,Act.put,JA]
      rw[e];exact hx
     .have DN:listed.getD j true=true:=by rw[ZS,Zj,Z9 (fun e=>gH e.symm)]at j6;rw[ZS];exact j6
      have:=(g6 j hj t DN cM).mono hM;have e:(a.put ops[i].dst v).tmps.getD t undef=a.tmps.getD t undef:=by
       cases hd:ops[i].dst with
       |none=>rfl|some u=>
        have vW:u≠t:=fun e=>by
         subst e;have h1:l[i].d=some u:=kK.trans hd;have oU:=Yo.1 BE;rcases XN i j with h|h|h
         .exact oU i j (by simpa using bp) (by simpa using hj) h (by simp[h1,cM])
         .exact gH h.symm
         .exact oU j i (by simpa using hj) (by simpa using bp) h (by simp[h1,cM])
        simp[Act.put,YD vW]
      rw[e];exact this
 refine main ops.size _ a _ (by simp) ?_ ⟨M,Mem.le.refl _,hI.ft,hN,hD,fun t _=>hR t,fun j hj t j6 _=>?_⟩
 .exact ZD (Yd _ _) (by simp)
 .exfalso;have vJ:j<ops.size:=by omega
  simp[vJ]at j6
 where
 Em {l:List Nat} {rg:ag} {t:Nat} (h:t∈l):lk (Sx.eP l rg) t=lk rg t:=by
  induction l with
  |nil=>cases h|cons u l ih=>
   simp only[Sx.eP,lk];cases hb:Nat.beq u t with
   |true=>rw[Z0 hb];rfl|false=>
    rcases ZR.1 h with rfl|h
    .simp[Yv]at hb
    .exact ih h
 Rg {l:List Nat} {rg:ag} {t:Nat} (h:t∉l):lk (Sx.eP l rg) t= .any:=by
  induction l with
  |nil=>rfl|cons u l ih=>
   simp only[Sx.eP,lk];cases hb:Nat.beq u t with
   |true=>exact absurd (ZR.2 (.inl (Z0 hb).symm)) h|false=>exact ih (fun hm=>h (ZN _ hm))
theorem Vq{l:List CI}{Q:Exit->ag->Store->Prop}(cfg:Nat->Nat)(h:pw P cfg l (fun al=>Q .normal al X) rg X):SW P N (.de l) Q rg X:=
 wZ cfg fun hc=>⟨Uo l rg rg (fun _=>rfl) h,Up l rg hc h⟩
