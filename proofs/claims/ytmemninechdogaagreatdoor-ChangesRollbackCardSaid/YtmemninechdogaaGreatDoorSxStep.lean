import Derived.Test.YtmemninechdogaaGreatDoorSxDraw
set_option linter.all false
namespace Go.Sx
open Go.RowKit
def fo{X:Type}(x:AV)(k:AV->Option X):Option X:=
 match x with
 |.v (.int q n)=>k (.v (.int q n))|.v (.bool b)=>k (.v (.bool b))|.v (.string s)=>k (.v (.string s))|.v y=>k (.v y)|.any=>k .any|.agg xs=>k (.agg xs)|.aG xs=>k (.aG xs)|.sl nn e rows=>k (.sl nn e rows)|.own e t b u c rows=>k (.own e t b u c rows)|.ms t b o n c=>k (.ms t b o n c)|.pc l=>k (.pc l)|.dD t x=>k (.dD t x)|.lp t b o=>k (.lp t b o)|.bJ t b=>k (.bJ t b)|.ai q=>k (.ai q)|.cl f a c=>k (.cl f a c)|.fl e rows=>k (.fl e rows)
theorem jb{X:Type}{x:AV}{k:AV->Option X}{r:X}(h:fo x k=some r):k x=some r:=by unfold fo at h;split at h<;>first|exact h|cases h
def kE{X:Type}:List AV->(List AV->Option X)->Option X
 |[],k=>k []|x::l,k=>fo x fun y=>kE l fun l'=>k (y::l')
theorem j3{X:Type}:∀{l:List AV} {k:List AV->Option X} {r:X},kE l k=some r->k l=some r
 |[],_,_,h=>h|x::l,k,r,h=>j3 (l:=l) (k:=fun l'=>k (x::l')) (jb (k:=fun y=>kE l fun l'=>k (y::l')) h)
def zT{X:Type}:List (List AV)->(List (List AV)->Option X)->Option X
 |[],k=>k []|x::l,k=>kE x fun y=>zT l fun l'=>k (y::l')
theorem vg{X:Type}:∀{l:List (List AV)} {k:List (List AV)->Option X} {r:X},zT l k=some r->k l=some r
 |[],_,_,h=>h|x::l,k,r,h=>vg (l:=l) (k:=fun l'=>k (x::l')) (j3 (k:=fun y=>zT l fun l'=>k (y::l')) h)
def uD:Store->Nat->Nat->aE->Option Store
 |[],_,_,_=>none|(i,b',x')::r,t,b,x=>bif Nat.beq i t then some ((t,b,x)::r)else match uD r t b x with
  |some r'=>some ((i,b',x')::r')|none=>none
theorem BO:∀{m:Store} {t b:Nat} {x:aE} {af:Store},uD m t b x=some af->du m t b x=af
 |[],_,_,_,_,h=>by cases h|(i,b',x')::r,t,b,x,af,h=>by
  simp only[uD]at h;simp only[du];cases hb:Nat.beq i t with
  |true=>grind|false=>
   rw[hb]at h;simp at h|-;split at h
   .rename_i r' hr;cases h;rw[BO hr]
   grind
def CA(op:BinOp):Value->Value->Option (Prop×Value)
 |.int k a,.int k' b=>
  match op with
  |.add=>bif k == k' then some (True,.int k (k.wrap (a+b)))else none|.sub=>bif k == k' then some (True,.int k (k.wrap (a-b)))else none|.mul=>bif k == k' then some (True,.int k (k.wrap (a*b)))else none|.quo=>bif k == k' then some (b≠0,.int k (k.wrap (a.tdiv b)))else none|.rem=>bif k == k' then some (b≠0,.int k (a.tmod b))else none|.eql=>bif k == k' then some (True,.bool (decide (a=b)))else none|.neq=>bif k == k' then some (True,.bool (!decide (a=b)))else none|.lss=>bif k == k' then some (True,.bool (decide (a<b)))else none|.leq=>bif k == k' then some (True,.bool (decide (a<=b)))else none|.gtr=>bif k == k' then some (True,.bool (decide (b<a)))else none|.geq=>bif k == k' then some (True,.bool (decide (b<=a)))else none|.and=>bif k == k' then some (True,.int k (bits .and k a b))else none|.or=>bif k == k' then some (True,.int k (bits .or k a b))else none|.xor=>bif k == k' then some (True,.int k (bits .xor k a b))else none|.andNot=>bif k == k' then some (True,.int k (bits .andNot k a b))else none|.shl=>some (0<=b/\b<=k.bits,.int k (k.wrap (a*2^b.toNat)))|.shr=>some (0<=b/\b<=k.bits,.int k (a / 2^b.toNat))
 |.string a,.string b=>
  match op with
  |.add=>some (a.size+b.size<=9223372036854775807,.string (a++b))|.eql=>some (True,.bool (decide (a=b)))|.neq=>some (True,.bool (!decide (a=b)))|.lss=>some (True,.bool (Op.bytesLess a.toList b.toList))|.leq=>some (True,.bool (Op.bytesLess a.toList b.toList||decide (a=b)))|.gtr=>some (True,.bool (!(Op.bytesLess a.toList b.toList||decide (a=b))))|.geq=>some (True,.bool (!Op.bytesLess a.toList b.toList))|_=>none
 |_,_=>none
def dk(cfg:Nat->Nat)(d:Option Nat)(rg:ag)(m:Store):aB->Option (Prop×AV×Store)
 |.mv x=>fo (ev rg x) fun v=>some (True,v,m)
 |.pick c a b=>match ev rg c with
  |.v (.bool true)=>fo (ev rg a) fun v=>some (True,v,m)
  |.v (.bool false)=>fo (ev rg b) fun v=>some (True,v,m)
  |_=>none
 |.build z parts=>match pU (z.map .v) (mG rg parts)with
  |some l=>kE l fun l=>some (True,.agg l,m)
  |none=>none
 | .TO _ ah parts=>match rowsOf ah (aL rg parts)with
  |some rows=>match cfg (d.getD 0)with
   |0=>zT rows fun rows=>some (rows.length<=1000000,.sl true ah rows,m)
   |3=>zT rows fun rows=>some (rows.length<=1000000,.fl ah rows,m)
   |_=>none
  |none=>none
 |.load agg n x=>match ev rg x with
  |.lp t b o=>match aV m t with
   |some (b',.cells l)=>match agg with
    |true=>bif Nat.ble (o+n) l.length then kE ((l.drop o).take n) (fun l2=>some (b=b',.agg l2,m))else none|false=>match l[o]? with
     |some y=>fo y fun v=>some (b=b',v,m)
     |none=>none
   |_=>none
  |.pc l=>match agg with
   |true=>bif Nat.ble n l.length then kE (l.take n) (fun l2=>some (True,.agg l2,m))else none|false=>match l[0]? with
    |some y=>fo y fun v=>some (True,v,m)
    |none=>none
  |_=>none
 |.store n x y=>match ev rg x,(ev rg y).cells? with
  |.lp t b o,some l'=>match aV m t with
   |some (b',.cells l)=>bif Nat.beq l'.length n&&l'.all AV.one&&Nat.ble (o+n) l.length then kE (over l o l') (fun l2=>match uD m t b (.cells l2)with
    |some af=>some (b=b',.v undef,af)|none=>none)else none
   |_=>none
  |_,_=>none
 |.ng x=>match ev rg x with
  |.lp t b o=>some (True,.lp t b o,m)|.pc l=>some (True,.pc l,m)|_=>none
 |.bin op x y=>match ev rg x,ev rg y with
  |.v a,.v b=>match CA op a b with
   |some (p,r)=>some (p,.v r,m)|none=>none
  |_,_=>none
 |.jt neg k x y=>match td k (ev rg x) (ev rg y)with
  |some b=>some (True,.v (.bool (b ^^ neg)),m)|none=>none
 |.eqs neg ks x y=>match(ev rg x).iZ,(ev rg y).iZ with
  |some xs,some ys=>match nz ks xs ys with
   |some b=>some (True,.v (.bool (b ^^ neg)),m)|none=>none
  |_,_=>none
 |.un op x=>match ev rg x with
  |.v a=>match FD op a with
   |some r=>some (True,.v r,m)|none=>none
  |_=>none
 |.mD k x=>match ev rg x with
  |.v (.int _ n)=>some (True,.v (.int k (k.wrap n)),m)|_=>none
 |.nw x=>match ev rg x with
  |.v (.string s)=>some (True,.v (.string s),m)|_=>none
 |.nR t x=>fo (ev rg x) fun v=>some (True,.dD t v,m)
 |.nQ fn first captured=>match bR (aL rg first),bR (aL rg captured)with
  |some a,some c=>some (True,.v (.func fn a.toArray c.toArray),m)|_,_=>match fn with
   |.func f=>some (True,.cl f (aL rg first) (aL rg captured),m)|_=>none
 |.slice ah x lo hi=>match iS (lo.map (ev rg)),iS (hi.map (ev rg))with
  |some lo,some hi=>match ev rg x with
   |.sl nn e rows=>some (e=ah/\0<=lo.getD 0/\lo.getD 0<=hi.getD rows.length/\hi.getD rows.length<=rows.length,.sl nn ah ((rows.take (hi.getD rows.length).toNat).drop (lo.getD 0).toNat),m)|_=>none
  |_,_=>none
 |.cG off x=>match ev rg x with
  |.lp t b o=>some (True,.lp t b (o+off),m)|.pc l=>some (True,.pc (l.drop off),m)|_=>none
 |.field agg off n x=>match(ev rg x).iZ with
  |some l=>bif Nat.ble (off+n) l.length then(match agg with
   |true=>kE ((l.drop off).take n) fun l2=>some (True,.agg l2,m)
   |false=>match l[off]? with
    |some y=>fo y fun v=>some (True,v,m)
    |none=>none)else none
  |none=>none
 |.fh ah x i=>match ev rg i with
  |.v (.int _ i)=>match ev rg x with
   |.sl _ e rows=>some (e=ah/\0<=i/\i<rows.length,.pc (rows.getD i.toNat []),m)|.own e _ _ _ _ rows=>some (e=ah/\0<=i/\i<rows.length,.pc (rows.getD i.toNat []),m)|.ms t b o n _=>some (0<=i/\i<n,.lp t b (o+i.toNat*ah),m)|_=>none
  |_=>none
 |.mV n ah x i=>match ev rg i with
  |.v (.int _ i)=>match ev rg x with
   |.lp t b o=>some (0<=i/\i<n,.lp t b (o+i.toNat*ah),m)|.pc l=>some (0<=i/\i<n,.pc (l.drop (i.toNat*ah)),m)|_=>none
  |_=>none
 |.extract x i=>match ev rg x with
  |.aG xs=>match xs[i]? with
   |some y=>fo y fun v=>some (True,v,m)
   |none=>none
  |_=>none
 |.len true x=>match ev rg x with
  |.v (.string s)=>some (True,.v (.int .i64 s.size),m)|_=>none
 |.len false x=>match ev rg x with
  |.v (.slice _ n _)=>some (True,.v (.int .i64 n),m)|.ms _ _ _ n _=>some (True,.v (.int .i64 n),m)|.sl _ _ rows=>some (True,.v (.int .i64 rows.length),m)|.own _ _ _ _ _ rows=>some (True,.v (.int .i64 rows.length),m)|_=>none
 |.max2 x y=>match ev rg x,ev rg y with
  |.v a,.v b=>match uc false a b with
   |some r=>some (True,.v r,m)|none=>none
  |_,_=>none
 |.min2 x y=>match ev rg x,ev rg y with
  |.v a,.v b=>match uc true a b with
   |some r=>some (True,.v r,m)|none=>none
  |_,_=>none
 |_=>none
theorem aax{op:BinOp}{a b:Value}{p:Prop}{r:Value}{K:Value->Prop}(h:CA op a b=some (p,r))(hp:p)(k:K r):mo op a b K:=by
 unfold CA at h;split at h
 .rename_i q x q' y;by_cases e:q=q'
  .subst e;cases op<;>simp only[beq_self_eq_true,Y8,ZV,YX]at h<;>obtain⟨rfl,rfl⟩:=h<;>simp only[mo];all_goals grind
  .have e':(q == q')=false:=by grind
   cases op<;>simp only[e',Yx,reduceCtorEq,ZV,YX]at h<;>simp only[mo]
   case shl=>grind
   grind
 .cases op<;>simp only[reduceCtorEq]at h<;>simp only[mo];all_goals(grind)
 grind
theorem tW{X:Type}{c:Bool}{o:Option X}{r:X}(h:(bif c then o else none)=some r):c=true/\o=some r:=by
 cases c with
 |true=>exact⟨rfl,h⟩|false=>cases h
theorem CT{P:Program}[Glob P]{cfg:Nat->Nat}{d:Option Nat}{rg:ag}{m af:Store}{op:aB}{p:Prop}{v:AV}{K:AV->Store->Prop}{E:List PanicEntry->Store->Prop}
  (h:dk cfg d rg m op=some (p,v,af)) (hp:p) (k:K v af):ak P cfg d rg m K E op:=by
 cases op with
 |mv x=>simp only[dk]at h;have:=jb h;cases this;exact k|pick c x y=>
  simp only[dk]at h;simp only[ak];split at h
  .rename_i e;rw[e];have:=jb h;grind
  .rename_i e;rw[e];have:=jb h;grind
  grind
 |box t x=>cases h|alloc t z=>cases h|append t n k z x y=>cases h|call f args=>cases h|fZ f args=>cases h|idxs x y=>cases h|cL op ty ti args=>cases h|exts op ty ti args=>cases h|panic x=>cases h|build z parts=>
  simp only[dk]at h;simp only[ak];split at h
  .rename_i l e;rw[e];have:=j3 h;grind
  grind
 |TO t ah parts=>
  simp only[dk]at h;simp only[ak];split at h
  .rename_i rows e;rw[e];split at h
   .rename_i e2;have:=vg h;cases this;exact⟨hp,by simp only[e2];exact k⟩
   .rename_i e2;have:=vg h;cases this;exact⟨hp,by simp only[e2];exact k⟩
   grind
  grind
 |load agg n x=>
  simp only[dk]at h;simp only[ak];split at h
  .rename_i t b o e;rw[e];split at h
   .rename_i b' l e2;simp only[e2];split at h
    .obtain⟨h1,h⟩:=tW h;have:=j3 h;cases this;exact⟨hp,by simp only[YK];exact⟨ZE h1,k⟩⟩
    .split at h
     .rename_i y e3;have:=jb h;cases this;exact⟨hp,by simp only[ZT,YU,e3];exact k⟩
     .cases h
   .cases h
  .rename_i l e;rw[e];split at h
   .obtain⟨h1,h⟩:=tW h;have:=j3 h;cases this;simp only[YK];exact⟨ZE h1,k⟩
   .split at h
    .rename_i y e3;have:=jb h;cases this;simp only[ZT,YU,e3];exact k
    .cases h
  .cases h
 |store n x y=>
  simp only[dk]at h;simp only[ak];split at h
  .rename_i t b o l' e1 e2;rw[e1,e2];split at h
   .rename_i b' l e3;simp only[e3];obtain⟨h1,h⟩:=tW h;simp only[Z6]at h1;replace h:=j3 h;split at h
    case h_2=>cases h
    rename_i aK e4;cases h;rw[<-BO e4]at k;exact⟨hp,Z0 h1.1.1,h1.1.2,ZE h1.2,k⟩
   .cases h
  .cases h
 |ng x=>
  simp only[dk]at h;simp only[ak];split at h
  .rename_i e;rw[e];cases h;exact k
  .rename_i e;rw[e];cases h;exact k
  .cases h
 |bin op x y=>
  simp only[dk]at h;simp only[ak];split at h
  .rename_i a b e1 e2;rw[e1,e2];split at h
   .rename_i p' r e3;cases h;exact aax e3 hp k
   .cases h
  .cases h
 |jt neg q x y=>
  simp only[dk]at h;simp only[ak];split at h
  .rename_i b e;rw[e];cases h;exact k
  .cases h
 |eqs neg ks x y=>
  simp only[dk]at h;simp only[ak];split at h
  .rename_i xs ys e1 e2;rw[e1,e2];split at h
   .rename_i b e;simp only[e];cases h;exact k
   .cases h
  .cases h
 |un op x=>
  simp only[dk]at h;simp only[ak];split at h
  .rename_i a e1;rw[e1];split at h
   .rename_i r e;simp only[e];cases h;exact k
   .cases h
  .cases h
 |mD q x=>
  simp only[dk]at h;simp only[ak];split at h
  .rename_i e;rw[e];cases h;exact k
  .cases h
 |nw x=>
  simp only[dk]at h;simp only[ak];split at h
  .rename_i e;rw[e];cases h;exact k
  .cases h
 |nR t x=>simp only[dk]at h;have:=jb h;cases this;exact k|nQ fn first captured=>
  simp only[dk]at h;simp only[ak];split at h
  .rename_i e1 e2;rw[e1,e2];cases h;exact k
  .split at h
   .cases h;first|(simp only[*];done)|(simp only[*];exact k)
   .cases h
 |slice ah x lo hi=>
  simp only[dk]at h;simp only[ak];split at h
  .rename_i cw DO e1 e2;rw[e1,e2];split at h
   .rename_i nn e rows e3;simp only[e3];cases h;exact⟨hp.1,hp.2.1,hp.2.2.1,hp.2.2.2,k⟩
   .cases h
  .cases h
 |cG off x=>
  simp only[dk]at h;simp only[ak];split at h
  .rename_i e;rw[e];cases h;exact k
  .rename_i e;rw[e];cases h;exact k
  .cases h
 |field agg off n x=>
  simp only[dk]at h;simp only[ak];split at h
  .rename_i l e;rw[e];obtain⟨h1,h⟩:=tW h;refine⟨ZE h1,?_⟩;split at h
   .have:=j3 h;cases this;exact k
   .split at h
    .rename_i y e3;have:=jb h;cases this;simp only[ZT,YU,e3];exact k
    .cases h
  .cases h
 |fh ah x i=>
  simp only[dk]at h;simp only[ak];split at h
  .rename_i q j e1;rw[e1];split at h
   .rename_i e;simp only[e];cases h;exact⟨hp.1,hp.2.1,hp.2.2,k⟩
   .rename_i e;simp only[e];cases h;exact⟨hp.1,hp.2.1,hp.2.2,k⟩
   .rename_i e;simp only[e];cases h;exact⟨hp.1,hp.2,k⟩
   .cases h
  .cases h
 |mV n ah x i=>
  simp only[dk]at h;simp only[ak];split at h
  .rename_i q j e1;rw[e1];split at h
   .rename_i e;simp only[e];cases h;exact⟨hp.1,hp.2,k⟩
   .rename_i e;simp only[e];cases h;exact⟨hp.1,hp.2,k⟩
   .cases h
  .cases h
 |extract x i=>
  simp only[dk]at h;simp only[ak];split at h
  .rename_i xs e1;rw[e1];split at h
   .rename_i y e;simp only[e];have:=jb h;cases this;exact k
   .cases h
  .cases h
 |len s x=>
  cases s with
  |true=>
   simp only[dk]at h;simp only[ak];split at h
   .rename_i e;rw[e];cases h;exact k
   .cases h
  |false=>
   simp only[dk]at h;simp only[ak];split at h
   .rename_i e;rw[e];cases h;exact k
   .rename_i e;rw[e];cases h;exact k
   .rename_i e;rw[e];cases h;exact fun _=>k
   .rename_i e;rw[e];cases h;exact fun _=>k
   .cases h
 |max2 x y=>
  simp only[dk]at h;simp only[ak];split at h
  .rename_i a b e1 e2;rw[e1,e2];split at h
   .rename_i r e;simp only[e];cases h;exact k
   .cases h
  .cases h
 |min2 x y=>
  simp only[dk]at h;simp only[ak];split at h
  .rename_i a b e1 e2;rw[e1,e2];split at h
   .rename_i r e;simp only[e];cases h;exact k
   .cases h
  .cases h
def cK(m af:Store):Prop:=(∀t,aV m t=aV af t)/\m.Perm af
theorem cK.refl(m:Store):cK m m:=⟨fun _=>rfl,.refl _⟩
theorem cK.symm{m af:Store}(h:cK m af):cK af m:=⟨fun t=>(h.1 t).symm,h.2.symm⟩
theorem cK.trans{a b c:Store}(h:cK a b)(k:cK b c):cK a c:=⟨fun t=>(h.1 t).trans (k.1 t),h.2.trans k.2⟩
theorem nO(t b:Nat)(x:aE)(m:Store)(s:Nat):aV ((t,b,x)::m) s=if t=s then some (b,x)else aV m s:=by simp only[aV];simp_all
theorem cK.cons{m af:Store}(e:Nat×Nat×aE)(h:cK m af):cK (e::m) (e::af):=by obtain⟨t,b,x⟩:=e;exact⟨fun s=>by rw[nO,nO,h.1 s],h.2.cons _⟩
theorem cK.swap{t t' b b':Nat}{x x':aE}(h:t≠t')(m:Store):cK ((t,b,x)::(t',b',x')::m) ((t',b',x')::(t,b,x)::m):=
 ⟨fun s=>by
  simp only[nO]
  grind,List.Perm.swap _ _ _⟩
theorem yj{t b:Nat}{x:aE}:∀{m:Store},aV m t=some (b,x)->∀b' x' s,aV (du m t b' x') s=if t=s then some (b',x')else aV m s
 |[],h,_,_,_=>by cases h|(i,c,y)::m,h,b',x',s=>by
  rw[nO]at h;simp only[du];cases hb:Nat.beq i t with
  |true=>obtain rfl:=Z0 hb;simp only[Y8,nO];grind
  |false=>
   have aW:i≠t:=fun e=>by simp_all
   rw[Z9 aW]at h;simp only[Yx,nO,yj h b' x' s];grind
theorem cK.du{m af:Store}(h:cK m af){t b:Nat}{x:aE}(hb:aV m t=some (b,x))(b':Nat)(x':aE):cK (Sx.du m t b' x') (Sx.du af t b' x'):=by have jA:aV af t=some (b,x):=(h.1 t).symm.trans hb;refine⟨fun s=>by rw[yj hb,yj jA,h.1 s],?_⟩;obtain⟨p,q,e,k⟩:=wO hb;obtain⟨p',q',e',k'⟩:=wO jA;rw[k,k'];have hp:=h.2;rw[e,e']at hp;have h1:((t,b,x)::(p++q)).Perm ((t,b,x)::(p'++q')):=(List.perm_middle.symm.trans hp).trans List.perm_middle;exact(List.perm_middle.trans ((h1.cons_inv).cons _)).trans List.perm_middle.symm
theorem Inv.perm{P:Program}[Glob P]{M:Mem}{w0:Base}{w:World}{m af:Store}(hI:Inv P M w0 m w)(h:m.Perm af):Inv P M w0 af w:=
 ⟨hI.os,hI.tape,hI.output,hI.size,hI.old,hI.bZ,fun e he=>hI.st e (h.mem_iff.2 he),((h.map _).nodup_iff).1 hI.nd,hI.gl,hI.gw,hI.bm⟩
theorem al7{P:Program}[Glob P]{cfg:Nat->Nat}{d:Option Nat}{rg:ag}{m:Store}{K:AV->Prop}{op:aB}(hl:op.cls=0)(h:aM P cfg d rg m K op):
  ∃x,K x/\∀(af:Store) (K':AV->Prop),K' x->aM P cfg d rg af K' op:=by
 cases op with
 |box t x=>exact h.elim|alloc t z=>exact h.elim|store n x y=>exact h.elim|append t n k z x y=>exact h.elim|exts op ty ti args=>exact h.elim|panic x=>exact h.elim|cL op ty ti args=>obtain⟨r,hp,hk⟩:=h;exact⟨r,hk,fun af K' h=>⟨r,hp,h⟩⟩
 |call f args=>obtain⟨r,hp,hk⟩:=h;exact⟨r,hk,fun af K' h=>⟨r,hp,h⟩⟩
 |fZ f args=>
  simp only[aM]at h;simp only[aM,ak];split at h
  .rename_i g b c he;obtain⟨bL,r,hp,hk⟩:=h
   (try rw[he])
   exact⟨r,hk,fun af K' h=>⟨bL,r,hp,h⟩⟩
  .rename_i g b c he;obtain⟨bL,r,hp,hk⟩:=h
   (try rw[he])
   exact⟨r,hk,fun af K' h=>⟨bL,r,hp,h⟩⟩
  grind
 |TO t ah parts=>
  simp only[aM]at h;simp only[aM,ak];split at h
  .rename_i rows he
   (try rw[he])
   obtain⟨hn,h⟩:=h;split at h
   .rename_i e;exact⟨_,h,fun af K' hk=>⟨hn,by first|exact hk|(rw[e];exact hk)|(simp[e];exact hk)⟩⟩
   .rename_i e;exact⟨_,h,fun af K' hk=>⟨hn,by first|exact hk|(rw[e];exact hk)|(simp[e];exact hk)⟩⟩
   .exact h.elim
  .exact h.elim
 |len s x=>
  cases s<;>simp only[aM]at h<;>simp only[aM]
  .split at h
   .rename_i b n c he;(try rw[he]);exact⟨_,h,fun af K' hk=>hk⟩
   .rename_i tg b o n c he;(try rw[he]);exact⟨_,h,fun af K' hk=>hk⟩
   .rename_i nn ez rows he;(try rw[he]);exact⟨_,h,fun af K' hk=>hk⟩
   .rename_i ez tg b u c rows he;(try rw[he]);exact⟨_,h,fun af K' hk=>hk⟩
   .exact h.elim
  .split at h
   .rename_i s he;(try rw[he]);exact⟨_,h,fun af K' hk=>hk⟩
   .exact h.elim
 |mv x=>exact⟨_,h,fun af K' hk=>hk⟩|nR t x=>exact⟨_,h,fun af K' hk=>hk⟩|pick c x y=>
  simp only[aM,ak]at h;simp only[aM,ak];split at h
  .rename_i t he;(try rw[he]);exact⟨_,h,fun af K' hk=>hk⟩
  .exact h.elim
 |build z parts=>
  simp only[aM,ak]at h;simp only[aM,ak];split at h
  .rename_i t he;(try rw[he]);exact⟨_,h,fun af K' hk=>hk⟩
  .exact h.elim
 |load g n x=>cases hl|ng x=>
  simp only[aM,ak]at h;simp only[aM,ak];split at h<;>first|exact h.elim|(rename_i he;(try rw[he]);exact⟨_,h,fun af K' hk=>hk⟩)
 |bin op x y=>
  simp only[aM,ak]at h;simp only[aM,ak];split at h
  .rename_i u v hu hv
   (try rw[hu,hv])
   obtain⟨z,hz,qk⟩:=Ui h;exact⟨.v z,hz,fun af K' hk=>qk _ hk⟩
  .exact h.elim
 |jt n k x y=>
  simp only[aM,ak]at h;simp only[aM,ak];split at h
  .rename_i t he;(try rw[he]);exact⟨_,h,fun af K' hk=>hk⟩
  .exact h.elim
 |eqs n k x y=>
  simp only[aM,ak]at h;simp only[aM,ak];split at h
  .rename_i xs ys h1 h2
   (try rw[h1,h2])
   split at h
   .rename_i t he;(try simp only[he]);exact⟨_,h,fun af K' hk=>hk⟩
   .exact h.elim
  .exact h.elim
 |un op x=>
  simp only[aM,ak]at h;simp only[aM,ak];split at h
  .rename_i u hu
   (try rw[hu])
   split at h
   .rename_i t he;(try simp only[he]);exact⟨_,h,fun af K' hk=>hk⟩
   .exact h.elim
  .exact h.elim
 |mD k x=>
  simp only[aM,ak]at h;simp only[aM,ak];split at h
  .rename_i k' n he;(try rw[he]);exact⟨_,h,fun af K' hk=>hk⟩
  .exact h.elim
 |nw x=>
  simp only[aM,ak]at h;simp only[aM,ak];split at h
  .rename_i s he;(try rw[he]);exact⟨_,h,fun af K' hk=>hk⟩
  .exact h.elim
 |nQ fn first captured=>
  simp only[aM,ak]at h;simp only[aM,ak];split at h
  .rename_i u v h1 h2;(try rw[h1,h2]);exact⟨_,h,fun af K' hk=>hk⟩
  .split at h
   .exact⟨_,h,fun af K' hk=>hk⟩
   .exact h.elim
 |slice ah x lo hi=>
  simp only[aM,ak]at h;simp only[aM,ak];split at h
  .rename_i cw DO h1 h2
   (try rw[h1,h2])
   split at h
   .rename_i nn e rows he;(try simp only[he]);exact⟨_,h.2.2.2.2,fun af K' hk=>⟨h.1,h.2.1,h.2.2.1,h.2.2.2.1,hk⟩⟩
   .rename_i e tg b u c rows he;(try simp only[he]);exact⟨_,h.2.2.2.2,fun af K' hk=>⟨h.1,h.2.1,h.2.2.1,h.2.2.2.1,hk⟩⟩
   .rename_i he;(try simp only[he]);exact⟨_,h.2.2,fun af K' hk=>⟨h.1,h.2.1,hk⟩⟩
   .exact h.elim
  .exact h.elim
 |cG off x=>simp only[aM,ak]at h;simp only[aM,ak];split at h<;>first|exact h.elim|(rename_i he;(try rw[he]);exact⟨_,h,fun af K' hk=>hk⟩)
 |field g o n x=>
  simp only[aM,ak]at h;simp only[aM,ak];split at h
  .rename_i l hl
   (try rw[hl])
   obtain⟨az,h⟩:=h;cases g with
   |true=>simp only[YK]at h|-;exact⟨_,h,fun af K' hk=>⟨az,hk⟩⟩|false=>
    simp only[ZT,YU]at h|-;split at h
    .rename_i y hy;(try rw[hy]);exact⟨_,h,fun af K' hk=>⟨az,hk⟩⟩
    .exact h.elim
  .exact h.elim
 |fh ah x i=>
  simp only[aM,ak]at h;simp only[aM,ak];split at h
  .rename_i k j hi
   (try rw[hi])
   split at h
   .rename_i nn e rows he;(try simp only[he]);exact⟨_,h.2.2.2,fun af K' hk=>⟨h.1,h.2.1,h.2.2.1,hk⟩⟩
   .rename_i e tg b u c rows he;(try simp only[he]);exact⟨_,h.2.2.2,fun af K' hk=>⟨h.1,h.2.1,h.2.2.1,hk⟩⟩
   .rename_i tg b o n c he;(try simp only[he]);exact⟨_,h.2.2,fun af K' hk=>⟨h.1,h.2.1,hk⟩⟩
   .exact h.elim
  .exact h.elim
 |mV n ah x i=>
  simp only[aM,ak]at h;simp only[aM,ak];split at h
  .rename_i k j hi
   (try rw[hi])
   split at h
   .rename_i tg b o he;(try simp only[he]);exact⟨_,h.2.2,fun af K' hk=>⟨h.1,h.2.1,hk⟩⟩
   .rename_i l he;(try simp only[he]);exact⟨_,h.2.2,fun af K' hk=>⟨h.1,h.2.1,hk⟩⟩
   .rename_i g o he;(try simp only[he]);obtain⟨l,ha,h0,h1,h2,h3⟩:=h;exact⟨_,h3,fun af K' hk=>⟨l,ha,h0,h1,h2,hk⟩⟩
   .exact h.elim
  .exact h.elim
 |idxs x i=>
  simp only[aM,ak]at h;simp only[aM,ak];split at h
  .rename_i k j s h1 h2
   (try rw[h1,h2])
   obtain⟨az,h⟩:=h;exact⟨_,h,fun af K' hk=>⟨az,hk⟩⟩
  .exact h.elim
 |extract x i=>
  simp only[aM,ak]at h;simp only[aM,ak];split at h
  .rename_i xs he
   (try rw[he])
   split at h
   .rename_i y hy;(try simp only[hy]);exact⟨_,h,fun af K' hk=>hk⟩
   .exact h.elim
  .rename_i xs he
   (try rw[he])
   split at h
   .rename_i y hy;(try simp only[hy]);exact⟨_,h,fun af K' hk=>hk⟩
   .exact h.elim
  .exact h.elim
 |max2 x y=>
  simp only[aM,ak]at h;simp only[aM,ak];split at h
  .rename_i u v h1 h2
   (try rw[h1,h2])
   split at h
   .rename_i t he;(try simp only[he]);exact⟨_,h,fun af K' hk=>hk⟩
   .exact h.elim
  .exact h.elim
 |min2 x y=>
  simp only[aM,ak]at h;simp only[aM,ak];split at h
  .rename_i u v h1 h2
   (try rw[h1,h2])
   split at h
   .rename_i t he;(try simp only[he]);exact⟨_,h,fun af K' hk=>hk⟩
   .exact h.elim
  .exact h.elim
