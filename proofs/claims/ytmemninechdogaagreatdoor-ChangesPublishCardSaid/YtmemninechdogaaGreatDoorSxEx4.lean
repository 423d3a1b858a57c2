import Derived.Test.YtmemninechdogaaGreatDoorSxEx
set_option linter.all false
namespace Go.Sx
open Go.RowKit
abbrev BM:=Nat->Nat×Nat×Nat
mutual
def au(B:BM):AV->AV
 |.agg xs=>.agg (aI B xs)|.aG xs=>.aG (aI B xs)|.pc xs=>.pc (aI B xs)|.sl nn e rows=>.sl nn e (dF B rows)|.fl e rows=>.fl e (dF B rows)|.own e t b u c rows=>.own e t (B b).1 (B b).2.1 (B b).2.2 (dF B rows)|.ms t b o n c=>.ms t (B b).1 o n c|.lp t b o=>.lp t (B b).1 o|.bJ t b=>.bJ t (B b).1|.dD t x=>.dD t (au B x)|.cl g a c=>match bR (aI B a),bR (aI B c)with
  |some a',some c'=>.v (.func (.func g) a'.toArray c'.toArray)|_,_=>.cl g (aI B a) (aI B c)
 |.v x=>.v x|.any=>.any|.ai k=>.ai k
def aI(B:BM):List AV->List AV
 |[]=>[]
 |x::l=>au B x::aI B l
def dF(B:BM):List (List AV)->List (List AV)
 |[]=>[]
 |r::l=>aI B r::dF B l
end
def fE(B:BM)(b:Nat):aE->aE
 |.cells l=>.cells (aI B l)|.tail _ _=>.tail (B b).2.1 (B b).2.2|.map es k=>.map (es.map fun e=>(e.1,e.2.1,au B e.2.2)) k
def aS(B:BM):Store->Store
 |[]=>[]
 |(t,b,x)::l=>(t,(B b).1,fE B b x)::aS B l
def bP(B:BM):ag->ag
 |[]=>[]
 |(i,x)::l=>(i,au B x)::bP B l
section
variable {B:BM}
theorem jk(g:FuncId)(a c:List AV):(∃a' c',bR (aI B a)=some a'/\bR (aI B c)=some c'/\au B (.cl g a c)= .v (.func (.func g) a'.toArray c'.toArray))\/
  ((∀a' c',bR (aI B a)=some a'->bR (aI B c)=some c'->False)/\au B (.cl g a c)= .cl g (aI B a) (aI B c)):=by
 simp only[au];split
 .rename_i a' c' h1 h2;exact .inl ⟨a',c',h1,h2,rfl⟩
 .rename_i h;exact .inr ⟨fun a' c' h1 h2=>h a' c' h1 h2,rfl⟩
theorem qv:∀(l:List AV),aI B l=l.map (au B)
 |[]=>rfl|x::l=>by simp[aI,qv l]
theorem rU:∀(l:List (List AV)),dF B l=l.map (List.map (au B))
 |[]=>rfl|x::l=>by simp[dF,rU l,qv x]
theorem yA:∀(l:List Value),aI B (l.map .v)=l.map .v
 |[]=>rfl|x::l=>by simp[aI,au,yA l]
theorem pk(l:List AV):(aI B l).length=l.length:=by simp[qv]
theorem qw(l:List (List AV)):(dF B l).length=l.length:=by simp[rU]
theorem ER(l:List AV)(n:Nat):aI B (l.take n)=(aI B l).take n:=by simp[qv,XJ]
theorem wB(l:List AV)(n:Nat):aI B (l.drop n)=(aI B l).drop n:=by simp[qv,Xn]
theorem S0(l:List (List AV))(n:Nat):dF B (l.take n)=(dF B l).take n:=by simp[rU,XJ]
theorem SY(l:List (List AV))(n:Nat):dF B (l.drop n)=(dF B l).drop n:=by simp[rU,Xn]
theorem jM(a b:List AV):aI B (a++b)=aI B a++aI B b:=by simp[qv]
theorem SX(a b:List (List AV)):dF B (a++b)=dF B a++dF B b:=by simp[rU]
theorem EP(l:List AV)(i:Nat):(aI B l)[i]? =(l[i]?).map (au B):=by simp[qv]
theorem SZ(l:List (List AV))(i:Nat):(dF B l).getD i []=aI B (l.getD i []):=by simp only[rU,Z1,X6];cases l[i]? <;>simp[aI,qv]
theorem SV(l:List AV)(o:Nat)(l':List AV):aI B (over l o l')=over (aI B l) o (aI B l'):=by simp only[over,jM,ER,wB,pk]
theorem aja(l:List (List AV)):aI B l.flatten=(dF B l).flatten:=by simp[qv,rU,List.map_flatten]
theorem mZ:∀(rg:ag) (i:Nat),lk (bP B rg) i=au B (lk rg i)
 |[],_=>rfl|(j,x)::r,i=>by
  simp only[bP,lk];cases Nat.beq j i
  .exact mZ r i
  .rfl
theorem dx(rg:ag)(x:Operand):ev (bP B rg) x=au B (ev rg x):=by
 cases x with
 |tmp t=>exact mZ rg t|_=>rfl
theorem lK(rg:ag):∀(l:List Operand),aL (bP B rg) l=aI B (aL rg l)
 |[]=>rfl|x::l=>by simp only[aL,aI,dx,lK rg l]
theorem anr(d:Option Nat)(x:AV)(rg:ag):bP B (bB d x rg)=bB d (au B x) (bP B rg):=by cases d<;>rfl
theorem CJ(x:AV):(au B x).cells? =(x.cells?).map (aI B):=by
 cases x with
 |v x=>cases x<;>simp[au,AV.cells?,aI,yA]|cl g a c=>rcases jk (B:=B) g a c with⟨a',c',_,_,e⟩|⟨_,e⟩<;>simp only[AV.cells?,ZJ,aI]<;>rw[e]
 |_=>simp[au,AV.cells?,aI]
theorem Mt(x:AV):(au B x).iZ =(x.iZ).map (aI B):=by
 cases x with
 |v x=>cases x<;>simp[au,AV.iZ,yA]|cl g a c=>rcases jk (B:=B) g a c with⟨a',c',_,_,e⟩|⟨_,e⟩<;>rw[e]<;>rfl
 |_=>simp[au,AV.iZ]
theorem N6(rg:ag):∀(ps:List (Nat×Nat×Operand)) (c l:List AV),pU c (mG rg ps)=some l->pU (aI B c) (mG (bP B rg) ps)=some (aI B l)
 |[],c,l,h=>by cases h;rfl|(o,n,x)::ps,c,l,h=>by
  simp only[mG,pU]at h|-;rw[dx,CJ];cases hx:(ev rg x).cells? with
  |none=>rw[hx]at h;cases h|some m=>
   rw[hx]at h;simp only[ZJ]at h|-;split at h
   .rename_i hc;rw[pk,pk,Z3 hc,<-SV];exact N6 rg ps _ _ h
   .cases h
theorem S5(e:Nat):∀(l:List AV) (r:List (List AV)),rowsOf e l=some r->rowsOf e (aI B l)=some (dF B r)
 |[],r,h=>by cases h;rfl|x::l,r,h=>by
  simp only[rowsOf,aI]at h|-;rw[CJ];cases hx:x.cells? with
  |none=>rw[hx]at h;cases h|some m=>
   rw[hx]at h;simp only[ZJ]at h|-;split at h
   .rename_i hc;rw[pk,Z3 hc];obtain⟨r',h1,rfl⟩:=Z8.1 h;rw[S5 e l r' h1];rfl
   .cases h
theorem Hj:∀{l:List AV} {m:List Value},iq l=some m->bR (aI B l)=some m
 |[],_,h=>h|.v x::l,m,h=>by simp only[iq,Z8]at h;obtain⟨m',h1,rfl⟩:=h;simp only[aI,au,bR,Hj h1,ZJ]
theorem amF(e:Nat)(x:AV):qH e (au B x)=(qH e x).map (dF B):=by
 cases x with
 |v x=>
  simp only[au];unfold qH;split<;>try rfl
  .rename_i h;cases h
  .rename_i h;cases h
  .rename_i s h;cases Nat.beq e 1<;>simp[rU,dB,au]
 |sl nn e' rows=>simp only[au,qH];cases Nat.beq e' e<;>rfl|own e' t b u c rows=>simp only[au,qH];cases Nat.beq e' e<;>rfl|cl g a c=>rcases jk (B:=B) g a c with⟨a',c',_,_,e⟩|⟨_,e⟩<;>rw[e]<;>rfl
 |_=>rfl
theorem R7(x:AV):(au B x).one=x.one:=by
 cases x with
 |cl g a c=>rcases jk (B:=B) g a c with⟨a',c',_,_,e⟩|⟨_,e⟩<;>rw[e]<;>rfl
 |_=>rfl
theorem aij(l:List AV):(aI B l).all AV.one=l.all AV.one:=by simp[qv,List.all_map,Function.comp_def,R7]
theorem aik(l:List (List AV)):(dF B l).all (fun r=>r.all AV.one)=l.all (fun r=>r.all AV.one):=by simp[rU,List.all_map,Function.comp_def,R7]
theorem ab8(k:wV)(x y:AV)(b:Bool)(h:td k x y=some b):td k (au B x) (au B y)=some b:=by unfold td at h;split at h<;>first|(cases h;done)|(cases h;rfl)
theorem ahs(k:sO)(x y:AV)(b:Bool)(h:o7 k x y=some b):o7 k (au B x) (au B y)=some b:=by unfold o7 at h;split at h<;>first|(cases h;done)|exact h
theorem Nz:∀(ks:List sO) (x y:List AV) (b:Bool),nz ks x y=some b->nz ks (aI B x) (aI B y)=some b
 |[],[],[],b,h=>h|k::ks,x::xs,y::ys,b,h=>by
  simp only[nz,aI]at h|-;cases hx:o7 k x y with
  |none=>rw[hx]at h;cases h|some c=>
   rw[hx]at h;rw[ahs _ _ _ _ hx];obtain⟨d,h1,rfl⟩:=Z8.1 h;simp only[Nz ks xs ys d h1,ZJ]
 |[],[],_::_,_,h=>by cases h|[],_::_,_,_,h=>by cases h|_::_,[],_,_,h=>by cases h|_::_,_::_,[],_,h=>by cases h
theorem P1(x:Option AV):iS (x.map (au B))=iS x:=by
 cases x with
 |none=>rfl|some x=>cases x with
  |cl g a c=>simp only[ZJ];rcases jk (B:=B) g a c with⟨a',c',_,_,e⟩|⟨_,e⟩<;>rw[e]<;>rfl
  |_=>rfl
theorem wm{S:Store}:∀(q:Store) (t b:Nat) (x:aE),aV q t=some (b,x)->aV (aS B q++S) t=some ((B b).1,fE B b x)
 |[],_,_,_,h=>by cases h|(i,b',y)::q,t,b,x,h=>by
  simp only[aV,aS,ZB]at h|-;cases hb:Nat.beq i t with
  |true=>rw[hb]at h;cases h;rfl|false=>rw[hb]at h;exact wm q t b x h
theorem BP{S:Store}:∀(q:Store) (t b:Nat) (x:aE) (b':Nat) (x':aE),aV q t=some (b',x')->du (aS B q++S) t (B b).1 (fE B b x)=aS B (du q t b x)++S
 |[],_,_,_,_,_,h=>by cases h|(i,c,y)::q,t,b,x,b',x',h=>by
  simp only[aV,aS,du,ZB]at h|-;cases hb:Nat.beq i t with
  |true=>rfl|false=>rw[hb]at h;simp only[Yx,aS,ZB,BP q t b x b' x' h]
mutual
theorem LD:∀{x y:AV},bM x=some y->bM (au B x)=some y
 |.v _,_,h=>h|.any,_,h|.ms ..,_,h|.lp ..,_,h|.bJ ..,_,h|.ai _,_,h|.cl ..,_,h=>by simp[bM]at h|.fl e rows,y,h=>by simp only[bM,Z8]at h;obtain⟨l,h1,rfl⟩:=h;simp only[au,bM,FQ h1,ZJ]
 |.agg xs,y,h=>by simp only[bM,Z8]at h;obtain⟨l,h1,rfl⟩:=h;simp only[au,bM,uH h1,ZJ]
 |.aG xs,y,h=>by simp only[bM,Z8]at h;obtain⟨l,h1,rfl⟩:=h;simp only[au,bM,uH h1,ZJ]
 |.pc xs,y,h=>by simp only[bM,Z8]at h;obtain⟨l,h1,rfl⟩:=h;simp only[au,bM,uH h1,ZJ]
 |.sl nn e rows,y,h=>by simp only[bM,Z8]at h;obtain⟨l,h1,rfl⟩:=h;simp only[au,bM,FQ h1,ZJ]
 |.own e _ _ _ _ rows,y,h=>by simp only[bM,Z8]at h;obtain⟨l,h1,rfl⟩:=h;simp only[au,bM,FQ h1,ZJ]
 |.dD t x,y,h=>by simp only[bM,Z8]at h;obtain⟨l,h1,rfl⟩:=h;simp only[au,bM,LD h1,ZJ]
theorem uH:∀{l m:List AV},fe l=some m->fe (aI B l)=some m
 |[],_,h=>h|x::l,m,h=>by
  simp only[fe]at h;cases hx:bM x with
  |none=>rw[hx]at h;cases h|some y=>cases hl:fe l with
   |none=>rw[hx,hl]at h;cases h|some m'=>rw[hx,hl]at h;cases h;simp only[aI,fe,LD hx,uH hl]
theorem FQ:∀{l m:List (List AV)},ig l=some m->ig (dF B l)=some m
 |[],_,h=>h|x::l,m,h=>by
  simp only[ig]at h;cases hx:fe x with
  |none=>rw[hx]at h;cases h|some y=>cases hl:ig l with
   |none=>rw[hx,hl]at h;cases h|some m'=>rw[hx,hl]at h;cases h;simp only[dF,ig,uH hx,FQ hl]
end
end
section
variable {B:BM}
mutual
theorem BS:∀{x y:AV},bM x=some y->au B y=y
 |.v x,y,h=>by simp only[bM,ZV]at h;subst h;rfl|.agg xs,y,h=>by simp only[bM,Z8]at h;obtain⟨l,h1,rfl⟩:=h;simp only[au,uG h1]
 |.aG xs,y,h=>by simp only[bM,Z8]at h;obtain⟨l,h1,rfl⟩:=h;simp only[au,uG h1]
 |.pc xs,y,h=>by simp only[bM,Z8]at h;obtain⟨l,h1,rfl⟩:=h;simp only[au,uG h1]
 |.sl nn e rows,y,h=>by simp only[bM,Z8]at h;obtain⟨l,h1,rfl⟩:=h;simp only[au,FP h1]
 |.own e _ _ _ _ rows,y,h=>by simp only[bM,Z8]at h;obtain⟨l,h1,rfl⟩:=h;simp only[au,FP h1]
 |.dD t x,y,h=>by simp only[bM,Z8]at h;obtain⟨l,h1,rfl⟩:=h;simp only[au,BS h1]
 |.cl ..,_,h=>by simp[bM]at h|.any,_,h=>by simp[bM]at h|.ms ..,_,h=>by simp[bM]at h|.lp ..,_,h=>by simp[bM]at h|.bJ ..,_,h=>by simp[bM]at h|.ai _,_,h=>by simp[bM]at h|.fl e rows,y,h=>by simp only[bM,Z8]at h;obtain⟨l,h1,rfl⟩:=h;simp only[au,FP h1]
theorem uG:∀{l m:List AV},fe l=some m->aI B m=m
 |[],m,h=>by simp only[fe,ZV]at h;subst h;rfl|x::l,m,h=>by
  simp only[fe]at h;cases hx:bM x with
  |none=>rw[hx]at h;cases h|some y=>cases hl:fe l with
   |none=>rw[hx,hl]at h;cases h|some m'=>rw[hx,hl]at h;cases h;simp only[aI,BS hx,uG hl]
theorem FP:∀{l m:List (List AV)},ig l=some m->dF B m=m
 |[],m,h=>by simp only[ig,ZV]at h;subst h;rfl|x::l,m,h=>by
  simp only[ig]at h;cases hx:fe x with
  |none=>rw[hx]at h;cases h|some y=>cases hl:ig l with
   |none=>rw[hx,hl]at h;cases h|some m'=>rw[hx,hl]at h;cases h;simp only[dF,uG hx,FP hl]
end
theorem GU{agg:Bool}{o m:Nat}{l:List AV}{y:AV}(h:pP agg o m l=some y):pP agg o m (aI B l)=some (au B y):=by
 cases agg with
 |true=>obtain⟨h1,rfl⟩:=GV h;unfold pP;rw[pk,Xa h1];simp only[Y8,au,ER,wB]
 |false=>have h:=GR h;show(aI B l)[o]? =_;rw[EP,h];rfl
end
section
variable {P:Program}[Glob P]{T:XT}{cfg:Nat->Nat}{d n u0 c0:Nat}{rg:ag}{q S:Store}{B:BM}{x:AV}{af:Store}{f:Bool}
theorem FZ(hT:T.OK P){op:aB}(h:xO T cfg false d n u0 c0 rg q op=some (x,af,f)):
  xO T cfg true d (B n).1 (B n).2.1 (B n).2.2 (bP B rg) (aS B q++S) op=some (au B x,aS B af++S,f):=by
 cases op with
 |mv x=>cases h;simp only[xO,dx]|pick c a b=>
  simp only[xO,dx]at h|-;split at h
  .rename_i t ht;rw[ht];cases h;cases t<;>rfl
  .cases h
 |box t x=>
  simp only[xO,dx,CJ]at h|-;split at h
  .rename_i l hl;rw[hl];cases h;rfl
  .cases h
 |alloc t z=>cases h;simp only[xO,aS,au,fE,yA];rfl|build z parts=>
  simp only[xO]at h|-;split at h
  .rename_i l hl;cases h;have:=N6 (B:=B) rg parts _ _ hl;rw[yA]at this;rw[this];rfl
  .cases h
 |fz t e parts=>
  simp only[xO,lK]at h|-;split at h
  .rename_i rows hr;rw[S5 _ _ _ hr];obtain⟨hb,h⟩:=eW h;simp only[qw,hb,Y8];split at h
   .cases h;rfl
   .obtain⟨h0,h⟩:=fY h;cases h;simp only[h0,Y8];rfl
   .cases h;rfl
   .cases h;simp only[au,aS,fE,aja,ZB]
  .cases h
 |load agg m x=>
  simp only[xO,dx]at h|-;split at h
  .rename_i t b o hx;rw[hx];simp only[au];split at h
   .rename_i b' l hl;rw[wm _ _ _ _ hl];obtain⟨hb,h⟩:=eW h;obtain⟨y,h3,h4⟩:=Z8.1 h;cases h4;rw[Z0 hb];simp only[fE,Yv,Y8,GU h3,ZJ]
   .cases h
  .rename_i l hx;rw[hx];obtain⟨y,h3,h4⟩:=Z8.1 h;cases h4;simp only[au,GU h3,ZJ]
  .rename_i g hx;rw[hx];simp only[au];split at h
   .rename_i l hl;obtain⟨y,h3,h4⟩:=Z8.1 h;cases h4;have h5:=GU (B:=B) h3;rw[uG (hT.Ic _ _ hl)]at h5;simp only[hl,h5,ZJ]
   .cases h
  .cases h
 |store m x y=>
  simp only[xO,dx,CJ]at h|-;split at h
  .rename_i t b o l' hx fw;rw[hx,fw];simp only[au,ZJ];split at h
   .rename_i b' l hl;rw[wm _ _ _ _ hl];obtain⟨hb,h⟩:=fY h;cases h;simp only[Z6]at hb;obtain⟨⟨⟨h3,h4⟩,h5⟩,h6⟩:=hb;have e:=Z0 h3;subst e;simp only[fE,Yv,pk,aij,h4,h5,h6,Bool.and_self,Y8,<-SV];have:=BP (B:=B) (S:=S) q t b (.cells (over l o l')) b (.cells l) hl;rw[<-this];rfl
   .cases h
  .cases h
 |ng x=>
  simp only[xO,dx]at h|-;split at h
  .rename_i hx;rw[hx];cases h;rfl
  .rename_i hx;rw[hx];cases h;rfl
  .rename_i hx;rw[hx];cases h;rfl
  .rename_i hx;rw[hx];cases h;rfl
  .rename_i f a c hx;rw[hx];cases h;rcases jk (B:=B) f a c with⟨a',c',_,_,e⟩|⟨_,e⟩<;>rw[e]
  .cases h
 |bin op x y=>
  simp only[xO,dx]at h|-;split at h
  .rename_i a b ha hb;rw[ha,hb];simp only[au];split at h
   .rename_i r hr;rw[mI]at h;cases h;simp only[hr,mI,au]
   .cases h
  .cases h
 |jt neg k x y=>
  simp only[xO,dx]at h|-;split at h
  .rename_i b hb;rw[tj]at h;cases h;rw[ab8 _ _ _ _ hb];simp only[tj,au]
  .cases h
 |eqs neg ks x y=>
  simp only[xO,dx,Mt]at h|-;split at h
  .rename_i xs ys hx hy;rw[hx,hy];simp only[ZJ];split at h
   .rename_i b hb;rw[tj]at h;cases h;rw[Nz _ _ _ _ hb];simp only[tj,au]
   .cases h
  .cases h
 |un op x=>
  simp only[xO,dx]at h|-;split at h
  .rename_i a ha;rw[ha];simp only[au];split at h
   .rename_i r hr;rw[mI]at h;cases h;simp only[hr,mI,au]
   .cases h
  .cases h
 |mD k x=>
  simp only[xO,dx]at h|-;split at h
  .rename_i hx;rw[hx];rw[zK]at h;cases h;simp only[au,zK]
  .cases h
 |nw x=>
  simp only[xO,dx]at h|-;split at h
  .rename_i hx;rw[hx];cases h;rfl
  .cases h
 |nR t x=>cases h;simp only[xO,dx,au]|nQ fn first captured=>
  simp only[xO,lK]at h|-;split at h
  .rename_i a c ha hc;cases h;simp only[Hj ha,Hj hc,au]
  .split at h
   .rename_i f;cases h;rcases jk (B:=B) f (aL rg first) (aL rg captured)with⟨a',c',e1,e2,e⟩|⟨hn,e⟩<;>rw[e]
    .simp only[e1,e2]
    .split
     .exact absurd ‹bR (aI B (aL rg captured))=_› (fun k=>hn _ _ ‹bR (aI B (aL rg first))=_› k)
     .rfl
   .cases h
 |slice e x lo hi=>
  have e1:iS (lo.map (ev (bP B rg)))=iS (lo.map (ev rg)):=by cases lo<;>simp only[Option.map_none,ZJ,dx];exact P1 (some _)
  have e2:iS (hi.map (ev (bP B rg)))=iS (hi.map (ev rg)):=by cases hi<;>simp only[Option.map_none,ZJ,dx];exact P1 (some _)
  simp only[xO,e1,e2,dx]at h|-;split at h
  .rename_i J2 cJ _ _;split at h
   .rename_i hx;rw[hx];obtain⟨hb,h⟩:=fY h;cases h;simp only[au,qw,hb,Y8,S0,SY]
   .rename_i hx;rw[hx];obtain⟨hb,h⟩:=fY h;cases h;simp only[au,qw,hb,Y8];cases cJ.isNone<;>simp[au,S0,SY]
   .rename_i hx;rw[hx];obtain⟨hb,h⟩:=fY h;cases h;simp only[au,hb,Y8]
   .cases h
  .cases h
 |cG off x=>
  simp only[xO,dx]at h|-;split at h
  .rename_i hx;rw[hx];cases h;rfl
  .rename_i hx;rw[hx];cases h;simp only[au,wB]
  .cases h
 |field agg off m x=>
  simp only[xO,dx,Mt]at h|-;split at h
  .rename_i l hx;rw[hx];obtain⟨hb,h⟩:=eW h;simp only[ZJ,pk,hb,Y8];cases agg with
   |true=>cases h;simp only[Y8,au,ER,wB]|false=>
    simp only[Yx]at h|-;split at h
    .rename_i y hy;cases h;rw[EP,hy];rfl
    .cases h
  .cases h
 |fh e x i=>
  simp only[xO,dx]at h|-;split at h
  .rename_i hi;rw[hi];simp only[au];split at h
   .rename_i hx;rw[hx];obtain⟨hb,h⟩:=fY h;cases h;simp only[au,qw,hb,Y8,SZ]
   .rename_i hx;rw[hx];obtain⟨hb,h⟩:=fY h;cases h;simp only[au,qw,hb,Y8,SZ]
   .rename_i hx;rw[hx];obtain⟨hb,h⟩:=eW h;rw[gC]at h;cases h;simp only[au,hb,Y8,gC]
   .cases h
  .cases h
 |mV k e x i=>
  simp only[xO,dx]at h|-;split at h
  .rename_i hi;rw[hi];simp only[au];split at h
   .rename_i hx;rw[hx];obtain⟨hb,h⟩:=eW h;rw[gC]at h;cases h;simp only[au,hb,Y8,gC]
   .rename_i hx;rw[hx];obtain⟨hb,h⟩:=fY h;cases h;simp only[au,hb,Y8,wB]
   .rename_i hx;rw[hx];simp only[au];split at h
    .rename_i l hl;obtain⟨hb,h⟩:=fY h;cases h;simp only[hl,hb,Y8,au,wB,uG (hT.Ic _ _ hl)]
    .cases h
   .cases h
  .cases h
 |idxs x i=>
  simp only[xO,dx]at h|-;split at h
  .rename_i hi hx;rw[hi,hx];simp only[au];obtain⟨hb,h⟩:=eW h;split at h
   .rename_i c hc;rw[gC]at h;cases h;simp only[hb,Y8,hc,gC,au]
   .cases h
  .cases h
 |extract x i=>
  simp only[xO,dx]at h|-;split at h
  .rename_i xs hx;rw[hx];simp only[au];split at h
   .rename_i y hy;cases h;rw[EP,hy];rfl
   .cases h
  .rename_i vs hx;rw[hx];simp only[au];split at h
   .rename_i y hy;cases h;simp only[hy,au]
   .cases h
  .cases h
 |len str x=>
  cases str with
  |true=>
   simp only[xO,dx]at h|-;split at h
   .rename_i hx;rw[hx];rw[gC]at h;cases h;simp only[au,gC]
   .cases h
  |false=>
   simp only[xO,dx]at h|-;split at h
   .rename_i hx;rw[hx];cases h;rfl
   .rename_i hx;rw[hx];cases h;rfl
   .rename_i hx;rw[hx];rw[gC]at h;cases h;simp only[au,gC,qw]
   .rename_i hx;rw[hx];rw[gC]at h;cases h;simp only[au,gC,qw]
   .cases h
 |append t e bytes z x y=>
  simp only[xO,dx,amF]at h|-;split at h
  .rename_i rows' hr;rw[hr];simp only[ZJ];split at h
   .rename_i hx;rw[hx];obtain⟨hb,h⟩:=eW h;simp only[au,qw,hb,Y8];cases rows' with
    |nil=>cases h;rfl|cons r l=>cases h;rfl
   .rename_i hx;rw[hx];simp only[au];split at h
    .rename_i hl;obtain⟨hb,h⟩:=fY h;cases h;rw[wm _ _ _ _ hl];simp only[Z6]at hb;obtain⟨⟨⟨⟨⟨h3,h4⟩,h5⟩,h6⟩,h7⟩,h8⟩:=hb;have e3:=Z0 h3;subst e3;simp only[fE,Yv,qw,aik,h6,h7,h8,Bool.and_self,Y8,<-SX];rw[<-BP _ _ _ _ _ _ hl];rfl
    .cases h
   .rename_i hx;rw[hx];obtain⟨hb,h⟩:=eW h;simp only[au,qw,hb,Y8];cases rows' with
    |nil=>cases h;rfl|cons r l=>cases h;simp only[dF,au,aS,fE,SX,ZB]
   .cases h
  .cases h
 |max2 x y=>
  simp only[xO,dx]at h|-;split at h
  .rename_i a b ha hb;rw[ha,hb];simp only[au];split at h
   .rename_i r hr;rw[mI]at h;cases h;simp only[hr,mI,au]
   .cases h
  .cases h
 |min2 x y=>
  simp only[xO,dx]at h|-;split at h
  .rename_i a b ha hb;rw[ha,hb];simp only[au];split at h
   .rename_i r hr;rw[mI]at h;cases h;simp only[hr,mI,au]
   .cases h
  .cases h
 |cL op ty ti args=>
  simp only[xO,lK]at h|-;split at h
  .rename_i as has;rw[uH has];split at h
   .rename_i r hr;cases h;simp only[hr,BS (hT.uk _ _ _ _ _ _ hr).2]
   .cases h
  .cases h
 |call f args=>cases h|fZ f args=>cases h|exts op ty ti args=>cases h|panic x=>cases h
