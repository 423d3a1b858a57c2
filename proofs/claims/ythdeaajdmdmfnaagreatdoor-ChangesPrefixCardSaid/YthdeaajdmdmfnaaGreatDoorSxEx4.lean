/-
  The layer Sx, an executor: other blocks for the stamps.
-/
import Derived.Test.YthdeaajdmdmfnaaGreatDoorSxEx
set_option linter.unusedVariables false
set_option linter.unusedSimpArgs false
set_option linter.unusedSectionVars false
namespace Go.Sx
open Go.RowKit
abbrev BM:=Nat→Nat×Nat×Nat
mutual
def ar(B:BM):AV→AV
 | .agg xs=> .agg (aH B xs)
 | .bo xs=> .bo (aH B xs)
 | .pc xs=> .pc (aH B xs)
 | .sl nn e rows=> .sl nn e (dB B rows)
 | .fl e rows=> .fl e (dB B rows)
 | .own e t b u c rows=> .own e t (B b).1 (B b).2.1 (B b).2.2 (dB B rows)
 | .ms t b o n c=> .ms t (B b).1 o n c
 | .lp t b o=> .lp t (B b).1 o
 | .bD t b=> .bD t (B b).1
 | .dz t x=> .dz t (ar B x)
 | .cl g a c=>match bP (aH B a),bP (aH B c)with
  |some a',some c'=> .v (.func (.func g) a'.toArray c'.toArray)
  |_,_=> .cl g (aH B a) (aH B c)
 | .v x=> .v x
 | .any=> .any
 | .ai k=> .ai k
def aH(B:BM):List AV→List AV
 |[]=>[]
 |x::l=>ar B x::aH B l
def dB(B:BM):List (List AV)→List (List AV)
 |[]=>[]
 |r::l=>aH B r::dB B l
end
def ff(B:BM)(b:Nat):aZ→aZ
 | .cells l=> .cells (aH B l)
 | .tail _ _=> .tail (B b).2.1 (B b).2.2
 | .map es k=> .map (es.map fun e=>(e.1,e.2.1,ar B e.2.2)) k
def aR(B:BM):Store→Store
 |[]=>[]
 |(t,b,x)::l=>(t,(B b).1,ff B b x)::aR B l
def bM(B:BM):ag→ag
 |[]=>[]
 |(i,x)::l=>(i,ar B x)::bM B l
section
variable {B:BM}
theorem iY(g:FuncId)(a c:List AV):(∃ a' c',bP (aH B a)=some a'∧bP (aH B c)=some c'∧ar B (.cl g a c)= .v (.func (.func g) a'.toArray c'.toArray))∨
  ((∀ a' c',bP (aH B a)=some a'→bP (aH B c)=some c'→False)∧ar B (.cl g a c)= .cl g (aH B a) (aH B c)):=by
 simp only[ar]
 split
 ·rename_i a' c' h1 h2;exact .inl ⟨a',c',h1,h2,rfl⟩
 ·rename_i h;exact .inr ⟨fun a' c' h1 h2=>h a' c' h1 h2,rfl⟩
theorem pR:∀ (l:List AV),aH B l=l.map (ar B)
 |[]=>rfl
 |x::l=>by simp[aH,pR l]
theorem qV:∀ (l:List (List AV)),dB B l=l.map (List.map (ar B))
 |[]=>rfl
 |x::l=>by simp[dB,qV l,pR x]
theorem yh:∀ (l:List Value),aH B (l.map .v)=l.map .v
 |[]=>rfl
 |x::l=>by simp[aH,ar,yh l]
theorem oL(l:List AV):(aH B l).length=l.length:=by simp[pR]
theorem pS(l:List (List AV)):(dB B l).length=l.length:=by simp[qV]
theorem Ej(l:List AV)(n:Nat):aH B (l.take n)=(aH B l).take n:=by simp[pR,Yu]
theorem vO(l:List AV)(n:Nat):aH B (l.drop n)=(aH B l).drop n:=by simp[pR,Xx]
theorem RU(l:List (List AV))(n:Nat):dB B (l.take n)=(dB B l).take n:=by simp[qV,Yu]
theorem RS(l:List (List AV))(n:Nat):dB B (l.drop n)=(dB B l).drop n:=by simp[qV,Xx]
theorem jx(a b:List AV):aH B (a++b)=aH B a++aH B b:=by simp[pR]
theorem RR(a b:List (List AV)):dB B (a++b)=dB B a++dB B b:=by simp[qV]
theorem Ei(l:List AV)(i:Nat):(aH B l)[i]? =(l[i]?).map (ar B):=by simp[pR]
theorem RT(l:List (List AV))(i:Nat):(dB B l).getD i []=aH B (l.getD i []):=by
 simp only[qV,Z3,X2]
 cases l[i]? <;>simp[aH,pR]
theorem RQ(l:List AV)(o:Nat)(l':List AV):aH B (over l o l')=over (aH B l) o (aH B l'):=by
 simp only[over,jx,Ej,vO,oL]
theorem agb(l:List (List AV)):aH B l.flatten=(dB B l).flatten:=by simp[pR,qV,List.map_flatten]
theorem mj:∀ (rg:ag) (i:Nat),lk (bM B rg) i=ar B (lk rg i)
 |[],_=>rfl
 |(j,x)::r,i=>by
  simp only[bM,lk]
  cases Nat.beq j i
  ·exact mj r i
  ·rfl
theorem dh(rg:ag)(x:Operand):ev (bM B rg) x=ar B (ev rg x):=by
 cases x with
 |tmp t=>exact mj rg t
 |_=>rfl
theorem kO(rg:ag):∀ (l:List Operand),aL (bM B rg) l=aH B (aL rg l)
 |[]=>rfl
 |x::l=>by simp only[aL,aH,dh,kO rg l]
theorem qU(d:Option Nat)(x:AV)(rg:ag):bM B (bz d x rg)=bz d (ar B x) (bM B rg):=by cases d<;>rfl
theorem Ce(x:AV):(ar B x).cells? =(x.cells?).map (aH B):=by
 cases x with
 |v x=>cases x<;>simp[ar,AV.cells?,aH,yh]
 |cl g a c=>rcases iY (B:=B) g a c with⟨a',c',_,_,e⟩|⟨_,e⟩<;>simp only[AV.cells?,ZJ,aH]<;>rw[e]
 |_=>simp[ar,AV.cells?,aH]
theorem LU(x:AV):(ar B x).iJ =(x.iJ).map (aH B):=by
 cases x with
 |v x=>cases x<;>simp[ar,AV.iJ,yh]
 |cl g a c=>rcases iY (B:=B) g a c with⟨a',c',_,_,e⟩|⟨_,e⟩<;>rw[e]<;>rfl
 |_=>simp[ar,AV.iJ]
theorem Np(rg:ag):∀ (ps:List (Nat×Nat×Operand)) (c l:List AV),pg c (lO rg ps)=some l→pg (aH B c) (lO (bM B rg) ps)=some (aH B l)
 |[],c,l,h=>by cases h;rfl
 |(o,n,x)::ps,c,l,h=>by
  simp only[lO,pg]at h ⊢
  rw[dh,Ce]
  cases hx:(ev rg x).cells? with
  |none=>rw[hx]at h;cases h
  |some m=>
   rw[hx]at h
   simp only[ZJ]at h ⊢
   split at h
   ·rename_i hc
    rw[oL,oL,ZV hc,← RQ]
    exact Np rg ps _ _ h
   ·cases h
theorem RY(e:Nat):∀ (l:List AV) (r:List (List AV)),rowsOf e l=some r→rowsOf e (aH B l)=some (dB B r)
 |[],r,h=>by cases h;rfl
 |x::l,r,h=>by
  simp only[rowsOf,aH]at h ⊢
  rw[Ce]
  cases hx:x.cells? with
  |none=>rw[hx]at h;cases h
  |some m=>
   rw[hx]at h
   simp only[ZJ]at h ⊢
   split at h
   ·rename_i hc
    rw[oL,ZV hc]
    obtain⟨r',h1,rfl⟩:=Z9.1 h
    rw[RY e l r' h1];rfl
   ·cases h
theorem Gj:∀ {l:List AV} {m:List Value},gS l=some m→bP (aH B l)=some m
 |[],_,h=>h
 | .v x::l,m,h=>by
  simp only[gS,Z9]at h
  obtain⟨m',h1,rfl⟩:=h
  simp only[aH,ar,bP,Gj h1,ZJ]
theorem ajR(e:Nat)(x:AV):p6 e (ar B x)=(p6 e x).map (dB B):=by
 cases x with
 |v x=>
  simp only[ar]
  unfold p6
  split<;>try rfl
  ·rename_i h;cases h
  ·rename_i h;cases h
  ·rename_i s h
   cases Nat.beq e 1<;>simp[qV,dD,ar]
 |sl nn e' rows=>simp only[ar,p6];cases Nat.beq e' e<;>rfl
 |own e' t b u c rows=>simp only[ar,p6];cases Nat.beq e' e<;>rfl
 |cl g a c=>rcases iY (B:=B) g a c with⟨a',c',_,_,e⟩|⟨_,e⟩<;>rw[e]<;>rfl
 |_=>rfl
theorem Q1(x:AV):(ar B x).one=x.one:=by
 cases x with
 |cl g a c=>rcases iY (B:=B) g a c with⟨a',c',_,_,e⟩|⟨_,e⟩<;>rw[e]<;>rfl
 |_=>rfl
theorem afm(l:List AV):(aH B l).all AV.one=l.all AV.one:=by simp[pR,List.all_map,Function.comp_def,Q1]
theorem afn(l:List (List AV)):(dB B l).all (fun r=>r.all AV.one)=l.all (fun r=>r.all AV.one):=by
 simp[qV,List.all_map,Function.comp_def,Q1]
theorem aaN(k:wz)(x y:AV)(b:Bool)(h:rS k x y=some b):rS k (ar B x) (ar B y)=some b:=by
 unfold rS at h
 split at h<;>first|(cases h;done)|(cases h;rfl)
theorem aeG(k:rH)(x y:AV)(b:Bool)(h:oB k x y=some b):oB k (ar B x) (ar B y)=some b:=by
 unfold oB at h
 split at h<;>first|(cases h;done)|exact h
theorem MR:∀ (ks:List rH) (x y:List AV) (b:Bool),mI ks x y=some b→mI ks (aH B x) (aH B y)=some b
 |[],[],[],b,h=>h
 |k::ks,x::xs,y::ys,b,h=>by
  simp only[mI,aH]at h ⊢
  cases hx:oB k x y with
  |none=>rw[hx]at h;cases h
  |some c=>
   rw[hx]at h
   rw[aeG _ _ _ _ hx]
   obtain⟨d,h1,rfl⟩:=Z9.1 h
   simp only[MR ks xs ys d h1,ZJ]
 |[],[],_::_,_,h=>by cases h
 |[],_::_,_,_,h=>by cases h
 |_::_,[],_,_,h=>by cases h
 |_::_,_::_,[],_,h=>by cases h
theorem Pk(x:Option AV):iy (x.map (ar B))=iy x:=by
 cases x with
 |none=>rfl
 |some x=>cases x with
  |cl g a c=>simp only[ZJ];rcases iY (B:=B) g a c with⟨a',c',_,_,e⟩|⟨_,e⟩<;>rw[e]<;>rfl
  |_=>rfl
theorem vy{S:Store}:∀ (σ:Store) (t b:Nat) (x:aZ),aV σ t=some (b,x)→aV (aR B σ++S) t=some ((B b).1,ff B b x)
 |[],_,_,_,h=>by cases h
 |(i,b',y)::σ,t,b,x,h=>by
  simp only[aV,aR,ZG]at h ⊢
  cases hb:Nat.beq i t with
  |true=>rw[hb]at h;cases h;rfl
  |false=>rw[hb]at h;exact vy σ t b x h
theorem Bu{S:Store}:∀ (σ:Store) (t b:Nat) (x:aZ) (b':Nat) (x':aZ),aV σ t=some (b',x')→du (aR B σ++S) t (B b).1 (ff B b x)=aR B (du σ t b x)++S
 |[],_,_,_,_,_,h=>by cases h
 |(i,c,y)::σ,t,b,x,b',x',h=>by
  simp only[aV,aR,du,ZG]at h ⊢
  cases hb:Nat.beq i t with
  |true=>rfl
  |false=>rw[hb]at h;simp only[YD,aR,ZG,Bu σ t b x b' x' h]
mutual
theorem K4:∀ {x y:AV},bG x=some y→bG (ar B x)=some y
 | .v _,_,h=>h
 | .any,_,h| .ms ..,_,h| .lp ..,_,h| .bD ..,_,h| .ai _,_,h| .cl ..,_,h=>by simp[bG]at h
 | .fl e rows,y,h=>by simp only[bG,Z9]at h;obtain⟨l,h1,rfl⟩:=h;simp only[ar,bG,E3 h1,ZJ]
 | .agg xs,y,h=>by simp only[bG,Z9]at h;obtain⟨l,h1,rfl⟩:=h;simp only[ar,bG,tU h1,ZJ]
 | .bo xs,y,h=>by simp only[bG,Z9]at h;obtain⟨l,h1,rfl⟩:=h;simp only[ar,bG,tU h1,ZJ]
 | .pc xs,y,h=>by simp only[bG,Z9]at h;obtain⟨l,h1,rfl⟩:=h;simp only[ar,bG,tU h1,ZJ]
 | .sl nn e rows,y,h=>by simp only[bG,Z9]at h;obtain⟨l,h1,rfl⟩:=h;simp only[ar,bG,E3 h1,ZJ]
 | .own e _ _ _ _ rows,y,h=>by simp only[bG,Z9]at h;obtain⟨l,h1,rfl⟩:=h;simp only[ar,bG,E3 h1,ZJ]
 | .dz t x,y,h=>by simp only[bG,Z9]at h;obtain⟨l,h1,rfl⟩:=h;simp only[ar,bG,K4 h1,ZJ]
theorem tU:∀ {l m:List AV},eG l=some m→eG (aH B l)=some m
 |[],_,h=>h
 |x::l,m,h=>by
  simp only[eG]at h
  cases hx:bG x with
  |none=>rw[hx]at h;cases h
  |some y=>cases hl:eG l with
   |none=>rw[hx,hl]at h;cases h
   |some m'=>rw[hx,hl]at h;cases h;simp only[aH,eG,K4 hx,tU hl]
theorem E3:∀ {l m:List (List AV)},gM l=some m→gM (dB B l)=some m
 |[],_,h=>h
 |x::l,m,h=>by
  simp only[gM]at h
  cases hx:eG x with
  |none=>rw[hx]at h;cases h
  |some y=>cases hl:gM l with
   |none=>rw[hx,hl]at h;cases h
   |some m'=>rw[hx,hl]at h;cases h;simp only[dB,gM,tU hx,E3 hl]
end
end
section
variable {B:BM}
mutual
theorem Bv:∀ {x y:AV},bG x=some y→ar B y=y
 | .v x,y,h=>by simp only[bG,ZY]at h;subst h;rfl
 | .agg xs,y,h=>by simp only[bG,Z9]at h;obtain⟨l,h1,rfl⟩:=h;simp only[ar,tT h1]
 | .bo xs,y,h=>by simp only[bG,Z9]at h;obtain⟨l,h1,rfl⟩:=h;simp only[ar,tT h1]
 | .pc xs,y,h=>by simp only[bG,Z9]at h;obtain⟨l,h1,rfl⟩:=h;simp only[ar,tT h1]
 | .sl nn e rows,y,h=>by simp only[bG,Z9]at h;obtain⟨l,h1,rfl⟩:=h;simp only[ar,E2 h1]
 | .own e _ _ _ _ rows,y,h=>by simp only[bG,Z9]at h;obtain⟨l,h1,rfl⟩:=h;simp only[ar,E2 h1]
 | .dz t x,y,h=>by simp only[bG,Z9]at h;obtain⟨l,h1,rfl⟩:=h;simp only[ar,Bv h1]
 | .cl ..,_,h=>by simp[bG]at h
 | .any,_,h=>by simp[bG]at h
 | .ms ..,_,h=>by simp[bG]at h
 | .lp ..,_,h=>by simp[bG]at h
 | .bD ..,_,h=>by simp[bG]at h
 | .ai _,_,h=>by simp[bG]at h
 | .fl e rows,y,h=>by simp only[bG,Z9]at h;obtain⟨l,h1,rfl⟩:=h;simp only[ar,E2 h1]
theorem tT:∀ {l m:List AV},eG l=some m→aH B m=m
 |[],m,h=>by simp only[eG,ZY]at h;subst h;rfl
 |x::l,m,h=>by
  simp only[eG]at h
  cases hx:bG x with
  |none=>rw[hx]at h;cases h
  |some y=>cases hl:eG l with
   |none=>rw[hx,hl]at h;cases h
   |some m'=>rw[hx,hl]at h;cases h;simp only[aH,Bv hx,tT hl]
theorem E2:∀ {l m:List (List AV)},gM l=some m→dB B m=m
 |[],m,h=>by simp only[gM,ZY]at h;subst h;rfl
 |x::l,m,h=>by
  simp only[gM]at h
  cases hx:eG x with
  |none=>rw[hx]at h;cases h
  |some y=>cases hl:gM l with
   |none=>rw[hx,hl]at h;cases h
   |some m'=>rw[hx,hl]at h;cases h;simp only[dB,tT hx,E2 hl]
end
theorem F0{agg:Bool}{o m:Nat}{l:List AV}{y:AV}(h:o0 agg o m l=some y):o0 agg o m (aH B l)=some (ar B y):=by
 cases agg with
 |true=>
  obtain⟨h1,rfl⟩:=F1 h
  unfold o0
  rw[oL,Xj h1]
  simp only[Zc,ar,Ej,vO]
 |false=>
  have h:=FZ h
  show(aH B l)[o]? =_
  rw[Ei,h];rfl
end
section
variable {P:Program}[Glob P]{T:XT}{cfg:Nat→Nat}{d n u0 c0:Nat}{rg:ag}{σ S:Store}{B:BM}{x:AV}{σ':Store}{f:Bool}
theorem Fb(hT:T.OK P){op:ax}(h:xO T cfg false d n u0 c0 rg σ op=some (x,σ',f)):
  xO T cfg true d (B n).1 (B n).2.1 (B n).2.2 (bM B rg) (aR B σ++S) op=some (ar B x,aR B σ'++S,f):=by
 cases op with
 |mv x=>cases h;simp only[xO,dh]
 |pick c a b=>
  simp only[xO,dh]at h ⊢
  split at h
  ·rename_i t ht;rw[ht];cases h;cases t<;>rfl
  ·cases h
 |box t x=>
  simp only[xO,dh,Ce]at h ⊢
  split at h
  ·rename_i l hl;rw[hl];cases h;rfl
  ·cases h
 |alloc t z=>cases h;simp only[xO,aR,ar,ff,yh];rfl
 |build z parts=>
  simp only[xO]at h ⊢
  split at h
  ·rename_i l hl
   cases h
   have:=Np (B:=B) rg parts _ _ hl
   rw[yh]at this
   rw[this];rfl
  ·cases h
 |dF t e parts=>
  simp only[xO,kO]at h ⊢
  split at h
  ·rename_i rows hr
   rw[RY _ _ _ hr]
   obtain⟨hb,h⟩:=eC h
   simp only[pS,hb,Zc]
   split at h
   ·cases h;rfl
   ·obtain⟨h0,h⟩:=fy h;cases h;simp only[h0,Zc];rfl
   ·cases h;rfl
   ·cases h
    simp only[ar,aR,ff,agb,ZG]
  ·cases h
 |load agg m x=>
  simp only[xO,dh]at h ⊢
  split at h
  ·rename_i t b o hx
   rw[hx]
   simp only[ar]
   split at h
   ·rename_i b' l hl
    rw[vy _ _ _ _ hl]
    obtain⟨hb,h⟩:=eC h
    obtain⟨y,h3,h4⟩:=Z9.1 h
    cases h4
    rw[Z0 hb]
    simp only[ff,YA,Zc,F0 h3,ZJ]
   ·cases h
  ·rename_i l hx
   rw[hx]
   obtain⟨y,h3,h4⟩:=Z9.1 h
   cases h4
   simp only[ar,F0 h3,ZJ]
  ·rename_i g hx
   rw[hx]
   simp only[ar]
   split at h
   ·rename_i l hl
    obtain⟨y,h3,h4⟩:=Z9.1 h
    cases h4
    have h5:=F0 (B:=B) h3
    rw[tT (hT.GX _ _ hl)]at h5
    simp only[hl,h5,ZJ]
   ·cases h
  ·cases h
 |store m x y=>
  simp only[xO,dh,Ce]at h ⊢
  split at h
  ·rename_i t b o l' hx fq
   rw[hx,fq]
   simp only[ar,ZJ]
   split at h
   ·rename_i b' l hl
    rw[vy _ _ _ _ hl]
    obtain⟨hb,h⟩:=fy h
    cases h
    simp only[Z8]at hb
    obtain⟨⟨⟨h3,h4⟩,h5⟩,h6⟩:=hb
    have e:=Z0 h3
    subst e
    simp only[ff,YA,oL,afm,h4,h5,h6,Bool.and_self,Zc,← RQ]
    have:=Bu (B:=B) (S:=S) σ t b (.cells (over l o l')) b (.cells l) hl
    rw[← this];rfl
   ·cases h
  ·cases h
 |mo x=>
  simp only[xO,dh]at h ⊢
  split at h
  ·rename_i hx;rw[hx];cases h;rfl
  ·rename_i hx;rw[hx];cases h;rfl
  ·rename_i hx;rw[hx];cases h;rfl
  ·rename_i hx;rw[hx];cases h;rfl
  ·rename_i f a c hx;rw[hx];cases h
   rcases iY (B:=B) f a c with⟨a',c',_,_,e⟩|⟨_,e⟩<;>rw[e]
  ·cases h
 |bin op x y=>
  simp only[xO,dh]at h ⊢
  split at h
  ·rename_i a b ha hb
   rw[ha,hb]
   simp only[ar]
   split at h
   ·rename_i r hr
    rw[lQ]at h;cases h
    simp only[hr,lQ,ar]
   ·cases h
  ·cases h
 |ji neg k x y=>
  simp only[xO,dh]at h ⊢
  split at h
  ·rename_i b hb
   rw[rV]at h;cases h
   rw[aaN _ _ _ _ hb];simp only[rV,ar]
  ·cases h
 |eqs neg ks x y=>
  simp only[xO,dh,LU]at h ⊢
  split at h
  ·rename_i xs ys hx hy
   rw[hx,hy]
   simp only[ZJ]
   split at h
   ·rename_i b hb
    rw[rV]at h;cases h
    rw[MR _ _ _ _ hb];simp only[rV,ar]
   ·cases h
  ·cases h
 |un op x=>
  simp only[xO,dh]at h ⊢
  split at h
  ·rename_i a ha
   rw[ha]
   simp only[ar]
   split at h
   ·rename_i r hr
    rw[lQ]at h;cases h
    simp only[hr,lQ,ar]
   ·cases h
  ·cases h
 |lM k x=>
  simp only[xO,dh]at h ⊢
  split at h
  ·rename_i hx;rw[hx];rw[zu]at h;cases h;simp only[ar,zu]
  ·cases h
 |mG x=>
  simp only[xO,dh]at h ⊢
  split at h
  ·rename_i hx;rw[hx];cases h;rfl
  ·cases h
 |nh t x=>cases h;simp only[xO,dh,ar]
 |ng fn first captured=>
  simp only[xO,kO]at h ⊢
  split at h
  ·rename_i a c ha hc;cases h
   simp only[Gj ha,Gj hc,ar]
  ·split at h
   ·rename_i f;cases h
    rcases iY (B:=B) f (aL rg first) (aL rg captured)with⟨a',c',e1,e2,e⟩|⟨hn,e⟩<;>rw[e]
    ·simp only[e1,e2]
    ·split
     ·exact absurd ‹bP (aH B (aL rg captured))=_› (fun k=>hn _ _ ‹bP (aH B (aL rg first))=_› k)
     ·rfl
   ·cases h
 |slice e x lo hi=>
  have e1:iy (lo.map (ev (bM B rg)))=iy (lo.map (ev rg)):=by cases lo<;>simp only[Option.map_none,ZJ,dh];exact Pk (some _)
  have e2:iy (hi.map (ev (bM B rg)))=iy (hi.map (ev rg)):=by cases hi<;>simp only[Option.map_none,ZJ,dh];exact Pk (some _)
  simp only[xO,e1,e2,dh]at h ⊢
  split at h
  ·rename_i JA cD _ _
   split at h
   ·rename_i hx
    rw[hx]
    obtain⟨hb,h⟩:=fy h
    cases h
    simp only[ar,pS,hb,Zc,RU,RS]
   ·rename_i hx
    rw[hx]
    obtain⟨hb,h⟩:=fy h
    cases h
    simp only[ar,pS,hb,Zc]
    cases cD.isNone<;>simp[ar,RU,RS]
   ·rename_i hx
    rw[hx]
    obtain⟨hb,h⟩:=fy h
    cases h
    simp only[ar,hb,Zc]
   ·cases h
  ·cases h
 |aY off x=>
  simp only[xO,dh]at h ⊢
  split at h
  ·rename_i hx;rw[hx];cases h;rfl
  ·rename_i hx;rw[hx];cases h;simp only[ar,vO]
  ·cases h
 |field agg off m x=>
  simp only[xO,dh,LU]at h ⊢
  split at h
  ·rename_i l hx
   rw[hx]
   obtain⟨hb,h⟩:=eC h
   simp only[ZJ,oL,hb,Zc]
   cases agg with
   |true=>cases h;simp only[Zc,ar,Ej,vO]
   |false=>
    simp only[YD]at h ⊢
    split at h
    ·rename_i y hy;cases h;rw[Ei,hy];rfl
    ·cases h
  ·cases h
 |fe e x i=>
  simp only[xO,dh]at h ⊢
  split at h
  ·rename_i hi
   rw[hi]
   simp only[ar]
   split at h
   ·rename_i hx;rw[hx]
    obtain⟨hb,h⟩:=fy h
    cases h
    simp only[ar,pS,hb,Zc,RT]
   ·rename_i hx;rw[hx]
    obtain⟨hb,h⟩:=fy h
    cases h
    simp only[ar,pS,hb,Zc,RT]
   ·rename_i hx;rw[hx]
    obtain⟨hb,h⟩:=eC h
    rw[fW]at h
    cases h
    simp only[ar,hb,Zc,fW]
   ·cases h
  ·cases h
 |me k e x i=>
  simp only[xO,dh]at h ⊢
  split at h
  ·rename_i hi
   rw[hi]
   simp only[ar]
   split at h
   ·rename_i hx;rw[hx]
    obtain⟨hb,h⟩:=eC h
    rw[fW]at h
    cases h
    simp only[ar,hb,Zc,fW]
   ·rename_i hx;rw[hx]
    obtain⟨hb,h⟩:=fy h
    cases h
    simp only[ar,hb,Zc,vO]
   ·rename_i hx;rw[hx]
    simp only[ar]
    split at h
    ·rename_i l hl
     obtain⟨hb,h⟩:=fy h
     cases h
     simp only[hl,hb,Zc,ar,vO,tT (hT.GX _ _ hl)]
    ·cases h
   ·cases h
  ·cases h
 |idxs x i=>
  simp only[xO,dh]at h ⊢
  split at h
  ·rename_i hi hx
   rw[hi,hx]
   simp only[ar]
   obtain⟨hb,h⟩:=eC h
   split at h
   ·rename_i c hc
    rw[fW]at h
    cases h
    simp only[hb,Zc,hc,fW,ar]
   ·cases h
  ·cases h
 |extract x i=>
  simp only[xO,dh]at h ⊢
  split at h
  ·rename_i xs hx
   rw[hx]
   simp only[ar]
   split at h
   ·rename_i y hy;cases h;rw[Ei,hy];rfl
   ·cases h
  ·rename_i vs hx
   rw[hx]
   simp only[ar]
   split at h
   ·rename_i y hy;cases h;simp only[hy,ar]
   ·cases h
  ·cases h
 |len str x=>
  cases str with
  |true=>
   simp only[xO,dh]at h ⊢
   split at h
   ·rename_i hx;rw[hx];rw[fW]at h;cases h;simp only[ar,fW]
   ·cases h
  |false=>
   simp only[xO,dh]at h ⊢
   split at h
   ·rename_i hx;rw[hx];cases h;rfl
   ·rename_i hx;rw[hx];cases h;rfl
   ·rename_i hx;rw[hx];rw[fW]at h;cases h;simp only[ar,fW,pS]
   ·rename_i hx;rw[hx];rw[fW]at h;cases h;simp only[ar,fW,pS]
   ·cases h
 |append t e bytes z x y=>
  simp only[xO,dh,ajR]at h ⊢
  split at h
  ·rename_i rows' hr
   rw[hr]
   simp only[ZJ]
   split at h
   ·rename_i hx;rw[hx]
    obtain⟨hb,h⟩:=eC h
    simp only[ar,pS,hb,Zc]
    cases rows' with
    |nil=>cases h;rfl
    |cons r l=>cases h;rfl
   ·rename_i hx;rw[hx]
    simp only[ar]
    split at h
    ·rename_i hl
     obtain⟨hb,h⟩:=fy h
     cases h
     rw[vy _ _ _ _ hl]
     simp only[Z8]at hb
     obtain⟨⟨⟨⟨⟨h3,h4⟩,h5⟩,h6⟩,h7⟩,h8⟩:=hb
     have e3:=Z0 h3
     subst e3
     simp only[ff,YA,pS,afn,h6,h7,h8,Bool.and_self,Zc,← RR]
     rw[← Bu _ _ _ _ _ _ hl];rfl
    ·cases h
   ·rename_i hx;rw[hx]
    obtain⟨hb,h⟩:=eC h
    simp only[ar,pS,hb,Zc]
    cases rows' with
    |nil=>cases h;rfl
    |cons r l=>cases h;simp only[dB,ar,aR,ff,RR,ZG]
   ·cases h
  ·cases h
 |max2 x y=>
  simp only[xO,dh]at h ⊢
  split at h
  ·rename_i a b ha hb
   rw[ha,hb]
   simp only[ar]
   split at h
   ·rename_i r hr
    rw[lQ]at h;cases h
    simp only[hr,lQ,ar]
   ·cases h
  ·cases h
 |min2 x y=>
  simp only[xO,dh]at h ⊢
  split at h
  ·rename_i a b ha hb
   rw[ha,hb]
   simp only[ar]
   split at h
   ·rename_i r hr
    rw[lQ]at h;cases h
    simp only[hr,lQ,ar]
   ·cases h
  ·cases h
 |cu op ty ti args=>
  simp only[xO,kO]at h ⊢
  split at h
  ·rename_i as has
   rw[tU has]
   split at h
   ·rename_i r hr
    cases h
    simp only[hr,Bv (hT.tu _ _ _ _ _ _ hr).2]
   ·cases h
  ·cases h
 |call f args=>cases h
 |fD f args=>cases h
 |exts op ty ti args=>cases h
 |panic x=>cases h
end
end Go.Sx
