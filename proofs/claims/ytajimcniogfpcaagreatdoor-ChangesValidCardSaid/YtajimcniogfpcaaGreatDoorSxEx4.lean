/-
  The layer Sx, an executor: other blocks for the stamps.
-/
import Derived.Test.YtajimcniogfpcaaGreatDoorSxEx
set_option linter.unusedVariables false
set_option linter.unusedSimpArgs false
set_option linter.unusedSectionVars false
namespace Go.Sx
open Go.RowKit
abbrev BM:=Nat→Nat×Nat×Nat
mutual
def au(B:BM):AV→AV
 | .agg xs=> .agg (aG B xs)
 | .aP xs=> .aP (aG B xs)
 | .pc xs=> .pc (aG B xs)
 | .sl nn e rows=> .sl nn e (dQ B rows)
 | .fl e rows=> .fl e (dQ B rows)
 | .own e t b u c rows=> .own e t (B b).1 (B b).2.1 (B b).2.2 (dQ B rows)
 | .ms t b o n c=> .ms t (B b).1 o n c
 | .lp t b o=> .lp t (B b).1 o
 | .bH t b=> .bH t (B b).1
 | .dN t x=> .dN t (au B x)
 | .cl g a c=>match bV (aG B a),bV (aG B c)with
  |some a',some c'=> .v (.func (.func g) a'.toArray c'.toArray)
  |_,_=> .cl g (aG B a) (aG B c)
 | .v x=> .v x
 | .any=> .any
 | .ai k=> .ai k
def aG(B:BM):List AV→List AV
 |[]=>[]
 |x::l=>au B x::aG B l
def dQ(B:BM):List (List AV)→List (List AV)
 |[]=>[]
 |r::l=>aG B r::dQ B l
end
def fZ(B:BM)(b:Nat):aR→aR
 | .cells l=> .cells (aG B l)
 | .tail _ _=> .tail (B b).2.1 (B b).2.2
 | .map es k=> .map (es.map fun e=>(e.1,e.2.1,au B e.2.2)) k
def aV(B:BM):Store→Store
 |[]=>[]
 |(t,b,x)::l=>(t,(B b).1,fZ B b x)::aV B l
def bW(B:BM):af→af
 |[]=>[]
 |(i,x)::l=>(i,au B x)::bW B l
section
variable {B:BM}
theorem jI(g:FuncId)(a c:List AV):(∃ a' c',bV (aG B a)=some a'∧bV (aG B c)=some c'∧au B (.cl g a c)= .v (.func (.func g) a'.toArray c'.toArray))∨
  ((∀ a' c',bV (aG B a)=some a'→bV (aG B c)=some c'→False)∧au B (.cl g a c)= .cl g (aG B a) (aG B c)):=by
 simp only[au]
 split
 ·rename_i a' c' h1 h2;exact .inl ⟨a',c',h1,h2,rfl⟩
 ·rename_i h;exact .inr ⟨fun a' c' h1 h2=>h a' c' h1 h2,rfl⟩
theorem qK:∀ (l:List AV),aG B l=l.map (au B)
 |[]=>rfl
 |x::l=>by simp[aG,qK l]
theorem sM:∀ (l:List (List AV)),dQ B l=l.map (List.map (au B))
 |[]=>rfl
 |x::l=>by simp[dQ,sM l,qK x]
theorem Ao:∀ (l:List Value),aG B (l.map .v)=l.map .v
 |[]=>rfl
 |x::l=>by simp[aG,au,Ao l]
theorem pG(l:List AV):(aG B l).length=l.length:=by simp[qK]
theorem qM(l:List (List AV)):(dQ B l).length=l.length:=by simp[sM]
theorem F3(l:List AV)(n:Nat):aG B (l.take n)=(aG B l).take n:=by simp[qK,XU]
theorem x9(l:List AV)(n:Nat):aG B (l.drop n)=(aG B l).drop n:=by simp[qK,Xu]
theorem Ur(l:List (List AV))(n:Nat):dQ B (l.take n)=(dQ B l).take n:=by simp[sM,XU]
theorem Up(l:List (List AV))(n:Nat):dQ B (l.drop n)=(dQ B l).drop n:=by simp[sM,Xu]
theorem j7(a b:List AV):aG B (a++b)=aG B a++aG B b:=by simp[qK]
theorem Uo(a b:List (List AV)):dQ B (a++b)=dQ B a++dQ B b:=by simp[sM]
theorem F2(l:List AV)(i:Nat):(aG B l)[i]? =(l[i]?).map (au B):=by simp[qK]
theorem Uq(l:List (List AV))(i:Nat):(dQ B l).getD i []=aG B (l.getD i []):=by
 simp only[sM,ZU,Yq]
 cases l[i]? <;>simp[aG,qK]
theorem Un(l:List AV)(o:Nat)(l':List AV):aG B (over l o l')=over (aG B l) o (aG B l'):=by
 simp only[over,j7,F3,x9,pG]
theorem aiZ(l:List (List AV)):aG B l.flatten=(dQ B l).flatten:=by simp[qK,sM,List.map_flatten]
theorem nh:∀ (rg:af) (i:Nat),lk (bW B rg) i=au B (lk rg i)
 |[],_=>rfl
 |(j,x)::r,i=>by
  simp only[bW,lk]
  cases Nat.beq j i
  ·exact nh r i
  ·rfl
theorem dG(rg:af)(x:Operand):ev (bW B rg) x=au B (ev rg x):=by
 cases x with
 |tmp t=>exact nh rg t
 |_=>rfl
theorem lM(rg:af):∀ (l:List Operand),aE (bW B rg) l=aG B (aE rg l)
 |[]=>rfl
 |x::l=>by simp only[aE,aG,dG,lM rg l]
theorem sL(d:Option Nat)(x:AV)(rg:af):bW B (bj d x rg)=bj d (au B x) (bW B rg):=by cases d<;>rfl
theorem D1(x:AV):(au B x).cells? =(x.cells?).map (aG B):=by
 cases x with
 |v x=>cases x<;>simp[au,AV.cells?,aG,Ao]
 |cl g a c=>rcases jI (B:=B) g a c with⟨a',c',_,_,e⟩|⟨_,e⟩<;>simp only[AV.cells?,ZD,aG]<;>rw[e]
 |_=>simp[au,AV.cells?,aG]
theorem NU(x:AV):(au B x).ju =(x.ju).map (aG B):=by
 cases x with
 |v x=>cases x<;>simp[au,AV.ju,Ao]
 |cl g a c=>rcases jI (B:=B) g a c with⟨a',c',_,_,e⟩|⟨_,e⟩<;>rw[e]<;>rfl
 |_=>simp[au,AV.ju]
theorem PG(rg:af):∀ (ps:List (Nat×Nat×Operand)) (c l:List AV),qf c (mJ rg ps)=some l→qf (aG B c) (mJ (bW B rg) ps)=some (aG B l)
 |[],c,l,h=>by cases h;rfl
 |(o,n,x)::ps,c,l,h=>by
  simp only[mJ,qf]at h ⊢
  rw[dG,D1]
  cases hx:(ev rg x).cells? with
  |none=>rw[hx]at h;cases h
  |some m=>
   rw[hx]at h
   simp only[ZD]at h ⊢
   split at h
   ·rename_i hc
    rw[pG,pG,ZW hc,← Un]
    exact PG rg ps _ _ h
   ·cases h
theorem Uy(e:Nat):∀ (l:List AV) (r:List (List AV)),rowsOf e l=some r→rowsOf e (aG B l)=some (dQ B r)
 |[],r,h=>by cases h;rfl
 |x::l,r,h=>by
  simp only[rowsOf,aG]at h ⊢
  rw[D1]
  cases hx:x.cells? with
  |none=>rw[hx]at h;cases h
  |some m=>
   rw[hx]at h
   simp only[ZD]at h ⊢
   split at h
   ·rename_i hc
    rw[pG,ZW hc]
    obtain⟨r',h1,rfl⟩:=Z7.1 h
    rw[Uy e l r' h1];rfl
   ·cases h
theorem I0:∀ {l:List AV} {m:List Value},ik l=some m→bV (aG B l)=some m
 |[],_,h=>h
 | .v x::l,m,h=>by
  simp only[ik,Z7]at h
  obtain⟨m',h1,rfl⟩:=h
  simp only[aG,au,bV,I0 h1,ZD]
theorem amd(e:Nat)(x:AV):qY e (au B x)=(qY e x).map (dQ B):=by
 cases x with
 |v x=>
  simp only[au]
  unfold qY
  split<;>try rfl
  ·rename_i h;cases h
  ·rename_i h;cases h
  ·rename_i s h
   cases Nat.beq e 1<;>simp[sM,du,au]
 |sl nn e' rows=>simp only[au,qY];cases Nat.beq e' e<;>rfl
 |own e' t b u c rows=>simp only[au,qY];cases Nat.beq e' e<;>rfl
 |cl g a c=>rcases jI (B:=B) g a c with⟨a',c',_,_,e⟩|⟨_,e⟩<;>rw[e]<;>rfl
 |_=>rfl
theorem Tx(x:AV):(au B x).one=x.one:=by
 cases x with
 |cl g a c=>rcases jI (B:=B) g a c with⟨a',c',_,_,e⟩|⟨_,e⟩<;>rw[e]<;>rfl
 |_=>rfl
theorem ah5(l:List AV):(aG B l).all AV.one=l.all AV.one:=by simp[qK,List.all_map,Function.comp_def,Tx]
theorem ah6(l:List (List AV)):(dQ B l).all (fun r=>r.all AV.one)=l.all (fun r=>r.all AV.one):=by
 simp[sM,List.all_map,Function.comp_def,Tx]
theorem adi(k:yA)(x y:AV)(b:Bool)(h:ue k x y=some b):ue k (au B x) (au B y)=some b:=by
 unfold ue at h
 split at h<;>first|(cases h;done)|(cases h;rfl)
theorem ahm(k:tJ)(x y:AV)(b:Bool)(h:py k x y=some b):py k (au B x) (au B y)=some b:=by
 unfold py at h
 split at h<;>first|(cases h;done)|exact h
theorem O2:∀ (ks:List tJ) (x y:List AV) (b:Bool),nI ks x y=some b→nI ks (aG B x) (aG B y)=some b
 |[],[],[],b,h=>h
 |k::ks,x::xs,y::ys,b,h=>by
  simp only[nI,aG]at h ⊢
  cases hx:py k x y with
  |none=>rw[hx]at h;cases h
  |some c=>
   rw[hx]at h
   rw[ahm _ _ _ _ hx]
   obtain⟨d,h1,rfl⟩:=Z7.1 h
   simp only[O2 ks xs ys d h1,ZD]
 |[],[],_::_,_,h=>by cases h
 |[],_::_,_,_,h=>by cases h
 |_::_,[],_,_,h=>by cases h
 |_::_,_::_,[],_,h=>by cases h
theorem Rr(x:Option AV):jl (x.map (au B))=jl x:=by
 cases x with
 |none=>rfl
 |some x=>cases x with
  |cl g a c=>simp only[ZD];rcases jI (B:=B) g a c with⟨a',c',_,_,e⟩|⟨_,e⟩<;>rw[e]<;>rfl
  |_=>rfl
theorem xH{S:Store}:∀ (σ:Store) (t b:Nat) (x:aR),aM σ t=some (b,x)→aM (aV B σ++S) t=some ((B b).1,fZ B b x)
 |[],_,_,_,h=>by cases h
 |(i,b',y)::σ,t,b,x,h=>by
  simp only[aM,aV,ZH]at h ⊢
  cases hb:Nat.beq i t with
  |true=>rw[hb]at h;cases h;rfl
  |false=>rw[hb]at h;exact xH σ t b x h
theorem Dr{S:Store}:∀ (σ:Store) (t b:Nat) (x:aR) (b':Nat) (x':aR),aM σ t=some (b',x')→dx (aV B σ++S) t (B b).1 (fZ B b x)=aV B (dx σ t b x)++S
 |[],_,_,_,_,_,h=>by cases h
 |(i,c,y)::σ,t,b,x,b',x',h=>by
  simp only[aM,aV,dx,ZH]at h ⊢
  cases hb:Nat.beq i t with
  |true=>rfl
  |false=>rw[hb]at h;simp only[YD,aV,ZH,Dr σ t b x b' x' h]
mutual
theorem Nd:∀ {x y:AV},bN x=some y→bN (au B x)=some y
 | .v _,_,h=>h
 | .any,_,h| .ms ..,_,h| .lp ..,_,h| .bH ..,_,h| .ai _,_,h| .cl ..,_,h=>by simp[bN]at h
 | .fl e rows,y,h=>by simp only[bN,Z7]at h;obtain⟨l,h1,rfl⟩:=h;simp only[au,bN,G3 h1,ZD]
 | .agg xs,y,h=>by simp only[bN,Z7]at h;obtain⟨l,h1,rfl⟩:=h;simp only[au,bN,vS h1,ZD]
 | .aP xs,y,h=>by simp only[bN,Z7]at h;obtain⟨l,h1,rfl⟩:=h;simp only[au,bN,vS h1,ZD]
 | .pc xs,y,h=>by simp only[bN,Z7]at h;obtain⟨l,h1,rfl⟩:=h;simp only[au,bN,vS h1,ZD]
 | .sl nn e rows,y,h=>by simp only[bN,Z7]at h;obtain⟨l,h1,rfl⟩:=h;simp only[au,bN,G3 h1,ZD]
 | .own e _ _ _ _ rows,y,h=>by simp only[bN,Z7]at h;obtain⟨l,h1,rfl⟩:=h;simp only[au,bN,G3 h1,ZD]
 | .dN t x,y,h=>by simp only[bN,Z7]at h;obtain⟨l,h1,rfl⟩:=h;simp only[au,bN,Nd h1,ZD]
theorem vS:∀ {l m:List AV},fw l=some m→fw (aG B l)=some m
 |[],_,h=>h
 |x::l,m,h=>by
  simp only[fw]at h
  cases hx:bN x with
  |none=>rw[hx]at h;cases h
  |some y=>cases hl:fw l with
   |none=>rw[hx,hl]at h;cases h
   |some m'=>rw[hx,hl]at h;cases h;simp only[aG,fw,Nd hx,vS hl]
theorem G3:∀ {l m:List (List AV)},iO l=some m→iO (dQ B l)=some m
 |[],_,h=>h
 |x::l,m,h=>by
  simp only[iO]at h
  cases hx:fw x with
  |none=>rw[hx]at h;cases h
  |some y=>cases hl:iO l with
   |none=>rw[hx,hl]at h;cases h
   |some m'=>rw[hx,hl]at h;cases h;simp only[dQ,iO,vS hx,G3 hl]
end
end
section
variable {B:BM}
mutual
theorem Dx:∀ {x y:AV},bN x=some y→au B y=y
 | .v x,y,h=>by simp only[bN,Z1]at h;subst h;rfl
 | .agg xs,y,h=>by simp only[bN,Z7]at h;obtain⟨l,h1,rfl⟩:=h;simp only[au,vR h1]
 | .aP xs,y,h=>by simp only[bN,Z7]at h;obtain⟨l,h1,rfl⟩:=h;simp only[au,vR h1]
 | .pc xs,y,h=>by simp only[bN,Z7]at h;obtain⟨l,h1,rfl⟩:=h;simp only[au,vR h1]
 | .sl nn e rows,y,h=>by simp only[bN,Z7]at h;obtain⟨l,h1,rfl⟩:=h;simp only[au,G2 h1]
 | .own e _ _ _ _ rows,y,h=>by simp only[bN,Z7]at h;obtain⟨l,h1,rfl⟩:=h;simp only[au,G2 h1]
 | .dN t x,y,h=>by simp only[bN,Z7]at h;obtain⟨l,h1,rfl⟩:=h;simp only[au,Dx h1]
 | .cl ..,_,h=>by simp[bN]at h
 | .any,_,h=>by simp[bN]at h
 | .ms ..,_,h=>by simp[bN]at h
 | .lp ..,_,h=>by simp[bN]at h
 | .bH ..,_,h=>by simp[bN]at h
 | .ai _,_,h=>by simp[bN]at h
 | .fl e rows,y,h=>by simp only[bN,Z7]at h;obtain⟨l,h1,rfl⟩:=h;simp only[au,G2 h1]
theorem vR:∀ {l m:List AV},fw l=some m→aG B m=m
 |[],m,h=>by simp only[fw,Z1]at h;subst h;rfl
 |x::l,m,h=>by
  simp only[fw]at h
  cases hx:bN x with
  |none=>rw[hx]at h;cases h
  |some y=>cases hl:fw l with
   |none=>rw[hx,hl]at h;cases h
   |some m'=>rw[hx,hl]at h;cases h;simp only[aG,Dx hx,vR hl]
theorem G2:∀ {l m:List (List AV)},iO l=some m→dQ B m=m
 |[],m,h=>by simp only[iO,Z1]at h;subst h;rfl
 |x::l,m,h=>by
  simp only[iO]at h
  cases hx:fw x with
  |none=>rw[hx]at h;cases h
  |some y=>cases hl:iO l with
   |none=>rw[hx,hl]at h;cases h
   |some m'=>rw[hx,hl]at h;cases h;simp only[dQ,vR hx,G2 hl]
end
theorem IA{agg:Bool}{o m:Nat}{l:List AV}{y:AV}(h:qa agg o m l=some y):qa agg o m (aG B l)=some (au B y):=by
 cases agg with
 |true=>
  obtain⟨h1,rfl⟩:=IB h
  unfold qa
  rw[pG,WZ h1]
  simp only[Y6,au,F3,x9]
 |false=>
  have h:=Iz h
  show(aG B l)[o]? =_
  rw[F2,h];rfl
end
section
variable {P:Program}[Glob P]{T:XT}{cfg:Nat→Nat}{d n u0 c0:Nat}{rg:af}{σ S:Store}{B:BM}{x:AV}{σ':Store}{f:Bool}
theorem Hc(hT:T.OK P){op:aw}(h:xO T cfg false d n u0 c0 rg σ op=some (x,σ',f)):
  xO T cfg true d (B n).1 (B n).2.1 (B n).2.2 (bW B rg) (aV B σ++S) op=some (au B x,aV B σ'++S,f):=by
 cases op with
 |mv x=>cases h;simp only[xO,dG]
 |pick c a b=>
  simp only[xO,dG]at h ⊢
  split at h
  ·rename_i t ht;rw[ht];cases h;cases t<;>rfl
  ·cases h
 |box t x=>
  simp only[xO,dG,D1]at h ⊢
  split at h
  ·rename_i l hl;rw[hl];cases h;rfl
  ·cases h
 |alloc t z=>cases h;simp only[xO,aV,au,fZ,Ao];rfl
 |build z parts=>
  simp only[xO]at h ⊢
  split at h
  ·rename_i l hl
   cases h
   have:=PG (B:=B) rg parts _ _ hl
   rw[Ao]at this
   rw[this];rfl
  ·cases h
 |dZ t e parts=>
  simp only[xO,lM]at h ⊢
  split at h
  ·rename_i rows hr
   rw[Uy _ _ _ hr]
   obtain⟨hb,h⟩:=ff h
   simp only[qM,hb,Y6]
   split at h
   ·cases h;rfl
   ·obtain⟨h0,h⟩:=gy h;cases h;simp only[h0,Y6];rfl
   ·cases h;rfl
   ·cases h
    simp only[au,aV,fZ,aiZ,ZH]
  ·cases h
 |load agg m x=>
  simp only[xO,dG]at h ⊢
  split at h
  ·rename_i t b o hx
   rw[hx]
   simp only[au]
   split at h
   ·rename_i b' l hl
    rw[xH _ _ _ _ hl]
    obtain⟨hb,h⟩:=ff h
    obtain⟨y,h3,h4⟩:=Z7.1 h
    cases h4
    rw[Z2 hb]
    simp only[fZ,YL,Y6,IA h3,ZD]
   ·cases h
  ·rename_i l hx
   rw[hx]
   obtain⟨y,h3,h4⟩:=Z7.1 h
   cases h4
   simp only[au,IA h3,ZD]
  ·rename_i g hx
   rw[hx]
   simp only[au]
   split at h
   ·rename_i l hl
    obtain⟨y,h3,h4⟩:=Z7.1 h
    cases h4
    have h5:=IA (B:=B) h3
    rw[vR (hT.Jw _ _ hl)]at h5
    simp only[hl,h5,ZD]
   ·cases h
  ·cases h
 |store m x y=>
  simp only[xO,dG,D1]at h ⊢
  split at h
  ·rename_i t b o l' hx fJ
   rw[hx,fJ]
   simp only[au,ZD]
   split at h
   ·rename_i b' l hl
    rw[xH _ _ _ _ hl]
    obtain⟨hb,h⟩:=gy h
    cases h
    simp only[Z6]at hb
    obtain⟨⟨⟨h3,h4⟩,h5⟩,h6⟩:=hb
    have e:=Z2 h3
    subst e
    simp only[fZ,YL,pG,ah5,h4,h5,h6,Bool.and_self,Y6,← Un]
    have:=Dr (B:=B) (S:=S) σ t b (.cells (over l o l')) b (.cells l) hl
    rw[← this];rfl
   ·cases h
  ·cases h
 |nk x=>
  simp only[xO,dG]at h ⊢
  split at h
  ·rename_i hx;rw[hx];cases h;rfl
  ·rename_i hx;rw[hx];cases h;rfl
  ·rename_i hx;rw[hx];cases h;rfl
  ·rename_i hx;rw[hx];cases h;rfl
  ·rename_i f a c hx;rw[hx];cases h
   rcases jI (B:=B) f a c with⟨a',c',_,_,e⟩|⟨_,e⟩<;>rw[e]
  ·cases h
 |bin op x y=>
  simp only[xO,dG]at h ⊢
  split at h
  ·rename_i a b ha hb
   rw[ha,hb]
   simp only[au]
   split at h
   ·rename_i r hr
    rw[mK]at h;cases h
    simp only[hr,mK,au]
   ·cases h
  ·cases h
 |jR neg k x y=>
  simp only[xO,dG]at h ⊢
  split at h
  ·rename_i b hb
   rw[uh]at h;cases h
   rw[adi _ _ _ _ hb];simp only[uh,au]
  ·cases h
 |eqs neg ks x y=>
  simp only[xO,dG,NU]at h ⊢
  split at h
  ·rename_i xs ys hx hy
   rw[hx,hy]
   simp only[ZD]
   split at h
   ·rename_i b hb
    rw[uh]at h;cases h
    rw[O2 _ _ _ _ hb];simp only[uh,au]
   ·cases h
  ·cases h
 |un op x=>
  simp only[xO,dG]at h ⊢
  split at h
  ·rename_i a ha
   rw[ha]
   simp only[au]
   split at h
   ·rename_i r hr
    rw[mK]at h;cases h
    simp only[hr,mK,au]
   ·cases h
  ·cases h
 |mI k x=>
  simp only[xO,dG]at h ⊢
  split at h
  ·rename_i hx;rw[hx];rw[BC]at h;cases h;simp only[au,BC]
  ·cases h
 |nF x=>
  simp only[xO,dG]at h ⊢
  split at h
  ·rename_i hx;rw[hx];cases h;rfl
  ·cases h
 |oe t x=>cases h;simp only[xO,dG,au]
 |od fn first captured=>
  simp only[xO,lM]at h ⊢
  split at h
  ·rename_i a c ha hc;cases h
   simp only[I0 ha,I0 hc,au]
  ·split at h
   ·rename_i f;cases h
    rcases jI (B:=B) f (aE rg first) (aE rg captured)with⟨a',c',e1,e2,e⟩|⟨hn,e⟩<;>rw[e]
    ·simp only[e1,e2]
    ·split
     ·exact absurd ‹bV (aG B (aE rg captured))=_› (fun k=>hn _ _ ‹bV (aG B (aE rg first))=_› k)
     ·rfl
   ·cases h
 |slice e x lo hi=>
  have e1:jl (lo.map (ev (bW B rg)))=jl (lo.map (ev rg)):=by cases lo<;>simp only[Option.map_none,ZD,dG];exact Rr (some _)
  have e2:jl (hi.map (ev (bW B rg)))=jl (hi.map (ev rg)):=by cases hi<;>simp only[Option.map_none,ZD,dG];exact Rr (some _)
  simp only[xO,e1,e2,dG]at h ⊢
  split at h
  ·rename_i Lr cK _ _
   split at h
   ·rename_i hx
    rw[hx]
    obtain⟨hb,h⟩:=gy h
    cases h
    simp only[au,qM,hb,Y6,Ur,Up]
   ·rename_i hx
    rw[hx]
    obtain⟨hb,h⟩:=gy h
    cases h
    simp only[au,qM,hb,Y6]
    cases cK.isNone<;>simp[au,Ur,Up]
   ·rename_i hx
    rw[hx]
    obtain⟨hb,h⟩:=gy h
    cases h
    simp only[au,hb,Y6]
   ·cases h
  ·cases h
 |dk off x=>
  simp only[xO,dG]at h ⊢
  split at h
  ·rename_i hx;rw[hx];cases h;rfl
  ·rename_i hx;rw[hx];cases h;simp only[au,x9]
  ·cases h
 |field agg off m x=>
  simp only[xO,dG,NU]at h ⊢
  split at h
  ·rename_i l hx
   rw[hx]
   obtain⟨hb,h⟩:=ff h
   simp only[ZD,pG,hb,Y6]
   cases agg with
   |true=>cases h;simp only[Y6,au,F3,x9]
   |false=>
    simp only[YD]at h ⊢
    split at h
    ·rename_i y hy;cases h;rw[F2,hy];rfl
    ·cases h
  ·cases h
 |iz e x i=>
  simp only[xO,dG]at h ⊢
  split at h
  ·rename_i hi
   rw[hi]
   simp only[au]
   split at h
   ·rename_i hx;rw[hx]
    obtain⟨hb,h⟩:=gy h
    cases h
    simp only[au,qM,hb,Y6,Uq]
   ·rename_i hx;rw[hx]
    obtain⟨hb,h⟩:=gy h
    cases h
    simp only[au,qM,hb,Y6,Uq]
   ·rename_i hx;rw[hx]
    obtain⟨hb,h⟩:=ff h
    rw[gQ]at h
    cases h
    simp only[au,hb,Y6,gQ]
   ·cases h
  ·cases h
 |mY k e x i=>
  simp only[xO,dG]at h ⊢
  split at h
  ·rename_i hi
   rw[hi]
   simp only[au]
   split at h
   ·rename_i hx;rw[hx]
    obtain⟨hb,h⟩:=ff h
    rw[gQ]at h
    cases h
    simp only[au,hb,Y6,gQ]
   ·rename_i hx;rw[hx]
    obtain⟨hb,h⟩:=gy h
    cases h
    simp only[au,hb,Y6,x9]
   ·rename_i hx;rw[hx]
    simp only[au]
    split at h
    ·rename_i l hl
     obtain⟨hb,h⟩:=gy h
     cases h
     simp only[hl,hb,Y6,au,x9,vR (hT.Jw _ _ hl)]
    ·cases h
   ·cases h
  ·cases h
 |idxs x i=>
  simp only[xO,dG]at h ⊢
  split at h
  ·rename_i hi hx
   rw[hi,hx]
   simp only[au]
   obtain⟨hb,h⟩:=ff h
   split at h
   ·rename_i c hc
    rw[gQ]at h
    cases h
    simp only[hb,Y6,hc,gQ,au]
   ·cases h
  ·cases h
 |extract x i=>
  simp only[xO,dG]at h ⊢
  split at h
  ·rename_i xs hx
   rw[hx]
   simp only[au]
   split at h
   ·rename_i y hy;cases h;rw[F2,hy];rfl
   ·cases h
  ·rename_i vs hx
   rw[hx]
   simp only[au]
   split at h
   ·rename_i y hy;cases h;simp only[hy,au]
   ·cases h
  ·cases h
 |len str x=>
  cases str with
  |true=>
   simp only[xO,dG]at h ⊢
   split at h
   ·rename_i hx;rw[hx];rw[gQ]at h;cases h;simp only[au,gQ]
   ·cases h
  |false=>
   simp only[xO,dG]at h ⊢
   split at h
   ·rename_i hx;rw[hx];cases h;rfl
   ·rename_i hx;rw[hx];cases h;rfl
   ·rename_i hx;rw[hx];rw[gQ]at h;cases h;simp only[au,gQ,qM]
   ·rename_i hx;rw[hx];rw[gQ]at h;cases h;simp only[au,gQ,qM]
   ·cases h
 |append t e bytes z x y=>
  simp only[xO,dG,amd]at h ⊢
  split at h
  ·rename_i rows' hr
   rw[hr]
   simp only[ZD]
   split at h
   ·rename_i hx;rw[hx]
    obtain⟨hb,h⟩:=ff h
    simp only[au,qM,hb,Y6]
    cases rows' with
    |nil=>cases h;rfl
    |cons r l=>cases h;rfl
   ·rename_i hx;rw[hx]
    simp only[au]
    split at h
    ·rename_i hl
     obtain⟨hb,h⟩:=gy h
     cases h
     rw[xH _ _ _ _ hl]
     simp only[Z6]at hb
     obtain⟨⟨⟨⟨⟨h3,h4⟩,h5⟩,h6⟩,h7⟩,h8⟩:=hb
     have e3:=Z2 h3
     subst e3
     simp only[fZ,YL,qM,ah6,h6,h7,h8,Bool.and_self,Y6,← Uo]
     rw[← Dr _ _ _ _ _ _ hl];rfl
    ·cases h
   ·rename_i hx;rw[hx]
    obtain⟨hb,h⟩:=ff h
    simp only[au,qM,hb,Y6]
    cases rows' with
    |nil=>cases h;rfl
    |cons r l=>cases h;simp only[dQ,au,aV,fZ,Uo,ZH]
   ·cases h
  ·cases h
 |max2 x y=>
  simp only[xO,dG]at h ⊢
  split at h
  ·rename_i a b ha hb
   rw[ha,hb]
   simp only[au]
   split at h
   ·rename_i r hr
    rw[mK]at h;cases h
    simp only[hr,mK,au]
   ·cases h
  ·cases h
 |min2 x y=>
  simp only[xO,dG]at h ⊢
  split at h
  ·rename_i a b ha hb
   rw[ha,hb]
   simp only[au]
   split at h
   ·rename_i r hr
    rw[mK]at h;cases h
    simp only[hr,mK,au]
   ·cases h
  ·cases h
 |cQ op ty ti args=>
  simp only[xO,lM]at h ⊢
  split at h
  ·rename_i as has
   rw[vS has]
   split at h
   ·rename_i r hr
    cases h
    simp only[hr,Dx (hT.vv _ _ _ _ _ _ hr).2]
   ·cases h
  ·cases h
 |call f args=>cases h
 |fR f args=>cases h
 |exts op ty ti args=>cases h
 |panic x=>cases h
end
end Go.Sx
