import Derived.Test.YtmemninechdogaaGreatDoorSxEx6
import Derived.Test.YtmemninechdogaaGreatDoorSxZ
set_option linter.all false
namespace Go.Sx
open Go.RowKit
section
variable {B:BM}
theorem KB(a b:Store):aS B (a++b)=aS B a++aS B b:=by
 induction a with
 |nil=>rfl|cons e a ih=>simp only[ZB,aS,ih]
theorem Cv:∀(as:List AV) (k:Nat),bP B (fJ k as)=fJ k (aI B as)
 |[],_=>rfl|x::l,k=>by simp only[fJ,bP,aI,Cv l]
theorem ajd{rg:ag}{σ S:Store}{r:RC}{x:AV}(h:nZ rg σ r=some x):nZ (bP B rg) (aS B σ++S) r=some (au B x):=by
 cases r with
 |tmp t=>simp only[nZ,ZV]at h|-;subst h;exact mZ rg t|cell t g n=>
  simp only[nZ,mZ]at h|-;split at h
  .rename_i tg b o hx;rw[hx];simp only[au];split at h
   .rename_i b' l hl;rw[wm _ _ _ _ hl];split at h
    .rename_i e;subst e;simp only[fE,YK];cases g with
     |true=>
      simp only[YK]at h|-;split at h
      .rename_i hc;cases h;rw[pk,Z3 hc];simp only[au,ER,wB]
      grind
     |false=>simp at h|-;rw[EP,h];rfl
    grind
   grind
  grind
theorem S2{rg:ag}{σ S:Store}:∀{l:List RC} {xs:List AV},nj rg σ l=some xs->nj (bP B rg) (aS B σ++S) l=some (aI B xs)
 |[],_,h=>by cases h;rfl|r::l,xs,h=>by
  simp only[nj]at h|-;cases hr:nZ rg σ r with
  |none=>grind|some x=>rw[hr]at h;obtain⟨ys,h1,rfl⟩:=Z8.1 h;rw[ajd hr,S2 h1];rfl
theorem KD{rg:ag}{σ S:Store}{l:List RC}{x:AV}(h:cZ rg σ l=some x):cZ (bP B rg) (aS B σ++S) l=some (au B x):=by
 unfold cZ at h|-;cases hl:nj rg σ l with
 |none=>grind|some xs=>
  rw[hl]at h;rw[S2 hl]
  match xs,h with
  |[],h=>cases h;rfl|[y],h=>cases h;rfl|y::z::l,h=>cases h;rfl
end
section
variable {P:Program}[Glob P][ij P]{T:XT}
theorem GL{call:FuncId->List AV->Store->Nat->XO}(hc:iY P call){f:FuncId}{as:List AV}{n:Nat}{r:AV}(h:pM call f as n=some r):(∀B,au B r=r)/\Pure P f as r:=by
 unfold pM at h;split at h
 .cases h
 .rename_i Cx has;split at h
  .rename_i x aR n1 hx;have hf:∀B,aI B Cx=Cx:=fun B=>uG has;obtain⟨_,_,_,h4⟩:=hc _ _ _ _ _ _ _ hx (fun B B' _=>by grind) (fun _ _ _=>rfl);refine⟨fun B=>BS h,⟨fun σ=>?_⟩⟩;have h5:=h4 (fun _=>(0,0,0)) σ;rw[hf]at h5;refine(h5.wk (su has)).EK ?_;rintro _ _ ⟨B',hA,rfl,rfl⟩;exact⟨.ret r,σ,⟨rfl,rfl⟩,dA.drop,LG (LD h)⟩
  grind
theorem ML{call:FuncId->List AV->Store->Nat->XO}(hc:iY P call):oh P (pM call):=fun f as n r h=>
 ⟨(GL hc h).1,fun B=>(GL (as:=aI B as) hc (by
  unfold pM at h|-;split at h
  .cases h
  .rename_i Cx has;rw[uH has];exact h)).2⟩
def Cg(P:Program)[Glob P](T:XT):Prop:=∀f as r,T.pure f as=some r->(∀B,au B r=r)/\∀B,Pure P f (aI B as) r
@[reducible] def dS (P:Program) [g:Glob P] (ds:List Deferred):Glob P:={g with df:=ds}
def nr(P:Program)[Glob P](f N:Nat)(s:SC)(res:List RC):Prop:=
 ∀(as:List AV) (σ:Store) (Q:AV->Store->Prop),as.length<=N->(∀ds,@ia P (dS P ds) N 2 s (lZ res fun r σ=>∃x,r= .ret x/\Q x σ) (fJ 0 as) σ)->Spec P f as σ fun r af=>∃x,r= .ret x/\Q x af
def XT.Ch(P:Program)[Glob P](T:XT):Prop:=∀f N a res,T.code f=some (N,a,res)->nr P f N a.erase res
section
variable {ds:List Deferred}{M:Mem}{w0:Base}{w:World}{σ:Store}
theorem Inv.tD(h:Inv P M w0 σ w): @Inv P (dS P ds) M w0 σ w:=@Inv.mk P (dS P ds) M w0 σ w h.os h.tape h.output h.size h.old h.bZ h.st h.nd h.gl h.gw h.bm
theorem Inv.oD(h: @Inv P (dS P ds) M w0 σ w):Inv P M w0 σ w:=by cases h;constructor<;>assumption
theorem Spec.tD{f:FuncId}{ys:List AV}{Q:ik->Store->Prop}(h:Spec P f ys σ Q): @Spec P (dS P ds) f ys σ Q:=
 fun M w0 w cs hI hR=>(h M w0 w cs (Inv.oD hI) hR).mono fun e w' ⟨M',r,af,a,b,c⟩=>⟨M',r,af,a,Inv.tD b,c⟩
theorem fH.tD{op:Op}{ty:TypeId}{ti:List TI}{args:List Operand}{as:List AV}{Q:AV->Store->Prop}(h:fH P op ty ti args as σ Q): @fH P (dS P ds) op ty ti args as σ Q:=
 fun bu M w0 w Y hI hR=>let⟨nx,w',M',x,v,af,h1,h2,h3,h4,h5,h6⟩:=h bu M w0 w Y (Inv.oD hI) hR;⟨nx,w',M',x,v,af,h1,h2,h3,Inv.tD h4,h5,h6⟩
theorem XT.OK.tD(h:T.OK P): @XT.OK P (dS P ds) T:=@XT.OK.mk P (dS P ds) T h.gl h.Ic (fun _ _ _ _ _ _ e=>⟨@jU.mk P (dS P ds) _ _ _ _ _ _ fun σ=>fH.tD ((h.uk _ _ _ _ _ _ e).1.sp σ),(h.uk _ _ _ _ _ _ e).2⟩) h.can
theorem ku.tD(h:ku P T): @ku P (dS P ds) T:=fun op ty ti args as d n σ x af n' e a b=>
 let⟨h1,h2,h3,h4⟩:=h op ty ti args as d n σ x af n' e a b;⟨h1,h2,h3,fun B S=>fH.tD (h4 B S)⟩
theorem iY.tD{call:FuncId->List AV->Store->Nat->XO}(h:iY P call): @iY P (dS P ds) call:=fun f as σ n x af n' e a b=>
 let⟨h1,h2,h3,h4⟩:=h f as σ n x af n' e a b;⟨h1,h2,h3,fun B S=>Spec.tD (h4 B S)⟩
theorem Ox[h:ij P]:dS P []=(inferInstance:Glob P):=by rename_i g _;have e:=h.h;cases g;simp only[Glob.df]at e;subst e;rfl
theorem nr.nil{f N:Nat}{a:AC}{res:List RC}(k:∃fn,P.funcs[f]? =some fn/\j0 P fn=some ⟨N,a.erase,res⟩):nr P f N a.erase res:=by obtain⟨fn,h1,h2⟩:=k;intro as σ Q hl h;refine Spec.intro (fc:=⟨N,a.erase,res⟩) h1 h2 hl ?_;have:=h [];rw[Ox]at this;exact this.sw
end
theorem abf{P:Program}[Glob P]{N:Nat}{a:AC}{res:List RC}{rg:ag}{σ:Store}{e:XE}{n n1:Nat}{so:ag}{aR:Store}{x:AV}(h:B6 P N 2 a.erase n rg σ e so aR n1)(he:e= .nrm\/e= .ret)(hr:cZ so aR res=some x)(B:BM)(S:Store):
  ia P N 2 a.erase (lZ res fun r X=>∃x0,r= .ret x0/\∃B',Agree n B B'/\x0=au B' x/\X=aS B' aR++S) (bP B rg) (aS B σ++S):=by
 refine(h.2.2.2 B S).mono ?_;rintro _ _ _ ⟨rfl,B',hA,rfl,rfl⟩;rcases he with rfl|rfl<;>exact⟨_,KD hr,_,rfl,B',hA,rfl,rfl⟩
theorem abg(iu:T.Ch P){f N:Nat}{a:AC}{res:List RC}{as:List AV}{σ:Store}{e:XE}{n n1:Nat}{so:ag}{aR:Store}{x:AV}(IH:T.code f=some (N,a,res))(hlen:Nat.ble as.length N=true)
  (h:∀ds,@B6 P (dS P ds) N 2 a.erase n (fJ 0 as) σ e so aR n1) (he:e= .nrm\/e= .ret) (hr:cZ so aR res=some x):
  n<=n1/\gZ n1 x/\cI n1 aR/\∀B S,Spec P f (aI B as) (aS B σ++S) fun r X=>∃B',Agree n B B'/\r= .ret (au B' x)/\X=aS B' aR++S:=by
 obtain⟨h1,h2,h3,_⟩:=h [];refine⟨h1,fun B B' k=>?_,h3,fun B S=>?_⟩
 .have e1:=KD (B:=B) (S:=[]) hr;have e2:=KD (B:=B') (S:=[]) hr;rw[h2 B B' k,h3 B B' k,e2]at e1;grind
 .refine(iu _ _ _ _ IH (aI B as) (aS B σ++S) (fun x0 X=>∃B',Agree n B B'/\x0=au B' x/\X=aS B' aR++S) (by rw[pk];simp_all) fun ds=>?_).mono ?_
  .rw[<-Cv];exact @abf P (dS P ds) _ _ _ _ _ _ _ _ _ _ _ (h ds) he hr B S
  grind
theorem GN(ds:List Deferred){call:FuncId->List AV->Store->Nat->XO}(hc:iY P call): @oh P (dS P ds) (pM call):=fun f as n r h=>
 ⟨(ML hc f as n r h).1,fun B=>@Pure.mk P (dS P ds) _ _ _ fun σ=>Spec.tD (((ML hc f as n r h).2 B).sp σ)⟩
theorem alQ{P:Program}[Glob P]{T:XT}(hT:T.OK P)(ho:ku P T)(k:Nat)(ih:∀m,m<k+1->iY P (eC T m).call/\∀f n0 N,qI P N ((eC T m).turn f n0)/\ot P N ((eC T m).jump f n0))(II:∀m,m<k+1->oh P (pM (eC T m).call)):∀f n0 N,qI P N ((eC T (k+1)).turn f n0):=by
 intro f n0 N b rg σ n e al af n' h hG hS
 have code:∀m,m<k+1->∀{rg:ag} {σ:Store} {n:Nat} {e:XE} {al:ag} {af:Store} {n':Nat},sF T (eC T m) f n0 b rg σ n=some (e,al,af,n')->db n rg->cI n σ->sI P N b.erase n rg σ e al af n':=
  fun m hm _ _ _ _ _ _ _ h hG hS=>fm hT (ih m hm).1 ho (II m hm) ((ih m hm).2 f n0 N).1 ((ih m hm).2 f n0 N).2 n0 b h hG hS
 have fr:n<=n'/\db n' al/\cI n' af:=by
  simp only[eC]at h;split at h
  .rename_i hx;obtain⟨h1,h2,h3,_⟩:=code k (Yc _) hx hG hS;obtain⟨k1,k2,k3,_⟩:=((ih k (Yc _)).2 f n0 N).1 _ _ _ _ _ _ _ _ h h2 h3;grind
  .obtain⟨h1,h2,h3,_⟩:=code k (Yc _) h hG hS;grind
 refine⟨fr.1,fr.2.1,fr.2.2,fun B S=>?_⟩
 refine Gg (fun m so aR=>∃B1 rX sG nx,m<=k+1/\Agree n B B1/\n<=nx/\db nx rX/\cI nx sG/\so=bP B1 rX/\aR=aS B1 sG++S/\(eC T m).turn f n0 b rX sG nx=some (e,al,af,n')) (k+1)
  ⟨B,rg,σ,n,ZO _,.refl _ _,ZO _,hG,hS,rfl,rfl,h⟩ ?_
 rintro m _ _ ⟨B1,rX,sG,nx,hm,hA,hn,Dm,Du,rfl,rfl,ht⟩;cases m with
 |zero=>cases ht|succ m=>
  simp only[eC]at ht;split at ht
  .rename_i bK aK n2 hx;obtain⟨h1,h2,h3,h4⟩:=code m (by omega) hx Dm Du;refine(h4 B1 S).mono ?_;rintro _ _ _ ⟨rfl,B2,mL,rfl,rfl⟩;exact⟨m,Yc _,B2,bK,aK,n2,by omega,hA.trans (mL.le hn),by omega,h2,h3,rfl,rfl,ht⟩
  .rename_i hx;obtain⟨h1,h2,h3,h4⟩:=code m (by omega) ht Dm Du;refine(h4 B1 S).mono ?_;rintro _ _ _ ⟨rfl,B2,mL,rfl,rfl⟩;cases e with
   |nrm=>grind|_=>exact⟨rfl,B2,hA.trans (mL.le hn),rfl,rfl⟩
theorem ae2{P:Program}[Glob P]{T:XT}(hT:T.OK P)(ho:ku P T)(k:Nat)(ih:∀m,m<k+1->iY P (eC T m).call/\∀f n0 N,qI P N ((eC T m).turn f n0)/\ot P N ((eC T m).jump f n0))(II:∀m,m<k+1->oh P (pM (eC T m).call)):∀f n0 N,ot P N ((eC T (k+1)).jump f n0):=by
 intro f n0 N b e al af n';refine⟨fun m l rg σ n=>m<=k+1/\(eC T m).jump f n0 b l rg σ n=some (e,al,af,n'),fun l rg σ n h=>⟨k+1,ZO _,h⟩,?_⟩;rintro m l rg σ n ⟨hm,h⟩ hG hS;cases m with
 |zero=>cases h|succ m=>
  simp only[eC]at h;split at h
  .cases h
  .rename_i r hr;refine⟨r.erase,by rw[A7,hr];rfl,?_⟩;have az:m<k+1:=by omega
   have code:∀{e:XE} {al:ag} {af:Store} {n':Nat},sF T (eC T m) f n0 r rg σ n=some (e,al,af,n')->sI P N r.erase n rg σ e al af n':=fun h=>fm hT (ih m az).1 ho (II m az) ((ih m az).2 f n0 N).1 ((ih m az).2 f n0 N).2 n0 r h hG hS;split at h
   .grind
   .exact .inl ⟨fun l' e1=>by subst e1;grind,code h⟩
theorem alP(hT:T.OK P)(ho:ku P T)(k:Nat)(ds:List Deferred)(ih:∀m,m<k+1->iY P (eC T m).call/\∀f n0 N,@qI P (dS P ds) N ((eC T m).turn f n0)/\@ot P (dS P ds) N ((eC T m).jump f n0)):∀f n0 N,@qI P (dS P ds) N ((eC T (k+1)).turn f n0)/\@ot P (dS P ds) N ((eC T (k+1)).jump f n0):=fun f n0 N=>
 ⟨@alQ P (dS P ds) T hT.tD ho.tD k (fun m hm=>⟨(ih m hm).1.tD,(ih m hm).2⟩) (fun m hm=>GN ds (ih m hm).1) f n0 N,@ae2 P (dS P ds) T hT.tD ho.tD k (fun m hm=>⟨(ih m hm).1.tD,(ih m hm).2⟩) (fun m hm=>GN ds (ih m hm).1) f n0 N⟩
theorem amE(hT:T.OK P)(iu:T.Ch P)(ho:ku P T)(tI:Cg P T){r:Cq}(hc:iY P r.call)(ha:∀ds f n0 N,@qI P (dS P ds) N (r.turn f n0)/\@ot P (dS P ds) N (r.jump f n0)):iY P (LP T r):=by
 intro f as σ n x af n' h hL hS;unfold LP at h;split at h
 .rename_i x1 hx;cases h;obtain⟨k1,k2⟩:=tI _ _ _ hx;exact⟨ZO _,fun B B' _=>by grind,hS,fun B S=>((k2 B).sp _).mono fun r X ⟨a,b⟩=>⟨B,.refl _ _,by grind,b⟩⟩
 .split at h
  .cases h
  .rename_i N a res IH;obtain⟨hlen,h⟩:=eW h
   have fin:∀{zt:List AV} {eM:Store} {e:XE} {so:ag} {aR:Store} {n1:Nat} {x0:AV},zt.length=as.length->sK n zt->cI n eM->(e= .nrm\/e= .ret)->sF T r f n a (fJ 0 zt) eM n=some (e,so,aR,n1)->cZ so aR res=some x0->
     n<=n1/\gZ n1 x0/\cI n1 aR/\∀B S,Spec P f (aI B zt) (aS B eM++S) fun r X=>∃B',Agree n B B'/\r= .ret (au B' x0)/\X=aS B' aR++S:=by
    intro zt eM e so aR n1 x0 hl hL hS he hx hr;exact abg iu IH (by grind) (fun ds=>@FW P (dS P ds) T N _ _ _ _ _ hT.tD hc.tD ho.tD (GN ds hc) (ha ds f n N).1 (ha ds f n N).2 n a 2 _ _ _ _ _ _ _ hx (fun B B' k=>by rw[Cv,Cv,hL B B' k]) hS) he hr
   have nil:∀{e:XE} {so:ag} {aR:Store} {n1:Nat},(e= .nrm\/e= .ret)->sF T r f n a (fJ 0 as) [] n=some (e,so,aR,n1)->(match cZ so aR res with
      |some x=>some (dI jZ x,gc n [x] (mg jZ aR)++σ,n1)|none=>none)=some (x,af,n')->n<=n'/\gZ n' x/\cI n' af/\∀B S,Spec P f (aI B as) (aS B σ++S) fun r X=>∃B',Agree n B B'/\r= .ret (au B' x)/\X=aS B' af++S:=by
    intro e so aR n1 he hx h;split at h
    .rename_i x0 hr;cases h;obtain⟨h1,h2,h3,h4⟩:=fin rfl hL (fun _ _ _=>rfl) he hx hr;refine⟨h1,fun B B' k=>wD _ (h2 B B' k),fun B B' k=>by rw[KB,KB,Dg _ (wG _ (h3 B B' k)),(hS.le h1) B B' k],fun B S=>?_⟩;refine(h4 B (aS B σ++S)).EK ?_;rintro _ _ ⟨B',hA,rfl,rfl⟩;refine⟨_,_,⟨B',hA,rfl,rfl⟩,?_,wF _⟩;rw[KB,Zq,hS B B' hA];exact dA.app ((Dh _).trans (wH _)) (.refl _)
    grind
   have tag:∀{e:XE} {so:ag} {aR:Store} {n1:Nat},(e= .nrm\/e= .ret)->sF T r f n a (fJ 0 (jO jZ as)) (mg jZ σ) n=some (e,so,aR,n1)->(match cZ so aR res with
      |some x=>some (dI (BK σ) (dI jZ x),mg (BK σ) (gc n [x] (mg jZ aR)),n1)|none=>none)=some (x,af,n')->n<=n'/\gZ n' x/\cI n' af/\∀B S,Spec P f (aI B as) (aS B σ++S) fun r X=>∃B',Agree n B B'/\r= .ret (au B' x)/\X=aS B' af++S:=by
    intro e so aR n1 he hx h;split at h
    .rename_i x0 hr;cases h;have hl:(jO jZ as).length=as.length:=by
      have:=(qx (B:=fun _=>(0,0,0)) (f:=jZ) as).get.1;rw[pk,pk]at this;exact this.symm
     obtain⟨h1,h2,h3,h4⟩:=fin hl (fun B B' k=>rY _ (hL B B' k)) (fun B B' k=>wG _ (hS B B' k)) he hx hr;refine⟨h1,fun B B' k=>wD _ (wD _ (h2 B B' k)),fun B B' k=>wG _ (Dg _ (wG _ (h3 B B' k))),fun B S=>?_⟩;refine((h4 B S).aiI (qx _) (dA.app (wH _) (.refl _))).EK ?_;rintro _ _ ⟨B',hA,rfl,rfl⟩;exact⟨_,_,⟨B',hA,rfl,rfl⟩,dA.app ((wH _).trans ((Dh _).trans (wH _))) (.refl _),(wF _).trans (wF _)⟩
    .cases h
   split at h
   .split at h
    .exact nil (.inl rfl) ‹_› h
    .exact nil (.inr rfl) ‹_› h
    .cases h
   .split at h
    .exact tag (.inl rfl) ‹_› h
    .exact tag (.inr rfl) ‹_› h
    .cases h
theorem amG(hT:T.OK P)(iu:T.Ch P)(ho:ku P T)(tI:Cg P T)(k:Nat):iY P (eC T k).call/\∀ds f n0 N,@qI P (dS P ds) N ((eC T k).turn f n0)/\@ot P (dS P ds) N ((eC T k).jump f n0):=by
 induction k using Nat.strongRecOn with
 |_ k ih=>
  cases k with
  |zero=>exact⟨fun _ _ _ _ _ _ _ h=>(by cases h),fun _ _ _ _=>⟨fun _ _ _ _ _ _ _ _ h=>(by cases h),fun _ _ _ _ _=>⟨fun _ _ _ _ _=>False,fun _ _ _ _ h=>(by cases h),fun _ _ _ _ _ h=>h.elim⟩⟩⟩|succ k=>
   obtain⟨hc,ha⟩:=ih k (Yc _);refine⟨amE hT iu ho tI hc ha,fun ds=>?_⟩;exact alP hT ho k ds fun m hm=>⟨(ih m hm).1,(ih m hm).2 ds⟩
theorem Pure.exec(hT:T.OK P)(iu:T.Ch P)(ho:ku P T)(tI:Cg P T)(k:Nat){f:FuncId}{as:List AV}{r:AV}(h:pM (eC T k).call f as 0=some r):Pure P f as r:=(GL (amG hT iu ho tI k).1 h).2
end
def aY{P:Program}[Glob P]{f N:Nat}{a:AC}{res:List RC}(h:nr P f N a.erase res):Nat×Nat×AC×List RC:=(f,N,a,res)
def look:List (Nat×Nat×AC×List RC)->Nat->Option (Nat×AC×List RC)
 |[],_=>none|(g,x)::l,f=>bif Nat.beq g f then some x else look l f
inductive w7(P:Program)[Glob P]:List (Nat×Nat×AC×List RC)->Prop
 |nil:w7 P []
 |cons {f N:Nat} {a:AC} {res:List RC} {l:List (Nat×Nat×AC×List RC)} (h:nr P f N a.erase res) (t:w7 P l):w7 P (aY h::l)
theorem w7.look{P:Program}[Glob P]{l:List (Nat×Nat×AC×List RC)}(h:w7 P l):∀f N a res,look l f=some (N,a,res)->nr P f N a.erase res:=by
 induction h with
 |nil=>intro f N a res h;cases h|cons h t ih=>
  intro f N a res hl;simp only[Sx.look,aY]at hl;rename_i g N' a' am2 l';cases hb:Nat.beq g f with
  |true=>simp_all|false=>grind
theorem gy.r{P:Program}[Glob P][ij P]{f N:Nat}{a:AC}{res:List RC}(k:gy P f N a res):nr P f N a.erase res:=nr.nil k.ex
def Idle(P:Program)[Glob P](ds:List Deferred):Prop:=
 ∀(fn:Func) (tmps:Array Value) (K:Ending->World->Prop) (M:Mem) (w0:Base) (σ:Store) (w:World),Inv P M w0 σ w->
  (∀w',Inv P M w0 σ w'->∃v,(results fn tmps).run P w'= .ok v w'/\K (.returned v) w')->Leaves P fn tmps K ds .returning w
theorem Idle.nil{P:Program}[Glob P]:Idle P []:=fun _ _ _ _ _ _ w hI h=>h w hI
theorem nr.door{P:Program}[Glob P][ij P]{f:FuncId}{fn:Func}{c x y t:Code}{N:Nat}{s:SC}{res:List RC}(hf:P.funcs[f]? =some fn)(hb:fn.body=some c)(hN:fn.ntmps=N)(hr:qZ P fn.results.toList=some res)
  (hs:∀ds,@cW P (dS P ds) N (.seq x (.seq y t))=some s)
  (hd:∀(cs:List Value) (w:World),∃ds,(∀post,iK P x (Exit.then (iK P y (Exit.then (t.wp P post) post)) post) {tmps:=cs.toArray++Array.replicate (fn.ntmps-cs.toArray.size) undef,defers:=ds} w->c.wp P post {tmps:=cs.toArray++Array.replicate (fn.ntmps-cs.toArray.size) undef,defers:=[]} w)/\Idle P ds):nr P f N s res:=by
 intro as σ Q hlen h M w0 w cs hI hl;subst hN;have hle:cs.length<=fn.ntmps:=by rw[← hl.1];grind
 obtain⟨ds,h1,h2⟩:=hd cs w;have DW:=hs ds;simp only[cW]at DW;split at DW
 .rename_i sx sr hx lV;cases DW;split at lV
  .rename_i sy st hy ht;cases lV;have h:=h ds;simp only[ia]at h;refine calls_of_wp_defers hf hb (h1 _ ?_);have fin:∀{e:Exit} {a':Act} {w':World},@jr P (dS P ds) M w0 fn.ntmps (lZ res fun r σ=>∃x,r= .ret x/\Q x σ) e a' w'->bodyPostD P fn (fun e w'=>∃M' r af,M.le M'/\Inv P M' w0 af w'/\jV M' r e/\∃x,r= .ret x/\Q x af) e a' w':=by
    rintro e a' w' ⟨M',al,af,hM,bg,lQ,hN,hD,hq⟩;have bg:=Inv.oD bg;have hD:a'.defers=ds:=hD;have fin:∀x,cZ al af res=some x->Q x af->Leaves P fn a'.tmps (fun e w'=>∃M' r af,M.le M'/\Inv P M' w0 af w'/\jV M' r e/\∃x,r= .ret x/\Q x af) a'.defers .returning w':=by
     intro x hx hQ;rw[hD];refine h2 fn a'.tmps _ M' w0 af w' bg fun BQ It=>?_;unfold cZ at hx;have cY:∀xs,nj al af res=some xs->∃vs,(fn.results.mapM (yH a'.tmps):Sem (Array Value)).run P BQ= .ok vs.toArray BQ/\RL M' xs vs:=by intro xs di;obtain⟨vs,h1,h2⟩:=KG fn.results.toList res xs hr di It lQ;exact⟨vs,by rw[Array.mapM_eq_mapM_toList,Sem.run_map,h1];rfl,h2⟩
     split at hx
     .rename_i y hy;cases hx;obtain⟨vs,h1,h2⟩:=cY _ hy;obtain⟨v,vs',rfl,h3,h4⟩:=h2.aZ;obtain rfl:=h4.qD;refine⟨v,?_,M',.ret x,af,hM,It,h3,x,rfl,hQ⟩;rw[EU,Sem.run_bind,h1];simp
     .rename_i xs aW hy;cases hx;obtain⟨vs,h1,h2⟩:=cY _ hy;refine⟨.tuple vs.toArray,?_,M',.ret (.aG xs),af,hM,It,R.ue h2,_,rfl,hQ⟩;rw[EU,Sem.run_bind,h1];simp only[Result.andThen_ok,Sem.run_pure];rw[dif_neg];intro bl;have oQ:xs.length=1:=by rw[h2.1];simpa using bl
      obtain⟨y,rfl⟩:=List.length_eq_one_iff.1 oQ;exact aW y rfl
     grind
    cases e with
    |normal=>obtain⟨x,hx,y,e,hQ⟩:=hq;cases e;exact fin x hx hQ
    |ret=>obtain⟨x,hx,y,e,hQ⟩:=hq;cases e;exact fin x hx hQ
    |panic ch=>obtain⟨_,e,_⟩:=hq;cases e
    |_=>exact hq.elim
   refine uY (h x hx M w0 _ w (Inv.tD hI) (GC as cs 0 _ hl (fun i v hv=>?_)) (by simp;omega) rfl) ?_
   .have hi:i<cs.length:=(ZG.1 hv).1;rw[ZH,Array.getElem?_append_left (by simpa using hi)];simpa using hv
   .rintro e a1 w1 ⟨M1,so,aR,k1,k2,k3,k4,k5,k6⟩;cases e with
    |normal=>
     refine uY (k6 y hy M1 w0 a1 w1 k2 k3 k4 k5) ?_;rintro e a2 w2 ⟨M2,bK,aK,g1,g2,g3,g4,g5,g6⟩;cases e with
     |normal=>exact wp_mono (pS (g6 t ht M2 w0 a2 w2 g2 g3 g4 g5)) fun e a w ⟨M3,eZ,IF,q1,q2⟩=>fin ⟨M3,eZ,IF,(k1.trans g1).trans q1,q2⟩
     |ret=>exact fin (e:=.ret) ⟨M2,bK,aK,k1.trans g1,g2,g3,g4,g5,g6⟩|exit i=>exact fin (e:=.exit i) ⟨M2,bK,aK,k1.trans g1,g2,g3,g4,g5,g6⟩|goto i=>exact fin (e:=.goto i) ⟨M2,bK,aK,k1.trans g1,g2,g3,g4,g5,g6⟩|panic i=>exact fin (e:=.panic i) ⟨M2,bK,aK,k1.trans g1,g2,g3,g4,g5,g6⟩|outgrown=>exact fin (e:=.outgrown) ⟨M2,bK,aK,k1.trans g1,g2,g3,g4,g5,g6⟩
    |ret=>exact fin (e:=.ret) ⟨M1,so,aR,k1,k2,k3,k4,k5,k6⟩|exit i=>exact fin (e:=.exit i) ⟨M1,so,aR,k1,k2,k3,k4,k5,k6⟩|goto i=>exact fin (e:=.goto i) ⟨M1,so,aR,k1,k2,k3,k4,k5,k6⟩|panic i=>exact fin (e:=.panic i) ⟨M1,so,aR,k1,k2,k3,k4,k5,k6⟩|outgrown=>exact fin (e:=.outgrown) ⟨M1,so,aR,k1,k2,k3,k4,k5,k6⟩
  grind
 grind
def Fi(o:Oper):Oper:=match o.op with
 |.defer _=>{o with op:=.move (.const (.bool false)),dst:=none}
 |_=>o
def mj:Code->Code
 |.region id ops d=>.region id (ops.toList.map Fi).toArray d|.seq a b=>.seq (mj a) (mj b)|.cond c a b=>.cond c (mj a) (mj b)|.block id b=>.block id (mj b)|.loop b=>.loop (mj b)|c=>c
def uW(P:Program)[Glob P](fn:Func):Option FC:=match fn.body with
 |some c=>match cW P fn.ntmps (mj c),qZ P fn.results.toList with
  |some s,some r=>some ⟨fn.ntmps,s,r⟩|_,_=>none
 |none=>none
structure B5(P:Program)[Glob P](f:FuncId)(N:Nat)(a:AC)(res:List RC):Type where
 ex:∃fn,P.funcs[f]? =some fn/\∀ds,@uW P (dS P ds) fn=some ⟨N,a.erase,res⟩
theorem Mv{P:Program}[Glob P]{f:FuncId}{fn:Func}{N:Nat}{a:AC}{res:List RC}(hf:P.funcs[f]? =some fn)(h:∀ds,(@uW P (dS P ds) fn).map qS=some (N,a,res)):∃fn,P.funcs[f]? =some fn/\∀ds,@uW P (dS P ds) fn=some ⟨N,a.erase,res⟩:=
 ⟨fn,hf,fun ds=>by
  obtain⟨c,h1,h2⟩:=Z8.1 (h ds);obtain⟨rfl,rfl,rfl⟩:=h2
  rw[qR];omega⟩
def kd{P:Program}[Glob P]{f:FuncId}{fn:Func}{N:Nat}{a:AC}{res:List RC}(hf:P.funcs[f]? =some fn)(h:∀ds,(@uW P (dS P ds) fn).map qS=some (N,a,res):=by intro ds;conv=>{lhs;cbv;try simp(maxSteps:=10000000)only[yn,UInt8.reduceOfNat,Int.reduceOfNat,Int.reduceNegSucc,ym]}):B5 P f N a res:=⟨Mv hf h⟩
def qK(P:Program)[Glob P](fn:Func):Prop:=∃c x y t,fn.body=some c/\mj c= .seq x (.seq y t)/\∀(cs:List Value) (w:World),∃ds,(∀post,iK P x (Exit.then (iK P y (Exit.then (t.wp P post) post)) post) {tmps:=cs.toArray++Array.replicate (fn.ntmps-cs.toArray.size) undef,defers:=ds} w->c.wp P post {tmps:=cs.toArray++Array.replicate (fn.ntmps-cs.toArray.size) undef,defers:=[]} w)/\Idle P ds
theorem qK.of{P:Program}[Glob P]{fn:Func}{r0 r1 T:Code}(hb:fn.body=some (.seq r0 (.seq r1 T)))(hT:mj T=T)
  (h:∀(cs:List Value) (w:World),∃ds,(∀(T:Code) post,iK P (mj r0) (Exit.then (iK P (mj r1) (Exit.then (T.wp P post) post)) post) {tmps:=cs.toArray++Array.replicate (fn.ntmps-cs.toArray.size) undef,defers:=ds} w->(Code.seq r0 (.seq r1 T)).wp P post {tmps:=cs.toArray++Array.replicate (fn.ntmps-cs.toArray.size) undef,defers:=[]} w)/\Idle P ds):qK P fn:=
 ⟨_,_,_,_,hb,rfl,fun cs w=>let⟨ds,h1,h2⟩:=h cs w;⟨ds,fun post h=>h1 T post (by grind),h2⟩⟩
theorem sV{post:Exit->Act->World->Prop}{A:Prop}{K K':Act->World->Prop}(h:A/\LetsOut (Exit.then K post)):A/\LetsOut (Exit.then K' post):=let⟨h1,a,w,h2⟩:=h;⟨h1,a,w,h2⟩
theorem B5.r{P:Program}[Glob P][ij P]{f N:Nat}{a:AC}{res:List RC}(k:B5 P f N a res){fn:Func}(hf:P.funcs[f]? =some fn)(hd:qK P fn):nr P f N a.erase res:=by
 obtain⟨Oi,h1,h2⟩:=k.ex;rw[hf]at h1;cases h1;obtain⟨c,x,y,t,hb,he,hd⟩:=hd;have h3:=h2 [];unfold uW at h3;rw[hb]at h3;simp only at h3;split at h3
 .rename_i s r hs hr;cases h3;rw[Ox]at hr;refine nr.door hf hb rfl hr (fun ds=>?_) hd;have h4:=h2 ds;unfold uW at h4;grind
 grind
def Kf:Operand->Operand->Bool
 |.tmp a,.tmp b=>Nat.beq a b|.func a,.func b=>Nat.beq a b|.const (.int k i),.const (.int k' j)=>decide (k=k')&&oZ i j|.const (.string a),.const (.string b)=>uy a b|.const (.bool a),.const (.bool b)=>a == b|_,_=>false
theorem ais{a b:Operand}(h:Kf a b=true):a=b:=by
 unfold Kf at h;split at h
 .simp_all
 .simp_all
 .simp only[Z6,ZQ,A3]at h;grind
 .rw[K7,ZQ]at h;rw[h]
 .grind
 grind
def ly:List Operand->List Operand->Bool
 |[],[]=>true|a::x,b::y=>Kf a b&&ly x y|_,_=>false
theorem Bk:∀{a b:List Operand},ly a b=true->a=b
 |[],[],_=>rfl|a::x,b::y,h=>by simp only[ly,Z6]at h;rw[ais h.1,Bk h.2]
def J4(op:Op)(ti:List TI)(args:List Operand)(as:List AV)(d n:Nat)(σ:Store):XO:=match op with
 |.makeMap t none=>match ti,args,as with
  |_,[],[]=>some (.bJ d n,(d,n,.map [] 0)::σ,n+1)|_,_,_=>none
 |.insert t m k x=>match ti,as with
  |[.mp kt vt,q],[.bJ tg b,.v key,v]=>match lY q,aV σ tg with
   |some kd,some (b',.map es ck)=>bif Nat.beq b b'&&ly args [m,k,x]then match fu kd key es with
    |some none=>some (.v undef,du σ tg b (.map (es++[(key,ck,v)]) (ck+1)),n)|_=>none
    else none
   |_,_=>none
  |_,_=>none
 |.lookup t m k b2=>match ti,as with
  |[.mp kt vt,q],[.bJ tg b,.v key]=>match lY q,aV σ tg with
   |some kd,some (b',.map es ck)=>bif Nat.beq b b'&&ly args [m,k]then match fu kd key es with
    |some (some v)=>some (bif b2 then .aG [v,.v (.bool true)]else v,σ,n)|_=>none
    else none
   |_,_=>none
  |_,_=>none
 |_=>none
section
variable {P:Program}[Glob P]{σ:Store}
theorem Vi{tg b ck:Nat}{es:List (Value×Nat×AV)}{t ty kt vt:TypeId}{q:TI}{kd:TypeDesc}{m k:Operand}{key:Value}{v:AV}(hp:lY q=some kd)(hl:aV σ tg=some (b,.map es ck))(hf:fu kd key es=some (some v)):
  fH P (.lookup t m k true) ty [.mp kt vt,q] [m,k] [.bJ tg b,.v key] σ fun y af=>y= .aG [v,.v (.bool true)]/\af=σ:=by
 intro bu M w0 w Y hI hR;simp only[ey,Z2,Zn]at bu;have ht:=uA bu.1;have hk:P.underlying kt=some kd:=by have:=bu.2;unfold A6 at this;rw[ht]at this;exact EJ hp this
 obtain⟨v1,cB,e1,h1,bV⟩:=hR.aZ;obtain⟨v2,e2,h2⟩:=bV.cR;subst e2;simp at e1;obtain⟨hM,l,hh,gi,gU⟩:=hI.rh hl;have g1:=h1.qs;have g2:=h2.aC;subst g1 g2;obtain⟨j,u,jC,hu⟩:=C7 (M:=M) 0 gi gU hf;refine⟨.value (.tuple #[u,.bool true]),w,M,_,.tuple #[u,.bool true],σ,?_,rfl,Mem.le.refl _,hI,R.ue (cs:=[_,_]) (RL.cons hu (RL.cons (.v _) RL.nil)),rfl,rfl⟩;simp only[execOp,e1.1,e1.2,Instr.lookup,Sem.run_bind,aX ht,Result.andThen_ok,getObj,Sem.run,hh,run_checkKey hp hk,Instr.findKey,aX hk,jC,Sem.run_pure];rfl
end
theorem Hw(B:BM)(kd:TypeDesc)(k:Value):∀(es:List (Value×Nat×AV)),fu kd k (es.map fun e=>(e.1,e.2.1,au B e.2.2))=(fu kd k es).map (·.map (au B))
 |[]=>rfl|e::es=>by
  simp only[Zz,fu];split
  .rfl
  .exact Hw B kd k es
  .rfl
theorem N9{kd:TypeDesc}{k:Value}:∀{es:List (Value×Nat×AV)} {v:AV},fu kd k es=some (some v)->∃e∈es,e.2.2=v
 |e::es,v,h=>by
  simp only[fu]at h;split at h
  .grind
  .obtain⟨e',h1,h2⟩:=N9 h;grind
  grind
theorem cI.get{n:Nat}:∀{σ:Store} {t b:Nat} {x:aE},cI n σ->aV σ t=some (b,x)->∀B B',Agree n B B'->(B b).1=(B' b).1/\fE B b x=fE B' b x
 |(i,b0,x0)::σ,t,b,x,h,hl,B,B',k=>by
  have h1:=h B B' k;simp only[aS,Z2,YX,Yg]at h1;simp only[aV]at hl;cases hb:Nat.beq i t with
  |true=>grind|false=>rw[hb]at hl;refine cI.get (σ:=σ) (n:=n) (fun B B' k=>?_) hl B B' k;have h1:=h B B' k;simp only[aS,Z2]at h1;grind
theorem ahE{P:Program}[Glob P]{op:Op}{ty:TypeId}{ti:List TI}{args:List Operand}{as:List AV}{d n:Nat}{σ:Store}{x:AV}{af:Store}{n':Nat}(h:J4 op ti args as d n σ=some (x,af,n'))(hL:sK n as)(hS:cI n σ):
  n<=n'/\gZ n' x/\cI n' af/\∀B S,fH P op ty ti args (aI B as) (aS B σ++S) fun r X=>∃B',Agree n B B'/\r=au B' x/\X=aS B' af++S:=by
 unfold J4 at h;split at h
 .split at h
  .cases h;refine⟨Nat.le_succ _,fun B B' k=>?_,fun B B' k=>?_,fun B S=>?_⟩
   .simp only[au,k n (Yc _)]
   .simp only[aS,k n (Yc _),hS B B' (k.le (Nat.le_succ _))];rfl
   .refine(L8 d).mono ?_;rintro y X ⟨b,rfl,rfl⟩;have hA:Agree n B (fun i=>if i=n then(b,0,0)else B i):=fun i hi=>(Z9 (by omega)).symm;refine⟨_,hA,?_,?_⟩
    .simp only[au,YK]
    .simp only[aS,YK,<-hS B _ hA];rfl
  grind
 .split at h
  .rename_i kt vt q tg b key v;split at h
   .rename_i kd b' es ck hp hl;cases hb:(Nat.beq b b'&&ly args [_,_,_])with
    |false=>rw[hb]at h;grind|true=>
     rw[hb]at h;simp only[Y8]at h;simp only[Z6]at hb;have e:=Z0 hb.1;subst e;have e:=Bk hb.2;subst e;split at h
     .rename_i hf;cases h;have hv:∀B B',Agree n B B'->au B v=au B' v:=fun B B' k=>by
       have:=hL B B' k;simp only[aI,Z2]at this;grind
      have hu:∀B,du (aS B σ) tg (B b).1 (.map ((es.map fun e=>(e.1,e.2.1,au B e.2.2))++[(key,ck,au B v)]) (ck+1))=aS B (du σ tg b (.map (es++[(key,ck,v)]) (ck+1))):=fun B=>by have:=BP (B:=B) (S:=[]) σ tg b (.map (es++[(key,ck,v)]) (ck+1)) b _ hl;simpa[fE]using this
      refine⟨ZO _,fun _ _ _=>rfl,fun B B' k=>?_,fun B S=>?_⟩
      .rw[<-hu,<-hu,hS B B' k,hv B B' k];obtain⟨g1,g2⟩:=hS.get hl B B' k;simp only[fE,aE.map.injEq,Zn]at g2;rw[g1,g2]
      .have h1:=wm (B:=B) (S:=S) σ tg b _ hl;refine(L4 (v:=au B v) hp h1 (by rw[Hw,hf];rfl)).mono ?_;rintro y X ⟨rfl,rfl⟩;refine⟨B,.refl _ _,rfl,?_⟩;have:=BP (B:=B) (S:=S) σ tg b (.map (es++[(key,ck,v)]) (ck+1)) b _ hl;rw[<-this];simp[fE]
     grind
   grind
  grind
 .rename_i b2;split at h
  .rename_i kt vt q tg b key;split at h
   .rename_i kd b' es ck hp hl;cases hb:(Nat.beq b b'&&ly args [_,_])with
    |false=>rw[hb]at h;cases h|true=>
     rw[hb]at h;simp only[Y8]at h;simp only[Z6]at hb;have e:=Z0 hb.1;subst e;have e:=Bk hb.2;subst e;split at h
     .rename_i v hf;cases h;have hv:gZ n v:=fun B B' k=>by
       obtain⟨e,h1,rfl⟩:=N9 hf;have g2:=(hS.get hl B B' k).2;simp only[fE,aE.map.injEq,Zn]at g2;have:=(List.map_inj_left.1 g2) e h1;simp only[YX,Yg]at this;exact this
      refine⟨ZO _,fun B B' k=>?_,hS,fun B S=>?_⟩
      .cases b2
       .exact hv B B' k
       .simp only[Y8,au,aI,hv B B' k]
      .have h1:=wm (B:=B) (S:=S) σ tg b _ hl;have h2:fu kd key (es.map fun e=>(e.1,e.2.1,au B e.2.2))=some (some (au B v)):=by rw[Hw,hf];rfl
       cases b2
       .refine(L5 hp h1 h2).mono ?_;rintro y X ⟨rfl,rfl⟩;exact⟨B,.refl _ _,rfl,rfl⟩
       .refine(Vi hp h1 h2).mono ?_;rintro y X ⟨rfl,rfl⟩;exact⟨B,.refl _ _,rfl,rfl⟩
     .cases h
   .cases h
  .cases h
 grind
def Lb(s:ByteArray)(a b:Int):ByteArray:=⟨((s.data.toList.drop a.toNat).take (b.toNat-a.toNat)).toArray⟩
theorem alo(s:ByteArray)(a b:Int):Lb s a b=s.extract a.toNat b.toNat:=by refine ByteArray.ext ?_;apply Ym;simp[Lb,List.extract_eq_take_drop]
def isStr:AV->Bool
 |.v (.string _)=>true|_=>false
def qU(n:Int):List AV:=[.v (.int .u8 n)]
theorem Ln:∀{rows:List (List AV)} {ns:List Int},lE rows=some ns->rows=ns.map qU
 |[],ns,h=>by cases h;rfl|[.v (.int .u8 n)]::l,ns,h=>by
  simp only[lE,Z8]at h;obtain⟨m,h1,rfl⟩:=h;rw[Ln h1];rfl
theorem LH:∀(l:List Int),ig (l.map qU)=some (l.map qU)
 |[]=>rfl|n::l=>by show(match SO (qU n),ig (l.map qU)with|some y,some m=>some (y::m)|_,_=>none)=_;rw[show SO (qU n)=some (qU n)from rfl,LH l];rfl
def K8(op:Op)(ty:TypeId)(ti:List TI)(args:List Operand)(as:List AV):Option AV:=match op with
 |.slice t x lo hi none=>match ti with
  |[.str]=>bif ly args (x::(lo.toList++hi.toList))then match K1 lo hi as with
   |some (s,a,b)=>bif fi 0 a&&fi a b&&fi b (Int.ofNat s.data.toList.length)then some (.v (.string (Lb s a b)))else none|none=>none
   else none
  |_=>none
 |.slice t x none (some h0) (some m0)=>bif ly args [x,h0,m0]then match ti,as with
  |[.sl _,.sz _],[.v (.slice none 0 0),.v (.int _ (.ofNat 0)),.v (.int _ (.ofNat 0))]=>some (.v (.slice none 0 0))|[.sl _,.sz e],[.sl nn e' rows,.v (.int k (.ofNat h)),.v (.int k' (.ofNat m))]=>match lE rows with
   |some ns=>bif Nat.beq e e'&&Nat.beq h m&&Nat.blt 0 h&&Nat.ble h rows.length then some (.fl e ((ns.take h).map qU))else none|none=>none
  |_,_=>none
  else none
 |.slice t x (some l0) (some h0) (some m0)=>bif ly args [x,l0,h0,m0]then match ti,as with
  |[.sl _,.sz e],[.sl nn e' rows,.v (.int Ee (.ofNat l)),.v (.int k (.ofNat h)),.v (.int k' (.ofNat m))]=>match lE rows with
   |some ns=>bif Nat.beq e e'&&Nat.beq h m&&Nat.ble h rows.length then(bif Nat.blt l h then some (.sl true e (((ns.take h).drop l).map qU))else bif Nat.beq l h&&Nat.blt 0 rows.length then some (.sl true e [])else none)else none|none=>none
  |_,_=>none
  else none
 |.convert src dst x=>bif ly args [x]then match ti,as with
  |[.str,q,.sl e,.int .u8],[.v (.string s)]=>bif Nat.ble s.data.toList.length 1000000 then some (.sl true 1 (s.data.toList.map dB))else none|[.sl e,.int .u8,.str,q],[v]=>bif isStr v then none else match qH 1 v with
   |some rows=>match lE rows with
    |some ns=>some (.v (.string (mC ns)))|none=>none
   |none=>none
  |_,_=>none
  else none
 |_=>none
theorem UC:∀(l:List UInt8),ig (l.map dB)=some (l.map dB)
 |[]=>rfl|b::l=>by have h:SO (dB b)=some (dB b):=rfl;show(match SO (dB b),ig (l.map dB)with|some y,some m=>some (y::m)|_,_=>none)=_;rw[h,UC l];rfl
theorem Rb(s:ByteArray):s.data.toList.length=s.size:=Zu
theorem EF{a b:List Operand}{p:Type}{x:Option p}{y:p}(h:(bif ly a b then x else none)=some y):a=b/\x=some y:=by
 cases e:ly a b with
 |true=>rw[e]at h;exact⟨Bk e,h⟩|false=>grind
set_option maxRecDepth 10000 in
theorem alj{P:Program}[Glob P]{op:Op}{ty:TypeId}{ti:List TI}{args:List Operand}{as:List AV}{r:AV}(h:K8 op ty ti args as=some r):jU P op ty ti args as r/\bM r=some r:=by
 unfold K8 at h;split at h
 .split at h
  .obtain⟨rfl,h2⟩:=EF h;revert h2;clear h;intro h;split at h
   .rename_i s a b hs;obtain⟨hb,h⟩:=fY h;subst h;simp only[Z6,nM,ZQ,Rb]at hb;rw[alo];exact⟨Vh hs ⟨hb.1.1,hb.1.2,hb.2⟩,rfl⟩
   .cases h
  .cases h
 .obtain⟨rfl,h2⟩:=EF h;revert h2;clear h;intro h;split at h
  .cases h;exact⟨Vg,rfl⟩
  .split at h
   .rename_i ns rB;obtain⟨hb,h⟩:=fY h;subst h;simp only[Z6]at hb;have e1:=Z0 hb.1.1.1;have e2:=Z0 hb.1.1.2;subst e1 e2;have hr:=Ln rB;subst hr;refine⟨?_,by simp only[bM,LH,ZJ]⟩;rw[XJ];exact Vd (by have:=hb.1.2;rwa [Yw]at this) (ZE hb.2)
   .cases h
  .cases h
 .obtain⟨rfl,h2⟩:=EF h;revert h2;clear h;intro h;split at h
  .split at h
   .rename_i ns rB;have hr:=Ln rB;subst hr;cases hb:(Nat.beq _ _ && Nat.beq _ _ && Nat.ble _ _)with
    |false=>rw[hb]at h;cases h|true=>
     rw[hb]at h;simp only[Y8]at h;simp only[Z6]at hb;have e1:=Z0 hb.1.1;have e2:=Z0 hb.1.2;subst e1 e2;have hle:=ZE hb.2;cases hl:Nat.blt _ _ with
     |true=>rw[hl]at h;cases h;refine⟨?_,by simp only[bM,LH,ZJ]⟩;rw[Xn,XJ];exact Vf (by rwa [Yw]at hl) hle|false=>
      rw[hl]at h;simp only[Yx]at h;cases hq:(Nat.beq _ _ && Nat.blt 0 _)with
      |false=>rw[hq]at h;cases h|true=>
       rw[hq]at h;cases h;simp only[Z6]at hq;have e3:=Z0 hq.1;subst e3;exact⟨Ve (by have:=hq.2;rwa [Yw]at this) hle,rfl⟩
   .cases h
  .cases h
 .obtain⟨rfl,h2⟩:=EF h;revert h2;clear h;intro h;split at h
  .rename_i q e s;obtain⟨hb,h⟩:=fY h;subst h;rw[Rb]at hb;exact⟨Gc (ZD (ZE hb) (by decide)),by simp only[bM,UC,ZJ]⟩
  .rename_i e q v;cases hv:isStr v with
   |true=>rw[hv]at h;cases h|false=>
    rw[hv]at h;simp only[Yx]at h;split at h
    .rename_i rows hr;split at h
     .rename_i ns hn;cases h;exact⟨zg (UU hr) (fun⟨s,e⟩=>by subst e;cases hv) hn,rfl⟩
     .cases h
    .cases h
  .cases h
 .cases h
def FJ:Value->Value->Bool
 |.int k a,.int k' b=>decide (k=k')&&oZ a b|.bool a,.bool b=>a == b|.string a,.string b=>uy a b|.slice none n c,.slice none n' c'=>Nat.beq n n'&&Nat.beq c c'|.nilFunc,.nilFunc=>true|.nilIface,.nilIface=>true|_,_=>false
theorem Ug{a b:Value}(h:FJ a b=true):a=b:=by
 unfold FJ at h;split at h
 .simp only[Z6,ZQ,A3]at h;grind
 .grind
 .rw[K7,ZQ]at h;rw[h]
 .simp_all
 .rfl
 .rfl
 grind
def yY:List Value->List AV->Bool
 |[],[]=>true|v::l,.v w::m=>FJ v w&&yY l m|.slice none 0 0::l,.sl false _ []::m=>yY l m|_,_=>false
mutual
def jX:AV->AV->Bool
 |.v (.slice none 0 0),.sl nn _ rows=>!nn&&JQ rows|.v (.agg cs),.agg ys=>yY cs.toList ys|.v a,.v b=>FJ a b|.agg xs,.agg ys=>ox xs ys|.aG xs,.aG ys=>ox xs ys|.pc xs,.pc ys=>ox xs ys|.sl nn e rows,.sl Bg e' rows'=>(nn || !Bg)&&Nat.beq e e'&&zu rows rows'|.fl e rows,.sl _ e' rows'=>Nat.beq e e'&&zu rows rows'|_,_=>false
def ox:List AV->List AV->Bool
 |[],[]=>true|x::l,y::m=>jX x y&&ox l m|_,_=>false
def zu:List (List AV)->List (List AV)->Bool
 |[],[]=>true|x::l,y::m=>ox x y&&zu l m|_,_=>false
end
theorem LB:∀{l:List Value} {m:List AV},yY l m=true->cj (l.map .v) m
 |[],[],_=>.nil|v::l,.v w::m,h=>by simp only[yY,Z6]at h;exact .cons (.ED (by rw[Ug h.1])) (LB h.2)|.slice none 0 0::l,.sl false _ []::m,h=>.cons .nil (LB (by assumption))
theorem Wk.Ue{cs:Array Value}:Wk (.v (.agg cs)) (.agg (cs.toList.map .v)):=fun M v h=>by rw[h.aC];exact R.rM (RL.exact cs.toList)
mutual
theorem aaq:∀{x y:AV},jX x y=true->Wk x y
 |.v x,y,h=>by
  unfold jX at h;split at h
  .rename_i nn e rows hx;cases hx;cases nn<;>cases rows<;>simp only[JQ,Bool.not_true,Xt,Bool.and_true,Bool.and_false,Bool.true_and,Bool.false_and,ZT]at h;exact .nil
  .rename_i cs ys hx;cases hx;exact Wk.Ue.trans (.agg (LB h))
  .rename_i hx;cases hx;exact .ED (by rw[Ug h])
  all_goals first|(rename_i hx;cases hx;done)|(rename_i hx _;cases hx;done)|(cases h;done)|(rename_i hx _ _;cases hx;done)
 |.agg xs,y,h=>by cases y<;>simp only[jX,ZT]at h;exact .agg (sW h)|.aG xs,y,h=>by cases y<;>simp only[jX,ZT]at h;exact .aG (sW h)|.pc xs,y,h=>by cases y<;>simp only[jX,ZT]at h;exact .Km (sW h)|.sl nn e rows,y,h=>by cases y<;>simp only[jX,ZT]at h;rename_i Bg e' rows';simp only[Z6]at h;have he:=Z0 h.1.2;subst he;have h1:=Wk.E9 (nn:=nn) (e:=e) (GF h.2);cases nn<;>cases Bg<;>first|exact h1|exact h1.trans .sl|(exact absurd h.1.1 (by decide))
 |.any,y,h=>by cases y<;>simp only[jX,ZT]at h|.own ..,y,h=>by cases y<;>simp only[jX,ZT]at h|.ms ..,y,h=>by cases y<;>simp only[jX,ZT]at h|.lp ..,y,h=>by cases y<;>simp only[jX,ZT]at h|.bJ ..,y,h=>by cases y<;>simp only[jX,ZT]at h|.dD ..,y,h=>by cases y<;>simp only[jX,ZT]at h|.ai ..,y,h=>by cases y<;>simp only[jX,ZT]at h|.cl ..,y,h=>by cases y<;>simp only[jX,ZT]at h|.fl e rows,y,h=>by
  cases y<;>simp only[jX,ZT]at h;rename_i Bg e' rows';simp only[Z6]at h;have he:=Z0 h.1;subst he;exact(Wk.HQ (GF h.2)).trans (fun _ _ k=>k.HT Bg)
theorem sW:∀{l m:List AV},ox l m=true->cj l m
 |[],[],_=>.nil|x::l,y::m,h=>by simp only[ox,Z6]at h;exact .cons (aaq h.1) (sW h.2)
theorem GF:∀{l m:List (List AV)},zu l m=true->w9 l m
 |[],[],_=>⟨rfl,fun i h=>absurd h (by simp)⟩
 |x::l,y::m,h=>by
  simp only[zu,Z6]at h;obtain⟨e,k⟩:=GF h.2;have hx:=sW h.1;refine⟨by simp[e],fun i h1 h2=>?_⟩;cases i with
  |zero=>exact hx|succ i=>simpa using k i (by simpa using h1) (by simpa using h2)
end
structure eF(P:Program)[Glob P](f:FuncId)(as:List AV)(r:AV):Prop where
 pure:Pure P f as r
 wk:bM r=some r
def Eo:List (FuncId×List AV×AV)->FuncId->List AV->Option AV
 |[],_,_=>none|(g,as',r)::l,f,as=>bif Nat.beq g f&&ox as as' then some r else Eo l f as
def Kt(l:List (FuncId×List AV×AV))(f:FuncId)(as:List AV):Option AV:=bif l.any (fun e=>Nat.beq e.1 f)then match SO as with
 |some as=>Eo l f as|none=>none
 else none
theorem Ri{P:Program}[Glob P]:∀{l:List (FuncId×List AV×AV)} (_:∀e∈l,eF P e.1 e.2.1 e.2.2) {f:FuncId} {as:List AV} {r:AV},Eo l f as=some r->∃as',eF P f as' r/\cj as as'
 |[],_,f,as,r,h=>by cases h|e::l,hl,f,as,r,h=>by
  obtain⟨g,as',r'⟩:=e;simp only[Eo]at h;cases hb:(Nat.beq g f&&ox as as')with
  |true=>rw[hb]at h;cases h;simp only[Z6]at hb;have e:=Z0 hb.1;subst e;exact⟨as',hl _ ZK,sW hb.2⟩|false=>rw[hb]at h;exact Ri (fun e he=>hl e (ZN _ he)) h
theorem aiW{P:Program}[Glob P]{T:XT}{l:List (FuncId×List AV×AV)}(hT:T.pure=Kt l)(hl:∀e∈l,eF P e.1 e.2.1 e.2.2):Cg P T:=by
 intro f as r h;rw[hT]at h;unfold Kt at h;cases hb:l.any (fun e=>Nat.beq e.1 f)with
 |false=>grind|true=>
  rw[hb]at h;split at h
  .rename_i Cx has;obtain⟨as',k1,k2⟩:=Ri hl h;exact⟨fun B=>BS k1.wk,fun B=>⟨fun σ=>(k1.pure.sp σ).wk ((su (uH has)).trans k2)⟩⟩
  grind
