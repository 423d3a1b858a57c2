import Derived.Test.YtmemninechdogaaGreatDoorSxEx8
import Derived.Test.YtmemninechdogaaGreatDoorSxZ
set_option linter.all false
namespace Go.Sx
open Go.RowKit
section
variable {B:BM}
theorem KB(a b:Store):aS B (a++b)=aS B a++aS B b:=by
 induction a with
 |nil=>rfl|cons e a ih=>obtain⟨t,b',x⟩:=e;simp only[ZB,aS,ih]
theorem Cv:∀(as:List AV) (k:Nat),bP B (fJ k as)=fJ k (aI B as)
 |[],_=>rfl|x::l,k=>by simp only[fJ,bP,aI,Cv l]
theorem ajd{rg:ag}{q S:Store}{r:RC}{x:AV}(h:nZ rg q r=some x):nZ (bP B rg) (aS B q++S) r=some (au B x):=by
 cases r with
 |tmp t=>simp only[nZ,ZV]at h|-;subst h;exact mZ rg t|cell t g n=>
  simp only[nZ,mZ]at h|-;split at h
  .rename_i tg b o hx;rw[hx];simp only[au];split at h
   .rename_i b' l hl;rw[wm _ _ _ _ hl];split at h
    .rename_i e;subst e;simp only[fE,YK];cases g with
     |true=>
      simp only[YK]at h|-;split at h
      .rename_i hc;cases h;rw[pk,Z3 hc];simp only[au,ER,wB]
      .cases h
     |false=>simp only[ZT,YU]at h|-;rw[EP,h];rfl
    .cases h
   .cases h
  .cases h
theorem S2{rg:ag}{q S:Store}:∀{l:List RC} {xs:List AV},nj rg q l=some xs->nj (bP B rg) (aS B q++S) l=some (aI B xs)
 |[],_,h=>by cases h;rfl|r::l,xs,h=>by
  simp only[nj]at h|-;cases hr:nZ rg q r with
  |none=>rw[hr]at h;cases h|some x=>
   rw[hr]at h;obtain⟨ys,h1,rfl⟩:=Z8.1 h;rw[ajd hr,S2 h1];rfl
theorem KD{rg:ag}{q S:Store}{l:List RC}{x:AV}(h:cZ rg q l=some x):cZ (bP B rg) (aS B q++S) l=some (au B x):=by
 unfold cZ at h|-;cases hl:nj rg q l with
 |none=>rw[hl]at h;cases h|some xs=>
  rw[hl]at h;rw[S2 hl]
  match xs,h with
  |[],h=>cases h;rfl|[y],h=>cases h;rfl|y::z::l,h=>cases h;rfl
end
section
variable {P:Program}[Glob P][ij P]{T:XT}
theorem GL{call:FuncId->List AV->Store->Nat->XO}(hc:iY P call){f:FuncId}{as:List AV}{n:Nat}{r:AV}(h:pM call f as n=some r):(∀B,au B r=r)/\Pure P f as r:=by
 unfold pM at h;split at h
 .cases h
 .rename_i Cx has;split at h
  .rename_i x aR n1 hx;have hf:∀B,aI B Cx=Cx:=fun B=>uG has;obtain⟨_,_,_,h4⟩:=hc _ _ _ _ _ _ _ hx (fun B B' _=>by rw[hf,hf]) (fun _ _ _=>rfl);refine⟨fun B=>BS h,⟨fun q=>?_⟩⟩;have h5:=h4 (fun _=>(0,0,0)) q;rw[hf]at h5;refine(h5.wk (su has)).EK ?_;rintro _ _ ⟨B',hA,rfl,rfl⟩;exact⟨.ret r,q,⟨rfl,rfl⟩,dA.drop,LG (LD h)⟩
  .cases h
theorem ML{call:FuncId->List AV->Store->Nat->XO}(hc:iY P call):oh P (pM call):=fun f as n r h=>
 ⟨(GL hc h).1,fun B=>(GL (as:=aI B as) hc (by
  unfold pM at h|-;split at h
  .cases h
  .rename_i Cx has;rw[uH has];exact h)).2⟩
def Cg(P:Program)[Glob P](T:XT):Prop:=∀f as r,T.pure f as=some r->(∀B,au B r=r)/\∀B,Pure P f (aI B as) r
@[reducible] def dS (P:Program) [g:Glob P] (ds:List Deferred):Glob P:={g with df:=ds}
def nr(P:Program)[Glob P](f N:Nat)(s:SC)(res:List RC):Prop:=
 ∀(as:List AV) (q:Store) (Q:AV->Store->Prop),as.length<=N->(∀ds,@ia P (dS P ds) N 2 s (lZ res fun r q=>∃x,r= .ret x/\Q x q) (fJ 0 as) q)->Spec P f as q fun r af=>∃x,r= .ret x/\Q x af
def XT.Ch(P:Program)[Glob P](T:XT):Prop:=∀f N a res,T.code f=some (N,a,res)->nr P f N a.erase res
section
variable {ds:List Deferred}{M:Mem}{w0:Base}{w:World}{q:Store}
theorem Inv.tD(h:Inv P M w0 q w): @Inv P (dS P ds) M w0 q w:=@Inv.mk P (dS P ds) M w0 q w h.os h.tape h.output h.size h.old h.bZ h.st h.nd h.gl h.gw h.bm
theorem Inv.oD(h: @Inv P (dS P ds) M w0 q w):Inv P M w0 q w:=by cases h;constructor<;>assumption
theorem Spec.tD{f:FuncId}{ys:List AV}{Q:ik->Store->Prop}(h:Spec P f ys q Q): @Spec P (dS P ds) f ys q Q:=
 fun M w0 w cs hI hR=>(h M w0 w cs (Inv.oD hI) hR).mono fun e w' ⟨M',r,af,a,b,c⟩=>⟨M',r,af,a,Inv.tD b,c⟩
theorem fH.tD{op:Op}{ty:TypeId}{ti:List TI}{args:List Operand}{as:List AV}{Q:AV->Store->Prop}(h:fH P op ty ti args as q Q): @fH P (dS P ds) op ty ti args as q Q:=
 fun bu M w0 w u hI hR=>let⟨nx,w',M',x,v,af,h1,h2,h3,h4,h5,h6⟩:=h bu M w0 w u (Inv.oD hI) hR;⟨nx,w',M',x,v,af,h1,h2,h3,Inv.tD h4,h5,h6⟩
theorem XT.OK.tD(h:T.OK P): @XT.OK P (dS P ds) T:=@XT.OK.mk P (dS P ds) T h.gl h.Ic (fun _ _ _ _ _ _ e=>⟨@jU.mk P (dS P ds) _ _ _ _ _ _ fun q=>fH.tD ((h.uk _ _ _ _ _ _ e).1.sp q),(h.uk _ _ _ _ _ _ e).2⟩) h.can
theorem ku.tD(h:ku P T): @ku P (dS P ds) T:=fun op ty ti args as d n q x af n' e a b=>
 let⟨h1,h2,h3,h4⟩:=h op ty ti args as d n q x af n' e a b;⟨h1,h2,h3,fun B S=>fH.tD (h4 B S)⟩
theorem iY.tD{call:FuncId->List AV->Store->Nat->XO}(h:iY P call): @iY P (dS P ds) call:=fun f as q n x af n' e a b=>
 let⟨h1,h2,h3,h4⟩:=h f as q n x af n' e a b;⟨h1,h2,h3,fun B S=>Spec.tD (h4 B S)⟩
theorem Ox[h:ij P]:dS P []=(inferInstance:Glob P):=by rename_i g _;have e:=h.h;cases g;simp only[Glob.df]at e;subst e;rfl
theorem nr.nil{f N:Nat}{a:AC}{res:List RC}(k:∃fn,P.funcs[f]? =some fn/\j0 P fn=some ⟨N,a.erase,res⟩):nr P f N a.erase res:=by obtain⟨fn,h1,h2⟩:=k;intro as q Q hl h;refine Spec.intro (fc:=⟨N,a.erase,res⟩) h1 h2 hl ?_;have:=h [];rw[Ox]at this;exact this.sw
end
theorem abf{P:Program}[Glob P]{N:Nat}{a:AC}{res:List RC}{rg:ag}{q:Store}{e:XE}{n n1:Nat}{bw:ag}{aR:Store}{x:AV}(h:B6 P N 2 a.erase n rg q e bw aR n1)(he:e= .nrm\/e= .ret)(hr:cZ bw aR res=some x)(B:BM)(S:Store):
  ia P N 2 a.erase (lZ res fun r j=>∃x0,r= .ret x0/\∃B',Agree n B B'/\x0=au B' x/\j=aS B' aR++S) (bP B rg) (aS B q++S):=by
 refine(h.2.2.2 B S).mono ?_;rintro _ _ _ ⟨rfl,B',hA,rfl,rfl⟩;rcases he with rfl|rfl<;>exact⟨_,KD hr,_,rfl,B',hA,rfl,rfl⟩
theorem abg(iu:T.Ch P){f N:Nat}{a:AC}{res:List RC}{as:List AV}{q:Store}{e:XE}{n n1:Nat}{bw:ag}{aR:Store}{x:AV}(IH:T.code f=some (N,a,res))(hlen:Nat.ble as.length N=true)
  (h:∀ds,@B6 P (dS P ds) N 2 a.erase n (fJ 0 as) q e bw aR n1) (he:e= .nrm\/e= .ret) (hr:cZ bw aR res=some x):
  n<=n1/\gZ n1 x/\cI n1 aR/\∀B S,Spec P f (aI B as) (aS B q++S) fun r j=>∃B',Agree n B B'/\r= .ret (au B' x)/\j=aS B' aR++S:=by
 obtain⟨h1,h2,h3,_⟩:=h [];refine⟨h1,fun B B' k=>?_,h3,fun B S=>?_⟩
 .have e1:=KD (B:=B) (S:=[]) hr;have e2:=KD (B:=B') (S:=[]) hr;rw[h2 B B' k,h3 B B' k,e2]at e1;exact(YC e1).symm
 .refine(iu _ _ _ _ IH (aI B as) (aS B q++S) (fun x0 j=>∃B',Agree n B B'/\x0=au B' x/\j=aS B' aR++S) (by rw[pk];exact ZE hlen) fun ds=>?_).mono ?_
  .rw[<-Cv];exact @abf P (dS P ds) _ _ _ _ _ _ _ _ _ _ _ (h ds) he hr B S
  .rintro _ _ ⟨_,rfl,B',hA,rfl,rfl⟩;exact⟨B',hA,rfl,rfl⟩
theorem GN(ds:List Deferred){call:FuncId->List AV->Store->Nat->XO}(hc:iY P call): @oh P (dS P ds) (pM call):=fun f as n r h=>
 ⟨(ML hc f as n r h).1,fun B=>@Pure.mk P (dS P ds) _ _ _ fun q=>Spec.tD (((ML hc f as n r h).2 B).sp q)⟩
theorem alQ{P:Program}[Glob P]{T:XT}(hT:T.OK P)(ho:ku P T)(k:Nat)(ih:∀m,m<k+1->iY P (eC T m).call/\∀f n0 N,qI P N ((eC T m).turn f n0)/\ot P N ((eC T m).jump f n0))(II:∀m,m<k+1->oh P (pM (eC T m).call)):∀f n0 N,qI P N ((eC T (k+1)).turn f n0):=by
 intro f n0 N b rg q n e al af n' h hG hS
 have code:∀m,m<k+1->∀{rg:ag} {q:Store} {n:Nat} {e:XE} {al:ag} {af:Store} {n':Nat},sF T (eC T m) f n0 b rg q n=some (e,al,af,n')->db n rg->cI n q->sI P N b.erase n rg q e al af n':=
  fun m hm _ _ _ _ _ _ _ h hG hS=>fm hT (ih m hm).1 ho (II m hm) ((ih m hm).2 f n0 N).1 ((ih m hm).2 f n0 N).2 n0 b h hG hS
 have fr:n<=n'/\db n' al/\cI n' af:=by
  simp only[eC]at h;split at h
  .rename_i hx;obtain⟨h1,h2,h3,_⟩:=code k (Yc _) hx hG hS;obtain⟨k1,k2,k3,_⟩:=((ih k (Yc _)).2 f n0 N).1 _ _ _ _ _ _ _ _ h h2 h3;exact⟨ZD h1 k1,k2,k3⟩
  .obtain⟨h1,h2,h3,_⟩:=code k (Yc _) h hG hS;exact⟨h1,h2,h3⟩
 refine⟨fr.1,fr.2.1,fr.2.2,fun B S=>?_⟩
 refine Gg (fun m bw aR=>∃B1 rX sG nx,m<=k+1/\Agree n B B1/\n<=nx/\db nx rX/\cI nx sG/\bw=bP B1 rX/\aR=aS B1 sG++S/\(eC T m).turn f n0 b rX sG nx=some (e,al,af,n')) (k+1)
  ⟨B,rg,q,n,ZO _,.refl _ _,ZO _,hG,hS,rfl,rfl,h⟩ ?_
 rintro m _ _ ⟨B1,rX,sG,nx,hm,hA,hn,Dm,Du,rfl,rfl,ht⟩;cases m with
 |zero=>cases ht|succ m=>
  simp only[eC]at ht;split at ht
  .rename_i bK aK n2 hx;obtain⟨h1,h2,h3,h4⟩:=code m (by omega) hx Dm Du;refine(h4 B1 S).mono ?_;rintro _ _ _ ⟨rfl,B2,mL,rfl,rfl⟩;exact⟨m,Yc _,B2,bK,aK,n2,by omega,hA.trans (mL.le hn),by omega,h2,h3,rfl,rfl,ht⟩
  .rename_i hx;obtain⟨h1,h2,h3,h4⟩:=code m (by omega) ht Dm Du;refine(h4 B1 S).mono ?_;rintro _ _ _ ⟨rfl,B2,mL,rfl,rfl⟩;cases e with
   |nrm=>exact absurd ht (hx _ _ _)|_=>exact⟨rfl,B2,hA.trans (mL.le hn),rfl,rfl⟩
theorem ae2{P:Program}[Glob P]{T:XT}(hT:T.OK P)(ho:ku P T)(k:Nat)(ih:∀m,m<k+1->iY P (eC T m).call/\∀f n0 N,qI P N ((eC T m).turn f n0)/\ot P N ((eC T m).jump f n0))(II:∀m,m<k+1->oh P (pM (eC T m).call)):∀f n0 N,ot P N ((eC T (k+1)).jump f n0):=by
 intro f n0 N b e al af n';refine⟨fun m l rg q n=>m<=k+1/\(eC T m).jump f n0 b l rg q n=some (e,al,af,n'),fun l rg q n h=>⟨k+1,ZO _,h⟩,?_⟩;rintro m l rg q n ⟨hm,h⟩ hG hS;cases m with
 |zero=>cases h|succ m=>
  simp only[eC]at h;split at h
  .cases h
  .rename_i r hr;refine⟨r.erase,by rw[A7,hr];rfl,?_⟩;have az:m<k+1:=by omega
   have code:∀{e:XE} {al:ag} {af:Store} {n':Nat},sF T (eC T m) f n0 r rg q n=some (e,al,af,n')->sI P N r.erase n rg q e al af n':=fun h=>fm hT (ih m az).1 ho (II m az) ((ih m az).2 f n0 N).1 ((ih m az).2 f n0 N).2 n0 r h hG hS;split at h
   .rename_i l' bw aR n1 hx;exact .inr ⟨l',bw,aR,n1,m,Yc _,⟨by omega,h⟩,code hx⟩
   .rename_i hx;exact .inl ⟨fun l' e1=>by subst e1;exact hx _ _ _ _ h,code h⟩
theorem alP(hT:T.OK P)(ho:ku P T)(k:Nat)(ds:List Deferred)(ih:∀m,m<k+1->iY P (eC T m).call/\∀f n0 N,@qI P (dS P ds) N ((eC T m).turn f n0)/\@ot P (dS P ds) N ((eC T m).jump f n0)):∀f n0 N,@qI P (dS P ds) N ((eC T (k+1)).turn f n0)/\@ot P (dS P ds) N ((eC T (k+1)).jump f n0):=fun f n0 N=>
 ⟨@alQ P (dS P ds) T hT.tD ho.tD k (fun m hm=>⟨(ih m hm).1.tD,(ih m hm).2⟩) (fun m hm=>GN ds (ih m hm).1) f n0 N,@ae2 P (dS P ds) T hT.tD ho.tD k (fun m hm=>⟨(ih m hm).1.tD,(ih m hm).2⟩) (fun m hm=>GN ds (ih m hm).1) f n0 N⟩
theorem amE(hT:T.OK P)(iu:T.Ch P)(ho:ku P T)(tI:Cg P T){r:Cq}(hc:iY P r.call)(ha:∀ds f n0 N,@qI P (dS P ds) N (r.turn f n0)/\@ot P (dS P ds) N (r.jump f n0)):iY P (LP T r):=by
 intro f as q n x af n' h hL hS;unfold LP at h;split at h
 .rename_i x1 hx;cases h;obtain⟨k1,k2⟩:=tI _ _ _ hx;exact⟨ZO _,fun B B' _=>by rw[k1,k1],hS,fun B S=>((k2 B).sp _).mono fun r j ⟨a,b⟩=>⟨B,.refl _ _,by rw[k1];exact a,b⟩⟩
 .split at h
  .cases h
  .rename_i N a res IH;obtain⟨hlen,h⟩:=eW h
   have fin:∀{zt:List AV} {eM:Store} {e:XE} {bw:ag} {aR:Store} {n1:Nat} {x0:AV},zt.length=as.length->sK n zt->cI n eM->(e= .nrm\/e= .ret)->sF T r f n a (fJ 0 zt) eM n=some (e,bw,aR,n1)->cZ bw aR res=some x0->
     n<=n1/\gZ n1 x0/\cI n1 aR/\∀B S,Spec P f (aI B zt) (aS B eM++S) fun r j=>∃B',Agree n B B'/\r= .ret (au B' x0)/\j=aS B' aR++S:=by
    intro zt eM e bw aR n1 x0 hl hL hS he hx hr;exact abg iu IH (by rw[hl];exact hlen) (fun ds=>@FW P (dS P ds) T N _ _ _ _ _ hT.tD hc.tD ho.tD (GN ds hc) (ha ds f n N).1 (ha ds f n N).2 n a 2 _ _ _ _ _ _ _ hx (fun B B' k=>by rw[Cv,Cv,hL B B' k]) hS) he hr
   have nil:∀{e:XE} {bw:ag} {aR:Store} {n1:Nat},(e= .nrm\/e= .ret)->sF T r f n a (fJ 0 as) [] n=some (e,bw,aR,n1)->(match cZ bw aR res with
      |some x=>some (dI jZ x,gc n [x] (mg jZ aR)++q,n1)|none=>none)=some (x,af,n')->n<=n'/\gZ n' x/\cI n' af/\∀B S,Spec P f (aI B as) (aS B q++S) fun r j=>∃B',Agree n B B'/\r= .ret (au B' x)/\j=aS B' af++S:=by
    intro e bw aR n1 he hx h;split at h
    .rename_i x0 hr;cases h;obtain⟨h1,h2,h3,h4⟩:=fin rfl hL (fun _ _ _=>rfl) he hx hr;refine⟨h1,fun B B' k=>wD _ (h2 B B' k),fun B B' k=>by rw[KB,KB,Dg _ (wG _ (h3 B B' k)),(hS.le h1) B B' k],fun B S=>?_⟩;refine(h4 B (aS B q++S)).EK ?_;rintro _ _ ⟨B',hA,rfl,rfl⟩;refine⟨_,_,⟨B',hA,rfl,rfl⟩,?_,wF _⟩;rw[KB,Zq,hS B B' hA];exact dA.app ((Dh _).trans (wH _)) (.refl _)
    .cases h
   have tag:∀{e:XE} {bw:ag} {aR:Store} {n1:Nat},(e= .nrm\/e= .ret)->sF T r f n a (fJ 0 (jO jZ as)) (mg jZ q) n=some (e,bw,aR,n1)->(match cZ bw aR res with
      |some x=>some (dI (BK q) (dI jZ x),mg (BK q) (gc n [x] (mg jZ aR)),n1)|none=>none)=some (x,af,n')->n<=n'/\gZ n' x/\cI n' af/\∀B S,Spec P f (aI B as) (aS B q++S) fun r j=>∃B',Agree n B B'/\r= .ret (au B' x)/\j=aS B' af++S:=by
    intro e bw aR n1 he hx h;split at h
    .rename_i x0 hr;cases h;have hl:(jO jZ as).length=as.length:=by
      have:=(qx (B:=fun _=>(0,0,0)) (f:=jZ) as).get.1;rw[pk,pk]at this;exact this.symm
     obtain⟨h1,h2,h3,h4⟩:=fin hl (fun B B' k=>rY _ (hL B B' k)) (fun B B' k=>wG _ (hS B B' k)) he hx hr;refine⟨h1,fun B B' k=>wD _ (wD _ (h2 B B' k)),fun B B' k=>wG _ (Dg _ (wG _ (h3 B B' k))),fun B S=>?_⟩;refine((h4 B S).aiI (qx _) (dA.app (wH _) (.refl _))).EK ?_;rintro _ _ ⟨B',hA,rfl,rfl⟩;exact⟨_,_,⟨B',hA,rfl,rfl⟩,dA.app ((wH _).trans ((Dh _).trans (wH _))) (.refl _),(wF _).trans (wF _)⟩
    .cases h
   split at h
   .split at h
    .exact nil (.inl rfl) ‹_› h
    .exact nil (.inr rfl) ‹_› h
    .cases h
   .split at h
    .exact tag (.inl rfl) ‹_› h
    .exact tag (.inr rfl) ‹_› h
    .cases h
theorem amG(hT:T.OK P)(iu:T.Ch P)(ho:ku P T)(tI:Cg P T)(k:Nat):iY P (eC T k).call/\∀ds f n0 N,@qI P (dS P ds) N ((eC T k).turn f n0)/\@ot P (dS P ds) N ((eC T k).jump f n0):=by
 induction k using Nat.strongRecOn with
 |_ k ih=>
  cases k with
  |zero=>exact⟨fun _ _ _ _ _ _ _ h=>(by cases h),fun _ _ _ _=>⟨fun _ _ _ _ _ _ _ _ h=>(by cases h),fun _ _ _ _ _=>⟨fun _ _ _ _ _=>False,fun _ _ _ _ h=>(by cases h),fun _ _ _ _ _ h=>h.elim⟩⟩⟩|succ k=>
   obtain⟨hc,ha⟩:=ih k (Yc _);refine⟨amE hT iu ho tI hc ha,fun ds=>?_⟩;exact alP hT ho k ds fun m hm=>⟨(ih m hm).1,(ih m hm).2 ds⟩
theorem Pure.exec(hT:T.OK P)(iu:T.Ch P)(ho:ku P T)(tI:Cg P T)(k:Nat){f:FuncId}{as:List AV}{r:AV}(h:pM (eC T k).call f as 0=some r):Pure P f as r:=(GL (amG hT iu ho tI k).1 h).2
end
def aY{P:Program}[Glob P]{f N:Nat}{a:AC}{res:List RC}(h:nr P f N a.erase res):Nat×Nat×AC×List RC:=(f,N,a,res)
def look:List (Nat×Nat×AC×List RC)->Nat->Option (Nat×AC×List RC)
 |[],_=>none|(g,x)::l,f=>bif Nat.beq g f then some x else look l f
inductive w7(P:Program)[Glob P]:List (Nat×Nat×AC×List RC)->Prop
 |nil:w7 P []
 |cons {f N:Nat} {a:AC} {res:List RC} {l:List (Nat×Nat×AC×List RC)} (h:nr P f N a.erase res) (t:w7 P l):w7 P (aY h::l)
theorem w7.look{P:Program}[Glob P]{l:List (Nat×Nat×AC×List RC)}(h:w7 P l):∀f N a res,look l f=some (N,a,res)->nr P f N a.erase res:=by
 induction h with
 |nil=>intro f N a res h;cases h|cons h t ih=>
  intro f N a res hl;simp only[Sx.look,aY]at hl;rename_i g N' a' am2 l';cases hb:Nat.beq g f with
  |true=>rw[hb]at hl;cases hl;have e:=Z0 hb;subst e;exact h|false=>rw[hb]at hl;exact ih _ _ _ _ hl
theorem gy.r{P:Program}[Glob P][ij P]{f N:Nat}{a:AC}{res:List RC}(k:gy P f N a res):nr P f N a.erase res:=nr.nil k.ex
def Idle(P:Program)[Glob P](ds:List Deferred):Prop:=
 ∀(fn:Func) (tmps:Array Value) (K:Ending->World->Prop) (M:Mem) (w0:Base) (q:Store) (w:World),Inv P M w0 q w->
  (∀w',Inv P M w0 q w'->∃v,(results fn tmps).run P w'= .ok v w'/\K (.returned v) w')->Leaves P fn tmps K ds .returning w
theorem Idle.nil{P:Program}[Glob P]:Idle P []:=fun _ _ _ _ _ _ w hI h=>h w hI
theorem nr.door{P:Program}[Glob P][ij P]{f:FuncId}{fn:Func}{c x y t:Code}{N:Nat}{s:SC}{res:List RC}(hf:P.funcs[f]? =some fn)(hb:fn.body=some c)(hN:fn.ntmps=N)(hr:qZ P fn.results.toList=some res)
  (hs:∀ds,@cW P (dS P ds) N (.seq x (.seq y t))=some s)
  (hd:∀(cs:List Value) (w:World),∃ds,(∀post,iK P x (Exit.then (iK P y (Exit.then (t.wp P post) post)) post) {tmps:=cs.toArray++Array.replicate (fn.ntmps-cs.toArray.size) undef,defers:=ds} w->c.wp P post {tmps:=cs.toArray++Array.replicate (fn.ntmps-cs.toArray.size) undef,defers:=[]} w)/\Idle P ds):nr P f N s res:=by
 intro as q Q hlen h M w0 w cs hI hl;subst hN;have hle:cs.length<=fn.ntmps:=by rw[<-hl.1];exact hlen
 obtain⟨ds,h1,h2⟩:=hd cs w;have DW:=hs ds;simp only[cW]at DW;split at DW
 .rename_i sx sr hx lV;cases DW;split at lV
  .rename_i sy st hy ht;cases lV;have h:=h ds;simp only[ia]at h;refine calls_of_wp_defers hf hb (h1 _ ?_);have fin:∀{e:Exit} {a':Act} {w':World},@jr P (dS P ds) M w0 fn.ntmps (lZ res fun r q=>∃x,r= .ret x/\Q x q) e a' w'->bodyPostD P fn (fun e w'=>∃M' r af,M.le M'/\Inv P M' w0 af w'/\jV M' r e/\∃x,r= .ret x/\Q x af) e a' w':=by
    rintro e a' w' ⟨M',al,af,hM,bg,lQ,hN,hD,hq⟩;have bg:=Inv.oD bg;have hD:a'.defers=ds:=hD;have fin:∀x,cZ al af res=some x->Q x af->Leaves P fn a'.tmps (fun e w'=>∃M' r af,M.le M'/\Inv P M' w0 af w'/\jV M' r e/\∃x,r= .ret x/\Q x af) a'.defers .returning w':=by
     intro x hx hQ;rw[hD];refine h2 fn a'.tmps _ M' w0 af w' bg fun BQ It=>?_;unfold cZ at hx;have cY:∀xs,nj al af res=some xs->∃vs,(fn.results.mapM (yH a'.tmps):Sem (Array Value)).run P BQ= .ok vs.toArray BQ/\RL M' xs vs:=by intro xs di;obtain⟨vs,h1,h2⟩:=KG fn.results.toList res xs hr di It lQ;exact⟨vs,by rw[Array.mapM_eq_mapM_toList,Sem.run_map,h1];rfl,h2⟩
     split at hx
     .rename_i y hy;cases hx;obtain⟨vs,h1,h2⟩:=cY _ hy;obtain⟨v,vs',rfl,h3,h4⟩:=h2.aZ;obtain rfl:=h4.qD;refine⟨v,?_,M',.ret x,af,hM,It,h3,x,rfl,hQ⟩;rw[EU,Sem.run_bind,h1];simp
     .rename_i xs aW hy;cases hx;obtain⟨vs,h1,h2⟩:=cY _ hy;refine⟨.tuple vs.toArray,?_,M',.ret (.aG xs),af,hM,It,R.ue h2,_,rfl,hQ⟩;rw[EU,Sem.run_bind,h1];simp only[Result.andThen_ok,Sem.run_pure];rw[dif_neg];intro bl;have oQ:xs.length=1:=by rw[h2.1];simpa using bl
      obtain⟨y,rfl⟩:=List.length_eq_one_iff.1 oQ;exact aW y rfl
     .cases hx
    cases e with
    |normal=>obtain⟨x,hx,y,e,hQ⟩:=hq;cases e;exact fin x hx hQ
    |ret=>obtain⟨x,hx,y,e,hQ⟩:=hq;cases e;exact fin x hx hQ
    |panic ch=>obtain⟨_,e,_⟩:=hq;cases e
    |_=>exact hq.elim
   refine uY (h x hx M w0 _ w (Inv.tD hI) (GC as cs 0 _ hl (fun i v hv=>?_)) (by simp;omega) rfl) ?_
   .have hi:i<cs.length:=(ZG.1 hv).1;rw[ZH,Array.getElem?_append_left (by simpa using hi)];simpa using hv
   .rintro e a1 w1 ⟨M1,bw,aR,k1,k2,k3,k4,k5,k6⟩;cases e with
    |normal=>
     refine uY (k6 y hy M1 w0 a1 w1 k2 k3 k4 k5) ?_;rintro e a2 w2 ⟨M2,bK,aK,g1,g2,g3,g4,g5,g6⟩;cases e with
     |normal=>exact wp_mono (pS (g6 t ht M2 w0 a2 w2 g2 g3 g4 g5)) fun e a w ⟨M3,eZ,eN,q1,q2⟩=>fin ⟨M3,eZ,eN,(k1.trans g1).trans q1,q2⟩
     |ret=>exact fin (e:=.ret) ⟨M2,bK,aK,k1.trans g1,g2,g3,g4,g5,g6⟩|exit i=>exact fin (e:=.exit i) ⟨M2,bK,aK,k1.trans g1,g2,g3,g4,g5,g6⟩|goto i=>exact fin (e:=.goto i) ⟨M2,bK,aK,k1.trans g1,g2,g3,g4,g5,g6⟩|panic i=>exact fin (e:=.panic i) ⟨M2,bK,aK,k1.trans g1,g2,g3,g4,g5,g6⟩|outgrown=>exact fin (e:=.outgrown) ⟨M2,bK,aK,k1.trans g1,g2,g3,g4,g5,g6⟩
    |ret=>exact fin (e:=.ret) ⟨M1,bw,aR,k1,k2,k3,k4,k5,k6⟩|exit i=>exact fin (e:=.exit i) ⟨M1,bw,aR,k1,k2,k3,k4,k5,k6⟩|goto i=>exact fin (e:=.goto i) ⟨M1,bw,aR,k1,k2,k3,k4,k5,k6⟩|panic i=>exact fin (e:=.panic i) ⟨M1,bw,aR,k1,k2,k3,k4,k5,k6⟩|outgrown=>exact fin (e:=.outgrown) ⟨M1,bw,aR,k1,k2,k3,k4,k5,k6⟩
  .cases lV
 .cases DW
def Fi(o:Oper):Oper:=match o.op with
 |.defer _=>{o with op:=.move (.const (.bool false)),dst:=none}
 |_=>o
def mj:Code->Code
 |.region id ops d=>.region id (ops.toList.map Fi).toArray d|.seq a b=>.seq (mj a) (mj b)|.cond c a b=>.cond c (mj a) (mj b)|.block id b=>.block id (mj b)|.loop b=>.loop (mj b)|c=>c
def uW(P:Program)[Glob P](fn:Func):Option FC:=match fn.body with
 |some c=>match cW P fn.ntmps (mj c),qZ P fn.results.toList with
  |some s,some r=>some ⟨fn.ntmps,s,r⟩|_,_=>none
 |none=>none
structure B5(P:Program)[Glob P](f:FuncId)(N:Nat)(a:AC)(res:List RC):Type where
 ex:∃fn,P.funcs[f]? =some fn/\∀ds,@uW P (dS P ds) fn=some ⟨N,a.erase,res⟩
theorem Mv{P:Program}[Glob P]{f:FuncId}{fn:Func}{N:Nat}{a:AC}{res:List RC}(hf:P.funcs[f]? =some fn)(h:∀ds,(@uW P (dS P ds) fn).map qS=some (N,a,res)):∃fn,P.funcs[f]? =some fn/\∀ds,@uW P (dS P ds) fn=some ⟨N,a.erase,res⟩:=
 ⟨fn,hf,fun ds=>by
  obtain⟨c,h1,h2⟩:=Z8.1 (h ds);simp only[qS,YX]at h2;obtain⟨rfl,rfl,rfl⟩:=h2
  rw[qR];exact h1⟩
def kd{P:Program}[Glob P]{f:FuncId}{fn:Func}{N:Nat}{a:AC}{res:List RC}(hf:P.funcs[f]? =some fn)(h:∀ds,(@uW P (dS P ds) fn).map qS=some (N,a,res):=by intro ds;conv=>{lhs;cbv;try simp(maxSteps:=10000000)only[yn,UInt8.reduceOfNat,Int.reduceOfNat,Int.reduceNegSucc,ym]}):B5 P f N a res:=⟨Mv hf h⟩
def qK(P:Program)[Glob P](fn:Func):Prop:=∃c x y t,fn.body=some c/\mj c= .seq x (.seq y t)/\∀(cs:List Value) (w:World),∃ds,(∀post,iK P x (Exit.then (iK P y (Exit.then (t.wp P post) post)) post) {tmps:=cs.toArray++Array.replicate (fn.ntmps-cs.toArray.size) undef,defers:=ds} w->c.wp P post {tmps:=cs.toArray++Array.replicate (fn.ntmps-cs.toArray.size) undef,defers:=[]} w)/\Idle P ds
theorem qK.of{P:Program}[Glob P]{fn:Func}{r0 r1 T:Code}(hb:fn.body=some (.seq r0 (.seq r1 T)))(hT:mj T=T)
  (h:∀(cs:List Value) (w:World),∃ds,(∀(T:Code) post,iK P (mj r0) (Exit.then (iK P (mj r1) (Exit.then (T.wp P post) post)) post) {tmps:=cs.toArray++Array.replicate (fn.ntmps-cs.toArray.size) undef,defers:=ds} w->(Code.seq r0 (.seq r1 T)).wp P post {tmps:=cs.toArray++Array.replicate (fn.ntmps-cs.toArray.size) undef,defers:=[]} w)/\Idle P ds):qK P fn:=
 ⟨_,_,_,_,hb,rfl,fun cs w=>let⟨ds,h1,h2⟩:=h cs w;⟨ds,fun post h=>h1 T post (by rw[hT]at h;exact h),h2⟩⟩
theorem sV{post:Exit->Act->World->Prop}{A:Prop}{K K':Act->World->Prop}(h:A/\LetsOut (Exit.then K post)):A/\LetsOut (Exit.then K' post):=let⟨h1,a,w,h2⟩:=h;⟨h1,a,w,h2⟩
theorem B5.r{P:Program}[Glob P][ij P]{f N:Nat}{a:AC}{res:List RC}(k:B5 P f N a res){fn:Func}(hf:P.funcs[f]? =some fn)(hd:qK P fn):nr P f N a.erase res:=by
 obtain⟨Oi,h1,h2⟩:=k.ex;rw[hf]at h1;cases h1;obtain⟨c,x,y,t,hb,he,hd⟩:=hd;have h3:=h2 [];unfold uW at h3;rw[hb]at h3;simp only at h3;split at h3
 .rename_i s r hs hr;cases h3;rw[Ox]at hr;refine nr.door hf hb rfl hr (fun ds=>?_) hd;have h4:=h2 ds;unfold uW at h4;rw[hb]at h4;simp only at h4;split at h4
  .rename_i s' r' lW DT;simp only[ZV,FC.mk.injEq,Yg]at h4;rw[<-h4.1,<-he];exact lW
  .cases h4
 .cases h3
