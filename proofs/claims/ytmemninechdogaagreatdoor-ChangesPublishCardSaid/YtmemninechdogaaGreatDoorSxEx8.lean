import Derived.Test.YtmemninechdogaaGreatDoorSxEx6
set_option linter.all false
namespace Go.Sx
open Go.RowKit
theorem cj.trans{a b c:List AV}(h:cj a b)(k:cj b c):cj a c:=by
 induction h generalizing c with
 |nil=>exact k|cons hx _ ih=>cases k with
  |cons hy ht=>exact .cons (hx.trans hy) (ih ht)
inductive BW:aE->aE->Prop
 |cells {l m:List AV} (h:cj l m):BW (.cells l) (.cells m)
 |tail (u c:Nat):BW (.tail u c) (.tail u c)
 |map {es CZ:List (Value×Nat×AV)} (k:Nat) (h:es.map (fun e=>(e.1,e.2.1))=CZ.map (fun e=>(e.1,e.2.1))) (hw:cj (es.map (·.2.2)) (CZ.map (·.2.2))):BW (.map es k) (.map CZ k)
inductive dA:Store->Store->Prop
 |nil:dA [] []
 |skip {af q:Store} (e:Nat×Nat×aE) (h:dA af q):dA af (e::q)
 |aH {af q:Store} (t t' b:Nat) {x y:aE} (hb:BW x y) (h:dA af q):dA ((t',b,y)::af) ((t,b,x)::q)
theorem BW.ok{M:Mem}{w:World}{b:Nat}{x y:aE}(h:BW x y)(k:BlkOK M w b x):BlkOK M w b y:=by
 cases h with
 |cells h=>obtain⟨k1,cs,t,k2,k3⟩:=k;exact⟨k1,cs,t,k2,h.sound k3⟩
 |tail u c=>exact k|map k0 h hw=>obtain⟨k1,l,k2,k3,k4⟩:=k;exact⟨k1,l,k2,k3.trans h,hw.sound k4⟩
theorem dA.mem{af q:Store}(h:dA af q):∀e∈af,∃e0∈q,e0.2.1=e.2.1/\BW e0.2.2 e.2.2:=by
 induction h with
 |nil=>exact fun _ h=>absurd h (by simp)
 |skip e _ ih=>intro x hx;obtain⟨e0,h1,h2⟩:=ih x hx;exact⟨e0,ZN _ h1,h2⟩
 |aH t t' b hb _ ih=>
  intro x hx;rcases ZR.1 hx with rfl|hx
  .exact⟨_,ZK,rfl,hb⟩
  .obtain⟨e0,h1,h2⟩:=ih x hx;exact⟨e0,ZN _ h1,h2⟩
theorem dA.blocks{af q:Store}(h:dA af q):(af.map (·.2.1)).Sublist (q.map (·.2.1)):=by
 induction h with
 |nil=>exact .slnil|skip e _ ih=>exact ih.cons _|aH t t' b hb _ ih=>exact ih.cons_cons _
theorem Inv.Lc{P:Program}[Glob P]{M:Mem}{w0:Base}{w:World}{q af:Store}(hI:Inv P M w0 af w)(h:dA q af):Inv P M w0 q w:=by refine⟨hI.os,hI.tape,hI.output,hI.size,hI.old,hI.bZ,fun e he=>?_,hI.nd.sublist h.blocks,hI.gl,hI.gw,hI.bm⟩;obtain⟨e0,h1,h2,h3⟩:=h.mem e he;obtain⟨k1,k2⟩:=hI.st e0 h1;rw[h2]at k1 k2;exact⟨k1,h3.ok k2⟩
theorem SW.FT{P:Program}[Glob P]{N:Nat}{s:SC}{Q:Exit->ag->Store->Prop}{rg al:ag}{q af:Store}(h:SW P N s Q al af)(hr:il rg al)(hs:dA af q):SW P N s Q rg q:=
 fun c hc M w0 a w hI hR hN hD=>h c hc M w0 a w (hI.Lc hs) (fun i=>hr.lk i _ _ (hR i)) hN hD
theorem Spec.aiI{P:Program}[Glob P]{f:FuncId}{as bs:List AV}{q af:Store}{Q:ik->Store->Prop}(h:Spec P f bs af Q)(hw:cj as bs)(hs:dA af q):Spec P f as q Q:=
 fun M w0 w cs hI hl=>h M w0 w cs (hI.Lc hs) (hw.sound hl)
theorem Spec.EK{P:Program}[Glob P]{f:FuncId}{as:List AV}{q:Store}{Q Q':ik->Store->Prop}(h:Spec P f as q Q)(hq:∀r af,Q r af->∃r2 aK,Q' r2 aK/\dA aK af/\(match r,r2 with|.ret x,.ret y=>Wk x y|.ke c,.ke c'=>c=c'|_,_=>False)):Spec P f as q Q':=by
 intro M w0 w cs hI hl;refine(h M w0 w cs hI hl).mono fun e w' ⟨M',r,af,a,b,c,d⟩=>?_;obtain⟨r2,aK,h1,h2,h3⟩:=hq r af d;refine⟨M',r2,aK,a,b.Lc h2,?_,h1⟩;cases r<;>cases r2<;>cases e<;>simp only[jV]at c h3|-<;>try exact c.elim
 .exact h3 _ _ c
 .exact h3 ▸ c
theorem dA.refl:∀q:Store,dA q q
 |[]=>.nil|(t,b,x)::q=>.aH _ _ _ (by
   cases x with
   |cells l=>exact .cells (cj.refl l)|tail u c=>exact .tail u c|map es k=>exact .map k rfl (cj.refl _)) (dA.refl q)
theorem dA.app{a b c d:Store}(h:dA a b)(k:dA c d):dA (a++c) (b++d):=by
 induction h with
 |nil=>exact k|skip e _ ih=>exact .skip e ih|aH t t' b hb _ ih=>exact .aH _ _ _ hb ih
theorem dA.drop{a b:Store}:dA b (a++b):=by
 induction a with
 |nil=>exact .refl _|cons e a ih=>exact .skip e ih
section
variable {B:BM}{f:Nat->Nat->Nat}
theorem Wk.ms'{t t' b o n c:Nat}:Wk (.ms t b o n c) (.ms t' b o n c):=fun M v h=>by cases h;exact .ms _ _ _ _ _
theorem Wk.ahP{t t' b:Nat}:Wk (.bJ t b) (.bJ t' b):=fun M v h=>by cases h;exact .bJ _ _
theorem Wk.aix{e t t' b u c:Nat}{x y:List (List AV)}(h:w9 x y):Wk (.own e t b u c x) (.own e t' b u c y):=fun M v k=>by
 obtain⟨el,h⟩:=h;cases k with
 |own _ _ _ _ _ _ off cap cs h1 h2 h3 h4 h5 h6 h7=>
  rw[el];refine .own _ _ _ _ _ _ off cap cs (fun i hi=>?_) (fun k hk=>h2 k (by rwa [el])) (fun i hi j hj=>?_) (by omega) h5 (by rw[<-el];exact h6) h7
  .rw[<-(h i (by omega) hi).get.1];exact h1 i (by omega)
  .have hg:=(h i (by omega) hi).get;exact hg.2 j (by omega) hj _ _ (h3 i (by omega) j (by omega))
mutual
theorem adN:∀(x:AV) (l l':List AV),iq l=iq l'->iq (au B (dI f x)::l)=iq (au B x::l')
 |.cl g a c,l,l',h=>by simp only[dI,au,tf a,tf c];split<;>simp only[iq,h]|.v _,l,l',h=>by simp only[dI,au,iq,h]|.agg _,_,_,_|.any,_,_,_|.aG _,_,_,_|.pc _,_,_,_|.sl ..,_,_,_|.fl ..,_,_,_|.own ..,_,_,_|.ms ..,_,_,_|.lp ..,_,_,_|.bJ ..,_,_,_|.dD ..,_,_,_|.ai _,_,_,_=>by simp only[dI,au,iq]
theorem NI:∀(l:List AV),iq (aI B (jO f l))=iq (aI B l)
 |[]=>rfl|x::l=>adN x _ _ (NI l)
theorem adO:∀(x:AV) (l l':List AV),bR l=bR l'->bR (au B (dI f x)::l)=bR (au B x::l')
 |.cl g a c,l,l',h=>by simp only[dI,au,tf a,tf c];split<;>simp only[bR,h]|.agg xs,l,l',h=>by simp only[dI,au,bR,NI xs,h]|.v _,l,l',h=>by simp only[dI,au,bR,h]|.lp ..,l,l',h=>by simp only[dI,au,bR,h]|.any,_,_,_|.aG _,_,_,_|.pc _,_,_,_|.sl ..,_,_,_|.fl ..,_,_,_|.own ..,_,_,_|.ms ..,_,_,_|.bJ ..,_,_,_|.dD ..,_,_,_|.ai _,_,_,_=>by simp only[dI,au,bR]
theorem tf:∀(l:List AV),bR (aI B (jO f l))=bR (aI B l)
 |[]=>rfl|x::l=>adO x _ _ (tf l)
end
mutual
theorem wF:∀(x:AV),Wk (au B x) (au B (dI f x))
 |.v _|.any|.ai _=>Wk.refl _|.agg xs=>Wk.agg (qx xs)|.aG xs=>Wk.aG (qx xs)|.pc xs=>Wk.Km (qx xs)|.sl nn e rows=>Wk.E9 (EZ rows)|.fl e rows=>Wk.HQ (EZ rows)|.own e _ _ _ _ rows=>Wk.aix (EZ rows)|.ms .. =>Wk.ms'|.lp .. =>Wk.lp|.bJ .. =>Wk.ahP|.dD t x=>Wk.P4 (wF x)|.cl g a c=>by
  have ha:=qx a;have hc:=qx c;simp only[dI,au,tf a,tf c];split
  .exact Wk.refl _
  .exact Wk.clW ha hc
theorem qx:∀(l:List AV),cj (aI B l) (aI B (jO f l))
 |[]=>.nil|x::l=>.cons (wF x) (qx l)
theorem EZ:∀(l:List (List AV)),w9 (dF B l) (dF B (pn f l))
 |[]=>⟨rfl,fun i h=>absurd h (by simp[dF])⟩
 |x::l=>by
  obtain⟨e,k⟩:=EZ l;refine⟨by simp[dF,pn,e],fun i h1 h2=>?_⟩;cases i with
  |zero=>exact qx x|succ i=>simpa[dF,pn]using k i (by simpa[dF]using h1) (by simpa[dF,pn]using h2)
end
theorem KJ:∀(rg:ag),il (bP B rg) (bP B (yG f rg))
 |[]=>.nil|(i,x)::l=>.cons (wF x) (KJ l)
theorem ajo(b:Nat)(x:aE):BW (fE B b x) (fE B b (yF f x)):=by
 cases x with
 |cells l=>exact .cells (qx l)|tail u c=>exact .tail _ _|map es k=>
  refine .map k (by simp[Yu,Function.comp_def]) ?_;simp only[Yu,Function.comp_def]
  induction es with
  |nil=>exact .nil|cons e es ih=>exact .cons (wF _) ih
theorem wH:∀(q:Store),dA (aS B (mg f q)) (aS B q)
 |[]=>.nil|(t,b,x)::l=>.aH _ _ _ (ajo b x) (wH l)
theorem H8{n0:Nat}{live:List Nat}:∀(q:Store),dA (aS B (tq n0 live q)) (aS B q)
 |[]=>.nil|(t,b,x)::l=>by
  simp only[tq,aS];cases Nat.blt b n0||live.elem b
  .exact .skip _ (H8 l)
  .have:=dA.refl (aS B [(t,b,x)]);exact dA.app this (H8 l)
theorem Dh{n0:Nat}{rs:List AV}(q:Store):dA (aS B (gc n0 rs q)) (aS B q):=by
 unfold gc;split
 .exact .nil
 .exact H8 _
theorem dA.trans{a b c:Store}(h:dA a b)(k:dA b c):dA a c:=by
 induction k generalizing a with
 |nil=>exact h|skip e _ ih=>exact .skip e (ih h)|aH t t' b hb k ih=>
  cases h with
  |skip e h=>exact .skip _ (ih h)|aH _ t2 _ dC h=>
   refine .aH _ _ _ ?_ (ih h);cases hb with
   |cells h1=>cases dC with
    |cells h2=>exact .cells (h1.trans h2)
   |tail u c=>exact dC|map k1 e1 w1=>cases dC with
    |map _ e2 w2=>exact .map _ (e1.trans e2) (w1.trans w2)
end
section
variable {f:Nat->Nat->Nat}{B B':BM}
mutual
theorem wD:∀(x:AV),au B x=au B' x->au B (dI f x)=au B' (dI f x)
 |.v _,_|.any,_|.ai _,_=>rfl|.agg xs,h=>by simp only[au,AV.agg.injEq]at h;simp only[dI,au,rY xs h]|.aG xs,h=>by simp only[au,AV.aG.injEq]at h;simp only[dI,au,rY xs h]|.pc xs,h=>by simp only[au,AV.pc.injEq]at h;simp only[dI,au,rY xs h]|.sl nn e rows,h=>by simp only[au,AV.sl.injEq,Yg]at h;simp only[dI,au,EY rows h]|.fl e rows,h=>by simp only[au,AV.fl.injEq,Yg]at h;simp only[dI,au,EY rows h]|.own e t b u c rows,h=>by simp only[au,AV.own.injEq,Yg]at h;simp only[dI,au,EY rows h.2.2.2,h.1,h.2.1,h.2.2.1]|.ms t b o n c,h=>by simp only[au,AV.ms.injEq,Yg,Zn]at h;simp only[dI,au,h]|.lp t b o,h=>by simp only[au,AV.lp.injEq,Yg,Zn]at h;simp only[dI,au,h]|.bJ t b,h=>by simp only[au,AV.bJ.injEq,Yg]at h;simp only[dI,au,h]|.dD t x,h=>by simp only[au,AV.dD.injEq,Yg]at h;simp only[dI,au,wD x h]|.cl g a c,h=>by
  have fa:=rY a;have fc:=rY c;rcases jk (B:=B) g a c with⟨a1,c1,oK,bC,e1⟩|⟨n1,e1⟩<;>rcases jk (B:=B') g a c with⟨a2,c2,lR,bO,e2⟩|⟨n2,e2⟩<;>rw[e1,e2]at h<;>simp only[AV.v.injEq,Value.func.injEq,AV.cl.injEq,reduceCtorEq,Yg]at h
  .have q1:a1=a2:=by simpa using h.1
   have q2:c1=c2:=by simpa using h.2
   simp only[dI,au,tf,oK,bC,lR,bO,q1,q2]
  .simp only[dI,au,fa h.1,fc h.2]
theorem rY:∀(l:List AV),aI B l=aI B' l->aI B (jO f l)=aI B' (jO f l)
 |[],_=>rfl|x::l,h=>by simp only[aI,Z2]at h;simp only[jO,aI,wD x h.1,rY l h.2]
theorem EY:∀(l:List (List AV)),dF B l=dF B' l->dF B (pn f l)=dF B' (pn f l)
 |[],_=>rfl|x::l,h=>by simp only[dF,Z2]at h;simp only[pn,dF,rY x h.1,EY l h.2]
end
theorem KI:∀(l:ag),bP B l=bP B' l->bP B (yG f l)=bP B' (yG f l)
 |[],_=>rfl|(i,x)::l,h=>by simp only[bP,Z2,YX,Yg]at h;simp only[yG,bP,wD x h.1,KI l h.2]
theorem ajn(b:Nat)(x:aE)(h:fE B b x=fE B' b x):fE B b (yF f x)=fE B' b (yF f x):=by
 cases x with
 |cells l=>simp only[fE,aE.cells.injEq]at h;simp only[yF,fE,rY l h]|tail u c=>exact h|map es k=>
  simp only[fE,aE.map.injEq,Zn]at h;simp only[yF,fE,aE.map.injEq,Zn,Yu]
  induction es with
  |nil=>rfl|cons e es ih=>simp only[Zz,Z2,YX,Yg]at h|-;exact⟨by simpa using wD _ h.1,ih h.2⟩
theorem wG:∀(l:Store),aS B l=aS B' l->aS B (mg f l)=aS B' (mg f l)
 |[],_=>rfl|(t,b,x)::l,h=>by simp only[aS,Z2,YX,Yg]at h;simp only[mg,aS,ajn b x h.1.2,wG l h.2,h.1.1]
theorem H7{n0:Nat}{live:List Nat}:∀(l:Store),aS B l=aS B' l->aS B (tq n0 live l)=aS B' (tq n0 live l)
 |[],_=>rfl|(t,b,x)::l,h=>by
  simp only[aS,Z2,YX,Yg]at h;simp only[tq];cases Nat.blt b n0||live.elem b
  .exact H7 l h.2
  .simp only[Y8,aS,h.1.1,h.1.2,H7 l h.2]
theorem Dg{n0:Nat}{rs:List AV}(l:Store)(h:aS B l=aS B' l):aS B (gc n0 rs l)=aS B' (gc n0 rs l):=by
 unfold gc;split
 .rfl
 .exact H7 _ h
theorem vd(rg:ag):∀(ks:List Nat),eP ks (bP B rg)=bP B (eP ks rg)
 |[]=>rfl|k::ks=>by simp only[eP,bP,mZ,vd rg ks]
end
def Gt:XE->Exit
 |.nrm=>.normal|.ret=>.ret|.exit i=>.exit i|.goto l=>.goto l
section
variable {P:Program}[Glob P]{T:XT}{N:Nat}{cfg:Nat->Nat}{call:FuncId->List AV->Store->Nat->XO}{dR:FuncId->List AV->Nat->Option AV}{again:AC->ag->Store->Nat->XS}{jump:AC->Nat->ag->Store->Nat->XS}
def B8(n:Nat)(B:BM)(S:Store)(e:XE)(al:ag)(af:Store)(e1:Exit)(bw:ag)(aR:Store):Prop:=
 e1=Gt e/\∃B',Agree n B B'/\bw=bP B' al/\aR=aS B' af++S
def sI(P:Program)[Glob P](N:Nat)(s:SC)(n:Nat)(rg:ag)(q:Store)(e:XE)(al:ag)(af:Store)(n':Nat):Prop:=
 n<=n'/\db n' al/\cI n' af/\∀B S,SW P N s (B8 n B S e al af) (bP B rg) (aS B q++S)
def qI(P:Program)[Glob P](N:Nat)(again:AC->ag->Store->Nat->XS):Prop:=
 ∀b rg q n e al af n',again b rg q n=some (e,al,af,n')->db n rg->cI n q->sI P N (.loop b.erase) n rg q e al af n'
def ot(P:Program)[Glob P](N:Nat)(jump:AC->Nat->ag->Store->Nat->XS):Prop:=
 ∀b e al af n',∃J:Nat->Nat->ag->Store->Nat->Prop,(∀l rg q n,jump b l rg q n=some (e,al,af,n')->∃m,J m l rg q n)/\∀m l rg q n,J m l rg q n->db n rg->cI n q->
  ∃r,nC b.erase l=some r/\(((∀l',e≠.goto l')/\sI P N r n rg q e al af n')\/∃l' bw aR n1 m',m'<m/\J m' l' bw aR n1/\sI P N r n rg q (.goto l') bw aR n1)
theorem ot.end(hj:ot P N jump){b:AC}{e:XE}{al:ag}{af:Store}{n':Nat}{l:Nat}{rg:ag}{q:Store}{n:Nat}(h:jump b l rg q n=some (e,al,af,n'))(hG:db n rg)(hS:cI n q):(∀l',e≠.goto l')/\n<=n'/\db n' al/\cI n' af:=by
 obtain⟨J,h1,h2⟩:=hj b e al af n';obtain⟨m,hm⟩:=h1 _ _ _ _ h;clear h
 induction m using Nat.strongRecOn generalizing l rg q n with
 |_ m ih=>
  obtain⟨r,_,⟨k0,k1,k2,k3,_⟩|⟨l',bw,aR,n1,m',az,hJ,k1,k2,k3,_⟩⟩:=h2 m l rg q n hm hG hS
  .exact⟨k0,k1,k2,k3⟩
  .obtain⟨g0,g1,g2,g3⟩:=ih m' az k2 k3 hJ;exact⟨g0,ZD k1 g1,g2,g3⟩
theorem MK{st:FuncId->Bool}:∀{l a b:List CI} {s:CI},uU st l=some (a,s,b)->l=a++s::b/\∃f as,s.op= .call f as
 |[],_,_,_,h=>by cases h|c::l,a,b,s,h=>by
  have rest:(match uU st l with
   |some (a,s,b)=>some (c::a,s,b)|none=>none)=some (a,s,b)->c::l=a++s::b/\∃f as,s.op= .call f as:=fun h=>by
   cases h2:uU st l with
   |none=>rw[h2]at h;cases h|some p=>
    obtain⟨a',s',b'⟩:=p;rw[h2]at h;cases h;obtain⟨e,k⟩:=MK h2;exact⟨by rw[e];rfl,k⟩
  simp only[uU]at h;split at h
  .rename_i f as ei;cases hb:st f with
   |true=>rw[hb]at h;cases h;exact⟨rfl,f,as,ei⟩|false=>rw[hb]at h;exact rest h
  .exact rest h
theorem UQ(hT:T.OK P)(hc:iY P call)(ho:ku P T)(hp:oh P dR){l1 l2:List CI}{s:CI}{n:Nat}{rg:ag}{q:Store}{al:ag}{af:Store}{n':Nat}(h:FY T cfg call dR l1 s l2 rg q n=some (al,af,n'))(hG:db n rg)(hS:cI n q):
  n<=n'/\db n' al/\cI n' af/\∀(B:BM) (S:Store) (K:ag->Store->Prop),(∀B',Agree n B B'->K (bP B' al) (aS B' af++S))->
   da P cfg [] (bare l1) (fun bw aR=>ak P cfg s.d bw aR (fun x aK=>da P cfg [] (bare l2) K (bB s.d x bw) aK) (fun _ _=>False) s.op) (bP B rg) (aS B q++S):=by
 unfold FY at h;split at h
 .rename_i bw aR n1 hx;obtain⟨h1,h2,h3,h4⟩:=wQ hT hp (bare l1) hx hG hS;split at h
  .rename_i x aK n2 hy;obtain⟨k1,k2,k3,k4⟩:=UT hT hc ho (dd:=s.d) hy h2 h3;obtain⟨g1,g2,g3,g4⟩:=wQ hT hp (bare l2) h ((h2.le k1).put k2 s.d) k3;refine⟨by omega,g2,g3,fun B S K hK=>h4 B S _ fun B1 hA=>k4 B1 S _ _ fun B2 mL=>?_⟩;have e:bB s.d (au B2 x) (bP B1 bw)=bP B2 (bB s.d x bw):=by rw[anr,h2 B1 B2 mL]
   rw[e];exact g4 B2 S K fun B3 Dj=>hK B3 ((hA.trans (mL.le h1)).trans (Dj.le (by omega)))
  .cases h
 .cases h
theorem RQ{c:CI}(h:Ev c=true):c.g=none:=by
 unfold Ev at h;split at h
 .assumption
 .cases h
theorem amz(hT:T.OK P)(hc:iY P call)(ho:ku P T)(hp:oh P dR){l:List CI}{n:Nat}{rg:ag}{q:Store}{al:ag}{af:Store}{n':Nat}(h:xD T cfg call dR l rg q n=some (al,af,n'))(hG:db n rg)(hS:cI n q):
  n<=n'/\db n' al/\cI n' af/\∀(B:BM) (S:Store) (Q:Exit->ag->Store->Prop),(∀B',Agree n B B'->Cl (Q .normal) (bP B' al) (aS B' af++S))->SW P N (.de l) Q (bP B rg) (aS B q++S):=by
 unfold xD at h;split at h
 .rename_i l1 s l2 hl;obtain⟨e,h4⟩:=G0 hl;subst e;obtain⟨hb,h⟩:=eW h;simp only[Z6]at hb;have hg:=RQ hb.2;obtain⟨k1,k2,k3,k4⟩:=UQ hT hc ho hp h hG hS;refine⟨k1,k2,k3,fun B S Q hQ=>Mb cfg h4 hb.1 hg ?_⟩;have e:sP P cfg (Q .normal) s l2=fun bw aR=>ak P cfg s.d bw aR (fun x aK=>da P cfg [] (bare l2) (Cl (Q .normal)) (bB s.d x bw) aK) (fun _ _=>False) s.op:=by funext bw aR;simp only[sP,fb,cE,hg,wX]
  rw[e];exact k4 B S (Cl (Q .normal)) hQ
 .split at h
  .rename_i l1 s l2 hl;obtain⟨e,f,as,ei⟩:=MK hl;subst e;obtain⟨hb,h⟩:=eW h;simp only[Z6]at hb;have hg:=RQ hb.1.2;have vQ:qt (l1++s::l2) 0=none:=by
    have:=hb.2;unfold isNone at this;split at this
    .assumption
    .cases this
   obtain⟨k1,k2,k3,k4⟩:=UQ hT hc ho hp h hG hS;refine⟨k1,k2,k3,fun B S Q hQ=>Vs cfg vQ ei hb.1.1 hg ?_⟩;have:=k4 B S (Cl (Q .normal)) hQ;rw[ei]at this;simp only[ak,pA]at this;exact this
  .obtain⟨h1,h2,h3,h4⟩:=wQ hT hp (bare l) h hG hS;exact⟨h1,h2,h3,fun B S Q hQ=>Ma cfg (h4 B S _ hQ)⟩
theorem fm(hT:T.OK P)(hc:iY P call)(ho:ku P T)(hp:oh P dR)(ha:qI P N again)(hj:ot P N jump)(n0:Nat):∀(a:AC) {rg:ag} {q:Store} {n:Nat} {e:XE} {al:ag} {af:Store} {n':Nat},
  xC T cfg call dR n0 again jump a rg q n=some (e,al,af,n')->db n rg->cI n q->sI P N a.erase n rg q e al af n'
 |.skip,rg,q,n,e,al,af,n',h,hG,hS=>by cases h;exact⟨ZO _,hG,hS,fun B S=>Gj ⟨rfl,B,.refl _ _,rfl,rfl⟩⟩|.ret,rg,q,n,e,al,af,n',h,hG,hS=>by cases h;exact⟨ZO _,hG,hS,fun B S=>Gi ⟨rfl,B,.refl _ _,rfl,rfl⟩⟩|.exit i,rg,q,n,e,al,af,n',h,hG,hS=>by cases h;exact⟨ZO _,hG,hS,fun B S=>Gf ⟨rfl,B,.refl _ _,rfl,rfl⟩⟩|.goto i,rg,q,n,e,al,af,n',h,hG,hS=>by cases h;exact⟨ZO _,hG,hS,fun B S=>Mc ⟨rfl,B,.refl _ _,rfl,rfl⟩⟩|.label i,rg,q,n,e,al,af,n',h,hG,hS=>by cases h;exact⟨ZO _,hG,hS,fun B S=>Md ⟨rfl,B,.refl _ _,rfl,rfl⟩⟩|.bh l,rg,q,n,e,al,af,n',h,hG,hS=>by
  simp only[xC,y5]at h;split at h
  .rename_i hx;cases h;obtain⟨h1,h2,h3,h4⟩:=FX hT hc ho l hx hG hS;exact⟨h1,h2,h3,fun B S=>Mf cfg (h4 B S _ _ fun B' hA=>⟨rfl,B',hA,rfl,rfl⟩)⟩
  .cases h
 |.de l,rg,q,n,e,al,af,n',h,hG,hS=>by
  simp only[xC,y5]at h;split at h
  .rename_i hx;cases h;obtain⟨h1,h2,h3,h4⟩:=amz (N:=N) hT hc ho hp hx hG hS;exact⟨h1,h2,h3,fun B S=>h4 B S _ fun B' hA=>Cl.intro ⟨rfl,B',hA,rfl,rfl⟩⟩
  .cases h
 |.eR aq l,rg,q,n,e,al,af,n',h,hG,hS=>by
  simp only[xC,y5]at h;split at h
  .rename_i hx;cases h;obtain⟨h1,h2,h3,h4⟩:=wQ hT hp l hx hG hS;exact⟨h1,h2,h3,fun B S=>Gh cfg (h4 B S _ fun B' hA=>⟨rfl,B',hA,rfl,rfl⟩)⟩
  .cases h
 |.seq a b,rg,q,n,e,al,af,n',h,hG,hS=>by
  simp only[xC]at h;split at h
  .rename_i bw aR n1 hx;obtain⟨h1,h2,h3,h4⟩:=fm hT hc ho hp ha hj n0 a hx hG hS;obtain⟨k1,k2,k3,k4⟩:=fm hT hc ho hp ha hj n0 b h h2 h3;refine⟨ZD h1 k1,k2,k3,fun B S=>zl ((h4 B S).mono ?_)⟩;rintro e1 bK aK ⟨rfl,B',hA,rfl,rfl⟩;refine(k4 B' S).mono ?_;rintro e1 bK aK ⟨rfl,uI,ri,rfl,rfl⟩;exact⟨rfl,uI,hA.trans (ri.le h1),rfl,rfl⟩
  .rename_i hx;obtain⟨h1,h2,h3,h4⟩:=fm hT hc ho hp ha hj n0 a h hG hS;refine⟨h1,h2,h3,fun B S=>zl ((h4 B S).mono ?_)⟩;rintro e1 bK aK ⟨rfl,B',hA,rfl,rfl⟩;cases e with
   |nrm=>exact absurd h (hx _ _ _)|_=>exact⟨rfl,B',hA,rfl,rfl⟩
 |.cond c t e0,rg,q,n,e,al,af,n',h,hG,hS=>by
  simp only[xC]at h;split at h
  .rename_i hb;obtain⟨h1,h2,h3,h4⟩:=fm hT hc ho hp ha hj n0 t h hG hS;exact⟨h1,h2,h3,fun B S=>Ci (b:=true) (by rw[dx,hb];rfl) (fun _=>h4 B S) (fun e=>nomatch e)⟩
  .rename_i hb;obtain⟨h1,h2,h3,h4⟩:=fm hT hc ho hp ha hj n0 e0 h hG hS;exact⟨h1,h2,h3,fun B S=>Ci (b:=false) (by rw[dx,hb];rfl) (fun e=>nomatch e) (fun _=>h4 B S)⟩
  .cases h
 |.block id b,rg,q,n,e,al,af,n',h,hG,hS=>by
  simp only[xC]at h;split at h
  .rename_i i bw aR n1 hx;obtain⟨h1,h2,h3,h4⟩:=fm hT hc ho hp ha hj n0 b hx hG hS;cases hi:Nat.beq i id with
   |true=>simp only[hi,Y8]at h;cases h;refine⟨h1,h2,h3,fun B S=>zj ((h4 B S).mono ?_)⟩;rintro e1 bK aK ⟨rfl,B',hA,rfl,rfl⟩;simp only[oy,Gt,Z3 (Z0 hi)];exact⟨rfl,B',hA,rfl,rfl⟩
   |false=>simp only[hi,Yx]at h;cases h;refine⟨h1,h2,h3,fun B S=>zj ((h4 B S).mono ?_)⟩;rintro e1 bK aK ⟨rfl,B',hA,rfl,rfl⟩;simp only[oy,Gt,Z9 (Nat.ne_of_beq_eq_false hi)];exact⟨rfl,B',hA,rfl,rfl⟩
  .rename_i hx;obtain⟨h1,h2,h3,h4⟩:=fm hT hc ho hp ha hj n0 b h hG hS;refine⟨h1,h2,h3,fun B S=>zj ((h4 B S).mono ?_)⟩;rintro e1 bK aK ⟨rfl,B',hA,rfl,rfl⟩;cases e with
   |exit i=>exact absurd h (hx _ _ _ _)|_=>exact⟨rfl,B',hA,rfl,rfl⟩
 |.loop b,rg,q,n,e,al,af,n',h,hG,hS=>ha b rg q n e al af n' h hG hS|.aH ks a,rg,q,n,e,al,af,n',h,hG,hS=>by
  simp only[xC]at h;split at h
  .rename_i bw hk;have hk:=C6 hk;subst hk;have tx:db n (eP ks rg):=fun B B' k=>by rw[<-vd,<-vd,hG B B' k]
   obtain⟨h1,h2,h3,h4⟩:=fm hT hc ho hp ha hj n0 a h (fun B B' k=>KI _ (tx B B' k)) (fun B B' k=>Dg _ (wG _ (hS B B' k)));refine⟨h1,h2,h3,fun B S=>SW.eP ks ?_⟩;rw[vd];exact SW.FT (h4 B S) (KJ _) (dA.app ((Dh _).trans (wH _)) (.refl S))
  .cases h
 |.stop a,rg,q,n,e,al,af,n',h,hG,hS=>fm hT hc ho hp ha hj n0 a h hG hS|.scope b,rg,q,n,e,al,af,n',h,hG,hS=>by
  simp only[xC]at h;split at h
  .rename_i l bw aR n1 hx;obtain⟨h1,h2,h3,h4⟩:=fm hT hc ho hp ha hj n0 b hx hG hS;obtain⟨g0,g1,g2,g3⟩:=hj.end h h2 h3;refine⟨ZD h1 g1,g2,g3,fun B S=>?_⟩;obtain⟨J,k1,k2⟩:=hj b e al af n';obtain⟨m0,hm0⟩:=k1 _ _ _ _ h;have hQ:∀{B':BM} {n2:Nat} {K:Nat->ag->Store->Prop} {e1:Exit} {bK:ag} {aK:Store},Agree n B B'->n<=n2->B8 n2 B' S e al af e1 bK aK->JS K (B8 n B S e al af) e1 bK aK:=by
    rintro B' n2 K e1 bK aK hA hn ⟨rfl,B2,mL,rfl,rfl⟩;cases e with
    |goto l'=>exact absurd rfl (g0 l')|_=>exact⟨rfl,B2,hA.trans (mL.le hn),rfl,rfl⟩
   refine Mg (fun l m bw aR=>∃B1 rX sG nx,Agree n B B1/\n<=nx/\db nx rX/\cI nx sG/\bw=bP B1 rX/\aR=aS B1 sG++S/\J m l rX sG nx) ((h4 B S).mono ?_) ?_
   .rintro _ _ _ ⟨rfl,B1,hA,rfl,rfl⟩;exact⟨m0,B1,_,_,n1,hA,h1,h2,h3,rfl,rfl,hm0⟩
   .rintro l m _ _ ⟨B1,rX,sG,nx,hA,hn,Dm,Du,rfl,rfl,hJ⟩;obtain⟨r,q1,⟨q2,q3⟩|⟨l',bK,aK,n2,m',az,xG,q3⟩⟩:=k2 _ _ _ _ _ hJ Dm Du
    .exact⟨r,q1,(q3.2.2.2 B1 S).mono fun e1 eZ eN hq=>hQ hA hn hq⟩
    .refine⟨r,q1,(q3.2.2.2 B1 S).mono ?_⟩;rintro _ _ _ ⟨rfl,B2,mL,rfl,rfl⟩;exact⟨m',az,B2,bK,aK,n2,hA.trans (mL.le hn),ZD hn q3.1,q3.2.1,q3.2.2.1,rfl,rfl,xG⟩
  .rename_i hx;obtain⟨h1,h2,h3,h4⟩:=fm hT hc ho hp ha hj n0 b h hG hS;refine⟨h1,h2,h3,fun B S=>Mg (fun _ _ _ _=>False) ((h4 B S).mono ?_) (fun _ _ _ _ h=>h.elim)⟩;rintro e1 bK aK ⟨rfl,B',hA,rfl,rfl⟩;cases e with
   |goto l=>exact absurd h (hx _ _ _ _)|_=>exact⟨rfl,B',hA,rfl,rfl⟩
def ia(P:Program)[Glob P](N:Nat):Nat->SC->(Exit->ag->Store->Prop)->ag->Store->Prop
 |k+1,.seq x y,Q,rg,q=>SW P N x (qC (ia P N k y Q) Q) rg q|_,s,Q,rg,q=>SW P N s Q rg q
theorem ia.eP(l:List Nat){k:Nat}{s:SC}{Q:Exit->ag->Store->Prop}{rg:ag}{q:Store}(h:ia P N k s Q (eP l rg) q):ia P N k s Q rg q:=by cases k<;>cases s<;>exact SW.eP l h
theorem ia.FT{k:Nat}{s:SC}{Q:Exit->ag->Store->Prop}{rg al:ag}{q af:Store}(h:ia P N k s Q al af)(hr:il rg al)(hs:dA af q):ia P N k s Q rg q:=by cases k<;>cases s<;>exact SW.FT h hr hs
theorem ia.mono:∀{k:Nat} {s:SC} {Q Q':Exit->ag->Store->Prop} {rg:ag} {q:Store},ia P N k s Q rg q->(∀e rg q,Q e rg q->Q' e rg q)->ia P N k s Q' rg q
 |0,s,_,_,_,_,h,hq=>by cases s<;>exact SW.mono h hq|k+1,.seq x y,Q,Q',rg,q,h,hq=>SW.mono h fun e rg q h=>by
  cases e<;>first|exact ia.mono h hq|exact hq _ _ _ h
 |k+1,.skip,_,_,_,_,h,hq|k+1,.bh _,_,_,_,_,h,hq|k+1,.de _,_,_,_,_,h,hq|k+1,.eR _ _,_,_,_,_,h,hq|k+1,.cond _ _ _,_,_,_,_,h,hq|k+1,.block _ _,_,_,_,_,h,hq
 |k+1,.loop _,_,_,_,_,h,hq|k+1,.exit _,_,_,_,_,h,hq|k+1,.ret,_,_,_,_,h,hq|k+1,.scope _,_,_,_,_,h,hq|k+1,.label _,_,_,_,_,h,hq|k+1,.goto _,_,_,_,_,h,hq=>SW.mono h hq
theorem ia.sw:∀{k:Nat} {s:SC} {Q:Exit->ag->Store->Prop} {rg:ag} {q:Store},ia P N k s Q rg q->SW P N s Q rg q
 |0,s,_,_,_,h=>by cases s<;>exact h|k+1,.seq x y,Q,rg,q,h=>zl (SW.mono h fun e rg q h=>by
  cases e<;>first|exact ia.sw h|exact h)
 |k+1,.skip,_,_,_,h|k+1,.bh _,_,_,_,h|k+1,.de _,_,_,_,h|k+1,.eR _ _,_,_,_,h|k+1,.cond _ _ _,_,_,_,h|k+1,.block _ _,_,_,_,h
 |k+1,.loop _,_,_,_,h|k+1,.exit _,_,_,_,h|k+1,.ret,_,_,_,h|k+1,.scope _,_,_,_,h|k+1,.label _,_,_,_,h|k+1,.goto _,_,_,_,h=>h
theorem SW.s0{k:Nat}{s:SC}{Q:Exit->ag->Store->Prop}{rg:ag}{q:Store}(hs:∀x y,s≠.seq x y)(h:SW P N s Q rg q):ia P N k s Q rg q:=by cases k<;>cases s<;>first|exact h|exact absurd rfl (hs _ _)
def B6(P:Program)[Glob P](N k:Nat)(s:SC)(n:Nat)(rg:ag)(q:Store)(e:XE)(al:ag)(af:Store)(n':Nat):Prop:=
 n<=n'/\db n' al/\cI n' af/\∀B S,ia P N k s (B8 n B S e al af) (bP B rg) (aS B q++S)
theorem sI.s0{k:Nat}{s:SC}{n:Nat}{rg:ag}{q:Store}{e:XE}{al:ag}{af:Store}{n':Nat}(hs:∀x y,s≠.seq x y)(h:sI P N s n rg q e al af n'):B6 P N k s n rg q e al af n':=
 ⟨h.1,h.2.1,h.2.2.1,fun B S=>(h.2.2.2 B S).s0 hs⟩
theorem FW(hT:T.OK P)(hc:iY P call)(ho:ku P T)(hp:oh P dR)(ha:qI P N again)(hj:ot P N jump)(n0:Nat):∀(a:AC) (k:Nat) {rg:ag} {q:Store} {n:Nat} {e:XE} {al:ag} {af:Store} {n':Nat},
  xC T cfg call dR n0 again jump a rg q n=some (e,al,af,n')->db n rg->cI n q->B6 P N k a.erase n rg q e al af n'
 |.seq a b,0,rg,q,n,e,al,af,n',h,hG,hS=>fm hT hc ho hp ha hj n0 _ h hG hS|.seq a b,k+1,rg,q,n,e,al,af,n',h,hG,hS=>by
  simp only[xC]at h;split at h
  .rename_i bw aR n1 hx;obtain⟨h1,h2,h3,h4⟩:=fm hT hc ho hp ha hj n0 a hx hG hS;obtain⟨k1,k2,k3,k4⟩:=FW hT hc ho hp ha hj n0 b k h h2 h3;refine⟨ZD h1 k1,k2,k3,fun B S=>(h4 B S).mono ?_⟩;rintro e1 bK aK ⟨rfl,B',hA,rfl,rfl⟩;refine(k4 B' S).mono ?_;rintro e1 bK aK ⟨rfl,uI,ri,rfl,rfl⟩;exact⟨rfl,uI,hA.trans (ri.le h1),rfl,rfl⟩
  .rename_i hx;obtain⟨h1,h2,h3,h4⟩:=fm hT hc ho hp ha hj n0 a h hG hS;refine⟨h1,h2,h3,fun B S=>(h4 B S).mono ?_⟩;rintro e1 bK aK ⟨rfl,B',hA,rfl,rfl⟩;cases e with
   |nrm=>exact absurd h (hx _ _ _)|_=>exact⟨rfl,B',hA,rfl,rfl⟩
 |.aH ks a,k,rg,q,n,e,al,af,n',h,hG,hS=>by
  simp only[xC]at h;split at h
  .rename_i bw hk;have hk:=C6 hk;subst hk;have tx:db n (eP ks rg):=fun B B' k=>by rw[<-vd,<-vd,hG B B' k]
   obtain⟨h1,h2,h3,h4⟩:=FW hT hc ho hp ha hj n0 a k h (fun B B' k=>KI _ (tx B B' k)) (fun B B' k=>Dg _ (wG _ (hS B B' k)));refine⟨h1,h2,h3,fun B S=>ia.eP ks ?_⟩;rw[vd];exact ia.FT (h4 B S) (KJ _) (dA.app ((Dh _).trans (wH _)) (.refl S))
  .cases h
 |.stop a,k,rg,q,n,e,al,af,n',h,hG,hS=>FW hT hc ho hp ha hj n0 a k h hG hS|.skip,k,rg,q,n,e,al,af,n',h,hG,hS=>(fm hT hc ho hp ha hj n0 .skip h hG hS).s0 (by intro _ _ e;cases e)|.bh l,k,rg,q,n,e,al,af,n',h,hG,hS=>(fm hT hc ho hp ha hj n0 (.bh l) h hG hS).s0 (by intro _ _ e;cases e)|.de l,k,rg,q,n,e,al,af,n',h,hG,hS=>(fm hT hc ho hp ha hj n0 (.de l) h hG hS).s0 (by intro _ _ e;cases e)|.eR aq l,k,rg,q,n,e,al,af,n',h,hG,hS=>(fm hT hc ho hp ha hj n0 (.eR aq l) h hG hS).s0 (by intro _ _ e;cases e)|.cond c x y,k,rg,q,n,e,al,af,n',h,hG,hS=>(fm hT hc ho hp ha hj n0 (.cond c x y) h hG hS).s0 (by intro _ _ e;cases e)|.block id b,k,rg,q,n,e,al,af,n',h,hG,hS=>(fm hT hc ho hp ha hj n0 (.block id b) h hG hS).s0 (by intro _ _ e;cases e)|.loop b,k,rg,q,n,e,al,af,n',h,hG,hS=>(fm hT hc ho hp ha hj n0 (.loop b) h hG hS).s0 (by intro _ _ e;cases e)|.exit i,k,rg,q,n,e,al,af,n',h,hG,hS=>(fm hT hc ho hp ha hj n0 (.exit i) h hG hS).s0 (by intro _ _ e;cases e)|.ret,k,rg,q,n,e,al,af,n',h,hG,hS=>(fm hT hc ho hp ha hj n0 .ret h hG hS).s0 (by intro _ _ e;cases e)|.scope b,k,rg,q,n,e,al,af,n',h,hG,hS=>(fm hT hc ho hp ha hj n0 (.scope b) h hG hS).s0 (by intro _ _ e;cases e)|.label i,k,rg,q,n,e,al,af,n',h,hG,hS=>(fm hT hc ho hp ha hj n0 (.label i) h hG hS).s0 (by intro _ _ e;cases e)|.goto i,k,rg,q,n,e,al,af,n',h,hG,hS=>(fm hT hc ho hp ha hj n0 (.goto i) h hG hS).s0 (by intro _ _ e;cases e)
