/-
  The layer Sx, seventh part: append, calls, and all operations together.
-/
import Derived.Test.YtbihckigennlhaaGreatDoorSxComp4
set_option linter.unusedVariables false
set_option linter.unusedSimpArgs false
set_option linter.unusedSectionVars false
namespace Go.Sx
open Go.RowKit
section
variable {P:Program}[Glob P]{M:Mem}{w0:Base}{w:World}{σ:Store}{K:AV→Store→Prop}{rg:ae}{a:Act}{cfg:Nat→Nat}{d:Option Nat}{E:List PanicEntry→Store→Prop}
theorem BZ{ag:Nat}{x:AV}{v:Value}{rows:List (List AV)}(hI:Inv P M w0 σ w)(hx:R M x v)(h:eQ ag x=some rows)(vo:¬∃ s,x= .v (.string s)):
  ∃ (base:Option Addr) (cap:Nat) (L:List Value),v= .slice base rows.length cap∧RL M rows.flatten L∧(∀ i (h:i<rows.length),rows[i].length=ag)∧
   (Builtin.firstCells ag rows.length v).run P w= .ok L.toArray w:=by
 have go:∀ b off cap (cs:Nat→Value),Rows M b off ag rows cs→∃ L:List Value,RL M rows.flatten L∧(Builtin.firstCells ag rows.length (.slice (some ⟨b,off,none⟩) rows.length cap)).run P w= .ok L.toArray w:=by
  intro b off cap cs hr
  refine⟨_,hr.flat,?_⟩
  simp only[Builtin.firstCells]
  refine Ot b off _ _ (by simp) (fun i hi=> ?_)
  simp only[Z3,List.length_range]at hi
  have:=hI.dB _ _ _ (hr.mem i hi)
  simpa using this
 unfold eQ at h
 split at h
 ·rename_i nn e rows'
  split at h
  ·rename_i e';subst e'
   simp only[Z5]at h
   subst h
   rcases hx.pD with⟨ba,_,rfl,hv⟩|⟨b,off,cap,cs,hv,hr,h1,h2⟩
   ·subst hv
    exact⟨ba,0,[],rfl,RL.nil,fun i hi=>absurd hi (by simp),by cases ba<;>simp[Builtin.firstCells,loadCells,loadCellsFrom]⟩
   ·obtain⟨L,hL,fO⟩:=go b off cap cs hr
    exact⟨_,cap,L,hv,hL,hr.size,by rw[hv];exact fO⟩
  ·cases h
 ·rename_i e tg b u c rows'
  split at h
  ·rename_i e';subst e'
   simp only[Z5]at h
   subst h
   obtain⟨off,cap,cs,hv,hr,_⟩:=hx.qZ
   obtain⟨L,hL,fO⟩:=go b off cap cs hr
   exact⟨_,cap,L,hv,hL,hr.size,by rw[hv];exact fO⟩
  ·cases h
 ·simp only[Z5]at h
  subst h
  rw[hx.az]
  exact⟨none,0,[],rfl,RL.nil,fun i hi=>absurd hi (by simp),by simp[Builtin.firstCells]⟩
 ·exact absurd ⟨_,rfl⟩ vo
 ·cases h
theorem wm{ag:Nat}{x:AV}{v:Value}{rows:List (List AV)}(hI:Inv P M w0 σ w)(hx:R M x v)(h:eQ ag x=some rows):
  ∃ L:List Value,(∀ w':World,(Builtin.lenOf v).run P w'= .ok rows.length w')∧RL M rows.flatten L∧(∀ i (h:i<rows.length),rows[i].length=ag)∧
   (Builtin.firstCells ag rows.length v).run P w= .ok L.toArray w:=by
 by_cases hs:∃ s,x= .v (.string s)
 ·obtain⟨s,rfl⟩:=hs
  simp only[eQ]at h
  split at h
  case isFalse=>cases h
  rename_i e1
  subst e1
  cases h
  rw[hx.az]
  refine⟨s.data.toList.map fun b=> .int .u8 b.toNat,fun w'=>by simp only[Builtin.lenOf,Sem.run_pure,Z3,YH];rfl,?_,fun i hi=>by simp[bn],?_⟩
  ·have:∀ l:List UInt8,RL M (l.map bn).flatten (l.map fun b=>Value.int .u8 b.toNat):=by
    intro l
    induction l with
    |nil=>exact RL.nil
    |cons b l ih=>exact RL.cons (.v _) ih
   exact this _
  ·simp only[Builtin.firstCells,Z3,Sem.run_pure]
   congr 1
   apply YP
   have:s.extract 0 s.data.toList.length=s:=by
    have e:s.data.toList.length=s.size:=rfl
    rw[e,ByteArray.extract_zero_size]
   rw[this]
   simp
 ·obtain⟨base,cap,L,hv,h1,h2,h3⟩:=BZ (P:=P) (rows:=rows) hI hx h hs
  exact⟨L,fun w'=>by rw[hv];rfl,h1,h2,h3⟩
def Mem.ext(M:Mem)(B u:Nat)(vs:List Value):Mem:=fun b o=>if b=B∧u≤o∧o<u+vs.length then vs[o-u]? else M b o
theorem Inv.DN{tg b u c:Nat}(hI:Inv P M w0 σ w)(hb:aN σ tg=some (b,.tail u c))(vs:List Value):M.le (M.ext b u vs):=fun b' o v h=>by
 obtain⟨_,hM,_⟩:=hI.st _ (qW hb)
 have:¬(b'=b∧u≤o∧o<u+vs.length):=fun⟨e,h1,_⟩=>by subst e;rw[hM o h1]at h;cases h
 simp[Mem.ext,this,h]
theorem Inv.ayv{tg b u c:Nat}(hI:Inv P M w0 σ w)(hb:aN σ tg=some (b,.tail u c))(vs:List Value)(hc:u+vs.length≤c)(h1:vs.all Value.oneCell'=true):
  ∃ w',(storeCells ⟨b,u,none⟩ vs).run P w= .ok () w'∧Inv P (M.ext b u vs) w0 (ct σ tg b (.tail (u+vs.length) c)) w':=by
 obtain⟨hold,hM,cs,t,hh,hsz,_⟩:=hI.st _ (qW hb)
 simp only at hold hM hh hsz
 obtain⟨w',hr,hw',hk,e1,e2,e3,e4⟩:=Gl (P:=P) b u t vs cs 0 w hh (by omega) h1
 have hle:=hI.DN hb vs
 obtain⟨pre,post,jd,ew⟩:=rH hb
 have hnd:=hI.nd
 rw[jd]at hnd
 simp only[Y2,ZH]at hnd
 refine⟨w',hr,e1.trans hI.os,e2.trans hI.tape,e3.trans hI.output,by rw[e4];exact hI.size,fun k bY=> ?_,fun b' o v hv=> ?_,fun e he=> ?_,?_,fun g l e=>(hI.gl g l e).mono (hI.DN hb vs),hI.gw,fun b' o v hv aH=>hI.bm b' o v (by simp only[Mem.ext]at hv;rwa [if_neg (fun e=>by have:=(hI.st _ (qW hb)).1;simp only at this;omega)]at hv) aH⟩
 ·rw[hk k (by omega)];exact hI.old k bY
 ·simp only[Mem.ext]at hv
  split at hv
  ·rename_i iX
   obtain⟨rfl,h2,h3⟩:=iX
   simp only[World.cell?,hw',Option.isSome_none,ZS,Zt,over,YN]
   simp only[XN,ZA]
   rw[YR (by simp;omega)]
   rw[Zk (by simp;omega)]
   rw[← hv]
   congr 1
   simp;omega
  ·by_cases e:b'=b
   ·subst e
    rename_i iX
    have hu:o<u:=by
     rcases Nat.lt_or_ge o u with h|h
     ·exact h
     ·rw[hM o h]at hv;cases hv
    have:=hI.dB b' o v hv
    simp only[World.cell?,hh,Option.isSome_none,ZS,Zt]at this
    simp only[World.cell?,hw',Option.isSome_none,ZS,Zt,over,YN]
    simp only[XN,ZA]
    rw[Zk (by simp;omega),List.getElem?_take,if_pos hu]
    simpa using this
   ·have:=hI.dB b' o v hv
    rw[← this]
    simp only[World.cell?,hk b' e]
 ·rw[ew]at he
  have fg:e=(tg,b,.tail (u+vs.length) c)∨(e∈σ∧e.2.1≠b):=by
   rw[XT]at hnd
   rcases Zm.1 he with he|he
   ·refine .inr ⟨by rw[jd];exact Zy _ he,fun eb=> ?_⟩
    exact hnd.2.2 e.2.1 (YT he) b ZU eb
   ·rcases ZV.1 he with rfl|he
    ·exact .inl rfl
    ·refine .inr ⟨by rw[jd];exact Zj _ (ZX _ he),fun eb=> ?_⟩
     have:=(YF.1 hnd.2.1).1
     exact this (by rw[← eb];exact YT (f:=fun e:Nat×Nat×bN=>e.2.1) he)
  rcases fg with rfl|⟨he,aQ⟩
  ·refine⟨hold,fun o ho=> ?_,_,t,hw',?_,hc⟩
   ·simp[Mem.ext]
    rw[if_neg (by omega)]
    exact hM o (by omega)
   ·simp[over];omega
  ·refine⟨(hI.st e he).1,?_⟩
   have vl:=(hI.st e he).2
   obtain⟨tg',b',x⟩:=e
   simp only at aQ vl ⊢
   cases x with
   |cells l=>obtain⟨a1,cs',t',a2,a3⟩:=vl;exact⟨fun o=>by simp[Mem.ext,aQ,a1 o],cs',t',(hk b' aQ).trans a2,a3.mono hle⟩
   |tail u' c'=>obtain⟨a1,cs',t',a2,a3⟩:=vl;exact⟨fun o ho=>by simp[Mem.ext,aQ,a1 o ho],cs',t',(hk b' aQ).trans a2,a3⟩
   |map es k=>obtain⟨a1,l,a2,a3,a4⟩:=vl;exact⟨fun o=>by simp[Mem.ext,aQ,a1 o],l,(hk b' aQ).trans a2,a3,a4.mono hle⟩
 ·rw[ew]
  simp only[Y2,ZH]
  exact hnd
theorem Inv.acM{tg b:Nat}{x:bN}(hI:Inv P M w0 σ w)(hb:aN σ tg=some (b,x))(u:Nat)(cs:List Value)(t:TypeId)(hu:u≤cs.length):
  Inv P (M.add w.heap.size u cs) w0 (ct σ tg w.heap.size (.tail u cs.length)) (w.alloc (.cells cs.toArray t)):=by
 have h':=hI.Ak u cs t hu tg
 obtain⟨pre,post,jd,ew⟩:=rH hb
 refine⟨h'.os,h'.tape,h'.output,h'.size,h'.old,h'.dB,fun e he=> ?_,?_,h'.gl,h'.gw,h'.bm⟩
 ·rw[ew]at he
  refine h'.st e ?_
  rcases Zm.1 he with he|he
  ·exact ZX _ (by rw[jd];exact Zy _ he)
  ·rcases ZV.1 he with rfl|he
   ·exact ZU
   ·exact ZX _ (by rw[jd];exact Zj _ (ZX _ he))
 ·have hnd:=hI.nd
  have hf:=hI.fresh
  rw[jd]at hnd hf
  rw[ew]
  simp only[Y2,ZH]at hnd hf ⊢
  rw[XT]at hnd ⊢
  simp only[Zm,ZV,not_or]at hf
  refine⟨hnd.1,?_,fun a ha b' gr=> ?_⟩
  ·rw[YF]at hnd ⊢
   exact⟨hf.2.2,hnd.2.1.2⟩
  ·rcases ZV.1 gr with rfl|gr
   ·intro e;subst e;exact hf.1 ha
   ·exact hnd.2.2 a ha b' (ZX _ gr)
theorem KA(n:Nat):∀ (r c:Nat),c<n→256≤c→Builtin.growBy n r c≤2 * n
 |0,c,h,_=>by simp[Builtin.growBy];omega
 |r+1,c,h,h2=>by
  simp only[Builtin.growBy]
  rw[if_neg (by omega)]
  by_cases h3:c+(c+768) / 4<n
  ·exact KA n r _ h3 (by omega)
  ·cases r with
   |zero=>simp[Builtin.growBy];omega
   |succ r=>simp only[Builtin.growBy];rw[if_pos (by omega)];omega
theorem acW(n c:Nat)(h:c<n):Builtin.nextslicecap n c≤2 * n:=by
 unfold Builtin.nextslicecap
 split
 ·omega
 ·split
  ·omega
  ·exact KA n 4 c h (by omega)
theorem azB{rows rows':List (List AV)}{ag:Nat}(h:∀ i (h:i<rows.length),rows[i].length=ag)(h':∀ i (h:i<rows'.length),rows'[i].length=ag):
  ∀ i (h:i<(rows++rows').length),(rows++rows')[i].length=ag:=by
 intro i hi
 rw[List.getElem_append]
 split
 ·exact h _ _
 ·exact h' _ _
theorem Rows.join{b off ag:Nat}{rows rows':List (List AV)}{L L':List Value}{M':Mem}(h:∀ i (h:i<rows.length),rows[i].length=ag)(h':∀ i (h:i<rows'.length),rows'[i].length=ag)
  (hL:RL M' rows.flatten L) (dq:RL M' rows'.flatten L') (hM:∀ k v,(L++L')[k]? =some v→M' b (off+k)=some v):∃ cs,Rows M' b off ag (rows++rows') cs:=
 ⟨_,Rows.of_flat (azB h h') (by rw[List.flatten_append];exact RL.append hL dq) hM⟩
theorem Gi{t e u ty:TypeId}{i:TypeInfo}{z:Value}{s x:Value}{base:Option Addr}{n c n':Nat}{L L':List Value}(ht:P.underlying t=some (.slice e))(hu:(∃ e',P.underlying u=some (.slice e'))∨P.underlying u=some .string)(hi:P.info? e=some i)(hz:i.zero=some z)(hb:0<i.bytes)
  (hs:s= .slice base n c) (hx:∀ w':World,(Builtin.lenOf x).run P w'= .ok n' w') (aH:c<n+n') (nH:(n+n') * i.bytes≤35184372088832)
  (h1:(Builtin.firstCells i.size n s).run P w.drew= .ok L.toArray w.drew) (h2:(Builtin.firstCells i.size n' x).run P w.drew= .ok L'.toArray w.drew):
  ∃ (cap:Nat) (rest:List Value),n+n'≤cap∧cap≤maxLen∧rest.length=(cap-(n+n')) * z.cells.size∧
   (Builtin.append_ #[t,u] ty #[s,x]).run P w= .ok (.slice (some ⟨w.heap.size,0,none⟩) (n+n') cap) (w.drew.alloc (.cells (L++L'++rest).toArray e)):=by
 subst hs
 have aaw:=acW (n+n') c aH
 have nR:Builtin.nextslicecap (n+n') c * i.bytes≤281474976710656:=by
  have:=Nat.mul_le_mul_right i.bytes aaw
  rw[Nat.mul_assoc]at this
  omega
 have nQ:n+n'≤35184372088832:=YG (Nat.le_mul_of_pos_right _ hb) nH
 have lE:(Question.appendCap (n+n') c e).cut (w.tape w.drawn (.appendCap (n+n') c e))=n+n'+(w.tape w.drawn (.appendCap (n+n') c e)) % (2 ^ 63-(n+n')):=rfl
 have aau:(w.tape w.drawn (.appendCap (n+n') c e)) % (2 ^ 63-(n+n'))<2 ^ 63-(n+n'):=Nat.mod_lt _ (by omega)
 refine⟨(Question.appendCap (n+n') c e).cut (w.tape w.drawn (.appendCap (n+n') c e)),(Builtin.zeroCells z.cells ((Question.appendCap (n+n') c e).cut (w.tape w.drawn (.appendCap (n+n') c e))-(n+n'))).toList,?_,?_,?_,?_⟩
 ·rw[lE];omega
 ·rw[lE];unfold maxLen;omega
 ·simp[Builtin.zeroCells]
 ·have Bc:¬n+n'≤c:=by omega
  have Xz:¬Builtin.nextslicecap (n+n') c * i.bytes>281474976710656:=by omega
  have qC:i.bytes≠0:=by omega
  rcases hu with⟨e',hu⟩|hu
  all_goals(simp[Builtin.append_,aY ht,aY hu,ka hi,hx,Bc,Gk hi,qC,Xz,Question.forced,h1,h2,B0 hi hz,newRow])
  all_goals congr 2
  all_goals apply YP
  all_goals simp
theorem Inv.kq(hI:Inv P M w0 σ w):Inv P M w0 σ w.drew:=⟨hI.os,hI.tape,hI.output,hI.size,hI.old,hI.dB,hI.st,hI.nd,hI.gl,hI.gw,hI.bm⟩
theorem aed{rows:List (List AV)}(h:rows.all (fun r=>r.all AV.one)=true):rows.flatten.all AV.one=true:=by
 rw[ZF]at *
 intro x hx
 obtain⟨r,hr,Fa⟩:=List.mem_flatten.1 hx
 exact ZF.1 (h r hr) x Fa
theorem OD{t e u ty:TypeId}{i:TypeInfo}{z:Value}{x y:Operand}(ht:P.underlying t=some (.slice e))(hu:(∃ e',P.underlying u=some (.slice e'))∨P.underlying u=some .string)(hi:P.info? e=some i)(hz:i.zero=some z)(hp:0<i.size)(hb:0<i.bytes)(Ff:z.cells.size=i.size)
  (hI:Inv P M w0 σ w) (hR:bE M rg a) (h:aj P cfg d rg σ K E (.append e i.size i.bytes z.cells.toList x y)):aE P M w0 K ((Builtin.append_ #[t,u] ty #[a.eval x,a.eval y]).run P w):=by
 have hx:=hR.ev x
 have hy:=hR.ev y
 simp only[aj]at h
 split at h
 ·rename_i rows' fB qR
  rw[fB]at hx
  obtain⟨L',kG,dq,qO,qM⟩:=wm (P:=P) hI.kq hy qR
  obtain⟨nH,yf,sS⟩:=h
  rw[hx.az]
  by_cases hz0:rows'=[]
  ·subst hz0
   refine aE.same hI (.v _) (yf rfl) ?_
   obtain⟨L2,s8,cy,yr,s4⟩:=wm (P:=P) hI hy qR
   have u0:L2=[]:=by have:=cy.1;simp at this;exact ZO this.symm
   subst u0
   simp only[Z4]at s4 s8
   rcases hu with⟨e',hu⟩|hu
   all_goals simp[Builtin.append_,aY ht,aY hu,ka hi,s8,s4]
  ·have nW:0<rows'.length:=Y1.2 hz0
   obtain⟨cap,rest,ia,sP,kE,fO⟩:=Gi (P:=P) (ty:=ty) (s:= .slice none 0 0) (x:=a.eval y) (L:=[]) (L':=L') (n:=0) (c:=0) (n':=rows'.length) ht hu hi hz hb rfl kG (by omega) (by simpa using nH) (by simp[Builtin.firstCells]) qM
   rw[fO]
   simp only[Zh,Ze]at ia ⊢
   have hlen:L'.length=rows'.length * i.size:=by rw[← dq.1,mu _ qO]
   refine⟨_,_,M.add w.drew.heap.size L'.length (L'++rest),_,_,rfl,hI.kq.lO _ _,hI.kq.Ak _ _ e (by simp) _,?_,sS hz0 _ L'.length _ hlen⟩
   have hr:Rows (M.add w.drew.heap.size L'.length (L'++rest)) w.drew.heap.size 0 i.size rows' (fun k=>L'.getD k undef):=
    Rows.of_flat qO (dq.mono (hI.kq.lO _ _)) (fun k v hk=>by
     have bY:k<L'.length:=(ZN.1 hk).1
     have:M.add w.drew.heap.size L'.length (L'++rest) w.drew.heap.size (0+k)=(L'++rest)[k]? :=by simp[Mem.add,bY]
     rw[this,Zk bY,hk])
   have yv:(L'++rest).length=cap * i.size:=by
    rw[Z7,kE,hlen,Ff,Zh,← YL];congr 1;omega
   exact R.pC hr ia sP (.inr ⟨by omega,by omega⟩) hp
 ·rename_i ez tg b u' c rows rows' fB qR
  rw[fB]at hx
  obtain⟨rfl,A5,nH,vp,h⟩:=h
  obtain⟨off,cap,cs,hv,hr,h4,h5,h6,h8⟩:=hx.qZ
  obtain⟨TP,Ub,L,yt,hL,hsz,E0⟩:=BZ (P:=P) (rows:=rows) (ag:=i.size) hI.kq hx (by simp[eQ]) (fun⟨s,h⟩=>by cases h)
  obtain⟨L',kG,dq,qO,qM⟩:=wm (P:=P) hI.kq hy qR
  have hlen:L.length=rows.length * i.size:=by rw[← hL.1,mu _ hsz]
  have qH:L'.length=rows'.length * i.size:=by rw[← dq.1,mu _ qO]
  by_cases Ez:rows.length+rows'.length≤cap
  ·
   obtain⟨L2,s8,cy,yr,s4⟩:=wm (P:=P) hI hy qR
   have nP:L2.length=rows'.length * i.size:=by rw[← cy.1,mu _ yr]
   have azY:L2.all Value.oneCell'=true:=cy.IH (aed vp)
   have LM:∀ w',(storeCells ⟨b,off+rows.length * i.size,none⟩ L2).run P w= .ok () w'→(Builtin.append_ #[t,u] ty #[a.eval x,a.eval y]).run P w= .ok (.slice (some ⟨b,off,none⟩) (rows.length+rows'.length) cap) w':=by
    intro w' hs
    rw[hv]at *
    rcases hu with⟨e',hu⟩|hu
    all_goals simp[Builtin.append_,aY ht,aY hu,ka hi,s8,Ez,s4,Addr.add_lit,hs]
   rcases h6 with h6|⟨h6,h7⟩
   ·have e1:rows=[]:=ZO (by omega)
    have e2:rows'=[]:=ZO (by omega)
    subst e1 e2
    have e3:L2=[]:=ZO (by simpa using nP)
    subst e3
    refine⟨_,w,M,_,_,LM w rfl,Mem.le.refl _,?_,?_,h b u' c (fun e=>by simpa using e)⟩
    ·obtain⟨pre,post,jd,ew⟩:=rH A5
     rw[ew,← jd]
     exact hI
    ·exact R.pC (rows:=[]++[]) (cs:=cs) ⟨fun i hi=>absurd hi (by simp),fun k hk=>absurd hk (by simp),fun i hi=>absurd hi (by simp)⟩ (by simp) h5 (.inl h6) h8
   ·have lE:(rows.length+rows'.length) * i.size≤cap * i.size:=Nat.mul_le_mul_right _ Ez
    rw[YL]at lE
    obtain⟨w',hs,bw⟩:=Inv.ayv (P:=P) hI A5 L2 (by omega) azY
    rw[← h6]at hs
    have hle:=hI.DN A5 L2
    refine⟨_,w',_,_,_,LM w' hs,hle,bw,?_,h b (u'+L2.length) c (fun e=>by rw[e,nP,YL])⟩
    obtain⟨L0,u0,Xf⟩:∃ L0:List Value,RL M rows.flatten L0∧∀ k v,L0[k]? =some v→M b (off+k)=some v:=⟨_,hr.flat,fun k v hk=>by
     obtain⟨gL,hk2⟩:=ZN.1 hk
     simp at gL hk2
     rw[← hk2]
     exact hr.mem k gL⟩
    have azQ:L0.length=rows.length * i.size:=by rw[← u0.1,mu _ hsz]
    obtain⟨Jx,hj⟩:=Rows.join (M':=M.ext b u' L2) (b:=b) (off:=off) hsz yr (u0.mono hle) (cy.mono hle) (fun k v hk=>by
     by_cases aH:k<L0.length
     ·rw[Zk aH]at hk
      exact hle _ _ _ (Xf k v hk)
     ·rw[YR (by omega)]at hk
      have bY:=(ZN.1 hk).1
      simp only[Mem.ext]
      rw[if_pos ⟨trivial,by omega,by omega⟩,← hk]
      congr 1
      omega)
    have:=R.pC (t:=tg) (u:=u'+L2.length) (c:=c) hj (cap:=cap) (by simpa using Ez) h5 (.inr ⟨by rw[Z7,YL];omega,h7⟩) h8
    rw[Z7]at this
    exact this
  ·obtain⟨xt,rest,ia,sP,kE,fO⟩:=Gi (P:=P) (ty:=ty) (s:=a.eval x) (x:=a.eval y) (L:=L) (L':=L') (n:=rows.length) (c:=cap) (n':=rows'.length) ht hu hi hz hb hv kG (by omega) nH E0 qM
   rw[fO]
   have xM:=hI.kq
   have hle:=xM.lO (L++L').length (L++L'++rest)
   refine⟨_,_,M.add w.drew.heap.size (L++L').length (L++L'++rest),_,_,rfl,hle,xM.acM A5 _ _ e (by simp),?_,h _ (L++L').length _ (fun _=>by rw[Z7,hlen,qH,YL])⟩
   obtain⟨Jx,hj⟩:=Rows.join (M':=M.add w.drew.heap.size (L++L').length (L++L'++rest)) (b:=w.drew.heap.size) (off:=0) hsz qO (hL.mono hle) (dq.mono hle) (fun k v hk=>by
    have bY:k<(L++L').length:=(ZN.1 hk).1
    have:M.add w.drew.heap.size (L++L').length (L++L'++rest) w.drew.heap.size (0+k)=(L++L'++rest)[k]? :=by unfold Mem.add;rw[if_pos rfl,if_pos (by omega),Zh]
    rw[this,Zk bY,hk])
   have yv:(L++L'++rest).length=xt * i.size:=by
    rw[Z7,Z7,kE,hlen,qH,Ff,← YL,← YL];congr 1;omega
   have o9:(L++L').length=(rows++rows').length * i.size:=by
    rw[Z7,hlen,qH,Z7,YL]
   have:=R.pC (t:=tg) (u:=(L++L').length) (c:=(L++L'++rest).length) hj (cap:=xt) (by simpa using ia) sP (.inr ⟨by omega,by omega⟩) hp
   rw[Z7 (as:=rows)]at this
   exact this
 ·rename_i ez rows rows' fB qR
  rw[fB]at hx
  obtain⟨rfl,nH,yf,h⟩:=h
  obtain⟨b0,off,cs,hv,hr,h5⟩:=hx.Nq
  by_cases aQ:rows'=[]
  ·subst aQ
   refine aE.same hI hx (yf rfl) ?_
   obtain⟨L2,s8,cy,yr,s4⟩:=wm (P:=P) hI hy qR
   have u0:L2=[]:=by have:=cy.1;simp at this;exact ZO this.symm
   subst u0
   simp only[Z4]at s4 s8
   rw[hv]
   rcases hu with⟨e',hu⟩|hu
   all_goals simp[Builtin.append_,aY ht,aY hu,ka hi,s8,s4,Addr.add_lit,storeCells]
  have h:=h aQ
  have nW:0<rows'.length:=Y1.2 aQ
  obtain⟨TP,Ub,L,yt,hL,hsz,E0⟩:=BZ (P:=P) (rows:=rows) (ag:=i.size) hI.kq (hx.Wx true) (by simp[eQ]) (fun⟨s,h⟩=>by cases h)
  obtain⟨L',kG,dq,qO,qM⟩:=wm (P:=P) hI.kq hy qR
  have hlen:L.length=rows.length * i.size:=by rw[← hL.1,mu _ hsz]
  have qH:L'.length=rows'.length * i.size:=by rw[← dq.1,mu _ qO]
  obtain⟨xt,rest,ia,sP,kE,fO⟩:=Gi (P:=P) (ty:=ty) (s:=a.eval x) (x:=a.eval y) (L:=L) (L':=L') (n:=rows.length) (c:=rows.length) (n':=rows'.length) ht hu hi hz hb hv kG (by omega) nH E0 qM
  rw[fO]
  have xM:=hI.kq
  have hle:=xM.lO (L++L').length (L++L'++rest)
  refine⟨_,_,M.add w.drew.heap.size (L++L').length (L++L'++rest),_,_,rfl,hle,xM.Ak _ _ e (by simp) _,?_,h _ _ _⟩
  obtain⟨Jx,hj⟩:=Rows.join (M':=M.add w.drew.heap.size (L++L').length (L++L'++rest)) (b:=w.drew.heap.size) (off:=0) hsz qO (hL.mono hle) (dq.mono hle) (fun k v hk=>by
   have bY:k<(L++L').length:=(ZN.1 hk).1
   have:M.add w.drew.heap.size (L++L').length (L++L'++rest) w.drew.heap.size (0+k)=(L++L'++rest)[k]? :=by unfold Mem.add;rw[if_pos rfl,if_pos (by omega),Zh]
   rw[this,Zk bY,hk])
  have yv:(L++L'++rest).length=xt * i.size:=by
   rw[Z7,Z7,kE,hlen,qH,Ff,← YL,← YL];congr 1;omega
  have o9:(L++L').length=(rows++rows').length * i.size:=by
   rw[Z7,hlen,qH,Z7,YL]
  have:=R.pC (t:=d.getD 0) (u:=(L++L').length) (c:=(L++L'++rest).length) hj (cap:=xt) (by simpa using ia) sP (.inr ⟨by omega,by omega⟩) hp
  rw[Z7 (as:=rows)]at this
  exact this
 ·exact h.elim
end
end Go.Sx
