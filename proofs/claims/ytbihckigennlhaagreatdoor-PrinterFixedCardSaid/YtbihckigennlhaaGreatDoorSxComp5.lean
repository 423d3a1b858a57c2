/-
  The layer Sx, seventh part: append, calls, and all operations together.
-/
import Derived.Test.YtbihckigennlhaaGreatDoorSxComp4
set_option linter.unusedVariables false
set_option linter.unusedSimpArgs false
set_option linter.unusedSectionVars false
namespace Go.Sx
open Go.RowKit
section
variable {P:Program}[Glob P]{M:Mem}{w0:Base}{w:World}{σ:Store}{K:AV→Store→Prop}{rg:ae}{a:Act}{cfg:Nat→Nat}{d:Option Nat}{E:List PanicEntry→Store→Prop}
theorem Aw{af:Nat}{x:AV}{v:Value}{rows:List (List AV)}(hI:Inv P M w0 σ w)(hx:R M x v)(h:eu af x=some rows)(uj:¬∃ s,x= .v (.string s)):
  ∃ (base:Option Addr) (cap:Nat) (L:List Value),v= .slice base rows.length cap∧RL M rows.flatten L∧(∀ i (h:i<rows.length),rows[i].length=af)∧
   (Builtin.firstCells af rows.length v).run P w= .ok L.toArray w:=by
 have go:∀ b off cap (cs:Nat→Value),Rows M b off af rows cs→∃ L:List Value,RL M rows.flatten L∧(Builtin.firstCells af rows.length (.slice (some ⟨b,off,none⟩) rows.length cap)).run P w= .ok L.toArray w:=by
  intro b off cap cs hr
  refine⟨_,hr.flat,?_⟩
  simp only[Builtin.firstCells]
  refine Mf b off _ _ (by simp) (fun i hi=> ?_)
  simp only[Z5,List.length_range]at hi
  have:=hI.dr _ _ _ (hr.mem i hi)
  simpa using this
 unfold eu at h
 split at h
 ·rename_i nn e rows'
  split at h
  ·rename_i e';subst e'
   simp only[Z6]at h
   subst h
   rcases hx.oE with⟨ba,_,rfl,hv⟩|⟨b,off,cap,cs,hv,hr,h1,h2⟩
   ·subst hv
    exact⟨ba,0,[],rfl,RL.nil,fun i hi=>absurd hi (by simp),by cases ba<;>simp[Builtin.firstCells,loadCells,loadCellsFrom]⟩
   ·obtain⟨L,hL,fq⟩:=go b off cap cs hr
    exact⟨_,cap,L,hv,hL,hr.size,by rw[hv];exact fq⟩
  ·cases h
 ·rename_i e tg b u c rows'
  split at h
  ·rename_i e';subst e'
   simp only[Z6]at h
   subst h
   obtain⟨off,cap,cs,hv,hr,_⟩:=hx.pZ
   obtain⟨L,hL,fq⟩:=go b off cap cs hr
   exact⟨_,cap,L,hv,hL,hr.size,by rw[hv];exact fq⟩
  ·cases h
 ·simp only[Z6]at h
  subst h
  rw[hx.ax]
  exact⟨none,0,[],rfl,RL.nil,fun i hi=>absurd hi (by simp),by simp[Builtin.firstCells]⟩
 ·exact absurd ⟨_,rfl⟩ uj
 ·cases h
theorem u6{af:Nat}{x:AV}{v:Value}{rows:List (List AV)}(hI:Inv P M w0 σ w)(hx:R M x v)(h:eu af x=some rows):
  ∃ L:List Value,(∀ w':World,(Builtin.lenOf v).run P w'= .ok rows.length w')∧RL M rows.flatten L∧(∀ i (h:i<rows.length),rows[i].length=af)∧
   (Builtin.firstCells af rows.length v).run P w= .ok L.toArray w:=by
 by_cases hs:∃ s,x= .v (.string s)
 ·obtain⟨s,rfl⟩:=hs
  simp only[eu]at h
  split at h
  case isFalse=>cases h
  rename_i e1
  subst e1
  cases h
  rw[hx.ax]
  refine⟨s.data.toList.map fun b=> .int .u8 b.toNat,fun w'=>by simp only[Builtin.lenOf,Sem.run_pure,Z5,YM];rfl,?_,fun i hi=>by simp[bA],?_⟩
  ·have:∀ l:List UInt8,RL M (l.map bA).flatten (l.map fun b=>Value.int .u8 b.toNat):=by
    intro l
    induction l with
    |nil=>exact RL.nil
    |cons b l ih=>exact RL.cons (.v _) ih
   exact this _
  ·simp only[Builtin.firstCells,Z5,Sem.run_pure]
   congr 1
   apply YX
   have:s.extract 0 s.data.toList.length=s:=by
    have e:s.data.toList.length=s.size:=rfl
    rw[e,ByteArray.extract_zero_size]
   rw[this]
   simp
 ·obtain⟨base,cap,L,hv,h1,h2,h3⟩:=Aw (P:=P) (rows:=rows) hI hx h hs
  exact⟨L,fun w'=>by rw[hv];rfl,h1,h2,h3⟩
def Mem.ext(M:Mem)(B u:Nat)(vs:List Value):Mem:=fun b o=>if b=B∧u≤o∧o<u+vs.length then vs[o-u]? else M b o
theorem Inv.Ck{tg b u c:Nat}(hI:Inv P M w0 σ w)(hb:aK σ tg=some (b,.tail u c))(vs:List Value):M.le (M.ext b u vs):=fun b' o v h=>by
 obtain⟨_,hM,_⟩:=hI.st _ (pV hb)
 have:¬(b'=b∧u≤o∧o<u+vs.length):=fun⟨e,h1,_⟩=>by subst e;rw[hM o h1]at h;cases h
 simp[Mem.ext,this,h]
theorem Inv.asD{tg b u c:Nat}(hI:Inv P M w0 σ w)(hb:aK σ tg=some (b,.tail u c))(vs:List Value)(hc:u+vs.length≤c)(h1:vs.all Value.oneCell'=true):
  ∃ w',(storeCells ⟨b,u,none⟩ vs).run P w= .ok () w'∧Inv P (M.ext b u vs) w0 (ck σ tg b (.tail (u+vs.length) c)) w':=by
 obtain⟨hold,hM,cs,t,hh,aT,_⟩:=hI.st _ (pV hb)
 simp only at hold hM hh aT
 obtain⟨w',hr,ou,hk,e1,e2,e3,e4⟩:=Ez (P:=P) b u t vs cs 0 w hh (by omega) h1
 have hle:=hI.Ck hb vs
 obtain⟨pre,post,iB,dz⟩:=qq hb
 have hnd:=hI.nd
 rw[iB]at hnd
 simp only[Y2,ZL]at hnd
 refine⟨w',hr,e1.trans hI.os,e2.trans hI.tape,e3.trans hI.output,by rw[e4];exact hI.size,fun k bU=> ?_,fun b' o v hv=> ?_,fun e he=> ?_,?_,fun g l e=>(hI.gl g l e).mono (hI.Ck hb vs),hI.gw,fun b' o v hv aE=>hI.bm b' o v (by simp only[Mem.ext]at hv;rwa [if_neg (fun e=>by have:=(hI.st _ (pV hb)).1;simp only at this;omega)]at hv) aE⟩
 ·rw[hk k (by omega)];exact hI.old k bU
 ·simp only[Mem.ext]at hv
  split at hv
  ·rename_i im
   obtain⟨rfl,h2,h3⟩:=im
   simp only[World.cell?,ou,Option.isSome_none,ZT,ZA,over,YT]
   simp only[X2,Zv]
   rw[YI (by simp;omega)]
   rw[Zb (by simp;omega)]
   rw[← hv]
   congr 1
   simp;omega
  ·by_cases e:b'=b
   ·subst e
    rename_i im
    have hu:o<u:=by
     rcases Nat.lt_or_ge o u with h|h
     ·exact h
     ·rw[hM o h]at hv;cases hv
    have:=hI.dr b' o v hv
    simp only[World.cell?,hh,Option.isSome_none,ZT,ZA]at this
    simp only[World.cell?,ou,Option.isSome_none,ZT,ZA,over,YT]
    simp only[X2,Zv]
    rw[Zb (by simp;omega),List.getElem?_take,if_pos hu]
    simpa using this
   ·have:=hI.dr b' o v hv
    rw[← this]
    simp only[World.cell?,hk b' e]
 ·rw[dz]at he
  have iy:e=(tg,b,.tail (u+vs.length) c)∨(e∈σ∧e.2.1≠b):=by
   rw[X7]at hnd
   rcases Zl.1 he with he|he
   ·refine .inr ⟨by rw[iB];exact ZC _ he,fun eb=> ?_⟩
    exact hnd.2.2 e.2.1 (YW he) b ZR eb
   ·rcases ZU.1 he with rfl|he
    ·exact .inl rfl
    ·refine .inr ⟨by rw[iB];exact Zp _ (ZX _ he),fun eb=> ?_⟩
     have:=(YL.1 hnd.2.1).1
     exact this (by rw[← eb];exact YW (f:=fun e:Nat×Nat×cp=>e.2.1) he)
  rcases iy with rfl|⟨he,aR⟩
  ·refine⟨hold,fun o ho=> ?_,_,t,ou,?_,hc⟩
   ·simp[Mem.ext]
    rw[if_neg (by omega)]
    exact hM o (by omega)
   ·simp[over];omega
  ·refine⟨(hI.st e he).1,?_⟩
   have wU:=(hI.st e he).2
   obtain⟨tg',b',x⟩:=e
   simp only at aR wU ⊢
   cases x with
   |cells l=>obtain⟨a1,cs',t',a2,a3⟩:=wU;exact⟨fun o=>by simp[Mem.ext,aR,a1 o],cs',t',(hk b' aR).trans a2,a3.mono hle⟩
   |tail u' c'=>obtain⟨a1,cs',t',a2,a3⟩:=wU;exact⟨fun o ho=>by simp[Mem.ext,aR,a1 o ho],cs',t',(hk b' aR).trans a2,a3⟩
   |map es k=>obtain⟨a1,l,a2,a3,a4⟩:=wU;exact⟨fun o=>by simp[Mem.ext,aR,a1 o],l,(hk b' aR).trans a2,a3,a4.mono hle⟩
 ·rw[dz]
  simp only[Y2,ZL]
  exact hnd
theorem Inv.aaG{tg b:Nat}{x:cp}(hI:Inv P M w0 σ w)(hb:aK σ tg=some (b,x))(u:Nat)(cs:List Value)(t:TypeId)(hu:u≤cs.length):
  Inv P (M.add w.heap.size u cs) w0 (ck σ tg w.heap.size (.tail u cs.length)) (w.alloc (.cells cs.toArray t)):=by
 have h':=hI.yA u cs t hu tg
 obtain⟨pre,post,iB,dz⟩:=qq hb
 refine⟨h'.os,h'.tape,h'.output,h'.size,h'.old,h'.dr,fun e he=> ?_,?_,h'.gl,h'.gw,h'.bm⟩
 ·rw[dz]at he
  refine h'.st e ?_
  rcases Zl.1 he with he|he
  ·exact ZX _ (by rw[iB];exact ZC _ he)
  ·rcases ZU.1 he with rfl|he
   ·exact ZR
   ·exact ZX _ (by rw[iB];exact Zp _ (ZX _ he))
 ·have hnd:=hI.nd
  have hf:=hI.fresh
  rw[iB]at hnd hf
  rw[dz]
  simp only[Y2,ZL]at hnd hf ⊢
  rw[X7]at hnd ⊢
  simp only[Zl,ZU,not_or]at hf
  refine⟨hnd.1,?_,fun a ha b' fV=> ?_⟩
  ·rw[YL]at hnd ⊢
   exact⟨hf.2.2,hnd.2.1.2⟩
  ·rcases ZU.1 fV with rfl|fV
   ·intro e;subst e;exact hf.1 ha
   ·exact hnd.2.2 a ha b' (ZX _ fV)
theorem IV(n:Nat):∀ (r c:Nat),c<n→256≤c→Builtin.growBy n r c≤2 * n
 |0,c,h,_=>by simp[Builtin.growBy];omega
 |r+1,c,h,h2=>by
  simp only[Builtin.growBy]
  rw[if_neg (by omega)]
  by_cases h3:c+(c+768) / 4<n
  ·exact IV n r _ h3 (by omega)
  ·cases r with
   |zero=>simp[Builtin.growBy];omega
   |succ r=>simp only[Builtin.growBy];rw[if_pos (by omega)];omega
theorem aaQ(n c:Nat)(h:c<n):Builtin.nextslicecap n c≤2 * n:=by
 unfold Builtin.nextslicecap
 split
 ·omega
 ·split
  ·omega
  ·exact IV n 4 c h (by omega)
theorem atB{rows rows':List (List AV)}{af:Nat}(h:∀ i (h:i<rows.length),rows[i].length=af)(h':∀ i (h:i<rows'.length),rows'[i].length=af):
  ∀ i (h:i<(rows++rows').length),(rows++rows')[i].length=af:=by
 intro i hi
 rw[List.getElem_append]
 split
 ·exact h _ _
 ·exact h' _ _
theorem Rows.join{b off af:Nat}{rows rows':List (List AV)}{L L':List Value}{M':Mem}(h:∀ i (h:i<rows.length),rows[i].length=af)(h':∀ i (h:i<rows'.length),rows'[i].length=af)
  (hL:RL M' rows.flatten L) (cZ:RL M' rows'.flatten L') (hM:∀ k v,(L++L')[k]? =some v→M' b (off+k)=some v):∃ cs,Rows M' b off af (rows++rows') cs:=
 ⟨_,Rows.of_flat (atB h h') (by rw[List.flatten_append];exact RL.append hL cZ) hM⟩
theorem Ev{t e u ty:TypeId}{i:TypeInfo}{z:Value}{s x:Value}{base:Option Addr}{n c n':Nat}{L L':List Value}(ht:P.underlying t=some (.slice e))(hu:(∃ e',P.underlying u=some (.slice e'))∨P.underlying u=some .string)(hi:P.info? e=some i)(hz:i.zero=some z)(hb:0<i.bytes)
  (hs:s= .slice base n c) (hx:∀ w':World,(Builtin.lenOf x).run P w'= .ok n' w') (aE:c<n+n') (pB:(n+n') * i.bytes≤35184372088832)
  (h1:(Builtin.firstCells i.size n s).run P w.drew= .ok L.toArray w.drew) (h2:(Builtin.firstCells i.size n' x).run P w.drew= .ok L'.toArray w.drew):
  ∃ (cap:Nat) (rest:List Value),n+n'≤cap∧cap≤maxLen∧rest.length=(cap-(n+n')) * z.cells.size∧
   (Builtin.append_ #[t,u] ty #[s,x]).run P w= .ok (.slice (some ⟨w.heap.size,0,none⟩) (n+n') cap) (w.drew.alloc (.cells (L++L'++rest).toArray e)):=by
 subst hs
 have VD:=aaQ (n+n') c aE
 have pG:Builtin.nextslicecap (n+n') c * i.bytes≤281474976710656:=by
  have:=Nat.mul_le_mul_right i.bytes VD
  rw[Nat.mul_assoc]at this
  omega
 have mT:n+n'≤35184372088832:=YJ (Nat.le_mul_of_pos_right _ hb) pB
 have kr:(Question.appendCap (n+n') c e).cut (w.tape w.drawn (.appendCap (n+n') c e))=n+n'+(w.tape w.drawn (.appendCap (n+n') c e)) % (2 ^ 63-(n+n')):=rfl
 have Vz:(w.tape w.drawn (.appendCap (n+n') c e)) % (2 ^ 63-(n+n'))<2 ^ 63-(n+n'):=Nat.mod_lt _ (by omega)
 refine⟨(Question.appendCap (n+n') c e).cut (w.tape w.drawn (.appendCap (n+n') c e)),(Builtin.zeroCells z.cells ((Question.appendCap (n+n') c e).cut (w.tape w.drawn (.appendCap (n+n') c e))-(n+n'))).toList,?_,?_,?_,?_⟩
 ·rw[kr];omega
 ·rw[kr];unfold maxLen;omega
 ·simp[Builtin.zeroCells]
 ·have U9:¬n+n'≤c:=by omega
  have UJ:¬Builtin.nextslicecap (n+n') c * i.bytes>281474976710656:=by omega
  have tQ:i.bytes≠0:=by omega
  rcases hu with⟨e',hu⟩|hu
  all_goals(simp[Builtin.append_,aV ht,aV hu,jA hi,hx,U9,Ey hi,tQ,UJ,Question.forced,h1,h2,Ax hi hz,newRow])
  all_goals congr 2
  all_goals apply YX
  all_goals simp
theorem Inv.jJ(hI:Inv P M w0 σ w):Inv P M w0 σ w.drew:=⟨hI.os,hI.tape,hI.output,hI.size,hI.old,hI.dr,hI.st,hI.nd,hI.gl,hI.gw,hI.bm⟩
theorem ab3{rows:List (List AV)}(h:rows.all (fun r=>r.all AV.one)=true):rows.flatten.all AV.one=true:=by
 rw[ZJ]at *
 intro x hx
 obtain⟨r,hr,DF⟩:=List.mem_flatten.1 hx
 exact ZJ.1 (h r hr) x DF
theorem Mo{t e u ty:TypeId}{i:TypeInfo}{z:Value}{x y:Operand}(ht:P.underlying t=some (.slice e))(hu:(∃ e',P.underlying u=some (.slice e'))∨P.underlying u=some .string)(hi:P.info? e=some i)(hz:i.zero=some z)(hp:0<i.size)(hb:0<i.bytes)(DJ:z.cells.size=i.size)
  (hI:Inv P M w0 σ w) (hR:bB M rg a) (h:aj P cfg d rg σ K E (.append e i.size i.bytes z.cells.toList x y)):aA P M w0 K ((Builtin.append_ #[t,u] ty #[a.eval x,a.eval y]).run P w):=by
 have hx:=hR.ev x
 have hy:=hR.ev y
 simp only[aj]at h
 split at h
 ·rename_i rows' fa pQ
  rw[fa]at hx
  obtain⟨L',jP,cZ,pN,pL⟩:=u6 (P:=P) hI.jJ hy pQ
  obtain⟨pB,w5,rA⟩:=h
  rw[hx.ax]
  by_cases nh:rows'=[]
  ·subst nh
   refine aA.same hI (.v _) (w5 rfl) ?_
   obtain⟨L2,rN,cq,xi,rJ⟩:=u6 (P:=P) hI hy pQ
   have tL:L2=[]:=by have:=cq.1;simp at this;exact ZO this.symm
   subst tL
   simp only[Z2]at rJ rN
   rcases hu with⟨e',hu⟩|hu
   all_goals simp[Builtin.append_,aV ht,aV hu,jA hi,rN,rJ]
  ·have mY:0<rows'.length:=YU.2 nh
   obtain⟨cap,rest,gC,rr,lM,fq⟩:=Ev (P:=P) (ty:=ty) (s:= .slice none 0 0) (x:=a.eval y) (L:=[]) (L':=L') (n:=0) (c:=0) (n':=rows'.length) ht hu hi hz hb rfl jP (by omega) (by simpa using pB) (by simp[Builtin.firstCells]) pL
   rw[fq]
   simp only[Y8,Zh]at gC ⊢
   have hlen:L'.length=rows'.length * i.size:=by rw[← cZ.1,lz _ pN]
   refine⟨_,_,M.add w.drew.heap.size L'.length (L'++rest),_,_,rfl,hI.jJ.kH _ _,hI.jJ.yA _ _ e (by simp) _,?_,rA nh _ L'.length _ hlen⟩
   have hr:Rows (M.add w.drew.heap.size L'.length (L'++rest)) w.drew.heap.size 0 i.size rows' (fun k=>L'.getD k undef):=
    Rows.of_flat pN (cZ.mono (hI.jJ.kH _ _)) (fun k v hk=>by
     have bU:k<L'.length:=(ZP.1 hk).1
     have:M.add w.drew.heap.size L'.length (L'++rest) w.drew.heap.size (0+k)=(L'++rest)[k]? :=by simp[Mem.add,bU]
     rw[this,Zb bU,hk])
   have xl:(L'++rest).length=cap * i.size:=by
    rw[Z7,lM,hlen,DJ,Y8,← YQ];congr 1;omega
   exact R.oD hr gC rr (.inr ⟨by omega,by omega⟩) hp
 ·rename_i ez tg b u' c rows rows' fa pQ
  rw[fa]at hx
  obtain⟨rfl,y9,pB,uk,h⟩:=h
  obtain⟨off,cap,cs,hv,hr,h4,h5,h6,h8⟩:=hx.pZ
  obtain⟨Q5,Rm,L,xj,hL,aT,Dv⟩:=Aw (P:=P) (rows:=rows) (af:=i.size) hI.jJ hx (by simp[eu]) (fun⟨s,h⟩=>by cases h)
  obtain⟨L',jP,cZ,pN,pL⟩:=u6 (P:=P) hI.jJ hy pQ
  have hlen:L.length=rows.length * i.size:=by rw[← hL.1,lz _ aT]
  have pF:L'.length=rows'.length * i.size:=by rw[← cZ.1,lz _ pN]
  by_cases C4:rows.length+rows'.length≤cap
  ·
   obtain⟨L2,rN,cq,xi,rJ⟩:=u6 (P:=P) hI hy pQ
   have mS:L2.length=rows'.length * i.size:=by rw[← cq.1,lz _ xi]
   have cw:L2.all Value.oneCell'=true:=cq.GQ (ab3 uk)
   have J2:∀ w',(storeCells ⟨b,off+rows.length * i.size,none⟩ L2).run P w= .ok () w'→(Builtin.append_ #[t,u] ty #[a.eval x,a.eval y]).run P w= .ok (.slice (some ⟨b,off,none⟩) (rows.length+rows'.length) cap) w':=by
    intro w' hs
    rw[hv]at *
    rcases hu with⟨e',hu⟩|hu
    all_goals simp[Builtin.append_,aV ht,aV hu,jA hi,rN,C4,rJ,Addr.add_lit,hs]
   rcases h6 with h6|⟨h6,h7⟩
   ·have e1:rows=[]:=ZO (by omega)
    have e2:rows'=[]:=ZO (by omega)
    subst e1 e2
    have e3:L2=[]:=ZO (by simpa using mS)
    subst e3
    refine⟨_,w,M,_,_,J2 w rfl,Mem.le.refl _,?_,?_,h b u' c (fun e=>by simpa using e)⟩
    ·obtain⟨pre,post,iB,dz⟩:=qq y9
     rw[dz,← iB]
     exact hI
    ·exact R.oD (rows:=[]++[]) (cs:=cs) ⟨fun i hi=>absurd hi (by simp),fun k hk=>absurd hk (by simp),fun i hi=>absurd hi (by simp)⟩ (by simp) h5 (.inl h6) h8
   ·have kr:(rows.length+rows'.length) * i.size≤cap * i.size:=Nat.mul_le_mul_right _ C4
    rw[YQ]at kr
    obtain⟨w',hs,bo⟩:=Inv.asD (P:=P) hI y9 L2 (by omega) cw
    rw[← h6]at hs
    have hle:=hI.Ck y9 L2
    refine⟨_,w',_,_,_,J2 w' hs,hle,bo,?_,h b (u'+L2.length) c (fun e=>by rw[e,mS,YQ])⟩
    obtain⟨L0,tL,Uq⟩:∃ L0:List Value,RL M rows.flatten L0∧∀ k v,L0[k]? =some v→M b (off+k)=some v:=⟨_,hr.flat,fun k v hk=>by
     obtain⟨gU,jt⟩:=ZP.1 hk
     simp at gU jt
     rw[← jt]
     exact hr.mem k gU⟩
    have atO:L0.length=rows.length * i.size:=by rw[← tL.1,lz _ aT]
    obtain⟨HF,hj⟩:=Rows.join (M':=M.ext b u' L2) (b:=b) (off:=off) aT xi (tL.mono hle) (cq.mono hle) (fun k v hk=>by
     by_cases aE:k<L0.length
     ·rw[Zb aE]at hk
      exact hle _ _ _ (Uq k v hk)
     ·rw[YI (by omega)]at hk
      have bU:=(ZP.1 hk).1
      simp only[Mem.ext]
      rw[if_pos ⟨trivial,by omega,by omega⟩,← hk]
      congr 1
      omega)
    have:=R.oD (t:=tg) (u:=u'+L2.length) (c:=c) hj (cap:=cap) (by simpa using C4) h5 (.inr ⟨by rw[Z7,YQ];omega,h7⟩) h8
    rw[Z7]at this
    exact this
  ·obtain⟨vW,rest,gC,rr,lM,fq⟩:=Ev (P:=P) (ty:=ty) (s:=a.eval x) (x:=a.eval y) (L:=L) (L':=L') (n:=rows.length) (c:=cap) (n':=rows'.length) ht hu hi hz hb hv jP (by omega) pB Dv pL
   rw[fq]
   have wx:=hI.jJ
   have hle:=wx.kH (L++L').length (L++L'++rest)
   refine⟨_,_,M.add w.drew.heap.size (L++L').length (L++L'++rest),_,_,rfl,hle,wx.aaG y9 _ _ e (by simp),?_,h _ (L++L').length _ (fun _=>by rw[Z7,hlen,pF,YQ])⟩
   obtain⟨HF,hj⟩:=Rows.join (M':=M.add w.drew.heap.size (L++L').length (L++L'++rest)) (b:=w.drew.heap.size) (off:=0) aT pN (hL.mono hle) (cZ.mono hle) (fun k v hk=>by
    have bU:k<(L++L').length:=(ZP.1 hk).1
    have:M.add w.drew.heap.size (L++L').length (L++L'++rest) w.drew.heap.size (0+k)=(L++L'++rest)[k]? :=by unfold Mem.add;rw[if_pos rfl,if_pos (by omega),Y8]
    rw[this,Zb bU,hk])
   have xl:(L++L'++rest).length=vW * i.size:=by
    rw[Z7,Z7,lM,hlen,pF,DJ,← YQ,← YQ];congr 1;omega
   have oi:(L++L').length=(rows++rows').length * i.size:=by
    rw[Z7,hlen,pF,Z7,YQ]
   have:=R.oD (t:=tg) (u:=(L++L').length) (c:=(L++L'++rest).length) hj (cap:=vW) (by simpa using gC) rr (.inr ⟨by omega,by omega⟩) hp
   rw[Z7 (as:=rows)]at this
   exact this
 ·rename_i ez rows rows' fa pQ
  rw[fa]at hx
  obtain⟨rfl,pB,w5,h⟩:=h
  obtain⟨b0,off,cs,hv,hr,h5⟩:=hx.La
  by_cases aR:rows'=[]
  ·subst aR
   refine aA.same hI hx (w5 rfl) ?_
   obtain⟨L2,rN,cq,xi,rJ⟩:=u6 (P:=P) hI hy pQ
   have tL:L2=[]:=by have:=cq.1;simp at this;exact ZO this.symm
   subst tL
   simp only[Z2]at rJ rN
   rw[hv]
   rcases hu with⟨e',hu⟩|hu
   all_goals simp[Builtin.append_,aV ht,aV hu,jA hi,rN,rJ,Addr.add_lit,storeCells]
  have h:=h aR
  have mY:0<rows'.length:=YU.2 aR
  obtain⟨Q5,Rm,L,xj,hL,aT,Dv⟩:=Aw (P:=P) (rows:=rows) (af:=i.size) hI.jJ (hx.TK true) (by simp[eu]) (fun⟨s,h⟩=>by cases h)
  obtain⟨L',jP,cZ,pN,pL⟩:=u6 (P:=P) hI.jJ hy pQ
  have hlen:L.length=rows.length * i.size:=by rw[← hL.1,lz _ aT]
  have pF:L'.length=rows'.length * i.size:=by rw[← cZ.1,lz _ pN]
  obtain⟨vW,rest,gC,rr,lM,fq⟩:=Ev (P:=P) (ty:=ty) (s:=a.eval x) (x:=a.eval y) (L:=L) (L':=L') (n:=rows.length) (c:=rows.length) (n':=rows'.length) ht hu hi hz hb hv jP (by omega) pB Dv pL
  rw[fq]
  have wx:=hI.jJ
  have hle:=wx.kH (L++L').length (L++L'++rest)
  refine⟨_,_,M.add w.drew.heap.size (L++L').length (L++L'++rest),_,_,rfl,hle,wx.yA _ _ e (by simp) _,?_,h _ _ _⟩
  obtain⟨HF,hj⟩:=Rows.join (M':=M.add w.drew.heap.size (L++L').length (L++L'++rest)) (b:=w.drew.heap.size) (off:=0) aT pN (hL.mono hle) (cZ.mono hle) (fun k v hk=>by
   have bU:k<(L++L').length:=(ZP.1 hk).1
   have:M.add w.drew.heap.size (L++L').length (L++L'++rest) w.drew.heap.size (0+k)=(L++L'++rest)[k]? :=by unfold Mem.add;rw[if_pos rfl,if_pos (by omega),Y8]
   rw[this,Zb bU,hk])
  have xl:(L++L'++rest).length=vW * i.size:=by
   rw[Z7,Z7,lM,hlen,pF,DJ,← YQ,← YQ];congr 1;omega
  have oi:(L++L').length=(rows++rows').length * i.size:=by
   rw[Z7,hlen,pF,Z7,YQ]
  have:=R.oD (t:=d.getD 0) (u:=(L++L').length) (c:=(L++L'++rest).length) hj (cap:=vW) (by simpa using gC) rr (.inr ⟨by omega,by omega⟩) hp
  rw[Z7 (as:=rows)]at this
  exact this
 ·exact h.elim
end
end Go.Sx
