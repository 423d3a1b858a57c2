/- The laws' own functions: sizes, the example. -/
import Derived.Test.YtekngilbecjkhaaGreatDoorEa
import Derived.Test.YtekngilbecjkhaaGreatDoorCn
import Derived.Test.YtekngilbecjkhaaGreatDoorCg
set_option linter.unusedSimpArgs false
set_option linter.unusedVariables false
set_option maxRecDepth 100000
set_option maxHeartbeats 4000000
namespace Go.Sx
theorem Wk.flr{ez:Nat}{rows rows':List (List AV)}{nn:Bool}(h:rows=rows'):Wk (.fl ez rows) (.sl nn ez rows'):=h ▸ fun _ _ h=>h.fl_sl nn
end Go.Sx
namespace Go.Proofs.YtekngilbecjkhaaGreatDoor
open Go.Sx Go.Proofs Go.Tb
mutual
def szE:Ex→Int→Int
 | .mk _ _ _ _ _ _ _ _ ks,m=>szL ks m 1
def szL:List Ex→Int→Int→Int
 |[],_,n=>n
 |x::l,m,n=>if n≤m then szL l m (n+szE x (m-n))else n
end
theorem szE_eq(x:Ex)(m:Int):szE x m=szL x.args m 1:=by cases x;rw[szE];rfl
mutual
theorem szE_pos:∀ (x:Ex) (m:Int),1≤szE x m∧szE x m≤max m 0+1
 | .mk _ _ _ _ _ _ _ _ ks,m=>by
  rw[szE]
  have:=szL_pos ks m 1 (by omega) (by omega)
  omega
theorem szL_pos:∀ (l:List Ex) (m n:Int),1≤n→n≤max m 0+1→1≤szL l m n∧szL l m n≤max m 0+1
 |[],m,n,h1,h2=>by rw[szL];omega
 |x::l,m,n,h1,h2=>by
  rw[szL]
  split
  ·rename_i h
   have:=szE_pos x (m-n)
   exact szL_pos l m _ (by omega) (by omega)
  ·omega
end
mutual
theorem szE_size:∀ (x:Ex) (m:Int),szE x m≤m→(x.size:Int)=szE x m
 | .mk _ _ _ _ _ _ _ _ ks,m,h=>by
  rw[szE]at h ⊢
  rw[Ex.size]
  have:=szL_size ks m 1 h
  omega
theorem szL_size:∀ (l:List Ex) (m n:Int),szL l m n≤m→szL l m n=n+(Ex.sizeL l:Int)
 |[],m,n,h=>by rw[szL,Ex.sizeL];simp
 |x::l,m,n,h=>by
  rw[szL]at h ⊢
  by_cases hn:n≤m
  ·rw[if_pos hn]at h ⊢
   have h1:=szL_size l m _ h
   have h2:=szE_size x (m-n) (by have:0≤(Ex.sizeL l:Int):=Int.natCast_nonneg _;omega)
   rw[h1,Ex.sizeL]
   omega
  ·rw[if_neg hn]at h;omega
end
mutual
theorem feats_size:∀ x:Ex,x.feats.length≤x.size∧x.tabs.length≤x.size
 | .mk k _ n t _ _ _ _ ks=>by
  have h:=featsL_size ks
  rw[Ex.feats,Ex.tabs,Ex.size,List.length_append,List.length_append]
  have h1:(if k=3∨k=4 then[n]else[]).length≤1:=by split<;>simp
  have h2:(if k=5 then[t]else[]).length≤1:=by split<;>simp
  omega
theorem featsL_size:∀ l:List Ex,(Ex.featsL l).length≤Ex.sizeL l∧(Ex.tabsL l).length≤Ex.sizeL l
 |[]=>by simp[Ex.featsL,Ex.tabsL,Ex.sizeL]
 |x::l=>by
  have h1:=feats_size x
  have h2:=featsL_size l
  rw[Ex.featsL,Ex.tabsL,Ex.sizeL,List.length_append,List.length_append];omega
end
theorem szL_gt(l:List Ex){m n:Int}(h:¬n≤m):szL l m n=n:=by
 cases l with
 |nil=>rw[szL]
 |cons x l=>rw[szL,if_neg h]
theorem szL_app:∀ (a b:List Ex) (m n:Int),szL (a++b) m n=if szL a m n≤m then szL b m (szL a m n)else szL a m n
 |[],b,m,n=>by
  rw[List.nil_append,szL]
  split
  ·rfl
  ·rename_i h;exact szL_gt b h
 |x::a,b,m,n=>by
  rw[List.cons_append,szL,szL]
  by_cases hn:n≤m
  ·rw[if_pos hn,if_pos hn];exact szL_app a b m _
  ·rw[if_neg hn,if_neg hn,if_neg hn]
theorem szL_take{l:List Ex}{i:Nat}(hi:i<l.length){m n:Int}(h:szL (l.take i) m n≤m):szL (l.take (i+1)) m n=szL (l.take i) m n+szE (l.getD i default) (m-szL (l.take i) m n):=by
 rw[List.take_succ_eq_append_getElem hi,szL_app,if_pos h,getD_eq hi,szL,if_pos h,szL]
theorem szL_stop{l:List Ex}{i:Nat}{m n:Int}(h:¬szL (l.take i) m n≤m):szL l m n=szL (l.take i) m n:=by
 have:=szL_app (l.take i) (l.drop i) m n
 rwa [List.take_append_drop,if_neg h]at this
def SzOK(x:Ex):Prop:=∀ m:Int, -10000≤m→m≤10000→Pure Tryz.prog 14 [.agg x.row,iv m] (iv (szE x m))
theorem size_step(x:Ex)(ih:∀ i,i<x.args.length→SzOK (x.args.getD i default)):SzOK x:=fun m hm hm2=>by
 rw[Ex.row_eq x,szE_eq]
 refine Pure.runk (fun _=>0) Tryz.func14 comp14 era14 (Nat.le_of_ble_eq_true rfl) fun σ=> ?_
 repeat'(first|exact .nil|refine .k0 ?_|refine .k1 ?_|refine .k2 ?_|refine .k6 ?_|refine .r1 ?_ ?_|(refine .m1 ?_ ?_;intro b)|fail)
 all_goals(try simp only[BL]at *)
 refine WK_loop (fun n rg σ'=>∃ i:Nat,i≤x.args.length∧n=x.args.length-i∧σ'=(2,b,Blk.cells x.lay)::σ∧rg=[(1,iv m),(2,.lp 2 b 0),(5,iv (szL (x.args.take i) m 1)),(6,iv i)]) x.args.length rfl ⟨_,_,Zr,Zs,0,Nat.zero_le _,rfl,rfl,by rw[List.take_zero,szL];rfl⟩ ?_
 rintro n _ _ ⟨i,hi,hn,rfl,rfl⟩
 have hp:=szL_pos (x.args.take i) m 1 (by omega) (by omega)
 have hq:=szE_pos (x.args.getD i default) (m-szL (x.args.take i) m 1)
 have hA:=fun(h:i<x.args.length) (h2:szL (x.args.take i) m 1≤m)=>(show Pure Tryz.prog 14 [.agg (x.args.getD i default).row,iv (IntKind.i64.wrap (m-szL (x.args.take i) m 1))] (iv (szE (x.args.getD i default) (m-szL (x.args.take i) m 1))) by rw[i64w (by omega)];exact ih i h _ (by omega) (by omega))
 have hq:=szE_pos (x.args.getD i default) (m-szL (x.args.take i) m 1)
 repeat'(first|exact .nil|refine .k0 ?_|refine .k1 ?_|refine .k2 ?_|refine .k4 ?_|refine .k6 ?_|refine .k7 ?_|refine .k8 ?_|refine .k9 ?_|(refine .cd ?_ ?_<;>(intro hc;skip))|refine .r1 ?_ ?_|(refine .m2 ?_ ?_;intro hlen)|refine .t1 ?_ ?_ ?_|refine .an rfl (by intro hob;exact hA (by(simp only[BL]at *;omega)) (by(simp only[BL]at *;omega))) ?_ ?_|fail)
 try any_goals(exact Zo)
 all_goals(try simp only[BL]at *)
 ·refine⟨x.args.length-(i+1),by omega,_,_,Zr,Zs,i+1,by omega,rfl,rfl,?_⟩
  rw[szL_take (by omega) (by omega),i64w (n:=szL (x.args.take i) m 1+_) (by omega),up1 (n:=x.args.length) (by omega) (by assumption)]
 ·have e:szL x.args m 1=szL (x.args.take i) m 1:=by
   by_cases h:szL (x.args.take i) m 1≤m
   ·rw[List.take_of_length_le (l:=x.args) (by omega)]
   ·exact szL_stop (l:=x.args) h
  rw[e]
  exact Zw
theorem size_all:∀ (n:Nat) (x:Ex),x.size≤n→SzOK x
 |0,x,h=>by cases x;simp[Ex.size]at h
 |n+1,x,h=>size_step x fun k hk=>size_all n _ (by have:=Ex.size_arg x hk;omega)
theorem sizeX_ok(x:Ex):SzOK x:=size_all x.size x (Nat.le_refl _)
def Cat.all(c:Cat):List Fea:=c.features++c.drafts++c.past
structure Small(c:Cat):Prop where
 t:c.tables.length≤40
 f:c.features.length≤40
 d:c.drafts.length≤40
 p:c.past.length≤40
 n:szL (c.all.map Fea.body) 2000 0≤2000
theorem small_iff(c:Cat):Small c↔(c.tables.length≤40∧c.features.length≤40∧c.drafts.length≤40∧c.past.length≤40∧szL (c.all.map Fea.body) 2000 0≤2000):=⟨fun h=>⟨h.t,h.f,h.d,h.p,h.n⟩,fun⟨a,b,c,d,e⟩=>⟨a,b,c,d,e⟩⟩
instance (c:Cat):Decidable (Small c):=decidable_of_iff _ (small_iff c).symm
theorem szS_take{l:List Fea}{i:Nat}(hi:i<l.length){m n:Int}(h:szL ((l.map Fea.body).take i) m n≤m):szL ((l.map Fea.body).take (i+1)) m n=szL ((l.map Fea.body).take i) m n+szE (l.getD i default).body (m-szL ((l.map Fea.body).take i) m n):=by
 have h0:i<(l.map Fea.body).length:=by rw[List.length_map];exact hi
 rw[szL_take h0 h]
 congr 2
 rw[getD_eq hi,getD_eq h0,List.getElem_map]
theorem szS_pos(l:List Ex):0≤szL l 2000 0∧szL l 2000 0≤2001:=by
 cases l with
 |nil=>rw[szL];omega
 |cons x l=>
  rw[szL,if_pos (by omega)]
  have h1:=szE_pos x (2000-0)
  have h2:=szL_pos l 2000 (0+szE x (2000-0)) (by omega) (by omega)
  omega
theorem fea_one(l:List Fea):((l.map Fea.cells).all fun r=>r.all AV.one)=true:=by
 rw[List.all_map,List.all_eq_true];intro x _;rfl
theorem small_ok(C:Cat):Pure Tryz.prog 10 [.agg C.cells] (.v (.bool (decide (Small C)))):=by
 refine Pure.runk (fun d=>bif ([28]:List Nat).elem d then 3 else 0) Tryz.func10 comp10 era10 (Nat.le_of_ble_eq_true rfl) fun σ=> ?_
 repeat'(first|exact .nil|refine .k0 ?_|refine .k1 ?_|refine .k2 ?_|refine .k3 ?_|refine .k4 ?_|refine .k6 ?_|refine .k7 ?_|refine .k9 ?_|(refine .cd ?_ ?_<;>(intro hc;skip))|refine .r1 ?_ ?_|(refine .m1 ?_ ?_;intro b)|(refine .m2 ?_ ?_;intro hlen)|refine .u2 ?_ ?_ ?_ (fun b u c=> ?_)|refine .u3 ?_ ?_ (fun hr0=> ?_) (fun hr1 b u c=> ?_)|refine .r8 ?_ ?_|fail)
 try any_goals(exact Zo)
 all_goals(try simp only[BL]at *)
 ·refine Sx.Fin.intro Zs (bf ?_)
  intro h;have h1:=h.t;have h2:=h.f;have h3:=h.d;have h4:=h.p;omega
 any_goals exact fea_one _
 any_goals(show _≤1000000;decide)
 any_goals(show _ * 248≤_;simp only[List.length_append,List.length_map,List.length_nil];omega)
 all_goals
  refine WK_loop (fun n rg σ'=>∃ i:Nat,i≤C.all.length∧n=C.all.length-i∧σ'=σ∧rg=[(3,iv (szL ((C.all.map Fea.body).take i) 2000 0)),(4,.sl false 18 (C.all.map Fea.cells)),(5,iv i)]) C.all.length rfl ?_ ?_
  ·refine⟨[(3,iv 0),(4,.sl false 18 (C.all.map Fea.cells)),(5,iv (0:Nat))],σ,?_,Zs,0,Nat.zero_le _,rfl,rfl,by rw[List.take_zero,szL]⟩
   refine .cons (Wk.refl _) (.cons ?_ (.cons (Wk.refl _) .nil))
   first|exact .flr (by simp[Cat.all, *])|exact .ownr (by simp[Cat.all, *])
  rintro n _ _ ⟨i,hi,hn,rfl,rfl⟩
  have hp:=szS_pos ((C.all.map Fea.body).take i)
  have hq:=szE_pos (C.all.getD i default).body (2000-szL ((C.all.map Fea.body).take i) 2000 0)
  have hA:=fun(h:i<C.all.length) (h2:szL ((C.all.map Fea.body).take i) 2000 0≤2000)=>(show Pure Tryz.prog 14 [.agg (C.all.getD i default).body.row,iv (IntKind.i64.wrap (2000-szL ((C.all.map Fea.body).take i) 2000 0))] (iv (szE (C.all.getD i default).body (2000-szL ((C.all.map Fea.body).take i) 2000 0))) by rw[i64w (by omega)];exact sizeX_ok _ _ (by omega) (by omega))
  repeat'(first|exact .nil|refine .k0 ?_|refine .k1 ?_|refine .k2 ?_|refine .k4 ?_|refine .k6 ?_|refine .k7 ?_|refine .k8 ?_|refine .k9 ?_|(refine .cd ?_ ?_<;>(intro hc;skip))|refine .r1 ?_ ?_|(refine .m2 ?_ ?_;intro hlen)|refine .t1 ?_ ?_ ?_|refine .an rfl (by intro hob;exact hA (by(simp only[BL]at *;omega)) (by(simp only[BL]at *;omega))) ?_ ?_|fail)
  try any_goals(exact Zo)
  all_goals(try simp only[BL]at *)
  all_goals first
   |(refine⟨C.all.length-(i+1),by omega,_,_,Zr,Zs,i+1,by omega,rfl,rfl,?_⟩
     rw[szS_take (by omega) (by omega),i64w (n:=szL ((C.all.map Fea.body).take i) 2000 0+_) (by omega),up1 (n:=C.all.length) (by omega) (by assumption)])
   |(have e:szL (C.all.map Fea.body) 2000 0=szL ((C.all.map Fea.body).take i) 2000 0:=by
      by_cases h:szL ((C.all.map Fea.body).take i) 2000 0≤2000
      ·rw[List.take_of_length_le (l:=C.all.map Fea.body) (by rw[List.length_map];omega)]
      ·exact szL_stop (l:=C.all.map Fea.body) h
     have e2:decide (Small C)=decide (szL ((C.all.map Fea.body).take i) 2000 0≤2000):=by
      rw[decide_eq_decide,small_iff,e]
      exact⟨fun h=>h.2.2.2.2,fun h=>⟨by omega,by omega,by omega,by omega,h⟩⟩
     rw[e2]
     exact Zw)
structure UR(fs:List Fea)(x:Ex)(F T:List Str):Prop where
 sf:Srt F
 st:Srt T
 rf:∀ m∈F,Reach fs x.feats m
 rt:∀ m∈T,ReachT fs x.feats x.tabs m
 bf:∀ m∈x.feats,m∈F
 bt:∀ m∈x.tabs,m∈T
def UD(fs:List Fea)(now F T:List Str):Prop:=∀ m∈now,∀ f,findF fs m=some f→(∀ s∈f.body.feats,s∈F)∧∀ s∈f.body.tabs,s∈T
variable {fs:List Fea}{x:Ex}{F T:List Str}
theorem UR.lenT(h:UR fs x F T):T.length≤(univT fs x).length:=nodup_le (srt_nodup h.st) fun m hm=>reachT_univ (h.rt m hm)
theorem UR.start(fs:List Fea)(x:Ex):UR fs x (dirL x ([],[])).1 (dirL x ([],[])).2:=by
 have hm:=dirL_mem x ([],[])
 have hs:=dirL_srt x ([],[]) srt_nil srt_nil
 exact⟨hs.1,hs.2,fun m h=> .base (by simpa using(hm.1 m).1 h),fun m h=> .inl (by simpa using(hm.2 m).1 h),fun m h=>(hm.1 m).2 (.inl h),fun m h=>(hm.2 m).2 (.inl h)⟩
theorem UR.step{n:Str}{f:Fea}(h:UR fs x F T)(hn:n∈F)(hf:findF fs n=some f):UR fs x (dirL f.body (F,T)).1 (dirL f.body (F,T)).2:=by
 have hm:=dirL_mem f.body (F,T)
 have hs:=dirL_srt f.body (F,T) h.sf h.st
 refine⟨hs.1,hs.2,fun m k=> ?_,fun m k=> ?_,fun m k=>(hm.1 m).2 (.inr (h.bf m k)),fun m k=>(hm.2 m).2 (.inr (h.bt m k))⟩
 ·rcases(hm.1 m).1 k with k|k
  ·exact .step (h.rf n hn) hf k
  ·exact h.rf m k
 ·rcases(hm.2 m).1 k with k|k
  ·exact .inr ⟨n,f,h.rf n hn,hf,k⟩
  ·exact h.rt m k
structure UI(fs:List Fea)(x:Ex)(now:List Str)(i:Nat)(F T:List Str):Prop where
 u:UR fs x F T
 s:∀ m∈now,m∈F
 d:UD fs (now.take i) F T
theorem UI.no{now:List Str}{i:Nat}(h:UI fs x now i F T)(hi:i<now.length)(hf:findF fs (now.getD i default)=none):UI fs x now (i+1) F T:=by
 refine⟨h.u,h.s,fun m hm f hmf=> ?_⟩
 rw[List.take_succ_eq_append_getElem hi,List.mem_append,List.mem_singleton]at hm
 rcases hm with hm|rfl
 ·exact h.d m hm f hmf
 ·rw[getD_eq hi]at hf;rw[hf]at hmf;cases hmf
def UO(fs:List Fea)(x:Ex)(n:Int)(F T:List Str):Prop:=UR fs x F T∧(n= -1∨∃ now:List Str,Srt now∧n=now.length∧(∀ m∈now,m∈F)∧UD fs now F T)
theorem UO.done{n:Int}(h:UO fs x n F T)(hn:n=F.length):usesF fs x=F∧usesT fs x=T:=by
 obtain⟨hu,hn'⟩:=h
 obtain⟨now,h1,h2,h3,h4⟩:∃ now:List Str,Srt now∧n=now.length∧(∀ m∈now,m∈F)∧UD fs now F T:=by
  rcases hn' with h|h
  ·omega
  ·exact h
 have he:now=F:=srt_len h1 hu.sf h3 (by omega)
 subst he
 obtain⟨k1,k2⟩:=reach_of_closed hu.bf hu.bt hu.rf hu.rt h4
 exact⟨srtOf_eq hu.sf k1,srtOf_eq hu.st k2⟩
theorem UO.lt{n:Int}(h:UO fs x n F T)(hn:n≠F.length):n<F.length:=by
 obtain⟨hu,rfl|⟨now,h1,h2,h3,h4⟩⟩:=h
 ·omega
 ·have:=nodup_le (srt_nodup h1) h3;omega
theorem UI.out{now:List Str}(hs:Srt now)(h:UI fs x now now.length F T):UO fs x now.length F T:=
 ⟨h.u,.inr ⟨now,hs,rfl,h.s,by have:=h.d;rwa [List.take_length]at this⟩⟩
abbrev nilA:AV:= .v (.slice none 0 0)
theorem dirR_nil(x:Ex)(h1:x.feats.length≤1000000)(h2:x.tabs.length≤1000000):Pure Tryz.prog 22 [.agg x.row,nilA,nilA] (.tup [strsA (dirF x),strsA (dirT x)]):=
 (dirR_ok x [] [] (by simpa using h1) (by simpa using h2)).wk (.cons (Wk.refl _) (.cons .nil (.cons .nil .nil)))
end Go.Proofs.YtekngilbecjkhaaGreatDoor
namespace Go.Sx
section
variable {P:Program}[Glob P]{cfg:Nat→Nat}{K:Regs→Store→Prop}{E:List PanicEntry→Store→Prop}{σ:Store}{l:List CI}{d:Nat}{xr:XR}{ps:List Prop}{als cf:List Nat}{ix:Nat}{ld:List CD}{og:Option Bool}
theorem VX.u4{t:TypeId}{esz bytes:Nat}{z:List Value}{x y:Operand}{w:AV}{r:List AV}{rows rs:List (List AV)}(hps:OB ps)(hb:(rows.length+(r::rs).length) * bytes≤35184372088832)(k:∀ b u c,VX P cfg l K E ((d,.s (.own esz d b u c (rows++r::rs)))::xr) ((d,b,.tail u c)::σ))(h:argO xr none [x,y]=some (og,[.fl esz rows,w],ps):=by exact rfl)(hw:rowsV esz w=some (r::rs):=by exact rfl):VX P cfg (⟨some d,.append t esz bytes z x y,none⟩::l) K E xr σ:=VX_appf h hw hps hb (fun e=>nomatch e) fun _=>k
theorem VY.u4{t:TypeId}{esz bytes:Nat}{z:List Value}{x y:Operand}{w:AV}{r:List AV}{rows rs:List (List AV)}(hps:OB ps)(hb:(rows.length+(r::rs).length) * bytes≤35184372088832)(k:∀ b u c,VY P cfg als ld K ((d,.s (.own esz d b u c (rows++r::rs)))::xr) ((d,b,.tail u c)::σ))(h:argO xr none [x,y]=some (og,[.fl esz rows,w],ps):=by exact rfl)(hw:rowsV esz w=some (r::rs):=by exact rfl)(ha:als.elem d=true:=by exact rfl):VY P cfg als (⟨ix,⟨some d,.append t esz bytes z x y,none⟩,cf⟩::ld) K xr σ:=VY_appf h hw ha hps hb (fun e=>nomatch e) fun _=>k
theorem VY.u5{esz tg b u c:Nat}{x y:Operand}{hv:AV}{h:Int}{rows:List (List AV)}(hps:OB ps)(hb:0≤h∧h≤rows.length)(k:VY P cfg als ld K ((d,.s (.own esz tg b u c (rows.drop h.toNat)))::xr) σ)(ha:argO xr none [x,y]=some (og,[.own esz tg b u c rows,hv],ps):=by exact rfl)(hi:intO hv=some h:=by exact rfl):VY P cfg als (⟨ix,⟨some d,.slice esz x (some y) none,none⟩,cf⟩::ld) K xr σ:=by
 obtain⟨_,he⟩:=argO_eq ha
 unfold argO gX at ha
 obtain⟨ps',h',_,_⟩:=needs_eq ha
 have hog:og=none:=by split at h'<;>cases h';rfl
 subst hog
 have:=he hps rfl
 simp only[evs,List.cons.injEq,and_true]at this
 obtain⟨q,hq⟩:=intO_eq hi
 constructor
 simp only[vcM,vcGD,vcOD,IOp.cls,vcOQ,vcO,Option.map_none,Option.map_some,this.1,this.2,idx?,hq,Option.getD_none,Option.getD_some]
 exact⟨trivial,hb.1,hb.2,Int.le_refl _,k.h⟩
end
theorem WkL.get{xs ys:List AV}(h:WkL xs ys):xs.length=ys.length∧∀ j (h1:j<xs.length) (h2:j<ys.length),Wk xs[j] ys[j]:=by
 induction h with
 |nil=>exact⟨rfl,fun j h1=>absurd h1 (by simp)⟩
 |cons h t ih=>
  refine⟨by simp[ih.1],fun j h1 h2=> ?_⟩
  cases j with
  |zero=>exact h
  |succ j=>exact ih.2 j (by simpa using h1) (by simpa using h2)
inductive WkLL:List (List AV)→List (List AV)→Prop
 |nil:WkLL [] []
 |cons {x y:List AV} {xs ys:List (List AV)} (h:WkL x y) (t:WkLL xs ys):WkLL (x::xs) (y::ys)
theorem WkLL.get{xs ys:List (List AV)}(h:WkLL xs ys):xs.length=ys.length∧∀ j (h1:j<xs.length) (h2:j<ys.length),WkL xs[j] ys[j]:=by
 induction h with
 |nil=>exact⟨rfl,fun j h1=>absurd h1 (by simp)⟩
 |cons h t ih=>
  refine⟨by simp[ih.1],fun j h1 h2=> ?_⟩
  cases j with
  |zero=>exact h
  |succ j=>exact ih.2 j (by simpa using h1) (by simpa using h2)
theorem Wk.rows{nn:Bool}{n:Nat}{rows rows':List (List AV)}(h:WkLL rows rows'):Wk (.sl nn n rows) (.sl false n rows'):=fun M v hv=>by
 obtain⟨hl,hg⟩:=h.get
 cases hv with
 |nil _ _ a ha=>
  obtain rfl:rows'=[]:=List.eq_nil_of_length_eq_zero hl.symm
  exact .nil _ _ a (fun h=>nomatch h)
 |sl _ _ _ b off cap cs hsz hM hR hc hm=>
  rw[hl]
  refine .sl _ _ _ b off cap cs (fun i hi=> ?_) (fun k hk=>hM k (by rw[hl];exact hk)) (fun i hi j hj=> ?_) (by omega) hm
  ·have:=(hg i (by omega) hi).get.1
   rw[← this];exact hsz i (by omega)
  ·have hgi:=(hg i (by omega) hi).get
   have:=hR i (by omega) j (by rw[hgi.1];exact hj)
   exact hgi.2 j (by rw[hgi.1];exact hj) hj M _ this
end Go.Sx
namespace Go.Proofs.YtekngilbecjkhaaGreatDoor
open Go.Sx Go.Proofs Go.Tb
abbrev s0:Str:=⟨#[]⟩
abbrev sA:Str:=⟨#[97]⟩
abbrev sB:Str:=⟨#[98]⟩
abbrev sC:Str:=⟨#[99]⟩
abbrev sD:Str:=⟨#[100]⟩
abbrev sE:Str:=⟨#[101]⟩
abbrev sK:Str:=⟨#[107]⟩
abbrev sU:Str:=⟨#[117,115,101,114]⟩
abbrev sT:Str:=⟨#[99,108,105,99,107,115]⟩
abbrev sN:Str:=⟨#[99,111,117,110,116]⟩
abbrev nilV:AV:= .v (.slice none 0 0)
def useX(n:Str):Ex:=⟨3,s0,n,s0,⟨0,0,s0⟩,[],0,⟨0,0⟩,[]⟩
def feaX(n:Str)(x:Ex):Fea:=⟨n,sU,⟨2,[],s0⟩,x,1⟩
def yesX:Ex:=⟨1,s0,s0,s0,⟨1,1,s0⟩,[],0,⟨0,0⟩,[]⟩
def zeroX:Ex:=⟨1,s0,s0,s0,⟨2,0,s0⟩,[],0,⟨0,0⟩,[]⟩
def cntX:Ex:=⟨5,sN,s0,sT,⟨0,0,s0⟩,[],0,⟨1,0⟩,[yesX,yesX]⟩
def bX:Ex:=⟨7,⟨#[43]⟩,s0,s0,⟨0,0,s0⟩,[],0,⟨0,0⟩,[useX sA,useX sC]⟩
def cX:Ex:=⟨9,s0,s0,s0,⟨0,0,s0⟩,[],0,⟨0,0⟩,[useX sA,zeroX]⟩
def dX:Ex:=⟨4,s0,sE,s0,⟨0,0,s0⟩,[],0,⟨0,0⟩,[useX sK]⟩
def aX:Ex:=⟨7,⟨#[43]⟩,s0,s0,⟨0,0,s0⟩,[],0,⟨0,0⟩,[useX sC,zeroX]⟩
def fs1:List Fea:=[feaX sA cntX,feaX sB bX,feaX sC cX,feaX sD dX]
def fs2:List Fea:=[feaX sA aX,feaX sB bX,feaX sC cX,feaX sD dX]
def cat1:Cat:=⟨[⟨sT,sU,[],0⟩],fs1,[],[]⟩
def cat2:Cat:=⟨[⟨sT,sU,[],0⟩],fs2,[],[]⟩
theorem use_ok(n:Str):Pure Tryz.prog 44 [sv n] (.agg (useX n).row):=by
 refine Pure.runk (fun _=>0) Tryz.func44 comp44 era44 (Nat.le_of_ble_eq_true rfl) fun σ=> ?_
 repeat'(first|exact .nil|refine .k0 ?_|refine .k1 ?_|refine .k2 ?_|refine .k7 ?_|refine .r1 ?_ ?_|(refine .l1 ?_;intro b)|fail)
 all_goals(try simp only[BL]at *)
 exact Zw
theorem feature_ok(n:Str)(x:Ex):Pure Tryz.prog 43 [sv n,.agg x.row] (.agg (feaX n x).cells):=by
 refine Pure.runk (fun _=>0) Tryz.func43 comp43 era43 (Nat.le_of_ble_eq_true rfl) fun σ=> ?_
 repeat'(first|exact .nil|refine .k0 ?_|refine .k1 ?_|refine .k2 ?_|refine .k7 ?_|refine .r1 ?_ ?_|(refine .l1 ?_;intro b)|(refine .m1 ?_ ?_;intro b)|fail)
 all_goals(try simp only[BL]at *)
 exact Zw
theorem sLt_lit:sLt sA sB=true∧sLt sA sC=true∧sLt sA sD=true∧sLt sB sC=true∧sLt sB sD=true∧sLt sC sD=true∧sLt sE sK=true∧sLt sA sA=false∧sLt sB sA=false∧sLt sC sA=false∧sLt sC sB=false∧sLt sD sA=false∧sLt sD sB=false∧sLt sD sC=false:=by
 simp[sLt,ByteArray.toList_eq,Op.bytesLess]
theorem find_1:findF fs1 sA=some (feaX sA cntX)∧findF fs1 sB=some (feaX sB bX)∧findF fs1 sC=some (feaX sC cX)∧findF fs1 sD=some (feaX sD dX)∧findF fs1 sE=none∧findF fs1 sK=none:=by simp[findF,fs1,feaX]
theorem find_2:findF fs2 sA=some (feaX sA aX)∧findF fs2 sB=some (feaX sB bX)∧findF fs2 sC=some (feaX sC cX)∧findF fs2 sD=some (feaX sD dX)∧findF fs2 sE=none∧findF fs2 sK=none:=by simp[findF,fs2,feaX]
theorem names_1:namesF fs1=[sA,sB,sC,sD]:=srt_ext (namesF_srt _) (by simp[Srt,sLt_lit]) fun x=>by
 rw[namesF_mem,inF_iff];simp[fs1,feaX,eq_comm]
theorem names_2:namesF fs2=[sA,sB,sC,sD]:=srt_ext (namesF_srt _) (by simp[Srt,sLt_lit]) fun x=>by
 rw[namesF_mem,inF_iff];simp[fs2,feaX,eq_comm]
theorem feats_lit:cntX.feats=[]∧bX.feats=[sA,sC]∧cX.feats=[sA]∧dX.feats=[sE,sK]∧aX.feats=[sC]∧cntX.tabs=[sT]∧bX.tabs=[]∧cX.tabs=[]∧dX.tabs=[]∧aX.tabs=[]:=⟨rfl,rfl,rfl,rfl,rfl,rfl,rfl,rfl,rfl,rfl⟩
theorem dir_eq{x:Ex}{l:List Str}(h:Srt l)(e:x.feats=l):dirF x=l:=srt_ext (dirF_srt x) h fun s=>by rw[dirF_mem,e]
theorem deps_at{fs:List Fea}{n:Str}{f:Fea}{l m:List Str}(hf:findF fs n=some f)(he:f.body.feats=l)(hs:Srt l)(hm:l.filter (inF fs)=m):deps fs n=m:=by
 unfold deps;rw[hf];simp only[dir_eq hs he];exact hm
theorem deps_1:deps fs1 sA=[]∧deps fs1 sB=[sA,sC]∧deps fs1 sC=[sA]∧deps fs1 sD=[]:=by
 obtain⟨h1,h2,h3,h4,h5,h6⟩:=find_1
 refine⟨deps_at h1 feats_lit.1 (by simp[Srt]) rfl,deps_at h2 feats_lit.2.1 (by simp[Srt,sLt_lit]) ?_,deps_at h3 feats_lit.2.2.1 (by simp[Srt]) ?_,deps_at h4 feats_lit.2.2.2.1 (by simp[Srt,sLt_lit]) ?_⟩
 all_goals simp[inF,h1,h2,h3,h4,h5,h6]
theorem deps_2:deps fs2 sA=[sC]∧deps fs2 sB=[sA,sC]∧deps fs2 sC=[sA]∧deps fs2 sD=[]:=by
 obtain⟨h1,h2,h3,h4,h5,h6⟩:=find_2
 refine⟨deps_at h1 feats_lit.2.2.2.2.1 (by simp[Srt]) ?_,deps_at h2 feats_lit.2.1 (by simp[Srt,sLt_lit]) ?_,deps_at h3 feats_lit.2.2.1 (by simp[Srt]) ?_,deps_at h4 feats_lit.2.2.2.1 (by simp[Srt,sLt_lit]) ?_⟩
 all_goals simp[inF,h1,h2,h3,h4,h5,h6]
theorem order_1:orderL (deps fs1) (namesF fs1)=[sA,sC,sB,sD]:=by
 obtain⟨h1,h2,h3,h4⟩:=deps_1
 rw[names_1]
 simp[orderL,ordL,ordNext,ready,List.find?,h1,h2,h3,h4]
theorem order_2:orderL (deps fs2) (namesF fs2)=[sD]:=by
 obtain⟨h1,h2,h3,h4⟩:=deps_2
 rw[names_2]
 simp[orderL,ordL,ordNext,ready,List.find?,h1,h2,h3,h4]
theorem rank_cyc{g:Str→List Str}{r:Str→Nat}(h:∀ a b,b∈g a→r b<r a):∀ (q:List Str) (a:Str),Pth g a q→r (lst a q)≤r a
 |[],a,_=>Nat.le_refl _
 |b::q,a,hp=>by have h1:=rank_cyc h q b hp.2;have h2:=h a b hp.1;rw[lst];omega
theorem deps_in{fs:List Fea}{N:List Str}(hN:namesF fs=N){a b:Str}(h:b∈deps fs a):a∈N:=by rw[← hN];exact deps_of h
def rk1(s:Str):Nat:=if s=sB then 2 else if s=sC then 1 else 0
theorem cyc_1:cycL (deps fs1) (namesF fs1)=[]:=cycL_eq (.inl ⟨rfl,fun a _ q hc=>by
 have hr:∀ a b,b∈deps fs1 a→rk1 b<rk1 a:=fun a b hb=>by
  obtain⟨h1,h2,h3,h4⟩:=deps_1
  have ha:=deps_in names_1 hb
  simp only[List.mem_cons,List.not_mem_nil,or_false]at ha
  rcases ha with rfl|rfl|rfl|rfl
  ·rw[h1]at hb;cases hb
  ·rw[h2]at hb;simp at hb;rcases hb with rfl|rfl<;>decide
  ·rw[h3]at hb;simp at hb;subst hb;decide
  ·rw[h4]at hb;cases hb
 have h1:=rank_cyc hr q a hc.1
 have h2:=hr _ _ hc.2
 omega⟩)
theorem cyc_2:cycL (deps fs2) (namesF fs2)=[sA,sC]:=cycL_eq (.inr ⟨sA,[sC],rfl,by rw[names_2];simp,by
  obtain⟨h1,h2,h3,h4⟩:=deps_2
  refine⟨⟨⟨by rw[h1];simp,trivial⟩,by show sA∈deps fs2 sC;rw[h3];simp⟩,fun m hm=> ?_,fun m hm hl=> ?_⟩
  ·cases m with
   |nil=>have:=hm.2;simp only[lst,h1,List.mem_singleton]at this;exact absurd this (by decide)
   |cons b m=>simp
  ·match m,hl,hm with
   |[b],_,hm=>
    have:=hm.1.1
    rw[h1,List.mem_singleton]at this
    subst this;exact .inl rfl,fun b hb hlt=>by
  rw[names_2]at hb
  simp only[List.mem_cons,List.not_mem_nil,or_false]at hb
  rcases hb with rfl|rfl|rfl|rfl<;>simp[sLt_lit]at hlt,fun b hb m hm=>by
  obtain⟨h1,h2,h3,h4⟩:=deps_2
  cases m with
  |cons c m=>simp
  |nil=>
   exfalso
   have:=hm.2
   rw[names_2]at hb
   simp only[List.mem_cons,List.not_mem_nil,or_false]at hb
   simp only[lst]at this
   rcases hb with rfl|rfl|rfl|rfl
   ·rw[h1]at this;exact absurd this (by decide)
   ·rw[h2]at this;exact absurd this (by decide)
   ·rw[h3]at this;exact absurd this (by decide)
   ·rw[h4]at this;cases this⟩)
theorem uses_1:usesF fs1 bX=[sA,sC]∧usesT fs1 bX=[sT]:=by
 obtain⟨h1,h2,h3,h4,h5,h6⟩:=find_1
 obtain⟨k1,k2,k3,k4,k5,k6,k7,k8,k9,k10⟩:=feats_lit
 have:=reach_of_closed (fs:=fs1) (s:=bX.feats) (t:=bX.tabs) (F:=[sA,sC]) (T:=[sT]) (by rw[k2];exact fun n h=>h) (by rw[k7];exact fun n h=>nomatch h) (by rw[k2];exact fun n h=> .base h)
  (fun x hx=> .inr ⟨sA,_,.base (by rw[k2];simp),h1,by rw[show(feaX sA cntX).body.tabs=[sT]from k6];exact hx⟩) (fun n hn f hf=>by
   simp only[List.mem_cons,List.not_mem_nil,or_false]at hn
   rcases hn with rfl|rfl
   ·rw[h1]at hf;cases hf
    rw[show(feaX sA cntX).body.feats=[]from k1,show(feaX sA cntX).body.tabs=[sT]from k6]
    exact⟨fun m h=>(nomatch h),fun m h=>h⟩
   ·rw[h3]at hf;cases hf
    rw[show(feaX sC cX).body.feats=[sA]from k3,show(feaX sC cX).body.tabs=[]from k8]
    exact⟨fun m h=>by simp at h;simp[h],fun m h=>(nomatch h)⟩)
 exact⟨srtOf_eq (by simp[Srt,sLt_lit]) this.1,srtOf_eq (by simp[Srt]) this.2⟩
theorem uses_2:usesF fs1 dX=[sE,sK]∧usesT fs1 dX=[]:=by
 obtain⟨h1,h2,h3,h4,h5,h6⟩:=find_1
 obtain⟨k1,k2,k3,k4,k5,k6,k7,k8,k9,k10⟩:=feats_lit
 have:=reach_of_closed (fs:=fs1) (s:=dX.feats) (t:=dX.tabs) (F:=[sE,sK]) (T:=[]) (by rw[k4];exact fun n h=>h) (by rw[k9];exact fun n h=>nomatch h) (by rw[k4];exact fun n h=> .base h)
  (fun x hx=>nomatch hx) (fun n hn f hf=>by
   simp only[List.mem_cons,List.not_mem_nil,or_false]at hn
   rcases hn with rfl|rfl
   ·rw[h5]at hf;cases hf
   ·rw[h6]at hf;cases hf)
 exact⟨srtOf_eq (by simp[Srt,sLt_lit]) this.1,srtOf_eq (by simp[Srt]) this.2⟩
theorem versions0_ok:Pure Tryz.prog 37 [.agg [nilV,nilV,nilV,nilV]] (iv 0):=by
 refine Pure.runk (fun _=>0) Tryz.func37 comp37 era37 (Nat.le_of_ble_eq_true rfl) fun σ=> ?_
 repeat'(first|exact .nil|refine .k0 ?_|refine .k1 ?_|refine .k2 ?_|refine .k6 ?_|refine .r1 ?_ ?_|(refine .m1 ?_ ?_;intro b)|(refine .m3 ?_ ?_;intro hlen)|(refine .l3 ?_;intro b)|fail)
 all_goals(try simp only[BL]at *)
 ·decide
 refine WK_loop (fun n rg σ'=>∃ i:Nat,i≤3∧n=3-i∧σ'=(11,b,Blk.map [] 0)::σ∧rg=[(3,.mpt 11 b),(18,.sl true 1 [[nilV],[nilV],[nilV]]),(19,iv 3),(20,iv i)]) 3 rfl ⟨_,_,Zr,Zs,0,by omega,rfl,rfl,rfl⟩ ?_
 rintro n _ _ ⟨i,hi,hn,rfl,rfl⟩
 rcases(show i=0∨i=1∨i=2∨i=3 by omega)with rfl|rfl|rfl|rfl
 ·repeat'(first|exact .nil|refine .k0 ?_|refine .k1 ?_|refine .k2 ?_|refine .k6 ?_|refine .k7 ?_|refine .k8 ?_|refine .k9 ?_|(refine .cd ?_ ?_<;>(intro hc;skip))|refine .r1 ?_ ?_|refine .r8 ?_ ?_|fail)
  all_goals(try simp only[BL]at *)
  any_goals(show True∧_;exact⟨trivial,by decide,by decide⟩)
  any_goals(show Sx.Fin _ _ _ _;exact Zw)
  all_goals
   refine WK_loop (fun n rg σ'=>σ'=(11,b,Blk.map [] 0)::σ∧rg=[(3,.mpt 11 b),(4,iv (0:Nat)),(5,nilV),(18,.sl true 1 [[nilV],[nilV],[nilV]]),(19,iv 3),(20,iv (0:Nat)),(25,nilV),(26,iv (0:Nat)),(27,iv 0)]) 0 rfl ⟨_,_,Zr,Zs,rfl,rfl⟩ ?_
   rintro n2 _ _ ⟨rfl,rfl⟩
   repeat'(first|exact .nil|refine .k0 ?_|refine .k1 ?_|refine .k2 ?_|refine .k6 ?_|refine .k8 ?_|refine .k9 ?_|(refine .cd ?_ ?_<;>(intro hc;skip))|refine .r1 ?_ ?_|fail)
   all_goals(try simp only[BL]at *)
   all_goals first
    |(exfalso;revert hc;decide)
    |(refine⟨3-1,by omega,_,_,Zr,Zs,1,by omega,rfl,rfl,rfl⟩)
 ·repeat'(first|exact .nil|refine .k0 ?_|refine .k1 ?_|refine .k2 ?_|refine .k6 ?_|refine .k7 ?_|refine .k8 ?_|refine .k9 ?_|(refine .cd ?_ ?_<;>(intro hc;skip))|refine .r1 ?_ ?_|refine .r8 ?_ ?_|fail)
  all_goals(try simp only[BL]at *)
  any_goals(show True∧_;exact⟨trivial,by decide,by decide⟩)
  any_goals(show Sx.Fin _ _ _ _;exact Zw)
  all_goals
   refine WK_loop (fun n rg σ'=>σ'=(11,b,Blk.map [] 0)::σ∧rg=[(3,.mpt 11 b),(4,iv (1:Nat)),(5,nilV),(18,.sl true 1 [[nilV],[nilV],[nilV]]),(19,iv 3),(20,iv (1:Nat)),(25,nilV),(26,iv (0:Nat)),(27,iv 0)]) 0 rfl ⟨_,_,Zr,Zs,rfl,rfl⟩ ?_
   rintro n2 _ _ ⟨rfl,rfl⟩
   repeat'(first|exact .nil|refine .k0 ?_|refine .k1 ?_|refine .k2 ?_|refine .k6 ?_|refine .k8 ?_|refine .k9 ?_|(refine .cd ?_ ?_<;>(intro hc;skip))|refine .r1 ?_ ?_|fail)
   all_goals(try simp only[BL]at *)
   all_goals first
    |(exfalso;revert hc;decide)
    |(refine⟨3-2,by omega,_,_,Zr,Zs,2,by omega,rfl,rfl,rfl⟩)
 ·repeat'(first|exact .nil|refine .k0 ?_|refine .k1 ?_|refine .k2 ?_|refine .k6 ?_|refine .k7 ?_|refine .k8 ?_|refine .k9 ?_|(refine .cd ?_ ?_<;>(intro hc;skip))|refine .r1 ?_ ?_|refine .r8 ?_ ?_|fail)
  all_goals(try simp only[BL]at *)
  any_goals(show True∧_;exact⟨trivial,by decide,by decide⟩)
  any_goals(show Sx.Fin _ _ _ _;exact Zw)
  all_goals
   refine WK_loop (fun n rg σ'=>σ'=(11,b,Blk.map [] 0)::σ∧rg=[(3,.mpt 11 b),(4,iv (2:Nat)),(5,nilV),(18,.sl true 1 [[nilV],[nilV],[nilV]]),(19,iv 3),(20,iv (2:Nat)),(25,nilV),(26,iv (0:Nat)),(27,iv 0)]) 0 rfl ⟨_,_,Zr,Zs,rfl,rfl⟩ ?_
   rintro n2 _ _ ⟨rfl,rfl⟩
   repeat'(first|exact .nil|refine .k0 ?_|refine .k1 ?_|refine .k2 ?_|refine .k6 ?_|refine .k8 ?_|refine .k9 ?_|(refine .cd ?_ ?_<;>(intro hc;skip))|refine .r1 ?_ ?_|fail)
   all_goals(try simp only[BL]at *)
   all_goals first
    |(exfalso;revert hc;decide)
    |(refine⟨3-3,by omega,_,_,Zr,Zs,3,by omega,rfl,rfl,rfl⟩)
 ·repeat'(first|exact .nil|refine .k0 ?_|refine .k1 ?_|refine .k2 ?_|refine .k6 ?_|refine .k7 ?_|refine .k8 ?_|refine .k9 ?_|(refine .cd ?_ ?_<;>(intro hc;skip))|refine .r1 ?_ ?_|refine .r8 ?_ ?_|fail)
  all_goals(try simp only[BL]at *)
  all_goals first|(exfalso;revert hc;decide)|(show Sx.Fin _ _ _ _;(refine Sx.Fin.wk Zs ?_;repeat' first|exact .refl _|fail))
def cat0:Cat:=⟨[],[],[],[]⟩
theorem cyc_0:cycL (deps []) (namesF [])=[]:=cycL_eq (.inl ⟨rfl,fun a h=>nomatch h⟩)
theorem cycle0_ok:Pure Tryz.prog 18 [.agg [nilV,nilV,nilV,nilV]] (strsV []):=by
 have h:=cycle_ok cat0 ⟨fun f h=>(nomatch h),fun f h=>(nomatch h),by show 0≤_;omega⟩
 rw[show cycL (deps cat0.features) (namesF cat0.features)=[]from cyc_0]at h
 exact h.wk (.cons (.agg (.cons .nil (.cons .nil (.cons .nil (.cons .nil .nil))))) .nil)
theorem check0_ok:Pure Tryz.prog 11 [.agg [nilV,nilV,nilV,nilV]] (iv 0):=by
 refine Pure.runk (fun _=>0) Tryz.func11 comp11 era11 (Nat.le_of_ble_eq_true rfl) fun σ=> ?_
 repeat'(first|exact .nil|refine .k0 ?_|refine .k1 ?_|refine .k2 ?_|refine .k6 ?_|refine .k7 ?_|refine .k9 ?_|(refine .cd ?_ ?_<;>(intro hc;skip))|refine .r1 ?_ ?_|(refine .m1 ?_ ?_;intro b)|refine .r8 ?_ ?_|fail)
 all_goals(try simp only[BL]at *)
 ·exfalso;revert hc;decide
 refine WK_loop (fun n rg σ'=>σ'=(1,b,Blk.cells [nilV,nilV,nilV,nilV])::σ∧rg=[(1,.lp 1 b 0),(33,nilV),(34,iv (0:Nat)),(35,iv 0)]) 0 rfl ⟨_,_,Zr,Zs,rfl,rfl⟩ ?_
 rintro n _ _ ⟨rfl,rfl⟩
 repeat'(first|exact .nil|refine .k0 ?_|refine .k1 ?_|refine .k2 ?_|refine .k6 ?_|refine .k8 ?_|refine .k9 ?_|(refine .cd ?_ ?_<;>(intro hc;first|exact kt hc (by assumption)|skip))|refine .r1 ?_ ?_|refine .an rfl (by intro hob;first|exact versions0_ok|fail) ?_ ?_|refine .r8 ?_ ?_|fail)
 all_goals(try simp only[BL]at *)
 ·exfalso;revert hc;decide
 refine WK_loop (fun n rg σ'=>σ'=(1,b,Blk.cells [nilV,nilV,nilV,nilV])::σ∧rg=[(1,.lp 1 b 0),(66,nilV),(67,iv (0:Nat)),(68,iv 0)]) 0 rfl ⟨_,_,Zr,Zs,rfl,rfl⟩ ?_
 rintro n _ _ ⟨rfl,rfl⟩
 repeat'(first|exact .nil|refine .k0 ?_|refine .k1 ?_|refine .k2 ?_|refine .k6 ?_|refine .k7 ?_|refine .k8 ?_|refine .k9 ?_|(refine .cd ?_ ?_<;>(intro hc;first|exact kt hc (by assumption)|skip))|refine .r1 ?_ ?_|(refine .m2 ?_ ?_;intro hlen)|refine .an rfl (by intro hob;first|exact versions0_ok|exact cycle0_ok) ?_ ?_|fail)
 all_goals(try simp only[BL]at *)
 ·exfalso;revert hc;decide
 all_goals(show Sx.Fin _ _ _ _;(refine Sx.Fin.wk Zs ?_;repeat' first|exact .refl _|fail))
theorem sizeL_app:∀ (a b:List Ex),Ex.sizeL (a++b)=Ex.sizeL a+Ex.sizeL b
 |[],b=>by rw[List.nil_append,Ex.sizeL];omega
 |x::a,b=>by rw[List.cons_append,Ex.sizeL,Ex.sizeL,sizeL_app a b];omega
theorem flat_size:∀ fs:List Fea,(fs.flatMap fun f=>f.body.feats).length≤Ex.sizeL (fs.map Fea.body)∧(fs.flatMap fun f=>f.body.tabs).length≤Ex.sizeL (fs.map Fea.body)
 |[]=>by simp
 |f::fs=>by
  have h1:=flat_size fs
  have h2:=feats_size f.body
  simp only[List.flatMap_cons,List.length_append,List.map_cons,Ex.sizeL]
  omega
theorem mem_size{fs:List Fea}{f:Fea}(h:f∈fs):f.body.size≤Ex.sizeL (fs.map Fea.body):=by
 obtain⟨a,b,rfl⟩:=List.append_of_mem h
 rw[List.map_append,sizeL_app,List.map_cons,Ex.sizeL];omega
theorem Small.size{c:Cat}(h:Small c):Ex.sizeL (c.features.map Fea.body)≤2000:=by
 have h1:=h.n
 have h2:=szL_size _ _ _ h1
 rw[h2]at h1
 unfold Cat.all at h1
 rw[List.map_append,List.map_append,sizeL_app,sizeL_app]at h1
 omega
mutual
theorem wt_feats:∀ (x:Ex) (s:Str),(s∈x.feats∨s∈x.tabs)→s.size≤x.wt
 | .mk k o n t v _ _ _ ks,s,h=>by
  have ih:=wt_featsL ks s
  rw[Ex.wt]
  rw[Ex.feats,Ex.tabs,List.mem_append,List.mem_append]at h
  have e1:s∈(if k=3∨k=4 then[n]else[])→s=n:=fun h=>by split at h<;>simp_all
  have e2:s∈(if k=5 then[t]else[])→s=t:=fun h=>by split at h<;>simp_all
  rcases h with(h|h)|(h|h)
  ·obtain rfl:=e1 h;omega
  ·have:=ih (.inl h);omega
  ·obtain rfl:=e2 h;omega
  ·have:=ih (.inr h);omega
theorem wt_featsL:∀ (l:List Ex) (s:Str),(s∈Ex.featsL l∨s∈Ex.tabsL l)→s.size≤Ex.wtL l
 |[],s,h=>by simp[Ex.featsL,Ex.tabsL]at h
 |x::l,s,h=>by
  have h1:=wt_feats x s
  have h2:=wt_featsL l s
  rw[Ex.featsL,Ex.tabsL,List.mem_append,List.mem_append]at h
  rw[Ex.wtL]
  rcases h with(h|h)|(h|h)
  ·have:=h1 (.inl h);omega
  ·have:=h2 (.inl h);omega
  ·have:=h1 (.inr h);omega
  ·have:=h2 (.inr h);omega
end
structure Cat.Fits(c:Cat):Prop where
 n:∀ f∈c.features,f.name.size≤2 ^ 60
 b:∀ f∈c.features,f.body.wt≤2 ^ 60
theorem univ_size{c:Cat}{x:Ex}(hc:c.Fits)(hx:x.wt≤2 ^ 60):(∀ s∈univ c.features x.feats,s.size≤maxLen)∧∀ s∈univT c.features x,s.size≤maxLen:=by
 have hm:(2:Nat) ^ 60≤maxLen:=by unfold maxLen;decide
 refine⟨fun s h=> ?_,fun s h=> ?_⟩
 ·unfold univ at h
  rcases List.mem_append.1 h with h|h
  ·have:=wt_feats x s (.inl h);omega
  ·obtain⟨f,hf,h⟩:=List.mem_flatMap.1 h
   have:=wt_feats _ s (.inl h);have:=hc.b f hf;omega
 ·unfold univT at h
  rcases List.mem_append.1 h with h|h
  ·have:=wt_feats x s (.inr h);omega
  ·obtain⟨f,hf,h⟩:=List.mem_flatMap.1 h
   have:=wt_feats _ s (.inr h);have:=hc.b f hf;omega
theorem univ_few{c:Cat}{x:Ex}(hs:Small c)(hx:x.size≤5000):(univ c.features x.feats).length≤7000∧(univT c.features x).length≤7000:=by
 have h1:=flat_size c.features
 have h2:=hs.size
 have h3:=feats_size x
 unfold univ univT
 rw[List.length_append,List.length_append];omega
theorem usmall{c:Cat}{x:Ex}(hs:Small c)(hc:c.Fits)(hz:x.size≤5000)(hx:x.wt≤2 ^ 60):USmall c.features x:=
 ⟨Nat.le_trans (univ_few hs hz).1 (by decide),Nat.le_trans (univ_few hs hz).2 (by decide),(univ_size hc hx).1,(univ_size hc hx).2⟩
theorem body_size{c:Cat}(hs:Small c){f:Fea}(hf:f∈c.features):f.body.size≤2000:=Nat.le_trans (mem_size hf) hs.size
theorem cfit{c:Cat}(hs:Small c)(hc:c.Fits):CFit c.features:=by
 have hm:(2:Nat) ^ 60≤maxLen:=by unfold maxLen;decide
 refine⟨fun f hf=> ?_,fun f hf=>Nat.le_trans (hc.n f hf) hm,by have:=hs.f;omega⟩
 have h1:=body_size hs hf
 have h2:=feats_size f.body
 have h3:=hc.b f hf
 exact⟨by omega,by omega,fun s h=>by have:=wt_feats _ s (.inl h);omega,fun s h=>by have:=wt_feats _ s (.inr h);omega⟩
theorem small_t{c:Cat}(h:Small c):Pure Tryz.prog 10 [.agg c.cells] (.v (.bool true)):=by have:=small_ok c;rwa [decide_eq_true h]at this
theorem small_f{c:Cat}(h:¬Small c):Pure Tryz.prog 10 [.agg c.cells] (.v (.bool false)):=by have:=small_ok c;rwa [decide_eq_false h]at this
theorem same_t(l:List Str):Pure Tryz.prog 17 [strsA l,strsA l] (.v (.bool true)):=by have:=sameNames_ok l l;rwa [decide_eq_true rfl]at this
theorem wt_lit:cat1.Fits∧cat2.Fits∧Small cat1∧Small cat2:=by
 refine⟨⟨?_,?_⟩,⟨?_,?_⟩,?_,?_⟩
 all_goals decide+kernel
theorem ex_uses1:Pure Tryz.prog 15 [.agg cat1.cells,.agg bX.cells] (.tup [strsV [sA,sC],strsV [sT]]):=by
 have h:=uses_ok cat1 bX (usmall wt_lit.2.2.1 wt_lit.1 (by decide+kernel) (by decide+kernel))
 rwa [show usesF cat1.features bX=[sA,sC]from uses_1.1,show usesT cat1.features bX=[sT]from uses_1.2]at h
theorem ex_uses2:Pure Tryz.prog 15 [.agg cat1.cells,.agg dX.cells] (.tup [strsV [sE,sK],strsV []]):=by
 have h:=uses_ok cat1 dX (usmall wt_lit.2.2.1 wt_lit.1 (by decide+kernel) (by decide+kernel))
 rwa [show usesF cat1.features dX=[sE,sK]from uses_2.1,show usesT cat1.features dX=[]from uses_2.2]at h
theorem ex_order1:Pure Tryz.prog 20 [.agg cat1.cells] (strsV [sA,sC,sB,sD]):=by
 have h:=order_ok cat1 (cfit wt_lit.2.2.1 wt_lit.1)
 rwa [show orderL (deps cat1.features) (namesF cat1.features)=_ from order_1]at h
theorem ex_order2:Pure Tryz.prog 20 [.agg cat2.cells] (strsV [sD]):=by
 have h:=order_ok cat2 (cfit wt_lit.2.2.2 wt_lit.2.1)
 rwa [show orderL (deps cat2.features) (namesF cat2.features)=_ from order_2]at h
theorem ex_cycle1:Pure Tryz.prog 18 [.agg cat1.cells] (strsV []):=by
 have h:=cycle_ok cat1 (cfit wt_lit.2.2.1 wt_lit.1)
 rwa [show cycL (deps cat1.features) (namesF cat1.features)=_ from cyc_1]at h
theorem ex_cycle2:Pure Tryz.prog 18 [.agg cat2.cells] (strsV [sA,sC]):=by
 have h:=cycle_ok cat2 (cfit wt_lit.2.2.2 wt_lit.2.1)
 rwa [show cycL (deps cat2.features) (namesF cat2.features)=_ from cyc_2]at h
theorem example_ok:Pure Tryz.prog 13 [] (.v (.bool true)):=by
 refine Pure.runk (fun d=>bif ([33,106]:List Nat).elem d then 3 else 0) Tryz.func13 comp13 era13 (Nat.le_of_ble_eq_true rfl) fun σ=> ?_
 repeat'(first|exact .nil|refine .k0 ?_|refine .k1 ?_|refine .k2 ?_|refine .k3 ?_|refine .k5 ?_|refine .k7 ?_|refine .k9 ?_|(refine .cd ?_ ?_<;>(intro hc;first|exact kt hc (by assumption)|skip))|refine .r1 ?_ ?_|(refine .l1 ?_;intro b)|(refine .m2 ?_ ?_;intro hlen)|refine .u4 ?_ ?_ (fun b u c=> ?_)|refine .u5 ?_ ?_ ?_|refine .an rfl (by intro hob;first|exact use_ok _|(refine(feature_ok sA cntX).wk ?_;(repeat' first|exact .refl _|exact .nil|refine .agg ?_|refine .cons ?_ ?_|refine .rows ?_);done)|(refine(feature_ok sB bX).wk ?_;(repeat' first|exact .refl _|exact .nil|refine .agg ?_|refine .cons ?_ ?_|refine .rows ?_);done)|(refine(feature_ok sC cX).wk ?_;(repeat' first|exact .refl _|exact .nil|refine .agg ?_|refine .cons ?_ ?_|refine .rows ?_);done)|(refine(feature_ok sD dX).wk ?_;(repeat' first|exact .refl _|exact .nil|refine .agg ?_|refine .cons ?_ ?_|refine .rows ?_);done)|(refine(feature_ok sA aX).wk ?_;(repeat' first|exact .refl _|exact .nil|refine .agg ?_|refine .cons ?_ ?_|refine .rows ?_);done)|(refine ex_uses1.wk ?_;(repeat' first|exact .refl _|exact .nil|exact .own _|refine .agg ?_|refine .cons ?_ ?_|refine .rows ?_);done)|(refine ex_uses2.wk ?_;(repeat' first|exact .refl _|exact .nil|exact .own _|refine .agg ?_|refine .cons ?_ ?_|refine .rows ?_);done)|(refine ex_order1.wk ?_;(repeat' first|exact .refl _|exact .nil|exact .own _|refine .agg ?_|refine .cons ?_ ?_|refine .rows ?_);done)|(refine ex_order2.wk ?_;(repeat' first|exact .refl _|exact .nil|exact .own _|refine .agg ?_|refine .cons ?_ ?_|refine .rows ?_);done)|(refine ex_cycle1.wk ?_;(repeat' first|exact .refl _|exact .nil|exact .own _|refine .agg ?_|refine .cons ?_ ?_|refine .rows ?_);done)|(refine ex_cycle2.wk ?_;(repeat' first|exact .refl _|exact .nil|exact .own _|refine .agg ?_|refine .cons ?_ ?_|refine .rows ?_);done)|exact check0_ok|(refine(same_t [sA,sC]).wk ?_;(repeat' first|exact .refl _|exact .nil|refine .cons ?_ ?_|refine .rows ?_);done)|(refine(same_t [sT]).wk ?_;(repeat' first|exact .refl _|exact .nil|refine .cons ?_ ?_|refine .rows ?_);done)|(refine(same_t [sE,sK]).wk ?_;(repeat' first|exact .refl _|exact .nil|refine .cons ?_ ?_|refine .rows ?_);done)|(refine(same_t [sA,sC,sB,sD]).wk ?_;(repeat' first|exact .refl _|exact .nil|refine .cons ?_ ?_|refine .rows ?_);done)|(refine(same_t [sD]).wk ?_;(repeat' first|exact .refl _|exact .nil|refine .cons ?_ ?_|refine .rows ?_);done)) ?_ ?_|refine .r8 ?_ ?_|fail)
 try any_goals(exact Zo)
 all_goals(try simp only[BL]at *)
 any_goals(show List.length _≤1000000;exact Nat.le_of_ble_eq_true rfl)
 any_goals(show(List.length _+List.length _) * 248≤35184372088832;exact Nat.le_of_ble_eq_true rfl)
 any_goals(show True∧(0:Int)≤_∧_;exact⟨trivial,by decide,by show(_:Int)<((4:Nat):Int);decide⟩)
 any_goals exact absurd rfl hc
 any_goals(show(0:Int)≤1∧(1:Int)≤_;exact⟨by decide,by show(1:Int)≤((4:Nat):Int);decide⟩)
 all_goals(show Sx.Fin _ _ _ _;exact Zw)
end Go.Proofs.YtekngilbecjkhaaGreatDoor
