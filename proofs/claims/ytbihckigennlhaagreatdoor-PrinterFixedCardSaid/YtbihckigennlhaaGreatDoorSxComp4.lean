/-
  The layer Sx, sixth part: slices, lengths, append.
-/
import Derived.Test.YtbihckigennlhaaGreatDoorSxComp3
set_option linter.unusedVariables false
set_option linter.unusedSimpArgs false
set_option linter.unusedSectionVars false
namespace Go.Sx
open Go.RowKit
section
variable {P:Program}[Glob P]{M:Mem}{w0:Base}{w:World}{σ:Store}{K:AV→Store→Prop}{rg:ae}{a:Act}{cfg:Nat→Nat}{d:Option Nat}{E:List PanicEntry→Store→Prop}
def H4(P:Program)[Glob P](t:TypeId):vA→Prop
 | .bool=>P.underlying t=some .bool
 | .slice=>∃ e,P.underlying t=some (.slice e)
 | .map=>∃ k e,P.underlying t=some (.map k e)
 | .func=>∃ p r v,P.underlying t=some (.func p r v)
 | .ptr=>∃ e,P.underlying t=some (.pointer e)
theorem fE{t:TypeId}{u v:Value}{b:Bool}(hg:∀ (op:BinOp) (p q:Operand),eqGuard op t p q u v=pure ())(h1:binOp .eql t u v=(do pure (.bool (← Op.equal t u v))))(h2:binOp .neq t u v=(do pure (.bool (!(← Op.equal t u v)))))
  (he:∀ d:Nat,(Op.equalIn (d+1) t u v).run P w= .ok b w) (op:BinOp) (p q:Operand):eqGuard op t p q u v=pure ()∧(op= .eql→(binOp op t u v).run P w= .ok (.bool b) w)∧(op= .neq→(binOp op t u v).run P w= .ok (.bool (!b)) w):=by
 have ud:(Op.equal t u v).run P w= .ok b w:=he 9999
 refine⟨hg op p q,?_,?_⟩
 ·rintro rfl
  rw[h1,Sem.run_bind,ud]
  rfl
 ·rintro rfl
  rw[h2,Sem.run_bind,ud]
  rfl
set_option maxHeartbeats 2000000 in
theorem SP{k:vA}{t:TypeId}{x y:AV}{u v:Value}{b:Bool}(ht:H4 P t k)(hx:R M x u)(hy:R M y v)(h:yO k x y=some b)(op:BinOp)(p q:Operand):
  eqGuard op t p q u v=pure ()∧(op= .eql→(binOp op t u v).run P w= .ok (.bool b) w)∧(op= .neq→(binOp op t u v).run P w= .ok (.bool (!b)) w):=by
 have sl:∀ {nn ez rows},R M (.sl true ez rows) nn→∃ b n c,nn= .slice (some b) n c:=by
  intro nn ez rows h
  rcases h.oE with⟨a,h,_,hv⟩|⟨b,off,cap,cs,hv,_⟩
  ·obtain⟨a,rfl⟩:=Ys.1 (h rfl)
   exact⟨_,_,_,hv⟩
  ·exact⟨_,_,_,hv⟩
 have ow:∀ {nn ez tg b u c rows},R M (.own ez tg b u c rows) nn→∃ b n c,nn= .slice (some b) n c:=by
  intro nn ez tg b u c rows h
  obtain⟨off,cap,cs,hv,_⟩:=h.pZ
  exact⟨_,_,_,hv⟩
 unfold yO at h
 split at h<;>simp only[Z6,reduceCtorEq]at h<;>subst h
 case h_1=>rw[hx.ax,hy.ax];exact fE (fun op p q=>by cases op<;>rfl) rfl rfl (fun d=>by simp[Op.equalIn,aV ht]) op p q
 case h_2=>obtain⟨e,ht⟩:=ht;obtain⟨b,n,c,rfl⟩:=sl hx;rw[hy.ax];exact fE (fun op p q=>by cases op<;>rfl) rfl rfl (fun d=>by simp[Op.equalIn,aV ht]) op p q
 case h_3=>obtain⟨e,ht⟩:=ht;obtain⟨b,n,c,rfl⟩:=sl hy;rw[hx.ax];exact fE (fun op p q=>by cases op<;>rfl) rfl rfl (fun d=>by simp[Op.equalIn,aV ht]) op p q
 case h_4=>obtain⟨e,ht⟩:=ht;obtain⟨b,n,c,rfl⟩:=ow hx;rw[hy.ax];exact fE (fun op p q=>by cases op<;>rfl) rfl rfl (fun d=>by simp[Op.equalIn,aV ht]) op p q
 case h_5=>obtain⟨e,ht⟩:=ht;obtain⟨b,n,c,rfl⟩:=ow hy;rw[hx.ax];exact fE (fun op p q=>by cases op<;>rfl) rfl rfl (fun d=>by simp[Op.equalIn,aV ht]) op p q
 case h_6=>obtain⟨e,ht⟩:=ht;rw[hx.xD,hy.ax];exact fE (fun op p q=>by cases op<;>rfl) rfl rfl (fun d=>by simp[Op.equalIn,aV ht]) op p q
 case h_7=>obtain⟨e,ht⟩:=ht;rw[hx.ax,hy.xD];exact fE (fun op p q=>by cases op<;>rfl) rfl rfl (fun d=>by simp[Op.equalIn,aV ht]) op p q
 case h_8=>obtain⟨e,ht⟩:=ht;rw[hx.ax,hy.ax];exact fE (fun op p q=>by cases op<;>rfl) rfl rfl (fun d=>by simp[Op.equalIn,aV ht]) op p q
 case h_9=>obtain⟨e,ht⟩:=ht;rw[hx.ax,hy.ax];exact fE (fun op p q=>by cases op<;>rfl) rfl rfl (fun d=>by simp[Op.equalIn,aV ht]) op p q
 case h_10=>obtain⟨e,ht⟩:=ht;rw[hx.ax,hy.ax];exact fE (fun op p q=>by cases op<;>rfl) rfl rfl (fun d=>by simp[Op.equalIn,aV ht]) op p q
 case h_11=>obtain⟨k,e,ht⟩:=ht;rw[hx.ax,hy.ax];exact fE (fun op p q=>by cases op<;>rfl) rfl rfl (fun d=>by simp[Op.equalIn,aV ht]) op p q
 case h_12=>obtain⟨k,e,ht⟩:=ht;rw[hx.ax,hy.ax];exact fE (fun op p q=>by cases op<;>rfl) rfl rfl (fun d=>by simp[Op.equalIn,aV ht]) op p q
 case h_13=>obtain⟨k,e,ht⟩:=ht;rw[hx.ax,hy.ax];exact fE (fun op p q=>by cases op<;>rfl) rfl rfl (fun d=>by simp[Op.equalIn,aV ht]) op p q
 case h_14=>obtain⟨fp,fr,fv,ht⟩:=ht;rw[hx.ax,hy.ax];exact fE (fun op p q=>by cases op<;>rfl) rfl rfl (fun d=>by simp[Op.equalIn,aV ht]) op p q
 case h_15=>obtain⟨fp,fr,fv,ht⟩:=ht;rw[hx.ax,hy.ax];exact fE (fun op p q=>by cases op<;>rfl) rfl rfl (fun d=>by simp[Op.equalIn,aV ht]) op p q
 case h_16=>obtain⟨fp,fr,fv,ht⟩:=ht;rw[hx.ax,hy.ax];exact fE (fun op p q=>by cases op<;>rfl) rfl rfl (fun d=>by simp[Op.equalIn,aV ht]) op p q
 case h_17=>obtain⟨e,ht⟩:=ht;rw[hx.lX,hy.ax];exact fE (fun op p q=>by cases op<;>rfl) rfl rfl (fun d=>by simp[Op.equalIn,aV ht]) op p q
 case h_18=>obtain⟨e,ht⟩:=ht;rw[hx.ax,hy.lX];exact fE (fun op p q=>by cases op<;>rfl) rfl rfl (fun d=>by simp[Op.equalIn,aV ht]) op p q
 case h_19=>obtain⟨e,ht⟩:=ht;rw[hx.ax,hy.ax];exact fE (fun op p q=>by cases op<;>rfl) rfl rfl (fun d=>by simp[Op.equalIn,aV ht]) op p q
 case h_20=>obtain⟨e,ht⟩:=ht;rw[hx.ax,hy.ax];exact fE (fun op p q=>by cases op<;>rfl) rfl rfl (fun d=>by simp[Op.equalIn,aV ht]) op p q
 case h_21=>obtain⟨e,ht⟩:=ht;rw[hx.ax,hy.ax];exact fE (fun op p q=>by cases op<;>rfl) rfl rfl (fun d=>by simp[Op.equalIn,aV ht]) op p q
theorem xS{neg:Bool}{k:vA}{t:TypeId}{x y:Operand}(ht:H4 P t k)(hI:Inv P M w0 σ w)(hR:bB M rg a)
  (h:aj P cfg d rg σ K E (.gz neg k x y)):aA P M w0 K ((do eqGuard (if neg then .neq else .eql) t x y (a.eval x) (a.eval y);binOp (if neg then .neq else .eql) t (a.eval x) (a.eval y):Sem Value).run P w):=by
 simp only[aj]at h
 split at h
 ·rename_i b fV
  obtain⟨h1,h2,h3⟩:=SP (w:=w) ht (hR.ev x) (hR.ev y) fV (if neg then .neq else .eql) x y
  refine aA.same hI (.v _) h ?_
  rw[Sem.run_bind,h1]
  simp only[Sem.run_pure,Result.andThen_ok]
  cases neg
  ·simpa using h2 rfl
  ·simpa using h3 rfl
 ·exact h.elim
theorem Mq{x:Operand}(hI:Inv P M w0 σ w)(hR:bB M rg a)(h:aj P cfg d rg σ K E (.mv x)):aA P M w0 K ((pure (a.eval x):Sem Value).run P w):=
 aA.same hI (hR.ev x) h rfl
theorem arV{c x y:Operand}(hI:Inv P M w0 σ w)(hR:bB M rg a)(h:aj P cfg d rg σ K E (.pick c x y)):aA P M w0 K ((do pure (if ← asBool (a.eval c)then a.eval x else a.eval y):Sem Value).run P w):=by
 have hc:=hR.ev c
 simp only[aj]at h
 split at h
 ·rename_i t he
  rw[he]at hc
  rw[hc.ax]
  refine aA.same hI (x:=if t then ev rg x else ev rg y) ?_ h rfl
  cases t
  ·exact hR.ev y
  ·exact hR.ev x
 ·exact h.elim
theorem arJ{x:Operand}{i:Nat}(hI:Inv P M w0 σ w)(hR:bB M rg a)(h:aj P cfg d rg σ K E (.extract x i)):aA P M w0 K ((Instr.extract (a.eval x) i).run P w):=by
 have hx:=hR.ev x
 simp only[aj]at h
 split at h
 ·rename_i xs he
  rw[he]at hx
  obtain⟨cs,hv,hl⟩:=hx.Ag
  rw[hv]
  split at h
  ·rename_i y hy
   obtain⟨v,We,hr⟩:=hl.get hy
   exact aA.same hI hr h (by simp[Instr.extract,We])
  ·exact h.elim
 ·rename_i vs he
  rw[he]at hx
  rw[hx.ax]
  split at h
  ·rename_i y hy
   exact aA.same hI (.v _) h (by simp[Instr.extract,hy])
  ·exact h.elim
 ·exact h.elim
theorem arM{t e:TypeId}{k:TypeInfo}{x i:Operand}(ht:P.underlying t=some (.slice e))(hk:P.info? e=some k)(hI:Inv P M w0 σ w)(hR:bB M rg a)(h:aj P cfg d rg σ K E (.er k.size x i)):
  aA P M w0 K ((Instr.indexAt t (a.eval x) (a.eval i)).run P w):=by
 have hx:=hR.ev x
 have hi:=hR.ev i
 simp only[aj]at h
 have run:∀ (b o n cap:Nat) (kd:IntKind) (j:Int),0≤j→j<n→(Instr.indexAt t (.slice (some ⟨b,o,none⟩) n cap) (.int kd j)).run P w= .ok (.pointer (some ⟨b,o+j.toNat * k.size,none⟩)) w:=by
  intro b o n cap kd j h0 h1
  simp[Instr.indexAt,aV ht,asIntOf,h0,h1,jA hk,Addr.add_lit]
 split at h
 ·rename_i kd j he
  rw[he]at hi
  rw[hi.ax]
  split at h
  ·rename_i nn ez rows fa
   rw[fa]at hx
   obtain⟨rfl,h0,h1,h⟩:=h
   rcases hx.oE with⟨_,_,rfl,_⟩|⟨b,off,cap,cs,hv,hr,_,_⟩
   ·simp at h1;omega
   ·rw[hv]
    exact aA.same hI (hr.pc j.toNat (by omega)) h (run b off _ cap kd j h0 h1)
  ·rename_i ez tg b u c rows fa
   rw[fa]at hx
   obtain⟨rfl,h0,h1,h⟩:=h
   obtain⟨off,cap,cs,hv,hr,_⟩:=hx.pZ
   rw[hv]
   exact aA.same hI (hr.pc j.toNat (by omega)) h (run b off _ cap kd j h0 h1)
  ·rename_i tg b o n cap fa
   rw[fa]at hx
   rw[hx.xD]
   obtain⟨h0,h1,h⟩:=h
   exact aA.same hI (.lp _ _ _) h (run b o n cap kd j h0 h1)
  ·exact h.elim
 ·exact h.elim
theorem arN{t e:TypeId}{n:Nat}{k:TypeInfo}{x i:Operand}(ht:P.underlying t=some (.array n e))(hk:P.info? e=some k)(hI:Inv P M w0 σ w)(hR:bB M rg a)(h:aj P cfg d rg σ K E (.gV n k.size x i)):
  aA P M w0 K ((Instr.indexAt t (a.eval x) (a.eval i)).run P w):=by
 have hx:=hR.ev x
 have hi:=hR.ev i
 simp only[aj]at h
 have run:∀ (b o:Nat) (kd:IntKind) (j:Int),0≤j→j<n→(Instr.indexAt t (.pointer (some ⟨b,o,none⟩)) (.int kd j)).run P w= .ok (.pointer (some ⟨b,o+j.toNat * k.size,none⟩)) w:=by
  intro b o kd j h0 h1
  simp[Instr.indexAt,aV ht,asIntOf,Instr.sureAddr,h0,h1,jA hk,Addr.add_lit]
 split at h
 ·rename_i kd j he
  rw[he]at hi
  rw[hi.ax]
  split at h
  ·rename_i tg b o fa
   rw[fa]at hx
   rw[hx.lX]
   obtain⟨h0,h1,h⟩:=h
   exact aA.same hI (.lp _ _ _) h (run b o kd j h0 h1)
  ·rename_i l fa
   rw[fa]at hx
   obtain⟨h0,h1,h⟩:=h
   obtain⟨b,o,cs,hv,h2,h3⟩:=hx.nw
   rw[hv]
   refine aA.same hI ?_ h (run b o kd j h0 h1)
   refine .pc _ b _ (fun m=>cs (j.toNat * k.size+m)) (fun m hm=> ?_) (fun m hm=> ?_)
   ·rw[Nat.add_assoc];exact h2 _ (by simp at hm;omega)
   ·simp only[Yu];exact h3 _ _
  ·rename_i g o fa
   rw[fa]at hx
   obtain⟨l,ha,ho,h0,h1,h⟩:=h
   subst ho
   rw[hx.ax]
   obtain⟨b,o,cs,hv,h2,h3⟩:=(hI.gl g l ha).nw
   cases hv
   refine aA.same hI ?_ h (run _ _ kd j h0 h1)
   refine .pc _ g _ (fun m=>cs (j.toNat * k.size+m)) (fun m hm=> ?_) (fun m hm=> ?_)
   ·rw[Nat.add_assoc];exact h2 _ (by simp at hm;omega)
   ·simp only[Yu];exact h3 _ _
  ·exact h.elim
 ·exact h.elim
theorem arO{t:TypeId}{x i:Operand}(ht:P.underlying t=some .string)(hI:Inv P M w0 σ w)(hR:bB M rg a)(h:aj P cfg d rg σ K E (.idxs x i)):
  aA P M w0 K ((Instr.index t (a.eval x) (a.eval i)).run P w):=by
 have hx:=hR.ev x
 have hi:=hR.ev i
 simp only[aj]at h
 split at h
 ·rename_i kd j s cz uy
  rw[cz]at hi
  rw[uy]at hx
  rw[hi.ax,hx.ax]
  obtain⟨⟨h0,h1⟩,h⟩:=h
  refine aA.same hI (.v _) h ?_
  have:s[j.toNat]? =some (s[j.toNat]'(by omega)):=by
   rw[getElem?_pos]
  simp[Instr.index,asIntOf,aV ht,h0,this]
 ·exact h.elim
theorem arQ{t:TypeId}{x:Operand}{ty:TypeId}(ht:P.underlying t=some .string)(hI:Inv P M w0 σ w)(hR:bB M rg a)(h:aj P cfg d rg σ K E (.len true x)):aA P M w0 K ((Builtin.len_ #[t] ty #[a.eval x]).run P w):=by
 have hx:=hR.ev x
 simp only[aj]at h
 split at h
 ·rename_i s he
  rw[he]at hx
  rw[hx.ax]
  exact aA.same hI (.v _) h (by simp[Builtin.len_,aV ht,goInt])
 ·exact h.elim
theorem arP{t e:TypeId}{x:Operand}{ty:TypeId}(ht:P.underlying t=some (.slice e))(hI:Inv P M w0 σ w)(hR:bB M rg a)(h:aj P cfg d rg σ K E (.len false x)):aA P M w0 K ((Builtin.len_ #[t] ty #[a.eval x]).run P w):=by
 have hx:=hR.ev x
 simp only[aj]at h
 have run:∀ b n c,a.eval x= .slice b n c→(Builtin.len_ #[t] ty #[a.eval x]).run P w= .ok (.int .i64 n) w:=by
  intro b n c e
  rw[e]
  simp[Builtin.len_,aV ht,goInt]
 split at h
 ·rename_i b n c he
  rw[he]at hx
  exact aA.same hI (.v _) h (run b n c hx.ax)
 ·rename_i tg b o n c he
  rw[he]at hx
  exact aA.same hI (.v _) h (run _ n c hx.xD)
 ·rename_i nn ez rows he
  rw[he]at hx
  rcases hx.oE with⟨_,_,rfl,hv⟩|⟨b,off,cap,cs,hv,hr,h1,h2⟩
  ·exact aA.same hI (.v _) (h (by simp)) (run _ _ _ hv)
  ·exact aA.same hI (.v _) (h (by omega)) (run _ _ _ hv)
 ·rename_i ez tg b u c rows he
  rw[he]at hx
  obtain⟨off,cap,cs,hv,hr,h1,h2,_⟩:=hx.pZ
  exact aA.same hI (.v _) (h (by omega)) (run _ _ _ hv)
 ·exact h.elim
theorem arS{x y:Operand}{ts:Array TypeId}{ty:TypeId}(hI:Inv P M w0 σ w)(hR:bB M rg a)(h:aj P cfg d rg σ K E (.max2 x y)):aA P M w0 K ((Builtin.max_ ts ty #[a.eval x,a.eval y]).run P w):=by
 have hx:=hR.ev x
 have hy:=hR.ev y
 simp only[aj]at h
 split at h
 ·rename_i u v hu hv
  rw[hu]at hx
  rw[hv]at hy
  rw[hx.ax,hy.ax]
  split at h
  ·rename_i r hr
   refine aA.same hI (.v _) h ?_
   unfold uJ at hr
   split at hr
   ·split at hr
    ·rename_i e;subst e
     simp only[ZT,ZA,Z6]at hr
     subst hr
     simp[Builtin.max_,Builtin.max2]
    ·cases hr
   ·cases hr
  ·exact h.elim
 ·exact h.elim
theorem arT{x y:Operand}{ts:Array TypeId}{ty:TypeId}(hI:Inv P M w0 σ w)(hR:bB M rg a)(h:aj P cfg d rg σ K E (.min2 x y)):aA P M w0 K ((Builtin.min_ ts ty #[a.eval x,a.eval y]).run P w):=by
 have hx:=hR.ev x
 have hy:=hR.ev y
 simp only[aj]at h
 split at h
 ·rename_i u v hu hv
  rw[hu]at hx
  rw[hv]at hy
  rw[hx.ax,hy.ax]
  split at h
  ·rename_i r hr
   refine aA.same hI (.v _) h ?_
   unfold uJ at hr
   split at hr
   ·split at hr
    ·rename_i e;subst e
     simp only[Ze,Z6]at hr
     subst hr
     simp[Builtin.min_,Builtin.min2]
    ·cases hr
   ·cases hr
  ·exact h.elim
 ·exact h.elim
theorem Kh{M:Mem}{rg:ae}{a:Act}(hR:bB M rg a){o:Option Operand}{r:Option Int}(h:nj (o.map (ev rg))=some r):(o=none∧r=none)∨∃ k i,o.map a.eval=some (.int k i)∧r=some i:=by
 cases o with
 |none=>simp[nj]at h;exact .inl ⟨rfl,h.symm⟩
 |some x=>
  have hx:=hR.ev x
  simp only[Zy]at h
  unfold nj at h
  split at h
  ·rename_i e;cases e
  ·rename_i k i e
   simp only[Z6]at e h
   rw[e]at hx
   exact .inr ⟨k,i,by simp[hx.ax],h.symm⟩
  ·cases h
theorem ab6{bT dM:Option Int}{E9 E8:Option Value}(h1:(E9=none∧bT=none)∨∃ k i,E9=some (.int k i)∧bT=some i)(h2:(E8=none∧dM=none)∨∃ k i,E8=some (.int k i)∧dM=some i)
  (n c:Nat) (a1:0≤bT.getD 0) (a2:bT.getD 0≤dM.getD n) (a3:dM.getD n≤c):
  (Instr.sliceBounds true n c E9 E8 none).run P w= .ok ((bT.getD 0).toNat,(dM.getD n).toNat,c) w:=by
 have sb:∀ (k:IntKind) (i:Int) (y:Nat) (code:BoundsCode),0≤i→i≤y→(Instr.sliceBound (.int k i) y code).run P w= .ok i.toNat w:=by
  intro k i y code h0 h1
  simp[Instr.sliceBound,asIntOf,h0,h1]
 rcases h1 with⟨rfl,rfl⟩|⟨k,i,rfl,rfl⟩<;>rcases h2 with⟨rfl,rfl⟩|⟨k',i',rfl,rfl⟩<;>simp only[Option.getD_none,ZI]at a1 a2 a3 ⊢
 ·simp[Instr.sliceBounds]
 ·simp[Instr.sliceBounds,sb k' i' c _ (by omega) (by omega)]
 ·simp[Instr.sliceBounds,sb k i n _ (by omega) (by omega)]
 ·simp[Instr.sliceBounds,sb k' i' c _ (by omega) (by omega),sb k i i'.toNat _ (by omega) (by omega)]
theorem arW{t e:TypeId}{k:TypeInfo}{x:Operand}{lo hi:Option Operand}(ht:P.underlying t=some (.slice e))(hk:P.info? e=some k)(hI:Inv P M w0 σ w)(hR:bB M rg a)(h:aj P cfg d rg σ K E (.slice k.size x lo hi)):
  aA P M w0 K ((Instr.sliceAt t (a.eval x) (lo.map a.eval) (hi.map a.eval) none).run P w):=by
 have hx:=hR.ev x
 simp only[aj]at h
 split at h
 ·rename_i bT dM JL C7
  have h1:(lo.map a.eval=none∧bT=none)∨∃ k i,lo.map a.eval=some (.int k i)∧bT=some i:=by
   rcases Kh hR JL with⟨rfl,rfl⟩|h
   ·exact .inl ⟨rfl,rfl⟩
   ·exact .inr h
  have h2:(hi.map a.eval=none∧dM=none)∨∃ k i,hi.map a.eval=some (.int k i)∧dM=some i:=by
   rcases Kh hR C7 with⟨rfl,rfl⟩|h
   ·exact .inl ⟨rfl,rfl⟩
   ·exact .inr h
  have run:∀ (base:Option Addr) (n c:Nat),0≤bT.getD 0→bT.getD 0≤dM.getD n→dM.getD n≤c→
    (Instr.sliceAt t (.slice base n c) (lo.map a.eval) (hi.map a.eval) none).run P w=
     .ok (.slice (if c=(bT.getD 0).toNat then base else base.map (·.add ((bT.getD 0).toNat * k.size))) ((dM.getD n).toNat-(bT.getD 0).toNat) (c-(bT.getD 0).toNat)) w:=by
   intro base n c a1 a2 a3
   simp[Instr.sliceAt,aV ht,Instr.slice,ab6 h1 h2 n c a1 a2 a3,jA hk]
  split at h
  ·rename_i nn ez rows fa
   rw[fa]at hx
   obtain⟨rfl,a1,a2,a3,h⟩:=h
   rcases hx.oE with⟨ba,UH,rfl,hv⟩|⟨b,off,cap,cs,hv,hr,h4,h5⟩
   ·rw[hv]
    simp only[Z2,Int.natCast_zero]at a1 a2 a3 h
    have e1:(bT.getD 0).toNat=0:=by omega
    have e2:(dM.getD 0).toNat=0:=by omega
    refine aA.same hI (v:= .slice ba 0 0) ?_ h ?_
    ·simp;exact .nil _ _ _ UH
    ·rw[run ba 0 0 a1 a2 a3]
     simp[e1]
     simpa using e2
   ·rw[hv]
    have hl:=hr.sub (bT.getD 0).toNat (dM.getD rows.length).toNat (by omega) (by omega)
    have hlen:((rows.take (dM.getD rows.length).toNat).drop (bT.getD 0).toNat).length=(dM.getD rows.length).toNat-(bT.getD 0).toNat:=by simp;omega
    by_cases hc:cap=(bT.getD 0).toNat
    ·refine aA.same hI (v:= .slice (some ⟨b,off,none⟩) ((dM.getD rows.length).toNat-(bT.getD 0).toNat) (cap-(bT.getD 0).toNat)) ?_ h ?_
     ·have hz:(rows.take (dM.getD rows.length).toNat).drop (bT.getD 0).toNat=[]:=by
       apply ZO;rw[hlen];omega
      have nf:(dM.getD rows.length).toNat-(bT.getD 0).toNat=0:=by rw[← hlen,hz];rfl
      rw[hz,nf]
      exact R.kJ (rows:=[]) (cs:=cs) ⟨fun i hi=>absurd hi (by simp),fun k hk=>absurd hk (by simp),fun i hi=>absurd hi (by simp)⟩ (ZF _) (by omega) nn
     ·rw[run _ _ _ a1 a2 (by omega),if_pos hc]
    ·refine aA.same hI (v:= .slice (some ⟨b,off+(bT.getD 0).toNat * k.size,none⟩) ((dM.getD rows.length).toNat-(bT.getD 0).toNat) (cap-(bT.getD 0).toNat)) ?_ h ?_
     ·have:=R.kJ hl (cap:=cap-(bT.getD 0).toNat) (by rw[hlen];omega) (by omega) nn
      rw[hlen]at this
      exact this
     ·rw[run _ _ _ a1 a2 (by omega),if_neg hc]
      simp[Addr.add_lit]
  ·rename_i ez tg b u c rows fa
   rw[fa]at hx
   obtain⟨rfl,a1,a2,a3,h⟩:=h
   obtain⟨off,cap,cs,hv,hr,h4,h5,h6,h8⟩:=hx.pZ
   rw[hv]
   have hl:=hr.sub (bT.getD 0).toNat (dM.getD rows.length).toNat (by omega) (by omega)
   have hlen:((rows.take (dM.getD rows.length).toNat).drop (bT.getD 0).toNat).length=(dM.getD rows.length).toNat-(bT.getD 0).toNat:=by simp;omega
   have atP:(bT.getD 0).toNat≤rows.length:=by omega
   by_cases hc:cap=(bT.getD 0).toNat
   ·refine aA.same hI (v:= .slice (some ⟨b,off,none⟩) ((dM.getD rows.length).toNat-(bT.getD 0).toNat) (cap-(bT.getD 0).toNat)) ?_ h ?_
    ·have hz:(rows.take (dM.getD rows.length).toNat).drop (bT.getD 0).toNat=[]:=by
      apply ZO;rw[hlen];omega
     have nf:(dM.getD rows.length).toNat-(bT.getD 0).toNat=0:=by rw[← hlen,hz];rfl
     have VZ:=R.kJ (M:=M) (b:=b) (off:=off) (af:=k.size) (cs:=cs) (cap:=cap-(bT.getD 0).toNat) (rows:=[]) ⟨fun i hi=>absurd hi (by simp),fun k hk=>absurd hk (by simp),fun i hi=>absurd hi (by simp)⟩ (ZF _) (by omega) true
     cases xd:dM with
     |none=>
      simp only[xd,Option.isNone_none,Ze,Option.getD_none]at nf ⊢
      have rQ:rows.drop (bT.getD 0).toNat=[]:=by apply ZO;simp;omega
      rw[rQ,nf]
      exact R.oD (M:=M) (b:=b) (off:=off) (af:=k.size) (cs:=cs) (rows:=[]) ⟨fun i hi=>absurd hi (by simp),fun k hk=>absurd hk (by simp),fun i hi=>absurd hi (by simp)⟩ (ZF _) (by omega) (.inl (by omega)) h8
     |some j=>
      simp only[xd,Option.isNone_some,ZT,ZA,ZI]at hz nf ⊢
      rw[hz,nf]
      exact VZ
    ·rw[run _ _ _ a1 a2 (by omega),if_pos hc]
   ·refine aA.same hI (v:= .slice (some ⟨b,off+(bT.getD 0).toNat * k.size,none⟩) ((dM.getD rows.length).toNat-(bT.getD 0).toNat) (cap-(bT.getD 0).toNat)) ?_ h ?_
    ·cases xd:dM with
     |none=>
      simp only[xd,Option.isNone_none,Ze,Option.getD_none,YS,List.take_length]at hl hlen ⊢
      have e1:(rows.length-(bT.getD 0).toNat) * k.size+(bT.getD 0).toNat * k.size=rows.length * k.size:=by rw[← YQ];congr 1;omega
      have e2:(cap-(bT.getD 0).toNat) * k.size+(bT.getD 0).toNat * k.size=cap * k.size:=by rw[← YQ];congr 1;omega
      have:=R.oD (t:=tg) (u:=u) (c:=c) hl (cap:=cap-(bT.getD 0).toNat) (by rw[hlen];omega) (by omega) (by rcases h6 with h6|h6;exact .inl (by omega);exact .inr ⟨by rw[hlen];omega,by omega⟩) h8
      rw[hlen]at this
      exact this
     |some j=>
      simp only[xd,Option.isNone_some,ZT,ZA,ZI]at hl hlen a2 a3 ⊢
      have:=R.kJ hl (cap:=cap-(bT.getD 0).toNat) (by rw[hlen];omega) (by omega) true
      rw[hlen]at this
      exact this
    ·rw[run _ _ _ a1 a2 (by omega),if_neg hc]
     simp[Addr.add_lit]
  ·rename_i fa
   rw[fa]at hx
   rw[hx.ax]
   obtain⟨a1,a2,h⟩:=h
   refine aA.same hI (.v _) h ?_
   rw[run none 0 0 (by omega) (by simp;omega) (by simp;omega)]
   simp[a1,a2]
  ·exact h.elim
 ·exact h.elim
end
end Go.Sx
