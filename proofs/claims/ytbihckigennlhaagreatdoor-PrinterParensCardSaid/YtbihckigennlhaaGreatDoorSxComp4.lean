/-
  The layer Sx, sixth part: slices, lengths, append.
-/
import Derived.Test.YtbihckigennlhaaGreatDoorSxComp3
set_option linter.unusedVariables false
set_option linter.unusedSimpArgs false
set_option linter.unusedSectionVars false
namespace Go.Sx
open Go.RowKit
section
variable {P:Program}[Glob P]{M:Mem}{w0:Base}{w:World}{σ:Store}{K:AV→Store→Prop}{rg:ae}{a:Act}{cfg:Nat→Nat}{d:Option Nat}{E:List PanicEntry→Store→Prop}
def JS(P:Program)[Glob P](t:TypeId):wW→Prop
 | .bool=>P.underlying t=some .bool
 | .slice=>∃ e,P.underlying t=some (.slice e)
 | .map=>∃ k e,P.underlying t=some (.map k e)
 | .func=>∃ p r v,P.underlying t=some (.func p r v)
 | .ptr=>∃ e,P.underlying t=some (.pointer e)
theorem gb{t:TypeId}{u v:Value}{b:Bool}(hg:∀ (op:BinOp) (p q:Operand),eqGuard op t p q u v=pure ())(h1:binOp .eql t u v=(do pure (.bool (← Op.equal t u v))))(h2:binOp .neq t u v=(do pure (.bool (!(← Op.equal t u v)))))
  (he:∀ d:Nat,(Op.equalIn (d+1) t u v).run P w= .ok b w) (op:BinOp) (p q:Operand):eqGuard op t p q u v=pure ()∧(op= .eql→(binOp op t u v).run P w= .ok (.bool b) w)∧(op= .neq→(binOp op t u v).run P w= .ok (.bool (!b)) w):=by
 have vi:(Op.equal t u v).run P w= .ok b w:=he 9999
 refine⟨hg op p q,?_,?_⟩
 ·rintro rfl
  rw[h1,Sem.run_bind,vi]
  rfl
 ·rintro rfl
  rw[h2,Sem.run_bind,vi]
  rfl
set_option maxHeartbeats 2000000 in
theorem VA{k:wW}{t:TypeId}{x y:AV}{u v:Value}{b:Bool}(ht:JS P t k)(hx:R M x u)(hy:R M y v)(h:AH k x y=some b)(op:BinOp)(p q:Operand):
  eqGuard op t p q u v=pure ()∧(op= .eql→(binOp op t u v).run P w= .ok (.bool b) w)∧(op= .neq→(binOp op t u v).run P w= .ok (.bool (!b)) w):=by
 have sl:∀ {nn ez rows},R M (.sl true ez rows) nn→∃ b n c,nn= .slice (some b) n c:=by
  intro nn ez rows h
  rcases h.pD with⟨a,h,_,hv⟩|⟨b,off,cap,cs,hv,_⟩
  ·obtain⟨a,rfl⟩:=Ym.1 (h rfl)
   exact⟨_,_,_,hv⟩
  ·exact⟨_,_,_,hv⟩
 have ow:∀ {nn ez tg b u c rows},R M (.own ez tg b u c rows) nn→∃ b n c,nn= .slice (some b) n c:=by
  intro nn ez tg b u c rows h
  obtain⟨off,cap,cs,hv,_⟩:=h.qZ
  exact⟨_,_,_,hv⟩
 unfold AH at h
 split at h<;>simp only[Z5,reduceCtorEq]at h<;>subst h
 case h_1=>rw[hx.az,hy.az];exact gb (fun op p q=>by cases op<;>rfl) rfl rfl (fun d=>by simp[Op.equalIn,aY ht]) op p q
 case h_2=>obtain⟨e,ht⟩:=ht;obtain⟨b,n,c,rfl⟩:=sl hx;rw[hy.az];exact gb (fun op p q=>by cases op<;>rfl) rfl rfl (fun d=>by simp[Op.equalIn,aY ht]) op p q
 case h_3=>obtain⟨e,ht⟩:=ht;obtain⟨b,n,c,rfl⟩:=sl hy;rw[hx.az];exact gb (fun op p q=>by cases op<;>rfl) rfl rfl (fun d=>by simp[Op.equalIn,aY ht]) op p q
 case h_4=>obtain⟨e,ht⟩:=ht;obtain⟨b,n,c,rfl⟩:=ow hx;rw[hy.az];exact gb (fun op p q=>by cases op<;>rfl) rfl rfl (fun d=>by simp[Op.equalIn,aY ht]) op p q
 case h_5=>obtain⟨e,ht⟩:=ht;obtain⟨b,n,c,rfl⟩:=ow hy;rw[hx.az];exact gb (fun op p q=>by cases op<;>rfl) rfl rfl (fun d=>by simp[Op.equalIn,aY ht]) op p q
 case h_6=>obtain⟨e,ht⟩:=ht;rw[hx.yK,hy.az];exact gb (fun op p q=>by cases op<;>rfl) rfl rfl (fun d=>by simp[Op.equalIn,aY ht]) op p q
 case h_7=>obtain⟨e,ht⟩:=ht;rw[hx.az,hy.yK];exact gb (fun op p q=>by cases op<;>rfl) rfl rfl (fun d=>by simp[Op.equalIn,aY ht]) op p q
 case h_8=>obtain⟨e,ht⟩:=ht;rw[hx.az,hy.az];exact gb (fun op p q=>by cases op<;>rfl) rfl rfl (fun d=>by simp[Op.equalIn,aY ht]) op p q
 case h_9=>obtain⟨e,ht⟩:=ht;rw[hx.az,hy.az];exact gb (fun op p q=>by cases op<;>rfl) rfl rfl (fun d=>by simp[Op.equalIn,aY ht]) op p q
 case h_10=>obtain⟨e,ht⟩:=ht;rw[hx.az,hy.az];exact gb (fun op p q=>by cases op<;>rfl) rfl rfl (fun d=>by simp[Op.equalIn,aY ht]) op p q
 case h_11=>obtain⟨k,e,ht⟩:=ht;rw[hx.az,hy.az];exact gb (fun op p q=>by cases op<;>rfl) rfl rfl (fun d=>by simp[Op.equalIn,aY ht]) op p q
 case h_12=>obtain⟨k,e,ht⟩:=ht;rw[hx.az,hy.az];exact gb (fun op p q=>by cases op<;>rfl) rfl rfl (fun d=>by simp[Op.equalIn,aY ht]) op p q
 case h_13=>obtain⟨k,e,ht⟩:=ht;rw[hx.az,hy.az];exact gb (fun op p q=>by cases op<;>rfl) rfl rfl (fun d=>by simp[Op.equalIn,aY ht]) op p q
 case h_14=>obtain⟨fp,fr,fv,ht⟩:=ht;rw[hx.az,hy.az];exact gb (fun op p q=>by cases op<;>rfl) rfl rfl (fun d=>by simp[Op.equalIn,aY ht]) op p q
 case h_15=>obtain⟨fp,fr,fv,ht⟩:=ht;rw[hx.az,hy.az];exact gb (fun op p q=>by cases op<;>rfl) rfl rfl (fun d=>by simp[Op.equalIn,aY ht]) op p q
 case h_16=>obtain⟨fp,fr,fv,ht⟩:=ht;rw[hx.az,hy.az];exact gb (fun op p q=>by cases op<;>rfl) rfl rfl (fun d=>by simp[Op.equalIn,aY ht]) op p q
 case h_17=>obtain⟨e,ht⟩:=ht;rw[hx.mQ,hy.az];exact gb (fun op p q=>by cases op<;>rfl) rfl rfl (fun d=>by simp[Op.equalIn,aY ht]) op p q
 case h_18=>obtain⟨e,ht⟩:=ht;rw[hx.az,hy.mQ];exact gb (fun op p q=>by cases op<;>rfl) rfl rfl (fun d=>by simp[Op.equalIn,aY ht]) op p q
 case h_19=>obtain⟨e,ht⟩:=ht;rw[hx.az,hy.az];exact gb (fun op p q=>by cases op<;>rfl) rfl rfl (fun d=>by simp[Op.equalIn,aY ht]) op p q
 case h_20=>obtain⟨e,ht⟩:=ht;rw[hx.az,hy.az];exact gb (fun op p q=>by cases op<;>rfl) rfl rfl (fun d=>by simp[Op.equalIn,aY ht]) op p q
 case h_21=>obtain⟨e,ht⟩:=ht;rw[hx.az,hy.az];exact gb (fun op p q=>by cases op<;>rfl) rfl rfl (fun d=>by simp[Op.equalIn,aY ht]) op p q
theorem y7{neg:Bool}{k:wW}{t:TypeId}{x y:Operand}(ht:JS P t k)(hI:Inv P M w0 σ w)(hR:bE M rg a)
  (h:aj P cfg d rg σ K E (.gZ neg k x y)):aE P M w0 K ((do eqGuard (if neg then .neq else .eql) t x y (a.eval x) (a.eval y);binOp (if neg then .neq else .eql) t (a.eval x) (a.eval y):Sem Value).run P w):=by
 simp only[aj]at h
 split at h
 ·rename_i b gr
  obtain⟨h1,h2,h3⟩:=VA (w:=w) ht (hR.ev x) (hR.ev y) gr (if neg then .neq else .eql) x y
  refine aE.same hI (.v _) h ?_
  rw[Sem.run_bind,h1]
  simp only[Sem.run_pure,Result.andThen_ok]
  cases neg
  ·simpa using h2 rfl
  ·simpa using h3 rfl
 ·exact h.elim
theorem OG{x:Operand}(hI:Inv P M w0 σ w)(hR:bE M rg a)(h:aj P cfg d rg σ K E (.mv x)):aE P M w0 K ((pure (a.eval x):Sem Value).run P w):=
 aE.same hI (hR.ev x) h rfl
theorem axL{c x y:Operand}(hI:Inv P M w0 σ w)(hR:bE M rg a)(h:aj P cfg d rg σ K E (.pick c x y)):aE P M w0 K ((do pure (if ← asBool (a.eval c)then a.eval x else a.eval y):Sem Value).run P w):=by
 have hc:=hR.ev c
 simp only[aj]at h
 split at h
 ·rename_i t he
  rw[he]at hc
  rw[hc.az]
  refine aE.same hI (x:=if t then ev rg x else ev rg y) ?_ h rfl
  cases t
  ·exact hR.ev y
  ·exact hR.ev x
 ·exact h.elim
theorem axz{x:Operand}{i:Nat}(hI:Inv P M w0 σ w)(hR:bE M rg a)(h:aj P cfg d rg σ K E (.extract x i)):aE P M w0 K ((Instr.extract (a.eval x) i).run P w):=by
 have hx:=hR.ev x
 simp only[aj]at h
 split at h
 ·rename_i xs he
  rw[he]at hx
  obtain⟨cs,hv,hl⟩:=hx.BI
  rw[hv]
  split at h
  ·rename_i y hy
   obtain⟨v,hv',hr⟩:=hl.get hy
   exact aE.same hI hr h (by simp[Instr.extract,hv'])
  ·exact h.elim
 ·rename_i vs he
  rw[he]at hx
  rw[hx.az]
  split at h
  ·rename_i y hy
   exact aE.same hI (.v _) h (by simp[Instr.extract,hy])
  ·exact h.elim
 ·exact h.elim
theorem axC{t e:TypeId}{k:TypeInfo}{x i:Operand}(ht:P.underlying t=some (.slice e))(hk:P.info? e=some k)(hI:Inv P M w0 σ w)(hR:bE M rg a)(h:aj P cfg d rg σ K E (.eH k.size x i)):
  aE P M w0 K ((Instr.indexAt t (a.eval x) (a.eval i)).run P w):=by
 have hx:=hR.ev x
 have hi:=hR.ev i
 simp only[aj]at h
 have run:∀ (b o n cap:Nat) (kd:IntKind) (j:Int),0≤j→j<n→(Instr.indexAt t (.slice (some ⟨b,o,none⟩) n cap) (.int kd j)).run P w= .ok (.pointer (some ⟨b,o+j.toNat * k.size,none⟩)) w:=by
  intro b o n cap kd j h0 h1
  simp[Instr.indexAt,aY ht,asIntOf,h0,h1,ka hk,Addr.add_lit]
 split at h
 ·rename_i kd j he
  rw[he]at hi
  rw[hi.az]
  split at h
  ·rename_i nn ez rows fB
   rw[fB]at hx
   obtain⟨rfl,h0,h1,h⟩:=h
   rcases hx.pD with⟨_,_,rfl,_⟩|⟨b,off,cap,cs,hv,hr,_,_⟩
   ·simp at h1;omega
   ·rw[hv]
    exact aE.same hI (hr.pc j.toNat (by omega)) h (run b off _ cap kd j h0 h1)
  ·rename_i ez tg b u c rows fB
   rw[fB]at hx
   obtain⟨rfl,h0,h1,h⟩:=h
   obtain⟨off,cap,cs,hv,hr,_⟩:=hx.qZ
   rw[hv]
   exact aE.same hI (hr.pc j.toNat (by omega)) h (run b off _ cap kd j h0 h1)
  ·rename_i tg b o n cap fB
   rw[fB]at hx
   rw[hx.yK]
   obtain⟨h0,h1,h⟩:=h
   exact aE.same hI (.lp _ _ _) h (run b o n cap kd j h0 h1)
  ·exact h.elim
 ·exact h.elim
theorem axD{t e:TypeId}{n:Nat}{k:TypeInfo}{x i:Operand}(ht:P.underlying t=some (.array n e))(hk:P.info? e=some k)(hI:Inv P M w0 σ w)(hR:bE M rg a)(h:aj P cfg d rg σ K E (.iH n k.size x i)):
  aE P M w0 K ((Instr.indexAt t (a.eval x) (a.eval i)).run P w):=by
 have hx:=hR.ev x
 have hi:=hR.ev i
 simp only[aj]at h
 have run:∀ (b o:Nat) (kd:IntKind) (j:Int),0≤j→j<n→(Instr.indexAt t (.pointer (some ⟨b,o,none⟩)) (.int kd j)).run P w= .ok (.pointer (some ⟨b,o+j.toNat * k.size,none⟩)) w:=by
  intro b o kd j h0 h1
  simp[Instr.indexAt,aY ht,asIntOf,Instr.sureAddr,h0,h1,ka hk,Addr.add_lit]
 split at h
 ·rename_i kd j he
  rw[he]at hi
  rw[hi.az]
  split at h
  ·rename_i tg b o fB
   rw[fB]at hx
   rw[hx.mQ]
   obtain⟨h0,h1,h⟩:=h
   exact aE.same hI (.lp _ _ _) h (run b o kd j h0 h1)
  ·rename_i l fB
   rw[fB]at hx
   obtain⟨h0,h1,h⟩:=h
   obtain⟨b,o,cs,hv,h2,h3⟩:=hx.ot
   rw[hv]
   refine aE.same hI ?_ h (run b o kd j h0 h1)
   refine .pc _ b _ (fun m=>cs (j.toNat * k.size+m)) (fun m hm=> ?_) (fun m hm=> ?_)
   ·rw[Nat.add_assoc];exact h2 _ (by simp at hm;omega)
   ·simp only[YA];exact h3 _ _
  ·rename_i g o fB
   rw[fB]at hx
   obtain⟨l,ha,ho,h0,h1,h⟩:=h
   subst ho
   rw[hx.az]
   obtain⟨b,o,cs,hv,h2,h3⟩:=(hI.gl g l ha).ot
   cases hv
   refine aE.same hI ?_ h (run _ _ kd j h0 h1)
   refine .pc _ g _ (fun m=>cs (j.toNat * k.size+m)) (fun m hm=> ?_) (fun m hm=> ?_)
   ·rw[Nat.add_assoc];exact h2 _ (by simp at hm;omega)
   ·simp only[YA];exact h3 _ _
  ·exact h.elim
 ·exact h.elim
theorem axE{t:TypeId}{x i:Operand}(ht:P.underlying t=some .string)(hI:Inv P M w0 σ w)(hR:bE M rg a)(h:aj P cfg d rg σ K E (.idxs x i)):
  aE P M w0 K ((Instr.index t (a.eval x) (a.eval i)).run P w):=by
 have hx:=hR.ev x
 have hi:=hR.ev i
 simp only[aj]at h
 split at h
 ·rename_i kd j s cH vz
  rw[cH]at hi
  rw[vz]at hx
  rw[hi.az,hx.az]
  obtain⟨⟨h0,h1⟩,h⟩:=h
  refine aE.same hI (.v _) h ?_
  have:s[j.toNat]? =some (s[j.toNat]'(by omega)):=by
   rw[getElem?_pos]
  simp[Instr.index,asIntOf,aY ht,h0,this]
 ·exact h.elim
theorem axG{t:TypeId}{x:Operand}{ty:TypeId}(ht:P.underlying t=some .string)(hI:Inv P M w0 σ w)(hR:bE M rg a)(h:aj P cfg d rg σ K E (.len true x)):aE P M w0 K ((Builtin.len_ #[t] ty #[a.eval x]).run P w):=by
 have hx:=hR.ev x
 simp only[aj]at h
 split at h
 ·rename_i s he
  rw[he]at hx
  rw[hx.az]
  exact aE.same hI (.v _) h (by simp[Builtin.len_,aY ht,goInt])
 ·exact h.elim
theorem axF{t e:TypeId}{x:Operand}{ty:TypeId}(ht:P.underlying t=some (.slice e))(hI:Inv P M w0 σ w)(hR:bE M rg a)(h:aj P cfg d rg σ K E (.len false x)):aE P M w0 K ((Builtin.len_ #[t] ty #[a.eval x]).run P w):=by
 have hx:=hR.ev x
 simp only[aj]at h
 have run:∀ b n c,a.eval x= .slice b n c→(Builtin.len_ #[t] ty #[a.eval x]).run P w= .ok (.int .i64 n) w:=by
  intro b n c e
  rw[e]
  simp[Builtin.len_,aY ht,goInt]
 split at h
 ·rename_i b n c he
  rw[he]at hx
  exact aE.same hI (.v _) h (run b n c hx.az)
 ·rename_i tg b o n c he
  rw[he]at hx
  exact aE.same hI (.v _) h (run _ n c hx.yK)
 ·rename_i nn ez rows he
  rw[he]at hx
  rcases hx.pD with⟨_,_,rfl,hv⟩|⟨b,off,cap,cs,hv,hr,h1,h2⟩
  ·exact aE.same hI (.v _) (h (by simp)) (run _ _ _ hv)
  ·exact aE.same hI (.v _) (h (by omega)) (run _ _ _ hv)
 ·rename_i ez tg b u c rows he
  rw[he]at hx
  obtain⟨off,cap,cs,hv,hr,h1,h2,_⟩:=hx.qZ
  exact aE.same hI (.v _) (h (by omega)) (run _ _ _ hv)
 ·exact h.elim
theorem axI{x y:Operand}{ts:Array TypeId}{ty:TypeId}(hI:Inv P M w0 σ w)(hR:bE M rg a)(h:aj P cfg d rg σ K E (.max2 x y)):aE P M w0 K ((Builtin.max_ ts ty #[a.eval x,a.eval y]).run P w):=by
 have hx:=hR.ev x
 have hy:=hR.ev y
 simp only[aj]at h
 split at h
 ·rename_i u v hu hv
  rw[hu]at hx
  rw[hv]at hy
  rw[hx.az,hy.az]
  split at h
  ·rename_i r hr
   refine aE.same hI (.v _) h ?_
   unfold vN at hr
   split at hr
   ·split at hr
    ·rename_i e;subst e
     simp only[ZS,Zt,Z5]at hr
     subst hr
     simp[Builtin.max_,Builtin.max2]
    ·cases hr
   ·cases hr
  ·exact h.elim
 ·exact h.elim
theorem axJ{x y:Operand}{ts:Array TypeId}{ty:TypeId}(hI:Inv P M w0 σ w)(hR:bE M rg a)(h:aj P cfg d rg σ K E (.min2 x y)):aE P M w0 K ((Builtin.min_ ts ty #[a.eval x,a.eval y]).run P w):=by
 have hx:=hR.ev x
 have hy:=hR.ev y
 simp only[aj]at h
 split at h
 ·rename_i u v hu hv
  rw[hu]at hx
  rw[hv]at hy
  rw[hx.az,hy.az]
  split at h
  ·rename_i r hr
   refine aE.same hI (.v _) h ?_
   unfold vN at hr
   split at hr
   ·split at hr
    ·rename_i e;subst e
     simp only[Y7,Z5]at hr
     subst hr
     simp[Builtin.min_,Builtin.min2]
    ·cases hr
   ·cases hr
  ·exact h.elim
 ·exact h.elim
theorem Md{M:Mem}{rg:ae}{a:Act}(hR:bE M rg a){o:Option Operand}{r:Option Int}(h:oe (o.map (ev rg))=some r):(o=none∧r=none)∨∃ k i,o.map a.eval=some (.int k i)∧r=some i:=by
 cases o with
 |none=>simp[oe]at h;exact .inl ⟨rfl,h.symm⟩
 |some x=>
  have hx:=hR.ev x
  simp only[Zu]at h
  unfold oe at h
  split at h
  ·rename_i e;cases e
  ·rename_i k i e
   simp only[Z5]at e h
   rw[e]at hx
   exact .inr ⟨k,i,by simp[hx.az],h.symm⟩
  ·cases h
theorem aeg{bW dU:Option Int}{G5 G4:Option Value}(h1:(G5=none∧bW=none)∨∃ k i,G5=some (.int k i)∧bW=some i)(h2:(G4=none∧dU=none)∨∃ k i,G4=some (.int k i)∧dU=some i)
  (n c:Nat) (a1:0≤bW.getD 0) (a2:bW.getD 0≤dU.getD n) (a3:dU.getD n≤c):
  (Instr.sliceBounds true n c G5 G4 none).run P w= .ok ((bW.getD 0).toNat,(dU.getD n).toNat,c) w:=by
 have sb:∀ (k:IntKind) (i:Int) (y:Nat) (code:BoundsCode),0≤i→i≤y→(Instr.sliceBound (.int k i) y code).run P w= .ok i.toNat w:=by
  intro k i y code h0 h1
  simp[Instr.sliceBound,asIntOf,h0,h1]
 rcases h1 with⟨rfl,rfl⟩|⟨k,i,rfl,rfl⟩<;>rcases h2 with⟨rfl,rfl⟩|⟨k',i',rfl,rfl⟩<;>simp only[Option.getD_none,ZE]at a1 a2 a3 ⊢
 ·simp[Instr.sliceBounds]
 ·simp[Instr.sliceBounds,sb k' i' c _ (by omega) (by omega)]
 ·simp[Instr.sliceBounds,sb k i n _ (by omega) (by omega)]
 ·simp[Instr.sliceBounds,sb k' i' c _ (by omega) (by omega),sb k i i'.toNat _ (by omega) (by omega)]
theorem axM{t e:TypeId}{k:TypeInfo}{x:Operand}{lo hi:Option Operand}(ht:P.underlying t=some (.slice e))(hk:P.info? e=some k)(hI:Inv P M w0 σ w)(hR:bE M rg a)(h:aj P cfg d rg σ K E (.slice k.size x lo hi)):
  aE P M w0 K ((Instr.sliceAt t (a.eval x) (lo.map a.eval) (hi.map a.eval) none).run P w):=by
 have hx:=hR.ev x
 simp only[aj]at h
 split at h
 ·rename_i bW dU Lu EC
  have h1:(lo.map a.eval=none∧bW=none)∨∃ k i,lo.map a.eval=some (.int k i)∧bW=some i:=by
   rcases Md hR Lu with⟨rfl,rfl⟩|h
   ·exact .inl ⟨rfl,rfl⟩
   ·exact .inr h
  have h2:(hi.map a.eval=none∧dU=none)∨∃ k i,hi.map a.eval=some (.int k i)∧dU=some i:=by
   rcases Md hR EC with⟨rfl,rfl⟩|h
   ·exact .inl ⟨rfl,rfl⟩
   ·exact .inr h
  have run:∀ (base:Option Addr) (n c:Nat),0≤bW.getD 0→bW.getD 0≤dU.getD n→dU.getD n≤c→
    (Instr.sliceAt t (.slice base n c) (lo.map a.eval) (hi.map a.eval) none).run P w=
     .ok (.slice (if c=(bW.getD 0).toNat then base else base.map (·.add ((bW.getD 0).toNat * k.size))) ((dU.getD n).toNat-(bW.getD 0).toNat) (c-(bW.getD 0).toNat)) w:=by
   intro base n c a1 a2 a3
   simp[Instr.sliceAt,aY ht,Instr.slice,aeg h1 h2 n c a1 a2 a3,ka hk]
  split at h
  ·rename_i nn ez rows fB
   rw[fB]at hx
   obtain⟨rfl,a1,a2,a3,h⟩:=h
   rcases hx.pD with⟨ba,Xx,rfl,hv⟩|⟨b,off,cap,cs,hv,hr,h4,h5⟩
   ·rw[hv]
    simp only[Z4,Int.natCast_zero]at a1 a2 a3 h
    have e1:(bW.getD 0).toNat=0:=by omega
    have e2:(dU.getD 0).toNat=0:=by omega
    refine aE.same hI (v:= .slice ba 0 0) ?_ h ?_
    ·simp;exact .nil _ _ _ Xx
    ·rw[run ba 0 0 a1 a2 a3]
     simp[e1]
     simpa using e2
   ·rw[hv]
    have hl:=hr.sub (bW.getD 0).toNat (dU.getD rows.length).toNat (by omega) (by omega)
    have hlen:((rows.take (dU.getD rows.length).toNat).drop (bW.getD 0).toNat).length=(dU.getD rows.length).toNat-(bW.getD 0).toNat:=by simp;omega
    by_cases hc:cap=(bW.getD 0).toNat
    ·refine aE.same hI (v:= .slice (some ⟨b,off,none⟩) ((dU.getD rows.length).toNat-(bW.getD 0).toNat) (cap-(bW.getD 0).toNat)) ?_ h ?_
     ·have hz:(rows.take (dU.getD rows.length).toNat).drop (bW.getD 0).toNat=[]:=by
       apply ZO;rw[hlen];omega
      have ob:(dU.getD rows.length).toNat-(bW.getD 0).toNat=0:=by rw[← hlen,hz];rfl
      rw[hz,ob]
      exact R.lS (rows:=[]) (cs:=cs) ⟨fun i hi=>absurd hi (by simp),fun k hk=>absurd hk (by simp),fun i hi=>absurd hi (by simp)⟩ (ZK _) (by omega) nn
     ·rw[run _ _ _ a1 a2 (by omega),if_pos hc]
    ·refine aE.same hI (v:= .slice (some ⟨b,off+(bW.getD 0).toNat * k.size,none⟩) ((dU.getD rows.length).toNat-(bW.getD 0).toNat) (cap-(bW.getD 0).toNat)) ?_ h ?_
     ·have:=R.lS hl (cap:=cap-(bW.getD 0).toNat) (by rw[hlen];omega) (by omega) nn
      rw[hlen]at this
      exact this
     ·rw[run _ _ _ a1 a2 (by omega),if_neg hc]
      simp[Addr.add_lit]
  ·rename_i ez tg b u c rows fB
   rw[fB]at hx
   obtain⟨rfl,a1,a2,a3,h⟩:=h
   obtain⟨off,cap,cs,hv,hr,h4,h5,h6,h8⟩:=hx.qZ
   rw[hv]
   have hl:=hr.sub (bW.getD 0).toNat (dU.getD rows.length).toNat (by omega) (by omega)
   have hlen:((rows.take (dU.getD rows.length).toNat).drop (bW.getD 0).toNat).length=(dU.getD rows.length).toNat-(bW.getD 0).toNat:=by simp;omega
   have azR:(bW.getD 0).toNat≤rows.length:=by omega
   by_cases hc:cap=(bW.getD 0).toNat
   ·refine aE.same hI (v:= .slice (some ⟨b,off,none⟩) ((dU.getD rows.length).toNat-(bW.getD 0).toNat) (cap-(bW.getD 0).toNat)) ?_ h ?_
    ·have hz:(rows.take (dU.getD rows.length).toNat).drop (bW.getD 0).toNat=[]:=by
      apply ZO;rw[hlen];omega
     have ob:(dU.getD rows.length).toNat-(bW.getD 0).toNat=0:=by rw[← hlen,hz];rfl
     have hsl:=R.lS (M:=M) (b:=b) (off:=off) (ag:=k.size) (cs:=cs) (cap:=cap-(bW.getD 0).toNat) (rows:=[]) ⟨fun i hi=>absurd hi (by simp),fun k hk=>absurd hk (by simp),fun i hi=>absurd hi (by simp)⟩ (ZK _) (by omega) true
     cases yl:dU with
     |none=>
      simp only[yl,Option.isNone_none,Y7,Option.getD_none]at ob ⊢
      have tc:rows.drop (bW.getD 0).toNat=[]:=by apply ZO;simp;omega
      rw[tc,ob]
      exact R.pC (M:=M) (b:=b) (off:=off) (ag:=k.size) (cs:=cs) (rows:=[]) ⟨fun i hi=>absurd hi (by simp),fun k hk=>absurd hk (by simp),fun i hi=>absurd hi (by simp)⟩ (ZK _) (by omega) (.inl (by omega)) h8
     |some j=>
      simp only[yl,Option.isNone_some,ZS,Zt,ZE]at hz ob ⊢
      rw[hz,ob]
      exact hsl
    ·rw[run _ _ _ a1 a2 (by omega),if_pos hc]
   ·refine aE.same hI (v:= .slice (some ⟨b,off+(bW.getD 0).toNat * k.size,none⟩) ((dU.getD rows.length).toNat-(bW.getD 0).toNat) (cap-(bW.getD 0).toNat)) ?_ h ?_
    ·cases yl:dU with
     |none=>
      simp only[yl,Option.isNone_none,Y7,Option.getD_none,Y8,List.take_length]at hl hlen ⊢
      have e1:(rows.length-(bW.getD 0).toNat) * k.size+(bW.getD 0).toNat * k.size=rows.length * k.size:=by rw[← YL];congr 1;omega
      have e2:(cap-(bW.getD 0).toNat) * k.size+(bW.getD 0).toNat * k.size=cap * k.size:=by rw[← YL];congr 1;omega
      have:=R.pC (t:=tg) (u:=u) (c:=c) hl (cap:=cap-(bW.getD 0).toNat) (by rw[hlen];omega) (by omega) (by rcases h6 with h6|h6;exact .inl (by omega);exact .inr ⟨by rw[hlen];omega,by omega⟩) h8
      rw[hlen]at this
      exact this
     |some j=>
      simp only[yl,Option.isNone_some,ZS,Zt,ZE]at hl hlen a2 a3 ⊢
      have:=R.lS hl (cap:=cap-(bW.getD 0).toNat) (by rw[hlen];omega) (by omega) true
      rw[hlen]at this
      exact this
    ·rw[run _ _ _ a1 a2 (by omega),if_neg hc]
     simp[Addr.add_lit]
  ·rename_i fB
   rw[fB]at hx
   rw[hx.az]
   obtain⟨a1,a2,h⟩:=h
   refine aE.same hI (.v _) h ?_
   rw[run none 0 0 (by omega) (by simp;omega) (by simp;omega)]
   simp[a1,a2]
  ·exact h.elim
 ·exact h.elim
end
end Go.Sx
