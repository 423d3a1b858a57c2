/-
  The layer Sx, sixth part: slices, lengths, append.
-/
import Derived.Test.YtbihckigennlhaaGreatDoorSxComp3
set_option linter.unusedVariables false
set_option linter.unusedSimpArgs false
set_option linter.unusedSectionVars false
namespace Go.Sx
open Go.RowKit
section
variable {P:Program}[Glob P]{M:Mem}{w0:Base}{w:World}{σ:Store}{K:AV→Store→Prop}{rg:Regs}{a:Act}{cfg:Nat→Nat}{d:Option Nat}{E:List PanicEntry→Store→Prop}
def eqkT(P:Program)[Glob P](t:TypeId):EqK→Prop
 | .bool=>P.underlying t=some .bool
 | .slice=>∃ e,P.underlying t=some (.slice e)
 | .map=>∃ k e,P.underlying t=some (.map k e)
 | .func=>∃ p r v,P.underlying t=some (.func p r v)
 | .ptr=>∃ e,P.underlying t=some (.pointer e)
theorem eq_help{t:TypeId}{u v:Value}{b:Bool}(hg:∀ (op:BinOp) (p q:Operand),eqGuard op t p q u v=pure ())(h1:binOp .eql t u v=(do pure (.bool (← Op.equal t u v))))(h2:binOp .neq t u v=(do pure (.bool (!(← Op.equal t u v)))))
  (he:∀ d:Nat,(Op.equalIn (d+1) t u v).run P w= .ok b w) (op:BinOp) (p q:Operand):eqGuard op t p q u v=pure ()∧(op= .eql→(binOp op t u v).run P w= .ok (.bool b) w)∧(op= .neq→(binOp op t u v).run P w= .ok (.bool (!b)) w):=by
 have he':(Op.equal t u v).run P w= .ok b w:=he 9999
 refine⟨hg op p q,?_,?_⟩
 ·rintro rfl
  rw[h1,Sem.run_bind,he']
  rfl
 ·rintro rfl
  rw[h2,Sem.run_bind,he']
  rfl
set_option maxHeartbeats 2000000 in
theorem eqV_run{k:EqK}{t:TypeId}{x y:AV}{u v:Value}{b:Bool}(ht:eqkT P t k)(hx:R M x u)(hy:R M y v)(h:eqV k x y=some b)(op:BinOp)(p q:Operand):
  eqGuard op t p q u v=pure ()∧(op= .eql→(binOp op t u v).run P w= .ok (.bool b) w)∧(op= .neq→(binOp op t u v).run P w= .ok (.bool (!b)) w):=by
 have sl:∀ {nn ez rows},R M (.sl true ez rows) nn→∃ b n c,nn= .slice (some b) n c:=by
  intro nn ez rows h
  rcases h.of_sl with⟨a,h,_,hv⟩|⟨b,off,cap,cs,hv,_⟩
  ·obtain⟨a,rfl⟩:=Option.isSome_iff_exists.1 (h rfl)
   exact⟨_,_,_,hv⟩
  ·exact⟨_,_,_,hv⟩
 have ow:∀ {nn ez tg b u c rows},R M (.own ez tg b u c rows) nn→∃ b n c,nn= .slice (some b) n c:=by
  intro nn ez tg b u c rows h
  obtain⟨off,cap,cs,hv,_⟩:=h.of_own
  exact⟨_,_,_,hv⟩
 unfold eqV at h
 split at h<;>simp only[Option.some.injEq,reduceCtorEq]at h<;>subst h
 case h_1=>rw[hx.of_v,hy.of_v];exact eq_help (fun op p q=>by cases op<;>rfl) rfl rfl (fun d=>by simp[Op.equalIn,run_under ht]) op p q
 case h_2=>obtain⟨e,ht⟩:=ht;obtain⟨b,n,c,rfl⟩:=sl hx;rw[hy.of_v];exact eq_help (fun op p q=>by cases op<;>rfl) rfl rfl (fun d=>by simp[Op.equalIn,run_under ht]) op p q
 case h_3=>obtain⟨e,ht⟩:=ht;obtain⟨b,n,c,rfl⟩:=sl hy;rw[hx.of_v];exact eq_help (fun op p q=>by cases op<;>rfl) rfl rfl (fun d=>by simp[Op.equalIn,run_under ht]) op p q
 case h_4=>obtain⟨e,ht⟩:=ht;obtain⟨b,n,c,rfl⟩:=ow hx;rw[hy.of_v];exact eq_help (fun op p q=>by cases op<;>rfl) rfl rfl (fun d=>by simp[Op.equalIn,run_under ht]) op p q
 case h_5=>obtain⟨e,ht⟩:=ht;obtain⟨b,n,c,rfl⟩:=ow hy;rw[hx.of_v];exact eq_help (fun op p q=>by cases op<;>rfl) rfl rfl (fun d=>by simp[Op.equalIn,run_under ht]) op p q
 case h_6=>obtain⟨e,ht⟩:=ht;rw[hx.of_ms,hy.of_v];exact eq_help (fun op p q=>by cases op<;>rfl) rfl rfl (fun d=>by simp[Op.equalIn,run_under ht]) op p q
 case h_7=>obtain⟨e,ht⟩:=ht;rw[hx.of_v,hy.of_ms];exact eq_help (fun op p q=>by cases op<;>rfl) rfl rfl (fun d=>by simp[Op.equalIn,run_under ht]) op p q
 case h_8=>obtain⟨e,ht⟩:=ht;rw[hx.of_v,hy.of_v];exact eq_help (fun op p q=>by cases op<;>rfl) rfl rfl (fun d=>by simp[Op.equalIn,run_under ht]) op p q
 case h_9=>obtain⟨e,ht⟩:=ht;rw[hx.of_v,hy.of_v];exact eq_help (fun op p q=>by cases op<;>rfl) rfl rfl (fun d=>by simp[Op.equalIn,run_under ht]) op p q
 case h_10=>obtain⟨e,ht⟩:=ht;rw[hx.of_v,hy.of_v];exact eq_help (fun op p q=>by cases op<;>rfl) rfl rfl (fun d=>by simp[Op.equalIn,run_under ht]) op p q
 case h_11=>obtain⟨k,e,ht⟩:=ht;rw[hx.of_v,hy.of_v];exact eq_help (fun op p q=>by cases op<;>rfl) rfl rfl (fun d=>by simp[Op.equalIn,run_under ht]) op p q
 case h_12=>obtain⟨k,e,ht⟩:=ht;rw[hx.of_v,hy.of_v];exact eq_help (fun op p q=>by cases op<;>rfl) rfl rfl (fun d=>by simp[Op.equalIn,run_under ht]) op p q
 case h_13=>obtain⟨k,e,ht⟩:=ht;rw[hx.of_v,hy.of_v];exact eq_help (fun op p q=>by cases op<;>rfl) rfl rfl (fun d=>by simp[Op.equalIn,run_under ht]) op p q
 case h_14=>obtain⟨fp,fr,fv,ht⟩:=ht;rw[hx.of_v,hy.of_v];exact eq_help (fun op p q=>by cases op<;>rfl) rfl rfl (fun d=>by simp[Op.equalIn,run_under ht]) op p q
 case h_15=>obtain⟨fp,fr,fv,ht⟩:=ht;rw[hx.of_v,hy.of_v];exact eq_help (fun op p q=>by cases op<;>rfl) rfl rfl (fun d=>by simp[Op.equalIn,run_under ht]) op p q
 case h_16=>obtain⟨fp,fr,fv,ht⟩:=ht;rw[hx.of_v,hy.of_v];exact eq_help (fun op p q=>by cases op<;>rfl) rfl rfl (fun d=>by simp[Op.equalIn,run_under ht]) op p q
 case h_17=>obtain⟨e,ht⟩:=ht;rw[hx.of_lp,hy.of_v];exact eq_help (fun op p q=>by cases op<;>rfl) rfl rfl (fun d=>by simp[Op.equalIn,run_under ht]) op p q
 case h_18=>obtain⟨e,ht⟩:=ht;rw[hx.of_v,hy.of_lp];exact eq_help (fun op p q=>by cases op<;>rfl) rfl rfl (fun d=>by simp[Op.equalIn,run_under ht]) op p q
 case h_19=>obtain⟨e,ht⟩:=ht;rw[hx.of_v,hy.of_v];exact eq_help (fun op p q=>by cases op<;>rfl) rfl rfl (fun d=>by simp[Op.equalIn,run_under ht]) op p q
 case h_20=>obtain⟨e,ht⟩:=ht;rw[hx.of_v,hy.of_v];exact eq_help (fun op p q=>by cases op<;>rfl) rfl rfl (fun d=>by simp[Op.equalIn,run_under ht]) op p q
 case h_21=>obtain⟨e,ht⟩:=ht;rw[hx.of_v,hy.of_v];exact eq_help (fun op p q=>by cases op<;>rfl) rfl rfl (fun d=>by simp[Op.equalIn,run_under ht]) op p q
theorem s_eqb{neg:Bool}{k:EqK}{t:TypeId}{x y:Operand}(ht:eqkT P t k)(hI:Inv P M w0 σ w)(hR:RegsOK M rg a)
  (h:vcO P cfg d rg σ K E (.eqb neg k x y)):Gives P M w0 K ((do eqGuard (if neg then .neq else .eql) t x y (a.eval x) (a.eval y);binOp (if neg then .neq else .eql) t (a.eval x) (a.eval y):Sem Value).run P w):=by
 simp only[vcO]at h
 split at h
 ·rename_i b hb'
  obtain⟨h1,h2,h3⟩:=eqV_run (w:=w) ht (hR.ev x) (hR.ev y) hb' (if neg then .neq else .eql) x y
  refine Gives.same hI (.v _) h ?_
  rw[Sem.run_bind,h1]
  simp only[Sem.run_pure,Result.andThen_ok]
  cases neg
  ·simpa using h2 rfl
  ·simpa using h3 rfl
 ·exact h.elim
theorem s_mv{x:Operand}(hI:Inv P M w0 σ w)(hR:RegsOK M rg a)(h:vcO P cfg d rg σ K E (.mv x)):Gives P M w0 K ((pure (a.eval x):Sem Value).run P w):=
 Gives.same hI (hR.ev x) h rfl
theorem s_pick{c x y:Operand}(hI:Inv P M w0 σ w)(hR:RegsOK M rg a)(h:vcO P cfg d rg σ K E (.pick c x y)):Gives P M w0 K ((do pure (if ← asBool (a.eval c)then a.eval x else a.eval y):Sem Value).run P w):=by
 have hc:=hR.ev c
 simp only[vcO]at h
 split at h
 ·rename_i t he
  rw[he]at hc
  rw[hc.of_v]
  refine Gives.same hI (x:=if t then ev rg x else ev rg y) ?_ h rfl
  cases t
  ·exact hR.ev y
  ·exact hR.ev x
 ·exact h.elim
theorem s_extract{x:Operand}{i:Nat}(hI:Inv P M w0 σ w)(hR:RegsOK M rg a)(h:vcO P cfg d rg σ K E (.extract x i)):Gives P M w0 K ((Instr.extract (a.eval x) i).run P w):=by
 have hx:=hR.ev x
 simp only[vcO]at h
 split at h
 ·rename_i xs he
  rw[he]at hx
  obtain⟨cs,hv,hl⟩:=hx.of_tup
  rw[hv]
  split at h
  ·rename_i y hy
   obtain⟨v,hv',hr⟩:=hl.get hy
   exact Gives.same hI hr h (by simp[Instr.extract,hv'])
  ·exact h.elim
 ·rename_i vs he
  rw[he]at hx
  rw[hx.of_v]
  split at h
  ·rename_i y hy
   exact Gives.same hI (.v _) h (by simp[Instr.extract,hy])
  ·exact h.elim
 ·exact h.elim
theorem s_iaddr{t e:TypeId}{k:TypeInfo}{x i:Operand}(ht:P.underlying t=some (.slice e))(hk:P.info? e=some k)(hI:Inv P M w0 σ w)(hR:RegsOK M rg a)(h:vcO P cfg d rg σ K E (.iaddr k.size x i)):
  Gives P M w0 K ((Instr.indexAt t (a.eval x) (a.eval i)).run P w):=by
 have hx:=hR.ev x
 have hi:=hR.ev i
 simp only[vcO]at h
 have run:∀ (b o n cap:Nat) (kd:IntKind) (j:Int),0≤j→j<n→(Instr.indexAt t (.slice (some ⟨b,o,none⟩) n cap) (.int kd j)).run P w= .ok (.pointer (some ⟨b,o+j.toNat * k.size,none⟩)) w:=by
  intro b o n cap kd j h0 h1
  simp[Instr.indexAt,run_under ht,asIntOf,h0,h1,run_size hk,Addr.add_lit]
 split at h
 ·rename_i kd j he
  rw[he]at hi
  rw[hi.of_v]
  split at h
  ·rename_i nn ez rows hxe
   rw[hxe]at hx
   obtain⟨rfl,h0,h1,h⟩:=h
   rcases hx.of_sl with⟨_,_,rfl,_⟩|⟨b,off,cap,cs,hv,hr,_,_⟩
   ·simp at h1;omega
   ·rw[hv]
    exact Gives.same hI (hr.pc j.toNat (by omega)) h (run b off _ cap kd j h0 h1)
  ·rename_i ez tg b u c rows hxe
   rw[hxe]at hx
   obtain⟨rfl,h0,h1,h⟩:=h
   obtain⟨off,cap,cs,hv,hr,_⟩:=hx.of_own
   rw[hv]
   exact Gives.same hI (hr.pc j.toNat (by omega)) h (run b off _ cap kd j h0 h1)
  ·rename_i tg b o n cap hxe
   rw[hxe]at hx
   rw[hx.of_ms]
   obtain⟨h0,h1,h⟩:=h
   exact Gives.same hI (.lp _ _ _) h (run b o n cap kd j h0 h1)
  ·exact h.elim
 ·exact h.elim
theorem s_iaddrA{t e:TypeId}{n:Nat}{k:TypeInfo}{x i:Operand}(ht:P.underlying t=some (.array n e))(hk:P.info? e=some k)(hI:Inv P M w0 σ w)(hR:RegsOK M rg a)(h:vcO P cfg d rg σ K E (.iaddrA n k.size x i)):
  Gives P M w0 K ((Instr.indexAt t (a.eval x) (a.eval i)).run P w):=by
 have hx:=hR.ev x
 have hi:=hR.ev i
 simp only[vcO]at h
 have run:∀ (b o:Nat) (kd:IntKind) (j:Int),0≤j→j<n→(Instr.indexAt t (.pointer (some ⟨b,o,none⟩)) (.int kd j)).run P w= .ok (.pointer (some ⟨b,o+j.toNat * k.size,none⟩)) w:=by
  intro b o kd j h0 h1
  simp[Instr.indexAt,run_under ht,asIntOf,Instr.sureAddr,h0,h1,run_size hk,Addr.add_lit]
 split at h
 ·rename_i kd j he
  rw[he]at hi
  rw[hi.of_v]
  split at h
  ·rename_i tg b o hxe
   rw[hxe]at hx
   rw[hx.of_lp]
   obtain⟨h0,h1,h⟩:=h
   exact Gives.same hI (.lp _ _ _) h (run b o kd j h0 h1)
  ·rename_i l hxe
   rw[hxe]at hx
   obtain⟨h0,h1,h⟩:=h
   obtain⟨b,o,cs,hv,h2,h3⟩:=hx.of_pc
   rw[hv]
   refine Gives.same hI ?_ h (run b o kd j h0 h1)
   refine .pc _ b _ (fun m=>cs (j.toNat * k.size+m)) (fun m hm=> ?_) (fun m hm=> ?_)
   ·rw[Nat.add_assoc];exact h2 _ (by simp at hm;omega)
   ·simp only[List.getElem_drop];exact h3 _ _
  ·rename_i g o hxe
   rw[hxe]at hx
   obtain⟨l,ha,ho,h0,h1,h⟩:=h
   subst ho
   rw[hx.of_v]
   obtain⟨b,o,cs,hv,h2,h3⟩:=(hI.gl g l ha).of_pc
   cases hv
   refine Gives.same hI ?_ h (run _ _ kd j h0 h1)
   refine .pc _ g _ (fun m=>cs (j.toNat * k.size+m)) (fun m hm=> ?_) (fun m hm=> ?_)
   ·rw[Nat.add_assoc];exact h2 _ (by simp at hm;omega)
   ·simp only[List.getElem_drop];exact h3 _ _
  ·exact h.elim
 ·exact h.elim
theorem s_idxs{t:TypeId}{x i:Operand}(ht:P.underlying t=some .string)(hI:Inv P M w0 σ w)(hR:RegsOK M rg a)(h:vcO P cfg d rg σ K E (.idxs x i)):
  Gives P M w0 K ((Instr.index t (a.eval x) (a.eval i)).run P w):=by
 have hx:=hR.ev x
 have hi:=hR.ev i
 simp only[vcO]at h
 split at h
 ·rename_i kd j s hi' hx'
  rw[hi']at hi
  rw[hx']at hx
  rw[hi.of_v,hx.of_v]
  obtain⟨⟨h0,h1⟩,h⟩:=h
  refine Gives.same hI (.v _) h ?_
  have:s[j.toNat]? =some (s[j.toNat]'(by omega)):=by
   rw[getElem?_pos]
  simp[Instr.index,asIntOf,run_under ht,h0,this]
 ·exact h.elim
theorem s_lens{t:TypeId}{x:Operand}{ty:TypeId}(ht:P.underlying t=some .string)(hI:Inv P M w0 σ w)(hR:RegsOK M rg a)(h:vcO P cfg d rg σ K E (.len true x)):Gives P M w0 K ((Builtin.len_ #[t] ty #[a.eval x]).run P w):=by
 have hx:=hR.ev x
 simp only[vcO]at h
 split at h
 ·rename_i s he
  rw[he]at hx
  rw[hx.of_v]
  exact Gives.same hI (.v _) h (by simp[Builtin.len_,run_under ht,goInt])
 ·exact h.elim
theorem s_len{t e:TypeId}{x:Operand}{ty:TypeId}(ht:P.underlying t=some (.slice e))(hI:Inv P M w0 σ w)(hR:RegsOK M rg a)(h:vcO P cfg d rg σ K E (.len false x)):Gives P M w0 K ((Builtin.len_ #[t] ty #[a.eval x]).run P w):=by
 have hx:=hR.ev x
 simp only[vcO]at h
 have run:∀ b n c,a.eval x= .slice b n c→(Builtin.len_ #[t] ty #[a.eval x]).run P w= .ok (.int .i64 n) w:=by
  intro b n c e
  rw[e]
  simp[Builtin.len_,run_under ht,goInt]
 split at h
 ·rename_i b n c he
  rw[he]at hx
  exact Gives.same hI (.v _) h (run b n c hx.of_v)
 ·rename_i tg b o n c he
  rw[he]at hx
  exact Gives.same hI (.v _) h (run _ n c hx.of_ms)
 ·rename_i nn ez rows he
  rw[he]at hx
  rcases hx.of_sl with⟨_,_,rfl,hv⟩|⟨b,off,cap,cs,hv,hr,h1,h2⟩
  ·exact Gives.same hI (.v _) (h (by simp)) (run _ _ _ hv)
  ·exact Gives.same hI (.v _) (h (by omega)) (run _ _ _ hv)
 ·rename_i ez tg b u c rows he
  rw[he]at hx
  obtain⟨off,cap,cs,hv,hr,h1,h2,_⟩:=hx.of_own
  exact Gives.same hI (.v _) (h (by omega)) (run _ _ _ hv)
 ·exact h.elim
theorem s_max{x y:Operand}{ts:Array TypeId}{ty:TypeId}(hI:Inv P M w0 σ w)(hR:RegsOK M rg a)(h:vcO P cfg d rg σ K E (.max2 x y)):Gives P M w0 K ((Builtin.max_ ts ty #[a.eval x,a.eval y]).run P w):=by
 have hx:=hR.ev x
 have hy:=hR.ev y
 simp only[vcO]at h
 split at h
 ·rename_i u v hu hv
  rw[hu]at hx
  rw[hv]at hy
  rw[hx.of_v,hy.of_v]
  split at h
  ·rename_i r hr
   refine Gives.same hI (.v _) h ?_
   unfold maxV at hr
   split at hr
   ·split at hr
    ·rename_i e;subst e
     simp only[Bool.false_eq_true,if_false,Option.some.injEq]at hr
     subst hr
     simp[Builtin.max_,Builtin.max2]
    ·cases hr
   ·cases hr
  ·exact h.elim
 ·exact h.elim
theorem s_min{x y:Operand}{ts:Array TypeId}{ty:TypeId}(hI:Inv P M w0 σ w)(hR:RegsOK M rg a)(h:vcO P cfg d rg σ K E (.min2 x y)):Gives P M w0 K ((Builtin.min_ ts ty #[a.eval x,a.eval y]).run P w):=by
 have hx:=hR.ev x
 have hy:=hR.ev y
 simp only[vcO]at h
 split at h
 ·rename_i u v hu hv
  rw[hu]at hx
  rw[hv]at hy
  rw[hx.of_v,hy.of_v]
  split at h
  ·rename_i r hr
   refine Gives.same hI (.v _) h ?_
   unfold maxV at hr
   split at hr
   ·split at hr
    ·rename_i e;subst e
     simp only[if_true,Option.some.injEq]at hr
     subst hr
     simp[Builtin.min_,Builtin.min2]
    ·cases hr
   ·cases hr
  ·exact h.elim
 ·exact h.elim
theorem idx_spec{M:Mem}{rg:Regs}{a:Act}(hR:RegsOK M rg a){o:Option Operand}{r:Option Int}(h:idx? (o.map (ev rg))=some r):(o=none∧r=none)∨∃ k i,o.map a.eval=some (.int k i)∧r=some i:=by
 cases o with
 |none=>simp[idx?]at h;exact .inl ⟨rfl,h.symm⟩
 |some x=>
  have hx:=hR.ev x
  simp only[Option.map_some]at h
  unfold idx? at h
  split at h
  ·rename_i e;cases e
  ·rename_i k i e
   simp only[Option.some.injEq]at e h
   rw[e]at hx
   exact .inr ⟨k,i,by simp[hx.of_v],h.symm⟩
  ·cases h
theorem run_bounds{rlo rhi:Option Int}{vlo vhi:Option Value}(h1:(vlo=none∧rlo=none)∨∃ k i,vlo=some (.int k i)∧rlo=some i)(h2:(vhi=none∧rhi=none)∨∃ k i,vhi=some (.int k i)∧rhi=some i)
  (n c:Nat) (a1:0≤rlo.getD 0) (a2:rlo.getD 0≤rhi.getD n) (a3:rhi.getD n≤c):
  (Instr.sliceBounds true n c vlo vhi none).run P w= .ok ((rlo.getD 0).toNat,(rhi.getD n).toNat,c) w:=by
 have sb:∀ (k:IntKind) (i:Int) (y:Nat) (code:BoundsCode),0≤i→i≤y→(Instr.sliceBound (.int k i) y code).run P w= .ok i.toNat w:=by
  intro k i y code h0 h1
  simp[Instr.sliceBound,asIntOf,h0,h1]
 rcases h1 with⟨rfl,rfl⟩|⟨k,i,rfl,rfl⟩<;>rcases h2 with⟨rfl,rfl⟩|⟨k',i',rfl,rfl⟩<;>simp only[Option.getD_none,Option.getD_some]at a1 a2 a3 ⊢
 ·simp[Instr.sliceBounds]
 ·simp[Instr.sliceBounds,sb k' i' c _ (by omega) (by omega)]
 ·simp[Instr.sliceBounds,sb k i n _ (by omega) (by omega)]
 ·simp[Instr.sliceBounds,sb k' i' c _ (by omega) (by omega),sb k i i'.toNat _ (by omega) (by omega)]
theorem s_slice{t e:TypeId}{k:TypeInfo}{x:Operand}{lo hi:Option Operand}(ht:P.underlying t=some (.slice e))(hk:P.info? e=some k)(hI:Inv P M w0 σ w)(hR:RegsOK M rg a)(h:vcO P cfg d rg σ K E (.slice k.size x lo hi)):
  Gives P M w0 K ((Instr.sliceAt t (a.eval x) (lo.map a.eval) (hi.map a.eval) none).run P w):=by
 have hx:=hR.ev x
 simp only[vcO]at h
 split at h
 ·rename_i rlo rhi hlo hhi
  have h1:(lo.map a.eval=none∧rlo=none)∨∃ k i,lo.map a.eval=some (.int k i)∧rlo=some i:=by
   rcases idx_spec hR hlo with⟨rfl,rfl⟩|h
   ·exact .inl ⟨rfl,rfl⟩
   ·exact .inr h
  have h2:(hi.map a.eval=none∧rhi=none)∨∃ k i,hi.map a.eval=some (.int k i)∧rhi=some i:=by
   rcases idx_spec hR hhi with⟨rfl,rfl⟩|h
   ·exact .inl ⟨rfl,rfl⟩
   ·exact .inr h
  have run:∀ (base:Option Addr) (n c:Nat),0≤rlo.getD 0→rlo.getD 0≤rhi.getD n→rhi.getD n≤c→
    (Instr.sliceAt t (.slice base n c) (lo.map a.eval) (hi.map a.eval) none).run P w=
     .ok (.slice (if c=(rlo.getD 0).toNat then base else base.map (·.add ((rlo.getD 0).toNat * k.size))) ((rhi.getD n).toNat-(rlo.getD 0).toNat) (c-(rlo.getD 0).toNat)) w:=by
   intro base n c a1 a2 a3
   simp[Instr.sliceAt,run_under ht,Instr.slice,run_bounds h1 h2 n c a1 a2 a3,run_size hk]
  split at h
  ·rename_i nn ez rows hxe
   rw[hxe]at hx
   obtain⟨rfl,a1,a2,a3,h⟩:=h
   rcases hx.of_sl with⟨ba,hba,rfl,hv⟩|⟨b,off,cap,cs,hv,hr,h4,h5⟩
   ·rw[hv]
    simp only[List.length_nil,Int.natCast_zero]at a1 a2 a3 h
    have e1:(rlo.getD 0).toNat=0:=by omega
    have e2:(rhi.getD 0).toNat=0:=by omega
    refine Gives.same hI (v:= .slice ba 0 0) ?_ h ?_
    ·simp;exact .nil _ _ _ hba
    ·rw[run ba 0 0 a1 a2 a3]
     simp[e1]
     simpa using e2
   ·rw[hv]
    have hl:=hr.sub (rlo.getD 0).toNat (rhi.getD rows.length).toNat (by omega) (by omega)
    have hlen:((rows.take (rhi.getD rows.length).toNat).drop (rlo.getD 0).toNat).length=(rhi.getD rows.length).toNat-(rlo.getD 0).toNat:=by simp;omega
    by_cases hc:cap=(rlo.getD 0).toNat
    ·refine Gives.same hI (v:= .slice (some ⟨b,off,none⟩) ((rhi.getD rows.length).toNat-(rlo.getD 0).toNat) (cap-(rlo.getD 0).toNat)) ?_ h ?_
     ·have hz:(rows.take (rhi.getD rows.length).toNat).drop (rlo.getD 0).toNat=[]:=by
       apply List.eq_nil_of_length_eq_zero;rw[hlen];omega
      have hz':(rhi.getD rows.length).toNat-(rlo.getD 0).toNat=0:=by rw[← hlen,hz];rfl
      rw[hz,hz']
      exact R.mk_sl (rows:=[]) (cs:=cs) ⟨fun i hi=>absurd hi (by simp),fun k hk=>absurd hk (by simp),fun i hi=>absurd hi (by simp)⟩ (Nat.zero_le _) (by omega) nn
     ·rw[run _ _ _ a1 a2 (by omega),if_pos hc]
    ·refine Gives.same hI (v:= .slice (some ⟨b,off+(rlo.getD 0).toNat * k.size,none⟩) ((rhi.getD rows.length).toNat-(rlo.getD 0).toNat) (cap-(rlo.getD 0).toNat)) ?_ h ?_
     ·have:=R.mk_sl hl (cap:=cap-(rlo.getD 0).toNat) (by rw[hlen];omega) (by omega) nn
      rw[hlen]at this
      exact this
     ·rw[run _ _ _ a1 a2 (by omega),if_neg hc]
      simp[Addr.add_lit]
  ·rename_i ez tg b u c rows hxe
   rw[hxe]at hx
   obtain⟨rfl,a1,a2,a3,h⟩:=h
   obtain⟨off,cap,cs,hv,hr,h4,h5,h6,h8⟩:=hx.of_own
   rw[hv]
   have hl:=hr.sub (rlo.getD 0).toNat (rhi.getD rows.length).toNat (by omega) (by omega)
   have hlen:((rows.take (rhi.getD rows.length).toNat).drop (rlo.getD 0).toNat).length=(rhi.getD rows.length).toNat-(rlo.getD 0).toNat:=by simp;omega
   have hlo':(rlo.getD 0).toNat≤rows.length:=by omega
   by_cases hc:cap=(rlo.getD 0).toNat
   ·refine Gives.same hI (v:= .slice (some ⟨b,off,none⟩) ((rhi.getD rows.length).toNat-(rlo.getD 0).toNat) (cap-(rlo.getD 0).toNat)) ?_ h ?_
    ·have hz:(rows.take (rhi.getD rows.length).toNat).drop (rlo.getD 0).toNat=[]:=by
      apply List.eq_nil_of_length_eq_zero;rw[hlen];omega
     have hz':(rhi.getD rows.length).toNat-(rlo.getD 0).toNat=0:=by rw[← hlen,hz];rfl
     have hsl:=R.mk_sl (M:=M) (b:=b) (off:=off) (esz:=k.size) (cs:=cs) (cap:=cap-(rlo.getD 0).toNat) (rows:=[]) ⟨fun i hi=>absurd hi (by simp),fun k hk=>absurd hk (by simp),fun i hi=>absurd hi (by simp)⟩ (Nat.zero_le _) (by omega) true
     cases hrhi:rhi with
     |none=>
      simp only[hrhi,Option.isNone_none,if_true,Option.getD_none]at hz' ⊢
      have hz2:rows.drop (rlo.getD 0).toNat=[]:=by apply List.eq_nil_of_length_eq_zero;simp;omega
      rw[hz2,hz']
      exact R.mk_own (M:=M) (b:=b) (off:=off) (esz:=k.size) (cs:=cs) (rows:=[]) ⟨fun i hi=>absurd hi (by simp),fun k hk=>absurd hk (by simp),fun i hi=>absurd hi (by simp)⟩ (Nat.zero_le _) (by omega) (.inl (by omega)) h8
     |some j=>
      simp only[hrhi,Option.isNone_some,Bool.false_eq_true,if_false,Option.getD_some]at hz hz' ⊢
      rw[hz,hz']
      exact hsl
    ·rw[run _ _ _ a1 a2 (by omega),if_pos hc]
   ·refine Gives.same hI (v:= .slice (some ⟨b,off+(rlo.getD 0).toNat * k.size,none⟩) ((rhi.getD rows.length).toNat-(rlo.getD 0).toNat) (cap-(rlo.getD 0).toNat)) ?_ h ?_
    ·cases hrhi:rhi with
     |none=>
      simp only[hrhi,Option.isNone_none,if_true,Option.getD_none,Int.toNat_natCast,List.take_length]at hl hlen ⊢
      have e1:(rows.length-(rlo.getD 0).toNat) * k.size+(rlo.getD 0).toNat * k.size=rows.length * k.size:=by rw[← Nat.add_mul];congr 1;omega
      have e2:(cap-(rlo.getD 0).toNat) * k.size+(rlo.getD 0).toNat * k.size=cap * k.size:=by rw[← Nat.add_mul];congr 1;omega
      have:=R.mk_own (t:=tg) (u:=u) (c:=c) hl (cap:=cap-(rlo.getD 0).toNat) (by rw[hlen];omega) (by omega) (by rcases h6 with h6|h6;exact .inl (by omega);exact .inr ⟨by rw[hlen];omega,by omega⟩) h8
      rw[hlen]at this
      exact this
     |some j=>
      simp only[hrhi,Option.isNone_some,Bool.false_eq_true,if_false,Option.getD_some]at hl hlen a2 a3 ⊢
      have:=R.mk_sl hl (cap:=cap-(rlo.getD 0).toNat) (by rw[hlen];omega) (by omega) true
      rw[hlen]at this
      exact this
    ·rw[run _ _ _ a1 a2 (by omega),if_neg hc]
     simp[Addr.add_lit]
  ·rename_i hxe
   rw[hxe]at hx
   rw[hx.of_v]
   obtain⟨a1,a2,h⟩:=h
   refine Gives.same hI (.v _) h ?_
   rw[run none 0 0 (by omega) (by simp;omega) (by simp;omega)]
   simp[a1,a2]
  ·exact h.elim
 ·exact h.elim
end
end Go.Sx
