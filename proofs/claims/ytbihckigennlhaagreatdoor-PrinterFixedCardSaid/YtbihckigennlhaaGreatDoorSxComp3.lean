/-
  The layer Sx, fifth part: slices written out, arithmetic, comparisons, addresses.
-/
import Derived.Test.YtbihckigennlhaaGreatDoorSxComp
set_option linter.unusedVariables false
set_option linter.unusedSimpArgs false
set_option linter.unusedSectionVars false
namespace Go.Sx
open Go.RowKit
section
variable {P:Program}[Glob P]{M:Mem}{w0:Base}{w:World}{σ:Store}{K:AV→Store→Prop}{rg:ae}{a:Act}{cfg:Nat→Nat}{d:Option Nat}{E:List PanicEntry→Store→Prop}
theorem aaD(M:Mem)(B:Nat)(L:List Value)(k:Nat)(v:Value)(h:L[k]? =some v):M.add B L.length L B (0+k)=some v:=by
 have:k<L.length:=(ZP.1 h).1
 simp[Mem.add,this]
 obtain⟨_,rfl⟩:=ZP.1 h
 simp
theorem arU{t e:TypeId}{n:Nat}{i:TypeInfo}{z:Value}{parts:Array (Nat×Operand)}(ht:P.underlying t=some (.slice e))(hi:P.info? e=some i)(hz:i.zero=some z)(hp:parts.toList.map (·.1)=List.range n)
  (hn:n * i.size≤16777216) (hI:Inv P M w0 σ w) (hR:bB M rg a) (h:aj P cfg d rg σ K E (.bh e i.size (parts.toList.map (·.2)))):
  aA P M w0 K ((Instr.buildSlice t n (parts.map fun(i,x)=>(i,a.eval x))).run P w):=by
 simp only[aj]at h
 split at h
 ·rename_i rows VR
  obtain⟨pB,h⟩:=h
  obtain⟨hL,hlen,aT,rz⟩:=Ma _ rows _ VR (eV hR (parts.toList.map (·.2)))
  generalize na:((parts.toList.map (·.2)).map a.eval)=vs at hL rz
  have DC:vs.length=n:=by
   rw[← na]
   have:=congrArg List.length hp
   simpa using this
  have iT:rows.length=n:=by rw[hlen,← DC,← na];simp[eV hR _ |>.1]
  have Jt:=lz rows aT
  generalize Uo:(vs.flatMap fun v=>v.cells.toList)=L at hL
  have Jc:L.length=n * i.size:=by rw[← hL.1,Jt,iT]
  have Wu:(parts.map fun x=>(x.1,a.eval x.2)).toList=(List.range' 0 vs.length).zip vs:=by
   rw[DC,← Yf,← hp,← na]
   simp only[Array.toList_map]
   induction parts.toList with
   |nil=>rfl
   |cons p ps ih=>obtain⟨j,x⟩:=p;simp[ih]
  have fq:(Instr.buildSlice t n (parts.map fun(i,x)=>(i,a.eval x))).run P w= .ok (.slice (some ⟨w.heap.size,0,none⟩) n n) (w.alloc (.cells L.toArray e)):=by
   have key:∀ zs:Array Value,Sem.run P (match Instr.fill (fun j=>some (j * i.size,i.size)) (Array.map (fun x=>zs[x % zs.size]!) (Array.range (n * i.size))) (parts.map fun x=>(x.1,a.eval x.2)).toList with
     |some cells=>do
      let b ← newRow e cells
      pure (Value.slice (some b) n n)
     |_=>stuck "buildSlice: a part of the wrong size") w=Result.ok (Value.slice (some ⟨w.heap.size,0,none⟩) n n) (w.alloc (.cells L.toArray e)):=by
    intro zs
    rw[Wu,ID i.size vs 0 _ rz (by simp[DC])]
    simp only[Sem.run_bind,newRow,run_newObj,Result.andThen_ok,Sem.run_pure]
    congr 4
    simp only[over,Nat.zero_mul,List.take_zero,Zh,Uo]
    rw[Yi (by simp[Jc]),Zx]
   simp only[Instr.buildSlice,Sem.run_bind,aV ht,Result.andThen_ok,jA hi,Sem.run_ite]
   rw[if_neg (by omega)]
   by_cases hc:n * i.size=0
   ·rw[if_pos hc]
    exact key #[]
   ·rw[if_neg hc]
    simp only[Ax hi hz,Result.andThen_ok,Sem.run_pure]
    exact key _
  rw[fq]
  have Du:Rows (M.add w.heap.size L.length L) w.heap.size 0 i.size rows (fun k=>L.getD k undef):=Rows.of_flat aT (hL.mono (hI.kH _ _)) (aaD M w.heap.size L)
  have mT:n≤maxLen:=by unfold maxLen;omega
  split at h
  ·refine⟨_,_,_,_,σ,rfl,hI.kH L.length L,hI.BM _ L e,?_,h⟩
   have:=R.kJ Du (Nat.le_of_eq iT) mT true
   rw[iT]at this
   exact this
  ·obtain⟨mY,h⟩:=h
   have e1:rows.length * i.size=L.length:=by rw[iT,Jc]
   rw[e1]at h
   refine⟨_,_,_,_,_,rfl,hI.kH L.length L,hI.yA _ L e (ZK _) _,?_,h w.heap.size⟩
   have:=R.oD (t:=d.getD 0) (u:=L.length) (c:=L.length) Du (Nat.le_of_eq iT) mT (.inr ⟨by omega,by omega⟩) mY
   rw[iT]at this
   exact this
  ·refine⟨_,_,_,_,σ,rfl,hI.kH L.length L,hI.BM _ L e,?_,h⟩
   have:=R.aaF Du (by rw[iT];exact mT)
   rw[iT]at this
   exact this
  ·refine⟨_,_,M,_,_,rfl,Mem.le.refl _,hI.box e hL _,?_,h w.heap.size⟩
   rw[iT]
   exact .ms _ _ _ _ _
 ·exact h.elim
theorem Q8(op:BinOp)(t:TypeId)(k k':IntKind)(x y:Int):binOp op t (.int k x) (.int k' y)=
  match op with
  | .shl| .shr=>Op.shift op k x k' y
  | .add| .sub| .mul=>if k≠k' then stuck "BinOp: operands of different kinds" else Op.intArith op k x y
  | .quo| .rem=>if k≠k' then stuck "BinOp: operands of different kinds" else Op.intDiv op k x y
  | .and| .or| .xor| .andNot=>if k≠k' then stuck "BinOp: operands of different kinds" else Op.intBits op k x y
  |_=>if k≠k' then stuck "BinOp: operands of different kinds" else Op.intCmp op x y:=by
 cases op<;>rfl
theorem vV(x y:ByteArray):(x.toList == y.toList)=decide (x=y):=by
 rw[ByteArray.toList_eq,ByteArray.toList_eq]
 obtain⟨⟨x⟩⟩:=x
 obtain⟨⟨y⟩⟩:=y
 rw[YH]
 simp
theorem EB{op:BinOp}{t:TypeId}{x y:Operand}(hI:Inv P M w0 σ w)(hR:bB M rg a)
  (h:aj P cfg d rg σ K E (.bin op x y)):aA P M w0 K ((do eqGuard op t x y (a.eval x) (a.eval y);binOp op t (a.eval x) (a.eval y):Sem Value).run P w):=by
 have hx:=hR.ev x
 have hy:=hR.ev y
 simp only[aj]at h
 split at h
 ·rename_i u v hu hv
  rw[hu]at hx
  rw[hv]at hy
  rw[hx.ax,hy.ax]
  unfold me at h
  split at h
  ·rename_i k p k' q
   rw[eqGuard_at_int,Q8]
   simp only[Sem.run_bind,Sem.run_pure,Result.andThen_ok]
   cases op<;>simp only at h ⊢
   case add=>obtain⟨rfl,h⟩:=h;exact aA.same hI (.v _) h (by simp[Op.intArith])
   case sub=>obtain⟨rfl,h⟩:=h;exact aA.same hI (.v _) h (by simp[Op.intArith])
   case mul=>obtain⟨rfl,h⟩:=h;exact aA.same hI (.v _) h (by simp[Op.intArith])
   case quo=>obtain⟨rfl,h0,h⟩:=h;exact aA.same hI (.v _) h (by simp[Op.intDiv,h0])
   case rem=>obtain⟨rfl,h0,h⟩:=h;exact aA.same hI (.v _) h (by simp[Op.intDiv,h0])
   case and=>obtain⟨rfl,h⟩:=h;exact aA.same hI (.v _) h (by simp[intBits_and])
   case or=>obtain⟨rfl,h⟩:=h;exact aA.same hI (.v _) h (by simp[intBits_or])
   case xor=>obtain⟨rfl,h⟩:=h;exact aA.same hI (.v _) h (by simp[intBits_xor])
   case andNot=>obtain⟨rfl,h⟩:=h;exact aA.same hI (.v _) h (by simp[intBits_andNot])
   case shl=>obtain⟨h0,h1,h⟩:=h;exact aA.same hI (.v _) h (by rw[shift_shl _ _ _ _ h0 h1];rfl)
   case shr=>obtain⟨h0,h1,h⟩:=h;exact aA.same hI (.v _) h (by rw[shift_shr _ _ _ _ h0 h1];rfl)
   case eql=>obtain⟨rfl,h⟩:=h;exact aA.same hI (.v _) h (by simp[Op.intCmp];rfl)
   case neq=>obtain⟨rfl,h⟩:=h;exact aA.same hI (.v _) h (by simp[Op.intCmp,bne];rfl)
   case lss=>obtain⟨rfl,h⟩:=h;exact aA.same hI (.v _) h (by simp[Op.intCmp])
   case leq=>obtain⟨rfl,h⟩:=h;exact aA.same hI (.v _) h (by simp[Op.intCmp])
   case gtr=>obtain⟨rfl,h⟩:=h;exact aA.same hI (.v _) h (by simp[Op.intCmp])
   case geq=>obtain⟨rfl,h⟩:=h;exact aA.same hI (.v _) h (by simp[Op.intCmp])
  ·rename_i p q
   rw[eqGuard_at_string]
   simp only[Sem.run_bind,Sem.run_pure,Result.andThen_ok]
   have hb:∀ op,op≠.shl→op≠.shr→binOp op t (.string p) (.string q)=Op.stringOp op p q:=by intro op h1 h2;cases op<;>first|rfl|exact(h1 rfl).elim|exact(h2 rfl).elim
   cases op<;>simp only at h ⊢
   case add=>
    obtain⟨hs,h⟩:=h
    refine aA.same hI (.v _) h ?_
    rw[hb _ (by simp) (by simp)]
    simp only[Op.stringOp,IntKind.max_i64,Sem.run_ite]
    rw[if_neg (by omega)]
    rfl
   case eql=>exact aA.same hI (.v _) h (by rw[hb _ (by simp) (by simp)];simp only[Op.stringOp,vV];rfl)
   case neq=>exact aA.same hI (.v _) h (by rw[hb _ (by simp) (by simp)];simp only[Op.stringOp,vV];rfl)
   case lss=>exact aA.same hI (.v _) h (by rw[hb _ (by simp) (by simp)];simp only[Op.stringOp];rfl)
   case leq=>exact aA.same hI (.v _) h (by rw[hb _ (by simp) (by simp)];simp only[Op.stringOp,vV];rfl)
   case gtr=>exact aA.same hI (.v _) h (by rw[hb _ (by simp) (by simp)];simp only[Op.stringOp,vV];rfl)
   case geq=>exact aA.same hI (.v _) h (by rw[hb _ (by simp) (by simp)];simp only[Op.stringOp];rfl)
   all_goals exact h.elim
  ·exact h.elim
 ·exact h.elim
theorem arY{op:UnOp}{x:Operand}(hI:Inv P M w0 σ w)(hR:bB M rg a)(h:aj P cfg d rg σ K E (.un op x)):aA P M w0 K ((Op.unary op (a.eval x)).run P w):=by
 have hx:=hR.ev x
 simp only[aj]at h
 split at h
 ·rename_i u hu
  rw[hu]at hx
  rw[hx.ax]
  split at h
  ·rename_i r hr
   refine aA.same hI (.v _) h ?_
   unfold EX at hr
   split at hr
   ·simp only[Z6]at hr;subst hr;simp[Op.unary,Op.intArith]
   ·simp only[Z6]at hr;subst hr;simp[Op.unary]
   ·cases hr
  ·exact h.elim
 ·exact h.elim
theorem arH{src dst:TypeId}{k k':IntKind}{x:Operand}(hs:P.underlying src=some (.int k'))(hd:P.underlying dst=some (.int k))(hI:Inv P M w0 σ w)(hR:bB M rg a)(h:aj P cfg d rg σ K E (.kj k x)):
  aA P M w0 K ((convert src dst (a.eval x)).run P w):=by
 have hx:=hR.ev x
 simp only[aj]at h
 split at h
 ·rename_i k2 n hu
  rw[hu]at hx
  rw[hx.ax]
  exact aA.same hI (.v _) h (by simp[convert,aV hs,aV hd,Conv.intToInt])
 ·exact h.elim
theorem arK{t:TypeId}{fs:Array Field}{i:Nat}{f:Field}{k:TypeInfo}{x:Operand}(ht:P.underlying t=some (.struct fs))(hf:fs[i]? =some f)(hk:P.info? f.type=some k)(h0:k.size≠0)(hI:Inv P M w0 σ w)(hR:bB M rg a)
  (h:aj P cfg d rg σ K E (.ig f.offset x)):aA P M w0 K ((Instr.fieldAt t (a.eval x) i).run P w):=by
 have hx:=hR.ev x
 simp only[aj]at h
 split at h
 ·rename_i tg b o hu
  rw[hu]at hx
  rw[hx.lX]
  refine aA.same hI (.lp _ _ _) h ?_
  simp[Instr.fieldAt,aV ht,hf,Instr.sureAddr,fieldPlace,jA hk,h0,Addr.add_lit]
 ·rename_i l hu
  rw[hu]at hx
  obtain⟨b,o,cs,hv,h1,h2⟩:=hx.nw
  rw[hv]
  refine aA.same hI (v:= .pointer (some ⟨b,o+f.offset,none⟩)) ?_ h ?_
  ·refine .pc _ b _ (fun k=>cs (f.offset+k)) (fun k hk=> ?_) (fun k hk=> ?_)
   ·rw[Nat.add_assoc];exact h1 _ (by simp at hk;omega)
   ·simp only[Yu];exact h2 _ _
  ·simp[Instr.fieldAt,aV ht,hf,Instr.sureAddr,fieldPlace,jA hk,h0,Addr.add_lit]
 ·exact h.elim
theorem QF{t:TypeId}{g:Bool}{n off:Nat}(ht:fR P t=some (g,n)){l:List AV}{cs:Array Value}(hl:RL M l cs.toList)(hI:Inv P M w0 σ w)
  (h:off+n≤l.length∧if g then K (.agg ((l.drop off).take n)) σ else match l[off]? with
   |some y=>K y σ
   |none=>False):aA P M w0 K ((part t cs off).run P w):=by
 obtain⟨h1,h2⟩:=BP ht w
 obtain⟨aE,h⟩:=h
 simp only[part,Sem.run_bind,h1,Result.andThen_ok]
 cases g with
 |true=>
  simp only[Ze,Sem.run_bind,h2,Result.andThen_ok,Sem.run_pure]at h ⊢
  refine aA.same hI (v:= .agg (cs.extract off (off+n))) ?_ h rfl
  have:=R.uL ((hl.drop off).take n)
  have e:((cs.toList.drop off).take n).toArray=cs.extract off (off+n):=by
   apply YX
   simp
  rw[e]at this
  exact this
 |false=>
  simp only[ZT,ZA]at h ⊢
  split at h
  ·rename_i y hy
   obtain⟨v,hv,hr⟩:=hl.get hy
   have:cs[off]? =some v:=by simpa using hv
   simp only[this,Sem.run_pure]
   exact aA.same hI hr h rfl
  ·exact h.elim
theorem arL{t:TypeId}{fs:Array Field}{i n:Nat}{f:Field}{g:Bool}{x:Operand}(ht:P.underlying t=some (.struct fs))(hf:fs[i]? =some f)(hg:fR P f.type=some (g,n))(hI:Inv P M w0 σ w)(hR:bB M rg a)
  (h:aj P cfg d rg σ K E (.field g f.offset n x)):aA P M w0 K ((Instr.field t (a.eval x) i).run P w):=by
 simp only[aj]at h
 split at h
 ·rename_i l hl
  obtain⟨cs,jL,hc⟩:=(hR.ev x).BK hl
  rw[jL]
  have:=QF hg hc hI h
  simpa[Instr.field,aV ht,hf,asAgg]using this
 ·exact h.elim
theorem aaj{x y:AV}{c:Bool}(h:rX .int x y=some c):∃ k a b,x= .v (.int k a)∧y= .v (.int k b)∧c=decide (a=b):=by
 unfold rX at h
 split at h
 ·rename_i k a k' b _
  split at h
  ·rename_i e;subst e;simp only[Z6]at h;exact⟨k,a,b,rfl,rfl,h.symm⟩
  ·cases h
 ·rename_i e;cases e
 ·rename_i e;cases e
 ·cases h
theorem aak{x y:AV}{c:Bool}(h:rX .str x y=some c):∃ a b,x= .v (.string a)∧y= .v (.string b)∧c=decide (a=b):=by
 unfold rX at h
 split at h
 ·rename_i e;cases e
 ·rename_i a b _;simp only[Z6]at h;exact⟨a,b,rfl,rfl,h.symm⟩
 ·rename_i e;cases e
 ·cases h
theorem aai{x y:AV}{c:Bool}(h:rX .bool x y=some c):∃ a b,x= .v (.bool a)∧y= .v (.bool b)∧c=(a == b):=by
 unfold rX at h
 split at h
 ·rename_i e;cases e
 ·rename_i e;cases e
 ·rename_i a b _;simp only[Z6]at h;exact⟨a,b,rfl,rfl,h.symm⟩
 ·cases h
theorem KC(d:Nat):∀ (fs:List Field) (n:Nat) (ks:List sZ) (xs ys:List AV) (us vs:Array Value) (b:Bool),oz P n fs=some ks→pg ks xs ys=some b→
  RL M xs (us.toList.drop n)→RL M ys (vs.toList.drop n)→(Op.eqFields (d+1) us vs fs).run P w= .ok b w
 |[],n,ks,xs,ys,us,vs,b,hk,he,hx,hy=>by
  simp only[oz,Z6]at hk
  subst hk
  cases xs<;>cases ys<;>simp[pg]at he
  subst he
  rfl
 |f::fs,n,ks,xs,ys,us,vs,b,hk,he,hx,hy=>by
  simp only[oz]at hk
  split at hk
  ·rename_i hc
   obtain⟨k,ks',rfl,Vl,JE⟩:∃ k ks',ks=k::ks'∧oz P (n+1) fs=some ks'∧((k= .int∧∃ q,P.underlying f.type=some (.int q))∨(k= .str∧P.underlying f.type=some .string)∨(k= .bool∧P.underlying f.type=some .bool)):=by
    split at hk
    ·rename_i q hu;obtain⟨ks',h1,rfl⟩:=ZS.1 hk;exact⟨_,ks',rfl,h1,.inl ⟨rfl,q,hu⟩⟩
    ·rename_i hu;obtain⟨ks',h1,rfl⟩:=ZS.1 hk;exact⟨_,ks',rfl,h1,.inr (.inl ⟨rfl,hu⟩)⟩
    ·rename_i hu;obtain⟨ks',h1,rfl⟩:=ZS.1 hk;exact⟨_,ks',rfl,h1,.inr (.inr ⟨rfl,hu⟩)⟩
    ·cases hk
   match xs,ys,he with
   |x::xs,y::ys,he=>
    obtain⟨u,us',ux,DG,eE⟩:=hx.cE
    obtain⟨v,gL,na,DH,uz⟩:=hy.cE
    have zP:us[n]? =some u:=by
     have:=congrArg (·[0]?) ux
     simpa using this
    have Wf:vs[n]? =some v:=by
     have:=congrArg (·[0]?) na
     simpa using this
    have zQ:us.toList.drop (n+1)=us':=by
     rw[← YP,ux];rfl
    have xj:vs.toList.drop (n+1)=gL:=by
     rw[← YP,na];rfl
    simp only[pg]at he
    split at he
    ·rename_i c Dd
     obtain⟨b',fV,rfl⟩:=ZS.1 he
     have ih:=KC d fs (n+1) ks' xs ys us vs b' Vl fV (by rw[zQ];exact eE) (by rw[xj];exact uz)
     have JV:(part f.type us f.offset).run P w= .ok u w∧(part f.type vs f.offset).run P w= .ok v w:=by
      rcases JE with⟨_,q,hu⟩|⟨_,hu⟩|⟨_,hu⟩<;>simp[part,isAgg,aV hu,hc.2,zP,Wf]
     have heq:(Op.equalIn (d+1) f.type u v).run P w= .ok c w:=by
      rcases JE with⟨rfl,q,hu⟩|⟨rfl,hu⟩|⟨rfl,hu⟩
      ·obtain⟨k,p,q',rfl,rfl,rfl⟩:=aaj Dd
       rw[DG.ax,DH.ax,run_equalIn_int (w:=w) _ _ _ q _ _ hu]
       rfl
      ·obtain⟨p,q',rfl,rfl,rfl⟩:=aak Dd
       rw[DG.ax,DH.ax,run_equalIn_string (w:=w) _ _ _ _ hu,vV]
      ·obtain⟨p,q',rfl,rfl,rfl⟩:=aai Dd
       rw[DG.ax,DH.ax,run_equalIn_bool' (w:=w) _ _ _ _ hu]
     simp only[Op.eqFields,hc.1,ne_eq,not_false_eq_true,Ze,Sem.run_bind,JV.1,JV.2,Result.andThen_ok,heq,Sem.run_ite]
     cases c
     ·simp
     ·simp[ih]
    ·cases he
   |[],ys,he=>simp[pg]at he
   |x::xs,[],he=>simp[pg]at he
  ·cases hk
theorem arI{neg:Bool}{t:TypeId}{fs:Array Field}{ks:List sZ}{x y:Operand}(ht:P.underlying t=some (.struct fs))(h1:P.stoodInHeld t=false)(h2:P.eqGuardType P.depth t=false)(hk:oz P 0 fs.toList=some ks)(hI:Inv P M w0 σ w)(hR:bB M rg a)
  (h:aj P cfg d rg σ K E (.eqs neg ks x y)):aA P M w0 K ((do eqGuard (if neg then .neq else .eql) t x y (a.eval x) (a.eval y);binOp (if neg then .neq else .eql) t (a.eval x) (a.eval y):Sem Value).run P w):=by
 simp only[aj]at h
 split at h
 ·rename_i xs ys eE uz
  obtain⟨us,hu,DF⟩:=(hR.ev x).BK eE
  obtain⟨vs,hv,Wt⟩:=(hR.ev y).BK uz
  rw[hu,hv]
  split at h
  ·rename_i b hb
   have he:=KC (P:=P) (M:=M) (w:=w) 9998 fs.toList 0 ks xs ys us vs b hk hb (by simpa using DF) (by simpa using Wt)
   have ot:P.underlying t=some (.struct (P.fieldsOf t)):=by simp[Program.fieldsOf,ht]
   have hf:P.fieldsOf t=fs:=by simp[Program.fieldsOf,ht]
   have C9:=run_equalIn_struct w 9999 t us vs ot h1
   rw[hf,he]at C9
   refine aA.same hI (.v _) h ?_
   rw[Sem.run_bind,run_eqGuard_agg w _ t x y us vs h2]
   cases neg
   ·simp only[Result.andThen_ok,ZT,ZA,run_eql_struct,C9,Bool.xor_false]
   ·simp only[Result.andThen_ok,Ze,run_neq_struct,C9,Bool.xor_true]
  ·exact h.elim
 ·exact h.elim
end
end Go.Sx
