/-
  The layer Sx, fifth part: slices written out, arithmetic, comparisons, addresses.
-/
import Derived.Test.YtbihckigennlhaaGreatDoorSxComp
set_option linter.unusedVariables false
set_option linter.unusedSimpArgs false
set_option linter.unusedSectionVars false
namespace Go.Sx
open Go.RowKit
section
variable {P:Program}[Glob P]{M:Mem}{w0:Base}{w:World}{σ:Store}{K:AV→Store→Prop}{rg:ae}{a:Act}{cfg:Nat→Nat}{d:Option Nat}{E:List PanicEntry→Store→Prop}
theorem acJ(M:Mem)(B:Nat)(L:List Value)(k:Nat)(v:Value)(h:L[k]? =some v):M.add B L.length L B (0+k)=some v:=by
 have:k<L.length:=(ZN.1 h).1
 simp[Mem.add,this]
 obtain⟨_,rfl⟩:=ZN.1 h
 simp
theorem axK{t e:TypeId}{n:Nat}{i:TypeInfo}{z:Value}{parts:Array (Nat×Operand)}(ht:P.underlying t=some (.slice e))(hi:P.info? e=some i)(hz:i.zero=some z)(hp:parts.toList.map (·.1)=List.range n)
  (hn:n * i.size≤16777216) (hI:Inv P M w0 σ w) (hR:bE M rg a) (h:aj P cfg d rg σ K E (.aZ e i.size (parts.toList.map (·.2)))):
  aE P M w0 K ((Instr.buildSlice t n (parts.map fun(i,x)=>(i,a.eval x))).run P w):=by
 simp only[aj]at h
 split at h
 ·rename_i rows aaC
  obtain⟨nH,h⟩:=h
  obtain⟨hL,hlen,hsz,sR⟩:=Om _ rows _ aaC (fw hR (parts.toList.map (·.2)))
  generalize nY:((parts.toList.map (·.2)).map a.eval)=vs at hL sR
  have E8:vs.length=n:=by
   rw[← nY]
   have:=congrArg List.length hp
   simpa using this
  have jD:rows.length=n:=by rw[hlen,← E8,← nY];simp[fw hR _ |>.1]
  have La:=mu rows hsz
  generalize Xe:(vs.flatMap fun v=>v.cells.toList)=L at hL
  have KQ:L.length=n * i.size:=by rw[← hL.1,La,jD]
  have aaO:(parts.map fun x=>(x.1,a.eval x.2)).toList=(List.range' 0 vs.length).zip vs:=by
   rw[E8,← X5,← hp,← nY]
   simp only[Array.toList_map]
   induction parts.toList with
   |nil=>rfl
   |cons p ps ih=>obtain⟨j,x⟩:=p;simp[ih]
  have fO:(Instr.buildSlice t n (parts.map fun(i,x)=>(i,a.eval x))).run P w= .ok (.slice (some ⟨w.heap.size,0,none⟩) n n) (w.alloc (.cells L.toArray e)):=by
   have key:∀ zs:Array Value,Sem.run P (match Instr.fill (fun j=>some (j * i.size,i.size)) (Array.map (fun x=>zs[x % zs.size]!) (Array.range (n * i.size))) (parts.map fun x=>(x.1,a.eval x.2)).toList with
     |some cells=>do
      let b ← newRow e cells
      pure (Value.slice (some b) n n)
     |_=>stuck "buildSlice: a part of the wrong size") w=Result.ok (Value.slice (some ⟨w.heap.size,0,none⟩) n n) (w.alloc (.cells L.toArray e)):=by
    intro zs
    rw[aaO,Ko i.size vs 0 _ sR (by simp[E8])]
    simp only[Sem.run_bind,newRow,run_newObj,Result.andThen_ok,Sem.run_pure]
    congr 4
    simp only[over,Nat.zero_mul,List.take_zero,Ze,Xe]
    rw[Yc (by simp[KQ]),Zn]
   simp only[Instr.buildSlice,Sem.run_bind,aY ht,Result.andThen_ok,ka hi,Sem.run_ite]
   rw[if_neg (by omega)]
   by_cases hc:n * i.size=0
   ·rw[if_pos hc]
    exact key #[]
   ·rw[if_neg hc]
    simp only[B0 hi hz,Result.andThen_ok,Sem.run_pure]
    exact key _
  rw[fO]
  have EZ:Rows (M.add w.heap.size L.length L) w.heap.size 0 i.size rows (fun k=>L.getD k undef):=Rows.of_flat hsz (hL.mono (hI.lO _ _)) (acJ M w.heap.size L)
  have nQ:n≤maxLen:=by unfold maxLen;omega
  split at h
  ·refine⟨_,_,_,_,σ,rfl,hI.lO L.length L,hI.Dd _ L e,?_,h⟩
   have:=R.lS EZ (Nat.le_of_eq jD) nQ true
   rw[jD]at this
   exact this
  ·obtain⟨nW,h⟩:=h
   have e1:rows.length * i.size=L.length:=by rw[jD,KQ]
   rw[e1]at h
   refine⟨_,_,_,_,_,rfl,hI.lO L.length L,hI.Ak _ L e (ZI _) _,?_,h w.heap.size⟩
   have:=R.pC (t:=d.getD 0) (u:=L.length) (c:=L.length) EZ (Nat.le_of_eq jD) nQ (.inr ⟨by omega,by omega⟩) nW
   rw[jD]at this
   exact this
  ·refine⟨_,_,_,_,σ,rfl,hI.lO L.length L,hI.Dd _ L e,?_,h⟩
   have:=R.acL EZ (by rw[jD];exact nQ)
   rw[jD]at this
   exact this
  ·refine⟨_,_,M,_,_,rfl,Mem.le.refl _,hI.box e hL _,?_,h w.heap.size⟩
   rw[jD]
   exact .ms _ _ _ _ _
 ·exact h.elim
theorem TT(op:BinOp)(t:TypeId)(k k':IntKind)(x y:Int):binOp op t (.int k x) (.int k' y)=
  match op with
  | .shl| .shr=>Op.shift op k x k' y
  | .add| .sub| .mul=>if k≠k' then stuck "BinOp: operands of different kinds" else Op.intArith op k x y
  | .quo| .rem=>if k≠k' then stuck "BinOp: operands of different kinds" else Op.intDiv op k x y
  | .and| .or| .xor| .andNot=>if k≠k' then stuck "BinOp: operands of different kinds" else Op.intBits op k x y
  |_=>if k≠k' then stuck "BinOp: operands of different kinds" else Op.intCmp op x y:=by
 cases op<;>rfl
theorem xq(x y:ByteArray):(x.toList == y.toList)=decide (x=y):=by
 rw[ByteArray.toList_eq,ByteArray.toList_eq]
 obtain⟨⟨x⟩⟩:=x
 obtain⟨⟨y⟩⟩:=y
 rw[YD]
 simp
theorem Gn{op:BinOp}{t:TypeId}{x y:Operand}(hI:Inv P M w0 σ w)(hR:bE M rg a)
  (h:aj P cfg d rg σ K E (.bin op x y)):aE P M w0 K ((do eqGuard op t x y (a.eval x) (a.eval y);binOp op t (a.eval x) (a.eval y):Sem Value).run P w):=by
 have hx:=hR.ev x
 have hy:=hR.ev y
 simp only[aj]at h
 split at h
 ·rename_i u v hu hv
  rw[hu]at hx
  rw[hv]at hy
  rw[hx.az,hy.az]
  unfold mW at h
  split at h
  ·rename_i k p k' q
   rw[eqGuard_at_int,TT]
   simp only[Sem.run_bind,Sem.run_pure,Result.andThen_ok]
   cases op<;>simp only at h ⊢
   case add=>obtain⟨rfl,h⟩:=h;exact aE.same hI (.v _) h (by simp[Op.intArith])
   case sub=>obtain⟨rfl,h⟩:=h;exact aE.same hI (.v _) h (by simp[Op.intArith])
   case mul=>obtain⟨rfl,h⟩:=h;exact aE.same hI (.v _) h (by simp[Op.intArith])
   case quo=>obtain⟨rfl,h0,h⟩:=h;exact aE.same hI (.v _) h (by simp[Op.intDiv,h0])
   case rem=>obtain⟨rfl,h0,h⟩:=h;exact aE.same hI (.v _) h (by simp[Op.intDiv,h0])
   case and=>obtain⟨rfl,h⟩:=h;exact aE.same hI (.v _) h (by simp[intBits_and])
   case or=>obtain⟨rfl,h⟩:=h;exact aE.same hI (.v _) h (by simp[intBits_or])
   case xor=>obtain⟨rfl,h⟩:=h;exact aE.same hI (.v _) h (by simp[intBits_xor])
   case andNot=>obtain⟨rfl,h⟩:=h;exact aE.same hI (.v _) h (by simp[intBits_andNot])
   case shl=>obtain⟨h0,h1,h⟩:=h;exact aE.same hI (.v _) h (by rw[shift_shl _ _ _ _ h0 h1];rfl)
   case shr=>obtain⟨h0,h1,h⟩:=h;exact aE.same hI (.v _) h (by rw[shift_shr _ _ _ _ h0 h1];rfl)
   case eql=>obtain⟨rfl,h⟩:=h;exact aE.same hI (.v _) h (by simp[Op.intCmp];rfl)
   case neq=>obtain⟨rfl,h⟩:=h;exact aE.same hI (.v _) h (by simp[Op.intCmp,bne];rfl)
   case lss=>obtain⟨rfl,h⟩:=h;exact aE.same hI (.v _) h (by simp[Op.intCmp])
   case leq=>obtain⟨rfl,h⟩:=h;exact aE.same hI (.v _) h (by simp[Op.intCmp])
   case gtr=>obtain⟨rfl,h⟩:=h;exact aE.same hI (.v _) h (by simp[Op.intCmp])
   case geq=>obtain⟨rfl,h⟩:=h;exact aE.same hI (.v _) h (by simp[Op.intCmp])
  ·rename_i p q
   rw[eqGuard_at_string]
   simp only[Sem.run_bind,Sem.run_pure,Result.andThen_ok]
   have hb:∀ op,op≠.shl→op≠.shr→binOp op t (.string p) (.string q)=Op.stringOp op p q:=by intro op h1 h2;cases op<;>first|rfl|exact(h1 rfl).elim|exact(h2 rfl).elim
   cases op<;>simp only at h ⊢
   case add=>
    obtain⟨hs,h⟩:=h
    refine aE.same hI (.v _) h ?_
    rw[hb _ (by simp) (by simp)]
    simp only[Op.stringOp,IntKind.max_i64,Sem.run_ite]
    rw[if_neg (by omega)]
    rfl
   case eql=>exact aE.same hI (.v _) h (by rw[hb _ (by simp) (by simp)];simp only[Op.stringOp,xq];rfl)
   case neq=>exact aE.same hI (.v _) h (by rw[hb _ (by simp) (by simp)];simp only[Op.stringOp,xq];rfl)
   case lss=>exact aE.same hI (.v _) h (by rw[hb _ (by simp) (by simp)];simp only[Op.stringOp];rfl)
   case leq=>exact aE.same hI (.v _) h (by rw[hb _ (by simp) (by simp)];simp only[Op.stringOp,xq];rfl)
   case gtr=>exact aE.same hI (.v _) h (by rw[hb _ (by simp) (by simp)];simp only[Op.stringOp,xq];rfl)
   case geq=>exact aE.same hI (.v _) h (by rw[hb _ (by simp) (by simp)];simp only[Op.stringOp];rfl)
   all_goals exact h.elim
  ·exact h.elim
 ·exact h.elim
theorem axO{op:UnOp}{x:Operand}(hI:Inv P M w0 σ w)(hR:bE M rg a)(h:aj P cfg d rg σ K E (.un op x)):aE P M w0 K ((Op.unary op (a.eval x)).run P w):=by
 have hx:=hR.ev x
 simp only[aj]at h
 split at h
 ·rename_i u hu
  rw[hu]at hx
  rw[hx.az]
  split at h
  ·rename_i r hr
   refine aE.same hI (.v _) h ?_
   unfold GU at hr
   split at hr
   ·simp only[Z5]at hr;subst hr;simp[Op.unary,Op.intArith]
   ·simp only[Z5]at hr;subst hr;simp[Op.unary]
   ·cases hr
  ·exact h.elim
 ·exact h.elim
theorem axx{src dst:TypeId}{k k':IntKind}{x:Operand}(hs:P.underlying src=some (.int k'))(hd:P.underlying dst=some (.int k))(hI:Inv P M w0 σ w)(hR:bE M rg a)(h:aj P cfg d rg σ K E (.ly k x)):
  aE P M w0 K ((convert src dst (a.eval x)).run P w):=by
 have hx:=hR.ev x
 simp only[aj]at h
 split at h
 ·rename_i k2 n hu
  rw[hu]at hx
  rw[hx.az]
  exact aE.same hI (.v _) h (by simp[convert,aY hs,aY hd,Conv.intToInt])
 ·exact h.elim
theorem axA{t:TypeId}{fs:Array Field}{i:Nat}{f:Field}{k:TypeInfo}{x:Operand}(ht:P.underlying t=some (.struct fs))(hf:fs[i]? =some f)(hk:P.info? f.type=some k)(h0:k.size≠0)(hI:Inv P M w0 σ w)(hR:bE M rg a)
  (h:aj P cfg d rg σ K E (.iS f.offset x)):aE P M w0 K ((Instr.fieldAt t (a.eval x) i).run P w):=by
 have hx:=hR.ev x
 simp only[aj]at h
 split at h
 ·rename_i tg b o hu
  rw[hu]at hx
  rw[hx.mQ]
  refine aE.same hI (.lp _ _ _) h ?_
  simp[Instr.fieldAt,aY ht,hf,Instr.sureAddr,fieldPlace,ka hk,h0,Addr.add_lit]
 ·rename_i l hu
  rw[hu]at hx
  obtain⟨b,o,cs,hv,h1,h2⟩:=hx.ot
  rw[hv]
  refine aE.same hI (v:= .pointer (some ⟨b,o+f.offset,none⟩)) ?_ h ?_
  ·refine .pc _ b _ (fun k=>cs (f.offset+k)) (fun k hk=> ?_) (fun k hk=> ?_)
   ·rw[Nat.add_assoc];exact h1 _ (by simp at hk;omega)
   ·simp only[YA];exact h2 _ _
  ·simp[Instr.fieldAt,aY ht,hf,Instr.sureAddr,fieldPlace,ka hk,h0,Addr.add_lit]
 ·exact h.elim
theorem Tk{t:TypeId}{g:Bool}{n off:Nat}(ht:gq P t=some (g,n)){l:List AV}{cs:Array Value}(hl:RL M l cs.toList)(hI:Inv P M w0 σ w)
  (h:off+n≤l.length∧if g then K (.agg ((l.drop off).take n)) σ else match l[off]? with
   |some y=>K y σ
   |none=>False):aE P M w0 K ((part t cs off).run P w):=by
 obtain⟨h1,h2⟩:=Df ht w
 obtain⟨aH,h⟩:=h
 simp only[part,Sem.run_bind,h1,Result.andThen_ok]
 cases g with
 |true=>
  simp only[Y7,Sem.run_bind,h2,Result.andThen_ok,Sem.run_pure]at h ⊢
  refine aE.same hI (v:= .agg (cs.extract off (off+n))) ?_ h rfl
  have:=R.tA ((hl.drop off).take n)
  have e:((cs.toList.drop off).take n).toArray=cs.extract off (off+n):=by
   apply YP
   simp
  rw[e]at this
  exact this
 |false=>
  simp only[ZS,Zt]at h ⊢
  split at h
  ·rename_i y hy
   obtain⟨v,hv,hr⟩:=hl.get hy
   have:cs[off]? =some v:=by simpa using hv
   simp only[this,Sem.run_pure]
   exact aE.same hI hr h rfl
  ·exact h.elim
theorem axB{t:TypeId}{fs:Array Field}{i n:Nat}{f:Field}{g:Bool}{x:Operand}(ht:P.underlying t=some (.struct fs))(hf:fs[i]? =some f)(hg:gq P f.type=some (g,n))(hI:Inv P M w0 σ w)(hR:bE M rg a)
  (h:aj P cfg d rg σ K E (.field g f.offset n x)):aE P M w0 K ((Instr.field t (a.eval x) i).run P w):=by
 simp only[aj]at h
 split at h
 ·rename_i l hl
  obtain⟨cs,ku,hc⟩:=(hR.ev x).Dc hl
  rw[ku]
  have:=Tk hg hc hI h
  simpa[Instr.field,aY ht,hf,asAgg]using this
 ·exact h.elim
theorem aco{x y:AV}{c:Bool}(h:tv .int x y=some c):∃ k a b,x= .v (.int k a)∧y= .v (.int k b)∧c=decide (a=b):=by
 unfold tv at h
 split at h
 ·rename_i k a k' b _
  split at h
  ·rename_i e;subst e;simp only[Z5]at h;exact⟨k,a,b,rfl,rfl,h.symm⟩
  ·cases h
 ·rename_i e;cases e
 ·rename_i e;cases e
 ·cases h
theorem acp{x y:AV}{c:Bool}(h:tv .str x y=some c):∃ a b,x= .v (.string a)∧y= .v (.string b)∧c=decide (a=b):=by
 unfold tv at h
 split at h
 ·rename_i e;cases e
 ·rename_i a b _;simp only[Z5]at h;exact⟨a,b,rfl,rfl,h.symm⟩
 ·rename_i e;cases e
 ·cases h
theorem acn{x y:AV}{c:Bool}(h:tv .bool x y=some c):∃ a b,x= .v (.bool a)∧y= .v (.bool b)∧c=(a == b):=by
 unfold tv at h
 split at h
 ·rename_i e;cases e
 ·rename_i e;cases e
 ·rename_i a b _;simp only[Z5]at h;exact⟨a,b,rfl,rfl,h.symm⟩
 ·cases h
theorem ME(d:Nat):∀ (fs:List Field) (n:Nat) (ks:List uz) (xs ys:List AV) (us vs:Array Value) (b:Bool),pz P n fs=some ks→qq ks xs ys=some b→
  RL M xs (us.toList.drop n)→RL M ys (vs.toList.drop n)→(Op.eqFields (d+1) us vs fs).run P w= .ok b w
 |[],n,ks,xs,ys,us,vs,b,hk,he,hx,hy=>by
  simp only[pz,Z5]at hk
  subst hk
  cases xs<;>cases ys<;>simp[qq]at he
  subst he
  rfl
 |f::fs,n,ks,xs,ys,us,vs,b,hk,he,hx,hy=>by
  simp only[pz]at hk
  split at hk
  ·rename_i hc
   obtain⟨k,ks',rfl,aan,Lm⟩:∃ k ks',ks=k::ks'∧pz P (n+1) fs=some ks'∧((k= .int∧∃ q,P.underlying f.type=some (.int q))∨(k= .str∧P.underlying f.type=some .string)∨(k= .bool∧P.underlying f.type=some .bool)):=by
    split at hk
    ·rename_i q hu;obtain⟨ks',h1,rfl⟩:=ZR.1 hk;exact⟨_,ks',rfl,h1,.inl ⟨rfl,q,hu⟩⟩
    ·rename_i hu;obtain⟨ks',h1,rfl⟩:=ZR.1 hk;exact⟨_,ks',rfl,h1,.inr (.inl ⟨rfl,hu⟩)⟩
    ·rename_i hu;obtain⟨ks',h1,rfl⟩:=ZR.1 hk;exact⟨_,ks',rfl,h1,.inr (.inr ⟨rfl,hu⟩)⟩
    ·cases hk
   match xs,ys,he with
   |x::xs,y::ys,he=>
    obtain⟨u,us',vy,Fb,fa⟩:=hx.cN
    obtain⟨v,iu,nY,Fc,vA⟩:=hy.cN
    have Bl:us[n]? =some u:=by
     have:=congrArg (·[0]?) vy
     simpa using this
    have hv0:vs[n]? =some v:=by
     have:=congrArg (·[0]?) nY
     simpa using this
    have Bm:us.toList.drop (n+1)=us':=by
     rw[← YK,vy];rfl
    have yt:vs.toList.drop (n+1)=iu:=by
     rw[← YK,nY];rfl
    simp only[qq]at he
    split at he
    ·rename_i c EJ
     obtain⟨b',gr,rfl⟩:=ZR.1 he
     have ih:=ME d fs (n+1) ks' xs ys us vs b' aan gr (by rw[Bm];exact fa) (by rw[yt];exact vA)
     have LD:(part f.type us f.offset).run P w= .ok u w∧(part f.type vs f.offset).run P w= .ok v w:=by
      rcases Lm with⟨_,q,hu⟩|⟨_,hu⟩|⟨_,hu⟩<;>simp[part,isAgg,aY hu,hc.2,Bl,hv0]
     have heq:(Op.equalIn (d+1) f.type u v).run P w= .ok c w:=by
      rcases Lm with⟨rfl,q,hu⟩|⟨rfl,hu⟩|⟨rfl,hu⟩
      ·obtain⟨k,p,q',rfl,rfl,rfl⟩:=aco EJ
       rw[Fb.az,Fc.az,run_equalIn_int (w:=w) _ _ _ q _ _ hu]
       rfl
      ·obtain⟨p,q',rfl,rfl,rfl⟩:=acp EJ
       rw[Fb.az,Fc.az,run_equalIn_string (w:=w) _ _ _ _ hu,xq]
      ·obtain⟨p,q',rfl,rfl,rfl⟩:=acn EJ
       rw[Fb.az,Fc.az,run_equalIn_bool' (w:=w) _ _ _ _ hu]
     simp only[Op.eqFields,hc.1,ne_eq,not_false_eq_true,Y7,Sem.run_bind,LD.1,LD.2,Result.andThen_ok,heq,Sem.run_ite]
     cases c
     ·simp
     ·simp[ih]
    ·cases he
   |[],ys,he=>simp[qq]at he
   |x::xs,[],he=>simp[qq]at he
  ·cases hk
theorem axy{neg:Bool}{t:TypeId}{fs:Array Field}{ks:List uz}{x y:Operand}(ht:P.underlying t=some (.struct fs))(h1:P.stoodInHeld t=false)(h2:P.eqGuardType P.depth t=false)(hk:pz P 0 fs.toList=some ks)(hI:Inv P M w0 σ w)(hR:bE M rg a)
  (h:aj P cfg d rg σ K E (.eqs neg ks x y)):aE P M w0 K ((do eqGuard (if neg then .neq else .eql) t x y (a.eval x) (a.eval y);binOp (if neg then .neq else .eql) t (a.eval x) (a.eval y):Sem Value).run P w):=by
 simp only[aj]at h
 split at h
 ·rename_i xs ys fa vA
  obtain⟨us,hu,Fa⟩:=(hR.ev x).Dc fa
  obtain⟨vs,hv,hyr⟩:=(hR.ev y).Dc vA
  rw[hu,hv]
  split at h
  ·rename_i b hb
   have he:=ME (P:=P) (M:=M) (w:=w) 9998 fs.toList 0 ks xs ys us vs b hk hb (by simpa using Fa) (by simpa using hyr)
   have pk:P.underlying t=some (.struct (P.fieldsOf t)):=by simp[Program.fieldsOf,ht]
   have hf:P.fieldsOf t=fs:=by simp[Program.fieldsOf,ht]
   have EF:=run_equalIn_struct w 9999 t us vs pk h1
   rw[hf,he]at EF
   refine aE.same hI (.v _) h ?_
   rw[Sem.run_bind,run_eqGuard_agg w _ t x y us vs h2]
   cases neg
   ·simp only[Result.andThen_ok,ZS,Zt,run_eql_struct,EF,Bool.xor_false]
   ·simp only[Result.andThen_ok,Y7,run_neq_struct,EF,Bool.xor_true]
  ·exact h.elim
 ·exact h.elim
end
end Go.Sx
