/-
  The layer Sx, sixteenth part: rules by which code is run, one step a rule.
-/
import Derived.Test.YtekngilbecjkhaaGreatDoorSxMix
set_option linter.unusedVariables false
set_option linter.unusedSimpArgs false
set_option linter.unusedSectionVars false
namespace Go.Sx
open Go.RowKit
structure WA(P:Program)[Glob P](N:Nat)(cfg:Nat→Nat)(a:AC)(Q:Exit→Regs→Store→Prop)(rg:Regs)(σ:Store):Prop where
 c:cfg=cfg
 h:SW P N a.erase Q rg σ
def filtO:List Nat→Regs→Option Regs
 |[],_=>some []
 |k::ks,rg=>fo (lk rg k) fun x=>match filtO ks rg with
  |some l=>some ((k,x)::l)
  |none=>none
theorem filtO_eq:∀ {ks:List Nat} {rg l:Regs},filtO ks rg=some l→filt ks rg=l
 |[],_,_,h=>by cases h;rfl
 |k::ks,rg,l,h=>by
  have h:=fo_eq h
  split at h
  ·rename_i l' h';cases h;simp only[filt,filtO_eq h']
  ·cases h
def evsO(rg:Regs):List Operand→Option (List AV)
 |[]=>some []
 |x::l=>fo (ev rg x) fun v=>match evsO rg l with
  |some vs=>some (v::vs)
  |none=>none
theorem evsO_eq{rg:Regs}:∀ {l:List Operand} {vs:List AV},evsO rg l=some vs→evs rg l=vs
 |[],_,h=>by cases h;rfl
 |x::l,vs,h=>by
  have h:=fo_eq h
  split at h
  ·rename_i l' h';cases h;simp only[evs,evsO_eq h']
  ·cases h
def boolO(rg:Regs)(x:Operand):Option Bool:=match ev rg x with
 | .v (.bool b)=>some b
 |_=>none
theorem boolO_eq{rg:Regs}{x:Operand}{b:Bool}(h:boolO rg x=some b):ev rg x= .v (.bool b):=by
 unfold boolO at h
 split at h
 ·rename_i e;cases h;exact e
 ·cases h
section
variable {P:Program}[Glob P]{N:Nat}{cfg:Nat→Nat}{Q:Exit→Regs→Store→Prop}{K:Regs→Store→Prop}{E:List PanicEntry→Store→Prop}{rg rg':Regs}{σ σ':Store}{l:List CI}{d:Option Nat}{op:IOp}{p:Prop}{v:AV}
theorem WA_seq{a b:AC}(h:WA P N cfg a (thenQ (fun rg σ=>WA P N cfg b Q rg σ) Q) rg σ):WA P N cfg (.seq a b) Q rg σ:=
 ⟨rfl,SW_seq (h.h.mono fun e rg' σ' he=>by
  cases e with
  |normal=>exact he.h
  |_=>exact he)⟩
theorem WA_skip(h:Q .normal rg σ):WA P N cfg .skip Q rg σ:=⟨rfl,SW_skip h⟩
theorem WA_ret(h:Q .ret rg σ):WA P N cfg .ret Q rg σ:=⟨rfl,SW_ret h⟩
theorem WA_exit{id:Nat}(h:Q (.exit id) rg σ):WA P N cfg (.exit id) Q rg σ:=⟨rfl,SW_exit h⟩
theorem WA_cond{x:Operand}{a b:AC}{c:Bool}(hx:boolO rg x=some c)(h1:c=true→WA P N cfg a Q rg σ)(h2:c=false→WA P N cfg b Q rg σ):WA P N cfg (.cond x a b) Q rg σ:=⟨rfl,SW_cond (boolO_eq hx) (fun e=>(h1 e).h) (fun e=>(h2 e).h)⟩
theorem WA_block{id:Nat}{a:AC}(h:WA P N cfg a (blockQ id Q) rg σ):WA P N cfg (.block id a) Q rg σ:=⟨rfl,SW_block h.h⟩
theorem WA_keep{ks:List Nat}{a:AC}(hk:filtO ks rg=some rg')(h:WA P N cfg a Q rg' σ):WA P N cfg (.keep ks a) Q rg σ:=⟨rfl,SW.filt ks (by rw[filtO_eq hk];exact h.h)⟩
theorem WA_loop{a:AC}(I:Nat→Regs→Store→Prop)(n:Nat)(h0:I n rg σ)(h:∀ n rg σ,I n rg σ→WA P N cfg a (thenQ (fun rg' σ'=>∃ n',n'<n∧I n' rg' σ') Q) rg σ):WA P N cfg (.loop a) Q rg σ:=
 ⟨rfl,SW_loop I n h0 fun n rg σ hi=>(h n rg σ hi).h⟩
theorem WA.mono{a:AC}{Q':Exit→Regs→Store→Prop}(h:WA P N cfg a Q rg σ)(hq:∀ e rg σ,Q e rg σ→Q' e rg σ):WA P N cfg a Q' rg σ:=⟨rfl,h.h.mono hq⟩
theorem blockQ_t{id id':Nat}(e:Nat.beq id' id=true)(h:Q .normal rg σ):blockQ id Q (.exit id') rg σ:=by simp only[blockQ];rw[if_pos (Nat.eq_of_beq_eq_true e)];exact h
theorem blockQ_f{id id':Nat}(e:Nat.beq id' id=false)(h:Q (.exit id') rg σ):blockQ id Q (.exit id') rg σ:=by
 simp only[blockQ];rw[if_neg (fun k=>by subst k;simp[Nat.beq_refl]at e)];exact h
def Fin(σ0:Store)(r:AV)(x:AV)(σ:Store):Prop:=Wk x r∧Sub σ0 σ
theorem Fin.intro{σ0:Store}{r x:AV}(h:Sub σ0 σ)(e:x=r):Fin σ0 r x σ:=⟨Wk.ofeq e,h⟩
def cellO(x:AV):Option (List AV):=match x.cells? with
 |some l=>foL l some
 |none=>none
theorem cellO_eq{x:AV}{l:List AV}(h:cellO x=some l):x.cells? =some l:=by
 unfold cellO at h
 split at h
 ·rename_i e;have h:=foL_eq h;cases h;exact e
 ·cases h
variable {als cf:List Nat}{ix:Nat}{ld:List CD}
def okD(als cf:List Nat)(rg:Regs):IOp→Bool
 | .load a n x=>ldOK als cf rg (.load a n x)
 | .store n x y=>stOK als cf rg (.store n x y)
 | .box .. | .alloc .. | .append .. | .exts .. =>false
 |_=>true
theorem detO_keep{cfg:Nat→Nat}(hc:op.cls=0)(h:detO cfg d rg σ op=some (p,v,σ')):σ'=σ:=by
 cases op
 case load=>cases hc
 case store=>cases hc
 case alloc=>cases hc
 case box=>cases hc
 case append=>cases hc
 case exts=>cases hc
 case len s x=>cases s<;>(simp only[detO]at h;repeat' split at h)<;>cases h<;>rfl
 all_goals simp only[detO,reduceCtorEq]at h
 all_goals(repeat' split at h)
 all_goals first
  |(cases h;done)
  |(cases h;rfl)
  |(have:=fo_eq h;cases this;rfl)
  |(have:=foL_eq h;cases this;rfl)
  |(have:=foLL_eq h;cases this;rfl)
  |(have h2:=(ite_none h).2;(repeat' split at h2)<;>first|(cases h2;done)|(cases h2;rfl)|(have:=fo_eq h2;cases this;rfl)|(have:=foL_eq h2;cases this;rfl))
theorem detO_Q{K:AV→Prop}(hc:op.cls=0)(h:detO cfg d rg σ op=some (p,v,σ'))(hp:p)(k:K v):vcOQ P cfg d rg σ K op:=by
 have hs:=detO_sound (P:=P) (K:=fun x _=>K x) (E:=fun _ _=>False) h hp k
 cases op with
 |mksl t esz parts=>
  simp only[vcOQ]
  simp only[detO]at h
  split at h
  ·rename_i rows e
   rw[e]
   split at h
   ·rename_i e2;have:=foLL_eq h;cases this;exact⟨hp,by simp only[e2];exact k⟩
   ·rename_i e2;have:=foLL_eq h;cases this;exact⟨hp,by simp only[e2];exact k⟩
   ·cases h
  ·cases h
 |len s x=>
  cases s with
  |true=>exact hs
  |false=>
   simp only[vcOQ]
   simp only[detO]at h
   split at h
   ·rename_i e;rw[e];cases h;exact k
   ·rename_i e;rw[e];cases h;exact k
   ·rename_i e;rw[e];cases h;exact k
   ·rename_i e;rw[e];cases h;exact k
   ·cases h
 |call f args=>cases h
 |callv f args=>cases h
 |extq op ty ti args=>cases h
 |exts op ty ti args=>cases hc
 |box t x=>cases hc
 |alloc t x=>cases hc
 |store n t x=>cases hc
 |append t n k z x y=>cases hc
 |load a n x=>cases hc
 |_=>exact hs
end
section
variable {P:Program}[Glob P]{cfg:Nat→Nat}{K:Regs→Store→Prop}{E:List PanicEntry→Store→Prop}{rg:Regs}{σ:Store}{l:List CI}{d:Option Nat}{op:IOp}{als cf:List Nat}{ix:Nat}{ld:List CD}
end
theorem Pure.run{P:Program}[Glob P]{f:FuncId}{fn:Func}{fc:FC}{as:List AV}{r:AV}{a:AC}(cfg:Nat→Nat)(hf:P.funcs[f]? =some fn)(hc:compF P fn=some fc)(ha:fc.code=a.erase)(hlen:as.length≤fc.N)
  (h:∀ σ,WA P fc.N cfg a (pureQ fc.res r σ) (argR 0 as) σ):Pure P f as r:=
 Pure.intro hf hc hlen fun σ=>by rw[ha];exact(h σ).h
theorem Spec.run{P:Program}[Glob P]{f:FuncId}{fn:Func}{fc:FC}{as:List AV}{σ:Store}{Q:Res→Store→Prop}{a:AC}(cfg:Nat→Nat)(hf:P.funcs[f]? =some fn)(hc:compF P fn=some fc)(ha:fc.code=a.erase)(hlen:as.length≤fc.N)
  (h:WA P fc.N cfg a (retQ fc.res Q) (argR 0 as) σ):Spec P f as σ Q:=
 Spec.intro hf hc hlen (by rw[ha];exact h.h)
def LoopE(I:Nat→Regs→Store→Prop)(n:Nat)(ks:List Nat)(rg:Regs)(σ:Store):Prop:=∃ n' rg',n'<n∧filtO ks rg=some rg'∧I n' rg' σ
section
variable {P:Program}[Glob P]{N:Nat}{cfg:Nat→Nat}{Q:Exit→Regs→Store→Prop}{K:Regs→Store→Prop}{E:List PanicEntry→Store→Prop}{rg rg':Regs}{σ σ':Store}{l:List CI}{d:Nat}{op:IOp}{p:Prop}{v:AV}
variable {als cf:List Nat}{ix:Nat}{ld:List CD}
theorem LoopE.intro{I:Nat→Regs→Store→Prop}{n:Nat}{ks:List Nat}(hk:filtO ks rg=some rg')(h:∃ n',n'<n∧I n' rg' σ):LoopE I n ks rg σ:=h.elim fun n' h=>⟨n',rg',h.1,hk,h.2⟩
def fnO(x:AV):Option (FuncId×Array Value×Array Value):=match x with
 | .v (.func (.func f) a c)=>some (f,a,c)
 |_=>none
theorem fnO_eq{x:AV}{f:FuncId}{a c:Array Value}(h:fnO x=some (f,a,c)):x= .v (.func (.func f) a c):=by
 unfold fnO at h
 split at h
 ·cases h;rfl
 ·cases h
def rowsO(x:AV):Option (Nat×List (List AV)):=match x with
 | .sl _ e rows=>some (e,rows)
 | .own e _ _ _ _ rows=>some (e,rows)
 |_=>none
theorem rowsO_eq{x:AV}{e:Nat}{rows:List (List AV)}(h:rowsO x=some (e,rows)):(∃ nn,x= .sl nn e rows)∨∃ t b u c,x= .own e t b u c rows:=by
 unfold rowsO at h
 split at h
 ·cases h;exact .inl ⟨_,rfl⟩
 ·cases h;exact .inr ⟨_,_,_,_,rfl⟩
 ·cases h
def intO(x:AV):Option Int:=match x with
 | .v (.int _ n)=>some n
 |_=>none
theorem intO_eq{x:AV}{n:Int}(h:intO x=some n):∃ q,x= .v (.int q n):=by
 unfold intO at h
 split at h
 ·cases h;exact⟨_,rfl⟩
 ·cases h
end
theorem Fin.wk{σ0 σ:Store}{r x:AV}(h:Sub σ0 σ)(w:Wk x r):Fin σ0 r x σ:=⟨w,h⟩
theorem bt{p:Prop}[Decidable p](h:p):AV.v (.bool true)=AV.v (.bool (decide p)):=by rw[decide_eq_true h]
theorem bf{p:Prop}[Decidable p](h:¬p):AV.v (.bool false)=AV.v (.bool (decide p)):=by rw[decide_eq_false h]
end Go.Sx
