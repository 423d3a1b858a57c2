/-
  The layer Sx, twentieth part: what is still to come as a list of frames (no term grows with the nesting of the code).
-/
import Derived.Test.YtbihckigennlhaaGreatDoorSxX2
set_option linter.unusedVariables false
set_option linter.unusedSimpArgs false
set_option linter.unusedSectionVars false
namespace Go.Sx
open Go.RowKit
inductive Fr where
 |seq (b:AC)
 |blk (id:Nat)
 |fn (K:Regs→Store→Prop)
def post(P:Program)[Glob P](N:Nat)(cfg:Nat→Nat)(Q:Exit→Regs→Store→Prop):List Fr→Exit→Regs→Store→Prop
 |[]=>Q
 | .seq b::k=>thenQ (fun rg σ=>WA P N cfg b (post P N cfg Q k) rg σ) (post P N cfg Q k)
 | .blk id::k=>blockQ id (post P N cfg Q k)
 | .fn K::k=>thenQ K (post P N cfg Q k)
structure WK(P:Program)[Glob P](N:Nat)(cfg:Nat→Nat)(Q:Exit→Regs→Store→Prop)(a:AC)(k:List Fr)(rg:Regs)(σ:Store):Prop where
 h:WA P N cfg a (post P N cfg Q k) rg σ
structure FK(P:Program)[Glob P](N:Nat)(cfg:Nat→Nat)(Q:Exit→Regs→Store→Prop)(e:Exit)(k:List Fr)(rg:Regs)(σ:Store):Prop where
 h:post P N cfg Q k e rg σ
def unw:List Fr→Nat→Option (List Fr)
 |[],_=>none
 | .blk id::k,i=>match Nat.beq i id with
  |true=>some k
  |false=>unw k i
 | .seq _::k,i=>unw k i
 | .fn _::k,i=>unw k i
section
variable {P:Program}[Glob P]{N:Nat}{cfg:Nat→Nat}{Q:Exit→Regs→Store→Prop}{rg rg':Regs}{σ σ':Store}{l:List CI}{a b:AC}{k k':List Fr}{xr:XR}{als:List Nat}{ld:List CD}{ks:List Nat}{id:Nat}
theorem WK_seq(h:WK P N cfg Q a (.seq b::k) rg σ):WK P N cfg Q (.seq a b) k rg σ:=⟨WA_seq h.h⟩
theorem WK_block(h:WK P N cfg Q a (.blk id::k) rg σ):WK P N cfg Q (.block id a) k rg σ:=⟨WA_block h.h⟩
theorem WK_keep(hk:filtO ks rg=some rg')(h:WK P N cfg Q a k rg' σ):WK P N cfg Q (.keep ks a) k rg σ:=⟨WA_keep hk h.h⟩
theorem WK_skip(h:FK P N cfg Q .normal k rg σ):WK P N cfg Q .skip k rg σ:=⟨WA_skip h.h⟩
theorem WK_ret(h:Q .ret rg σ):WK P N cfg Q .ret k rg σ:=by
 refine⟨WA_ret ?_⟩
 induction k with
 |nil=>exact h
 |cons f k ih=>cases f<;>exact ih
theorem WK_exit(hu:unw k id=some k')(h:FK P N cfg Q .normal k' rg σ):WK P N cfg Q (.exit id) k rg σ:=by
 refine⟨WA_exit ?_⟩
 induction k with
 |nil=>cases hu
 |cons f k ih=>
  cases f with
  |seq b=>exact ih hu
  |fn K=>exact ih hu
  |blk i=>
   simp only[unw]at hu
   split at hu
   ·rename_i e;cases hu;exact blockQ_t e h.h
   ·rename_i e;exact blockQ_f e (ih hu)
theorem WK_cond{x:Operand}{c:Bool}(hx:boolO rg x=some c)(h1:c=true→WK P N cfg Q a k rg σ)(h2:c=false→WK P N cfg Q b k rg σ):WK P N cfg Q (.cond x a b) k rg σ:=
 ⟨WA_cond hx (fun e=>(h1 e).h) (fun e=>(h2 e).h)⟩
theorem WK_reg(hx:toXO rg=some xr)(h:VX P cfg l (FK P N cfg Q .normal k) (fun ch σ'=>FK P N cfg Q (.panic ch) k [] σ') xr σ):WK P N cfg Q (.reg l) k rg σ:=
 ⟨(WA_regX (Q:=fun e=>FK P N cfg Q e k) hx h).mono fun _ _ _ h=>h.h⟩
theorem WK_mreg(hx:toXO rg=some xr)(h:VY P cfg als ld (Cl (FK P N cfg Q .normal k)) xr σ):WK P N cfg Q (.mreg als ld) k rg σ:=
 ⟨(WA_mregX (Q:=fun e=>FK P N cfg Q e k) hx h).mono fun _ _ _ h=>h.h⟩
theorem WK_dreg(hx:toXO rg=some xr)(h:VY P cfg [] (bare l) (Cl (FK P N cfg Q .normal k)) xr σ):WK P N cfg Q (.dreg l) k rg σ:=
 ⟨(WA_dregX (Q:=fun e=>FK P N cfg Q e k) hx h).mono fun _ _ _ h=>h.h⟩
theorem WK_loop{rg0:Regs}(I:Nat→Regs→Store→Prop)(n:Nat)(hk:filtO ks rg=some rg0)(h0:∃ rg' σ',WkRL rg0 rg'∧Sub σ' σ∧I n rg' σ')
  (h:∀ n rg σ,I n rg σ→WK P N cfg Q b (.fn (LoopW I n ks)::k) rg σ):WK P N cfg Q (.loop (.keep ks b)) k rg σ:=
 ⟨WA_loopw I n hk h0 fun n rg σ hi=>(h n rg σ hi).h⟩
theorem WK_wk(h:WK P N cfg Q a k rg' σ')(hr:WkRL rg rg')(hs:Sub σ' σ):WK P N cfg Q a k rg σ:=⟨WA_wk h.h hr hs⟩
theorem FK_seq(h:WK P N cfg Q b k rg σ):FK P N cfg Q .normal (.seq b::k) rg σ:=⟨h.h⟩
theorem FK_blk(h:FK P N cfg Q .normal k rg σ):FK P N cfg Q .normal (.blk id::k) rg σ:=⟨h.h⟩
theorem FK_fn{K:Regs→Store→Prop}(h:K rg σ):FK P N cfg Q .normal (.fn K::k) rg σ:=⟨h⟩
theorem FK_nil(h:Q .normal rg σ):FK P N cfg Q .normal [] rg σ:=⟨h⟩
def labA:AC→Nat→Option AC
 | .seq a b,l=>match labA a l with
  |some r=>some (.seq r b)
  |none=>labA b l
 | .keep _ a,l=>labA a l
 | .stop a,l=>labA a l
 | .label l',l=>if l' == l then some .skip else none
 |_,_=>none
theorem labA_erase{l:Nat}:∀ (a:AC),findS a.erase l=(labA a l).map AC.erase
 | .seq a b=>by
  have h1:=labA_erase (l:=l) a
  have h2:=labA_erase (l:=l) b
  simp only[AC.erase,findS,labA,h1,h2]
  cases labA a l<;>rfl
 | .keep _ a=>labA_erase (l:=l) a
 | .stop a=>labA_erase (l:=l) a
 | .label l'=>by simp only[AC.erase,findS,labA];split<;>rfl
 | .skip=>rfl
 | .reg _=>rfl
 | .dreg _=>rfl
 | .mreg _ _=>rfl
 | .cond _ _ _=>rfl
 | .block _ _=>rfl
 | .loop _=>rfl
 | .exit _=>rfl
 | .ret=>rfl
 | .scope _=>rfl
 | .goto _=>rfl
theorem WK_label{l:Nat}(h:FK P N cfg Q .normal k rg σ):WK P N cfg Q (.label l) k rg σ:=⟨⟨rfl,SW_label h.h⟩⟩
theorem WK_goto{l:Nat}(h:Q (.goto l) rg σ):WK P N cfg Q (.goto l) k rg σ:=by
 refine⟨⟨rfl,SW_goto ?_⟩⟩
 induction k with
 |nil=>exact h
 |cons f k ih=>cases f<;>exact ih
def JumpW(J:Nat→Nat→Regs→Store→Prop)(ks:Nat→List Nat)(n:Option Nat)(l:Nat)(rg:Regs)(σ:Store):Prop:=
 ∃ rg1,filtO (ks l) rg=some rg1∧∃ n',(∀ m,n=some m→n'<m)∧∃ rg' σ',WkRL rg1 rg'∧Sub σ' σ∧J l n' rg' σ'
theorem WK_scope(J:Nat→Nat→Regs→Store→Prop)(ks:Nat→List Nat)(h0:WK P N cfg (jumpQ (JumpW J ks none) (fun e=>FK P N cfg Q e k)) a [] rg σ)
  (h:∀ l n rg σ,J l n rg σ→∃ r,labA a l=some r∧WK P N cfg (jumpQ (JumpW J ks (some n)) (fun e=>FK P N cfg Q e k)) r [] rg σ):WK P N cfg Q (.scope a) k rg σ:=by
 refine⟨⟨rfl,SW_scope (fun l n rg σ=>∃ rg1,filtO (ks l) rg=some rg1∧∃ rg' σ',WkRL rg1 rg'∧Sub σ' σ∧J l n rg' σ') (h0.h.h.mono fun e rg2 σ2 he=> ?_) fun l n rg σ ⟨rg1,hk,rg',σ',hw,hs,hJ⟩=> ?_⟩⟩
 ·cases e with
  |goto l=>obtain⟨rg1,h1,n',_,rg3,σ3,h2,h3,h4⟩:=he;exact⟨n',rg1,h1,rg3,σ3,h2,h3,h4⟩
  |normal=>exact he.h
  |exit id=>exact he.h
  |ret=>exact he.h
  |panic ch=>exact he.h
  |outgrown=>exact he.h
 ·obtain⟨r,hr,hW⟩:=h l n rg' σ' hJ
  have hW2:SW P N r.erase (jumpQ (fun l' rg' σ'=>∃ n',n'<n∧∃ rg1,filtO (ks l') rg'=some rg1∧∃ rg2 σ2,WkRL rg1 rg2∧Sub σ2 σ'∧J l' n' rg2 σ2) (post P N cfg Q k)) rg' σ':=by
   refine hW.h.h.mono fun e rg2 σ2 he=> ?_
   cases e with
   |goto l'=>obtain⟨rg1,h1,n',hn,rg3,σ3,h2,h3,h4⟩:=he;exact⟨n',hn n rfl,rg1,h1,rg3,σ3,h2,h3,h4⟩
   |normal=>exact he.h
   |exit id=>exact he.h
   |ret=>exact he.h
   |panic ch=>exact he.h
   |outgrown=>exact he.h
  refine⟨r.erase,?_,SW.filt (ks l) ?_⟩
  ·show findS a.erase l=_
   rw[labA_erase,hr];rfl
  ·rw[filtO_eq hk];exact SW.wk hW2 hw hs
theorem FK_ret(h:Q .ret rg σ):FK P N cfg Q .ret k rg σ:=by
 refine⟨?_⟩
 induction k with
 |nil=>exact h
 |cons f k ih=>cases f<;>exact ih
theorem jumpQ_ret{J:Nat→Regs→Store→Prop}(h:Q .ret rg σ):jumpQ J (fun e=>FK P N cfg Q e k) .ret rg σ:=FK_ret h
theorem Pure.runk{P:Program}[Glob P][NoD P]{f:FuncId}{fn:Func}{fc:FC}{as:List AV}{r:AV}{a:AC}(cfg:Nat→Nat)(hf:P.funcs[f]? =some fn)(hc:compF P fn=some fc)(ha:fc.code=a.erase)(hlen:as.length≤fc.N)
  (h:∀ σ,WK P fc.N cfg (pureQ fc.res r σ) a [] (argR 0 as) σ):Pure P f as r:=Pure.run cfg hf hc ha hlen fun σ=>(h σ).h
theorem Spec.runk{P:Program}[Glob P][NoD P]{f:FuncId}{fn:Func}{fc:FC}{as:List AV}{σ:Store}{Q:Res→Store→Prop}{a:AC}(cfg:Nat→Nat)(hf:P.funcs[f]? =some fn)(hc:compF P fn=some fc)(ha:fc.code=a.erase)(hlen:as.length≤fc.N)
  (h:WK P fc.N cfg (retQ fc.res Q) a [] (argR 0 as) σ):Spec P f as σ Q:=Spec.run cfg hf hc ha hlen h.h
end
section
variable {P:Program}[Glob P]{N:Nat}{cfg:Nat→Nat}{K:Regs→Store→Prop}{E:List PanicEntry→Store→Prop}{σ:Store}{l:List CI}{d n:Nat}{v y:AV}{xr:XR}{ps:List Prop}{g:Option (Nat×Bool)}{og:Option Bool}{als cf:List Nat}{ix:Nat}{ld:List CD}
 {t b b' o:Nat} {cs cs' ys l':List AV} {x z:Operand}
theorem VX_st(h:argO xr none [x,z]=some (og,[.lp t b o,v],ps))(hc:cellO v=some l')(hl:lkt σ t=some (b',.cells cs))(hb:b=b')(hn:(Nat.beq l'.length n && l'.all AV.one)=true)(hu:over cs o l'=cs'∧o+n≤cs.length)(hps:OB ps)
  (k:VX P cfg l K E xr (upt σ t b (.cells cs'))):VX P cfg (⟨none,.store n x z,none⟩::l) K E xr σ:=by
 obtain⟨_,he⟩:=argO_eq h
 unfold argO gX at h
 obtain⟨ps',h',_,_⟩:=needs_eq h
 have hog:og=none:=by split at h'<;>cases h';rfl
 subst hog
 have:=he hps rfl
 simp only[evs,List.cons.injEq,and_true]at this
 simp only[Bool.and_eq_true]at hn
 constructor
 simp only[vcX,vcG,vcO,this.1,this.2,cellO_eq hc,hl]
 exact⟨hb,Nat.eq_of_beq_eq_true hn.1,hn.2,hu.2,by rw[hu.1];exact k.h⟩
theorem okd_den{op:IOp}(hcf:cf.all (sureX xr)=true)(h1:∀ t∈tmpsOf op.opers,lk (raw xr) t=lk (den xr) t):
  ldOK als cf (raw xr) op=ldOK als cf (den xr) op∧stOK als cf (raw xr) op=stOK als cf (den xr) op:=by
 have hc:∀ t∈cf,lk (raw xr) t=lk (den xr) t:=fun t ht=>by
  have:=List.all_eq_true.1 hcf t ht
  unfold sureX at this
  rw[lk_raw,lk_den]
  split at this
  ·rename_i e;rw[e];rfl
  ·cases this
 exact⟨ldOK_local h1 hc,stOK_local h1 hc⟩
theorem argO_raw{args:List Operand}{as:List AV}(h:argO xr g args=some (og,as,ps))(hp:OB ps)(hg:og.getD true=true):∀ t∈tmpsOf args,lk (raw xr) t=lk (den xr) t:=by
 unfold argO at h
 obtain⟨b,h,_,_⟩:=gX_eq h
 obtain⟨ps',h,_,h3⟩:=needs_eq h
 split at h
 ·cases h;exact h3 hp.all hg
 ·cases h
theorem VX_gl1{gv:Nat}(h:argO xr g [x]=some (og,[.v (.pointer (some ⟨gv,0,none⟩))],ps))(hl:Glob.av P gv=some cs)(hy:cs[0]? =some y)(hps:OB ps)(k:VX P cfg l K E (putX og d y xr) σ):
  VX P cfg (⟨some d,.load false n x,g⟩::l) K E xr σ:=by
 obtain⟨hc,he⟩:=argO_eq h
 refine VX_gen hc (fun hg=> ?_) (fun hg=> ?_)
 ·have:=he hps hg
  simp only[evs,List.cons.injEq,and_true]at this
  simp only[vcO,this,hl,hy,Bool.false_eq_true,if_false]
  have:=k.h
  rw[putX_t hg]at this
  exact this
 ·rw[← putX_f hg (v:=y)];exact k.h
theorem VX_gla{gv:Nat}(h:argO xr g [x]=some (og,[.v (.pointer (some ⟨gv,0,none⟩))],ps))(hl:Glob.av P gv=some cs)(hy:cs.take n=ys∧n≤cs.length)(hps:OB ps)(k:VX P cfg l K E (putX og d (.agg ys) xr) σ):
  VX P cfg (⟨some d,.load true n x,g⟩::l) K E xr σ:=by
 obtain⟨hc,he⟩:=argO_eq h
 refine VX_gen hc (fun hg=> ?_) (fun hg=> ?_)
 ·have:=he hps hg
  simp only[evs,List.cons.injEq,and_true]at this
  simp only[vcO,this,hl,if_true,hy.1]
  have:=k.h
  rw[putX_t hg]at this
  exact⟨hy.2,this⟩
 ·rw[← putX_f hg (v:= .agg ys)];exact k.h
theorem VY_gl1{gv:Nat}(h:argO xr g [x]=some (og,[.v (.pointer (some ⟨gv,0,none⟩))],ps))(hl:Glob.av P gv=some cs)(hy:cs[0]? =some y)(hok:okX als cf xr (.load false n x)=true)(hps:OB ps)(k:VY P cfg als ld K (putX og d y xr) σ):
  VY P cfg als (⟨ix,⟨some d,.load false n x,g⟩,cf⟩::ld) K xr σ:=by
 obtain⟨hc,he⟩:=argO_eq h
 unfold okX at hok
 rw[Bool.and_eq_true]at hok
 refine VY_gen hc (fun hg=> ?_) (fun hg=> ?_)
 ·have:=he hps hg
  simp only[evs,List.cons.injEq,and_true]at this
  simp only[vcOD,IOp.cls]
  refine⟨by rw[← (okd_den hok.1 (op:= .load false n x) (argO_raw h hps hg)).1];exact hok.2,?_⟩
  simp only[vcO,this,hl,hy,Bool.false_eq_true,if_false]
  have:=k.h
  rw[putX_t hg]at this
  exact this
 ·rw[← putX_f hg (v:=y)];exact k.h
theorem VY_gla{gv:Nat}(h:argO xr g [x]=some (og,[.v (.pointer (some ⟨gv,0,none⟩))],ps))(hl:Glob.av P gv=some cs)(hy:cs.take n=ys∧n≤cs.length)(hok:okX als cf xr (.load true n x)=true)(hps:OB ps)(k:VY P cfg als ld K (putX og d (.agg ys) xr) σ):
  VY P cfg als (⟨ix,⟨some d,.load true n x,g⟩,cf⟩::ld) K xr σ:=by
 obtain⟨hc,he⟩:=argO_eq h
 unfold okX at hok
 rw[Bool.and_eq_true]at hok
 refine VY_gen hc (fun hg=> ?_) (fun hg=> ?_)
 ·have:=he hps hg
  simp only[evs,List.cons.injEq,and_true]at this
  simp only[vcOD,IOp.cls]
  refine⟨by rw[← (okd_den hok.1 (op:= .load true n x) (argO_raw h hps hg)).1];exact hok.2,?_⟩
  simp only[vcO,this,hl,if_true,hy.1]
  have:=k.h
  rw[putX_t hg]at this
  exact⟨hy.2,this⟩
 ·rw[← putX_f hg (v:= .agg ys)];exact k.h
end
end Go.Sx
