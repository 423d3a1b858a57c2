/-
  The layer Sx, twentieth part: what is still to come as a list of frames (no term grows with the nesting of the code).
-/
import Derived.Test.YtbihckigennlhaaGreatDoorSxX2
import Derived.KernelRfl
set_option linter.unusedVariables false
set_option linter.unusedSimpArgs false
set_option linter.unusedSectionVars false
namespace Go.Sx
open Go.RowKit
inductive Fr where
 |seq (b:AC)
 |jT (id:Nat)
 |fn (K:ae→Store→Prop)
def post(P:Program)[Glob P](N:Nat)(cfg:Nat→Nat)(Q:Exit→ae→Store→Prop):List Fr→Exit→ae→Store→Prop
 |[]=>Q
 | .seq b::k=>l7 (fun rg σ=>WA P N cfg b (post P N cfg Q k) rg σ) (post P N cfg Q k)
 | .jT id::k=>oQ id (post P N cfg Q k)
 | .fn K::k=>l7 K (post P N cfg Q k)
structure WK(P:Program)[Glob P](N:Nat)(cfg:Nat→Nat)(Q:Exit→ae→Store→Prop)(a:AC)(k:List Fr)(rg:ae)(σ:Store):Prop where
 h:WA P N cfg a (post P N cfg Q k) rg σ
structure FK(P:Program)[Glob P](N:Nat)(cfg:Nat→Nat)(Q:Exit→ae→Store→Prop)(e:Exit)(k:List Fr)(rg:ae)(σ:Store):Prop where
 h:post P N cfg Q k e rg σ
def wK:List Fr→Nat→Option (List Fr)
 |[],_=>none
 | .jT id::k,i=>match Nat.beq i id with
  |true=>some k
  |false=>wK k i
 | .seq _::k,i=>wK k i
 | .fn _::k,i=>wK k i
section
variable {P:Program}[Glob P]{N:Nat}{cfg:Nat→Nat}{Q:Exit→ae→Store→Prop}{rg rg':ae}{σ σ':Store}{l:List CI}{a b:AC}{k k':List Fr}{xr:XR}{ah:List Nat}{ld:List CD}{ks:List Nat}{id:Nat}
theorem uF(h:WK P N cfg Q a (.seq b::k) rg σ):WK P N cfg Q (.seq a b) k rg σ:=⟨Ia h.h⟩
theorem R8(h:WK P N cfg Q a (.jT id::k) rg σ):WK P N cfg Q (.block id a) k rg σ:=⟨RX h.h⟩
theorem jQ(hk:gI ks rg=some rg')(h:WK P N cfg Q a k rg' σ):WK P N cfg Q (.keep ks a) k rg σ:=⟨H9 hk h.h⟩
theorem C9(h:FK P N cfg Q .normal k rg σ):WK P N cfg Q .skip k rg σ:=⟨R6 h.h⟩
theorem Sg(h:Q .ret rg σ):WK P N cfg Q .ret k rg σ:=by
 refine⟨R5 ?_⟩
 induction k with
 |nil=>exact h
 |cons f k ih=>cases f<;>exact ih
theorem Sd(hu:wK k id=some k')(h:FK P N cfg Q .normal k' rg σ):WK P N cfg Q (.exit id) k rg σ:=by
 refine⟨R0 ?_⟩
 induction k with
 |nil=>cases hu
 |cons f k ih=>
  cases f with
  |seq b=>exact ih hu
  |fn K=>exact ih hu
  |jT i=>
   simp only[wK]at hu
   split at hu
   ·rename_i e;cases hu;exact T0 e h.h
   ·rename_i e;exact TZ e (ih hu)
theorem R9{x:Operand}{c:Bool}(hx:xp rg x=some c)(h1:c=true→WK P N cfg Q a k rg σ)(h2:c=false→WK P N cfg Q b k rg σ):WK P N cfg Q (.cond x a b) k rg σ:=
 ⟨RY hx (fun e=>(h1 e).h) (fun e=>(h2 e).h)⟩
theorem Sf(hx:toXO rg=some xr)(h:VX P cfg l (FK P N cfg Q .normal k) (fun ch σ'=>FK P N cfg Q (.panic ch) k [] σ') xr σ):WK P N cfg Q (.cj l) k rg σ:=
 ⟨(R4 (Q:=fun e=>FK P N cfg Q e k) hx h).mono fun _ _ _ h=>h.h⟩
theorem Se(hx:toXO rg=some xr)(h:VY P cfg ah ld (Cl (FK P N cfg Q .normal k)) xr σ):WK P N cfg Q (.dr ah ld) k rg σ:=
 ⟨(R3 (Q:=fun e=>FK P N cfg Q e k) hx h).mono fun _ _ _ h=>h.h⟩
theorem Sa(hx:toXO rg=some xr)(h:VY P cfg [] (bare l) (Cl (FK P N cfg Q .normal k)) xr σ):WK P N cfg Q (.azZ l) k rg σ:=
 ⟨(RZ (Q:=fun e=>FK P N cfg Q e k) hx h).mono fun _ _ _ h=>h.h⟩
theorem cQ{fj:ae}(I:Nat→ae→Store→Prop)(n:Nat)(hk:gI ks rg=some fj)(h0:∃ rg' σ',eJ fj rg'∧Sub σ' σ∧I n rg' σ')
  (h:∀ n rg σ,I n rg σ→WK P N cfg Q b (.fn (rY I n ks)::k) rg σ):WK P N cfg Q (.loop (.keep ks b)) k rg σ:=
 ⟨R2 I n hk h0 fun n rg σ hi=>(h n rg σ hi).h⟩
theorem Sh(h:WK P N cfg Q a k rg' σ')(hr:eJ rg rg')(hs:Sub σ' σ):WK P N cfg Q a k rg σ:=⟨R7 h.h hr hs⟩
theorem wX(h:WK P N cfg Q b k rg σ):FK P N cfg Q .normal (.seq b::k) rg σ:=⟨h.h⟩
theorem Qf(h:FK P N cfg Q .normal k rg σ):FK P N cfg Q .normal (.jT id::k) rg σ:=⟨h.h⟩
theorem Qg{K:ae→Store→Prop}(h:K rg σ):FK P N cfg Q .normal (.fn K::k) rg σ:=⟨h⟩
theorem Qh(h:Q .normal rg σ):FK P N cfg Q .normal [] rg σ:=⟨h⟩
def oj:AC→Nat→Option AC
 | .seq a b,l=>match oj a l with
  |some r=>some (.seq r b)
  |none=>oj b l
 | .keep _ a,l=>oj a l
 | .stop a,l=>oj a l
 | .label l',l=>if l' == l then some .skip else none
 |_,_=>none
theorem yC{l:Nat}:∀ (a:AC),lC a.erase l=(oj a l).map AC.erase
 | .seq a b=>by
  have h1:=yC (l:=l) a
  have h2:=yC (l:=l) b
  simp only[AC.erase,lC,oj,h1,h2]
  cases oj a l<;>rfl
 | .keep _ a=>yC (l:=l) a
 | .stop a=>yC (l:=l) a
 | .label l'=>by simp only[AC.erase,lC,oj];split<;>rfl
 | .skip=>rfl
 | .cj _=>rfl
 | .azZ _=>rfl
 | .dr _ _=>rfl
 | .cond _ _ _=>rfl
 | .block _ _=>rfl
 | .loop _=>rfl
 | .exit _=>rfl
 | .ret=>rfl
 | .scope _=>rfl
 | .goto _=>rfl
theorem Ib{l:Nat}(h:FK P N cfg Q .normal k rg σ):WK P N cfg Q (.label l) k rg σ:=⟨⟨rfl,HX h.h⟩⟩
theorem qj{l:Nat}(h:Q (.goto l) rg σ):WK P N cfg Q (.goto l) k rg σ:=by
 refine⟨⟨rfl,HW ?_⟩⟩
 induction k with
 |nil=>exact h
 |cons f k ih=>cases f<;>exact ih
def uy(J:Nat→Nat→ae→Store→Prop)(ks:Nat→List Nat)(n:Option Nat)(l:Nat)(rg:ae)(σ:Store):Prop:=
 ∃ cC,gI (ks l) rg=some cC∧∃ n',(∀ m,n=some m→n'<m)∧∃ rg' σ',eJ cC rg'∧Sub σ' σ∧J l n' rg' σ'
theorem C8(J:Nat→Nat→ae→Store→Prop)(ks:Nat→List Nat)(h0:WK P N cfg (qT (uy J ks none) (fun e=>FK P N cfg Q e k)) a [] rg σ)
  (h:∀ l n rg σ,J l n rg σ→∃ r,oj a l=some r∧WK P N cfg (qT (uy J ks (some n)) (fun e=>FK P N cfg Q e k)) r [] rg σ):WK P N cfg Q (.scope a) k rg σ:=by
 refine⟨⟨rfl,QG (fun l n rg σ=>∃ cC,gI (ks l) rg=some cC∧∃ rg' σ',eJ cC rg'∧Sub σ' σ∧J l n rg' σ') (h0.h.h.mono fun e bP σ2 he=> ?_) fun l n rg σ ⟨cC,hk,rg',σ',hw,hs,hJ⟩=> ?_⟩⟩
 ·cases e with
  |goto l=>obtain⟨cC,h1,n',_,dT,dv,h2,h3,h4⟩:=he;exact⟨n',cC,h1,dT,dv,h2,h3,h4⟩
  |normal=>exact he.h
  |exit id=>exact he.h
  |ret=>exact he.h
  |panic ch=>exact he.h
  |outgrown=>exact he.h
 ·obtain⟨r,hr,hW⟩:=h l n rg' σ' hJ
  have Xp:SW P N r.erase (qT (fun l' rg' σ'=>∃ n',n'<n∧∃ cC,gI (ks l') rg'=some cC∧∃ bP σ2,eJ cC bP∧Sub σ2 σ'∧J l' n' bP σ2) (post P N cfg Q k)) rg' σ':=by
   refine hW.h.h.mono fun e bP σ2 he=> ?_
   cases e with
   |goto l'=>obtain⟨cC,h1,n',hn,dT,dv,h2,h3,h4⟩:=he;exact⟨n',hn n rfl,cC,h1,dT,dv,h2,h3,h4⟩
   |normal=>exact he.h
   |exit id=>exact he.h
   |ret=>exact he.h
   |panic ch=>exact he.h
   |outgrown=>exact he.h
  refine⟨r.erase,?_,SW.eY (ks l) ?_⟩
  ·show lC a.erase l=_
   rw[yC,hr];rfl
  ·rw[DQ hk];exact SW.wk Xp hw hs
theorem Qi(h:Q .ret rg σ):FK P N cfg Q .ret k rg σ:=by
 refine⟨?_⟩
 induction k with
 |nil=>exact h
 |cons f k ih=>cases f<;>exact ih
theorem tn{J:Nat→ae→Store→Prop}(h:Q .ret rg σ):qT J (fun e=>FK P N cfg Q e k) .ret rg σ:=Qi h
theorem Pure.cY{P:Program}[Glob P][jO P]{f:FuncId}{fn:Func}{fc:FC}{as:List AV}{r:AV}{a:AC}(cfg:Nat→Nat)(hf:P.funcs[f]? =some fn)(hc:cm P fn=some fc)(ha:fc.code=a.erase)(hlen:as.length≤fc.N)
  (h:∀ σ,WK P fc.N cfg (lW fc.res r σ) a [] (jw 0 as) σ):Pure P f as r:=Pure.run cfg hf hc ha hlen fun σ=>(h σ).h
theorem Spec.cY{P:Program}[Glob P][jO P]{f:FuncId}{fn:Func}{fc:FC}{as:List AV}{σ:Store}{Q:dj→Store→Prop}{a:AC}(cfg:Nat→Nat)(hf:P.funcs[f]? =some fn)(hc:cm P fn=some fc)(ha:fc.code=a.erase)(hlen:as.length≤fc.N)
  (h:WK P fc.N cfg (kQ fc.res Q) a [] (jw 0 as) σ):Spec P f as σ Q:=Spec.run cfg hf hc ha hlen h.h
theorem pK{p:Prop}(h:p:=by constructor<;>first|kernel_rfl|(intro;kernel_rfl)|(constructor<;>first|kernel_rfl|(intro;kernel_rfl)|(constructor<;>first|kernel_rfl|(intro;kernel_rfl)))):p:=h
structure aB(P:Program)[Glob P](f:FuncId)(N:Nat)(a:AC)(res:List RC):Prop where
 ex:∃ fn,P.funcs[f]? =some fn∧cm P fn=some ⟨N,a.erase,res⟩
theorem aB.i{P:Program}[Glob P]{f:FuncId}{fn:Func}{N:Nat}{a:AC}{res:List RC}(hf:P.funcs[f]? =some fn)(hc:cm P fn=some ⟨N,a.erase,res⟩:=by kernel_rfl):aB P f N a res:=⟨fn,hf,hc⟩
section
variable {P:Program}[Glob P][jO P]{f:FuncId}{N:Nat}{res:List RC}{as:List AV}{r:AV}{σ:Store}{Q:dj→Store→Prop}{a:AC}
theorem aB.pc(k:aB P f N a res)(cfg:Nat→Nat)(h:∀ σ,WK P N cfg (lW res r σ) a [] (jw 0 as) σ)(hl:Nat.ble as.length N=true:=by exact rfl):Pure P f as r:=by
 obtain⟨fn,h1,h2⟩:=k.ex
 exact Pure.cY (fc:=⟨N,a.erase,res⟩) (a:=a) cfg h1 h2 rfl (Z8 hl) h
theorem aB.p(k:aB P f N a res)(h:∀ σ,WK P N (fun _=>0) (lW res r σ) a [] (jw 0 as) σ)(hl:Nat.ble as.length N=true:=by exact rfl):Pure P f as r:=k.pc _ h hl
theorem aB.sc(k:aB P f N a res)(cfg:Nat→Nat)(h:WK P N cfg (kQ res Q) a [] (jw 0 as) σ)(hl:Nat.ble as.length N=true:=by exact rfl):Spec P f as σ Q:=by
 obtain⟨fn,h1,h2⟩:=k.ex
 exact Spec.cY (fc:=⟨N,a.erase,res⟩) (a:=a) cfg h1 h2 rfl (Z8 hl) h
theorem aB.s(k:aB P f N a res)(h:WK P N (fun _=>0) (kQ res Q) a [] (jw 0 as) σ)(hl:Nat.ble as.length N=true:=by exact rfl):Spec P f as σ Q:=k.sc _ h hl
end
end
section
variable {P:Program}[Glob P]{N:Nat}{cfg:Nat→Nat}{K:ae→Store→Prop}{E:List PanicEntry→Store→Prop}{σ:Store}{l:List CI}{d n:Nat}{v y:AV}{xr:XR}{ps:List Prop}{g:Option (Nat×Bool)}{og:Option Bool}{ah cf:List Nat}{ix:Nat}{ld:List CD}
 {t b b' o:Nat} {cs cs' ys l':List AV} {x z:Operand}
theorem nA(h:aA xr none [x,z]=some (og,[.lp t b o,v],ps))(hc:sj v=some l')(hl:aN σ t=some (b',.cells cs))(hb:b=b')(hn:(Nat.beq l'.length n && l'.all AV.one)=true)(hu:over cs o l'=cs'∧o+n≤cs.length)(al:OB ps)
  (k:VX P cfg l K E xr (ct σ t b (.cells cs'))):VX P cfg (⟨none,.store n x z,none⟩::l) K E xr σ:=by
 obtain⟨_,he⟩:=bZ h
 unfold aA gX at h
 obtain⟨bg,h',_,_⟩:=fD h
 have cI:og=none:=by split at h'<;>cases h';rfl
 subst cI
 have:=he al rfl
 simp only[aU,ZW,and_true]at this
 simp only[Z0]at hn
 constructor
 simp only[dW,di,aj,this.1,this.2,Du hc,hl]
 exact⟨hb,ZL hn.1,hn.2,hu.2,by rw[hu.1];exact k.h⟩
theorem FL{op:aw}(hcf:cf.all (Ce xr)=true)(h1:∀ t∈tmpsOf op.opers,lk (raw xr) t=lk (den xr) t):
  lN ah cf (raw xr) op=lN ah cf (den xr) op∧rD ah cf (raw xr) op=rD ah cf (den xr) op:=by
 have hc:∀ t∈cf,lk (raw xr) t=lk (den xr) t:=fun t ht=>by
  have:=ZF.1 hcf t ht
  unfold Ce at this
  rw[vM,mN]
  split at this
  ·rename_i e;rw[e];rfl
  ·cases this
 exact⟨MD h1 hc,OY h1 hc⟩
theorem Dk{args:List Operand}{as:List AV}(h:aA xr g args=some (og,as,ps))(hp:OB ps)(hg:og.getD true=true):∀ t∈tmpsOf args,lk (raw xr) t=lk (den xr) t:=by
 unfold aA at h
 obtain⟨b,h,_,_⟩:=DW h
 obtain⟨bg,h,_,h3⟩:=fD h
 split at h
 ·cases h;exact h3 hp.all hg
 ·cases h
theorem aJm(h:aA xr g [x]=some (og,[.lp t b o],ps))(hl:aN σ t=some (b',.cells cs))(hb:b=b')(hy:(cs.drop o).take n=ys∧o+n≤cs.length)(hok:kL ah cf xr (.load true n x)=true)(al:OB ps)(k:VY P cfg ah ld K (bF og d (.agg ys) xr) σ):
  VY P cfg ah (⟨ix,⟨some d,.load true n x,g⟩,cf⟩::ld) K xr σ:=by
 obtain⟨hc,he⟩:=bZ h
 unfold kL at hok
 rw[Z0]at hok
 refine nB hc (fun hg=> ?_) (fun hg=> ?_)
 ·have:=he al hg
  simp only[aU,ZW,and_true]at this
  simp only[cO,aw.cls]
  refine⟨by rw[← (FL hok.1 (op:= .load true n x) (Dk h al hg)).1];exact hok.2,?_⟩
  simp only[aj,this,hl,hb,Y7,hy.1]
  have:=k.h
  rw[eP hg]at this
  exact⟨trivial,hy.2,this⟩
 ·rw[← eO hg (v:= .agg ys)];exact k.h
theorem aJy(h:aA xr none [x,z]=some (og,[.lp t b o,v],ps))(hc:sj v=some l')(hl:aN σ t=some (b',.cells cs))(hb:b=b')(hn:(Nat.beq l'.length n && l'.all AV.one)=true)(hu:over cs o l'=cs'∧o+n≤cs.length)
  (hok:kL ah cf xr (.store n x z)=true) (al:OB ps) (k:VY P cfg ah ld K xr (ct σ t b (.cells cs'))):VY P cfg ah (⟨ix,⟨none,.store n x z,none⟩,cf⟩::ld) K xr σ:=by
 have h0:=h
 obtain⟨_,he⟩:=bZ h
 unfold aA gX at h
 obtain⟨bg,h',_,_⟩:=fD h
 have cI:og=none:=by split at h'<;>cases h';rfl
 subst cI
 have:=he al rfl
 simp only[aU,ZW,and_true]at this
 simp only[Z0]at hn
 unfold kL at hok
 rw[Z0]at hok
 constructor
 simp only[cD,hU,cO,aw.cls]
 refine⟨by rw[← (FL hok.1 (op:= .store n x z) (Dk h0 al rfl)).2];exact hok.2,?_⟩
 simp only[aj,this.1,this.2,Du hc,hl]
 exact⟨hb,ZL hn.1,hn.2,hu.2,by rw[hu.1];exact k.h⟩
theorem Q9{gv:Nat}(h:aA xr g [x]=some (og,[.v (.pointer (some ⟨gv,0,none⟩))],ps))(hl:Glob.av P gv=some cs)(hy:cs[0]? =some y)(al:OB ps)(k:VX P cfg l K E (bF og d y xr) σ):
  VX P cfg (⟨some d,.load false n x,g⟩::l) K E xr σ:=by
 obtain⟨hc,he⟩:=bZ h
 refine gU hc (fun hg=> ?_) (fun hg=> ?_)
 ·have:=he al hg
  simp only[aU,ZW,and_true]at this
  simp only[aj,this,hl,hy,ZS,Zt]
  have:=k.h
  rw[eP hg]at this
  exact this
 ·rw[← eO hg (v:=y)];exact k.h
theorem Ra{gv:Nat}(h:aA xr g [x]=some (og,[.v (.pointer (some ⟨gv,0,none⟩))],ps))(hl:Glob.av P gv=some cs)(hy:cs.take n=ys∧n≤cs.length)(al:OB ps)(k:VX P cfg l K E (bF og d (.agg ys) xr) σ):
  VX P cfg (⟨some d,.load true n x,g⟩::l) K E xr σ:=by
 obtain⟨hc,he⟩:=bZ h
 refine gU hc (fun hg=> ?_) (fun hg=> ?_)
 ·have:=he al hg
  simp only[aU,ZW,and_true]at this
  simp only[aj,this,hl,Y7,hy.1]
  have:=k.h
  rw[eP hg]at this
  exact⟨hy.2,this⟩
 ·rw[← eO hg (v:= .agg ys)];exact k.h
theorem RJ{gv:Nat}(h:aA xr g [x]=some (og,[.v (.pointer (some ⟨gv,0,none⟩))],ps))(hl:Glob.av P gv=some cs)(hy:cs[0]? =some y)(hok:kL ah cf xr (.load false n x)=true)(al:OB ps)(k:VY P cfg ah ld K (bF og d y xr) σ):
  VY P cfg ah (⟨ix,⟨some d,.load false n x,g⟩,cf⟩::ld) K xr σ:=by
 obtain⟨hc,he⟩:=bZ h
 unfold kL at hok
 rw[Z0]at hok
 refine nB hc (fun hg=> ?_) (fun hg=> ?_)
 ·have:=he al hg
  simp only[aU,ZW,and_true]at this
  simp only[cO,aw.cls]
  refine⟨by rw[← (FL hok.1 (op:= .load false n x) (Dk h al hg)).1];exact hok.2,?_⟩
  simp only[aj,this,hl,hy,ZS,Zt]
  have:=k.h
  rw[eP hg]at this
  exact this
 ·rw[← eO hg (v:=y)];exact k.h
theorem RM{gv:Nat}(h:aA xr g [x]=some (og,[.v (.pointer (some ⟨gv,0,none⟩))],ps))(hl:Glob.av P gv=some cs)(hy:cs.take n=ys∧n≤cs.length)(hok:kL ah cf xr (.load true n x)=true)(al:OB ps)(k:VY P cfg ah ld K (bF og d (.agg ys) xr) σ):
  VY P cfg ah (⟨ix,⟨some d,.load true n x,g⟩,cf⟩::ld) K xr σ:=by
 obtain⟨hc,he⟩:=bZ h
 unfold kL at hok
 rw[Z0]at hok
 refine nB hc (fun hg=> ?_) (fun hg=> ?_)
 ·have:=he al hg
  simp only[aU,ZW,and_true]at this
  simp only[cO,aw.cls]
  refine⟨by rw[← (FL hok.1 (op:= .load true n x) (Dk h al hg)).1];exact hok.2,?_⟩
  simp only[aj,this,hl,Y7,hy.1]
  have:=k.h
  rw[eP hg]at this
  exact⟨hy.2,this⟩
 ·rw[← eO hg (v:= .agg ys)];exact k.h
end
end Go.Sx
