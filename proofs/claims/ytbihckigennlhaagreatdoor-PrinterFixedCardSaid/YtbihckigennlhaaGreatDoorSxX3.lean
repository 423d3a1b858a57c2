/-
  The layer Sx, twentieth part: what is still to come as a list of frames (no term grows with the nesting of the code).
-/
import Derived.Test.YtbihckigennlhaaGreatDoorSxX2
import Derived.KernelRfl
set_option linter.unusedVariables false
set_option linter.unusedSimpArgs false
set_option linter.unusedSectionVars false
namespace Go.Sx
open Go.RowKit
inductive Fr where
 |seq (b:AC)
 |jl (id:Nat)
 |fn (K:ae→Store→Prop)
def post(P:Program)[Glob P](N:Nat)(cfg:Nat→Nat)(Q:Exit→ae→Store→Prop):List Fr→Exit→ae→Store→Prop
 |[]=>Q
 | .seq b::k=>kQ (fun rg σ=>WA P N cfg b (post P N cfg Q k) rg σ) (post P N cfg Q k)
 | .jl id::k=>nQ id (post P N cfg Q k)
 | .fn K::k=>kQ K (post P N cfg Q k)
structure WK(P:Program)[Glob P](N:Nat)(cfg:Nat→Nat)(Q:Exit→ae→Store→Prop)(a:AC)(k:List Fr)(rg:ae)(σ:Store):Prop where
 h:WA P N cfg a (post P N cfg Q k) rg σ
structure FK(P:Program)[Glob P](N:Nat)(cfg:Nat→Nat)(Q:Exit→ae→Store→Prop)(e:Exit)(k:List Fr)(rg:ae)(σ:Store):Prop where
 h:post P N cfg Q k e rg σ
def vn:List Fr→Nat→Option (List Fr)
 |[],_=>none
 | .jl id::k,i=>match Nat.beq i id with
  |true=>some k
  |false=>vn k i
 | .seq _::k,i=>vn k i
 | .fn _::k,i=>vn k i
section
variable {P:Program}[Glob P]{N:Nat}{cfg:Nat→Nat}{Q:Exit→ae→Store→Prop}{rg ao:ae}{σ σ':Store}{l:List CI}{a b:AC}{k k':List Fr}{xr:XR}{ah:List Nat}{ld:List CD}{ks:List Nat}{id:Nat}
theorem s9(h:WK P N cfg Q a (.seq b::k) rg σ):WK P N cfg Q (.seq a b) k rg σ:=⟨Gf h.h⟩
theorem PS(h:WK P N cfg Q a (.jl id::k) rg σ):WK P N cfg Q (.block id a) k rg σ:=⟨PD h.h⟩
theorem ji(hk:gj ks rg=some ao)(h:WK P N cfg Q a k ao σ):WK P N cfg Q (.keep ks a) k rg σ:=⟨Ge hk h.h⟩
theorem BH(h:FK P N cfg Q .normal k rg σ):WK P N cfg Q .skip k rg σ:=⟨PO h.h⟩
theorem P0(h:Q .ret rg σ):WK P N cfg Q .ret k rg σ:=by
 refine⟨PN ?_⟩
 induction k with
 |nil=>exact h
 |cons f k ih=>cases f<;>exact ih
theorem PX(hu:vn k id=some k')(h:FK P N cfg Q .normal k' rg σ):WK P N cfg Q (.exit id) k rg σ:=by
 refine⟨PH ?_⟩
 induction k with
 |nil=>cases hu
 |cons f k ih=>
  cases f with
  |seq b=>exact ih hu
  |fn K=>exact ih hu
  |jl i=>
   simp only[vn]at hu
   split at hu
   ·rename_i e;cases hu;exact Re e h.h
   ·rename_i e;exact Rc e (ih hu)
theorem PT{x:Operand}{c:Bool}(hx:vU rg x=some c)(h1:c=true→WK P N cfg Q a k rg σ)(h2:c=false→WK P N cfg Q b k rg σ):WK P N cfg Q (.cond x a b) k rg σ:=
 ⟨PE hx (fun e=>(h1 e).h) (fun e=>(h2 e).h)⟩
theorem PZ(hx:iJ rg=some xr)(h:VX P cfg l (FK P N cfg Q .normal k) (fun ch σ'=>FK P N cfg Q (.panic ch) k [] σ') xr σ):WK P N cfg Q (.bX l) k rg σ:=
 ⟨(PL (Q:=fun e=>FK P N cfg Q e k) hx h).mono fun _ _ _ h=>h.h⟩
theorem PY(hx:iJ rg=some xr)(h:VY P cfg ah ld (Cl (FK P N cfg Q .normal k)) xr σ):WK P N cfg Q (.c8 ah ld) k rg σ:=
 ⟨(PK (Q:=fun e=>FK P N cfg Q e k) hx h).mono fun _ _ _ h=>h.h⟩
theorem PU(hx:iJ rg=some xr)(h:VY P cfg [] (bare l) (Cl (FK P N cfg Q .normal k)) xr σ):WK P N cfg Q (.dc l) k rg σ:=
 ⟨(PG (Q:=fun e=>FK P N cfg Q e k) hx h).mono fun _ _ _ h=>h.h⟩
theorem dU{eO:ae}(I:Nat→ae→Store→Prop)(n:Nat)(hk:gj ks rg=some eO)(h0:∃ ao σ',ek eO ao∧Sub σ' σ∧I n ao σ')
  (h:∀ n rg σ,I n rg σ→WK P N cfg Q b (.fn (qC I n ks)::k) rg σ):WK P N cfg Q (.loop (.keep ks b)) k rg σ:=
 ⟨PJ I n hk h0 fun n rg σ hi=>(h n rg σ hi).h⟩
theorem P1(h:WK P N cfg Q a k ao σ')(hr:ek rg ao)(hs:Sub σ' σ):WK P N cfg Q a k rg σ:=⟨PQ h.h hr hs⟩
theorem vB(h:WK P N cfg Q b k rg σ):FK P N cfg Q .normal (.seq b::k) rg σ:=⟨h.h⟩
theorem NV(h:FK P N cfg Q .normal k rg σ):FK P N cfg Q .normal (.jl id::k) rg σ:=⟨h.h⟩
theorem NW{K:ae→Store→Prop}(h:K rg σ):FK P N cfg Q .normal (.fn K::k) rg σ:=⟨h⟩
theorem NY(h:Q .normal rg σ):FK P N cfg Q .normal [] rg σ:=⟨h⟩
def nr:AC→Nat→Option AC
 | .seq a b,l=>match nr a l with
  |some r=>some (.seq r b)
  |none=>nr b l
 | .keep _ a,l=>nr a l
 | .stop a,l=>nr a l
 | .label l',l=>if l' == l then some .skip else none
 |_,_=>none
theorem xu{l:Nat}:∀ (a:AC),kn a.erase l=(nr a l).map AC.erase
 | .seq a b=>by
  have h1:=xu (l:=l) a
  have h2:=xu (l:=l) b
  simp only[AC.erase,kn,nr,h1,h2]
  cases nr a l<;>rfl
 | .keep _ a=>xu (l:=l) a
 | .stop a=>xu (l:=l) a
 | .label l'=>by simp only[AC.erase,kn,nr];split<;>rfl
 | .skip=>rfl
 | .bX _=>rfl
 | .dc _=>rfl
 | .c8 _ _=>rfl
 | .cond _ _ _=>rfl
 | .block _ _=>rfl
 | .loop _=>rfl
 | .exit _=>rfl
 | .ret=>rfl
 | .scope _=>rfl
 | .goto _=>rfl
theorem Gg{l:Nat}(h:FK P N cfg Q .normal k rg σ):WK P N cfg Q (.label l) k rg σ:=⟨⟨rfl,F2 h.h⟩⟩
theorem o6{l:Nat}(h:Q (.goto l) rg σ):WK P N cfg Q (.goto l) k rg σ:=by
 refine⟨⟨rfl,F1 ?_⟩⟩
 induction k with
 |nil=>exact h
 |cons f k ih=>cases f<;>exact ih
def sY(J:Nat→Nat→ae→Store→Prop)(ks:Nat→List Nat)(n:Option Nat)(l:Nat)(rg:ae)(σ:Store):Prop:=
 ∃ ct,gj (ks l) rg=some ct∧∃ n',(∀ m,n=some m→n'<m)∧∃ ao σ',ek ct ao∧Sub σ' σ∧J l n' ao σ'
theorem BG(J:Nat→Nat→ae→Store→Prop)(ks:Nat→List Nat)(h0:WK P N cfg (pS (sY J ks none) (fun e=>FK P N cfg Q e k)) a [] rg σ)
  (h:∀ l n rg σ,J l n rg σ→∃ r,nr a l=some r∧WK P N cfg (pS (sY J ks (some n)) (fun e=>FK P N cfg Q e k)) r [] rg σ):WK P N cfg Q (.scope a) k rg σ:=by
 refine⟨⟨rfl,Oo (fun l n rg σ=>∃ ct,gj (ks l) rg=some ct∧∃ ao σ',ek ct ao∧Sub σ' σ∧J l n ao σ') (h0.h.h.mono fun e bP aw he=> ?_) fun l n rg σ ⟨ct,hk,ao,σ',hw,hs,hJ⟩=> ?_⟩⟩
 ·cases e with
  |goto l=>obtain⟨ct,h1,n',_,dL,di,h2,h3,h4⟩:=he;exact⟨n',ct,h1,dL,di,h2,h3,h4⟩
  |normal=>exact he.h
  |exit id=>exact he.h
  |ret=>exact he.h
  |panic ch=>exact he.h
  |outgrown=>exact he.h
 ·obtain⟨r,hr,hW⟩:=h l n ao σ' hJ
  have UA:SW P N r.erase (pS (fun l' ao σ'=>∃ n',n'<n∧∃ ct,gj (ks l') ao=some ct∧∃ bP aw,ek ct bP∧Sub aw σ'∧J l' n' bP aw) (post P N cfg Q k)) ao σ':=by
   refine hW.h.h.mono fun e bP aw he=> ?_
   cases e with
   |goto l'=>obtain⟨ct,h1,n',hn,dL,di,h2,h3,h4⟩:=he;exact⟨n',hn n rfl,ct,h1,dL,di,h2,h3,h4⟩
   |normal=>exact he.h
   |exit id=>exact he.h
   |ret=>exact he.h
   |panic ch=>exact he.h
   |outgrown=>exact he.h
  refine⟨r.erase,?_,SW.eC (ks l) ?_⟩
  ·show kn a.erase l=_
   rw[xu,hr];rfl
  ·rw[Cm hk];exact SW.wk UA hw hs
theorem NZ(h:Q .ret rg σ):FK P N cfg Q .ret k rg σ:=by
 refine⟨?_⟩
 induction k with
 |nil=>exact h
 |cons f k ih=>cases f<;>exact ih
theorem rT{J:Nat→ae→Store→Prop}(h:Q .ret rg σ):pS J (fun e=>FK P N cfg Q e k) .ret rg σ:=NZ h
theorem Pure.cN{P:Program}[Glob P][jh P]{f:FuncId}{fn:Func}{fc:FC}{as:List AV}{r:AV}{a:AC}(cfg:Nat→Nat)(hf:P.funcs[f]? =some fn)(hc:bZ P fn=some fc)(ha:fc.code=a.erase)(hlen:as.length≤fc.N)
  (h:∀ σ,WK P fc.N cfg (kN fc.res r σ) a [] (iM 0 as) σ):Pure P f as r:=Pure.run cfg hf hc ha hlen fun σ=>(h σ).h
theorem Spec.cN{P:Program}[Glob P][jh P]{f:FuncId}{fn:Func}{fc:FC}{as:List AV}{σ:Store}{Q:cU→Store→Prop}{a:AC}(cfg:Nat→Nat)(hf:P.funcs[f]? =some fn)(hc:bZ P fn=some fc)(ha:fc.code=a.erase)(hlen:as.length≤fc.N)
  (h:WK P fc.N cfg (j0 fc.res Q) a [] (iM 0 as) σ):Spec P f as σ Q:=Spec.run cfg hf hc ha hlen h.h
theorem oK{p:Prop}(h:p:=by constructor<;>first|kernel_rfl|(intro;kernel_rfl)|(constructor<;>first|kernel_rfl|(intro;kernel_rfl)|(constructor<;>first|kernel_rfl|(intro;kernel_rfl)))):p:=h
structure aM(P:Program)[Glob P](f:FuncId)(N:Nat)(a:AC)(res:List RC):Prop where
 ex:∃ fn,P.funcs[f]? =some fn∧bZ P fn=some ⟨N,a.erase,res⟩
theorem aM.i{P:Program}[Glob P]{f:FuncId}{fn:Func}{N:Nat}{a:AC}{res:List RC}(hf:P.funcs[f]? =some fn)(hc:bZ P fn=some ⟨N,a.erase,res⟩:=by kernel_rfl):aM P f N a res:=⟨fn,hf,hc⟩
section
variable {P:Program}[Glob P][jh P]{f:FuncId}{N:Nat}{res:List RC}{as:List AV}{r:AV}{σ:Store}{Q:cU→Store→Prop}{a:AC}
theorem aM.pc(k:aM P f N a res)(cfg:Nat→Nat)(h:∀ σ,WK P N cfg (kN res r σ) a [] (iM 0 as) σ)(hl:Nat.ble as.length N=true:=by exact rfl):Pure P f as r:=by
 obtain⟨fn,h1,h2⟩:=k.ex
 exact Pure.cN (fc:=⟨N,a.erase,res⟩) (a:=a) cfg h1 h2 rfl (Z9 hl) h
theorem aM.p(k:aM P f N a res)(h:∀ σ,WK P N (fun _=>0) (kN res r σ) a [] (iM 0 as) σ)(hl:Nat.ble as.length N=true:=by exact rfl):Pure P f as r:=k.pc _ h hl
theorem aM.sc(k:aM P f N a res)(cfg:Nat→Nat)(h:WK P N cfg (j0 res Q) a [] (iM 0 as) σ)(hl:Nat.ble as.length N=true:=by exact rfl):Spec P f as σ Q:=by
 obtain⟨fn,h1,h2⟩:=k.ex
 exact Spec.cN (fc:=⟨N,a.erase,res⟩) (a:=a) cfg h1 h2 rfl (Z9 hl) h
theorem aM.s(k:aM P f N a res)(h:WK P N (fun _=>0) (j0 res Q) a [] (iM 0 as) σ)(hl:Nat.ble as.length N=true:=by exact rfl):Spec P f as σ Q:=k.sc _ h hl
end
end
section
variable {P:Program}[Glob P]{N:Nat}{cfg:Nat→Nat}{K:ae→Store→Prop}{E:List PanicEntry→Store→Prop}{σ:Store}{l:List CI}{d n:Nat}{v y:AV}{xr:XR}{ps:List Prop}{g:Option (Nat×Bool)}{og:Option Bool}{ah cf:List Nat}{ix:Nat}{ld:List CD}
 {t b b' o:Nat} {cs cs' ys l':List AV} {x z:Operand}
theorem mB(h:ay xr none [x,z]=some (og,[.lp t b o,v],ps))(hc:qL v=some l')(hl:aK σ t=some (b',.cells cs))(hb:b=b')(hn:(Nat.beq l'.length n && l'.all AV.one)=true)(hu:over cs o l'=cs'∧o+n≤cs.length)(al:OB ps)
  (k:VX P cfg l K E xr (ck σ t b (.cells cs'))):VX P cfg (⟨none,.store n x z,none⟩::l) K E xr σ:=by
 obtain⟨_,he⟩:=bY h
 unfold ay gX at h
 obtain⟨aX,h',_,_⟩:=fb h
 have cA:og=none:=by split at h'<;>cases h';rfl
 subst cA
 have:=he al rfl
 simp only[aQ,ZY,and_true]at this
 simp only[Z3]at hn
 constructor
 simp only[dO,cT,aj,this.1,this.2,B3 hc,hl]
 exact⟨hb,ZM hn.1,hn.2,hu.2,by rw[hu.1];exact k.h⟩
theorem D6{op:au}(tV:cf.all (AQ xr)=true)(h1:∀ t∈tmpsOf op.opers,lk (raw xr) t=lk (den xr) t):
  kG ah cf (raw xr) op=kG ah cf (den xr) op∧ql ah cf (raw xr) op=ql ah cf (den xr) op:=by
 have hc:∀ t∈cf,lk (raw xr) t=lk (den xr) t:=fun t ht=>by
  have:=ZJ.1 tV t ht
  unfold AQ at this
  rw[uI,lT]
  split at this
  ·rename_i e;rw[e];rfl
  ·cases this
 exact⟨KB h1 hc,MF h1 hc⟩
theorem BT{args:List Operand}{as:List AV}(h:ay xr g args=some (og,as,ps))(hp:OB ps)(hg:og.getD true=true):∀ t∈tmpsOf args,lk (raw xr) t=lk (den xr) t:=by
 unfold ay at h
 obtain⟨b,h,_,_⟩:=Ct h
 obtain⟨aX,h,_,h3⟩:=fb h
 split at h
 ·cases h;exact h3 hp.all hg
 ·cases h
theorem OS{gv:Nat}(h:ay xr g [x]=some (og,[.v (.pointer (some ⟨gv,0,none⟩))],ps))(hl:Glob.av P gv=some cs)(hy:cs[0]? =some y)(al:OB ps)(k:VX P cfg l K E (bE og d y xr) σ):
  VX P cfg (⟨some d,.load false n x,g⟩::l) K E xr σ:=by
 obtain⟨hc,he⟩:=bY h
 refine gP hc (fun hg=> ?_) (fun hg=> ?_)
 ·have:=he al hg
  simp only[aQ,ZY,and_true]at this
  simp only[aj,this,hl,hy,ZT,ZA]
  have:=k.h
  rw[eH hg]at this
  exact this
 ·rw[← eG hg (v:=y)];exact k.h
theorem OT{gv:Nat}(h:ay xr g [x]=some (og,[.v (.pointer (some ⟨gv,0,none⟩))],ps))(hl:Glob.av P gv=some cs)(hy:cs.take n=ys∧n≤cs.length)(al:OB ps)(k:VX P cfg l K E (bE og d (.agg ys) xr) σ):
  VX P cfg (⟨some d,.load true n x,g⟩::l) K E xr σ:=by
 obtain⟨hc,he⟩:=bY h
 refine gP hc (fun hg=> ?_) (fun hg=> ?_)
 ·have:=he al hg
  simp only[aQ,ZY,and_true]at this
  simp only[aj,this,hl,Ze,hy.1]
  have:=k.h
  rw[eH hg]at this
  exact⟨hy.2,this⟩
 ·rw[← eG hg (v:= .agg ys)];exact k.h
theorem Ps{gv:Nat}(h:ay xr g [x]=some (og,[.v (.pointer (some ⟨gv,0,none⟩))],ps))(hl:Glob.av P gv=some cs)(hy:cs[0]? =some y)(bu:jV ah cf xr (.load false n x)=true)(al:OB ps)(k:VY P cfg ah ld K (bE og d y xr) σ):
  VY P cfg ah (⟨ix,⟨some d,.load false n x,g⟩,cf⟩::ld) K xr σ:=by
 obtain⟨hc,he⟩:=bY h
 unfold jV at bu
 rw[Z3]at bu
 refine mC hc (fun hg=> ?_) (fun hg=> ?_)
 ·have:=he al hg
  simp only[aQ,ZY,and_true]at this
  simp only[cF,au.cls]
  refine⟨by rw[← (D6 bu.1 (op:= .load false n x) (BT h al hg)).1];exact bu.2,?_⟩
  simp only[aj,this,hl,hy,ZT,ZA]
  have:=k.h
  rw[eH hg]at this
  exact this
 ·rw[← eG hg (v:=y)];exact k.h
theorem Pt{gv:Nat}(h:ay xr g [x]=some (og,[.v (.pointer (some ⟨gv,0,none⟩))],ps))(hl:Glob.av P gv=some cs)(hy:cs.take n=ys∧n≤cs.length)(bu:jV ah cf xr (.load true n x)=true)(al:OB ps)(k:VY P cfg ah ld K (bE og d (.agg ys) xr) σ):
  VY P cfg ah (⟨ix,⟨some d,.load true n x,g⟩,cf⟩::ld) K xr σ:=by
 obtain⟨hc,he⟩:=bY h
 unfold jV at bu
 rw[Z3]at bu
 refine mC hc (fun hg=> ?_) (fun hg=> ?_)
 ·have:=he al hg
  simp only[aQ,ZY,and_true]at this
  simp only[cF,au.cls]
  refine⟨by rw[← (D6 bu.1 (op:= .load true n x) (BT h al hg)).1];exact bu.2,?_⟩
  simp only[aj,this,hl,Ze,hy.1]
  have:=k.h
  rw[eH hg]at this
  exact⟨hy.2,this⟩
 ·rw[← eG hg (v:= .agg ys)];exact k.h
end
end Go.Sx
