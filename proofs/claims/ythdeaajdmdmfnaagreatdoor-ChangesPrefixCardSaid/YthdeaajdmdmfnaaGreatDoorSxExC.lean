/-
  The layer Sx, an executor: maps with plain keys.
-/
import Derived.Test.YthdeaajdmdmfnaaGreatDoorSxExA
import Derived.Test.YthdeaajdmdmfnaaGreatDoorSxE
set_option linter.unusedVariables false
set_option linter.unusedSimpArgs false
set_option linter.unusedSectionVars false
namespace Go.Sx
open Go.RowKit
def JL:Operand→Operand→Bool
 | .tmp a,.tmp b=>Nat.beq a b
 | .func a,.func b=>Nat.beq a b
 | .const (.int k i),.const (.int k' j)=>decide (k=k') && ox i j
 | .const (.string a),.const (.string b)=>tI a b
 | .const (.bool a),.const (.bool b)=>a == b
 |_,_=>false
theorem afq{a b:Operand}(h:JL a b=true):a=b:=by
 unfold JL at h
 split at h
 ·rw[Z0 h]
 ·rw[Z0 h]
 ·simp only[Z8,ZR,AH]at h;rw[h.1,h.2]
 ·rw[Kw,ZR]at h;rw[h]
 ·rw[eq_of_beq h]
 ·cases h
def kD:List Operand→List Operand→Bool
 |[],[]=>true
 |a::x,b::y=>JL a b && kD x y
 |_,_=>false
theorem A1:∀ {a b:List Operand},kD a b=true→a=b
 |[],[],_=>rfl
 |a::x,b::y,h=>by
  simp only[kD,Z8]at h
  rw[afq h.1,A1 h.2]
def JD(op:Op)(ti:List TI)(args:List Operand)(as:List AV)(d n:Nat)(σ:Store):XO:=match op with
 | .makeMap t none=>match ti,args,as with
  |_,[],[]=>some (.bD d n,(d,n,.map [] 0)::σ,n+1)
  |_,_,_=>none
 | .insert t m k x=>match ti,as with
  |[.mp kt vt,q],[.bD tg b,.v key,v]=>match kZ q,aV σ tg with
   |some kd,some (b',.map es bX)=>bif Nat.beq b b' && kD args [m,k,x]then match eR kd key es with
    |some none=>some (.v undef,du σ tg b (.map (es++[(key,bX,v)]) (bX+1)),n)
    |_=>none
    else none
   |_,_=>none
  |_,_=>none
 | .lookup t m k b2=>match ti,as with
  |[.mp kt vt,q],[.bD tg b,.v key]=>match kZ q,aV σ tg with
   |some kd,some (b',.map es bX)=>bif Nat.beq b b' && kD args [m,k]then match eR kd key es with
    |some (some v)=>some (bif b2 then .bo [v,.v (.bool true)]else v,σ,n)
    |_=>none
    else none
   |_,_=>none
  |_,_=>none
 |_=>none
section
variable {P:Program}[Glob P]{σ:Store}
theorem TR{tg b bX:Nat}{es:List (Value×Nat×AV)}{t ty kt vt:TypeId}{q:TI}{kd:TypeDesc}{m k:Operand}{key:Value}{v:AV}(hp:kZ q=some kd)(hl:aV σ tg=some (b,.map es bX))(hf:eR kd key es=some (some v)):
  fC P (.lookup t m k true) ty [.mp kt vt,q] [m,k] [.bD tg b,.v key] σ fun y σ'=>y= .bo [v,.v (.bool true)]∧σ'=σ:=by
 intro bx M w0 w ρ hI hR
 simp only[ei,Z2,Zn]at bx
 have ht:=tL bx.1
 have hk:P.underlying kt=some kd:=by
  have:=bx.2
  unfold AO at this
  rw[ht]at this
  exact Ec hp this
 obtain⟨v1,cq,e1,h1,bY⟩:=hR.aX
 obtain⟨v2,e2,h2⟩:=bY.cJ
 subst e2
 simp only[Zv,YT,Z2,Zn]at e1
 obtain⟨hM,l,hh,fJ,gu⟩:=hI.qp hl
 have g1:=h1.pN
 have g2:=h2.ay
 subst g1 g2
 obtain⟨j,u,ig,hu⟩:=Cz (M:=M) 0 fJ gu hf
 refine⟨.value (.tuple #[u,.bool true]),w,M,_,.tuple #[u,.bool true],σ,?_,rfl,Mem.le.refl _,hI,R.td (cs:=[_,_]) (RL.cons hu (RL.cons (.v _) RL.nil)),rfl,rfl⟩
 simp only[execOp,e1.1,e1.2,Instr.lookup,Sem.run_bind,aW ht,Result.andThen_ok,getObj,Sem.run,hh,run_checkKey hp hk,Instr.findKey,aW hk,ig,Sem.run_pure]
 rfl
end
theorem Gw(B:BM)(kd:TypeDesc)(k:Value):∀ (es:List (Value×Nat×AV)),eR kd k (es.map fun e=>(e.1,e.2.1,ar B e.2.2))=(eR kd k es).map (·.map (ar B))
 |[]=>rfl
 |e::es=>by
  simp only[Zv,eR]
  split
  ·rfl
  ·exact Gw B kd k es
  ·rfl
theorem Ns{kd:TypeDesc}{k:Value}:∀ {es:List (Value×Nat×AV)} {v:AV},eR kd k es=some (some v)→∃ e∈es,e.2.2=v
 |e::es,v,h=>by
  simp only[eR]at h
  split at h
  ·cases h;exact⟨e,ZD,rfl⟩
  ·obtain⟨e',h1,h2⟩:=Ns h;exact⟨e',ZL _ h1,h2⟩
  ·cases h
theorem cz.get{n:Nat}:∀ {σ:Store} {t b:Nat} {x:aZ},cz n σ→aV σ t=some (b,x)→∀ B B',Agree n B B'→(B b).1=(B' b).1∧ff B b x=ff B' b x
 |(i,b0,x0)::σ,t,b,x,h,hl,B,B',k=>by
  have h1:=h B B' k
  simp only[aR,Z2,YW,Ys]at h1
  simp only[aV]at hl
  cases hb:Nat.beq i t with
  |true=>rw[hb]at hl;cases hl;exact h1.1
  |false=>
   rw[hb]at hl
   refine cz.get (σ:=σ) (n:=n) (fun B B' k=> ?_) hl B B' k
   have h1:=h B B' k
   simp only[aR,Z2]at h1
   exact h1.2
theorem aeR{P:Program}[Glob P]{op:Op}{ty:TypeId}{ti:List TI}{args:List Operand}{as:List AV}{d n:Nat}{σ:Store}{x:AV}{σ':Store}{n':Nat}(h:JD op ti args as d n σ=some (x,σ',n'))(hL:rG n as)(hS:cz n σ):
  n≤n'∧gD n' x∧cz n' σ'∧∀ B S,fC P op ty ti args (aH B as) (aR B σ++S) fun r τ=>∃ B',Agree n B B'∧r=ar B' x∧τ=aR B' σ'++S:=by
 unfold JD at h
 split at h
 ·split at h
  ·cases h
   refine⟨Nat.le_succ _,fun B B' k=> ?_,fun B B' k=> ?_,fun B S=> ?_⟩
   ·simp only[ar,k n (Yh _)]
   ·simp only[aR,k n (Yh _),hS B B' (k.le (Nat.le_succ _))];rfl
   ·refine(Lw d).mono ?_
    rintro y τ ⟨b,rfl,rfl⟩
    have hA:Agree n B (fun i=>if i=n then(b,0,0)else B i):=fun i hi=>(Z7 (by omega)).symm
    refine⟨_,hA,?_,?_⟩
    ·simp only[ar,YX]
    ·simp only[aR,YX,← hS B _ hA];rfl
  ·cases h
 ·split at h
  ·rename_i kt vt q tg b key v
   split at h
   ·rename_i kd b' es bX hp hl
    cases hb:(Nat.beq b b' && kD args [_,_,_])with
    |false=>rw[hb]at h;cases h
    |true=>
     rw[hb]at h
     simp only[Zc]at h
     simp only[Z8]at hb
     have e:=Z0 hb.1
     subst e
     have e:=A1 hb.2
     subst e
     split at h
     ·rename_i hf
      cases h
      have hv:∀ B B',Agree n B B'→ar B v=ar B' v:=fun B B' k=>by
       have:=hL B B' k
       simp only[aH,Z2]at this
       exact this.2.2.1
      have hu:∀ B,du (aR B σ) tg (B b).1 (.map ((es.map fun e=>(e.1,e.2.1,ar B e.2.2))++[(key,bX,ar B v)]) (bX+1))=aR B (du σ tg b (.map (es++[(key,bX,v)]) (bX+1))):=fun B=>by
       have:=Bu (B:=B) (S:=[]) σ tg b (.map (es++[(key,bX,v)]) (bX+1)) b _ hl
       simpa[ff]using this
      refine⟨ZX _,fun _ _ _=>rfl,fun B B' k=> ?_,fun B S=> ?_⟩
      ·rw[← hu,← hu,hS B B' k,hv B B' k]
       obtain⟨g1,g2⟩:=hS.get hl B B' k
       simp only[ff,aZ.map.injEq,Zn]at g2
       rw[g1,g2]
      ·have h1:=vy (B:=B) (S:=S) σ tg b _ hl
       refine(Lt (v:=ar B v) hp h1 (by rw[Gw,hf];rfl)).mono ?_
       rintro y τ ⟨rfl,rfl⟩
       refine⟨B,.refl _ _,rfl,?_⟩
       have:=Bu (B:=B) (S:=S) σ tg b (.map (es++[(key,bX,v)]) (bX+1)) b _ hl
       rw[← this]
       simp[ff]
     ·cases h
   ·cases h
  ·cases h
 ·rename_i b2
  split at h
  ·rename_i kt vt q tg b key
   split at h
   ·rename_i kd b' es bX hp hl
    cases hb:(Nat.beq b b' && kD args [_,_])with
    |false=>rw[hb]at h;cases h
    |true=>
     rw[hb]at h
     simp only[Zc]at h
     simp only[Z8]at hb
     have e:=Z0 hb.1
     subst e
     have e:=A1 hb.2
     subst e
     split at h
     ·rename_i v hf
      cases h
      have hv:gD n v:=fun B B' k=>by
       obtain⟨e,h1,rfl⟩:=Ns hf
       have g2:=(hS.get hl B B' k).2
       simp only[ff,aZ.map.injEq,Zn]at g2
       have:=(List.map_inj_left.1 g2) e h1
       simp only[YW,Ys]at this
       exact this
      refine⟨ZX _,fun B B' k=> ?_,hS,fun B S=> ?_⟩
      ·cases b2
       ·exact hv B B' k
       ·simp only[Zc,ar,aH,hv B B' k]
      ·have h1:=vy (B:=B) (S:=S) σ tg b _ hl
       have h2:eR kd key (es.map fun e=>(e.1,e.2.1,ar B e.2.2))=some (some (ar B v)):=by rw[Gw,hf];rfl
       cases b2
       ·refine(Lu hp h1 h2).mono ?_
        rintro y τ ⟨rfl,rfl⟩
        exact⟨B,.refl _ _,rfl,rfl⟩
       ·refine(TR hp h1 h2).mono ?_
        rintro y τ ⟨rfl,rfl⟩
        exact⟨B,.refl _ _,rfl,rfl⟩
     ·cases h
   ·cases h
  ·cases h
 ·cases h
def KB(s:ByteArray)(a b:Int):ByteArray:=⟨((s.data.toList.drop a.toNat).take (b.toNat-a.toNat)).toArray⟩
theorem aiH(s:ByteArray)(a b:Int):KB s a b=s.extract a.toNat b.toNat:=by
 refine ByteArray.ext ?_
 rw[ByteArray.data_extract]
 apply Yw
 simp[KB,List.extract_eq_take_drop]
def isStr:AV→Bool
 | .v (.string _)=>true
 |_=>false
def qh(n:Int):List AV:=[.v (.int .u8 n)]
theorem KP:∀ {rows:List (List AV)} {ns:List Int},kJ rows=some ns→rows=ns.map qh
 |[],ns,h=>by cases h;rfl
 |[.v (.int .u8 n)]::l,ns,h=>by
  simp only[kJ,Z9]at h
  obtain⟨m,h1,rfl⟩:=h
  rw[KP h1];rfl
theorem K6:∀ (l:List Int),gM (l.map qh)=some (l.map qh)
 |[]=>rfl
 |n::l=>by
  show(match eG (qh n),gM (l.map qh)with|some y,some m=>some (y::m)|_,_=>none)=_
  rw[show eG (qh n)=some (qh n)from rfl,K6 l];rfl
def Kx(op:Op)(ty:TypeId)(ti:List TI)(args:List Operand)(as:List AV):Option AV:=match op with
 | .slice t x lo hi none=>match ti with
  |[.str]=>bif kD args (x::(lo.toList++hi.toList))then match vW lo hi as with
   |some (s,a,b)=>bif eM 0 a && eM a b && eM b (Int.ofNat s.data.toList.length)then some (.v (.string (KB s a b)))else none
   |none=>none
   else none
  |_=>none
 | .slice t x none (some h0) (some m0)=>bif kD args [x,h0,m0]then match ti,as with
  |[.sl _,.sz _],[.v (.slice none 0 0),.v (.int _ (.ofNat 0)),.v (.int _ (.ofNat 0))]=>some (.v (.slice none 0 0))
  |[.sl _,.sz e],[.sl nn e' rows,.v (.int k (.ofNat h)),.v (.int k' (.ofNat m))]=>match kJ rows with
   |some ns=>bif Nat.beq e e' && Nat.beq h m && Nat.blt 0 h && Nat.ble h rows.length then some (.fl e ((ns.take h).map qh))else none
   |none=>none
  |_,_=>none
  else none
 | .slice t x (some l0) (some h0) (some m0)=>bif kD args [x,l0,h0,m0]then match ti,as with
  |[.sl _,.sz e],[.sl nn e' rows,.v (.int DG (.ofNat l)),.v (.int k (.ofNat h)),.v (.int k' (.ofNat m))]=>match kJ rows with
   |some ns=>bif Nat.beq e e' && Nat.beq h m && Nat.ble h rows.length then(bif Nat.blt l h then some (.sl true e (((ns.take h).drop l).map qh))else bif Nat.beq l h && Nat.blt 0 rows.length then some (.sl true e [])else none)else none
   |none=>none
  |_,_=>none
  else none
 | .convert src dst x=>bif kD args [x]then match ti,as with
  |[.str,q,.sl e,.int .u8],[.v (.string s)]=>bif Nat.ble s.data.toList.length 1000000 then some (.sl true 1 (s.data.toList.map dD))else none
  |[.sl e,.int .u8,.str,q],[v]=>bif isStr v then none else match p6 1 v with
   |some rows=>match kJ rows with
    |some ns=>some (.v (.string (lL ns)))
    |none=>none
   |none=>none
  |_,_=>none
  else none
 |_=>none
theorem Te:∀ (l:List UInt8),gM (l.map dD)=some (l.map dD)
 |[]=>rfl
 |b::l=>by
  have h:eG (dD b)=some (dD b):=rfl
  show(match eG (dD b),gM (l.map dD)with|some y,some m=>some (y::m)|_,_=>none)=_
  rw[h,Te l];rfl
theorem Ql(s:ByteArray):s.data.toList.length=s.size:=ZQ
theorem D7{a b:List Operand}{α:Type}{x:Option α}{y:α}(h:(bif kD a b then x else none)=some y):a=b∧x=some y:=by
 cases e:kD a b with
 |true=>rw[e]at h;exact⟨A1 e,h⟩
 |false=>rw[e]at h;cases h
set_option maxRecDepth 10000 in
theorem aiD{P:Program}[Glob P]{op:Op}{ty:TypeId}{ti:List TI}{args:List Operand}{as:List AV}{r:AV}(h:Kx op ty ti args as=some r):jC P op ty ti args as r∧bG r=some r:=by
 unfold Kx at h
 split at h
 ·split at h
  ·obtain⟨rfl,h2⟩:=D7 h
   revert h2;clear h;intro h
   split at h
   ·rename_i s a b hs
    obtain⟨hb,h⟩:=fy h
    subst h
    simp only[Z8,mY,ZR,Ql]at hb
    rw[aiH]
    exact⟨Fp hs ⟨hb.1.1,hb.1.2,hb.2⟩,rfl⟩
   ·cases h
  ·cases h
 ·obtain⟨rfl,h2⟩:=D7 h
  revert h2;clear h;intro h
  split at h
  ·cases h;exact⟨TQ,rfl⟩
  ·split at h
   ·rename_i ns qC
    obtain⟨hb,h⟩:=fy h
    subst h
    simp only[Z8]at hb
    have e1:=Z0 hb.1.1.1
    have e2:=Z0 hb.1.1.2
    subst e1 e2
    have hr:=KP qC
    subst hr
    refine⟨?_,by simp only[bG,K6,ZJ]⟩
    rw[Yu]
    exact TM (by have:=hb.1.2;rwa [YC]at this) (ZF hb.2)
   ·cases h
  ·cases h
 ·obtain⟨rfl,h2⟩:=D7 h
  revert h2;clear h;intro h
  split at h
  ·split at h
   ·rename_i ns qC
    have hr:=KP qC
    subst hr
    cases hb:(Nat.beq _ _ && Nat.beq _ _ && Nat.ble _ _)with
    |false=>rw[hb]at h;cases h
    |true=>
     rw[hb]at h
     simp only[Zc]at h
     simp only[Z8]at hb
     have e1:=Z0 hb.1.1
     have e2:=Z0 hb.1.2
     subst e1 e2
     have hle:=ZF hb.2
     cases hl:Nat.blt _ _ with
     |true=>
      rw[hl]at h
      cases h
      refine⟨?_,by simp only[bG,K6,ZJ]⟩
      rw[Xx,Yu]
      exact TP (by rwa [YC]at hl) hle
     |false=>
      rw[hl]at h
      simp only[YD]at h
      cases hq:(Nat.beq _ _ && Nat.blt 0 _)with
      |false=>rw[hq]at h;cases h
      |true=>
       rw[hq]at h
       cases h
       simp only[Z8]at hq
       have e3:=Z0 hq.1
       subst e3
       exact⟨TN (by have:=hq.2;rwa [YC]at this) hle,rfl⟩
   ·cases h
  ·cases h
 ·obtain⟨rfl,h2⟩:=D7 h
  revert h2;clear h;intro h
  split at h
  ·rename_i q e s
   obtain⟨hb,h⟩:=fy h
   subst h
   rw[Ql]at hb
   exact⟨Fo (ZI (ZF hb) (by decide)),by simp only[bG,Te,ZJ]⟩
  ·rename_i e q v
   cases hv:isStr v with
   |true=>rw[hv]at h;cases h
   |false=>
    rw[hv]at h
    simp only[YD]at h
    split at h
    ·rename_i rows hr
     split at h
     ·rename_i ns hn
      cases h
      exact⟨yP (Tr hr) (fun⟨s,e⟩=>by subst e;cases hv) hn,rfl⟩
     ·cases h
    ·cases h
  ·cases h
 ·cases h
def EW:Value→Value→Bool
 | .int k a,.int k' b=>decide (k=k') && ox a b
 | .bool a,.bool b=>a == b
 | .string a,.string b=>tI a b
 | .slice none n c,.slice none n' c'=>Nat.beq n n' && Nat.beq c c'
 | .nilFunc,.nilFunc=>true
 | .nilIface,.nilIface=>true
 |_,_=>false
theorem SS{a b:Value}(h:EW a b=true):a=b:=by
 unfold EW at h
 split at h
 ·simp only[Z8,ZR,AH]at h;rw[h.1,h.2]
 ·rw[eq_of_beq h]
 ·rw[Kw,ZR]at h;rw[h]
 ·simp only[Z8]at h;rw[Z0 h.1,Z0 h.2]
 ·rfl
 ·rfl
 ·cases h
def yF:List Value→List AV→Bool
 |[],[]=>true
 |v::l,.v w::m=>EW v w && yF l m
 | .slice none 0 0::l,.sl false _ []::m=>yF l m
 |_,_=>false
mutual
def jE:AV→AV→Bool
 | .v (.slice none 0 0),.sl nn _ rows=> !nn && Jn rows
 | .v (.agg cs),.agg ys=>yF cs.toList ys
 | .v a,.v b=>EW a b
 | .agg xs,.agg ys=>nK xs ys
 | .bo xs,.bo ys=>nK xs ys
 | .pc xs,.pc ys=>nK xs ys
 | .sl nn e rows,.sl AX e' rows'=>(nn || !AX) && Nat.beq e e' && y9 rows rows'
 | .fl e rows,.sl _ e' rows'=>Nat.beq e e' && y9 rows rows'
 |_,_=>false
def nK:List AV→List AV→Bool
 |[],[]=>true
 |x::l,y::m=>jE x y && nK l m
 |_,_=>false
def y9:List (List AV)→List (List AV)→Bool
 |[],[]=>true
 |x::l,y::m=>nK x y && y9 l m
 |_,_=>false
end
theorem K2:∀ {l:List Value} {m:List AV},yF l m=true→ct (l.map .v) m
 |[],[],_=> .nil
 |v::l,.v w::m,h=>by
  simp only[yF,Z8]at h
  exact .cons (.D5 (by rw[SS h.1])) (K2 h.2)
 | .slice none 0 0::l,.sl false _ []::m,h=> .cons .nil (K2 (by simpa[yF]using h))
theorem Wk.SR{cs:Array Value}:Wk (.v (.agg cs)) (.agg (cs.toList.map .v)):=fun M v h=>by
 rw[h.ay]
 exact R.oF (RL.exact cs.toList)
mutual
theorem V8:∀ {x y:AV},jE x y=true→Wk x y
 | .v x,y,h=>by
  unfold jE at h
  split at h
  ·rename_i nn e rows hx
   cases hx
   cases nn<;>cases rows<;>simp only[Jn,Bool.not_true,XC,Bool.and_true,Bool.and_false,Bool.true_and,Bool.false_and,ZU]at h
   exact .nil
  ·rename_i cs ys hx;cases hx;exact Wk.SR.trans (.agg (K2 h))
  ·rename_i hx;cases hx;exact .D5 (by rw[SS h])
  all_goals first|(rename_i hx;cases hx;done)|(rename_i hx _;cases hx;done)|(cases h;done)|(rename_i hx _ _;cases hx;done)
 | .agg xs,y,h=>by
  cases y<;>simp only[jE,ZU]at h
  exact .agg (rP h)
 | .bo xs,y,h=>by
  cases y<;>simp only[jE,ZU]at h
  exact .bo (rP h)
 | .pc xs,y,h=>by
  cases y<;>simp only[jE,ZU]at h
  exact .JQ (rP h)
 | .sl nn e rows,y,h=>by
  cases y<;>simp only[jE,ZU]at h
  rename_i AX e' rows'
  simp only[Z8]at h
  have he:=Z0 h.1.2
  subst he
  have h1:=Wk.Ey (nn:=nn) (e:=e) (FR h.2)
  cases nn<;>cases AX<;>first|exact h1|exact h1.trans .sl|(exact absurd h.1.1 (by decide))
 | .any,y,h=>by cases y<;>simp only[jE,ZU]at h
 | .own ..,y,h=>by cases y<;>simp only[jE,ZU]at h
 | .ms ..,y,h=>by cases y<;>simp only[jE,ZU]at h
 | .lp ..,y,h=>by cases y<;>simp only[jE,ZU]at h
 | .bD ..,y,h=>by cases y<;>simp only[jE,ZU]at h
 | .dz ..,y,h=>by cases y<;>simp only[jE,ZU]at h
 | .ai ..,y,h=>by cases y<;>simp only[jE,ZU]at h
 | .cl ..,y,h=>by cases y<;>simp only[jE,ZU]at h
 | .fl e rows,y,h=>by
  cases y<;>simp only[jE,ZU]at h
  rename_i AX e' rows'
  simp only[Z8]at h
  have he:=Z0 h.1
  subst he
  exact(Wk.GC (FR h.2)).trans (fun _ _ k=>k.GD AX)
theorem rP:∀ {l m:List AV},nK l m=true→ct l m
 |[],[],_=> .nil
 |x::l,y::m,h=>by
  simp only[nK,Z8]at h
  exact .cons (V8 h.1) (rP h.2)
theorem FR:∀ {l m:List (List AV)},y9 l m=true→wL l m
 |[],[],_=>⟨rfl,fun i h=>absurd h (by simp)⟩
 |x::l,y::m,h=>by
  simp only[y9,Z8]at h
  obtain⟨e,k⟩:=FR h.2
  have hx:=rP h.1
  refine⟨by simp[e],fun i h1 h2=> ?_⟩
  cases i with
  |zero=>exact hx
  |succ i=>simpa using k i (by simpa using h1) (by simpa using h2)
end
structure dW(P:Program)[Glob P](f:FuncId)(as:List AV)(r:AV):Prop where
 pure:Pure P f as r
 wk:bG r=some r
def DR:List (FuncId×List AV×AV)→FuncId→List AV→Option AV
 |[],_,_=>none
 |(g,as',r)::l,f,as=>bif Nat.beq g f && nK as as' then some r else DR l f as
def JY(l:List (FuncId×List AV×AV))(f:FuncId)(as:List AV):Option AV:=bif l.any (fun e=>Nat.beq e.1 f)then match eG as with
 |some as=>DR l f as
 |none=>none
 else none
theorem Qq{P:Program}[Glob P]:∀ {l:List (FuncId×List AV×AV)} (_:∀ e∈l,dW P e.1 e.2.1 e.2.2) {f:FuncId} {as:List AV} {r:AV},DR l f as=some r→∃ as',dW P f as' r∧ct as as'
 |[],_,f,as,r,h=>by cases h
 |e::l,hl,f,as,r,h=>by
  obtain⟨g,as',r'⟩:=e
  simp only[DR]at h
  cases hb:(Nat.beq g f && nK as as')with
  |true=>
   rw[hb]at h
   cases h
   simp only[Z8]at hb
   have e:=Z0 hb.1
   subst e
   exact⟨as',hl _ ZD,rP hb.2⟩
  |false=>rw[hb]at h;exact Qq (fun e he=>hl e (ZL _ he)) h
theorem afQ{P:Program}[Glob P]{T:XT}{l:List (FuncId×List AV×AV)}(hT:T.pure=JY l)(hl:∀ e∈l,dW P e.1 e.2.1 e.2.2):BP P T:=by
 intro f as r h
 rw[hT]at h
 unfold JY at h
 cases hb:l.any (fun e=>Nat.beq e.1 f)with
 |false=>rw[hb]at h;cases h
 |true=>
  rw[hb]at h
  simp only[Zc]at h
  split at h
  ·rename_i B4 has
   obtain⟨as',k1,k2⟩:=Qq hl h
   exact⟨fun B=>Bv k1.wk,fun B=>⟨fun σ=>(k1.pure.sp σ).wk ((rq (tU has)).trans k2)⟩⟩
  ·cases h
end Go.Sx
