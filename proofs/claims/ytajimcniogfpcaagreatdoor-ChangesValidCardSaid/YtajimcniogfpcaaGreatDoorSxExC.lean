/-
  The layer Sx, an executor: maps with plain keys.
-/
import Derived.Test.YtajimcniogfpcaaGreatDoorSxExA
import Derived.Test.YtajimcniogfpcaaGreatDoorSxE
set_option linter.unusedVariables false
set_option linter.unusedSimpArgs false
set_option linter.unusedSectionVars false
namespace Go.Sx
open Go.RowKit
def LH:Operand→Operand→Bool
 | .tmp a,.tmp b=>Nat.beq a b
 | .func a,.func b=>Nat.beq a b
 | .const (.int k i),.const (.int k' j)=>decide (k=k') && pn i j
 | .const (.string a),.const (.string b)=>vI a b
 | .const (.bool a),.const (.bool b)=>a == b
 |_,_=>false
theorem ah8{a b:Operand}(h:LH a b=true):a=b:=by
 unfold LH at h
 split at h
 ·rw[Z2 h]
 ·rw[Z2 h]
 ·simp only[Z6,ZN,CK]at h;rw[h.1,h.2]
 ·rw[Mx,ZN]at h;rw[h]
 ·rw[eq_of_beq h]
 ·cases h
def lu:List Operand→List Operand→Bool
 |[],[]=>true
 |a::x,b::y=>LH a b && lu x y
 |_,_=>false
theorem CV:∀ {a b:List Operand},lu a b=true→a=b
 |[],[],_=>rfl
 |a::x,b::y,h=>by
  simp only[lu,Z6]at h
  rw[ah8 h.1,CV h.2]
def Lt(op:Op)(ti:List TI)(args:List Operand)(as:List AV)(d n:Nat)(σ:Store):XO:=match op with
 | .makeMap t none=>match ti,args,as with
  |_,[],[]=>some (.bH d n,(d,n,.map [] 0)::σ,n+1)
  |_,_,_=>none
 | .insert t m k x=>match ti,as with
  |[.mp kt vt,q],[.bH tg b,.v key,v]=>match mh q,aM σ tg with
   |some kd,some (b',.map es cG)=>bif Nat.beq b b' && lu args [m,k,x]then match fH kd key es with
    |some none=>some (.v undef,dx σ tg b (.map (es++[(key,cG,v)]) (cG+1)),n)
    |_=>none
    else none
   |_,_=>none
  |_,_=>none
 | .lookup t m k b2=>match ti,as with
  |[.mp kt vt,q],[.bH tg b,.v key]=>match mh q,aM σ tg with
   |some kd,some (b',.map es cG)=>bif Nat.beq b b' && lu args [m,k]then match fH kd key es with
    |some (some v)=>some (bif b2 then .aP [v,.v (.bool true)]else v,σ,n)
    |_=>none
    else none
   |_,_=>none
  |_,_=>none
 |_=>none
section
variable {P:Program}[Glob P]{σ:Store}
theorem WJ{tg b cG:Nat}{es:List (Value×Nat×AV)}{t ty kt vt:TypeId}{q:TI}{kd:TypeDesc}{m k:Operand}{key:Value}{v:AV}(hp:mh q=some kd)(hl:aM σ tg=some (b,.map es cG))(hf:fH kd key es=some (some v)):
  gb P (.lookup t m k true) ty [.mp kt vt,q] [m,k] [.bH tg b,.v key] σ fun y σ'=>y= .aP [v,.v (.bool true)]∧σ'=σ:=by
 intro bx M w0 w ρ hI hR
 simp only[eK,Z3,Zn]at bx
 have ht:=vJ bx.1
 have hk:P.underlying kt=some kd:=by
  have:=bx.2
  unfold CN at this
  rw[ht]at this
  exact FU hp this
 obtain⟨v1,cP,e1,h1,cJ⟩:=hR.bg
 obtain⟨v2,e2,h2⟩:=cJ.cT
 subst e2
 simp only[ZE,Y4,Z3,Zn]at e1
 obtain⟨hM,l,hh,gq,iy⟩:=hI.rH hl
 have g1:=h1.qF
 have g2:=h2.ay
 subst g1 g2
 obtain⟨j,u,jB,hu⟩:=El (M:=M) 0 gq iy hf
 refine⟨.value (.tuple #[u,.bool true]),w,M,_,.tuple #[u,.bool true],σ,?_,rfl,Mem.le.refl _,hI,R.vh (cs:=[_,_]) (RL.cons hu (RL.cons (.v _) RL.nil)),rfl,rfl⟩
 simp only[execOp,e1.1,e1.2,Instr.lookup,Sem.run_bind,aZ ht,Result.andThen_ok,getObj,Sem.run,hh,run_checkKey hp hk,Instr.findKey,aZ hk,jB,Sem.run_pure]
 rfl
end
theorem Jf(B:BM)(kd:TypeDesc)(k:Value):∀ (es:List (Value×Nat×AV)),fH kd k (es.map fun e=>(e.1,e.2.1,au B e.2.2))=(fH kd k es).map (·.map (au B))
 |[]=>rfl
 |e::es=>by
  simp only[ZE,fH]
  split
  ·rfl
  ·exact Jf B kd k es
  ·rfl
theorem PJ{kd:TypeDesc}{k:Value}:∀ {es:List (Value×Nat×AV)} {v:AV},fH kd k es=some (some v)→∃ e∈es,e.2.2=v
 |e::es,v,h=>by
  simp only[fH]at h
  split at h
  ·cases h;exact⟨e,ZC,rfl⟩
  ·obtain⟨e',h1,h2⟩:=PJ h;exact⟨e',ZO _ h1,h2⟩
  ·cases h
theorem cV.get{n:Nat}:∀ {σ:Store} {t b:Nat} {x:aR},cV n σ→aM σ t=some (b,x)→∀ B B',Agree n B B'→(B b).1=(B' b).1∧fZ B b x=fZ B' b x
 |(i,b0,x0)::σ,t,b,x,h,hl,B,B',k=>by
  have h1:=h B B' k
  simp only[aV,Z3,Y3,Yf]at h1
  simp only[aM]at hl
  cases hb:Nat.beq i t with
  |true=>rw[hb]at hl;cases hl;exact h1.1
  |false=>
   rw[hb]at hl
   refine cV.get (σ:=σ) (n:=n) (fun B B' k=> ?_) hl B B' k
   have h1:=h B B' k
   simp only[aV,Z3]at h1
   exact h1.2
theorem ahA{P:Program}[Glob P]{op:Op}{ty:TypeId}{ti:List TI}{args:List Operand}{as:List AV}{d n:Nat}{σ:Store}{x:AV}{σ':Store}{n':Nat}(h:Lt op ti args as d n σ=some (x,σ',n'))(hL:tI n as)(hS:cV n σ):
  n≤n'∧iC n' x∧cV n' σ'∧∀ B S,gb P op ty ti args (aG B as) (aV B σ++S) fun r τ=>∃ B',Agree n B B'∧r=au B' x∧τ=aV B' σ'++S:=by
 unfold Lt at h
 split at h
 ·split at h
  ·cases h
   refine⟨Nat.le_succ _,fun B B' k=> ?_,fun B B' k=> ?_,fun B S=> ?_⟩
   ·simp only[au,k n (X9 _)]
   ·simp only[aV,k n (X9 _),hS B B' (k.le (Nat.le_succ _))];rfl
   ·refine(NC d).mono ?_
    rintro y τ ⟨b,rfl,rfl⟩
    have hA:Agree n B (fun i=>if i=n then(b,0,0)else B i):=fun i hi=>(Z5 (by omega)).symm
    refine⟨_,hA,?_,?_⟩
    ·simp only[au,Y2]
    ·simp only[aV,Y2,← hS B _ hA];rfl
  ·cases h
 ·split at h
  ·rename_i kt vt q tg b key v
   split at h
   ·rename_i kd b' es cG hp hl
    cases hb:(Nat.beq b b' && lu args [_,_,_])with
    |false=>rw[hb]at h;cases h
    |true=>
     rw[hb]at h
     simp only[Y6]at h
     simp only[Z6]at hb
     have e:=Z2 hb.1
     subst e
     have e:=CV hb.2
     subst e
     split at h
     ·rename_i hf
      cases h
      have hv:∀ B B',Agree n B B'→au B v=au B' v:=fun B B' k=>by
       have:=hL B B' k
       simp only[aG,Z3]at this
       exact this.2.2.1
      have hu:∀ B,dx (aV B σ) tg (B b).1 (.map ((es.map fun e=>(e.1,e.2.1,au B e.2.2))++[(key,cG,au B v)]) (cG+1))=aV B (dx σ tg b (.map (es++[(key,cG,v)]) (cG+1))):=fun B=>by
       have:=Dr (B:=B) (S:=[]) σ tg b (.map (es++[(key,cG,v)]) (cG+1)) b _ hl
       simpa[fZ]using this
      refine⟨ZM _,fun _ _ _=>rfl,fun B B' k=> ?_,fun B S=> ?_⟩
      ·rw[← hu,← hu,hS B B' k,hv B B' k]
       obtain⟨g1,g2⟩:=hS.get hl B B' k
       simp only[fZ,aR.map.injEq,Zn]at g2
       rw[g1,g2]
      ·have h1:=xH (B:=B) (S:=S) σ tg b _ hl
       refine(Nz (v:=au B v) hp h1 (by rw[Jf,hf];rfl)).mono ?_
       rintro y τ ⟨rfl,rfl⟩
       refine⟨B,.refl _ _,rfl,?_⟩
       have:=Dr (B:=B) (S:=S) σ tg b (.map (es++[(key,cG,v)]) (cG+1)) b _ hl
       rw[← this]
       simp[fZ]
     ·cases h
   ·cases h
  ·cases h
 ·rename_i b2
  split at h
  ·rename_i kt vt q tg b key
   split at h
   ·rename_i kd b' es cG hp hl
    cases hb:(Nat.beq b b' && lu args [_,_])with
    |false=>rw[hb]at h;cases h
    |true=>
     rw[hb]at h
     simp only[Y6]at h
     simp only[Z6]at hb
     have e:=Z2 hb.1
     subst e
     have e:=CV hb.2
     subst e
     split at h
     ·rename_i v hf
      cases h
      have hv:iC n v:=fun B B' k=>by
       obtain⟨e,h1,rfl⟩:=PJ hf
       have g2:=(hS.get hl B B' k).2
       simp only[fZ,aR.map.injEq,Zn]at g2
       have:=(List.map_inj_left.1 g2) e h1
       simp only[Y3,Yf]at this
       exact this
      refine⟨ZM _,fun B B' k=> ?_,hS,fun B S=> ?_⟩
      ·cases b2
       ·exact hv B B' k
       ·simp only[Y6,au,aG,hv B B' k]
      ·have h1:=xH (B:=B) (S:=S) σ tg b _ hl
       have h2:fH kd key (es.map fun e=>(e.1,e.2.1,au B e.2.2))=some (some (au B v)):=by rw[Jf,hf];rfl
       cases b2
       ·refine(NA hp h1 h2).mono ?_
        rintro y τ ⟨rfl,rfl⟩
        exact⟨B,.refl _ _,rfl,rfl⟩
       ·refine(WJ hp h1 h2).mono ?_
        rintro y τ ⟨rfl,rfl⟩
        exact⟨B,.refl _ _,rfl,rfl⟩
     ·cases h
   ·cases h
  ·cases h
 ·cases h
def MC(s:ByteArray)(a b:Int):ByteArray:=⟨((s.data.toList.drop a.toNat).take (b.toNat-a.toNat)).toArray⟩
theorem akJ(s:ByteArray)(a b:Int):MC s a b=s.extract a.toNat b.toNat:=by
 refine ByteArray.ext ?_
 rw[ByteArray.data_extract]
 apply YB
 simp[MC,List.extract_eq_take_drop]
def isStr:AV→Bool
 | .v (.string _)=>true
 |_=>false
def rz(n:Int):List AV:=[.v (.int .u8 n)]
theorem MT:∀ {rows:List (List AV)} {ns:List Int},lB rows=some ns→rows=ns.map rz
 |[],ns,h=>by cases h;rfl
 |[.v (.int .u8 n)]::l,ns,h=>by
  simp only[lB,Z7]at h
  obtain⟨m,h1,rfl⟩:=h
  rw[MT h1];rfl
theorem Ng:∀ (l:List Int),iO (l.map rz)=some (l.map rz)
 |[]=>rfl
 |n::l=>by
  show(match fw (rz n),iO (l.map rz)with|some y,some m=>some (y::m)|_,_=>none)=_
  rw[show fw (rz n)=some (rz n)from rfl,Ng l];rfl
def Mz(op:Op)(ty:TypeId)(ti:List TI)(args:List Operand)(as:List AV):Option AV:=match op with
 | .slice t x lo hi none=>match ti with
  |[.str]=>bif lu args (x::(lo.toList++hi.toList))then match yh lo hi as with
   |some (s,a,b)=>bif fA 0 a && fA a b && fA b (Int.ofNat s.data.toList.length)then some (.v (.string (MC s a b)))else none
   |none=>none
   else none
  |_=>none
 | .slice t x none (some h0) (some m0)=>bif lu args [x,h0,m0]then match ti,as with
  |[.sl _,.sz _],[.v (.slice none 0 0),.v (.int _ (.ofNat 0)),.v (.int _ (.ofNat 0))]=>some (.v (.slice none 0 0))
  |[.sl _,.sz e],[.sl nn e' rows,.v (.int k (.ofNat h)),.v (.int k' (.ofNat m))]=>match lB rows with
   |some ns=>bif Nat.beq e e' && Nat.beq h m && Nat.blt 0 h && Nat.ble h rows.length then some (.fl e ((ns.take h).map rz))else none
   |none=>none
  |_,_=>none
  else none
 | .slice t x (some l0) (some h0) (some m0)=>bif lu args [x,l0,h0,m0]then match ti,as with
  |[.sl _,.sz e],[.sl nn e' rows,.v (.int Fh (.ofNat l)),.v (.int k (.ofNat h)),.v (.int k' (.ofNat m))]=>match lB rows with
   |some ns=>bif Nat.beq e e' && Nat.beq h m && Nat.ble h rows.length then(bif Nat.blt l h then some (.sl true e (((ns.take h).drop l).map rz))else bif Nat.beq l h && Nat.blt 0 rows.length then some (.sl true e [])else none)else none
   |none=>none
  |_,_=>none
  else none
 | .convert src dst x=>bif lu args [x]then match ti,as with
  |[.str,q,.sl e,.int .u8],[.v (.string s)]=>bif Nat.ble s.data.toList.length 1000000 then some (.sl true 1 (s.data.toList.map du))else none
  |[.sl e,.int .u8,.str,q],[v]=>bif isStr v then none else match qY 1 v with
   |some rows=>match lB rows with
    |some ns=>some (.v (.string (kX ns)))
    |none=>none
   |none=>none
  |_,_=>none
  else none
 |_=>none
theorem V5:∀ (l:List UInt8),iO (l.map du)=some (l.map du)
 |[]=>rfl
 |b::l=>by
  have h:fw (du b)=some (du b):=rfl
  show(match fw (du b),iO (l.map du)with|some y,some m=>some (y::m)|_,_=>none)=_
  rw[h,V5 l];rfl
theorem SL(s:ByteArray):s.data.toList.length=s.size:=Zv
theorem FO{a b:List Operand}{α:Type}{x:Option α}{y:α}(h:(bif lu a b then x else none)=some y):a=b∧x=some y:=by
 cases e:lu a b with
 |true=>rw[e]at h;exact⟨CV e,h⟩
 |false=>rw[e]at h;cases h
set_option maxRecDepth 10000 in
theorem akE{P:Program}[Glob P]{op:Op}{ty:TypeId}{ti:List TI}{args:List Operand}{as:List AV}{r:AV}(h:Mz op ty ti args as=some r):ko P op ty ti args as r∧bN r=some r:=by
 unfold Mz at h
 split at h
 ·split at h
  ·obtain⟨rfl,h2⟩:=FO h
   revert h2;clear h;intro h
   split at h
   ·rename_i s a b hs
    obtain⟨hb,h⟩:=gy h
    subst h
    simp only[Z6,nX,ZN,SL]at hb
    rw[akJ]
    exact⟨Hw hs ⟨hb.1.1,hb.1.2,hb.2⟩,rfl⟩
   ·cases h
  ·cases h
 ·obtain⟨rfl,h2⟩:=FO h
  revert h2;clear h;intro h
  split at h
  ·cases h;exact⟨WI,rfl⟩
  ·split at h
   ·rename_i ns qq
    obtain⟨hb,h⟩:=gy h
    subst h
    simp only[Z6]at hb
    have e1:=Z2 hb.1.1.1
    have e2:=Z2 hb.1.1.2
    subst e1 e2
    have hr:=MT qq
    subst hr
    refine⟨?_,by simp only[bN,Ng,ZD]⟩
    rw[XU]
    exact WE (by have:=hb.1.2;rwa [YC]at this) (ZR hb.2)
   ·cases h
  ·cases h
 ·obtain⟨rfl,h2⟩:=FO h
  revert h2;clear h;intro h
  split at h
  ·split at h
   ·rename_i ns qq
    have hr:=MT qq
    subst hr
    cases hb:(Nat.beq _ _ && Nat.beq _ _ && Nat.ble _ _)with
    |false=>rw[hb]at h;cases h
    |true=>
     rw[hb]at h
     simp only[Y6]at h
     simp only[Z6]at hb
     have e1:=Z2 hb.1.1
     have e2:=Z2 hb.1.2
     subst e1 e2
     have hle:=ZR hb.2
     cases hl:Nat.blt _ _ with
     |true=>
      rw[hl]at h
      cases h
      refine⟨?_,by simp only[bN,Ng,ZD]⟩
      rw[Xu,XU]
      exact WH (by rwa [YC]at hl) hle
     |false=>
      rw[hl]at h
      simp only[YD]at h
      cases hq:(Nat.beq _ _ && Nat.blt 0 _)with
      |false=>rw[hq]at h;cases h
      |true=>
       rw[hq]at h
       cases h
       simp only[Z6]at hq
       have e3:=Z2 hq.1
       subst e3
       exact⟨WG (by have:=hq.2;rwa [YC]at this) hle,rfl⟩
   ·cases h
  ·cases h
 ·obtain⟨rfl,h2⟩:=FO h
  revert h2;clear h;intro h
  split at h
  ·rename_i q e s
   obtain⟨hb,h⟩:=gy h
   subst h
   rw[SL]at hb
   exact⟨Hv (ZG (ZR hb) (by decide)),by simp only[bN,V5,ZD]⟩
  ·rename_i e q v
   cases hv:isStr v with
   |true=>rw[hv]at h;cases h
   |false=>
    rw[hv]at h
    simp only[YD]at h
    split at h
    ·rename_i rows hr
     split at h
     ·rename_i ns hn
      cases h
      exact⟨A2 (Wh hr) (fun⟨s,e⟩=>by subst e;cases hv) hn,rfl⟩
     ·cases h
    ·cases h
  ·cases h
 ·cases h
def GR:Value→Value→Bool
 | .int k a,.int k' b=>decide (k=k') && pn a b
 | .bool a,.bool b=>a == b
 | .string a,.string b=>vI a b
 | .slice none n c,.slice none n' c'=>Nat.beq n n' && Nat.beq c c'
 | .nilFunc,.nilFunc=>true
 | .nilIface,.nilIface=>true
 |_,_=>false
theorem VC{a b:Value}(h:GR a b=true):a=b:=by
 unfold GR at h
 split at h
 ·simp only[Z6,ZN,CK]at h;rw[h.1,h.2]
 ·rw[eq_of_beq h]
 ·rw[Mx,ZN]at h;rw[h]
 ·simp only[Z6]at h;rw[Z2 h.1,Z2 h.2]
 ·rfl
 ·rfl
 ·cases h
def AO:List Value→List AV→Bool
 |[],[]=>true
 |v::l,.v w::m=>GR v w && AO l m
 | .slice none 0 0::l,.sl false _ []::m=>AO l m
 |_,_=>false
mutual
def kv:AV→AV→Bool
 | .v (.slice none 0 0),.sl nn _ rows=> !nn && Lc rows
 | .v (.agg cs),.agg ys=>AO cs.toList ys
 | .v a,.v b=>GR a b
 | .agg xs,.agg ys=>oM xs ys
 | .aP xs,.aP ys=>oM xs ys
 | .pc xs,.pc ys=>oM xs ys
 | .sl nn e rows,.sl CR e' rows'=>(nn || !CR) && Nat.beq e e' && Bf rows rows'
 | .fl e rows,.sl _ e' rows'=>Nat.beq e e' && Bf rows rows'
 |_,_=>false
def oM:List AV→List AV→Bool
 |[],[]=>true
 |x::l,y::m=>kv x y && oM l m
 |_,_=>false
def Bf:List (List AV)→List (List AV)→Bool
 |[],[]=>true
 |x::l,y::m=>oM x y && Bf l m
 |_,_=>false
end
theorem Nb:∀ {l:List Value} {m:List AV},AO l m=true→bC (l.map .v) m
 |[],[],_=> .nil
 |v::l,.v w::m,h=>by
  simp only[AO,Z6]at h
  exact .cons (.FM (by rw[VC h.1])) (Nb h.2)
 | .slice none 0 0::l,.sl false _ []::m,h=> .cons .nil (Nb (by simpa[AO]using h))
theorem Wk.vP{cs:Array Value}:Wk (.v (.agg cs)) (.agg (cs.toList.map .v)):=fun M v h=>by
 rw[h.ay]
 exact R.su (RL.exact cs.toList)
mutual
theorem abM:∀ {x y:AV},kv x y=true→Wk x y
 | .v x,y,h=>by
  unfold kv at h
  split at h
  ·rename_i nn e rows hx
   cases hx
   cases nn<;>cases rows<;>simp only[Lc,Bool.not_true,Xl,Bool.and_true,Bool.and_false,Bool.true_and,Bool.false_and,ZV]at h
   exact .nil
  ·rename_i cs ys hx;cases hx;exact Wk.vP.trans (.agg (Nb h))
  ·rename_i hx;cases hx;exact .FM (by rw[VC h])
  all_goals first|(rename_i hx;cases hx;done)|(rename_i hx _;cases hx;done)|(cases h;done)|(rename_i hx _ _;cases hx;done)
 | .agg xs,y,h=>by
  cases y<;>simp only[kv,ZV]at h
  exact .agg (tQ h)
 | .aP xs,y,h=>by
  cases y<;>simp only[kv,ZV]at h
  exact .aP (tQ h)
 | .pc xs,y,h=>by
  cases y<;>simp only[kv,ZV]at h
  exact .LP (tQ h)
 | .sl nn e rows,y,h=>by
  cases y<;>simp only[kv,ZV]at h
  rename_i CR e' rows'
  simp only[Z6]at h
  have he:=Z2 h.1.2
  subst he
  have h1:=Wk.Gj (nn:=nn) (e:=e) (Ip h.2)
  cases nn<;>cases CR<;>first|exact h1|exact h1.trans .sl|(exact absurd h.1.1 (by decide))
 | .any,y,h=>by cases y<;>simp only[kv,ZV]at h
 | .own ..,y,h=>by cases y<;>simp only[kv,ZV]at h
 | .ms ..,y,h=>by cases y<;>simp only[kv,ZV]at h
 | .lp ..,y,h=>by cases y<;>simp only[kv,ZV]at h
 | .bH ..,y,h=>by cases y<;>simp only[kv,ZV]at h
 | .dN ..,y,h=>by cases y<;>simp only[kv,ZV]at h
 | .ai ..,y,h=>by cases y<;>simp only[kv,ZV]at h
 | .cl ..,y,h=>by cases y<;>simp only[kv,ZV]at h
 | .fl e rows,y,h=>by
  cases y<;>simp only[kv,ZV]at h
  rename_i CR e' rows'
  simp only[Z6]at h
  have he:=Z2 h.1
  subst he
  exact(Wk.Jk (Ip h.2)).trans (fun _ _ k=>k.Jl CR)
theorem tQ:∀ {l m:List AV},oM l m=true→bC l m
 |[],[],_=> .nil
 |x::l,y::m,h=>by
  simp only[oM,Z6]at h
  exact .cons (abM h.1) (tQ h.2)
theorem Ip:∀ {l m:List (List AV)},Bf l m=true→yM l m
 |[],[],_=>⟨rfl,fun i h=>absurd h (by simp)⟩
 |x::l,y::m,h=>by
  simp only[Bf,Z6]at h
  obtain⟨e,k⟩:=Ip h.2
  have hx:=tQ h.1
  refine⟨by simp[e],fun i h1 h2=> ?_⟩
  cases i with
  |zero=>exact hx
  |succ i=>simpa using k i (by simpa using h1) (by simpa using h2)
end
structure eO(P:Program)[Glob P](f:FuncId)(as:List AV)(r:AV):Prop where
 pure:Pure P f as r
 wk:bN r=some r
def Fw:List (FuncId×List AV×AV)→FuncId→List AV→Option AV
 |[],_,_=>none
 |(g,as',r)::l,f,as=>bif Nat.beq g f && oM as as' then some r else Fw l f as
def LY(l:List (FuncId×List AV×AV))(f:FuncId)(as:List AV):Option AV:=bif l.any (fun e=>Nat.beq e.1 f)then match fw as with
 |some as=>Fw l f as
 |none=>none
 else none
theorem SR{P:Program}[Glob P]:∀ {l:List (FuncId×List AV×AV)} (_:∀ e∈l,eO P e.1 e.2.1 e.2.2) {f:FuncId} {as:List AV} {r:AV},Fw l f as=some r→∃ as',eO P f as' r∧bC as as'
 |[],_,f,as,r,h=>by cases h
 |e::l,hl,f,as,r,h=>by
  obtain⟨g,as',r'⟩:=e
  simp only[Fw]at h
  cases hb:(Nat.beq g f && oM as as')with
  |true=>
   rw[hb]at h
   cases h
   simp only[Z6]at hb
   have e:=Z2 hb.1
   subst e
   exact⟨as',hl _ ZC,tQ hb.2⟩
  |false=>rw[hb]at h;exact SR (fun e he=>hl e (ZO _ he)) h
theorem aiL{P:Program}[Glob P]{T:XT}{l:List (FuncId×List AV×AV)}(hT:T.pure=LY l)(hl:∀ e∈l,eO P e.1 e.2.1 e.2.2):DJ P T:=by
 intro f as r h
 rw[hT]at h
 unfold LY at h
 cases hb:l.any (fun e=>Nat.beq e.1 f)with
 |false=>rw[hb]at h;cases h
 |true=>
  rw[hb]at h
  simp only[Y6]at h
  split at h
  ·rename_i DU has
   obtain⟨as',k1,k2⟩:=SR hl h
   exact⟨fun B=>Dx k1.wk,fun B=>⟨fun σ=>(k1.pure.sp σ).wk ((tp (vS has)).trans k2)⟩⟩
  ·cases h
end Go.Sx
