import Derived.Test.YtmemninechdogaaGreatDoorSxExA
set_option linter.all false
namespace Go.Sx
open Go.RowKit
def Kf:Operand->Operand->Bool
 |.tmp a,.tmp b=>Nat.beq a b|.func a,.func b=>Nat.beq a b|.const (.int k i),.const (.int k' j)=>decide (k=k')&&oZ i j|.const (.string a),.const (.string b)=>uy a b|.const (.bool a),.const (.bool b)=>a == b|_,_=>false
theorem ais{a b:Operand}(h:Kf a b=true):a=b:=by
 unfold Kf at h;split at h
 .rw[Z0 h]
 .rw[Z0 h]
 .simp only[Z6,ZQ,A3]at h;rw[h.1,h.2]
 .rw[K7,ZQ]at h;rw[h]
 .rw[eq_of_beq h]
 .cases h
def ly:List Operand->List Operand->Bool
 |[],[]=>true|a::x,b::y=>Kf a b&&ly x y|_,_=>false
theorem Bk:∀{a b:List Operand},ly a b=true->a=b
 |[],[],_=>rfl|a::x,b::y,h=>by simp only[ly,Z6]at h;rw[ais h.1,Bk h.2]
def J4(op:Op)(ti:List TI)(args:List Operand)(as:List AV)(d n:Nat)(σ:Store):XO:=match op with
 |.makeMap t none=>match ti,args,as with
  |_,[],[]=>some (.bJ d n,(d,n,.map [] 0)::σ,n+1)|_,_,_=>none
 |.insert t m k x=>match ti,as with
  |[.mp kt vt,q],[.bJ tg b,.v key,v]=>match lY q,aV σ tg with
   |some kd,some (b',.map es ck)=>bif Nat.beq b b'&&ly args [m,k,x]then match fu kd key es with
    |some none=>some (.v undef,du σ tg b (.map (es++[(key,ck,v)]) (ck+1)),n)|_=>none
    else none
   |_,_=>none
  |_,_=>none
 |.lookup t m k b2=>match ti,as with
  |[.mp kt vt,q],[.bJ tg b,.v key]=>match lY q,aV σ tg with
   |some kd,some (b',.map es ck)=>bif Nat.beq b b'&&ly args [m,k]then match fu kd key es with
    |some (some v)=>some (bif b2 then .aG [v,.v (.bool true)]else v,σ,n)|_=>none
    else none
   |_,_=>none
  |_,_=>none
 |_=>none
section
variable {P:Program}[Glob P]{σ:Store}
theorem Vi{tg b ck:Nat}{es:List (Value×Nat×AV)}{t ty kt vt:TypeId}{q:TI}{kd:TypeDesc}{m k:Operand}{key:Value}{v:AV}(hp:lY q=some kd)(hl:aV σ tg=some (b,.map es ck))(hf:fu kd key es=some (some v)):
  fH P (.lookup t m k true) ty [.mp kt vt,q] [m,k] [.bJ tg b,.v key] σ fun y af=>y= .aG [v,.v (.bool true)]/\af=σ:=by
 intro bu M w0 w X hI hR;simp only[ey,Z2,Zn]at bu;have ht:=uA bu.1;have hk:P.underlying kt=some kd:=by have:=bu.2;unfold A6 at this;rw[ht]at this;exact EJ hp this
 obtain⟨v1,cB,e1,h1,bV⟩:=hR.aZ;obtain⟨v2,e2,h2⟩:=bV.cR;subst e2;simp only[Zz,YJ,Z2,Zn]at e1;obtain⟨hM,l,hh,gi,gU⟩:=hI.rh hl;have g1:=h1.qs;have g2:=h2.aC;subst g1 g2;obtain⟨j,u,jC,hu⟩:=C7 (M:=M) 0 gi gU hf;refine⟨.value (.tuple #[u,.bool true]),w,M,_,.tuple #[u,.bool true],σ,?_,rfl,Mem.le.refl _,hI,R.ue (cs:=[_,_]) (RL.cons hu (RL.cons (.v _) RL.nil)),rfl,rfl⟩;simp only[execOp,e1.1,e1.2,Instr.lookup,Sem.run_bind,aX ht,Result.andThen_ok,getObj,Sem.run,hh,run_checkKey hp hk,Instr.findKey,aX hk,jC,Sem.run_pure];rfl
end
theorem Hw(B:BM)(kd:TypeDesc)(k:Value):∀(es:List (Value×Nat×AV)),fu kd k (es.map fun e=>(e.1,e.2.1,au B e.2.2))=(fu kd k es).map (·.map (au B))
 |[]=>rfl|e::es=>by
  simp only[Zz,fu];split
  .rfl
  .exact Hw B kd k es
  .rfl
theorem N9{kd:TypeDesc}{k:Value}:∀{es:List (Value×Nat×AV)} {v:AV},fu kd k es=some (some v)->∃e∈es,e.2.2=v
 |e::es,v,h=>by
  simp only[fu]at h;split at h
  .cases h;exact⟨e,ZK,rfl⟩
  .obtain⟨e',h1,h2⟩:=N9 h;exact⟨e',ZN _ h1,h2⟩
  .cases h
theorem cI.get{n:Nat}:∀{σ:Store} {t b:Nat} {x:aE},cI n σ->aV σ t=some (b,x)->∀B B',Agree n B B'->(B b).1=(B' b).1/\fE B b x=fE B' b x
 |(i,b0,x0)::σ,t,b,x,h,hl,B,B',k=>by
  have h1:=h B B' k;simp only[aS,Z2,YX,Yg]at h1;simp only[aV]at hl;cases hb:Nat.beq i t with
  |true=>rw[hb]at hl;cases hl;exact h1.1|false=>
   rw[hb]at hl;refine cI.get (σ:=σ) (n:=n) (fun B B' k=>?_) hl B B' k;have h1:=h B B' k;simp only[aS,Z2]at h1;exact h1.2
theorem ahE{P:Program}[Glob P]{op:Op}{ty:TypeId}{ti:List TI}{args:List Operand}{as:List AV}{d n:Nat}{σ:Store}{x:AV}{af:Store}{n':Nat}(h:J4 op ti args as d n σ=some (x,af,n'))(hL:sK n as)(hS:cI n σ):
  n<=n'/\gZ n' x/\cI n' af/\∀B S,fH P op ty ti args (aI B as) (aS B σ++S) fun r p=>∃B',Agree n B B'/\r=au B' x/\p=aS B' af++S:=by
 unfold J4 at h;split at h
 .split at h
  .cases h;refine⟨Nat.le_succ _,fun B B' k=>?_,fun B B' k=>?_,fun B S=>?_⟩
   .simp only[au,k n (Yc _)]
   .simp only[aS,k n (Yc _),hS B B' (k.le (Nat.le_succ _))];rfl
   .refine(L8 d).mono ?_;rintro y p ⟨b,rfl,rfl⟩;have hA:Agree n B (fun i=>if i=n then(b,0,0)else B i):=fun i hi=>(Z9 (by omega)).symm;refine⟨_,hA,?_,?_⟩
    .simp only[au,YK]
    .simp only[aS,YK,<-hS B _ hA];rfl
  .cases h
 .split at h
  .rename_i kt vt q tg b key v;split at h
   .rename_i kd b' es ck hp hl;cases hb:(Nat.beq b b'&&ly args [_,_,_])with
    |false=>rw[hb]at h;cases h|true=>
     rw[hb]at h;simp only[Y8]at h;simp only[Z6]at hb;have e:=Z0 hb.1;subst e;have e:=Bk hb.2;subst e;split at h
     .rename_i hf;cases h;have hv:∀B B',Agree n B B'->au B v=au B' v:=fun B B' k=>by
       have:=hL B B' k;simp only[aI,Z2]at this;exact this.2.2.1
      have hu:∀B,du (aS B σ) tg (B b).1 (.map ((es.map fun e=>(e.1,e.2.1,au B e.2.2))++[(key,ck,au B v)]) (ck+1))=aS B (du σ tg b (.map (es++[(key,ck,v)]) (ck+1))):=fun B=>by have:=BP (B:=B) (S:=[]) σ tg b (.map (es++[(key,ck,v)]) (ck+1)) b _ hl;simpa[fE]using this
      refine⟨ZO _,fun _ _ _=>rfl,fun B B' k=>?_,fun B S=>?_⟩
      .rw[<-hu,<-hu,hS B B' k,hv B B' k];obtain⟨g1,g2⟩:=hS.get hl B B' k;simp only[fE,aE.map.injEq,Zn]at g2;rw[g1,g2]
      .have h1:=wm (B:=B) (S:=S) σ tg b _ hl;refine(L4 (v:=au B v) hp h1 (by rw[Hw,hf];rfl)).mono ?_;rintro y p ⟨rfl,rfl⟩;refine⟨B,.refl _ _,rfl,?_⟩;have:=BP (B:=B) (S:=S) σ tg b (.map (es++[(key,ck,v)]) (ck+1)) b _ hl;rw[<-this];simp[fE]
     .cases h
   .cases h
  .cases h
 .rename_i b2;split at h
  .rename_i kt vt q tg b key;split at h
   .rename_i kd b' es ck hp hl;cases hb:(Nat.beq b b'&&ly args [_,_])with
    |false=>rw[hb]at h;cases h|true=>
     rw[hb]at h;simp only[Y8]at h;simp only[Z6]at hb;have e:=Z0 hb.1;subst e;have e:=Bk hb.2;subst e;split at h
     .rename_i v hf;cases h;have hv:gZ n v:=fun B B' k=>by
       obtain⟨e,h1,rfl⟩:=N9 hf;have g2:=(hS.get hl B B' k).2;simp only[fE,aE.map.injEq,Zn]at g2;have:=(List.map_inj_left.1 g2) e h1;simp only[YX,Yg]at this;exact this
      refine⟨ZO _,fun B B' k=>?_,hS,fun B S=>?_⟩
      .cases b2
       .exact hv B B' k
       .simp only[Y8,au,aI,hv B B' k]
      .have h1:=wm (B:=B) (S:=S) σ tg b _ hl;have h2:fu kd key (es.map fun e=>(e.1,e.2.1,au B e.2.2))=some (some (au B v)):=by rw[Hw,hf];rfl
       cases b2
       .refine(L5 hp h1 h2).mono ?_;rintro y p ⟨rfl,rfl⟩;exact⟨B,.refl _ _,rfl,rfl⟩
       .refine(Vi hp h1 h2).mono ?_;rintro y p ⟨rfl,rfl⟩;exact⟨B,.refl _ _,rfl,rfl⟩
     .cases h
   .cases h
  .cases h
 .cases h
def Lb(s:ByteArray)(a b:Int):ByteArray:=⟨((s.data.toList.drop a.toNat).take (b.toNat-a.toNat)).toArray⟩
theorem alo(s:ByteArray)(a b:Int):Lb s a b=s.extract a.toNat b.toNat:=by refine ByteArray.ext ?_;rw[ByteArray.data_extract];apply Ym;simp[Lb,List.extract_eq_take_drop]
def isStr:AV->Bool
 |.v (.string _)=>true|_=>false
def qU(n:Int):List AV:=[.v (.int .u8 n)]
theorem Ln:∀{rows:List (List AV)} {ns:List Int},lE rows=some ns->rows=ns.map qU
 |[],ns,h=>by cases h;rfl|[.v (.int .u8 n)]::l,ns,h=>by
  simp only[lE,Z8]at h;obtain⟨m,h1,rfl⟩:=h;rw[Ln h1];rfl
theorem LH:∀(l:List Int),ig (l.map qU)=some (l.map qU)
 |[]=>rfl|n::l=>by show(match fe (qU n),ig (l.map qU)with|some y,some m=>some (y::m)|_,_=>none)=_;rw[show fe (qU n)=some (qU n)from rfl,LH l];rfl
def K8(op:Op)(ty:TypeId)(ti:List TI)(args:List Operand)(as:List AV):Option AV:=match op with
 |.slice t x lo hi none=>match ti with
  |[.str]=>bif ly args (x::(lo.toList++hi.toList))then match K1 lo hi as with
   |some (s,a,b)=>bif fi 0 a&&fi a b&&fi b (Int.ofNat s.data.toList.length)then some (.v (.string (Lb s a b)))else none|none=>none
   else none
  |_=>none
 |.slice t x none (some h0) (some m0)=>bif ly args [x,h0,m0]then match ti,as with
  |[.sl _,.sz _],[.v (.slice none 0 0),.v (.int _ (.ofNat 0)),.v (.int _ (.ofNat 0))]=>some (.v (.slice none 0 0))|[.sl _,.sz e],[.sl nn e' rows,.v (.int k (.ofNat h)),.v (.int k' (.ofNat m))]=>match lE rows with
   |some ns=>bif Nat.beq e e'&&Nat.beq h m&&Nat.blt 0 h&&Nat.ble h rows.length then some (.fl e ((ns.take h).map qU))else none|none=>none
  |_,_=>none
  else none
 |.slice t x (some l0) (some h0) (some m0)=>bif ly args [x,l0,h0,m0]then match ti,as with
  |[.sl _,.sz e],[.sl nn e' rows,.v (.int Ee (.ofNat l)),.v (.int k (.ofNat h)),.v (.int k' (.ofNat m))]=>match lE rows with
   |some ns=>bif Nat.beq e e'&&Nat.beq h m&&Nat.ble h rows.length then(bif Nat.blt l h then some (.sl true e (((ns.take h).drop l).map qU))else bif Nat.beq l h&&Nat.blt 0 rows.length then some (.sl true e [])else none)else none|none=>none
  |_,_=>none
  else none
 |.convert src dst x=>bif ly args [x]then match ti,as with
  |[.str,q,.sl e,.int .u8],[.v (.string s)]=>bif Nat.ble s.data.toList.length 1000000 then some (.sl true 1 (s.data.toList.map dB))else none|[.sl e,.int .u8,.str,q],[v]=>bif isStr v then none else match qH 1 v with
   |some rows=>match lE rows with
    |some ns=>some (.v (.string (mC ns)))|none=>none
   |none=>none
  |_,_=>none
  else none
 |_=>none
theorem UC:∀(l:List UInt8),ig (l.map dB)=some (l.map dB)
 |[]=>rfl|b::l=>by have h:fe (dB b)=some (dB b):=rfl;show(match fe (dB b),ig (l.map dB)with|some y,some m=>some (y::m)|_,_=>none)=_;rw[h,UC l];rfl
theorem Rb(s:ByteArray):s.data.toList.length=s.size:=Zu
theorem EF{a b:List Operand}{z:Type}{x:Option z}{y:z}(h:(bif ly a b then x else none)=some y):a=b/\x=some y:=by
 cases e:ly a b with
 |true=>rw[e]at h;exact⟨Bk e,h⟩|false=>rw[e]at h;cases h
set_option maxRecDepth 10000 in
theorem alj{P:Program}[Glob P]{op:Op}{ty:TypeId}{ti:List TI}{args:List Operand}{as:List AV}{r:AV}(h:K8 op ty ti args as=some r):jU P op ty ti args as r/\bM r=some r:=by
 unfold K8 at h;split at h
 .split at h
  .obtain⟨rfl,h2⟩:=EF h;revert h2;clear h;intro h;split at h
   .rename_i s a b hs;obtain⟨hb,h⟩:=fY h;subst h;simp only[Z6,nM,ZQ,Rb]at hb;rw[alo];exact⟨Vh hs ⟨hb.1.1,hb.1.2,hb.2⟩,rfl⟩
   .cases h
  .cases h
 .obtain⟨rfl,h2⟩:=EF h;revert h2;clear h;intro h;split at h
  .cases h;exact⟨Vg,rfl⟩
  .split at h
   .rename_i ns rB;obtain⟨hb,h⟩:=fY h;subst h;simp only[Z6]at hb;have e1:=Z0 hb.1.1.1;have e2:=Z0 hb.1.1.2;subst e1 e2;have hr:=Ln rB;subst hr;refine⟨?_,by simp only[bM,LH,ZJ]⟩;rw[XJ];exact Vd (by have:=hb.1.2;rwa [Yw]at this) (ZE hb.2)
   .cases h
  .cases h
 .obtain⟨rfl,h2⟩:=EF h;revert h2;clear h;intro h;split at h
  .split at h
   .rename_i ns rB;have hr:=Ln rB;subst hr;cases hb:(Nat.beq _ _ && Nat.beq _ _ && Nat.ble _ _)with
    |false=>rw[hb]at h;cases h|true=>
     rw[hb]at h;simp only[Y8]at h;simp only[Z6]at hb;have e1:=Z0 hb.1.1;have e2:=Z0 hb.1.2;subst e1 e2;have hle:=ZE hb.2;cases hl:Nat.blt _ _ with
     |true=>rw[hl]at h;cases h;refine⟨?_,by simp only[bM,LH,ZJ]⟩;rw[Xn,XJ];exact Vf (by rwa [Yw]at hl) hle|false=>
      rw[hl]at h;simp only[Yx]at h;cases hq:(Nat.beq _ _ && Nat.blt 0 _)with
      |false=>rw[hq]at h;cases h|true=>
       rw[hq]at h;cases h;simp only[Z6]at hq;have e3:=Z0 hq.1;subst e3;exact⟨Ve (by have:=hq.2;rwa [Yw]at this) hle,rfl⟩
   .cases h
  .cases h
 .obtain⟨rfl,h2⟩:=EF h;revert h2;clear h;intro h;split at h
  .rename_i q e s;obtain⟨hb,h⟩:=fY h;subst h;rw[Rb]at hb;exact⟨Gc (ZD (ZE hb) (by decide)),by simp only[bM,UC,ZJ]⟩
  .rename_i e q v;cases hv:isStr v with
   |true=>rw[hv]at h;cases h|false=>
    rw[hv]at h;simp only[Yx]at h;split at h
    .rename_i rows hr;split at h
     .rename_i ns hn;cases h;exact⟨zg (UU hr) (fun⟨s,e⟩=>by subst e;cases hv) hn,rfl⟩
     .cases h
    .cases h
  .cases h
 .cases h
def FJ:Value->Value->Bool
 |.int k a,.int k' b=>decide (k=k')&&oZ a b|.bool a,.bool b=>a == b|.string a,.string b=>uy a b|.slice none n c,.slice none n' c'=>Nat.beq n n'&&Nat.beq c c'|.nilFunc,.nilFunc=>true|.nilIface,.nilIface=>true|_,_=>false
theorem Ug{a b:Value}(h:FJ a b=true):a=b:=by
 unfold FJ at h;split at h
 .simp only[Z6,ZQ,A3]at h;rw[h.1,h.2]
 .rw[eq_of_beq h]
 .rw[K7,ZQ]at h;rw[h]
 .simp only[Z6]at h;rw[Z0 h.1,Z0 h.2]
 .rfl
 .rfl
 .cases h
def yY:List Value->List AV->Bool
 |[],[]=>true|v::l,.v w::m=>FJ v w&&yY l m|.slice none 0 0::l,.sl false _ []::m=>yY l m|_,_=>false
mutual
def jX:AV->AV->Bool
 |.v (.slice none 0 0),.sl nn _ rows=>!nn&&JQ rows|.v (.agg cs),.agg ys=>yY cs.toList ys|.v a,.v b=>FJ a b|.agg xs,.agg ys=>ox xs ys|.aG xs,.aG ys=>ox xs ys|.pc xs,.pc ys=>ox xs ys|.sl nn e rows,.sl Bg e' rows'=>(nn || !Bg)&&Nat.beq e e'&&zu rows rows'|.fl e rows,.sl _ e' rows'=>Nat.beq e e'&&zu rows rows'|_,_=>false
def ox:List AV->List AV->Bool
 |[],[]=>true|x::l,y::m=>jX x y&&ox l m|_,_=>false
def zu:List (List AV)->List (List AV)->Bool
 |[],[]=>true|x::l,y::m=>ox x y&&zu l m|_,_=>false
end
theorem LB:∀{l:List Value} {m:List AV},yY l m=true->cj (l.map .v) m
 |[],[],_=>.nil|v::l,.v w::m,h=>by simp only[yY,Z6]at h;exact .cons (.ED (by rw[Ug h.1])) (LB h.2)|.slice none 0 0::l,.sl false _ []::m,h=>.cons .nil (LB (by simpa[yY]using h))
theorem Wk.Ue{cs:Array Value}:Wk (.v (.agg cs)) (.agg (cs.toList.map .v)):=fun M v h=>by rw[h.aC];exact R.rM (RL.exact cs.toList)
mutual
theorem aaq:∀{x y:AV},jX x y=true->Wk x y
 |.v x,y,h=>by
  unfold jX at h;split at h
  .rename_i nn e rows hx;cases hx;cases nn<;>cases rows<;>simp only[JQ,Bool.not_true,Xt,Bool.and_true,Bool.and_false,Bool.true_and,Bool.false_and,ZT]at h;exact .nil
  .rename_i cs ys hx;cases hx;exact Wk.Ue.trans (.agg (LB h))
  .rename_i hx;cases hx;exact .ED (by rw[Ug h])
  all_goals first|(rename_i hx;cases hx;done)|(rename_i hx _;cases hx;done)|(cases h;done)|(rename_i hx _ _;cases hx;done)
 |.agg xs,y,h=>by cases y<;>simp only[jX,ZT]at h;exact .agg (sW h)|.aG xs,y,h=>by cases y<;>simp only[jX,ZT]at h;exact .aG (sW h)|.pc xs,y,h=>by cases y<;>simp only[jX,ZT]at h;exact .Km (sW h)|.sl nn e rows,y,h=>by cases y<;>simp only[jX,ZT]at h;rename_i Bg e' rows';simp only[Z6]at h;have he:=Z0 h.1.2;subst he;have h1:=Wk.E9 (nn:=nn) (e:=e) (GF h.2);cases nn<;>cases Bg<;>first|exact h1|exact h1.trans .sl|(exact absurd h.1.1 (by decide))
 |.any,y,h=>by cases y<;>simp only[jX,ZT]at h|.own ..,y,h=>by cases y<;>simp only[jX,ZT]at h|.ms ..,y,h=>by cases y<;>simp only[jX,ZT]at h|.lp ..,y,h=>by cases y<;>simp only[jX,ZT]at h|.bJ ..,y,h=>by cases y<;>simp only[jX,ZT]at h|.dD ..,y,h=>by cases y<;>simp only[jX,ZT]at h|.ai ..,y,h=>by cases y<;>simp only[jX,ZT]at h|.cl ..,y,h=>by cases y<;>simp only[jX,ZT]at h|.fl e rows,y,h=>by
  cases y<;>simp only[jX,ZT]at h;rename_i Bg e' rows';simp only[Z6]at h;have he:=Z0 h.1;subst he;exact(Wk.HQ (GF h.2)).trans (fun _ _ k=>k.HT Bg)
theorem sW:∀{l m:List AV},ox l m=true->cj l m
 |[],[],_=>.nil|x::l,y::m,h=>by simp only[ox,Z6]at h;exact .cons (aaq h.1) (sW h.2)
theorem GF:∀{l m:List (List AV)},zu l m=true->w9 l m
 |[],[],_=>⟨rfl,fun i h=>absurd h (by simp)⟩
 |x::l,y::m,h=>by
  simp only[zu,Z6]at h;obtain⟨e,k⟩:=GF h.2;have hx:=sW h.1;refine⟨by simp[e],fun i h1 h2=>?_⟩;cases i with
  |zero=>exact hx|succ i=>simpa using k i (by simpa using h1) (by simpa using h2)
end
structure eF(P:Program)[Glob P](f:FuncId)(as:List AV)(r:AV):Prop where
 pure:Pure P f as r
 wk:bM r=some r
def Eo:List (FuncId×List AV×AV)->FuncId->List AV->Option AV
 |[],_,_=>none|(g,as',r)::l,f,as=>bif Nat.beq g f&&ox as as' then some r else Eo l f as
def Kt(l:List (FuncId×List AV×AV))(f:FuncId)(as:List AV):Option AV:=bif l.any (fun e=>Nat.beq e.1 f)then match fe as with
 |some as=>Eo l f as|none=>none
 else none
theorem Ri{P:Program}[Glob P]:∀{l:List (FuncId×List AV×AV)} (_:∀e∈l,eF P e.1 e.2.1 e.2.2) {f:FuncId} {as:List AV} {r:AV},Eo l f as=some r->∃as',eF P f as' r/\cj as as'
 |[],_,f,as,r,h=>by cases h|e::l,hl,f,as,r,h=>by
  obtain⟨g,as',r'⟩:=e;simp only[Eo]at h;cases hb:(Nat.beq g f&&ox as as')with
  |true=>rw[hb]at h;cases h;simp only[Z6]at hb;have e:=Z0 hb.1;subst e;exact⟨as',hl _ ZK,sW hb.2⟩|false=>rw[hb]at h;exact Ri (fun e he=>hl e (ZN _ he)) h
theorem aiW{P:Program}[Glob P]{T:XT}{l:List (FuncId×List AV×AV)}(hT:T.pure=Kt l)(hl:∀e∈l,eF P e.1 e.2.1 e.2.2):Cg P T:=by
 intro f as r h;rw[hT]at h;unfold Kt at h;cases hb:l.any (fun e=>Nat.beq e.1 f)with
 |false=>rw[hb]at h;cases h|true=>
  rw[hb]at h;simp only[Y8]at h;split at h
  .rename_i Cx has;obtain⟨as',k1,k2⟩:=Ri hl h;exact⟨fun B=>BS k1.wk,fun B=>⟨fun σ=>(k1.pure.sp σ).wk ((su (uH has)).trans k2)⟩⟩
  .cases h
