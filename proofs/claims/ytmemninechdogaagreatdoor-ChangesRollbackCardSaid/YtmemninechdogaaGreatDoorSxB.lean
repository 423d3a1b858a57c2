import Derived.Test.YtmemninechdogaaGreatDoorSxX
import Derived.ProofKit
import Derived.SizedLaws
import Derived.OpenShut
import Derived.Deep.Slices
set_option linter.all false
namespace Go.Sx
open Go.RowKit Go.ChangeShapes Go.WideShapes
def M0(W:World):Mem:=fun b o=>W.cell? ⟨b,o,none⟩
def F5(P:Program)[Glob P](W:World):Prop:=(∀g l,Glob.av P g=some l->R (M0 W) (.pc l) (.pointer (some ⟨g,0,none⟩)))/\Glob.gw P W
theorem aeS{P:Program}[Glob P]{W:World}(hg:F5 P W):Inv P (M0 W) ⟨W,M0 W⟩ [] W:=⟨rfl,rfl,rfl,ZO _,fun _ _=>rfl,fun _ _ _ h=>h,(fun _ h=>nomatch h),List.nodup_nil,hg.1,hg.2,fun _ _ _ h _=>h⟩
theorem Inv.below{P:Program}[Glob P]{M:Mem}{W:Base}{w:World}{u:Store}(h:Inv P M W u w):Below W.heap.size W w:=⟨h.os,h.tape,h.output,h.size,h.old⟩
theorem Pure.calls{P:Program}[Glob P]{f:FuncId}{as:List AV}{W:World}{args:Array Value}(h:Pure P f as (.v (.bool true)))(hg:F5 P W)(hR:RL (M0 W) as args.toList):
  Calls P f args W fun e W'=>e= .returned (.bool true)/\Below W.heap.size W W':=by
 have:=h.sp [] (M0 W) ⟨W,M0 W⟩ W args.toList (aeS hg) hR;refine this.mono fun e w' ⟨M',r,af,_,hI,hr,hq⟩=>?_;obtain⟨rfl,_⟩:=hq;cases e<;>simp only[jV]at hr;exact⟨by rw[hr.aC],hI.below⟩
section
variable {H:Type}{enc:TypeId×Value->H}{P:Program}[Glob P]{W:World}
def zm(P:Program)(t:TypeId)(d:DataW H):Prop:=∀n∈d.weights P t,n<=reachBytes
theorem Uz{P:Program}{e:TypeId}{d:DataW H}{n:Nat}:∀{l:List (DataW H)},d∈l->n∈d.weights P e->n∈DataW.weightsAll P e l
 |x::l,h,hn=>by
  simp only[DataW.weightsAll,ZI];rcases ZR.1 h with rfl|h
  .grind
  .exact .inr (Uz h hn)
def Rd(enc:TypeId×Value->H)(P:Program)[Glob P](W:World)(n:Nat)(t:TypeId)(C:List AV->Prop):Prop:=
 ∀fuel,fuel<=n->∀base held cs x,DataW.trod enc P W base (fun _=>true) held fuel t cs=some x->zm P t x.1->∃l,RL (M0 W) l cs/\C l
theorem Rd.mono{n:Nat}{t:TypeId}{C D:List AV->Prop}(h:Rd enc P W n t C)(hc:∀l,C l->D l):Rd enc P W n t D:=
 fun fuel hf base held cs x hx hw=>by obtain⟨l,h1,h2⟩:=h fuel hf base held cs x hx hw;grind
theorem Rd.zero(t:TypeId)(C:List AV->Prop):Rd enc P W 0 t C:=fun fuel hf base held cs x hx _=>by
 obtain rfl:fuel=0:=by omega
 simp[DataW.trod]at hx
theorem RL.one{M:Mem}{x:AV}{v:Value}(h:R M x v):RL M [x] [v]:=RL.cons h RL.nil
theorem Rd.int{n:Nat}{t:TypeId}{k:IntKind}(ht:P.underlying t=some (.int k)):Rd enc P W n t fun l=>∃z:Int,l=[.v (.int k z)]/\(Lit.int k z).wf=true:=fun fuel hf base held cs x hx AW=>by
 cases fuel with
 |zero=>simp[DataW.trod]at hx|succ n=>unfold DataW.trod at hx;split at hx<;>simp_all;rename_i k' z _;obtain⟨⟨rfl,hw⟩,_⟩:=hx;exact⟨_,RL.one (.v _),z,rfl,hw⟩
theorem Rd.bool{n:Nat}{t:TypeId}(ht:P.underlying t=some .bool):Rd enc P W n t fun l=>∃b:Bool,l=[.v (.bool b)]:=fun fuel hf base held cs x hx AW=>by
 cases fuel with
 |zero=>simp[DataW.trod]at hx|succ n=>unfold DataW.trod at hx;rw[ht]at hx;split at hx<;>simp_all;rename_i b;exact⟨_,RL.one (.v (.bool b)),by simp_all⟩
theorem T0{t:TypeId}{base fuel:Nat}{held:Bool}{cs:List Value}{x:DataW H×List MemPlace}(ht:P.underlying t=some .string)(hx:DataW.trod enc P W base (fun _=>true) held fuel t cs=some x):
  ∃s:ByteArray,cs=[.string s]/\x=(.lit (.string s.data.toList),[])/\s.size<=maxLen:=by
 cases fuel with
 |zero=>simp[DataW.trod]at hx|succ n=>unfold DataW.trod at hx;grind
theorem Rd.str{n:Nat}{t:TypeId}(ht:P.underlying t=some .string):Rd enc P W n t fun l=>∃s:ByteArray,l=[.v (.string s)]/\s.size<=reachBytes:=fun fuel hf base held cs x hx hw=>by obtain⟨s,rfl,rfl,_⟩:=T0 ht hx;exact⟨_,RL.one (.v _),s,rfl,hw _ (by simp[DataW.weights])⟩
theorem GX{a:Addr}{base n:Nat}{cs:List Value}(h:W.cells? base a n=some cs):cs.length=n/\∀j,j<n->W.cell? (a.add j)=cs[j]? :=by obtain⟨_,h1,h2⟩:=World.cells?_some h;grind
theorem K3{a:Addr}{v:Value}(h:W.cell? a=some v):a.spot=none:=by
 unfold World.cell? at h;split at h
 .simp_all
 grind
theorem Rd.slice{n:Nat}{t e:TypeId}{C:List AV->Prop}{ah:Nat}(ht:P.underlying t=some (.slice e))(hs:P.cellsOf e=ah)(he:0<ah)(hC:Rd enc P W n e C):
  Rd enc P W (n+1) t fun l=>∃rows:List (List AV),l=[.sl false ah rows]/\rows.length<=maxLen/\∀r∈rows,C r:=fun fuel hf base held cs x hx hw=>by
 subst hs;rcases DataW.trod_slice ht hx with⟨rfl,_⟩|⟨a,len,cap,elems,rest,m,rfl,rfl,eu,_,hlc,lT,hlen,IV,dM,_⟩
 .exact⟨_,RL.one (.nil false _ none (fun h=>nomatch h)),[],rfl,by simp,fun r hr=>by cases hr⟩
 .have hwe:∀y∈elems,zm P e y.1:=fun y hy n hn=>hw n (by
   rw[eu];simp only[DataW.weights,ht,ZR,ZI]
   exact .inr (.inl (Uz (Ze.2 ⟨y,hy,rfl⟩) hn)))
  have row:∀i,i<len->∃(cs':List Value) (r:List AV),cs'.length=P.cellsOf e/\(∀j,j<P.cellsOf e->W.cell? (a.add (i*P.cellsOf e+j))=cs'[j]?)/\RL (M0 W) r cs'/\C r:=by
   intro i hi;have h1:=IV i hi;have h2:∃y,elems[i]? =some y:=⟨_,ZX (by omega)⟩
   obtain⟨y,hy⟩:=h2;rw[hy,Option.bind_eq_some_iff]at h1;obtain⟨cs',hc,rD⟩:=h1;obtain⟨r,hr,hCr⟩:=hC m (by omega) _ _ _ _ rD (hwe y (Y0 hy));obtain⟨g1,g2⟩:=GX hc;exact⟨cs',r,g1,fun j hj=>by rw[← Go.Deep.add_add];grind,hr,hCr⟩
  by_cases eY:len=0
  .subst eY;by_cases tB:cap=0
   .subst tB;exact⟨_,RL.one (.nil false _ (some a) (fun _=>rfl)),[],rfl,by simp,fun r hr=>by cases hr⟩
   .by_cases vU:a.spot=none
    .obtain⟨b,o,s⟩:=a;simp only at vU;subst vU;refine⟨_,RL.one (R.nP (rows:=[]) (b:=b) (off:=o) (cs:=fun _=>undef) ⟨fun i hi=>absurd hi (by simp),fun k hk=>absurd hk (by simp),fun i hi=>absurd hi (by simp)⟩ (Z4 _) lT false),[],rfl,by simp,fun r hr=>by cases hr⟩
    .exfalso;have h1:=(dM rfl).2 0 (by omega);have h2:∃y,rest[0]? =some y:=⟨_,ZX (by rw[(dM rfl).1];omega)⟩
     obtain⟨y,hy⟩:=h2;rw[hy,Option.bind_eq_some_iff]at h1;obtain⟨cs',hc,_⟩:=h1;obtain⟨g1,g2⟩:=GX hc;have g3:=g2 0 he;rw[ZX (by omega)]at g3;have:=K3 g3;simp[Addr.add]at this;exact vU this
  .obtain⟨cs0,r0,l0,g0,_,_⟩:=row 0 (by omega);have qe:a.spot=none:=by have:=g0 0 he;rw[ZX (by omega)]at this;have:=K3 this;simpa[Addr.add]using this
   obtain⟨b,o,s⟩:=a;simp only at qe;subst qe;have hch:∃f:Nat->List Value,∃g:Nat->List AV,∀i,i<len->(f i).length=P.cellsOf e/\(∀j,j<P.cellsOf e->W.cell? (Addr.add ⟨b,o,none⟩ (i*P.cellsOf e+j))=(f i)[j]?)/\RL (M0 W) (g i) (f i)/\C (g i):=by refine⟨fun i=>if h:i<len then(row i h).choose else[],fun i=>if h:i<len then(row i h).choose_spec.choose else[],fun i hi=>?_⟩;simp only[hi,dif_pos];exact(row i hi).choose_spec.choose_spec
   obtain⟨f,g,rq⟩:=hch;have qb:((List.range len).map g).length=len:=by simp
   refine⟨[.sl false (P.cellsOf e) ((List.range len).map g)],RL.one ?_,_,rfl,by rw[qb];omega,fun r hr=>?_⟩
   .have:=R.nP (M:=M0 W) (b:=b) (off:=o) (cap:=cap) (ah:=P.cellsOf e) (rows:=(List.range len).map g) (cs:=fun k=>(f (k / P.cellsOf e)).getD (k%P.cellsOf e) undef) ⟨fun i hi=>?_,fun k hk=>?_,fun i hi j hj=>?_⟩ (by rw[qb];omega) lT false
    .rw[qb]at this;exact this
    .have cJ:i<len:=by rw[<-qb];exact hi
     simp only[Zv,Xi];rw[(rq i cJ).2.2.1.1];exact(rq i cJ).1
    .rw[qb]at hk;have hd:k / P.cellsOf e<len:=Nat.div_lt_of_lt_mul (by rw[Xf];exact hk);have hm:k%P.cellsOf e<P.cellsOf e:=Nat.mod_lt _ he;have h2:=(rq _ hd).2.1 _ hm;have e2:k / P.cellsOf e*P.cellsOf e+k%P.cellsOf e=k:=by rw[Xf];exact Nat.div_add_mod _ _
     rw[e2,Addr.add_lit]at h2;show W.cell? ⟨b,o+k,none⟩=_;rw[h2,Z1,ZX (by rw[(rq _ hd).1];exact hm)];rfl
    .have cJ:i<len:=by rw[<-qb];exact hi
     have dU:j<P.cellsOf e:=by simp only[Zv,Xi]at hj;rw[(rq i cJ).2.2.1.1,(rq i cJ).1]at hj;exact hj
     have e1:(i*P.cellsOf e+j) / P.cellsOf e=i:=by rw[Xf,Nat.mul_add_div he,Nat.div_eq_of_lt dU,Yr]
     have e2:(i*P.cellsOf e+j)%P.cellsOf e=j:=by rw[Xf,Nat.mul_add_mod,Nat.mod_eq_of_lt dU]
     simp only[e1,e2,Zv,Xi];have hr:=(rq i cJ).2.2.1;have h3:j<(f i).length:=by rw[(rq i cJ).1];exact dU
     rw[Z1,ZX h3];exact hr.2 j (by rw[hr.1];exact h3) h3
   .obtain⟨i,hi,rfl⟩:=Ze.1 hr;exact(rq i (by simpa using hi)).2.2.2
def Ge:List (List AV->Prop)->List AV->Prop
 |[],l=>l=[]|C::Cs,l=>∃a b,l=a++b/\C a/\Ge Cs b
def Ek(P:Program)[Glob P]:List Field->Nat->Nat->Bool
 |[],o,n=>Nat.beq o n|f::fs,o,n=>Nat.beq f.offset o&&Ek P fs (o+P.cellsOf f.type) n
inductive zh(enc:TypeId×Value->H)(P:Program)[Glob P](W:World)(n:Nat):List Field->List (List AV->Prop)->Prop
 |nil:zh enc P W n [] []
 |cons {f:Field} {fs:List Field} {C:List AV->Prop} {Cs:List (List AV->Prop)} (h:Rd enc P W n f.type C) (t:zh enc P W n fs Cs):zh enc P W n (f::fs) (C::Cs)
theorem RL.take_drop{M:Mem}{l:List AV}{cs:List Value}{n:Nat}{r:List AV}(h:RL M l (cs.take n))(k:RL M r (cs.drop n)):RL M (l++r) cs:=by have:=RL.append h k;simp_all
theorem Sl{n m:Nat}(hm:m<=n){base:Nat}{held:Bool}:∀{fs:List Field} {Cs:List (List AV->Prop)} {o:Nat} {cs:List Value},zh enc P W n fs Cs->Ek P fs o cs.length=true->
  (∀f∈fs,∃x,DataW.trod enc P W base (fun _=>true) held m f.type ((cs.drop f.offset).take (P.cellsOf f.type))=some x/\zm P f.type x.1)->∃l,RL (M0 W) l (cs.drop o)/\Ge Cs l
 |[],_,o,cs,.nil,hl,_=>by have:=Z0 hl;subst this;exact⟨[],by rw[YM];exact RL.nil,rfl⟩|f::fs,_,o,cs,.cons hf ht,hl,hx=>by simp only[Ek,Z6]at hl;have ho:=Z0 hl.1;obtain⟨x,tS,hxw⟩:=hx f (by simp);obtain⟨l1,h1,h2⟩:=hf m hm _ _ _ _ tS hxw;obtain⟨l2,h3,h4⟩:=Sl hm ht hl.2 (fun g hg=>hx g (by simp[hg]));refine⟨l1++l2,?_,l1,l2,rfl,h2,h4⟩;rw[ho]at h1;refine RL.take_drop h1 ?_;simp_all
theorem Rd.struct{n:Nat}{t:TypeId}{fs:Array Field}{Cs:List (List AV->Prop)}(ht:P.underlying t=some (.struct fs))(hl:Ek P fs.toList 0 (P.cellsOf t)=true)(hC:zh enc P W n fs.toList Cs):
  Rd enc P W (n+1) t (Ge Cs):=fun fuel hf base held cs x hx hw=>by
 obtain⟨xs,m,rfl,eu,hlen,di,hf'⟩:=DataW.trod_struct ht hx;have:=Sl (enc:=enc) (m:=m) (by omega) (base:=base) (held:=held) (o:=0) hC (by rw[hlen];grind) (fun f vD=>by
  obtain⟨i,hi,rfl⟩:=Zc vD;have h1:=hf' i fs.toList[i] (by grind);have jD:i<xs.length:=by grind
  refine⟨xs[i],by grind,fun n hn=>hw n ?_⟩;rw[eu];simp only[DataW.weights,ht]
  exact DataW.weights_mem_each (j:=i) (by grind) (by grind) n hn)
 grind
theorem yE{X:Type}{f:X->List AV}{W:X->Prop}:∀{rows:List (List AV)},(∀r∈rows,∃a,r=f a/\W a)->∃ls:List X,rows=ls.map f/\∀a∈ls,W a
 |[],_=>⟨[],rfl,fun _ h=>by cases h⟩
 |r::rows,h=>by obtain⟨a,rfl,ha⟩:=h r (by simp);obtain⟨ls,rfl,hl⟩:=yE (rows:=rows) (fun r hr=>h r (by simp[hr]));refine⟨a::ls,rfl,fun b hb=>?_⟩;grind
theorem apq{b0 base:Nat}{r:Reach}{held:Bool}{t:TypeId}{v:Value}{d:DataW H}{p:List MemPlace}{C:List AV->Prop}(hn:(match P.underlying t with|some (.struct _)|some (.array _ _)=>false|_=>true)=true)
  (hv:Value.okWide P W r b0 t v) (h:DataW.Trod enc P W base (fun _=>true) held t v d p) (hw:zm P t d) (hC:∀n,Rd enc P W n t C):∃x,R (M0 W) x v/\C [x]:=by
 obtain⟨fuel,hf⟩:=h;obtain⟨l,h1,h2⟩:=hC fuel fuel (ZO _) _ _ _ _ hf hw;have hc:v.cells= #[v]:=by
  cases v with
  |agg cs=>
   unfold Value.okWide at hv;split at hv
   .grind
   .grind
   .unfold Cell.okWide at hv;all_goals(unfold Cell.ok at hv;grind)
  |_=>rfl
 rw[hc]at h1;obtain⟨x,rfl⟩:∃x,l=[x]:=List.length_eq_one_iff.1 (by simpa using h1.1);exact⟨x,by simpa using h1.2 0 (by simp) (by simp),h2⟩
theorem MA{b0 base:Nat}{r:Reach}{held:Bool}{t:TypeId}{fs:Array Field}{v:Value}{d:DataW H}{p:List MemPlace}{C:List AV->Prop}(ht:P.underlying t=some (.struct fs))
  (hv:Value.okWide P W r b0 t v) (h:DataW.Trod enc P W base (fun _=>true) held t v d p) (hw:zm P t d) (hC:∀n,Rd enc P W n t C):∃l,R (M0 W) (.agg l) v/\C l:=by
 obtain⟨fuel,hf⟩:=h;obtain⟨l,h1,h2⟩:=hC fuel fuel (ZO _) _ _ _ _ hf hw;unfold Value.okWide at hv;rw[ht]at hv;obtain⟨cs,rfl,_⟩:=hv;exact⟨l,R.rM (cs:=cs.toList) h1,h2⟩
theorem aiH{f:Func}{s:ChangeSpec}{W':World}{args:Array Value}{ds gs:List (DataW H)}{before:List MemPlace}{tb:TypeId}
  (hl:laidOutB P=true) (hp:f.params.toList.all (fun t=>P.readableRec t&&decide (t<P.types.size))=true) (PU:s.vars=[])
  (jC:(s.fn H (ds++gs)).results=[.lit (.bool true)]/\(s.fn H (ds++gs)).args=ds/\(s.fn H (ds++gs)).vars=[]) (PK:f.resultTypes= #[tb]) (rE:P.underlying tb=some .bool)
  (hW:DataW.Whole enc P f.params.toList s.vars false W args.toList ds gs before) (hb:Below W.heap.size W W'):s.post enc P f false true false false W args (.bool true) W':=by
 have hold:∀p∈before,(fun b=>decide (b<W.heap.size)) p.block=true:=fun p hp=>by simpa using hW.lt p hp
 have az:=hW.lt;have hW':=hW;obtain⟨pa,q,hA,hV,rfl,hz,hn⟩:=hW;rw[PU]at hV;obtain⟨rfl,rfl⟩:=trodVars_none hV;simp only[Y5]at jC az hold hz hW' hn
 have again:∀sp:Nat->Bool,(∀p∈pa,sp p.block=true)->∀{ts:List TypeId} {vs:List Value} {ds:List (DataW H)} {q:List MemPlace},ts.all (fun t=>P.readableRec t&&decide (t<P.types.size))=true->(∀p∈q,p∈pa)->
   DataW.TrodAll enc P W 0 (fun _=>true) true ts vs ds q->DataW.TrodAll enc P W' 0 sp true ts vs ds q:=by
  intro sp dM ts
  induction ts with
  |nil=>intro vs ds q _ _ h;obtain⟨rfl,rfl,rfl⟩:=trodAll_nil h;exact rfl
  |cons t ts ih=>intro vs ds q bW hq h;obtain⟨v,vs',d,ds',p1,p2,rfl,rfl,rfl,h1,h2⟩:=trodAll_cons h;rw[List.all_cons,Z6,Z6]at bW;exact⟨p1,p2,WideElems.Trod_stays hl bW.1.1 (by grind) h1 (fun x hx=>hb.same (az x (hq x (by simp[hx])))) (fun x hx=>dM x (hq x (by simp[hx]))),ih bW.2 (fun x hx=>hq x (by simp[hx])) h2,rfl⟩
 have O5:∀sp:Nat->Bool,(∀p∈pa,sp p.block=true)->DataW.TrodAll enc P W' 0 sp true f.params.toList args.toList (s.fn H ds).args pa:=fun sp dM=>by grind
 have ad7:∀(b:Nat) (sp:Nat->Bool) (hd:Bool),DataW.TrodAll enc P W' b sp hd f.resultTypes.toList ((Value.bool true).resultList f.resultTypes.size) (s.fn H ds).results []:=fun b sp hd=>by rw[jC.1,PK];exact trodAll_mk1 (shut_bool rE true)
 have ael:∀sp:Nat->Bool,DataW.TrodVars enc P W' sp s.vars (s.fn H ds).vars []:=fun sp=>by rw[PU,jC.2.2];rfl
 refine⟨ds,[],pa,[],pa,[],hW',by grind,by grind,by grind,hb.frame _,fun _=>?_⟩;refine⟨ok_one PK rfl (okWide_bool_mk rE _),_,_,([]++pa)++[],⟨[]++pa,[],trodAll_append (by simpa using O5 _ (fun _ _=>rfl)) (by simpa using ad7 _ _ _),by simpa using ael _,rfl,?_,?_⟩,?_⟩
 .intro b off hp;have hm:MemPlace.cell b off∈pa:=by simpa using hp
  rw[hb.frozen (p:=⟨b,off,none⟩) (az _ hm)];exact hz b off hm
 .intro ha;cases ha
 grind
