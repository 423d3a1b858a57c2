import Derived.Test.YtmemninechdogaaGreatDoorChecked
import Derived.Lib.Strings
import Derived.Lib.Slices
import Derived.Lib.Walk
import Derived.Lib.Builder
import Derived.Lib.AppendStr
import Derived.Lib.UnsafeStr
import Derived.Lib.MakeNoZero
import Derived.Lib.FrozenHead
import Derived.WalkKit
import Derived.Shelf.Strings.Builder1
import Derived.Shelf.Strings.Builder2
import Derived.Shelf.Strings.OnBuilder
import Derived.Shelf.Small.Utf8
import Derived.Shelf.Small.Strs
import Derived.Shelf.Small.Wraps
import Derived.Shelf.Strings.BuilderF
import Derived.Shelf.Strings.BuilderK
import Derived.Shelf.Strings.Builder2Cap
import Derived.Shelf.Strconv.Atoi
import Derived.Shelf.Strconv.Itoa0
import Derived.Shelf.Strconv.Itoa1
import Derived.Shelf.Strconv.Itoa2
import Derived.Shelf.Strconv.Itoa3
import Derived.Shelf.Strings.Search2
import Derived.Shelf.Strings.Search3
import Derived.Shelf.Strings.Shaped
import Derived.Shelf.Sort.Plain
import Derived.Shelf.Strings.BuilderCap
import Derived.Shelf.Slices.Turned
import Derived.Shelf.Slices.Clone
import Derived.Shelf.SortM.SortNone
import Derived.Shelf.Bytes.IndexByte
import Derived.Test.YtmemninechdogaaGreatDoorSxX
import Derived.Test.YtmemninechdogaaGreatDoorXa
import Derived.Deep.RegionHeld3
set_option linter.all false
namespace Go.Proofs.YtmemninechdogaaGreatDoor
open _root_.Go.Proofs.Tryz
open Go.RowKit Go.Proofs
theorem sizeBuilder:(prog.info? 100).map (·.size)=some 2:=by kernel_rfl
theorem infoByte:∃i,prog.info? 5=some i/\i.zero=some (.int .u8 0)/\i.size=1/\i.bytes=1:=by
 have h:(prog.info? 5).isSome=true:=by kernel_rfl
 obtain⟨i,hi⟩:=X7.1 h;have h1:(prog.info? 5).bind (·.zero)=some (.int .u8 0):=by kernel_rfl
 have h2:(prog.info? 5).map (·.size)=some 1:=by kernel_rfl
 have h3:(prog.info? 5).map (·.bytes)=some 1:=by kernel_rfl
 rw[hi]at h1 h2 h3;exact⟨i,hi,by simpa using h1,by simpa using h2,by simpa using h3⟩
set_option maxHeartbeats 1000000 in
set_option maxRecDepth 100000 in
theorem apz(b:Nat)(w:World)(h0:w.cell? ⟨b,0,none⟩=some (.pointer (some ⟨b,0,none⟩))):
  Calls prog 89 #[.pointer (some ⟨b,0,none⟩)] w fun e w'=>e= .returned (.tuple #[])/\w'=w:=by
 obtain⟨j,hj,_⟩:=Z8.1 sizeBuilder
 go_enter func89,ntmps89
 go_wp2
 rw[Lib.run_neq_ptr_same w _ underlying98 hj]
 go_wp2
 go_end0
 exact⟨rfl,rfl⟩
set_option maxHeartbeats 1000000 in
set_option maxRecDepth 100000 in
theorem apy(b:Nat)(w:World)(h0:w.cell? ⟨b,0,none⟩=some (.pointer none))(tM:w.shape? b=some (100,2))(hfz:w.frozen? ⟨b,0,none⟩=false):
  Calls prog 89 #[.pointer (some ⟨b,0,none⟩)] w fun e w'=>e= .returned (.tuple #[])/\w'=w.setCell ⟨b,0,none⟩ (.pointer (some ⟨b,0,none⟩)):=by
 obtain⟨j,hj,hjs⟩:=Z8.1 sizeBuilder
 go_enter func89,ntmps89
 go_wp2
 rw[Lib.run_to_unsafe w ⟨b,0,none⟩ underlying98 underlying214 hj (by rw[hjs];decide) tM (Nat.zero_lt_succ 1)];simp only[Result.andThen];rw[Oper.upon_value]
 go_wp2
 rw[run_callFunc_extern func144 (by kernel_rfl) (by kernel_rfl) (by kernel_rfl) (e:=Extern.AbiNoEscape.same) (by kernel_rfl)];rw[Lib.run_noEscape];simp only[Result.andThen];rw[Oper.upon_value]
 go_wp2
 rw[Lib.run_from_unsafe w ⟨b,0,none⟩ underlying214 underlying98 hj tM (by kernel_rfl)];simp only[Result.andThen];rw[Oper.upon_value]
 go_wp2
 go_end0
 exact⟨rfl,rfl⟩
abbrev IsB(B b:Nat)(bs:List Value)(w:World):Prop:=Lib.IsBuilderF 100 5 B b bs w
def Oth(w w':World):Prop:=∀(k:Nat) (cs:Array Value) (t:TypeId) (f:Nat×Nat),t≠100->t≠5->w.heap[k]? =some (.cells cs t f)->w'.heap[k]? =some (.cells cs t f)
theorem apx(B b:Nat)(bs:List Value)(w:World)(h:IsB B b bs w):
  Calls prog 89 #[.pointer (some ⟨b,0,none⟩)] w fun e w'=>e= .returned (.tuple #[])/\(Lib.BuilderAtF 100 5 B b (.pointer (some ⟨b,0,none⟩)) bs w'/\Below B w w'/\Oth w w'):=by
 rcases h with h|h
 .refine(apy b w h.cell0 h.shape h.frozen0).mono ?_;rintro e w' ⟨rfl,rfl⟩;refine⟨rfl,h.used _,(Below.refl B w).setCell (p:=⟨b,0,none⟩) h.1 _,fun k cs t f h1 h2 h3=>?_⟩;obtain⟨_,v,hb,_⟩:=h;have hk:b≠k:=fun e=>by subst e;rw[hb]at h3;cases h3;exact h1 rfl
  rw[World.setCell,XW,Z9 hk];exact h3
 .refine(apz b w h.cell0).mono ?_;rintro e w' ⟨rfl,rfl⟩;exact⟨rfl,h,Below.refl B _,fun _ _ _ _ _ _ h=>h⟩
set_option maxHeartbeats 2000000 in
set_option maxRecDepth 100000 in
theorem apk(B b:Nat)(bs:List Value)(s:ByteArray)(w:World)(h:IsB B b bs w)(hlen:bs.length+s.size<=140737488355328)(hBw:B<=w.heap.size):
  Calls prog 40 #[.pointer (some ⟨b,0,none⟩),.string s] w fun e w'=>e= .returned (.tuple #[.int .i64 s.size,.nilIface])/\(IsB B b (bs++Lib.strCells s) w'/\Below B w w'/\Oth w w'):=by
 obtain⟨i0,hi,ew,iz,gV⟩:=infoByte
 go_enter func40,ntmps40
 go_wp2_with (go_at_call 89;refine(apx B b bs _ h).mono ?_)
 rintro e w1 ⟨rfl,h1,rm,PB⟩;obtain⟨hB,v,Ah,dL,aW⟩:=h1;have c0:w1.cell? ⟨b,0,none⟩=some (.pointer (some ⟨b,0,none⟩)):=by rw[Lib.cell_of_heap Ah];rfl
 have c1:w1.cell? ⟨b,1,none⟩=some v:=by rw[Lib.cell_of_heap Ah];rfl
 go_wp2_with (at_builtin;refine Lib.wpList_append_own_stringF _ rfl _ _ 76 9 rfl B 5 i0 underlying76 underlying9 hi ew iz gV _ _ _ rfl dL s rfl ?c3 ?c4 ?c5 ?_)
 case c3=>unfold maxLen;omega
 case c4=>omega
 case c5=>have:=rm.size;omega
 intro v' w2 ad6 Ao _;have az:b<w1.heap.size:=by
  rcases YN b w1.heap.size with h'|h'
  .exact h'
  .simp[Array.getElem?_eq_none h']at Ah
 have dC:w2.heap[b]? =some (.cells #[.pointer (some ⟨b,0,none⟩),v] 100 (0,0)):=by rw[Ao.block b az (fun e=>aW e.symm)];exact Ah
 have d0:w2.cell? ⟨b,0,none⟩=some (.pointer (some ⟨b,0,none⟩)):=by rw[Lib.cell_of_heap dC];rfl
 have d1:w2.cell? ⟨b,1,none⟩=some v:=by rw[Lib.cell_of_heap dC];rfl
 have f1:w2.frozen? ⟨b,1,none⟩=false:=Lib.frozen_of_heap dC 1;obtain⟨ao,n',cap,rfl⟩:∃ao n' cap,v'= .slice ao n' cap:=by
  rcases ad6.2 with⟨hv,_⟩|⟨g,cap,cur,fz,hv,_⟩
  .exact⟨_,_,_,hv⟩
  .exact⟨_,_,_,hv⟩
 go_wp2
 go_ret2
 refine⟨rfl,.inr ?_,?_,fun k cs t f t1 t2 hx=>?_⟩
 .exact Lib.BuilderAtF.put hB dC (bs':=bs++Lib.strCells s) (by simpa[Lib.strCells_length]using ad6) (by decide)
 .exact(rm.grown Ao (by have:=rm.size;omega) (fun k hk=>(dL.lt k hk).1)).setCell (p:=⟨b,1,none⟩) hB _
 .have hx:=PB k cs t f t1 t2 hx;have hk:k≠b:=fun e=>by subst e;rw[Ah]at hx;cases hx;exact t1 rfl
  have hg:some k≠v.ownBlock:=fun e=>by
   rcases dL.2 with⟨hv,_⟩|⟨g,cap,cur,fz,hv,_,hh,_⟩
   .rw[hv]at e;cases e
   .rw[hv]at e;cases e;rw[hh]at hx;cases hx;exact t2 rfl
  rw[World.setCell,XW,Z9 (fun e=>hk e.symm),Ao.block k (ZW.1 hx).1 hg];exact hx
end Go.Proofs.YtmemninechdogaaGreatDoor
namespace Go.Proofs
open Go.Shelf
def Tryz.lays169_ren:Go.Shelf.Ren:=⟨fun|169=>44|n=>n,fun|70=>98|9=>9|0=>0|72=>100|37=>76|127=>153|3=>3|5=>5|n=>n,fun|n=>n⟩
theorem Tryz.lays169:Go.Proofs.Lays.n169 Tryz.prog Tryz.lays169_ren:=Go.Sx.KX
theorem Tryz.Builder_Extra_169:Builder.Extra Tryz.prog Tryz.lays169_ren:={
 sizeBuilder:=by kernel_rfl
 liesBuilder:=by kernel_rfl
 t5:=Tryz.underlying5
 a5:=Tryz.isAgg5
 z5:=Tryz.sizeOf5
 v5:=Tryz.zeroValue5
 infoByte:=by kernel_rfl
 cellsByte:=by kernel_rfl
 sizeByte:=by kernel_rfl
 neB5:=by decide}
open Go.RowKit in
theorem Tryz.Builder_String_any_f(B b:Nat)(l:List UInt8)(w:World)(h:Lib.IsBuilderF 100 5 B b (Lib.byteCells l) w)(hBw:B<=w.heap.size):
  Calls Tryz.prog 44 #[.pointer (some ⟨b,0,none⟩)] w fun e w'=>e= .returned (.string ⟨l.toArray⟩)/\(Lib.IsBuilderF 100 5 B b (Lib.byteCells l) w'/\Below B w w'):=Any.Builder_String_any_f Tryz.lays169 Tryz.Builder_Extra_169 B b l w h hBw
end Go.Proofs
namespace Go.Proofs.YtmemninechdogaaGreatDoor
open _root_.Go.Proofs.Tryz
open Go.RowKit Go.Proofs
open Go.Sx (AV Mem RL R M0 Glob)
theorem anb{B B':Nat}{a c:World}(h:Below B a c)(hB:B'<=B):Below B' a c:=⟨h.os,h.tape,h.output,h.size,fun k hk=>h.block k (Yz hk hB)⟩
theorem aok{f:FuncId}{xs:List AV}{s:ae}{n:Int}(h:Sx.Pure prog f xs (.aG [sv s,iv n])){M:Mem}{w0:Sx.Base}{W:World}{y:Sx.Store}(hI:Sx.Inv prog M w0 y W){cs:List Value}(hR:RL M xs cs):
  Calls prog f cs.toArray W fun e W'=>e= .returned (.tuple #[.string s,.int .i64 n])/\Below W.heap.size W W':=by
 refine(h.sp [] M ⟨W,M⟩ W cs (Ec hI) hR).mono fun e w' ⟨M',r,af,_,bg,hr,hq⟩=>?_;obtain⟨rfl,_⟩:=hq;cases e<;>simp only[Sx.jV]at hr;refine⟨?_,⟨bg.os,bg.tape,bg.output,bg.size,bg.old⟩⟩;cases hr with
 |aG _ cs hl h1=>
  match cs,hl,h1 with
  |[a,b],_,h1=>have ha:=(h1 0 (by simp) (by simp)).aC;have hb:=(h1 1 (by simp) (by simp)).aC;simp only[Yq,Xc]at ha hb;subst ha hb;rfl
theorem an0{f:FuncId}{xs:List AV}{v:Value}(h:Sx.Pure prog f xs (.v v)){M:Mem}{w0:Sx.Base}{W:World}{y:Sx.Store}(hI:Sx.Inv prog M w0 y W){cs:List Value}(hR:RL M xs cs):
  Calls prog f cs.toArray W fun e W'=>e= .returned v/\Below W.heap.size W W':=by
 refine(h.sp [] M ⟨W,M⟩ W cs (Ec hI) hR).mono fun e w' ⟨M',r,af,_,bg,hr,hq⟩=>?_;obtain⟨rfl,_⟩:=hq;cases e<;>simp only[Sx.jV]at hr;exact⟨by rw[hr.aC],⟨bg.os,bg.tape,bg.output,bg.size,bg.old⟩⟩
theorem aoZ{M:Mem}{nn:Bool}{ah:Nat}{rows:List (List AV)}{v:Value}(h:R M (.sl nn ah rows) v):
  ∃a cap,v= .slice a rows.length cap/\∀i (hi:i<rows.length),∃bb off,a=some ⟨bb,off,none⟩/\∃cs:List Value,RL M rows[i] cs/\cs.length=ah/\∀j (hj:j<cs.length),M bb (off+i*ah+j)=some cs[j]:=by
 cases h with
 |nil _ _ a _=>exact⟨a,0,rfl,fun i hi=>absurd hi (by simp)⟩|sl _ _ _ b off cap cs bl hM hR hc hm=>
  refine⟨_,cap,rfl,fun i hi=>⟨b,off,rfl,(List.range ah).map fun j=>cs (i*ah+j),⟨by rw[bl i hi];simp,fun j h1 h2=>?_⟩,by simp,fun j hj=>?_⟩⟩
  .simp only[Zv,Xi];exact hR i hi j h1
  .simp only[Zv,Xi];have dU:j<ah:=by simpa using hj
   rw[XK];refine hM _ ?_;have:=Y4 ah (show i+1<=rows.length from hi);rw[YG,Nat.one_mul]at this;omega
theorem aqc{M:Mem}{nn:Bool}{ah:Nat}{rows:List (List AV)}{v:Value}(h:R M (.sl nn ah rows) v):∃a n c,v= .slice a n c:=by obtain⟨a,c,h,_⟩:=aoZ h;exact⟨a,_,c,h⟩
theorem aqW{M:Mem}{t:aO}{cs:List Value}(h:RL M t.cells cs):∃a n c,cs=[.string t.name,.string t.dh,.slice a n c,.int .i64 t.aH]:=by obtain⟨v0,c0,rfl,h0,h⟩:=h.aZ;obtain⟨v1,c1,rfl,h1,h⟩:=h.aZ;obtain⟨v2,c2,rfl,h2,h⟩:=h.aZ;obtain⟨v3,c3,rfl,h3,h⟩:=h.aZ;obtain rfl:=h.qD;obtain⟨a,n,c,rfl⟩:=aqc h2;exact⟨a,n,c,by rw[h0.aC,h1.aC,h3.aC]⟩
theorem anF{B b:Nat}{bs:List Value}{w w':World}(h:IsB B b bs w)(hb:Below w.heap.size w w'):IsB B b bs w':=by
 have key:∀p,Lib.BuilderAtF 100 5 B b p bs w->Lib.BuilderAtF 100 5 B b p bs w':=by
  rintro p ⟨hB,v,h1,⟨h2,h3⟩,h4⟩;have up:∀{k:Nat} {o:Obj},w.heap[k]? =some o->w'.heap[k]? =some o:=fun {k o} h=>by rw[hb.block k (ZW.1 h).1];exact h
  refine⟨hB,v,up h1,⟨h2,?_⟩,h4⟩;rcases h3 with h3|⟨g,cap,cur,fz,a,b,c,d⟩
  .exact .inl h3
  .exact .inr ⟨g,cap,cur,fz,a,b,up c,d⟩
 exact h.imp (key _) (key _)
theorem aqT{t:TypeId}{w:World}{b off:Nat}{cs:List Value}(ht:Sx.iH prog t=some (true,cs.length))(hc:∀j (hj:j<cs.length),w.cell? ⟨b,off+j,none⟩=some cs[j]):
  (Instr.loadAt t (.pointer (some ⟨b,off,none⟩))).run prog w= .ok (.agg cs.toArray) w:=by
 obtain⟨h1,h2⟩:=Sx.zn ht w;simp only[Instr.loadAt,Instr.sureAddr,loadVar,Sem.run_bind,Sem.run_pure,Result.andThen_ok,h1];simp only[YK,Sem.run_bind,h2,Result.andThen_ok,Sx.E0 b off cs.length cs rfl hc,Sem.run_pure]
theorem aq8{ops:Array Oper}{rest:List Oper}{o:Oper}{a:Act}{w:World}{Q:Exit->Act->World->Prop}(I4:o.guard=none)(ty:TypeId)(x:Operand)(ho:o.op= .load ty x)
  (b off:Nat) (hx:a.eval x= .pointer (some ⟨b,off,none⟩)) (C:Array Value) (hc:∀j (hj:j<C.toList.length),w.cell? ⟨b,off+j,none⟩=some C.toList[j]) (ht:Sx.iH prog ty=some (true,C.toList.length))
  (h:wpList prog ops Q rest (a.put o.dst (.agg C)) w):wpList prog ops Q (o::rest) a w:=
 wpList_plain I4 fun _ hK=>by unfold Oper.wp execOp;simp only[ho,hx,aqT ht hc,Sem.run_bind,Result.andThen_ok,Sem.run_pure,Array.toArray_toList];exact hK _ _ h
theorem apw{s:ae}(hs:s.size<=9223372036854775806){M:Mem}{w0:Sx.Base}{W:World}{y:Sx.Store}(hI:Sx.Inv prog M w0 y W):
  ∃v W' M',(convert 9 76 (.string s)).run prog W= .ok v W'/\R M' (.sl true 1 (s.data.toList.map Sx.dB)) v/\Sx.Inv prog M' ⟨W,M⟩ [] W'/\Below W.heap.size W W':=by
 obtain⟨nx,w',M',x,v,af,h1,h2,h3,h4,h5,rfl,rfl⟩:=(Sx.Gc (src:=9) (dst:=76) (e:=5) (ty:=0) (x:=.const (.string s)) (q:=Sx.zH prog 9) hs).sp [] (by kernel_rfl) M ⟨W,M⟩ W (fun x=>match x with|.const v=>v|_=>undef) (Ec hI) (RL.cons (.v _) RL.nil);simp only[execOp,Sem.run_bind]at h1;generalize (convert 9 76 (.string s)).run prog W=r at h1|-;cases r with
 |ok a w2=>obtain⟨rfl,rfl⟩:=Result.ok.inj h1;obtain rfl:v=a:=h2;exact⟨_,_,M',rfl,h5,h4,⟨h4.os,h4.tape,h4.output,h4.size,h4.old⟩⟩
 |_=>cases h1
theorem aoJ(l:List ae)(x:ae):Lib.byteCells (am5 l).data.toList++Lib.strCells (x++⟨#[10]⟩)=Lib.byteCells (am5 (l++[x])).data.toList:=by rw[aoI,am5,am5,am7,TG,Lib.byteCells_append];rfl
theorem aqD(n:Nat)(f:aj):anJ n++⟨#[32]⟩++ae1 f.version++⟨#[32]⟩++ano f=anC n f:=by unfold anC;simp only[anh]
theorem aoz{b o:Nat}{v:Value}{F:Array Value}{t:TypeId}{W W':World}(h:W.cell? ⟨b,o,none⟩=some v/\W.heap[b]? =some (.cells F t (0,0)))(hb:Below W.heap.size W W'):W'.cell? ⟨b,o,none⟩=some v/\W'.heap[b]? =some (.cells F t (0,0)):=
 have e:=hb.block b (ZW.1 h.2).1
 ⟨(World.cell?_of_block (a:=⟨b,o,none⟩) e).trans h.1,e.trans h.2⟩
theorem apY{b o:Nat}{v:Value}{F:Array Value}{t:TypeId}{W W':World}(h:W.cell? ⟨b,o,none⟩=some v/\W.heap[b]? =some (.cells F t (0,0)))(h1:t≠100)(h2:t≠5)(ho:Oth W W'):W'.cell? ⟨b,o,none⟩=some v/\W'.heap[b]? =some (.cells F t (0,0)):=
 have e:=ho _ _ _ _ h1 h2 h.2
 ⟨(World.cell?_of_block (a:=⟨b,o,none⟩) (e.trans h.2.symm)).trans h.1,e⟩
structure Eqq(a b:Nat):Prop where
 h:a=b
def anZ(M:Mem)(a:Option Addr)(l:List aj):Prop:=∀i (hi:i<l.length),∃bb off,a=some ⟨bb,off,none⟩/\∃cs:List Value,RL M (l.getD i default).cells cs/\cs.length=18/\∀j (hj:j<cs.length),M bb (off+i*18+j)=some cs[j]
set_option maxHeartbeats 4000000 in
set_option maxRecDepth 1000000 in
theorem apF(C:ay)(H:Int)(hC:Sx.Pure prog 33 [.agg C.cells] (iv 0))(hD:DOK C)(hH:Sx.Pure prog 43 [uh 0,.sl true 1 ((ank C).data.toList.map Sx.dB)] (uh H))
  (M:Mem) (w0:Sx.Base) (w:World) (y:Sx.Store) (hI:Sx.Inv prog M w0 y w) (aT:Option Addr) (cT:Nat) (ad:Nat->Option Addr) (cp:Nat->Nat)
  (hR:RL M C.cells [.slice aT C.tables.length cT,.slice (ad 0) (LL C 0).length (cp 0),.slice (ad 1) (LL C 1).length (cp 1),.slice (ad 2) (LL C 2).length (cp 2)])
  (hT:∀i (hi:i<C.tables.length),∃bb off,aT=some ⟨bb,off,none⟩/\∃cs:List Value,RL M (C.tables.getD i default).cells cs/\cs.length=4/\∀j (hj:j<cs.length),M bb (off+i*4+j)=some cs[j])
  (hF:∀n,anZ M (ad n) (LL C n)):
  Calls prog 15 #[.agg #[.slice aT C.tables.length cT,.slice (ad 0) (LL C 0).length (cp 0),.slice (ad 1) (LL C 1).length (cp 1),.slice (ad 2) (LL C 2).length (cp 2)]] w fun e w'=>
   e= .returned (.tuple #[.int .u64 H,.int .i64 0])/\Below w.heap.size w w':=by
 go_enter func15,ntmps15
 go_wp2_with (go_at_call 33;refine(an0 hC (hI.after ?bw) (RL.cons (R.rM hR) RL.nil)).mono ?_)
 case bw=>exact(Below.refl _ w).alloc (ZO _) _
 rintro e W1 ⟨rfl,hW⟩;have rm:Below w.heap.size w W1:=((Below.refl _ w).alloc (ZO _) _).trans (anb hW (by simp));have anT:W1.heap[w.heap.size]? =some (.cells #[.slice aT C.tables.length cT,.slice (ad 0) (LL C 0).length (cp 0),.slice (ad 1) (LL C 1).length (cp 1),.slice (ad 2) (LL C 2).length (cp 2)] 25 (0,0)):=(hW.block _ (by simp)).trans (heap_alloc_new _ _);have bl:w.heap.size+1<=W1.heap.size:=by have:=hW.size;simpa using this
 clear hW;have c0:(W1.alloc (.cells #[.pointer none,.slice none 0 0] 100)).cell? ⟨w.heap.size,0,none⟩=some (.slice aT C.tables.length cT):=by rw[Lib.cell_of_heap ((heap_alloc_old _ _ (by omega)).trans anT)];rfl
 have qh:=hD.tl;clear hR hC
 go_wp2
 go_loopw [24] (fun i wr=>∃k:Nat,k<=C.tables.length/\i= .int .i64 k/\IsB W1.heap.size W1.heap.size (Lib.byteCells (am5 ((ans C).take k)).data.toList) wr/\Below W1.heap.size W1 wr/\W1.heap.size+1<=wr.heap.size) (fun i _=>C.tables.length-(intOf i).toNat)
 case atStart=>
  refine⟨0,Z4 _,rfl,?_,?_,?_⟩
  .exact Lib.IsBuilderF.of (Lib.fresh_isBuilder 100 5 W1)
  .exact(Below.refl _ W1).alloc (ZO _) _
  .simp
 case round=>
  obtain⟨k,hk,rfl,hB,kJ,AU⟩:=hrel;by_cases cN:k<C.tables.length
  .obtain⟨bb,off,rfl,cs,bY,hl,hc⟩:=hT k cN;have tk:=ao6 anM (l:=C.tables) cN;have ht0:=hD.t _ (Sx.bN cN);obtain⟨t,ht⟩:∃t,t=C.tables.getD k default:=⟨_,rfl⟩
   rw[<-ht]at bY tk ht0;clear ht;obtain⟨a2,n2,c2,rfl⟩:=aqW bY;have mN:Below w.heap.size w wr:=rm.trans (anb kJ (by omega));have AN:∀j (hj:j<4),wr.cell? ⟨bb,off+k*4+j,none⟩=some ([.string t.name,.string t.dh,.slice a2 n2 c2,.int .i64 t.aH][j]'hj):=fun j hj=>(hI.after mN).bZ _ _ _ (hc j hj);have e0:=AN 0 (by decide);have e1:=AN 1 (by decide);have e2:=AN 2 (by decide);have e3:=AN 3 (by decide);clear AN hc;simp only[Yq,Xc,Yr]at e0 e1 e2 e3
   go_wp2_with (go_at_call 39;refine(aok (aqY t) (hI.after ?bw) (RL.cons (R.rM bY) RL.nil)).mono ?_)
   case bw=>exact mN.alloc (Nat.le_of_lt (by omega)) _
   rintro e W2 ⟨rfl,hW⟩;have vw:Below wr.heap.size wr W2:=((Below.refl _ wr).alloc (ZO _) _).trans (anb hW (by simp));have OM:=anF hB vw;have apX:Below W1.heap.size W1 W2:=kJ.trans (anb vw (by omega));have Jz:W1.heap.size+1<=W2.heap.size:=ZD AU vw.size;clear vw hW hB kJ AU e0 e1 e2 e3 bY hl anT c0;have iz:=ao4 t;have gV:=aqF hD k;rw[ht0]
   go_wp2_with (go_at_call 40;refine(apk _ _ _ _ _ OM ?len ?bw2).mono ?_)
   case len=>rw[Lib.byteCells_length,Mx];rw[Fh]at gV;have h3:(⟨#[10]⟩:ae).size=1:=rfl;omega
   case bw2=>omega
   rintro e W3 ⟨rfl,Ij,dC,_⟩
   go_wp2
   go_roundw
   case rel=>
    refine⟨k+1,by omega,by go_num,?_,apX.trans dC,ZD Jz dC.size⟩;rw[show(ans C).take (k+1)=_ from tk,<-aoJ];exact Ij
   case measure=>simp[intOf];omega
  .rw[ZM (by rw[ans,Z5];omega)]at hB;have anU:=(kJ.block _ (by omega)).trans anT;have c1:wr.cell? ⟨w.heap.size,1,none⟩=some (.slice (ad 0) (LL C 0).length (cp 0)):=by rw[Lib.cell_of_heap anU];rfl
   have c2:wr.cell? ⟨w.heap.size,2,none⟩=some (.slice (ad 1) (LL C 1).length (cp 1)):=by rw[Lib.cell_of_heap anU];rfl
   have c3:wr.cell? ⟨w.heap.size,3,none⟩=some (.slice (ad 2) (LL C 2).length (cp 2)):=by rw[Lib.cell_of_heap anU];rfl
   clear anT anU c0;have hB:IsB W1.heap.size W1.heap.size (Lib.byteCells (am5 (am6 C 0)).data.toList) wr:=hB;have mN:Below w.heap.size w wr:=rm.trans (anb kJ (by omega));clear kJ rm hT;generalize hb:W1.heap.size=b at*
   go_wp2
   generalize hA:wr.heap.size=A at*;have nK:∀o:Obj,(wr.alloc o).heap[A]? =some o:=fun o=>by rw[<-hA];exact heap_alloc_new _ _
   go_loopw [48] (fun i wr=>∃n:Nat,n<=3/\i= .int .i64 n/\IsB b b (Lib.byteCells (am5 (am6 C n)).data.toList) wr/\Below w.heap.size w wr/\wr.heap[A]? =some (.cells #[.slice (ad 0) (LL C 0).length (cp 0),.slice (ad 1) (LL C 1).length (cp 1),.slice (ad 2) (LL C 2).length (cp 2)] 23 (0,0))/\A+1<=wr.heap.size) (fun i _=>3-(intOf i).toNat)
   case atStart=>
    refine⟨0,Z4 _,rfl,?_,?_,nK _,?_⟩
    .exact anF hB ((Below.refl _ wr).alloc (ZO _) _)
    .exact mN.alloc (by omega) _
    .simp;omega
   case round=>
    obtain⟨n,hn,rfl,hB,mN,nK,AU⟩:=hrel;by_cases nI:n<3
    .obtain⟨N,eN⟩:∃N,Eqq n N:=⟨n,⟨rfl⟩⟩
     have AN:wr.cell? ⟨A,n,none⟩=some (.slice (ad N) (LL C N).length (cp N)):=by
      rw[Lib.cell_of_heap nK,<-eN.h]
      match n,nI with
      |0,_=>rfl|1,_=>rfl|2,_=>rfl
     have hN:N<3:=eN.h ▸ nI;have rz:=hD.ll N;have hFn:=hF N;have hDf:=hD.f N hN;rw[show am6 C n=am6 C N by rw[eN.h]]at hB;clear hF;rcases(by omega:n=0\/n=1\/n=2)with rfl|rfl|rfl
     all_goals
      simp only[show((0:Nat):Int)=0 from rfl,show((1:Nat):Int)=1 from rfl,show((2:Nat):Int)=2 from rfl]
      go_wp2
      go_loopw [55] (fun i wr=>∃k:Nat,k<=(LL C N).length/\i= .int .i64 k/\IsB b b (Lib.byteCells (am5 (am6 C N++(anq C N).take k)).data.toList) wr/\Below w.heap.size w wr/\wr.heap[A]? =some (.cells #[.slice (ad 0) (LL C 0).length (cp 0),.slice (ad 1) (LL C 1).length (cp 1),.slice (ad 2) (LL C 2).length (cp 2)] 23 (0,0))/\A+1<=wr.heap.size) (fun i _=>(LL C N).length-(intOf i).toNat)
      case atStart=>exact⟨0,Z4 _,rfl,by rw[List.take_zero,Y5];exact hB,mN,nK,AU⟩
      case round=>
       obtain⟨k,hk,rfl,hB,mN,nK,AU⟩:=hrel;by_cases cN:k<(LL C N).length
       .obtain⟨bb,off,e4,cs,bY,hl,hc⟩:=hFn k cN;have tk:=ao6 (anC N) (l:=LL C N) cN;obtain⟨hf0,hs,hv⟩:=hDf _ (Sx.bN cN);obtain⟨f,hf⟩:∃f,f=(LL C N).getD k default:=⟨_,rfl⟩
        rw[<-hf]at bY tk hf0 hs hv;clear hf;obtain⟨F,rfl⟩:∃F:Array Value,cs=F.toList:=⟨cs.toArray,by simp⟩
        have aoy:∀j (hj:j<F.toList.length),wr.cell? ⟨bb,off+k*18+j,none⟩=some F.toList[j]:=fun j hj=>(hI.after mN).bZ _ _ _ (hc j hj);have xY:Sx.iH prog 37=some (true,F.toList.length):=by rw[hl];kernel_rfl
        have h18:F.size=18:=by rw[<-hl,Zu]
        have an8:(prog.info? 37).map (·.size)=some F.size:=by rw[h18];kernel_rfl
        have vO:F.all (·.oneCell')=true:=by rw[<-Yp];exact bY.ov rfl
        clear AN hFn;rw[e4]
        go_wp2_with (first
         |(show wpList _ _ _ (⟨some 58,_,_,_,_,_⟩::_) _ _;refine aq8 rfl 37 (.tmp 57) rfl bb (off+k*18) rfl F aoy xY ?_)
         |(show wpList _ _ _ (⟨none,.store _ _ _,_,_,_,_⟩::_) _ _;refine wpList_store_row rfl 37 (.tmp 13) (.tmp 58) rfl wr.heap.size F rfl rfl 37 _ (heap_alloc_new _ _) an8 h18.symm vO ?_)
         |(show wpList _ _ _ (⟨some 60,_,_,_,_,_⟩::_) _ _;refine wpList_load_row rfl 37 (.tmp 13) rfl wr.heap.size rfl 37 F (0,0) _ (setRow_heap _ _ _ _ _ _ (heap_alloc_new _ _)) underlying37 rfl an8 ?_)
         |(go_at_call 41;refine(aok (apN f (by omega)) (hI.after ?bw) (cs:=[.agg F]) (RL.cons (by have:=R.rM bY;rwa [Array.toArray_toList]at this) RL.nil)).mono ?_))
        case bw=>exact mN.trans (anb (MC _ _ _) (by omega))
        rintro e W2 ⟨rfl,hW⟩;have vw:Below wr.heap.size wr W2:=(MC wr _ F).trans (anb hW (MC wr _ F).size);have OM:=anF hB vw;have anB:Below w.heap.size w W2:=mN.trans (anb vw mN.size);have an7:=(vw.block _ (by omega)).trans nK;have Jz:A+1<=W2.heap.size:=ZD AU vw.size;have hrF:W2.heap[wr.heap.size]? =some (.cells F 37 (0,0)):=(hW.block wr.heap.size (by simp[World.setRow])).trans (setRow_heap _ _ _ _ _ _ (heap_alloc_new _ _));have hvc:W2.cell? ⟨wr.heap.size,17,none⟩=some (.int .i64 f.version):=by obtain⟨v,h1,h2⟩:=Sx.RL.get bY (i:=17) (x:=iv f.version) (by rw[aj.pQ];rfl);rw[Lib.cell_of_heap hrF,h2.aC.symm];simpa using h1
        clear vw hW hB mN nK AU bY hl aoy xY h18 an8 vO hc e4;have iz:=aos (f:=f) (by omega);have gV:=aqG hD hN k;have an5:∀W,Below w.heap.size w W->Calls prog 42 #[.int .i64 f.version] W fun e W'=>e= .returned (.string (ae1 f.version))/\Below W.heap.size W W':=fun W hb=>an0 (anw f.version (by omega)) (hI.after hb) (RL.cons (.v _) RL.nil);rw[hf0];generalize hFB:wr.heap.size=FB at*;clear hFB;have hu9:=underlying9;have hbd:Below W2.heap.size W2 W2.drew:=⟨rfl,rfl,rfl,ZO _,fun _ _=>rfl⟩
        have OM:=anF OM hbd;have an5:=an5 W2.drew ⟨anB.os,anB.tape,anB.output,anB.size,anB.block⟩;have OW:W2.drew.cell? ⟨FB,17,none⟩=some (.int .i64 f.version)/\W2.drew.heap[FB]? =some (.cells F 37 (0,0)):=⟨hvc,hrF⟩
        have tS:ByteArray.extract ⟨#[102,100,112]⟩ 0 1=⟨#[102]⟩:=rfl;have kU:ByteArray.extract ⟨#[102,100,112]⟩ 1 2=⟨#[100]⟩:=rfl;have eu:ByteArray.extract ⟨#[102,100,112]⟩ 2 3=⟨#[112]⟩:=rfl;have hz3:=aoC hv;have hz5:∀c:UInt8,(Lib.byteCells (am5 (am6 C N++(anq C N).take k)).data.toList).length+((⟨#[c]⟩:ae)++⟨#[32]⟩++ae1 f.version++⟨#[32]⟩++ano f++⟨#[10]⟩).size<=140737488355328:=fun c=>by rw[Fh]at gV;rw[Lib.byteCells_length];simp only[Mx,TN,YB,ZY,ZP];omega
        have tQ:IntKind.i64.wrap 1=1:=rfl;have mU:IntKind.i64.wrap 2=2:=rfl;have hw3:IntKind.i64.wrap 3=3:=rfl;have AJ:¬9223372036854775807<2+ByteArray.size (ae1 f.version):=by omega
        have ic:¬9223372036854775807<2+ByteArray.size (ae1 f.version)+1:=by omega
        have hq3:¬9223372036854775807<2+ByteArray.size (ae1 f.version)+1+ByteArray.size (ano f):=by omega
        have hq4:¬9223372036854775807<2+ByteArray.size (ae1 f.version)+1+ByteArray.size (ano f)+1:=by omega
        have DG:W2.drew.heap.size=W2.heap.size:=rfl;have an7:W2.drew.heap[A]? =_:=an7
        go_wp2
        go_region_held3 (fun W=>W.cell? ⟨FB,17,none⟩=some (.int .i64 f.version)/\W.heap[FB]? =some (.cells F 37 (0,0)))
         (first|exact OW|exact aoz OW vx|exact apY (aoz OW vx) (by decide) (by decide) ho2)
         (first
          |(go_at_call 42;refine an5.mono ?_;rintro e W3 ⟨rfl,vx⟩)
          |(go_at_call 40;refine(apk _ _ _ _ _ (anF OM vx) (hz5 _) (by have:=vx.size;omega)).mono ?_;rintro e W4 ⟨rfl,Ij,dC,ho2⟩))
        all_goals
         go_wp2
         go_roundw
         case rel=>
          have l3:=vx.size;refine⟨k+1,by omega,by go_num,?_,anB.trans ((anb hbd (by omega)).trans ((anb vx (by omega)).trans (anb dC (by omega)))),ho2 _ _ _ _ (by decide) (by decide) ((vx.block _ (by omega)).trans an7),by have:=dC.size;omega⟩;have eL:=Zk anJ eN.h;rw[show(anq C N).take (k+1)=_ from tk,<-Zq,<-aoJ,<-aqD,<-eL];exact Ij
         case measure=>(simp[intOf];omega)
       .obtain rfl:k=(LL C N).length:=by omega
        rw[ZM (by rw[anq,Z5];omega)]at hB
        go_wp2
        go_roundw
        case rel=>exact⟨N+1,by omega,by rw[<-eN.h];go_num,hB,mN,nK,AU⟩
        case measure=>first|(simp[intOf];done)|fail
    .obtain rfl:n=3:=by omega
     obtain⟨iz,gV⟩:=anK hD 3 (ZO 3);have hz:=anI (c:=60100) (l:=am6 C 3) iz
     go_wp2_with (go_at_call 44;refine(Tryz.Builder_String_any_f _ _ _ _ hB (by omega)).mono ?_)
     rintro e W3 ⟨rfl,_,vx⟩;have anV:Below w.heap.size w W3:=mN.trans (anb vx (by omega));have e3:Value.string ⟨(am5 (am6 C 3)).data.toList.toArray⟩= .string (ank C):=by simp[ank]
     rw[e3];obtain⟨v,W4,M4,Pg,gh,jd,hb4⟩:=apw (s:=ank C) (by unfold ank;omega) (hI.after anV);clear hz iz gV hB nK hF
     go_wp2_with (go_at_call 43;refine(an0 hH jd (RL.cons (.v _) (RL.cons gh RL.nil))).mono ?_)
     rintro e W5 ⟨rfl,Dy⟩
     go_wp2
     go_ret2
     exact⟨rfl,anV.trans ((anb hb4 anV.size).trans (anb Dy (ZD anV.size hb4.size)))⟩
