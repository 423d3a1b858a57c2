/- Contracts of the library, laid for this program (the kit's shelf, in its plain words). -/
import Derived.Shelf.Strings.Builder1
import Derived.Shelf.Strings.Builder2
import Derived.Shelf.Strings.OnBuilder
import Derived.Shelf.Small.Utf8
import Derived.Shelf.Small.Bits
import Derived.Shelf.Small.Strs
import Derived.Shelf.Small.Wraps
import Derived.Shelf.Strings.BuilderF
import Derived.Shelf.Strings.BuilderK
import Derived.Shelf.Strings.Builder2Cap
import Derived.Shelf.Strconv.Atoi
import Derived.Shelf.Strconv.Itoa0
import Derived.Shelf.Strconv.Itoa1
import Derived.Shelf.LaysM
import Derived.Shelf.Strconv.Itoa2
import Derived.Shelf.Strconv.Itoa3
import Derived.Shelf.Strconv.AtoiErrFast
import Derived.Shelf.Strconv.ParseIntEmpty
import Derived.Shelf.Strconv.AtoiFail
import Derived.Shelf.Strconv.Clone
import Derived.Shelf.Strconv.SyntaxError
import Derived.Shelf.LaysC
import Derived.Shelf.Strconv.ToError
import Derived.Shelf.Strconv.AtoiErr
import Derived.Shelf.Strconv.ErrVar
import Derived.Shelf.Strconv.Lower
import Derived.Shelf.Strconv.ParseUint10
import Derived.Shelf.Strconv.ParseUint10Empty
import Derived.Shelf.Strconv.ParseUint10Any
import Derived.Shelf.Strconv.ParseInt10
import Derived.Shelf.Strconv.AtoiLong
import Derived.Shelf.Strconv.AtoiInnerAll
import Derived.Shelf.Strconv.RangeError
import Derived.Shelf.Strconv.ToErrorRange
import Derived.Shelf.Strconv.AtoiAll
import Derived.Shelf.Strconv.ErrVarAll
import Derived.Shelf.Strings.Search1
import Derived.Shelf.Strings.Search2
import Derived.Shelf.Strings.Search3
import Derived.Shelf.Strings.Shaped
import Derived.Shelf.Sort.Plain
import Derived.Shelf.Strings.BuilderCap
import Derived.Shelf.SortM.SortNone
import Derived.Shelf.Bytes.IndexByte
import Derived.Test.YtbihckigennlhaaGreatDoorSxX3
import Derived.Test.YtbihckigennlhaaGreatDoorChecked
import Derived.Test.YtbihckigennlhaaGreatDoorQb
import Derived.Test.YtbihckigennlhaaGreatDoorPl
import Derived.Test.YtbihckigennlhaaGreatDoorZb
import Derived.Test.YtbihckigennlhaaGreatDoorSxB
import Derived.BigCall
namespace Go.Proofs
open Go.Shelf
def Tryz.lays170_ren:Go.Shelf.Ren:=⟨fun|170=>63|n=>n,fun|70=>111|3=>3|0=>0|72=>113|37=>22|5=>5|n=>n,fun|n=>n⟩
theorem Tryz.lays170:Go.Proofs.Lays.n170 Tryz.prog Tryz.lays170_ren:=Go.Sx.pK
def Tryz.lays169_ren:Go.Shelf.Ren:=⟨fun|169=>64|n=>n,fun|70=>111|9=>9|0=>0|72=>113|37=>22|127=>161|3=>3|5=>5|n=>n,fun|n=>n⟩
theorem Tryz.lays169:Go.Proofs.Lays.n169 Tryz.prog Tryz.lays169_ren:=Go.Sx.pK
theorem Tryz.Builder_Extra_169:Builder.Extra Tryz.prog Tryz.lays169_ren:={
 sizeBuilder:=by kernel_rfl
 liesBuilder:=by kernel_rfl
 t5:=Tryz.underlying5
 a5:=Tryz.isAgg5
 z5:=Tryz.sizeOf5
 v5:=Tryz.zeroValue5
 infoByte:=by kernel_rfl
 cellsByte:=by kernel_rfl
 sizeByte:=by kernel_rfl
 neB5:=by decide}
open Go.RowKit in
theorem Tryz.Builder_Len_f(B b:Nat)(bs:List Value)(w:World)(h:Lib.IsBuilderF 113 5 B b bs w):
  Calls Tryz.prog 63 #[.pointer (some ⟨b,0,none⟩)] w fun e w'=>e= .returned (.int .i64 bs.length)∧w'=w:=Any.Builder_Len_f Tryz.lays170 B b bs w h
open Go.RowKit in
theorem Tryz.Builder_String_any_f(B b:Nat)(l:List UInt8)(w:World)(h:Lib.IsBuilderF 113 5 B b (Lib.byteCells l) w)(hBw:B≤w.heap.size):
  Calls Tryz.prog 64 #[.pointer (some ⟨b,0,none⟩)] w fun e w'=>e= .returned (.string ⟨l.toArray⟩)∧(Lib.IsBuilderF 113 5 B b (Lib.byteCells l) w'∧Below B w w'):=Any.Builder_String_any_f Tryz.lays169 Tryz.Builder_Extra_169 B b l w h hBw
end Go.Proofs
set_option linter.unusedVariables false
set_option linter.unusedSimpArgs false
namespace Go.Proofs.YtbihckigennlhaaGreatDoor
open Go.RowKit Go.Proofs
open Go.Sx (AV Mem RL R M0 Glob)
theorem aBx{B B':Nat}{a c:World}(h:Below B a c)(hB:B'≤B):Below B' a c:=⟨h.os,h.tape,h.output,h.size,fun k hk=>h.block k (Nat.lt_of_lt_of_le hk hB)⟩
theorem aDm{M:Mem}{w0:Sx.Base}{w W:World}{σ:Sx.Store}(hI:Sx.Inv Tryz.prog M w0 σ w)(hb:Below w.heap.size w W):Sx.Inv Tryz.prog M ⟨W,M⟩ [] W:=Mj (hI.after hb)
theorem aC0{f:FuncId}{xs:List AV}{s:af}{n:Int}(h:Sx.Pure Tryz.prog f xs (.aI [sv s,iv n])){M:Mem}{W:World}(hI:Sx.Inv Tryz.prog M ⟨W,M⟩ [] W){cs:List Value}(hR:RL M xs cs):
  Calls Tryz.prog f cs.toArray W fun e W'=>e= .returned (.tuple #[.string s,.int .i64 n])∧Below W.heap.size W W':=by
 refine(h.sp [] M ⟨W,M⟩ W cs hI hR).mono fun e w' ⟨M',r,σ',_,hI',hr,hq⟩=> ?_
 obtain⟨rfl,_⟩:=hq
 cases e<;>simp only[Sx.uB]at hr
 refine⟨?_,⟨hI'.os,hI'.tape,hI'.output,hI'.size,hI'.old⟩⟩
 cases hr with
 |aI _ cs hl h1=>
  match cs,hl,h1 with
  |[a,b],_,h1=>
   have ha:=(h1 0 (by simp) (by simp)).az
   have hb:=(h1 1 (by simp) (by simp)).az
   simp only[YI,XQ]at ha hb
   subst ha hb;rfl
theorem aDW{M:Mem}{nn:Bool}{ag:Nat}{rows:List (List AV)}{v:Value}(h:R M (.sl nn ag rows) v):
  ∃ a cap,v= .slice a rows.length cap∧∀ i (hi:i<rows.length),∃ bb off,a=some ⟨bb,off,none⟩∧∃ cs:List Value,RL M rows[i] cs∧cs.length=ag∧∀ j (hj:j<cs.length),M bb (off+i * ag+j)=some cs[j]:=by
 cases h with
 |nil _ _ a _=>exact⟨a,0,rfl,fun i hi=>absurd hi (by simp)⟩
 |sl _ _ _ b off cap cs hsz hM hR hc hm=>
  refine⟨_,cap,rfl,fun i hi=>⟨b,off,rfl,(List.range ag).map fun j=>cs (i * ag+j),⟨by rw[hsz i hi];simp,fun j h1 h2=> ?_⟩,by simp,fun j hj=> ?_⟩⟩
  ·simp only[Zg,List.getElem_range];exact hR i hi j h1
  ·simp only[Zg,List.getElem_range]
   have ef:j<ag:=by simpa using hj
   rw[Nat.add_assoc]
   refine hM _ ?_
   have:=Nat.mul_le_mul_right ag (show i+1≤rows.length from hi)
   rw[YL,Nat.one_mul]at this
   omega
theorem aE7{M:Mem}{nn:Bool}{ag:Nat}{rows:List (List AV)}{v:Value}(h:R M (.sl nn ag rows) v):∃ a n c,v= .slice a n c:=by
 obtain⟨a,c,h,_⟩:=aDW h;exact⟨a,_,c,h⟩
theorem aIY{M:Mem}{t:gp}{cs:List Value}(h:RL M t.cells cs):∃ a n c,cs=[.string t.name,.string t.oX,.slice a n c,.int .i64 t.keep]:=by
 obtain⟨v0,c0,rfl,h0,h⟩:=h.cN
 obtain⟨v1,c1,rfl,h1,h⟩:=h.cN
 obtain⟨v2,c2,rfl,h2,h⟩:=h.cN
 obtain⟨v3,c3,rfl,h3,h⟩:=h.cN
 obtain rfl:=h.ub
 obtain⟨a,n,c,rfl⟩:=aE7 h2
 exact⟨a,n,c,by rw[h0.az,h1.az,h3.az]⟩
theorem aI0{t:gp}{M:Mem}{W:World}{cs:List Value}(hI:Sx.Inv Tryz.prog M ⟨W,M⟩ [] W)(h:RL M t.cells cs):
  Calls Tryz.prog 27 #[.agg cs.toArray] W fun e W'=>e= .returned (.tuple #[.string (aJD t),.int .i64 (l6 t)])∧Below W.heap.size W W':=
 aC0 (aD1 t) hI (RL.cons (R.tA h) RL.nil)
theorem aDn{B b:Nat}{bs:List Value}{w w':World}(h:IsB B b bs w)(hb:Below w.heap.size w w'):IsB B b bs w':=by
 have key:∀ p,Lib.BuilderAtF 113 5 B b p bs w→Lib.BuilderAtF 113 5 B b p bs w':=by
  rintro p ⟨hB,v,h1,⟨h2,h3⟩,h4⟩
  have up:∀ {k:Nat} {o:Obj},w.heap[k]? =some o→w'.heap[k]? =some o:=fun {k o} h=>by rw[hb.block k (Zq.1 h).1];exact h
  refine⟨hB,v,up h1,⟨h2,?_⟩,h4⟩
  rcases h3 with h3|⟨g,cap,cur,fz,a,b,c,d⟩
  ·exact .inl h3
  ·exact .inr ⟨g,cap,cur,fz,a,b,up c,d⟩
 exact h.imp (key _) (key _)
theorem aC1(l:List (af×Int))(x:af×Int):Lib.byteCells (aJc l).data.toList++Lib.strCells (x.1++⟨#[10]⟩)=Lib.byteCells (aJc (l++[x])).data.toList:=by
 rw[aCv,oO,aBD,Lib.byteCells_append];rfl
theorem aFN{t:TypeId}{w:World}{b off:Nat}{cs:List Value}(ht:Sx.gq Tryz.prog t=some (true,cs.length))(hc:∀ j (hj:j<cs.length),w.cell? ⟨b,off+j,none⟩=some cs[j]):
  (Instr.loadAt t (.pointer (some ⟨b,off,none⟩))).run Tryz.prog w= .ok (.agg cs.toArray) w:=by
 obtain⟨h1,h2⟩:=Sx.Df ht w
 simp only[Instr.loadAt,Instr.sureAddr,loadVar,Sem.run_bind,Sem.run_pure,Result.andThen_ok,h1]
 simp only[Y7,Sem.run_bind,h2,Result.andThen_ok,Sx.Ot b off cs.length cs rfl hc,Sem.run_pure]
theorem aI8{ops:Array Oper}{rest:List Oper}{o:Oper}{a:Act}{w:World}{Q:Exit→Act→World→Prop}(Bb:o.guard=none)(ty:TypeId)(x:Operand)(ho:o.op= .load ty x)
  (b off:Nat) (hx:a.eval x= .pointer (some ⟨b,off,none⟩)) (C:Array Value) (hc:∀ j (hj:j<C.toList.length),w.cell? ⟨b,off+j,none⟩=some C.toList[j]) (ht:Sx.gq Tryz.prog ty=some (true,C.toList.length))
  (h:wpList Tryz.prog ops Q rest (a.put o.dst (.agg C)) w):wpList Tryz.prog ops Q (o::rest) a w:=
 wpList_plain Bb fun _ hK=>by
  unfold Oper.wp execOp
  simp only[ho,hx,aFN ht hc,Sem.run_bind,Result.andThen_ok,Sem.run_pure,Array.toArray_toList]
  exact hK _ _ h
theorem aCj(w:World)(o:Obj)(C:Array Value):Below w.heap.size w ((w.alloc o).setRow w.heap.size C):=by
 refine⟨rfl,rfl,rfl,?_,fun k hk=> ?_⟩
 ·show w.heap.size≤((w.alloc o).setRow w.heap.size C).heap.size
  simp[World.setRow]
 ·rw[setRow_other _ _ _ _ (by omega)];exact heap_alloc_old _ _ hk
theorem aEM{f:mb}(hs:f.body.size≤100){M:Mem}{W:World}{C:Array Value}(hI:Sx.Inv Tryz.prog M ⟨W,M⟩ [] W)(h:RL M f.cells C.toList):
  Calls Tryz.prog 28 #[.agg C] W fun e W'=>e= .returned (.tuple #[.string (aJz f),.int .i64 (aJj f)])∧Below W.heap.size W W':=
 aC0 (aC6 f hs) hI (cs:=[.agg C]) (RL.cons (by have:=R.tA h;rwa [Array.toArray_toList]at this) RL.nil)
set_option maxHeartbeats 4000000 in
set_option maxRecDepth 1000000 in
theorem aFy(m:oK)(hm:m.Small)(M:Mem)(w0:Sx.Base)(w:World)(σ:Sx.Store)(hI:Sx.Inv Tryz.prog M w0 σ w)(aT aF:Option Addr)(cT cF:Nat)
  (hT:∀ i (hi:i<m.tables.length),∃ bb off,aT=some ⟨bb,off,none⟩∧∃ cs:List Value,RL M (m.tables.getD i default).cells cs∧cs.length=4∧∀ j (hj:j<cs.length),M bb (off+i * 4+j)=some cs[j])
  (hF:∀ i (hi:i<m.AK.length),∃ bb off,aF=some ⟨bb,off,none⟩∧∃ cs:List Value,RL M (m.AK.getD i default).cells cs∧cs.length=18∧∀ j (hj:j<cs.length),M bb (off+i * 18+j)=some cs[j]):
  Calls Tryz.prog 25 #[.agg #[.slice aT m.tables.length cT,.slice aF m.AK.length cF]] w fun e w'=>e= .returned (.tuple #[.string (sy m),.int .i64 (aJg m)])∧Below w.heap.size w w':=by
 have hmt:=hm.t
 have hmf:=hm.f
 go_enter Tryz.func25,Tryz.ntmps25
 go_wp2
 go_loopw [16] (fun i wr=>∃ k:Nat,k≤m.tables.length∧i= .int .i64 k∧aJd ((jl m).take k)=0∧IsB (w.heap.size+1) (w.heap.size+1) (Lib.byteCells (aJc ((jl m).take k)).data.toList) wr∧wr.heap[w.heap.size]? =some (.cells #[.slice aT m.tables.length cT,.slice aF m.AK.length cF] 62 (0,0))∧Below w.heap.size w wr∧w.heap.size+2≤wr.heap.size) (fun i _=>m.tables.length-(intOf i).toNat)
 case atStart=>
  refine⟨0,ZK _,rfl,rfl,?_,?_,?_,?_⟩
  ·have h:=Lib.fresh_isBuilder 113 5 (w.alloc (.cells #[.slice aT m.tables.length cT,.slice aF m.AK.length cF] 62))
   rw[show(w.alloc (.cells #[.slice aT m.tables.length cT,.slice aF m.AK.length cF] 62)).heap.size=w.heap.size+1 by simp]at h
   exact Lib.IsBuilderF.of h
  ·rw[heap_alloc_old _ _ (by simp)];exact heap_alloc_new _ _
  ·exact((Below.refl _ w).alloc (ZI _) _).alloc (by simp) _
  ·simp
 case round=>
  obtain⟨k,hk,rfl,hp,hB,aB5,iW,hsz⟩:=hrel
  by_cases bY:k<m.tables.length
  ·obtain⟨bb,off,rfl,cs,ku,hl,hc⟩:=hT k bY
   have tk:=aCc (fun t=>(aJD t,l6 t)) (l:=m.tables) bY
   obtain⟨t,ht⟩:∃ t,t=m.tables.getD k default:=⟨_,rfl⟩
   rw[← ht]at ku tk
   clear ht
   obtain⟨a2,n2,c2,rfl⟩:=aIY ku
   have hcell:∀ j (hj:j<4),wr.cell? ⟨bb,off+k * 4+j,none⟩=some ([.string t.name,.string t.oX,.slice a2 n2 c2,.int .i64 t.keep][j]'hj):=fun j hj=>(hI.after iW).dB _ _ _ (hc j hj)
   have e0:=hcell 0 (by decide)
   have e1:=hcell 1 (by decide)
   have e2:=hcell 2 (by decide)
   have e3:=hcell 3 (by decide)
   clear hcell hc
   simp only[YI,XQ,YN]at e0 e1 e2 e3
   go_wp2_with (go_at_call 27;refine(aI0 (aDm hI ?bw) ku).mono ?_)
   case bw=>exact iW.alloc (Nat.le_of_lt (by omega)) _
   rintro e W1 ⟨rfl,hW⟩
   have qC:Below wr.heap.size wr W1:=((Below.refl _ wr).alloc (ZI _) _).trans (aBx hW (by simp))
   have hB1:=aDn hB qC
   have aEY:W1.heap[w.heap.size]? =_:=(qC.block _ (by omega)).trans aB5
   have aBZ:Below w.heap.size w W1:=iW.trans (aBx qC (by omega))
   have aCs:w.heap.size+2≤W1.heap.size:=YG hsz qC.size
   clear qC hW hB aB5 iW hsz e0 e1 e2 e3 ku hl
   have pn:=aCH t
   by_cases het:l6 t=0
   ·go_wp2_with (go_at_call 62;refine(aD8 _ _ _ _ _ hB1 ?len ?bw2).mono ?_)
    case len=>rw[Lib.byteCells_length,bK];have h2:=aB9 m k hmt;rw[pR]at h2;have h3:(⟨#[10]⟩:af).size=1:=rfl;omega
    case bw2=>omega
    rintro e W2 ⟨rfl,W9,fx⟩
    go_wp2
    go_roundw
    case rel=>
     refine⟨k+1,by omega,by go_num,aDq hp tk het,?_,(fx.block _ (by omega)).trans aEY,aBZ.trans (aBx fx (by omega)),YG aCs fx.size⟩
     rw[show(jl m).take (k+1)=_ from tk,← aC1];exact W9
    case measure=>simp[intOf];omega
   ·go_wp2
    go_ret2
    exact⟨by rw[aDw hp tk het,aFo hp tk het];rfl,aBZ⟩
  ·have KY:aJd (jl m)=0:=by rwa [ZC (by rw[jl,Z3];omega)]at hp
   rw[ZC (l:=jl m) (by rw[jl,Z3];omega)]at hB
   have hzT:=aB9 m (jl m).length hmt
   rw[List.take_length]at hzT
   have c1:wr.cell? ⟨w.heap.size,1,none⟩=some (.slice aF m.AK.length cF):=by rw[Lib.cell_of_heap aB5];rfl
   clear aB5 hp
   go_wp2
   go_loopw [35] (fun i wr=>∃ k:Nat,k≤m.AK.length∧i= .int .i64 k∧aJd ((lr m).take k)=0∧IsB (w.heap.size+1) (w.heap.size+1) (Lib.byteCells (aJc (jl m++(lr m).take k)).data.toList) wr∧Below w.heap.size w wr∧w.heap.size+2≤wr.heap.size) (fun i _=>m.AK.length-(intOf i).toNat)
   case atStart=>exact⟨0,ZK _,rfl,rfl,by rw[List.take_zero,Zn];exact hB,iW,hsz⟩
   case round=>
    obtain⟨k,hk,rfl,hp,hB,iW,hsz⟩:=hrel
    by_cases bY:k<m.AK.length
    ·obtain⟨bb,off,rfl,cs,ku,hl,hc⟩:=hF k bY
     have tk:=aCc (fun f=>(aJz f,aJj f)) (l:=m.AK) bY
     have hsf:=hm.b _ (Sx.cW bY)
     obtain⟨f,hf⟩:∃ f,f=m.AK.getD k default:=⟨_,rfl⟩
     rw[← hf]at ku tk hsf
     clear hf
     obtain⟨C,rfl⟩:∃ C:Array Value,cs=C.toList:=⟨cs.toArray,by simp⟩
     have hcell:∀ j (hj:j<C.toList.length),wr.cell? ⟨bb,off+k * 18+j,none⟩=some C.toList[j]:=fun j hj=>(hI.after iW).dB _ _ _ (hc j hj)
     have hag:Sx.gq Tryz.prog 72=some (true,C.toList.length):=by rw[hl];kernel_rfl
     have h18:C.size=18:=by rw[← hl,YH]
     have aCt:(Tryz.prog.info? 72).map (·.size)=some C.size:=by rw[h18];kernel_rfl
     have vp:C.all (·.oneCell')=true:=by rw[← Array.all_toList];exact ku.IH rfl
     go_wp2_with (first
      |(show wpList _ _ _ (⟨some 38,_,_,_,_,_⟩::_) _ _;refine aI8 rfl 72 (.tmp 37) rfl bb (off+k * 18) rfl C hcell hag ?_)
      |(show wpList _ _ _ (⟨none,.store _ _ _,_,_,_,_⟩::_) _ _;refine wpList_store_row rfl 72 (.tmp 10) (.tmp 38) rfl wr.heap.size C rfl rfl 72 _ (heap_alloc_new _ _) aCt h18.symm vp ?_)
      |(show wpList _ _ _ (⟨some 40,_,_,_,_,_⟩::_) _ _;refine wpList_load_row rfl 72 (.tmp 10) rfl wr.heap.size rfl 72 C (0,0) _ (setRow_heap _ _ _ _ _ _ (heap_alloc_new _ _)) Tryz.underlying72 rfl aCt ?_)
      |(go_at_call 28;refine(aEM hsf (aDm hI ?bw) ku).mono ?_))
     case bw=>exact iW.trans (aBx (aCj _ _ _) (by omega))
     rintro e W1 ⟨rfl,hW⟩
     have qC:Below wr.heap.size wr W1:=(aCj wr _ C).trans (aBx hW (aCj wr _ C).size)
     have hB1:=aDn hB qC
     have aBZ:Below w.heap.size w W1:=iW.trans (aBx qC (by omega))
     have aCs:w.heap.size+2≤W1.heap.size:=YG hsz qC.size
     clear qC hW hB iW hsz ku hl hcell hag h18 aCt vp hc
     have pn:=aCo hsf
     by_cases het:aJj f=0
     ·go_wp2_with (go_at_call 62;refine(aD8 _ _ _ _ _ hB1 ?len ?bw2).mono ?_)
      case len=>rw[Lib.byteCells_length,bK,aB8,aBD,Z7];have h2:=aCw m k hmf hm.b;rw[pR]at h2 hzT;have h3:(⟨#[10]⟩:af).size=1:=rfl;omega
      case bw2=>omega
      rintro e W2 ⟨rfl,W9,fx⟩
      go_wp2
      go_roundw
      case rel=>
       refine⟨k+1,by omega,by go_num,aDq hp tk het,?_,aBZ.trans (aBx fx (by omega)),YG aCs fx.size⟩
       rw[show(lr m).take (k+1)=_ from tk,← ZA,← aC1];exact W9
      case measure=>simp[intOf];omega
     ·go_wp2
      go_ret2
      exact⟨by rw[aDv KY hp tk het,aFn KY hp tk het];rfl,aBZ⟩
    ·have hFk:aJd (lr m)=0:=by rwa [ZC (by rw[lr,Z3];omega)]at hp
     have hzF:=aCw m (lr m).length hmf hm.b
     rw[List.take_length]at hzF
     rw[ZC (l:=lr m) (by rw[lr,Z3];omega)]at hB
     have hE:=aFm KY hFk
     obtain⟨S,hS⟩:∃ S,S=aJc (jl m++lr m):=⟨_,rfl⟩
     have hM:aJg m=0→sy m=S:=fun h=>(if_pos h).trans hS.symm
     rw[← hS]at hB hE
     clear hS
     have hlen:(Lib.byteCells S.data.toList).length=S.size:=Lib.byteCells_length _
     go_wp2_with (go_at_call 63;refine(Tryz.Builder_Len_f _ _ _ _ hB).mono ?_)
     rintro e W1 ⟨rfl,rfl⟩
     rw[hlen]
     by_cases nH:16384<S.size
     ·go_wp2
      go_ret2
      rw[if_pos nH]at hE
      exact⟨by rw[hE,show sy m=⟨#[]⟩from if_neg (by rw[hE];decide)];rfl,iW⟩
     ·go_wp2_with (go_at_call 64;refine(Tryz.Builder_String_any_f _ _ _ _ hB (by omega)).mono ?_)
      rintro e W2 ⟨rfl,_,fx⟩
      go_wp2
      go_ret2
      rw[if_neg nH]at hE
      exact⟨by rw[hM hE,hE];rfl,iW.trans (aBx fx (by omega))⟩
end Go.Proofs.YtbihckigennlhaaGreatDoor
