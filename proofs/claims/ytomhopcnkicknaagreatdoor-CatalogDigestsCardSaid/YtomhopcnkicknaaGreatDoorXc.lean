/- Calls from the kit's walk of a digest; slices of rows, cell by cell. -/
import Derived.Test.YtomhopcnkicknaaGreatDoorQb
import Derived.Test.YtomhopcnkicknaaGreatDoorXa
import Derived.Test.YtomhopcnkicknaaGreatDoorCn
import Derived.Test.YtomhopcnkicknaaGreatDoorSxB
import Derived.BigCall
set_option linter.unusedVariables false
set_option linter.unusedSimpArgs false
namespace Go.Proofs.YtomhopcnkicknaaGreatDoor
open _root_.Go.Proofs.Tryz
open Go.RowKit Go.Proofs
open Go.Sx (AV Mem RL R M0 Glob)
theorem kz{B B':Nat}{a c:World}(h:Below B a c)(hB:B'≤B):Below B' a c:=⟨h.os,h.tape,h.output,h.size,fun k hk=>h.block k (YE hk hB)⟩
theorem KG{f:FuncId}{xs:List AV}{s:ae}{n:Int}(h:Sx.Pure prog f xs (.aE [sv s,iv n])){M:Mem}{w0:Sx.Base}{W:World}{σ:Sx.Store}(hI:Sx.Inv prog M w0 σ W){cs:List Value}(hR:RL M xs cs):
  Calls prog f cs.toArray W fun e W'=>e= .returned (.tuple #[.string s,.int .i64 n])∧Below W.heap.size W W':=by
 refine(h.sp [] M ⟨W,M⟩ W cs (vX hI) hR).mono fun e w' ⟨M',r,af,_,aS,hr,hq⟩=> ?_
 obtain⟨rfl,_⟩:=hq
 cases e<;>simp only[Sx.sy]at hr
 refine⟨?_,⟨aS.os,aS.tape,aS.output,aS.size,aS.old⟩⟩
 cases hr with
 |aE _ cs hl h1=>
  match cs,hl,h1 with
  |[a,b],_,h1=>
   have ha:=(h1 0 (by simp) (by simp)).aC
   have hb:=(h1 1 (by simp) (by simp)).aC
   simp only[YR,Yj]at ha hb
   subst ha hb;rfl
theorem EI{f:FuncId}{xs:List AV}{v:Value}(h:Sx.Pure prog f xs (.v v)){M:Mem}{w0:Sx.Base}{W:World}{σ:Sx.Store}(hI:Sx.Inv prog M w0 σ W){cs:List Value}(hR:RL M xs cs):
  Calls prog f cs.toArray W fun e W'=>e= .returned v∧Below W.heap.size W W':=by
 refine(h.sp [] M ⟨W,M⟩ W cs (vX hI) hR).mono fun e w' ⟨M',r,af,_,aS,hr,hq⟩=> ?_
 obtain⟨rfl,_⟩:=hq
 cases e<;>simp only[Sx.sy]at hr
 exact⟨by rw[hr.aC],⟨aS.os,aS.tape,aS.output,aS.size,aS.old⟩⟩
theorem QB{M:Mem}{nn:Bool}{ag:Nat}{rows:List (List AV)}{v:Value}(h:R M (.sl nn ag rows) v):
  ∃ a cap,v= .slice a rows.length cap∧∀ i (hi:i<rows.length),∃ bb off,a=some ⟨bb,off,none⟩∧∃ cs:List Value,RL M rows[i] cs∧cs.length=ag∧∀ j (hj:j<cs.length),M bb (off+i * ag+j)=some cs[j]:=by
 cases h with
 |nil _ _ a _=>exact⟨a,0,rfl,fun i hi=>absurd hi (by simp)⟩
 |sl _ _ _ b off cap cs bC hM hR hc hm=>
  refine⟨_,cap,rfl,fun i hi=>⟨b,off,rfl,(List.range ag).map fun j=>cs (i * ag+j),⟨by rw[bC i hi];simp,fun j h1 h2=> ?_⟩,by simp,fun j hj=> ?_⟩⟩
  ·simp only[ZF,Yg];exact hR i hi j h1
  ·simp only[ZF,Yg]
   have dK:j<ag:=by simpa using hj
   rw[XJ]
   refine hM _ ?_
   have:=Yr ag (show i+1≤rows.length from hi)
   rw[YT,Nat.one_mul]at this
   omega
theorem adN{M:Mem}{nn:Bool}{ag:Nat}{rows:List (List AV)}{v:Value}(h:R M (.sl nn ag rows) v):∃ a n c,v= .slice a n c:=by
 obtain⟨a,c,h,_⟩:=QB h;exact⟨a,_,c,h⟩
theorem aL6{M:Mem}{t:aP}{cs:List Value}(h:RL M t.cells cs):∃ a n c,cs=[.string t.name,.string t.cv,.slice a n c,.int .i64 t.bY]:=by
 obtain⟨v0,c0,rfl,h0,h⟩:=h.bL
 obtain⟨v1,c1,rfl,h1,h⟩:=h.bL
 obtain⟨v2,c2,rfl,h2,h⟩:=h.bL
 obtain⟨v3,c3,rfl,h3,h⟩:=h.bL
 obtain rfl:=h.nR
 obtain⟨a,n,c,rfl⟩:=adN h2
 exact⟨a,n,c,by rw[h0.aC,h1.aC,h3.aC]⟩
theorem zH{B b:Nat}{bs:List Value}{w w':World}(h:pq B b bs w)(hb:Below w.heap.size w w'):pq B b bs w':=by
 have key:∀ p,Lib.BuilderAtF 49 5 B b p bs w→Lib.BuilderAtF 49 5 B b p bs w':=by
  rintro p ⟨hB,v,h1,⟨h2,h3⟩,h4⟩
  have up:∀ {k:Nat} {o:Obj},w.heap[k]? =some o→w'.heap[k]? =some o:=fun {k o} h=>by rw[hb.block k (Z0.1 h).1];exact h
  refine⟨hB,v,up h1,⟨h2,?_⟩,h4⟩
  rcases h3 with h3|⟨g,cap,cur,fz,a,b,c,d⟩
  ·exact .inl h3
  ·exact .inr ⟨g,cap,cur,fz,a,b,up c,d⟩
 exact h.imp (key _) (key _)
theorem ahW{t:TypeId}{w:World}{b off:Nat}{cs:List Value}(ht:Sx.en prog t=some (true,cs.length))(hc:∀ j (hj:j<cs.length),w.cell? ⟨b,off+j,none⟩=some cs[j]):
  (Instr.loadAt t (.pointer (some ⟨b,off,none⟩))).run prog w= .ok (.agg cs.toArray) w:=by
 obtain⟨h1,h2⟩:=Sx.xO ht w
 simp only[Instr.loadAt,Instr.sureAddr,loadVar,Sem.run_bind,Sem.run_pure,Result.andThen_ok,h1]
 simp only[YV,Sem.run_bind,h2,Result.andThen_ok,Sx.Dj b off cs.length cs rfl hc,Sem.run_pure]
theorem aM6{ops:Array Oper}{rest:List Oper}{o:Oper}{a:Act}{w:World}{Q:Exit→Act→World→Prop}(tv:o.guard=none)(ty:TypeId)(x:Operand)(ho:o.op= .load ty x)
  (b off:Nat) (hx:a.eval x= .pointer (some ⟨b,off,none⟩)) (C:Array Value) (hc:∀ j (hj:j<C.toList.length),w.cell? ⟨b,off+j,none⟩=some C.toList[j]) (ht:Sx.en prog ty=some (true,C.toList.length))
  (h:wpList prog ops Q rest (a.put o.dst (.agg C)) w):wpList prog ops Q (o::rest) a w:=
 wpList_plain tv fun _ hK=>by
  unfold Oper.wp execOp
  simp only[ho,hx,ahW ht hc,Sem.run_bind,Result.andThen_ok,Sem.run_pure,Array.toArray_toList]
  exact hK _ _ h
theorem Xq{s:ae}(hs:s.size≤9223372036854775806){M:Mem}{w0:Sx.Base}{W:World}{σ:Sx.Store}(hI:Sx.Inv prog M w0 σ W):
  ∃ v W' M',(convert 9 47 (.string s)).run prog W= .ok v W'∧R M' (.sl true 1 (s.data.toList.map Sx.dn)) v∧Sx.Inv prog M' ⟨W,M⟩ [] W'∧Below W.heap.size W W':=by
 obtain⟨nx,w',M',x,v,af,h1,h2,h3,h4,h5,rfl,rfl⟩:=(Sx.El (src:=9) (dst:=47) (e:=5) (ty:=0) (x:= .const (.string s)) (q:=Sx.vg prog 9) hs).sp [] (by kernel_rfl) M ⟨W,M⟩ W (fun x=>match x with| .const v=>v|_=>undef) (vX hI) (RL.cons (.v _) RL.nil)
 simp only[execOp,Sem.run_bind]at h1
 generalize (convert 9 47 (.string s)).run prog W=r at h1 ⊢
 cases r with
 |ok a w2=>
  obtain⟨rfl,rfl⟩:=Result.ok.inj h1
  obtain rfl:v=a:=h2
  exact⟨_,_,M',rfl,h5,h4,⟨h4.os,h4.tape,h4.output,h4.size,h4.old⟩⟩
 |_=>cases h1
end Go.Proofs.YtomhopcnkicknaaGreatDoor
