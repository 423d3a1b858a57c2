/- A range over a function whose rounds know the world of what they are handed. -/
import Derived.RangeFuncNested
import Derived.RangeFuncBound
import Derived.RangeFuncCalls
import Derived.RangeFuncLeaves
import Derived.Shelf.Abstract
import Derived.Shelf.RegionOpen
import Derived.WalkKit
import Derived.OwnWalkIn
import Derived.Test.YthdeaajdmdmfnaaGreatDoorAs
import Derived.Test.YthdeaajdmdmfnaaGreatDoorAy
import Derived.Test.YthdeaajdmdmfnaaGreatDoorAt
import Derived.TacticsInMore
import Derived.LoopNIn
import Derived.LoopIn
import Derived.Laws.Rows
import Derived.Deep.RegionHeld3
set_option linter.unusedSimpArgs false
set_option linter.unusedVariables false
set_option maxRecDepth 100000
set_option maxHeartbeats 4000000
namespace Go.Proofs.YthdeaajdmdmfnaaGreatDoor
open Go.RowKit Go.Proofs Go.Shelf
open Go.Sx (Mem)
structure bN(α:Type) where
 out:List α
 M:Mem
 bs:Nat→Prop
variable {α:Type}
def bN.own(s:bN α)(b:Nat):Prop:=(∃ o v,s.M b o=some v)∨s.bs b
structure bN.Ab(s:bN α)(W:World)(s':bN α)(W':World):Prop where
 out:s'.out=s.out
 le:s.M.le s'.M
 bm:∀ b o v,s'.M b o=some v→b<W.heap.size→s.M b o=some v
 size:W.heap.size≤W'.heap.size
 old:∀ b,b<W.heap.size→¬s.bs b→W'.heap[b]? =W.heap[b]?
 bn:∀ b,s'.bs b→s.bs b∨W.heap.size≤b
 os:W'.os=W.os
 tape:W'.tape=W.tape
 output:W'.output=W.output
theorem bN.Ab.own{s s':bN α}{W W':World}(h:s.Ab W s' W'){b:Nat}(hb:s'.own b):s.own b∨W.heap.size≤b:=by
 rcases hb with⟨o,v,hb⟩|hb
 ·rcases YU b W.heap.size with hl|hl
  ·exact .inl (.inl ⟨o,v,h.bm b o v hb hl⟩)
  ·exact .inr hl
 ·exact(h.bn b hb).imp .inr id
structure bN.Rd(n0:Nat)(s:bN α)(W W':World):Prop where
 size:W.heap.size≤W'.heap.size
 low:∀ b,b<n0→W'.heap[b]? =W.heap[b]?
 own:∀ b,s.own b→W'.heap[b]? =W.heap[b]?
 os:W'.os=W.os
 tape:W'.tape=W.tape
 output:W'.output=W.output
theorem bN.Rd.refl(n0:Nat)(s:bN α)(W:World):s.Rd n0 W W:=⟨ZX _,fun _ _=>rfl,fun _ _=>rfl,rfl,rfl,rfl⟩
theorem bN.Rd.trans{n0:Nat}{s:bN α}{A B C:World}(h:s.Rd n0 A B)(g:s.Rd n0 B C):s.Rd n0 A C:=⟨ZI h.size g.size,fun b hb=>(g.low b hb).trans (h.low b hb),fun b hb=>(g.own b hb).trans (h.own b hb),g.os.trans h.os,g.tape.trans h.tape,g.output.trans h.output⟩
theorem bN.Rd.put{n0:Nat}{s:bN α}{W:World}{l:Nat}(hn:n0≤l)(hl:¬s.own l)(o:Obj):s.Rd n0 W (W.putObj l o):=⟨by rw[World.putObj_size];exact ZX _,fun b hb=>World.putObj_heap_other (by omega),fun b hb=>World.putObj_heap_other (fun e=>hl (e ▸ hb)),rfl,rfl,rfl⟩
abbrev bN.up(s:bN α)(x:α):bN α:={s with out:=s.out++[x]}
def LI(F:Fence)(n:Nat)(P:Program)(g:Nat)(lb:Array Value)(n0:Nat)(H:bN α→α→Array Value→World→Prop)(E:bN α→World→Prop)(s0:bN α)(W0:World):Prop:=
 ∀ (l:Nat) (J:bN α→World→Prop),(∀ s W s' W',J s W→s.Ab W s' W'→J s' W')→
  (∀ s x args W,J s W→H s x args W→YieldAt F (n-1) P l args W fun e W'=>e= .returned (.bool true)∧J (s.up x) W'∧s.Rd n0 W W')→
  J s0 W0→CallsIn F n P g (#[.func (.yield l) #[] #[]]++lb) W0 fun e W'=>(∃ v,e= .returned v)∧∃ s,E s W'∧J s W'
theorem AK{P:Program}[Go.Sx.Glob P]{s:bN α}{n0:Nat}{w0:Go.Sx.Base}{W W':World}(hI:Go.Sx.Inv P s.M w0 [] W)(h:s.Rd n0 W W')(h0:w0.heap.size≤n0):Go.Sx.Inv P s.M w0 [] W':=by
 refine⟨h.os.trans hI.os,h.tape.trans hI.tape,h.output.trans hI.output,ZI hI.size h.size,fun k hk=>(h.low k (Y8 hk h0)).trans (hI.old k hk),fun b o v hv=> ?_,fun e he=>(nomatch he),hI.nd,hI.gl,hI.gw,hI.bm⟩
 have:=hI.bL b o v hv
 simp only[World.cell?,h.own b (.inl ⟨o,v,hv⟩)]at this ⊢
 exact this
def af9(a:Act)(ps:Array Tmp)(fn:FuncId)(assign body:Code)(w:World)(st:LoopState):Loop:={state:=st,pending:=none,fn,tmps:=a.tmps,params:=ps,assign,body,defers:=w.heap.size}
theorem Th{F:Fence}{n n0:Nat}{P:Program}{g:Operand}{ps:Array Tmp}{assign body:Code}{Q:Exit→Act→World→Prop}{a:Act}{w:World}
  (mW:F.round=none) (h1:1≤n) {gf:Nat} {lb:Array Value} (hg:a.eval g= .func (.func gf) #[] lb) (hFg:F.fn gf) (eg:∀ args w,(callFunc gf args).run P w= .ok (.enter gf args) w) (IC:n0≤w.heap.size)
  {H:bN α→α→Array Value→World→Prop} {E:bN α→World→Prop} {s0:bN α} (hps:∀ s x args W,H s x args W→args.size=ps.size)
  (hseq:∀ o o',LI F (n-1) P gf lb n0 H E s0 ((w.alloc o).alloc o'))
  (I:bN α→World→Prop) (hI:∀ s W s' W',I s W→s.Ab W s' W'→I s' W') (Hl:∀ s W l o,I s W→w.heap.size≤l→¬s.own l→l<w.heap.size+2→I s (W.putObj l o))
  (hE:∀ s W l o,E s W→w.heap.size≤l→¬s.own l→E s (W.putObj l o)) (h0:I s0 w) (js:∀ b,s0.own b→b<w.heap.size)
  (A:bN α→α→Act→World→Prop) (hAr:∀ s x a W l o,A s x a W→w.heap.size≤l→¬s.own l→l<w.heap.size+2→A s x a (W.putObj l o))
  (hassign:∀ (l:Nat) (s:bN α) (x:α) (args:Array Value) (W:World) (K:Act→World→Prop),I s W→H s x args W→w.heap.size+2≤W.heap.size→
   (∀ a' W',A s x a' W'→I s W'→s.Rd n0 W W'→(∀ b,w.heap.size≤b→b<w.heap.size+2→W'.heap[b]? =W.heap[b]?)→K a' W')→
   assign.wpIn (F.inRound l) (n-1-1) P (Exit.then K (fun _ _ _=>False)) {tmps:=(ps.zip args).foldl (fun t (p,v)=>t.setIfInBounds p v) a.tmps,defers:=[]} W)
  (hbody:∀ (l:Nat) (s:bN α) (x:α) (a':Act) (W:World),I s W→A s x a' W→w.heap.size+2≤W.heap.size→
   body.wpIn (F.inRound l) (n-1-1) P (fun e _ W'=>e= .normal∧I (s.up x) W'∧s.Rd n0 W W'∧∀ b,w.heap.size≤b→b<w.heap.size+2→W'.heap[b]? =W.heap[b]?) a' W)
  (hdone:∀ (D:Nat) (s:bN α) (W:World),E s W→I s W→w.heap.size≤D→W.heap[D]? =some (.deferred (some []))→¬s.own D→Q .normal {a with defers:={target:= .collected D,args:= #[]}::a.defers} W):
  (Code.rangeFunc g ps assign body).wpIn F n P Q a w:=by
 refine wpIn_rangeFunc ?_
 intro fn ig
 rw[mW]
 obtain⟨rc,uY⟩:∃ rc:LoopState→Loop,rc=af9 a ps fn assign body w:=⟨_,rfl⟩
 obtain⟨W1,dq⟩:∃ W1,(w.alloc (.deferred (some []))).alloc (.loop (rc .ready))=W1:=⟨_,rfl⟩
 have hL1:W1.heap[w.heap.size+1]? =some (.loop (rc .ready)):=by
  rw[← dq];have:=World.alloc_heap_new (w.alloc (.deferred (some []))) (.loop (rc .ready));rwa [World.size_alloc]at this
 have xk:W1.heap[w.heap.size]? =some (.deferred (some [])):=by
  rw[← dq];exact(Below.heap_alloc _ _ _ (by simp)).trans (World.alloc_heap_new w _)
 have bg:W1.heap.size=w.heap.size+2:=by rw[← dq];simp
 have jL:I s0 W1:=hI s0 w s0 W1 h0 ⟨rfl,Go.Sx.Mem.le.refl _,fun _ _ _ h _=>h,by omega,fun b hb _=>by rw[← dq,Below.heap_alloc _ _ _ (by simp;omega),Below.heap_alloc _ _ _ hb],fun b hb=> .inl hb,by rw[← dq];rfl,by rw[← dq];rfl,by rw[← dq];rfl⟩
 refine⟨w.heap.size+1,[{target:= .collected w.heap.size,args:= #[]}],W1,{target:= .fn (.func gf) lb,args:= #[.func (.yield (w.heap.size+1)) #[] #[]]},W1,gf,
  #[.func (.yield (w.heap.size+1)) #[] #[]]++lb,W1,?_,?_,?_,?_,fun _=>h1,?_⟩
 ·rw[← dq,uY];exact run_enterLoop_outer _ _ _ _ _
 ·simp only[resolve,hg]
  simp[go_sem]
 ·intro f' uR;simp[Target.leads]at uR;subst uR;exact hFg
 ·simp[invoke,go_sem,eg]
 have hq:=hseq (.deferred (some [])) (.loop (rc .ready))
 rw[dq]at hq
 refine(hq (w.heap.size+1) (fun s W=>I s W∧W.heap[w.heap.size+1]? =some (.loop (rc .ready))∧W.heap[w.heap.size]? =some (.deferred (some []))∧¬s.own w.heap.size∧¬s.own (w.heap.size+1)) ?_ ?_ ⟨jL,hL1,xk,fun h=>absurd (js _ h) (by omega),fun h=>absurd (js _ h) (by omega)⟩).mono ?_
 ·rintro s W s' W' ⟨i,hl,hk,o1,o2⟩ eT
  have aw:w.heap.size+1<W.heap.size:=(Z6.1 hl).1
  exact⟨hI _ _ _ _ i eT,(eT.old _ aw fun h=>o2 (.inr h)).trans hl,(eT.old _ (by omega) fun h=>o1 (.inr h)).trans hk,fun h=>(eT.own h).elim o1 (by omega),fun h=>(eT.own h).elim o2 (by omega)⟩
 ·rintro s x args W ⟨i,hl,hk,o1,o2⟩ hH
  have aw:w.heap.size+1<W.heap.size:=(Z6.1 hl).1
  have hy:=run_yield (P:=P) (args:=args) hl (by rw[uY];exact hps s x args W hH)
  rw[uY]at hy
  refine⟨fn,_,assign,body,hy,roundIn_of_wpIn ig (hassign (w.heap.size+1) s x args W _ i hH (by omega) fun a' W2 hA iA rA kA=> ?_)⟩
  have OE:=(kA (w.heap.size+1) (by omega) (by omega)).trans hl
  have hkA:=(kA _ (ZX _) (by omega)).trans hk
  have acj:w.heap.size+1<W2.heap.size:=(Z6.1 OE).1
  refine⟨_,run_beginRound OE (by rw[uY];rfl),?_⟩
  generalize hB:W2.putObj (w.heap.size+1) (.loop {rc .ready with state:= .busy})=WB
  have sH:WB.heap[w.heap.size+1]? =some (.loop {rc .ready with state:= .busy}):=by rw[← hB];exact World.putObj_heap_same acj
  have eZ:WB.heap[w.heap.size]? =some (.deferred (some [])):=by rw[← hB];exact(World.putObj_heap_other (by omega)).trans hkA
  have iB:I s WB:=by rw[← hB];exact Hl _ _ _ _ iA (by omega) o2 (by omega)
  have aB:A s x a' WB:=by rw[← hB];exact hAr _ _ _ _ _ _ hA (by omega) o2 (by omega)
  have rB:s.Rd n0 W2 WB:=by rw[← hB];exact .put (by omega) o2 _
  refine wpIn_mono (hbody (w.heap.size+1) s x a' WB iB aB (by have:=(Z6.1 sH).1;omega)) ?_
  rintro e a3 W3 ⟨rfl,i3,r3,k3⟩
  have Iw:=(k3 (w.heap.size+1) (by omega) (by omega)).trans sH
  have hr:=run_endRound (P:=P) none Iw
  refine⟨_,_,hr,rfl,⟨Hl _ _ _ _ i3 (by omega) o2 (by omega),?_,(World.putObj_heap_other (by omega)).trans ((k3 _ (ZX _) (by omega)).trans eZ),o1,o2⟩,((rA.trans rB).trans r3).trans (.put (by omega) o2 _)⟩
  have:=World.putObj_heap_same (w:=W3) (o:= .loop (rc .ready)) (Z6.1 Iw).1
  rw[uY]at this ⊢
  exact this
 ·rintro e W2 ⟨⟨v,rfl⟩,s,hs,i,hl,hk,o1,o2⟩
  refine⟨none,_,by have:=run_endLoop (P:=P) hl (by rw[uY];intro h;cases h);rw[uY]at this;exact this,?_⟩
  exact hdone _ s _ (hE _ _ _ _ hs (by omega) o2) (Hl _ _ _ _ i (by omega) o2 (by omega)) (ZX _) ((World.putObj_heap_other (by omega)).trans hk) o1
end Go.Proofs.YthdeaajdmdmfnaaGreatDoor
set_option maxHeartbeats 8000000
namespace Go.Proofs.YthdeaajdmdmfnaaGreatDoor
open _root_.Go.Proofs.Tryz
open Go.RowKit Go.Proofs Go.Shelf
open Go.Sx (AV Mem RL R M0 Glob)
attribute [local go_sem] Oper.semAt_some
theorem agv{t:TypeId}{w:World}{b off:Nat}{cs:List Value}(ht:Sx.eH prog t=some (true,cs.length))(hc:∀ j (hj:j<cs.length),w.cell? ⟨b,off+j,none⟩=some cs[j]):
  (Instr.loadAt t (.pointer (some ⟨b,off,none⟩))).run prog w= .ok (.agg cs.toArray) w:=by
 obtain⟨h1,h2⟩:=Sx.wM ht w
 simp only[Instr.loadAt,Instr.sureAddr,loadVar,Sem.run_bind,Sem.run_pure,Result.andThen_ok,h1]
 simp only[YX,Sem.run_bind,h2,Result.andThen_ok,Sx.Be b off cs.length cs rfl hc,Sem.run_pure]
structure rJ(B:Nat)(W W':World):Prop where
 size:W'.heap.size=W.heap.size
 nk:∀ k,k≠B→W'.heap[k]? =W.heap[k]?
 os:W'.os=W.os
 tape:W'.tape=W.tape
 output:W'.output=W.output
section
variable {F:Fence}{n:Nat}{ops:Array Oper}{Q:Exit→Act→World→Prop}{a:Act}{w:World}{rest:List Oper}{o:Oper}
theorem semAt_plain(l:Option Nat)(ρ:Operand→Value)(hd:∀ c,o.op≠.defer c):o.semAt l ρ=execOp ρ o:=by
 cases l with
 |none=>exact Oper.semAt_none ..
 |some l=>exact Oper.semAt_some l ρ o hd
theorem acO(lU:o.guard=none)(hd:∀ c,o.op≠.defer c)(eT:o.about prog w a.eval=none){v:Value}{w':World}(hr:(execOp a.eval o).run prog w= .ok (.value v) w')(h:wpListIn F n prog ops Q rest (a.put o.dst v) w'):wpListIn F n prog ops Q (o::rest) a w:=
 wpListIn_plain lU fun K hK=>by
  unfold Oper.wpIn
  refine⟨fun f hf=>(by rw[eT]at hf;cases hf),?_⟩
  rw[semAt_plain _ _ hd,hr]
  exact hK _ _ h
theorem acN(lU:o.guard=none)(hd:∀ c,o.op≠.defer c)(eT:o.about prog w a.eval=none){w':World}(hr:(execOp a.eval o).run prog w= .ok .skip w')(h:wpListIn F n prog ops Q rest (a.put o.dst undef) w'):wpListIn F n prog ops Q (o::rest) a w:=
 wpListIn_plain lU fun K hK=>by
  unfold Oper.wpIn
  refine⟨fun f hf=>(by rw[eT]at hf;cases hf),?_⟩
  rw[semAt_plain _ _ hd,hr]
  exact hK _ _ h
theorem DD(lU:o.guard=none)(ty:TypeId)(x:Operand)(ho:o.op= .load ty x)(b off:Nat)(hx:a.eval x= .pointer (some ⟨b,off,none⟩))(C:Array Value)(hc:∀ j (hj:j<C.toList.length),w.cell? ⟨b,off+j,none⟩=some C.toList[j])(ht:Sx.eH prog ty=some (true,C.toList.length))
  (h:wpListIn F n prog ops Q rest (a.put o.dst (.agg C)) w):wpListIn F n prog ops Q (o::rest) a w:=
 acO lU (fun c e=>by rw[ho]at e;cases e) (by unfold Oper.about;rw[ho]) (by
  unfold execOp
  simp only[ho,hx,agv ht hc,Sem.run_bind,Result.andThen_ok,Sem.run_pure,XB]) h
theorem AF(lU:o.guard=none)(ty:TypeId)(x:Operand)(ho:o.op= .load ty x){b:Nat}{C:Array Value}{t:TypeId}(hr:aT w b C t)(hx:a.eval x= .pointer (some ⟨b,0,none⟩))(ht:Sx.eH prog ty=some (true,C.size))
  (h:wpListIn F n prog ops Q rest (a.put o.dst (.agg C)) w):wpListIn F n prog ops Q (o::rest) a w:=
 DD lU ty x ho b 0 hx C (fun j hj=>hr.cell (by rw[ZH,Z6];exact⟨by simpa using hj,by simp⟩)) (by simpa using ht) h
theorem sX(lU:o.guard=none)(ty:TypeId)(x y:Operand)(ho:o.op= .store ty x y){b:Nat}{old C:Array Value}{t:TypeId}(hr:aT w b old t)(hx:a.eval x= .pointer (some ⟨b,0,none⟩))(hy:a.eval y= .agg C)(hi:(prog.info? ty).map (·.size)=some C.size)(hold:old.size=C.size)(h1:C.all (·.oneCell')=true)
  (h:∀ W',aT W' b C t→rJ b w W'→wpListIn F n prog ops Q rest (a.put o.dst undef) W'):wpListIn F n prog ops Q (o::rest) a w:=
 acN lU (fun c e=>by rw[ho]at e;cases e) (by unfold Oper.about;rw[ho]) (w':=w.setRow b C) (by
  unfold execOp
  simp only[ho,hx,hy,Instr.storeAt,Instr.sureAddr,Sem.run_bind,Sem.run_pure,Result.andThen_ok,run_storeVar_row w b t ty old C hr hi hold h1]) (h _ (setRow_heap w b old C t (0,0) hr) ⟨setRow_size ..,fun k hk=>setRow_other w b k C hk,rfl,rfl,rfl⟩)
end
theorem aT.nk{W W':World}{B B':Nat}{cs:Array Value}{t:TypeId}(h:aT W B cs t)(hr:rJ B' W W')(aE:B≠B'):aT W' B cs t:=(hr.nk B aE).trans h
theorem aT.gQ{W W':World}{B n:Nat}{cs:Array Value}{t:TypeId}(h:aT W B cs t)(hb:Below n W W')(hn:B<n):aT W' B cs t:=(hb.block B hn).trans h
theorem rJ.new{W W':World}{o:Obj}(h:rJ W.heap.size (W.alloc o) W'):Below W.heap.size W W'∧W'.heap.size=W.heap.size+1:=by
 have hs:W'.heap.size=W.heap.size+1:=by rw[h.size];simp
 exact⟨⟨h.os,h.tape,h.output,by omega,fun k hk=>(h.nk k (by omega)).trans (Below.heap_alloc _ _ _ hk)⟩,hs⟩
def qd(p:Prop):Prop:=p
theorem rh{p:Prop}(h:qd p):p:=h
theorem Pz{P:Program}[Sx.Glob P]{M:Mem}{w0:Sx.Base}{W W':World}{B:Nat}(hI:Sx.Inv P M w0 [] W)(hr:rJ B W W')(hB:w0.heap.size≤B)(hM:∀ o,M B o=none):Sx.Inv P M w0 [] W':=by
 refine⟨hr.os.trans hI.os,hr.tape.trans hI.tape,hr.output.trans hI.output,by rw[hr.size];exact hI.size,fun k hk=>(hr.nk k (by omega)).trans (hI.old k hk),fun b o v hv=> ?_,fun e he=>(nomatch he),hI.nd,hI.gl,hI.gw,hI.bm⟩
 have:=hI.bL b o v hv
 have aE:b≠B:=fun e=>by subst e;rw[hM o]at hv;cases hv
 simp only[World.cell?,hr.nk b aE]at this ⊢
 exact this
theorem V0(c:au)(x:bh)(hc:CB 1000 c)(hx:FB x.feature){M:Mem}{W:World}(hI:Sx.Inv prog M ⟨W,M⟩ [] W){v1 v2:Array Value}(h1:RL M c.cells v1.toList)(h2:RL M x.cells v2.toList):
  Calls prog 9 #[.agg v1,.agg v2] W fun e W'=>∃ (M':Mem) (vd:Array Value),e= .returned (.tuple #[.agg vd,.int .i64 (bR c x).2])∧M.le M'∧Sx.Inv prog M' ⟨W,M⟩ [] W'∧RL M' (bR c x).1.cells vd.toList:=by
 refine((FN KJ JO c x 1000 (by decide) hc hx).sp [] M ⟨W,M⟩ W [.agg v1,.agg v2] hI (RL.cons (by have:=R.oF h1;rwa [XB]at this) (RL.cons (by have:=R.oF h2;rwa [XB]at this) RL.nil))).mono fun e W' ⟨M',r,σ',hM,bp,hr,hq⟩=> ?_
 obtain⟨rfl,rfl⟩:=hq
 cases e<;>simp only[Sx.iH]at hr
 generalize bR c x=d at *
 obtain⟨d,e⟩:=d
 cases hr with
 |bo _ cs hl h1=>
  match cs,hl,h1 with
  |[a,b],_,h1=>
   have ha:=h1 0 (by simp) (by simp)
   have hb:=(h1 1 (by simp) (by simp)).ay
   simp only[Yx,XM]at ha hb
   subst hb
   obtain⟨vs,rfl,hv⟩:=ha.oG
   exact⟨M',vs.toArray,rfl,hM,bp,hv⟩
set_option maxHeartbeats 16000000
attribute [local go_sem] Oper.semAt_some
def FY(B:Sx.Base)(s:bN (bh×au))(x:bh×au)(args:Array Value)(W:World):Prop:=∃ v1 v2:Array Value,args= #[.agg v1,.agg v2]∧RL s.M x.1.cells v1.toList∧RL s.M x.2.cells v2.toList∧Sx.Inv prog s.M B [] W∧(∀ b,s.bs b→b<W.heap.size)∧s.out.length≤1000∧∃ c,bR c x.1=(x.2,0)
def zh(B:Sx.Base)(o:List (bh×au))(s:bN (bh×au))(W:World):Prop:=s.out=o∧Sx.Inv prog s.M B [] W∧B.bm.le s.M
structure p8(B:Sx.Base)(l:List aM)(tick:Int)(bl bt Bc:Nat)(vl:Value)(k:Nat)(J:bN (bh×au)→World→Prop)(s:bN (bh×au))(vc:Array Value)(wr:World):Prop where
 out:s.out=(eQ tick ((l.take k).map aM.aG)).2
 bs:s.bs=fun b=>b=bl∨b=bt∨b=Bc
 c:aT wr Bc vc 25
 n:vc.size=4
 r:RL s.M (eQ tick ((l.take k).map aM.aG)).1.cells vc.toList
 hl:aT wr bl #[vl] 56
 ht:aT wr bt #[.int .i64 tick] 3
 i:Sx.Inv prog s.M B [] wr
 b:bl≠Bc∧bt≠Bc∧B.heap.size≤Bc
 m:∀ o,s.M Bc o=none
 v:R s.M (.sl false 40 (l.map aM.cells)) vl
 z:B.bm.le s.M
 j:J s wr
structure Tm(Bc:Nat)(W W':World):Prop where
 size:W.heap.size≤W'.heap.size
 old:∀ b,b<W.heap.size→b≠Bc→W'.heap[b]? =W.heap[b]?
 os:W'.os=W.os
 tape:W'.tape=W.tape
 output:W'.output=W.output
theorem Tm.gQ{Bc:Nat}{W W':World}(h:Below W.heap.size W W'):Tm Bc W W':=⟨h.size,fun b hb _=>h.block b hb,h.os,h.tape,h.output⟩
theorem Tm.row{Bc:Nat}{W W':World}(h:rJ Bc W W'):Tm Bc W W':=⟨by rw[h.size];exact ZX _,fun b _ aE=>h.nk b aE,h.os,h.tape,h.output⟩
theorem Tm.trans{Bc:Nat}{W1 W2 W3:World}(h:Tm Bc W1 W2)(g:Tm Bc W2 W3):Tm Bc W1 W3:=⟨ZI h.size g.size,fun b hb aE=>(g.old b (Y8 hb h.size) aE).trans (h.old b hb aE),g.os.trans h.os,g.tape.trans h.tape,g.output.trans h.output⟩
section
variable {B:Sx.Base}{l:List aM}{tick:Int}{bl bt Bc:Nat}{vl:Value}{k k':Nat}{J:bN (bh×au)→World→Prop}{s:bN (bh×au)}{vc EY:Array Value}{wr W':World}{M':Mem}
theorem p8.ab(hS:p8 B l tick bl bt Bc vl k J s vc wr)(hM:s.M.le M')(lS:∀ b o v,M' b o=some v→b<wr.heap.size→s.M b o=some v)(tm:Tm Bc wr W'):s.Ab wr {s with M:=M'} W':=
 ⟨rfl,hM,lS,tm.size,fun b hb hn=>tm.old b hb fun e=>hn (by rw[hS.bs];exact .inr (.inr e)),fun b hb=> .inl hb,tm.os,tm.tape,tm.output⟩
theorem p8.JJ(hS:p8 B l tick bl bt Bc vl k J s vc wr)(lS:∀ b o v,M' b o=some v→b<wr.heap.size→s.M b o=some v)(o:Nat):M' Bc o=none:=by
 cases h:M' Bc o with
 |none=>rfl
 |some v=>have:=lS _ _ _ h hS.c.lt;rw[hS.m]at this;cases this
theorem p8.move(hS:p8 B l tick bl bt Bc vl k J s vc wr)(hJ:∀ s W s' W',J s W→s.Ab W s' W'→J s' W')(hM:s.M.le M')(lS:∀ b o v,M' b o=some v→b<wr.heap.size→s.M b o=some v)(tm:Tm Bc wr W')(hI:Sx.Inv prog M' B [] W')(hc:aT W' Bc EY 25)(hn:EY.size=4)(hr:RL M' (eQ tick ((l.take k').map aM.aG)).1.cells EY.toList)
  (ho:(eQ tick ((l.take k').map aM.aG)).2=(eQ tick ((l.take k).map aM.aG)).2):p8 B l tick bl bt Bc vl k' J {s with M:=M'} EY W':=
 ⟨hS.out.trans ho.symm,hS.bs,hc,hn,hr,(tm.old _ hS.hl.lt hS.b.1).trans hS.hl,(tm.old _ hS.ht.lt hS.b.2.1).trans hS.ht,hI,hS.b,hS.JJ lS,hS.v.mono hM,hS.z.trans hM,hJ _ _ _ _ hS.j (hS.ab hM lS tm)⟩
end
theorem aaL{M:Mem}{e:aM}{C:Array Value}(h:RL M e.cells C.toList):C[2]? =some (.int .i64 e.kind)∧C[1]? =some (.int .i64 e.tick)∧C.size=40∧RL M e.bZ.cells (C.extract 16 40).toList:=by
 obtain⟨hl,hr⟩:=h
 have hs:C.size=40:=by rw[← ZQ,← hl];rfl
 have g:∀ i (h1:i<e.cells.length) (h2:i<C.toList.length),R M e.cells[i] C.toList[i]:=hr
 refine⟨?_,?_,hs,?_,?_⟩
 ·have:=(g 2 (show 2<40 by decide) (by rw[ZQ,hs];decide)).ay
  rw[ZN (by omega)]
  simpa using this
 ·have:=(g 1 (show 1<40 by decide) (by rw[ZQ,hs];decide)).ay
  rw[ZN (by omega)]
  simpa using this
 ·simp[hs];rfl
 ·intro i h1 h2
  have h3:i<24:=h1
  have:=g (16+i) (show 16+i<40 by omega) (by rw[ZQ,hs];omega)
  have e1:e.cells[16+i]'(show 16+i<40 by omega)=e.bZ.cells[i]:=(YM («as»:=e.cells.take 16) (bs:=e.bZ.cells) (i:=16+i) (h₁:=show 16≤16+i by omega) (h₂:=show 16+i<40 by omega)).trans (by congr 1;exact Nat.add_sub_cancel_left 16 i)
  rw[e1]at this
  simp only[Array.getElem_toList,Array.getElem_extract]at this ⊢
  exact this
theorem Mo(l:List aM)(tick:Int)(gI:∀ e∈l,FB e.bZ.feature)(hlen:l.length≤900)(n:Nat)(hn:1≤n)(B:Sx.Base)(M:Mem)(W0:World)(bl bt cap:Nat)(ad:Option Addr)(hI:Sx.Inv prog M B [] W0)(hz:B.bm.le M)(hR:R M (.sl false 40 (l.map aM.cells)) (.slice ad l.length cap))
  (kh:aT W0 bl #[.slice ad l.length cap] 56) (uK:aT W0 bt #[.int .i64 tick] 3):
  LI Fence.wide n prog 84 #[.pointer (some ⟨bl,0,none⟩),.pointer (some ⟨bt,0,none⟩)] B.heap.size (FY B) (zh B (eQ tick (l.map aM.aG)).2) ⟨[],M,fun b=>b=bl∨b=bt⟩ W0:=by
 intro yl J hJ hY h0
 have kl:(W0.alloc (.cells #[.slice none 0 0,.slice none 0 0,.slice none 0 0,.slice none 0 0] 25)).cell? ⟨bl,0,none⟩=some (.slice ad l.length cap):=(kh.alloc _).cell rfl
 have hsB:=hI.size
 refine callsIn_of_wp func84 rfl trivial ?_ rfl
 simp only[ntmps84,Y0,ZS,ZA,Nat.reduceAdd,Nat.reduceSub,Yn,Yo,Ye,Yj,Zl,ZG]
 gi_wp2
 gi_loopw [11] (fun i wr=>∃ k:Nat,k≤l.length∧i= .int .i64 (k:Int)∧∃ s vc,p8 B l tick bl bt W0.heap.size (.slice ad l.length cap) k J s vc wr)
  (fun i _=>l.length-(intOf i).toNat)
 case atStart=>
  refine⟨0,ZM _,rfl,{out:=[],M:=M,bs:=fun b=>b=bl∨b=bt∨b=W0.heap.size},_,⟨rfl,rfl,aT.new _ _ _,rfl,?_,kh.alloc _,uK.alloc _,hI.after ((Below.refl _ W0).alloc (ZX _) _),⟨Nat.ne_of_lt kh.lt,Nat.ne_of_lt uK.lt,hsB⟩,fun o=> ?_,hR,hz,hJ _ _ _ _ h0 ⟨rfl,Sx.Mem.le.refl _,fun _ _ _ h _=>h,by simp,fun b hb _=>Below.heap_alloc _ _ _ hb,fun b hb=> ?_,rfl,rfl,rfl⟩⟩⟩
  ·exact RL.cons (.nil _ _ _ (by simp)) (RL.cons (.nil _ _ _ (by simp)) (RL.cons (.nil _ _ _ (by simp)) (RL.cons (.nil _ _ _ (by simp)) RL.nil)))
  ·cases h:M W0.heap.size o with
   |none=>exact h
   |some v=>exact absurd (World.block_lt_of_cell? _ _ (hI.bL _ _ _ h)) (by simp)
  ·rcases hb with h|h|h
   ·exact .inl (.inl h)
   ·exact .inl (.inr h)
   ·exact .inr (by omega)
 case round=>
  obtain⟨k,hk,rfl,s,vc,hS⟩:=hrel
  by_cases aw:k<l.length
  ·obtain⟨a',mF,Dz,iu⟩:=mE hS.v
   simp only[ZW,Value.slice.injEq,Ys]at Dz iu
   obtain⟨rfl,rfl⟩:=Dz
   obtain⟨bb,off,rfl,cs,bK,hl,hc⟩:=iu k aw
   have he:(l.map aM.cells)[k]'(by simpa using aw)=(l.getD k default).cells:=by
    rw[Zu,Z3,Z1 aw];rfl
   rw[he]at bK
   obtain⟨C,rfl⟩:∃ C:Array Value,cs=C.toList:=⟨cs.toArray,by simp⟩
   obtain⟨c2,c1,G0,C6⟩:=aaL bK
   have Dt:=aaG (tick:=tick) (l:=l.map aM.aG) (i:=k) (by simpa using aw)
   rw[MP aw,← Yu,← Yu]at Dt
   have hfb:=gI _ (Sx.dp aw)
   have hcB:=aaH tick (l.take k) (fun e h=>gI e (YS h)) (by rw[Zx];omega)
   have hcell:∀ j (hj:j<C.toList.length),wr.cell? ⟨bb,off+k * 40+j,none⟩=some C.toList[j]:=fun j hj=>hS.i.bL _ _ _ (hc j hj)
   have uG:Sx.eH prog 67=some (true,C.toList.length):=by rw[hl];kernel_rfl
   have de:(prog.info? 67).map (·.size)=some C.size:=by rw[G0];kernel_rfl
   have qD:C.all (·.oneCell')=true:=by rw[← Y1];exact bK.iK rfl
   generalize l.getD k default=e at *
   clear iu he hc kl
   have abU:∀ b o v,s.M b o=some v→b<wr.heap.size→s.M b o=some v:=fun _ _ _ h _=>h
   gi_wp2_with (first
    |(with_reducible show wpListIn _ _ _ _ _ (⟨some 14,_,_,_,_,_⟩::_) _ _;refine DD rfl 67 (.tmp 13) rfl bb (off+k * 40) rfl C hcell uG ?_)
    |(with_reducible show wpListIn _ _ _ _ _ (⟨none,.store _ _ _,_,_,_,_⟩::_) _ _;refine rh ?_))
   refine sX rfl 67 (.tmp 6) (.tmp 14) rfl (aT.new _ _ _) rfl rfl de (by rw[G0];rfl) qD fun Wx hX ju=> ?_
   obtain⟨uA,hsX⟩:=ju.new
   have Hk:=hS.i.after uA
   have kx2:=hX.cell c2
   have kx1:=hX.cell c1
   have kt:Wx.cell? ⟨bt,0,none⟩=some (.int .i64 tick):=(hS.ht.gQ uA hS.ht.lt).cell rfl
   clear hcell uG de ju
   have Au:(e.kind≠3∨tick<e.tick)→p8 B l tick bl bt W0.heap.size (.slice (some ⟨bb,off,none⟩) l.length cap) (k+1) J s vc Wx:=fun xK=>by
    have eL:eQ tick ((l.take (k+1)).map aM.aG)=eQ tick ((l.take k).map aM.aG):=by
     rw[Dt];exact ZV (by rcases xK with h|h;exact .inl h;exact .inr (.inl h))
    exact hS.move (k':=k+1) hJ (Sx.Mem.le.refl _) abU (.gQ uA) Hk (hS.c.gQ uA hS.c.lt) hS.n (by rw[eL];exact hS.r) (by rw[eL])
   obtain⟨ap,uH⟩:∃ ap,ap=bR (eQ tick ((l.take k).map aM.aG)).1 e.bZ:=⟨_,rfl⟩
   have mS:e.kind=3→e.tick≤tick→eQ tick ((l.take (k+1)).map aM.aG)=if ap.2=0 then(ap.1,(eQ tick ((l.take k).map aM.aG)).2++[(e.bZ,ap.1)])else eQ tick ((l.take k).map aM.aG):=fun h1 h2=>by
    rw[Dt,uH]
    unfold pb
    by_cases h3:(bR (eQ tick ((l.take k).map aM.aG)).1 e.bZ).2=0
    ·rw[ZV h3,Z7 (by rintro(h|h|h);exact h h1;exact absurd h (by show¬tick<e.tick;omega);exact h h3)];rfl
    ·rw[Z7 h3,ZV (.inr (.inr h3))]
   clear Dt c1 c2
   gi_wp2_with (with_reducible show wpListIn _ _ _ _ _ (⟨some 25,_,_,_,_,_⟩::_) _ _;refine rh ?_)
   ·rename_i h3 h4
    exact⟨⟨k+1,aw,rfl,s,vc,Au (.inr h4)⟩,by simp[intOf];omega⟩
   ·rename_i h3 h4 _ _
    have C4:=hS.c.gQ uA hS.c.lt
    have ey:=hS.r
    have Ak:=hS.n
    have hA:=V0 _ _ hcB hfb (xW Hk) hS.r C6
    rw[← uH]at hA
    have G3:ap.2=0→bR (eQ tick ((l.take k).map aM.aG)).1 e.bZ=(ap.1,0):=fun h=>by rw[← uH,← h]
    have hol:s.out.length≤1000:=by rw[hS.out];exact ZI (aaI _ _) (by rw[ZW,Zx];omega)
    clear uH
    have pj:Sx.eH prog 25=some (true,vc.size):=by rw[Ak];kernel_rfl
    have hz:(C.extract 16 40).size=24:=by simp[G0]
    have iP:Sx.eH prog 47=some (true,(C.extract 16 40).toList.length):=by rw[ZQ,hz];kernel_rfl
    have bC:∀ j (hj:j<(C.extract 16 40).toList.length),Wx.cell? ⟨wr.heap.size,16+j,none⟩=some (C.extract 16 40).toList[j]:=fun j hj=>hX.cell (by
     rw[ZQ,hz]at hj
     rw[ZN (by omega)]
     simp)
    unfold qd
    gi_wp2_with (first
     |(with_reducible show wpListIn _ _ _ _ _ (⟨some 25,_,_,_,_,_⟩::_) _ _;refine AF rfl 25 (.tmp 4) rfl C4 rfl pj ?_)
     |(with_reducible show wpListIn _ _ _ _ _ (⟨some 27,_,_,_,_,_⟩::_) _ _;refine DD rfl 47 (.tmp 26) rfl wr.heap.size 16 rfl (C.extract 16 40) bC iP ?_)
     |(gi_at_call 9;refine(callsIn_wide.2 hA).mono ?_;rintro e5 W5 ⟨M',vd,rfl,hM,qs,Ay⟩)
     |(refine⟨trivial,?_⟩;gi_at_call 9;refine(callsIn_wide.2 hA).mono ?_;rintro e5 W5 ⟨M',vd,rfl,hM,qs,Ay⟩)
     |(with_reducible show wpListIn _ _ _ _ _ (⟨none,.store _ _ _,_,_,_,_⟩::_) _ _;refine rh ?_))
    have Az:vd.size=4:=by rw[← ZQ,← Ay.1];rfl
    have nY:(prog.info? 25).map (·.size)=some vd.size:=by rw[Az];kernel_rfl
    have pA:vd.all (·.oneCell')=true:=by rw[← Y1];exact Ay.iK rfl
    have Oa:Sx.eH prog 25=some (true,vd.size):=by rw[Az];kernel_rfl
    unfold qd
    refine sX rfl 25 (.tmp 7) (.tmp 29) rfl (aT.new _ _ _) rfl rfl nY (by rw[Az];rfl) pA fun W6 hD uP=> ?_
    obtain⟨zI,hsD⟩:=uP.new
    have xf:Below Wx.heap.size Wx W5:=⟨qs.os,qs.tape,qs.output,qs.size,qs.old⟩
    have Hj:=(vu Hk qs hM).after zI
    have KL:Tm W0.heap.size wr W6:=(Tm.gQ uA).trans ((Tm.gQ xf).trans (Tm.gQ zI))
    have C2:∀ b o v,M' b o=some v→b<wr.heap.size→s.M b o=some v:=fun b o v h hb=>qs.bm b o v h (show b<Wx.heap.size by omega)
    have HX:aT W6 W0.heap.size vc 25:=(C4.gQ xf C4.lt).gQ zI (by have:=C4.lt;have:=xf.size;omega)
    have O6:aT W6 wr.heap.size C 67:=(hX.gQ xf hX.lt).gQ zI (by have:=hX.lt;have:=xf.size;omega)
    have uz:=hS.c.lt
    have aE:W5.heap.size≠W0.heap.size:=by have:=xf.size;omega
    have kz:wr.heap.size≠W0.heap.size:=by omega
    have mS:=mS h3 h4
    clear uP hA bC
    gi_wp2_with (with_reducible show wpListIn _ _ _ _ _ (⟨some 33,_,_,_,_,_⟩::_) _ _;refine rh ?_)
    ·rename_i h5
     have h5:¬ap.2=0:=by simpa using h5
     refine⟨⟨k+1,aw,rfl,{s with M:=M'},vc,hS.move hJ hM C2 KL Hj HX Ak ?_ ?_⟩,by simp[intOf];omega⟩
     ·rw[mS,Z7 h5];exact hS.r.mono hM
     ·rw[mS,Z7 h5]
    ·rename_i h5 _ _
     have h5:ap.2=0:=by simpa using h5
     rw[ZV h5]at mS
     have G3:=G3 h5
     unfold qd
     refine AF rfl 25 (.tmp 7) rfl hD rfl Oa ?_
     refine sX rfl 25 (.tmp 4) (.tmp 33) rfl HX rfl rfl nY (by rw[Az,Ak]) pA fun W7 HY C8=> ?_
     have N1:=Pz Hj C8 hS.b.2.2 (hS.JJ C2)
     have Bq:=KL.trans (Tm.row C8)
     have O7:=O6.nk C8 kz
     have abZ:∀ j (hj:j<(C.extract 16 40).toList.length),W7.cell? ⟨wr.heap.size,16+j,none⟩=some (C.extract 16 40).toList[j]:=fun j hj=>O7.cell (by
      rw[ZQ,hz]at hj
      rw[ZN (by omega)]
      simp)
     have N2:J {s with M:=M'} W7:=hJ _ _ _ _ hS.j (hS.ab hM C2 Bq)
     obtain⟨fn,tmps,assign,body,hy,hRn⟩:=hY {s with M:=M'} (e.bZ,ap.1) #[.agg (C.extract 16 40),.agg vd] W7 N2 ⟨_,_,rfl,C6.mono hM,Ay,N1,(fun b hb=>by
      have hb:s.bs b:=hb
      rw[hS.bs]at hb
      rcases hb with rfl|rfl|rfl
      ·exact Y8 hS.hl.lt Bq.size
      ·exact Y8 hS.ht.lt Bq.size
      ·exact HY.lt),hol,_,G3⟩
     clear hD zI hsD Hj KL HX O6 C8 O7 aE qs N2
     gi_wp2_with (first
      |(with_reducible show wpListIn _ _ _ _ _ (⟨some 36,_,_,_,_,_⟩::_) _ _;refine DD rfl 47 (.tmp 35) rfl wr.heap.size 16 rfl (C.extract 16 40) abZ iP ?_)
      |(with_reducible show wpListIn _ _ _ _ _ (⟨some 37,_,_,_,_,_⟩::_) _ _;refine AF rfl 25 (.tmp 4) rfl HY rfl Oa ?_))
     refine hRn.mono ?_
     rintro e9 W9 ⟨rfl,CT,N8⟩
     have CS:=AK N1 N8 (ZX _)
     gi_wp2
     have ow:∀ b,(b=bl∨b=bt∨b=W0.heap.size)→W9.heap[b]? =W7.heap[b]? :=fun b h=>N8.own b (.inr (by show s.bs b;rw[hS.bs];exact h))
     refine⟨⟨k+1,aw,rfl,bN.up {s with M:=M'} (e.bZ,ap.1),vd,⟨?_,hS.bs,(ow _ (.inr (.inr rfl))).trans HY,Az,?_,(ow _ (.inl rfl)).trans ((Bq.old _ hS.hl.lt hS.b.1).trans hS.hl),(ow _ (.inr (.inl rfl))).trans ((Bq.old _ hS.ht.lt hS.b.2.1).trans hS.ht),CS,hS.b,hS.JJ C2,hS.v.mono hM,hS.z.trans hM,CT⟩⟩,by simp[intOf];omega⟩
     ·rw[mS];show s.out++_=_;rw[hS.out]
     ·rw[mS];exact Ay
   ·rename_i h3
    exact⟨⟨k+1,aw,rfl,s,vc,Au (.inl h3)⟩,by simp[intOf];omega⟩
  ·obtain rfl:k=l.length:=by omega
   have ho:=hS.out
   rw[Yr]at ho
   gi_wp2
   go_end0
   exact⟨⟨_,rfl⟩,s,⟨ho,hS.i,hS.z⟩,hS.j⟩
set_option maxHeartbeats 16000000
attribute [local go_sem] Oper.semAt_some
theorem Cb(F:Fence)(n:Nat)(h6:F.fn 41)(mW:F.round=none)(a:Option Addr)(len cap:Nat)(tick:Int)(w:World):
  CallsIn F n prog 41 #[.slice a len cap,.int .i64 tick] w fun e w'=>e= .returned (.func (.func 84) #[] #[.pointer (some ⟨w.heap.size,0,none⟩),.pointer (some ⟨w.heap.size+1,0,none⟩)])∧w'=(w.alloc (.cells #[.slice a len cap] 56)).alloc (.cells #[.int .i64 tick] 3):=by
 refine callsIn_of_wp func41 rfl h6 ?_ mW
 simp only[ntmps41,Y0,ZS,ZA,Nat.reduceAdd,Nat.reduceSub,Yn,Yo,Ye,Yj,Zl,ZG]
 gi_wp2
 go_ret
 exact⟨rfl,rfl⟩
theorem Ml{B:Sx.Base}{o:List (bh×au)}{s:bN (bh×au)}{W:World}{l:Nat}(ob:Obj)(h:zh B o s W)(h1:B.heap.size≤l)(h2:¬s.own l):zh B o s (W.putObj l ob):=
 ⟨h.1,AK h.2.1 (.put h1 h2 ob) (ZX _),h.2.2⟩
structure nD(cb:Nat)(t:TypeId)(f:bN (bh×au)→Array Value→Prop)(s:bN (bh×au))(W:World):Prop where
 h:∃ vs,aT W cb vs t∧f s vs
 o:¬s.own cb
theorem nD.ab{cb:Nat}{t:TypeId}{f:bN (bh×au)→Array Value→Prop}(hf:∀ s s' vs,f s vs→s'.out=s.out→s.M.le s'.M→f s' vs){s s':bN (bh×au)}{W W':World}(h:nD cb t f s W)(eT:s.Ab W s' W'):nD cb t f s' W':=by
 obtain⟨⟨vs,h1,h2⟩,ho⟩:=h
 exact⟨⟨vs,(eT.old _ h1.lt fun e=>ho (.inr e)).trans h1,hf _ _ _ h2 eT.out eT.le⟩,fun e=>(eT.own e).elim ho fun e=>absurd h1.lt (by omega)⟩
theorem nD.put{cb:Nat}{t:TypeId}{f:bN (bh×au)→Array Value→Prop}{s:bN (bh×au)}{W:World}(h:nD cb t f s W){l:Nat}(hl:l≠cb)(o:Obj):nD cb t f s (W.putObj l o):=by
 obtain⟨⟨vs,h1,h2⟩,ho⟩:=h
 exact⟨⟨vs,(World.putObj_heap_other (fun e=>hl e.symm)).trans h1,h2⟩,ho⟩
theorem RI{s:bN (bh×au)}{B:Sx.Base}{W W':World}{n0:Nat}(hI:Sx.Inv prog s.M B [] W)(hb:∀ b,s.bs b→b<W.heap.size)(hB:Below W.heap.size W W')(hn:n0≤W.heap.size):s.Rd n0 W W':=
 ⟨hB.size,fun b h=>hB.block b (Y8 h hn),fun b h=>hB.block b (by rcases h with⟨o,v,h⟩|h;exact World.block_lt_of_cell? _ _ (hI.bL _ _ _ h);exact hb b h),hB.os,hB.tape,hB.output⟩
theorem afY{s:bN (bh×au)}{W W':World}{n0 cb:Nat}(h:rJ cb W W')(hn:n0≤cb)(ho:¬s.own cb):s.Rd n0 W W':=
 ⟨by rw[h.size];exact ZX _,fun b hb=>h.nk b (by omega),fun b hb=>h.nk b fun e=>ho (e ▸ hb),h.os,h.tape,h.output⟩
theorem nD.gQ{cb:Nat}{t:TypeId}{f:bN (bh×au)→Array Value→Prop}{s:bN (bh×au)}{W W':World}(h:nD cb t f s W)(hB:Below W.heap.size W W'):nD cb t f s W':=by
 obtain⟨⟨vs,h1,h2⟩,ho⟩:=h
 exact⟨⟨vs,h1.gQ hB h1.lt,h2⟩,ho⟩
theorem aff(M:Mem):RL M dY.cells [.slice none 0 0,.slice none 0 0,.slice none 0 0,.slice none 0 0]:=RL.cons (.nil _ _ _ (by simp)) (RL.cons (.nil _ _ _ (by simp)) (RL.cons (.nil _ _ _ (by simp)) (RL.cons (.nil _ _ _ (by simp)) RL.nil)))
def Ma(s:bN (bh×au))(vs:Array Value):Prop:=vs.size=4∧RL s.M (vv s.out).cells vs.toList
theorem V7(l:List aM)(tick:Int)(gI:∀ e∈l,FB e.bZ.feature)(hlen:l.length≤900){M:Mem}{w0:Sx.Base}{σ:Sx.Store}{w:World}(hI:Sx.Inv prog M w0 σ w)(cap:Nat)(ad:Option Addr)(hR:R M (.sl false 40 (l.map aM.cells)) (.slice ad l.length cap)):
  Calls prog 15 #[.slice ad l.length cap,.int .i64 tick] w fun e W'=>∃ (M':Mem) (vd:Array Value),e= .returned (.agg vd)∧M.le M'∧Sx.Inv prog M' w0 σ W'∧RL M' (vv (eQ tick (l.map aM.aG)).2).cells vd.toList:=by
 refine(callsIn_wide (n:=5)).1 ?_
 refine callsIn_of_wp_marks func15 rfl trivial ?_ rfl
 simp only[ntmps15,Y0,ZS,ZA,Nat.reduceAdd,Nat.reduceSub,Yn,Yo,Ye,Yj,Zl,ZG]
 gi_wp2_with (first|(gi_at_call 41;refine(Cb Fence.wide (5-1) trivial rfl _ _ _ _ _).mono ?_;rintro e w' ⟨rfl,rfl⟩)|(refine⟨trivial,?_⟩;gi_at_call 41;refine(Cb Fence.wide (5-1) trivial rfl _ _ _ _ _).mono ?_;rintro e w' ⟨rfl,rfl⟩))
 have rc:=((aT.new w #[.slice none 0 0,.slice none 0 0,.slice none 0 0,.slice none 0 0] 25).alloc (.cells #[.slice ad l.length cap] 56)).alloc (.cells #[.int .i64 tick] 3)
 have rl:=(aT.new (w.alloc (.cells #[.slice none 0 0,.slice none 0 0,.slice none 0 0,.slice none 0 0] 25)) #[.slice ad l.length cap] 56).alloc (.cells #[.int .i64 tick] 3)
 have rt:=aT.new ((w.alloc (.cells #[.slice none 0 0,.slice none 0 0,.slice none 0 0,.slice none 0 0] 25)).alloc (.cells #[.slice ad l.length cap] 56)) #[.int .i64 tick] 3
 simp only[World.size_alloc]at rl rt
 obtain⟨W0,kS⟩:∃ W0,W0=((w.alloc (.cells #[.slice none 0 0,.slice none 0 0,.slice none 0 0,.slice none 0 0] 25)).alloc (.cells #[.slice ad l.length cap] 56)).alloc (.cells #[.int .i64 tick] 3):=⟨_,rfl⟩
 have js:W0.heap.size=w.heap.size+3:=by rw[kS];simp
 have uz:Below w.heap.size w W0:=by rw[kS];exact(((Below.refl _ w).alloc (ZX _) _).alloc (by simp) _).alloc (by simp;omega) _
 rw[← kS]at rc rl rt ⊢
 clear kS
 have gH:=xW hI
 have CR:=gH.after uz
 have uC:∀ b o v,M b o=some v→b<w.heap.size:=fun b o v h=>World.block_lt_of_cell? _ _ (hI.bL _ _ _ h)
 refine Th (n0:=w.heap.size) rfl (by decide) (gf:=84) (lb:= #[.pointer (some ⟨w.heap.size+1,0,none⟩),.pointer (some ⟨w.heap.size+1+1,0,none⟩)]) rfl trivial (enters_of func84 (by kernel_rfl) rfl) (by omega)
  (H:=FY ⟨w,M⟩) (E:=zh ⟨w,M⟩ (eQ tick (l.map aM.aG)).2) (s0:=⟨[],M,fun b=>b=w.heap.size+1∨b=w.heap.size+1+1⟩) ?hps ?hseq
  (nD w.heap.size 25 Ma) (fun s W s' W' h eT=>h.ab (fun s s' vs h ho hM=>⟨h.1,by rw[ho];exact h.2.mono hM⟩) eT) (fun s W l o h h1 h2 h3=>h.put (by omega) o) (fun s W l o h h1 h2=>Ml o h (show w.heap.size≤l by omega) h2) ?h0 ?hs
  (fun s x a' W=>∃ Bd v1 v2,W0.heap.size+2≤Bd∧aT W Bd v2 25∧v2.size=4∧RL s.M x.2.cells v2.toList∧a'={tmps:= #[.slice ad l.length cap,.int .i64 tick,undef,undef,.pointer (some ⟨w.heap.size,0,none⟩),undef,.pointer (some ⟨Bd,0,none⟩),.slice ad l.length cap,.int .i64 tick,.func (.func 84) #[] #[.pointer (some ⟨w.heap.size+1,0,none⟩),.pointer (some ⟨w.heap.size+1+1,0,none⟩)],.agg v1,.agg v2,undef,undef],defers:=[]}) ?hAr ?hassign ?hbody ?hdone
 case hps=>rintro s x args W ⟨v1,v2,rfl,_⟩;rfl
 case hseq=>
  intro o o'
  refine Mo l tick gI hlen (5-1) (by decide) ⟨w,M⟩ M _ _ _ cap ad (CR.after (((Below.refl _ W0).alloc (ZX _) _).alloc (by simp) _)) (Sx.Mem.le.refl M) hR ((rl.alloc o).alloc o') ((rt.alloc o).alloc o')
 case h0=>exact⟨⟨_,rc,rfl,aff M⟩,fun h=>by rcases h with⟨o,v,h⟩|h|h;exact absurd (uC _ _ _ h) (by omega);omega;omega⟩
 case hs=>
  intro b h
  rcases h with⟨o,v,h⟩|h|h
  ·have:=uC _ _ _ h;omega
  ·omega
  ·omega
 case hAr=>
  rintro s x a' W l o ⟨Bd,v1,v2,h1,h2,h3⟩ g1 g2 g3
  exact⟨Bd,v1,v2,h1,(World.putObj_heap_other (by omega)).trans h2,h3⟩
 case hassign=>
  rintro yl s x args W K nO ⟨v1,v2,rfl,q1,q2,q3,q4, -⟩ bg hK
  have jQ:v2.size=4:=by rw[← ZQ,← q2.1];rfl
  have nY:(prog.info? 25).map (·.size)=some v2.size:=by rw[jQ];kernel_rfl
  have pA:v2.all (·.oneCell')=true:=by rw[← Y1];exact q2.iK rfl
  gi_wp2_with (with_reducible show wpListIn _ _ _ _ _ (⟨none,.store _ _ _,_,_,_,_⟩::_) _ _;refine rh ?_)
  unfold qd
  refine sX rfl 25 (.tmp 6) (.tmp 11) rfl (aT.new _ _ _) rfl rfl nY (by rw[jQ];rfl) pA fun W1 hD uP=> ?_
  obtain⟨eY,gT⟩:=uP.new
  exact hK _ _ ⟨W.heap.size,v1,v2,bg,hD,jQ,q2,rfl⟩ (nO.gQ eY) (RI q3 q4 eY (by omega)) fun b g1 g2=>eY.block b (by omega)
 case hbody=>
  rintro yl s x a' W nO ⟨Bd,v1,v2,h1,h2,jQ,h4,rfl⟩ bg
  obtain⟨⟨vs,g1,g2⟩,g3⟩:=nO
  have im:=g2.1
  have iP:Sx.eH prog 25=some (true,v2.size):=by rw[jQ];kernel_rfl
  have nY:(prog.info? 25).map (·.size)=some v2.size:=by rw[jQ];kernel_rfl
  have pA:v2.all (·.oneCell')=true:=by rw[← Y1];exact h4.iK rfl
  have ie:∀ W1,aT W1 w.heap.size v2 25→rJ w.heap.size W W1→nD w.heap.size 25 Ma (s.up x) W1∧s.Rd w.heap.size W W1∧∀ b,W0.heap.size≤b→b<W0.heap.size+2→W1.heap[b]? =W.heap[b]? :=fun W1 r1 r2=>
   ⟨⟨⟨v2,r1,jQ,by rw[show(s.up x).out=s.out++[x]from rfl,Qc];exact h4⟩,g3⟩,afY r2 (ZX _) g3,fun b k1 k2=>r2.nk b (by omega)⟩
  gi_wp2_with (first
   |(with_reducible show wpListIn _ _ _ _ _ (⟨some 12,_,_,_,_,_⟩::_) _ _;refine AF rfl 25 (.tmp 6) rfl h2 rfl iP ?_)
   |(with_reducible show wpListIn _ _ _ _ _ (⟨none,.store _ _ _,_,_,_,_⟩::_) _ _;refine rh ?_))
  unfold qd
  refine sX rfl 25 (.tmp 4) (.tmp 12) rfl g1 rfl rfl nY (by rw[jQ,im]) pA fun W1 r1 r2=> ?_
  have ie:=ie W1 r1 r2
  clear r1 r2
  gi_wp2
  exact fun b k1 k2=>ie.2.2 b (by omega) (by omega)
 case hdone=>
  intro D s W hE nO hD xw G7
  obtain⟨⟨vs,g1,g2⟩,g3⟩:=nO
  have im:=g2.1
  have iP:Sx.eH prog 25=some (true,vs.size):=by rw[im];kernel_rfl
  have nY:(prog.info? 25).map (·.size)=some vs.size:=by rw[im];kernel_rfl
  have pA:vs.all (·.oneCell')=true:=by rw[← Y1];exact g2.2.iK rfl
  clear uC
  gi_wp2_with (first
   |(with_reducible show wpListIn _ _ _ _ _ (⟨some 13,_,_,_,_,_⟩::_) _ _;refine AF rfl 25 (.tmp 4) rfl g1 rfl iP ?_)
   |(with_reducible show wpListIn _ _ _ _ _ (⟨none,.store _ _ _,_,_,_,_⟩::_) _ _;refine rh ?_))
  unfold qd
  refine sX rfl 25 (.tmp 4) (.tmp 13) rfl g1 rfl rfl nY rfl pA fun W1 r1 r2=> ?_
  have G5:W1.heap[D]? =some (.deferred (some [])):=(r2.nk D (by omega)).trans xw
  have jL:Sx.Inv prog s.M ⟨w,M⟩ [] W1:=Pz hE.2.1 r2 (ZX _) fun o=>by
   cases h:s.M w.heap.size o with
   |none=>rfl
   |some v=>exact absurd (.inl ⟨o,v,h⟩) g3
  clear r2
  gi_wp2
  refine⟨by simp,.inl ⟨_,_,rfl,run_takeDeferred G5,?_⟩⟩
  have fY:=vu hI (AK jL (.put (show w.heap.size≤D by omega) G7 (.deferred none)) (ZX _)) hE.2.2
  refine⟨.agg vs,results_cell_row (fn:=f15) rfl _ _ w.heap.size 25 vs (0,0) _ rfl ((World.putObj_heap_other (by omega)).trans r1) underlying25 rfl nY,s.M,vs,rfl,hE.2.2,fY,?_⟩
  rw[← hE.1];exact g2.2
end Go.Proofs.YthdeaajdmdmfnaaGreatDoor
set_option maxHeartbeats 8000000
namespace Go.Proofs.YthdeaajdmdmfnaaGreatDoor
open Go.RowKit Go.Proofs Go.Shelf
section
variable {n l:Nat}{P:Program}{ops:Array Oper}{Q:Exit→Act→World→Prop}
theorem afp{o:Oper}(hd:∀ c,o.op≠.defer c){K K':Act→World→Prop}(hk:∀ a w,K a w→K' a w){a:Act}{w:World}(h:o.wp P a w K Q):o.wpIn (Fence.wide.inRound l) n P a w K' Q:=by
 unfold Oper.wpIn
 refine⟨fun _ _=>trivial,?_⟩
 rw[semAt_plain _ _ hd]
 unfold Oper.wp at h
 generalize (execOp a.eval o).run P w=r at *
 cases r with
 |ok x w'=>
  cases x with
  |value v=>exact hk _ _ h
  |skip=>exact hk _ _ h
  |defer d=>exact hk _ _ h
  |enter f args=>
   refine⟨fun h=>(nomatch h),CallsIn.inRound l (CallsIn.mono (callsIn_wide.2 h) fun e tS he=> ?_)⟩
   cases e with
   |returned v=>exact hk _ _ he
   |panicked c=>exact he
   |outgrown=>exact he
  |row r args=>
   refine⟨fun h=>(nomatch h),fun c cs _=> ?_⟩
   obtain⟨v,tS,h1,h2⟩:=h c cs
   exact⟨v,tS,hk _ _ h1,stepsIn_wide.2 h2⟩
  |_=>exact h.elim
 |halt x w'=>cases x<;>first|exact h|fail
theorem D8(hd:∀ (i:Nat) (o:Oper),ops[i]? =some o→∀ c,o.op≠.defer c)(hq:¬LetsOut Q):∀ (is:List Nat) (a:Act) (w:World),wpOps P ops Q is a w→wpOpsIn (Fence.wide.inRound l) n P ops Q is a w
 |[],_,_,h=>h
 |i::is,a,w,h=>by
  unfold wpOps at h
  unfold wpOpsIn
  split at h
  ·rename_i h1;simp only[h1];exact D8 hd hq is a w h
  ·rename_i o h1
   simp only[h1]
   split at h
   ·rename_i h2
    rw[ZV h2]
    rcases h with h|⟨_,h⟩
    ·exact afp (hd i o h1) (fun a w=>D8 hd hq is a w) h
    ·exact absurd h hq
   ·rename_i h2
    rw[Z7 h2]
    exact⟨fun _ _=>trivial,D8 hd hq is _ w h⟩
theorem aga{S:World→Prop}{id:Nat}{a:Act}{w:World}(hm:P.follows .mixedOrders=true)(hd:ops.all (fun o=>match o.op with| .defer _=>false|_=>true)=true)(hq:¬LetsOut Q)(hS:S w.drew)
  (h:S w.drew→wpAnyH P .any ops Q S ops.size (Array.replicate ops.size false) a w.drew):(Code.region id ops true).wpIn (Fence.wide.inRound l) n P Q a w:=
 wpIn_region_draw fun t=>by
  simp only[Region.schedule,hm,Bool.true_or,YX]
  refine D8 (fun i o ho c hc=> ?_) hq _ _ _ (wpAny_sound ops.size t _ a _ (wpAny_of_held _ _ _ _ (h hS)))
  have:=Array.all_eq_true.1 hd i (Z6.1 ho).1
  rw[(Z6.1 ho).2,hc]at this
  cases this
theorem Je{c:Bool}{A B:Prop}(hc:c=true)(h:A):if c=true then A else B:=by rw[ZV hc];exact h
theorem K9{o:Oper}{a:Act}{w w':World}{K:Act→World→Prop}(s x:Operand)(t:TypeId)(ho:o.op= .call {callee:= .builtin .append,args:= #[s,x],argTypes:= #[t,t]}){v u v':Value}(hs:a.eval s=v)(hx:a.eval x=u)(hr:(Builtin.append_ #[t,t] o.type #[v,u]).run P w= .ok v' w')(h:K (a.put o.dst v') w'):o.wp P a w K Q:=by
 unfold Oper.wp execOp
 simp only[ho,resolve,invoke,builtin,Sem.run_bind,Sem.run_pure,Result.andThen_ok,List.map_toArray,Zv,YT,hs,hx,hr]
 exact h
end
end Go.Proofs.YthdeaajdmdmfnaaGreatDoor
set_option maxHeartbeats 16000000
namespace Go.Proofs.YthdeaajdmdmfnaaGreatDoor
open _root_.Go.Proofs.Tryz
open Go.RowKit Go.Proofs Go.Shelf
open Go.Sx (AV Mem RL R M0 Glob)
attribute [local go_sem] Oper.semAt_some
def nC(p:Nat→Prop)(L:List Int)(val:Value)(W:World):Prop:=
 (val= .slice none 0 0∧L=[])∨∃ (g cap:Nat) (cur:Array Value),val= .slice (some ⟨g,0,none⟩) L.length cap∧aT W g cur 3∧L.length≤cap∧cur.size=cap∧cap≤maxLen∧cur.toList.take L.length=L.map (fun v=>Value.int .i64 v)∧p g
structure Tv(p:Nat→Prop)(W W':World):Prop where
 size:W.heap.size≤W'.heap.size
 old:∀ b,b<W.heap.size→¬p b→W'.heap[b]? =W.heap[b]?
 os:W'.os=W.os
 tape:W'.tape=W.tape
 output:W'.output=W.output
theorem take_one{α:Type}(A B:List α)(x:α){n:Nat}(h:A.length=n):(A++x::B).take (n+1)=A++[x]:=by
 subst h
 rw[List.take_append,Zq (by omega),show A.length+1-A.length=1 by omega];rfl
theorem VT{p:Nat→Prop}{L:List Int}{val:Value}{W:World}(h:nC p L val W)(hL:L.length≤100000)(hp:∀ b,W.heap.size≤b→p b)(a:Nat)(v:Int)(ha:W.cell? ⟨a,0,none⟩=some (.int .i64 v)):
  ∃ val' W',(Builtin.append_ #[68,68] 68 #[val,.slice (some ⟨a,0,none⟩) 1 1]).run prog W= .ok val' W'∧nC p (L++[v]) val' W'∧Tv p W W':=by
 have hh:(prog.info? 3).map (fun i=>(i.zero,i.size,i.bytes))=some (some (.int .i64 0),1,8):=by kernel_rfl
 obtain⟨i,hi,hj⟩:∃ i,prog.info? 3=some i∧(i.zero,i.size,i.bytes)=(some (.int .i64 0),1,8):=by
  cases h:prog.info? 3 with
  |none=>rw[h]at hh;cases hh
  |some i=>rw[h]at hh;exact⟨i,rfl,YK hh⟩
 have hz:i.zero=some (.int .i64 0):=(Prod.mk.inj hj).1
 have h1:i.size=1:=(Prod.mk.inj (Prod.mk.inj hj).2).1
 have h8:i.bytes=8:=(Prod.mk.inj (Prod.mk.inj hj).2).2
 have qB:∀ (j:Nat) (u:Value),[Value.int .i64 v][j]? =some u→W.cell? ((⟨a,0,none⟩:Addr).add j)=some u:=fun j u hj=>by
  cases j with
  |zero=>cases hj;exact ha
  |succ j=>cases hj
 have aj0:W.drew.heap.size=W.heap.size:=rfl
 have OH:(L++[v]).map (fun v=>Value.int .i64 v)=L.map (fun v=>Value.int .i64 v)++[.int .i64 v]:=by simp
 have hm:(100001:Nat)≤maxLen:=by unfold maxLen;decide
 rcases h with⟨rfl,rfl⟩|⟨g,cap,cur,rfl,hg,Df,bK,iQ,ht,Dl⟩
 ·have hr:=run_append_nil (P:=prog) W 68 68 3 i (.int .i64 0) underlying68 hi hz ⟨a,0,none⟩ 1 1 [.int .i64 v] (by rw[h1];rfl) qB (by decide) (by decide) (by rw[h8];decide)
  have pw:=grownCap_ge W 1 0 3
  have hle:=grownCap_le_maxLen W 1 0 3 (by omega)
  refine⟨_,_,hr,.inr ⟨W.heap.size,_,_,rfl,Go.heap_alloc_new W.drew _,pw,?_,hle,?_,hp _ (ZX _)⟩,⟨by simp,fun b hb _=>Go.heap_alloc_old W.drew _ b hb,rfl,rfl,rfl⟩⟩
  ·simp[size_zeroCells,Value.cells];omega
  ·simp
 ·by_cases dL:L.length+1≤cap
  ·have hr:=run_append_room (P:=prog) (w:=W) 68 68 3 i underlying68 hi g L.length cap cur hg ⟨a,0,none⟩ 1 1 [.int .i64 v] (by rw[h1];rfl) qB (fun u hu=>by rw[Zg.1 hu];rfl) dL (by rw[h1];simp;omega)
   rw[h1,Yb]at hr
   refine⟨_,_,hr,.inr ⟨g,cap,_,by simp,setRow_heap W g cur _ _ _ hg,by simpa using dL,?_,iQ,?_,Dl⟩,⟨by simp,fun b hb hn=>setRow_other W g b _ (fun e=>hn (e ▸ Dl)),rfl,rfl,rfl⟩⟩
   ·simp;omega
   ·rw[ht,OH];simp only[Z4,ZS,ZA,Zb,ZG,Zl,ZH];exact take_one _ _ _ (by simp)
  ·have holds:∀ (j:Nat) (u:Value),(L.map (fun v=>Value.int .i64 v))[j]? =some u→W.cell? ((⟨g,0,none⟩:Addr).add j)=some u:=fun j u hj=>by
    rw[← ht]at hj
    have ik:cur[j]? =some u:=by
     rw[Y4]at hj
     split at hj
     ·simpa using hj
     ·cases hj
    have:=hg.cell ik
    rwa [show(⟨g,0,none⟩:Addr).add j=⟨g,j,none⟩ by unfold Addr.add;simp;try omega]
   have hr:=run_append_grow (P:=prog) W 68 68 3 i (.int .i64 0) underlying68 hi hz ⟨g,0,none⟩ L.length cap (L.map (fun v=>Value.int .i64 v)) (by rw[h1];simp) holds ⟨a,0,none⟩ 1 1 [.int .i64 v] (by rw[h1];rfl) qB (by omega) (by omega) (growslice_fits (by omega) (by rw[h8];omega))
   have pw:=grownCap_ge W (L.length+1) cap 3
   have hle:=grownCap_le_maxLen W (L.length+1) cap 3 (by omega)
   refine⟨_,_,hr,.inr ⟨W.heap.size,_,_,by simp,Go.heap_alloc_new W.drew _,by simpa using pw,?_,hle,?_,hp _ (ZX _)⟩,⟨by simp,fun b hb _=>Go.heap_alloc_old W.drew _ b hb,rfl,rfl,rfl⟩⟩
   ·simp[size_zeroCells,Value.cells];omega
   ·rw[OH];simp only[Z4,ZS,ZA,ZH,Xy,Zb,ZG,Zl];exact take_one _ _ _ (by simp)
theorem nC.slice{p:Nat→Prop}{L:List Int}{val:Value}{W:World}(h:nC p L val W):∃ a n c,val= .slice a n c:=by
 rcases h with⟨h,_⟩|⟨g,cap,cur,h1,_⟩
 ·exact⟨_,_,_,h⟩
 ·exact⟨_,_,_,h1⟩
theorem nC.to{p p':Nat→Prop}{L:List Int}{val:Value}{W W':World}(h:nC p L val W)(hk:∀ g cur,aT W g cur 3→val.ownBlock=some g→p g→p' g∧W'.heap[g]? =W.heap[g]?):nC p' L val W':=by
 rcases h with h|⟨g,cap,cur,h1,h2,h3,h4,h5,h6,h7⟩
 ·exact .inl h
 ·have:=hk g cur h2 (by rw[h1];rfl) h7
  exact .inr ⟨g,cap,cur,h1,this.2.trans h2,h3,h4,h5,h6,this.1⟩
theorem WL{M:Mem}{c:au}{C:Array Value}(h:RL M c.cells C.toList):∃ ad cap,C[2]? =some (.slice ad c.aD.length cap)∧R M (.sl false 18 (c.aD.map aq.cells)) (.slice ad c.aD.length cap):=by
 obtain⟨hl,hr⟩:=h
 have hs:C.size=4:=by rw[← ZQ,← hl];rfl
 have h2:=hr 2 (show 2<4 by decide) (by rw[ZQ,hs];decide)
 obtain⟨a,c2,e, -⟩:=mE (show R M (.sl false 18 (c.aD.map aq.cells)) _ from h2)
 rw[ZW]at e
 have h2:R M (.sl false 18 (c.aD.map aq.cells)) (C.toList[2]'(by rw[ZQ,hs];decide)):=h2
 rw[e]at h2
 refine⟨a,c2,?_,h2⟩
 rw[ZN (by omega)]
 simpa using e
theorem WS{M:Mem}{x:bh}{C:Array Value}(h:RL M x.cells C.toList):∃ (kd:Int) (fn:af),C[0]? =some (.int .i64 kd)∧C[5]? =some (.string fn)∧kd=x.kind∧fn=x.feature.name:=by
 obtain⟨hl,hr⟩:=h
 have hs:C.size=24:=by rw[← ZQ,← hl];rfl
 have g:∀ i (h1:i<x.cells.length) (h2:i<C.toList.length),R M x.cells[i] C.toList[i]:=hr
 refine⟨_,_,?_,?_,rfl,rfl⟩
 ·have:=(g 0 (show 0<24 by decide) (by rw[ZQ,hs];decide)).ay
  rw[ZN (by omega)]
  simpa using this
 ·have:=(g 5 (show 5<24 by decide) (by rw[ZQ,hs];decide)).ay
  rw[ZN (by omega)]
  simpa using this
theorem V2{p:Nat→Prop}{L:List Int}{val:Value}{W:World}(h:nC p L val W){M:Mem}{w0:Sx.Base}{σ:Sx.Store}(hI:Sx.Inv prog M w0 σ W)(hp:∀ g,p g→w0.heap.size≤g∧(∀ o,M g o=none)∧∀ e∈σ,e.2.1≠g):∃ M':Mem,M.le M'∧Sx.Inv prog M' w0 σ W∧R M' (.sl false 1 (L.map fun v=>[iv v])) val:=by
 rcases h with⟨rfl,rfl⟩|⟨g,cap,cur,rfl,hg,Df,bK,iQ,ht,Dl⟩
 ·exact⟨M,Sx.Mem.le.refl _,hI,.nil _ _ _ (by simp)⟩
 obtain⟨p1,p2,p3⟩:=hp g Dl
 obtain⟨M',N4⟩:∃ M':Mem,M'=fun b o=>if b=g then cur[o]? else M b o:=⟨_,rfl⟩
 have aE:∀ b o,b≠g→M' b o=M b o:=fun b o h=>by rw[N4];exact Z7 h
 have heq:∀ o,M' g o=cur[o]? :=fun o=>by rw[N4];exact ZV rfl
 have hle:M.le M':=fun b o v h=>by rw[aE b o fun e=>by subst e;rw[p2]at h;cases h];exact h
 refine⟨M',hle,⟨hI.os,hI.tape,hI.output,hI.size,hI.old,fun b o v hv=> ?_,fun e he=>⟨(hI.st e he).1,?_⟩,hI.nd,fun g' l hl=>(hI.gl g' l hl).mono hle,hI.gw,fun b o v hv hb=>hI.bm b o v (by rwa [aE b o (by omega)]at hv) hb⟩,?_⟩
 ·by_cases hb:b=g
  ·subst hb;rw[heq]at hv;exact hg.cell hv
  ·rw[aE b o hb]at hv;exact hI.bL b o v hv
 ·have h2:=(hI.st e he).2
  have h3:=p3 e he
  cases hx:e.2.2 with
  |cells l=>
   rw[hx]at h2
   obtain⟨h1,cs,t,h4,h5⟩:=h2
   exact⟨fun o=>by rw[aE _ _ h3];exact h1 o,cs,t,h4,h5.mono hle⟩
  |tail u c=>
   rw[hx]at h2
   obtain⟨h1,cs,t,h4,h5⟩:=h2
   exact⟨fun o h=>by rw[aE _ _ h3];exact h1 o h,cs,t,h4,h5⟩
  |map es k=>
   rw[hx]at h2
   obtain⟨h1,l,h4,h5,h6⟩:=h2
   exact⟨fun o=>by rw[aE _ _ h3];exact h1 o,l,h4,h5,h6.mono hle⟩
 ·have sF:∀ k (hk:k<L.length),cur[k]? =some (.int .i64 L[k]):=fun k hk=>by
   have:(cur.toList.take L.length)[k]? =some (.int .i64 L[k]):=by rw[ht,X2,Z1 hk];rfl
   rw[Y4,ZV hk]at this
   simpa using this
  have:=R.sl (M:=M') false 1 (L.map fun v=>[iv v]) g 0 cap (fun k=> .int .i64 (L.getD k 0)) (fun i hi=>by rw[Zu];rfl) (fun k hk=>by
    have hk:k<L.length:=by simpa using hk
    rw[ZH,heq,sF k hk,Z3,Z1 hk];rfl) (fun i hi j hj=>by
    have hi:i<L.length:=by simpa using hi
    simp only[Zu,ZS,ZA]at hj ⊢
    obtain rfl:j=0:=by omega
    simp only[Yx,Yb,Ym]
    rw[Z3,Z1 hi];exact .v _) (by rw[ZW];exact Df) iQ
  rwa [ZW]at this
theorem ajp(n:af)(o:List (bh×au)):(jY n o).length≤o.length:=by
 have h:∀ (o:List (bh×au)) (v:List Int),(o.foldl (yE n) v).length≤v.length+o.length:=by
  intro o
  induction o with
  |nil=>intro v;exact ZX _
  |cons e o ih=>
   intro v
   rw[Yt,ZS]
   refine ZI (ih _) ?_
   unfold yE
   split
   ·simp only[Z4,ZS,ZA];omega
   ·omega
 have:=h o []
 unfold jY
 simpa using this
structure yX(n0 lo nb vb:Nat)(s:bN (bh×au))(g:Nat):Prop where
 o:¬s.own g
 n:n0≤g
 d:g≠nb∧g≠vb
 l:g<lo∨lo+2≤g
structure mB(nm:af)(n0 lo nb vb:Nat)(s:bN (bh×au))(W:World):Prop where
 n:aT W nb #[.string nm] 9
 no:¬s.own nb
 v:∃ val,aT W vb #[val] 68∧nC (yX n0 lo nb vb s) (jY nm s.out) val W
 vo:¬s.own vb
theorem mB.ab{nm:af}{n0 lo nb vb:Nat}{s s':bN (bh×au)}{W W':World}(h:mB nm n0 lo nb vb s W)(eT:s.Ab W s' W'):mB nm n0 lo nb vb s' W':=by
 obtain⟨h1,h2,⟨val,h3,h4⟩,h5⟩:=h
 have hn:∀ {b},b<W.heap.size→¬s.own b→¬s'.own b:=fun hb ho e=>(eT.own e).elim ho fun e=>absurd hb (by omega)
 have hs:∀ {b},b<W.heap.size→¬s.own b→W'.heap[b]? =W.heap[b]? :=fun hb ho=>eT.old _ hb fun e=>ho (.inr e)
 refine⟨(hs h1.lt h2).trans h1,hn h1.lt h2,⟨val,(hs h3.lt h5).trans h3,?_⟩,hn h3.lt h5⟩
 rw[eT.out]
 exact h4.to fun g cur hg _ hp=>⟨⟨hn hg.lt hp.o,hp.n,hp.d,hp.l⟩,hs hg.lt hp.o⟩
theorem mB.put{nm:af}{n0 lo nb vb:Nat}{s:bN (bh×au)}{W:World}(h:mB nm n0 lo nb vb s W){l:Nat}(h1:nb<lo)(h2:vb<lo)(h3:lo≤l)(h4:l<lo+2)(o:Obj):mB nm n0 lo nb vb s (W.putObj l o):=by
 obtain⟨g1,g2,⟨val,g3,g4⟩,g5⟩:=h
 exact⟨(World.putObj_heap_other (by omega)).trans g1,g2,⟨val,(World.putObj_heap_other (by omega)).trans g3,g4.to fun g cur hg _ hp=>⟨hp,World.putObj_heap_other (by have:=hp.l;omega)⟩⟩,g5⟩
theorem mB.gQ{nm:af}{n0 lo nb vb:Nat}{s:bN (bh×au)}{W W':World}(h:mB nm n0 lo nb vb s W)(hB:Below W.heap.size W W'):mB nm n0 lo nb vb s W':=by
 obtain⟨g1,g2,⟨val,g3,g4⟩,g5⟩:=h
 exact⟨g1.gQ hB g1.lt,g2,⟨val,g3.gQ hB g3.lt,g4.to fun g cur hg _ hp=>⟨hp,hB.block g hg.lt⟩⟩,g5⟩
theorem ajo(l:List aM)(nm:af)(gI:∀ e∈l,FB e.bZ.feature)(hlen:l.length≤900){M:Mem}{w0:Sx.Base}{σ:Sx.Store}{w:World}(hI:Sx.Inv prog M w0 σ w)(cap:Nat)(ad:Option Addr)(hR:R M (.sl false 40 (l.map aM.cells)) (.slice ad l.length cap)):
  Calls prog 16 #[.slice ad l.length cap,.string nm] w fun e W'=>∃ (M':Mem) (v:Value),e= .returned v∧M.le M'∧Sx.Inv prog M' w0 σ W'∧R M' (.sl false 1 ((jY nm (eQ 9223372036854775807 (l.map aM.aG)).2).map fun v=>[iv v])) v:=by
 refine(callsIn_wide (n:=5)).1 ?_
 refine callsIn_of_wp_marks func16 rfl trivial ?_ rfl
 simp only[ntmps16,Y0,ZS,ZA,Nat.reduceAdd,Nat.reduceSub,Yn,Yo,Ye,Yj,Zl,ZG]
 gi_wp2_with (first|(gi_at_call 41;refine(Cb Fence.wide (5-1) trivial rfl _ _ _ _ _).mono ?_;rintro e w' ⟨rfl,rfl⟩)|(refine⟨trivial,?_⟩;gi_at_call 41;refine(Cb Fence.wide (5-1) trivial rfl _ _ _ _ _).mono ?_;rintro e w' ⟨rfl,rfl⟩))
 have rn:=((((aT.new w #[.string nm] 9).alloc (.cells #[.slice none 0 0] 68)).alloc (.cells #[.slice ad l.length cap] 56)).alloc (.cells #[.int .i64 9223372036854775807] 3))
 have rv:=(((aT.new (w.alloc (.cells #[.string nm] 9)) #[.slice none 0 0] 68).alloc (.cells #[.slice ad l.length cap] 56)).alloc (.cells #[.int .i64 9223372036854775807] 3))
 have rl:=(aT.new ((w.alloc (.cells #[.string nm] 9)).alloc (.cells #[.slice none 0 0] 68)) #[.slice ad l.length cap] 56).alloc (.cells #[.int .i64 9223372036854775807] 3)
 have rt:=aT.new (((w.alloc (.cells #[.string nm] 9)).alloc (.cells #[.slice none 0 0] 68)).alloc (.cells #[.slice ad l.length cap] 56)) #[.int .i64 9223372036854775807] 3
 simp only[World.size_alloc]at rv rl rt
 obtain⟨W0,kS⟩:∃ W0,W0=(((w.alloc (.cells #[.string nm] 9)).alloc (.cells #[.slice none 0 0] 68)).alloc (.cells #[.slice ad l.length cap] 56)).alloc (.cells #[.int .i64 9223372036854775807] 3):=⟨_,rfl⟩
 have js:W0.heap.size=w.heap.size+4:=by rw[kS];simp
 have uz:Below w.heap.size w W0:=by rw[kS];exact((((Below.refl _ w).alloc (ZX _) _).alloc (by simp) _).alloc (by simp;omega) _).alloc (by simp;omega) _
 rw[← kS]at rn rv rl rt ⊢
 clear kS
 have gH:=xW hI
 have CR:=gH.after uz
 have uC:∀ b o v,M b o=some v→b<w.heap.size:=fun b o v h=>World.block_lt_of_cell? _ _ (hI.bL _ _ _ h)
 refine Th (n0:=w.heap.size) rfl (by decide) (gf:=84) (lb:= #[.pointer (some ⟨w.heap.size+1+1,0,none⟩),.pointer (some ⟨w.heap.size+1+1+1,0,none⟩)]) rfl trivial (enters_of func84 (by kernel_rfl) rfl) (by omega)
  (H:=FY ⟨w,M⟩) (E:=zh ⟨w,M⟩ (eQ 9223372036854775807 (l.map aM.aG)).2) (s0:=⟨[],M,fun b=>b=w.heap.size+1+1∨b=w.heap.size+1+1+1⟩) ?hps ?hseq
  (mB nm w.heap.size (w.heap.size+4) w.heap.size (w.heap.size+1)) (fun s W s' W' h eT=>h.ab eT) (fun s W l o h h1 h2 h3=>h.put (by omega) (by omega) (by omega) (by omega) o) (fun s W l o h h1 h2=>Ml o h (show w.heap.size≤l by omega) h2) ?h0 ?hs
  (fun s x a' W=>(∃ Bx Bd v1 v2,w.heap.size+6≤Bx∧w.heap.size+6≤Bd∧aT W Bx v1 47∧RL s.M x.1.cells v1.toList∧aT W Bd v2 25∧RL s.M x.2.cells v2.toList∧a'={tmps:= #[.slice ad l.length cap,.string nm,undef,.pointer (some ⟨w.heap.size,0,none⟩),.pointer (some ⟨w.heap.size+1,0,none⟩),.pointer (some ⟨Bx,0,none⟩),.pointer (some ⟨Bd,0,none⟩),.slice ad l.length cap,.func (.func 84) #[] #[.pointer (some ⟨w.heap.size+1+1,0,none⟩),.pointer (some ⟨w.heap.size+1+1+1,0,none⟩)],.agg v1,.agg v2,undef,undef,undef,undef,undef,undef,undef,undef,undef,undef,undef,undef,undef,undef,undef,undef,undef,undef,undef,undef,undef,undef,undef],defers:=[]})
   ∧Sx.Inv prog s.M ⟨w,M⟩ [] W∧(∀ b,s.bs b→b<W.heap.size)∧s.out.length≤1000∧∃ c,bR c x.1=(x.2,0)) ?hAr ?hassign ?hbody ?hdone
 case hps=>rintro s x args W ⟨v1,v2,rfl,_⟩;rfl
 case hseq=>
  intro o o'
  refine Mo l 9223372036854775807 gI hlen (5-1) (by decide) ⟨w,M⟩ M _ _ _ cap ad (CR.after (((Below.refl _ W0).alloc (ZX _) _).alloc (by simp) _)) (Sx.Mem.le.refl M) hR ((rl.alloc o).alloc o') ((rt.alloc o).alloc o')
 case h0=>
  have kv:∀ b,w.heap.size≤b→b<w.heap.size+2→¬bN.own (⟨[],M,fun b=>b=w.heap.size+1+1∨b=w.heap.size+1+1+1⟩:bN (bh×au)) b:=fun b g1 g2 h=>by
   rcases h with⟨o,v,h⟩|h|h
   ·exact absurd (uC _ _ _ h) (by omega)
   ·omega
   ·omega
  exact⟨rn,kv _ (ZX _) (by omega),⟨_,rv,.inl ⟨rfl,rfl⟩⟩,kv _ (by omega) (by omega)⟩
 case hs=>
  intro b h
  rcases h with⟨o,v,h⟩|h|h
  ·have:=uC _ _ _ h;omega
  ·omega
  ·omega
 case hAr=>
  rintro s x a' W l o ⟨⟨Bx,Bd,v1,v2,h1,h2,h3,h4,h5,h6⟩,h7,h8,h9⟩ g1 g2 g3
  exact⟨⟨Bx,Bd,v1,v2,h1,h2,(World.putObj_heap_other (by omega)).trans h3,h4,(World.putObj_heap_other (by omega)).trans h5,h6⟩,AK h7 (.put (show w.heap.size≤l by omega) g2 o) (ZX _),fun b hb=>by rw[World.putObj_size];exact h8 b hb,h9⟩
 case hassign=>
  rintro yl s x args W K nO ⟨v1,v2,rfl,q1,q2,q3,q4,q5⟩ bg hK
  have im:v1.size=24:=by rw[← ZQ,← q1.1];rfl
  have jQ:v2.size=4:=by rw[← ZQ,← q2.1];rfl
  have nY:(prog.info? 25).map (·.size)=some v2.size:=by rw[jQ];kernel_rfl
  have aca:(prog.info? 47).map (·.size)=some v1.size:=by rw[im];kernel_rfl
  have pA:v2.all (·.oneCell')=true:=by rw[← Y1];exact q2.iK rfl
  have acq:v1.all (·.oneCell')=true:=by rw[← Y1];exact q1.iK rfl
  gi_wp2_with (with_reducible show wpListIn _ _ _ _ _ (⟨none,.store _ _ _,_,_,_,_⟩::_) _ _;refine rh ?_)
  unfold qd
  refine sX rfl 47 (.tmp 5) (.tmp 9) rfl (aT.new _ _ _) rfl rfl aca (by rw[im];rfl) acq fun W1 hX uP=> ?_
  have eY:=uP.new.1
  have hX0:=hX.lt
  clear uP
  gi_wp2_with (with_reducible show wpListIn _ _ _ _ _ (⟨none,.store _ _ _,_,_,_,_⟩::_) _ _;refine rh ?_)
  unfold qd
  refine sX rfl 25 (.tmp 6) (.tmp 10) rfl (aT.new _ _ _) rfl rfl nY (by rw[jQ];rfl) pA fun W2 hD Ib=> ?_
  obtain⟨zH,eL⟩:=Ib.new
  have hB:Below W.heap.size W W2:=⟨zH.os.trans eY.os,zH.tape.trans eY.tape,zH.output.trans eY.output,by omega,fun k hk=>(zH.block k (by omega)).trans (eY.block k hk)⟩
  exact hK _ _ ⟨⟨W.heap.size,W1.heap.size,v1,v2,by omega,by omega,hX.gQ zH hX.lt,q1,hD,q2,rfl⟩,q3.after hB,fun b hb=>Y8 (q4 b hb) hB.size,q5⟩ (nO.gQ hB) (RI q3 q4 hB (by omega)) fun b g1 g2=>hB.block b (by omega)
 case hbody=>
  rintro yl s x a' W nO ⟨⟨Bx,Bd,v1,v2,h1,h2,h3,h4,h5,h6,rfl⟩,h7,h8,h9,c0,CN⟩ bg
  obtain⟨g1,g2,⟨val,g3,g4⟩,g5⟩:=nO
  obtain⟨kd,fn,e0,e5,ekd,efn⟩:=WS h4
  have kx0:=h3.cell e0
  have kx5:=h3.cell e5
  have kn:W.cell? ⟨w.heap.size,0,none⟩=some (.string nm):=g1.cell rfl
  have Au:¬(x.1.kind=2∧x.1.feature.name=nm)→mB nm w.heap.size (w.heap.size+4) w.heap.size (w.heap.size+1) (s.up x) W:=fun hc=>by
   refine⟨g1,g2,⟨val,g3,?_⟩,g5⟩
   rw[show(s.up x).out=s.out++[x]from rfl,KZ]
   unfold yE
   rw[Z7 hc]
   exact g4.to fun g cur _ _ hp=>⟨⟨hp.o,hp.n,hp.d,hp.l⟩,rfl⟩
  clear hR gI rn rv rl rt
  have Av:w.heap.size+4≤W0.heap.size∧W0.heap.size≤w.heap.size+4:=by omega
  clear js
  gi_wp2_with (fail)
  ·rename_i hk hn
   have jq:x.1.feature.name=nm:=by rw[Sx.oX]at hn;exact XK hn
   refine aga (S:=fun V=>∀ k,k<W.heap.size→k≠w.heap.size+1→val.ownBlock≠some k→V.heap[k]? =W.heap[k]?) (by kernel_rfl) (by kernel_rfl) ?_ (fun _ _ _ _=>rfl) (fun hH=> ?_)
   ·rintro⟨_,_,h⟩
    exact Exit.noConfusion (And.left h)
   obtain⟨LV,mF,Ib,Ol⟩:=WL h6
   have Ac:∀ g,val.ownBlock=some g→yX w.heap.size (w.heap.size+4) w.heap.size (w.heap.size+1) s g∧g≠Bd:=fun g hg=>by
    rcases g4 with⟨rfl,_⟩|⟨g',cap,cur,rfl,k2,_,_,_,_,k7⟩
    ·cases hg
    ·cases hg
     refine⟨k7,fun e=> ?_⟩
     subst e
     have:=k2.symm.trans h5
     simp at this
   have HQ:∀ V:World,(∀ k,k<W.heap.size→k≠w.heap.size+1→val.ownBlock≠some k→V.heap[k]? =W.heap[k]?)→V.cell? ⟨Bd,2,none⟩=some (.slice LV x.2.aD.length mF)∧V.cell? ⟨w.heap.size,0,none⟩=some (.string nm):=fun V hV=>
    ⟨aT.cell ((hV Bd h5.lt (by omega) fun e=>(Ac _ e).2 rfl).trans h5) Ib,aT.cell ((hV w.heap.size g1.lt (by omega) fun e=>(Ac _ e).1.d.1 rfl).trans g1) rfl⟩
   obtain⟨j,bb,off,rfl,hj,il,I5⟩:∃ j bb off,LV=some ⟨bb,off,none⟩∧j<x.2.aD.length∧cW x.2.aD nm=(j:Int)∧s.M bb (off+j * 18+17)=some (.int .i64 (j7 x.2 nm)):=by
    have xI:=afJ CN hk
    rw[jq]at xI
    obtain⟨a2,c2,e2,iu⟩:=mE Ol
    simp only[ZW,Value.slice.injEq,Ys]at e2 iu
    obtain⟨rfl,rfl⟩:=e2
    obtain⟨bb,off,rfl,cs,bK,hl,hc⟩:=iu _ xI.2
    refine⟨_,bb,off,rfl,xI.2,by omega,?_⟩
    rw[hc 17 (by omega)]
    have CO:=bK.2 17 (by rw[Zu];show 17<18;decide) (by omega)
    simp only[Zu]at CO
    have CO:=CO.ay
    rw[CO]
    unfold j7
    rw[Z3,Z1 xI.2];rfl
   have O4:∀ V:World,(∀ k,k<W.heap.size→k≠w.heap.size+1→val.ownBlock≠some k→V.heap[k]? =W.heap[k]?)→V.cell? ⟨bb,off+j * 18+17,none⟩=some (.int .i64 (j7 x.2 nm)):=fun V hV=>by
    have hm:=h7.bL _ _ _ I5
    have hb:V.heap[bb]? =W.heap[bb]? :=hV bb (World.block_lt_of_cell? _ _ hm) (fun e=>g5 (e ▸ .inl ⟨_,_,I5⟩)) fun e=>(Ac _ e).1.o (.inl ⟨_,_,I5⟩)
    simp only[World.cell?,hb]at hm ⊢
    exact hm
   have Oq:Calls prog 42 #[.slice (some ⟨bb,off,none⟩) x.2.aD.length mF,.string nm] W.drew fun e W'=>e= .returned (.int .i64 (j:Int))∧Below W.heap.size W.drew W':=by
    have gH:=xW h7.eI
    refine((uv x.2.aD nm).sp [] s.M ⟨W.drew,s.M⟩ W.drew [_,_] gH (RL.cons Ol (RL.cons (.v _) RL.nil))).mono fun e W' ⟨M',r,σ',_,bp,hr,hq⟩=> ?_
    obtain⟨rfl,_⟩:=hq
    cases e<;>simp only[Sx.iH]at hr
    obtain rfl:=hr.ay
    exact⟨by rw[← il];try rfl,⟨bp.os,bp.tape,bp.output,bp.size,bp.old⟩⟩
   have I4:∀ V:World,(∀ k,k<W.heap.size→V.heap[k]? =W.heap[k]?)→V.cell? ⟨w.heap.size+1,0,none⟩=some val∧V.frozen? ⟨w.heap.size+1,0,none⟩=false:=fun V hV=>
    ⟨aT.cell ((hV _ g3.lt).trans g3) rfl,aT.frozen ((hV _ g3.lt).trans g3) 0⟩
   have CY:∀ W1,Below W.heap.size W.drew W1→∀ k,k<W.heap.size→W1.heap[k]? =W.heap[k]? :=fun W1 h k hk=>h.block k hk
   have zP:∀ W1 (o:Obj),Below W.heap.size W.drew W1→∀ k,k<W.heap.size→(W1.alloc o).heap[k]? =W.heap[k]? :=fun W1 o h k hk=>(Below.heap_alloc _ _ _ (Y8 hk h.size)).trans (h.block k hk)
   have z7:∀ W1,Below W.heap.size W.drew W1→∃ val' W3,(Builtin.append_ #[68,68] 68 #[val,.slice (some ⟨W1.heap.size,0,none⟩) 1 1]).run prog (W1.alloc (.cells #[.int .i64 (j7 x.2 nm)] 3))= .ok val' W3∧(∀ k,k<W.heap.size→val.ownBlock≠some k→W3.heap[k]? =W.heap[k]?)∧aT W3 (w.heap.size+1) #[val] 68∧
     (mB nm w.heap.size (w.heap.size+4) w.heap.size (w.heap.size+1) (s.up x) (W3.setCell ⟨w.heap.size+1,0,none⟩ val')∧s.Rd w.heap.size W (W3.setCell ⟨w.heap.size+1,0,none⟩ val')∧∀ b,W0.heap.size≤b→b<W0.heap.size+2→(W3.setCell ⟨w.heap.size+1,0,none⟩ val').heap[b]? =W.heap[b]?)∧∃ a n c,val'= .slice a n c:=by
    intro W1 eY
    have zR:Below W.heap.size W.drew (W1.alloc (.cells #[.int .i64 (j7 x.2 nm)] 3)):=eY.alloc eY.size _
    have Du:W.heap.size≤W1.heap.size:=eY.size
    have hA0:nC (fun k=>yX w.heap.size (w.heap.size+4) w.heap.size (w.heap.size+1) s k∧(val.ownBlock=some k∨W.heap.size≤k)) (jY nm s.out) val (W1.alloc (.cells #[.int .i64 (j7 x.2 nm)] 3)):=g4.to fun g cur hg ho hp=>⟨⟨hp,.inl ho⟩,zR.block g hg.lt⟩
    have dt:∀ b,s.own b→b<W.heap.size:=fun b hb=>by
     rcases hb with⟨o,v,hb⟩|hb
     ·exact World.block_lt_of_cell? _ _ (h7.bL _ _ _ hb)
     ·exact h8 b hb
    obtain⟨val',W3,hr,hA,hp⟩:=VT hA0 (ZI (ajp nm s.out) (by omega)) (fun b hb=>by
     simp only[World.size_alloc]at hb
     exact⟨⟨fun e=>absurd (dt b e) (by omega),by omega,⟨by omega,by omega⟩,.inr (by omega)⟩,.inr (by omega)⟩) W1.heap.size (j7 x.2 nm) (aT.cell (aT.new W1 _ _) rfl)
    have hold:∀ b,b<W.heap.size→val.ownBlock≠some b→W3.heap[b]? =W.heap[b]? :=fun b hb hn=>(hp.old b (by simp only[World.size_alloc];omega) (by rintro⟨_,h|h⟩;exact hn h;omega)).trans (zR.block b hb)
    have ot:aT W3 (w.heap.size+1) #[val] 68:=(hold _ g3.lt fun e=>(Ac _ e).1.d.2 rfl).trans g3
    have Ag:∀ b,b<W.heap.size→b≠w.heap.size+1→¬yX w.heap.size (w.heap.size+4) w.heap.size (w.heap.size+1) s b→(W3.setCell ⟨w.heap.size+1,0,none⟩ val').heap[b]? =W.heap[b]? :=fun b hb hn hv=>(heap_setCell_other W3 _ b val' hn).trans (hold b hb fun e=>hv (Ac _ e).1)
    have acE:W.heap.size≤(W3.setCell ⟨w.heap.size+1,0,none⟩ val').heap.size:=by
     rw[World.size_setCell]
     have:=hp.size
     simp only[World.size_alloc]at this
     omega
    refine⟨val',W3,hr,hold,ot,⟨⟨(Ag _ g1.lt (by omega) fun h=>h.d.1 rfl).trans g1,g2,⟨val',ot.set 0 val',?_⟩,g5⟩,⟨acE,fun b hb=>Ag b (by have:=g1.lt;omega) (by omega) fun h=>absurd h.n (by omega),fun b hb=>Ag b (dt b hb) (fun e=>g5 (e ▸ hb)) fun h=>h.o hb,hp.os.trans zR.os,hp.tape.trans zR.tape,hp.output.trans zR.output⟩,fun b su dZ=>Ag b (by omega) (by omega) fun h=>absurd h.l (by omega)⟩,hA.slice⟩
    rw[show(s.up x).out=s.out++[x]from rfl,KZ]
    unfold yE
    rw[ZV ⟨hk,jq⟩]
    exact hA.to fun g cur hg _ hv=>⟨⟨hv.1.o,hv.1.n,hv.1.d,hv.1.l⟩,heap_setCell_other W3 _ g val' hv.1.d.2⟩
   refine wpAnyH_take (i:=1) (oi:= .mk (some 22) (.fieldAddr _ (.tmp 6) 2) _ _ _ _) (v:= .pointer (some ⟨Bd,2,none⟩)) rfl (by kernel_rfl) (by kernel_rfl) (by kernel_rfl) (fun _ _ _ h=>h) (Or.inl ⟨by rfl,fun V _=>by go_simp⟩) hH ?_
   try simp only[Act.put,Z5,ZP,ZO]
   refine wpAnyH_take (i:=2) (oi:= .mk (some 23) (.load _ (.tmp 22)) _ _ _ _) (v:= .slice (some ⟨bb,off,none⟩) x.2.aD.length mF) rfl (by kernel_rfl) (by kernel_rfl) (by kernel_rfl) (fun _ _ _ h=>h) (Or.inl ⟨by rfl,fun V h=>by have:=(HQ V h).1;go_simp⟩) hH ?_
   try simp only[Act.put,Z5,ZP,ZO]
   refine wpAnyH_take (i:=3) (oi:= .mk (some 24) (.fieldAddr _ (.tmp 6) 2) _ _ _ _) (v:= .pointer (some ⟨Bd,2,none⟩)) rfl (by kernel_rfl) (by kernel_rfl) (by kernel_rfl) (fun _ _ _ h=>h) (Or.inl ⟨by rfl,fun V _=>by go_simp⟩) hH ?_
   try simp only[Act.put,Z5,ZP,ZO]
   refine wpAnyH_take (i:=4) (oi:= .mk (some 25) (.load _ (.tmp 24)) _ _ _ _) (v:= .slice (some ⟨bb,off,none⟩) x.2.aD.length mF) rfl (by kernel_rfl) (by kernel_rfl) (by kernel_rfl) (fun _ _ _ h=>h) (Or.inl ⟨by rfl,fun V h=>by have:=(HQ V h).1;go_simp⟩) hH ?_
   try simp only[Act.put,Z5,ZP,ZO]
   refine wpAnyH_take (i:=5) (oi:= .mk (some 26) (.load _ (.tmp 3)) _ _ _ _) (v:= .string nm) rfl (by kernel_rfl) (by kernel_rfl) (by kernel_rfl) (fun _ _ _ h=>h) (Or.inl ⟨by rfl,fun V h=>by have:=(HQ V h).2;go_simp⟩) hH ?_
   try simp only[Act.put,Z5,ZP,ZO]
   refine wpAnyH_ready (rs:=[0,6]) (by kernel_rfl) (by simp) (AllReadyH.cons (o:= .mk (some 21) (.load _ (.tmp 4)) _ _ _ _) rfl (fun K hK=> ?_) (AllReadyH.cons (o:= .mk (some 27) (.call _) _ _ _ _) rfl (fun K hK=> ?_) AllReadyH.nil))
   ·have kV:=(I4 W.drew (fun _ _=>rfl)).1
    go_simp
    refine hK.out _ _ (fun _ _ _ _=>rfl) (fun hH=> ?_)
    clear hK K
    try simp only[Act.put,Z5,ZP,ZO]
    refine wpAnyH_ready (rs:=[6]) (by kernel_rfl) (by simp) (AllReadyH.cons (o:= .mk (some 27) (.call _) _ _ _ _) rfl (fun K hK=> ?_) AllReadyH.nil)
    go_simp
    go_at_call 42
    refine Oq.mono ?_
    rintro e W1 ⟨rfl,eY⟩
    go_wp2_with fail
    refine hK.out _ _ (fun k hk _ _=>CY W1 eY k hk) (fun hH=> ?_)
    clear hK K
    try simp only[Act.put,Z5,ZP,ZO]
    refine wpAnyH_take (i:=7) (oi:= .mk (some 28) (.indexAddr _ _ _) _ _ _ _) (v:= .pointer (some ⟨bb,off+j * 18,none⟩)) rfl (by kernel_rfl) (by kernel_rfl) (by kernel_rfl) (fun _ _ _ h=>h) (Or.inl ⟨by rfl,fun V _=>by go_simp⟩) hH ?_
    try simp only[Act.put,Z5,ZP,ZO]
    refine wpAnyH_take (i:=8) (oi:= .mk (some 29) (.fieldAddr _ _ 4) _ _ _ _) (v:= .pointer (some ⟨bb,off+j * 18+17,none⟩)) rfl (by kernel_rfl) (by kernel_rfl) (by kernel_rfl) (fun _ _ _ h=>h) (Or.inl ⟨by rfl,fun V _=>by go_simp⟩) hH ?_
    try simp only[Act.put,Z5,ZP,ZO]
    refine wpAnyH_take (i:=9) (oi:= .mk (some 30) (.load _ (.tmp 29)) _ _ _ _) (v:= .int .i64 (j7 x.2 nm)) rfl (by kernel_rfl) (by kernel_rfl) (by kernel_rfl) (fun _ _ _ h=>h) (Or.inl ⟨by rfl,fun V h=>by have:=O4 V h;go_simp⟩) hH ?_
    try simp only[Act.put,Z5,ZP,ZO]
    refine wpAnyH_ready (rs:=[10]) (by kernel_rfl) (by simp) (AllReadyH.cons (o:= .mk (some 31) (.buildSlice _ _ _) _ _ _ _) rfl (fun K hK=> ?_) AllReadyH.nil)
    go_simp
    refine hK.out _ _ (fun k hk _ _=>zP W1 _ eY k hk) (fun hH=> ?_)
    clear hK K
    try simp only[Act.put,Z5,ZP,ZO]
    refine wpAnyH_ready (rs:=[11]) (by kernel_rfl) (by simp) (AllReadyH.cons (o:= .mk (some 32) (.call _) _ _ _ _) rfl (fun K hK=> ?_) AllReadyH.nil)
    obtain⟨val',W3,u9,hold,ot,ie,a4,n4,c4,rfl⟩:=z7 W1 eY
    refine Je rfl ?_
    refine K9 (.tmp 21) (.tmp 31) 68 rfl rfl rfl u9 ?_
    refine hK.out _ _ (fun k hk _ hn=>hold k hk hn) (fun hH=> ?_)
    clear hK K
    try simp only[Act.put,Z5,ZP,ZO]
    refine wpAnyH_ready (rs:=[12]) (by kernel_rfl) (by simp) (AllReadyH.cons (o:= .mk (none) (.store _ _ _) _ _ _ _) rfl (fun K hK=> ?_) AllReadyH.nil)
    have zZ:=ot.cell (j:=0) (v:=val) rfl
    have sC:=ot.frozen 0
    go_simp
    refine hK.out _ _ (fun k hk aE hn=>(heap_setCell_other W3 ⟨w.heap.size+1,0,none⟩ k (.slice a4 n4 c4) aE).trans (hold k hk hn)) (fun hH=>wpAnyH_done (by kernel_rfl) ?_ _)
    exact⟨rfl,ie⟩
   ·go_simp
    go_at_call 42
    refine Oq.mono ?_
    rintro e W1 ⟨rfl,eY⟩
    go_wp2_with fail
    refine hK.out _ _ (fun k hk _ _=>CY W1 eY k hk) (fun hH=> ?_)
    clear hK K
    try simp only[Act.put,Z5,ZP,ZO]
    refine wpAnyH_take (i:=7) (oi:= .mk (some 28) (.indexAddr _ _ _) _ _ _ _) (v:= .pointer (some ⟨bb,off+j * 18,none⟩)) rfl (by kernel_rfl) (by kernel_rfl) (by kernel_rfl) (fun _ _ _ h=>h) (Or.inl ⟨by rfl,fun V _=>by go_simp⟩) hH ?_
    try simp only[Act.put,Z5,ZP,ZO]
    refine wpAnyH_take (i:=8) (oi:= .mk (some 29) (.fieldAddr _ _ 4) _ _ _ _) (v:= .pointer (some ⟨bb,off+j * 18+17,none⟩)) rfl (by kernel_rfl) (by kernel_rfl) (by kernel_rfl) (fun _ _ _ h=>h) (Or.inl ⟨by rfl,fun V _=>by go_simp⟩) hH ?_
    try simp only[Act.put,Z5,ZP,ZO]
    refine wpAnyH_take (i:=9) (oi:= .mk (some 30) (.load _ (.tmp 29)) _ _ _ _) (v:= .int .i64 (j7 x.2 nm)) rfl (by kernel_rfl) (by kernel_rfl) (by kernel_rfl) (fun _ _ _ h=>h) (Or.inl ⟨by rfl,fun V h=>by have:=O4 V h;go_simp⟩) hH ?_
    try simp only[Act.put,Z5,ZP,ZO]
    refine wpAnyH_ready (rs:=[0,10]) (by kernel_rfl) (by simp) (AllReadyH.cons (o:= .mk (some 21) (.load _ (.tmp 4)) _ _ _ _) rfl (fun K hK=> ?_) (AllReadyH.cons (o:= .mk (some 31) (.buildSlice _ _ _) _ _ _ _) rfl (fun K hK=> ?_) AllReadyH.nil))
    ·have kV:=(I4 W1 (CY W1 eY)).1
     go_simp
     refine hK.out _ _ (fun k hk _ _=>CY W1 eY k hk) (fun hH=> ?_)
     clear hK K
     try simp only[Act.put,Z5,ZP,ZO]
     refine wpAnyH_ready (rs:=[10]) (by kernel_rfl) (by simp) (AllReadyH.cons (o:= .mk (some 31) (.buildSlice _ _ _) _ _ _ _) rfl (fun K hK=> ?_) AllReadyH.nil)
     go_simp
     refine hK.out _ _ (fun k hk _ _=>zP W1 _ eY k hk) (fun hH=> ?_)
     clear hK K
     try simp only[Act.put,Z5,ZP,ZO]
     refine wpAnyH_ready (rs:=[11]) (by kernel_rfl) (by simp) (AllReadyH.cons (o:= .mk (some 32) (.call _) _ _ _ _) rfl (fun K hK=> ?_) AllReadyH.nil)
     obtain⟨val',W3,u9,hold,ot,ie,a4,n4,c4,rfl⟩:=z7 W1 eY
     refine Je rfl ?_
     refine K9 (.tmp 21) (.tmp 31) 68 rfl rfl rfl u9 ?_
     refine hK.out _ _ (fun k hk _ hn=>hold k hk hn) (fun hH=> ?_)
     clear hK K
     try simp only[Act.put,Z5,ZP,ZO]
     refine wpAnyH_ready (rs:=[12]) (by kernel_rfl) (by simp) (AllReadyH.cons (o:= .mk (none) (.store _ _ _) _ _ _ _) rfl (fun K hK=> ?_) AllReadyH.nil)
     have zZ:=ot.cell (j:=0) (v:=val) rfl
     have sC:=ot.frozen 0
     go_simp
     refine hK.out _ _ (fun k hk aE hn=>(heap_setCell_other W3 ⟨w.heap.size+1,0,none⟩ k (.slice a4 n4 c4) aE).trans (hold k hk hn)) (fun hH=>wpAnyH_done (by kernel_rfl) ?_ _)
     exact⟨rfl,ie⟩
    ·go_simp
     refine hK.out _ _ (fun k hk _ _=>zP W1 _ eY k hk) (fun hH=> ?_)
     clear hK K
     try simp only[Act.put,Z5,ZP,ZO]
     refine wpAnyH_ready (rs:=[0]) (by kernel_rfl) (by simp) (AllReadyH.cons (o:= .mk (some 21) (.load _ _) _ _ _ _) rfl (fun K hK=> ?_) AllReadyH.nil)
     have kV:=(I4 (W1.alloc (.cells #[.int .i64 (j7 x.2 nm)] 3)) (zP W1 _ eY)).1
     go_simp
     refine hK.out _ _ (fun k hk _ _=>zP W1 _ eY k hk) (fun hH=> ?_)
     clear hK K
     try simp only[Act.put,Z5,ZP,ZO]
     refine wpAnyH_ready (rs:=[11]) (by kernel_rfl) (by simp) (AllReadyH.cons (o:= .mk (some 32) (.call _) _ _ _ _) rfl (fun K hK=> ?_) AllReadyH.nil)
     obtain⟨val',W3,u9,hold,ot,ie,a4,n4,c4,rfl⟩:=z7 W1 eY
     refine Je rfl ?_
     refine K9 (.tmp 21) (.tmp 31) 68 rfl rfl rfl u9 ?_
     refine hK.out _ _ (fun k hk _ hn=>hold k hk hn) (fun hH=> ?_)
     clear hK K
     try simp only[Act.put,Z5,ZP,ZO]
     refine wpAnyH_ready (rs:=[12]) (by kernel_rfl) (by simp) (AllReadyH.cons (o:= .mk (none) (.store _ _ _) _ _ _ _) rfl (fun K hK=> ?_) AllReadyH.nil)
     have zZ:=ot.cell (j:=0) (v:=val) rfl
     have sC:=ot.frozen 0
     go_simp
     refine hK.out _ _ (fun k hk aE hn=>(heap_setCell_other W3 ⟨w.heap.size+1,0,none⟩ k (.slice a4 n4 c4) aE).trans (hold k hk hn)) (fun hH=>wpAnyH_done (by kernel_rfl) ?_ _)
     exact⟨rfl,ie⟩
  ·rename_i hk hn
   have jq:¬x.1.feature.name=nm:=by rw[Sx.oX]at hn;exact of_decide_eq_false hn
   exact⟨Au fun h=>jq h.2,.refl _ _ _⟩
  ·rename_i hk
   first|exact⟨Au fun h=>hk h.1,.refl _ _ _⟩|exact .refl _ _ _
 case hdone=>
  intro D s W hE nO hD xw G7
  obtain⟨g1,g2,⟨val,g3,g4⟩,g5⟩:=nO
  have k3:W.cell? ⟨w.heap.size+1,0,none⟩=some val:=g3.cell rfl
  have f3:W.frozen? ⟨w.heap.size+1,0,none⟩=false:=g3.frozen 0
  have Av:w.heap.size+4≤W0.heap.size∧W0.heap.size≤w.heap.size+4:=by omega
  have fY:=vu hI hE.2.1 hE.2.2
  clear uC js hR gI rn rv rl rt
  obtain⟨a3,n3,c3,rfl⟩:=g4.slice
  have hD0:=(Z6.1 xw).1
  have Dj:∀ b,b≠w.heap.size+1→b≠D→((W.setCell ⟨w.heap.size+1,0,none⟩ (.slice a3 n3 c3)).putObj D (.deferred none)).heap[b]? =W.heap[b]? :=fun b k1 k2=>(World.putObj_heap_other k2).trans (heap_setCell_other W ⟨w.heap.size+1,0,none⟩ b (.slice a3 n3 c3) k1)
  have G5:(W.setCell ⟨w.heap.size+1,0,none⟩ (.slice a3 n3 c3)).heap[D]? =some (.deferred (some [])):=(heap_setCell_other W ⟨w.heap.size+1,0,none⟩ D (.slice a3 n3 c3) (show D≠w.heap.size+1 by omega)).trans xw
  have CS:=vu hI (AK hE.2.1 (W':=(W.setCell ⟨w.heap.size+1,0,none⟩ (.slice a3 n3 c3)).putObj D (.deferred none)) (n0:=w.heap.size) ⟨by rw[World.putObj_size,World.size_setCell];exact ZX _,fun b hb=>Dj b (by omega) (by omega),fun b hb=>Dj b (fun e=>g5 (e ▸ hb)) fun e=>G7 (e ▸ hb),rfl,rfl,rfl⟩ (ZX _)) hE.2.2
  have NT:nC (yX w.heap.size (w.heap.size+4) w.heap.size (w.heap.size+1) s) (jY nm s.out) (.slice a3 n3 c3) ((W.setCell ⟨w.heap.size+1,0,none⟩ (.slice a3 n3 c3)).putObj D (.deferred none)):=g4.to fun g cur hg _ hp=>⟨hp,Dj g hp.d.2 fun e=>by subst e;rw[show W.heap[g]? =_ from hg]at xw;cases xw⟩
  obtain⟨M9,N5,CT,Hr⟩:=V2 NT CS fun g hp=>⟨ZI hI.size hp.n,fun o=>by
   cases h:s.M g o with
   |none=>rfl
   |some v=>exact absurd (.inl ⟨o,v,h⟩) hp.o,fun e he h=>absurd (hI.pM he) (by have:=hp.n;omega)⟩
  have hv9:((W.setCell ⟨w.heap.size+1,0,none⟩ (.slice a3 n3 c3)).putObj D (.deferred none)).cell? ⟨w.heap.size+1,0,none⟩=some (.slice a3 n3 c3):=aT.cell (cs:= #[.slice a3 n3 c3]) (t:=68) ((World.putObj_heap_other (by omega)).trans (g3.set 0 (.slice a3 n3 c3))) rfl
  rw[hE.1]at Hr
  have ie:=And.intro (hE.2.2.trans N5) (And.intro CT Hr)
  have hME:=hE.2.2
  clear Dj CS NT fY hI CR gH hE N5 CT Hr
  gi_wp2
  refine⟨by simp,.inl ⟨_,_,rfl,run_takeDeferred G5,?_⟩⟩
  refine⟨.slice a3 n3 c3,?_,M9,_,rfl,ie⟩
  simp[results,f16,go_sem,hv9]
end Go.Proofs.YthdeaajdmdmfnaaGreatDoor
set_option maxHeartbeats 4000000
namespace Go.Proofs.YthdeaajdmdmfnaaGreatDoor
open _root_.Go.Proofs.Tryz
open Go.Sx Go.Proofs Go.Tb Go.RowKit
theorem B5(l:List aM)(tick:Int)(gI:∀ e∈l,FB e.bZ.feature)(hlen:l.length≤900):Sx.Pure prog 15 [.sl false 40 (l.map aM.cells),iv tick] (.agg (gF (l.map aM.aG) tick).cells):=by
 refine⟨fun σ M w0 w cs hI hR=> ?_⟩
 obtain⟨x1,cq,rfl,q1,bY⟩:=hR.aX
 obtain⟨x2,rfl,q2⟩:=RL.cJ bY
 obtain rfl:=q2.ay
 obtain⟨ad,cap,rfl, -⟩:=mE q1
 simp only[ZW]at q1 ⊢
 refine(V7 l tick gI hlen hI cap ad q1).mono fun e W' ⟨M',vd,h1,h2,h3,h4⟩=> ?_
 subst h1
 rw[(Gf tick eS (l.map aM.aG)).2.1]at h4
 exact⟨M',.ret _,σ,h2,h3,by have:=R.oF h4;rwa [XB]at this,rfl,rfl⟩
theorem ajr(l:List aM)(nm:af)(gI:∀ e∈l,FB e.bZ.feature)(hlen:l.length≤900):Sx.Pure prog 16 [.sl false 40 (l.map aM.cells),sv nm] (.sl false 1 ((wj (l.map aM.aG) 9223372036854775807 nm).2.map fun v=>[iv v])):=by
 refine⟨fun σ M w0 w cs hI hR=> ?_⟩
 obtain⟨x1,cq,rfl,q1,bY⟩:=hR.aX
 obtain⟨x2,rfl,q2⟩:=RL.cJ bY
 obtain rfl:=q2.ay
 obtain⟨ad,cap,rfl, -⟩:=mE q1
 simp only[ZW]at q1 ⊢
 refine(ajo l nm gI hlen hI cap ad q1).mono fun e W' ⟨M',v,h1,h2,h3,h4⟩=> ?_
 subst h1
 rw[(Gf 9223372036854775807 nm (l.map aM.aG)).2.2]at h4
 exact⟨M',.ret _,σ,h2,h3,h4,rfl,rfl⟩
set_option maxHeartbeats 16000000
noncomputable def fj(l:List aM)(tick:Int)(a i:Nat):au:=gF ((l.take (max a i)).map aM.aG) tick
theorem Mn{l:List aM}{tick:Int}{a i:Nat}(h:i<a):fj l tick a (i+1)=fj l tick a i:=by
 unfold fj
 rw[show max a (i+1)=max a i by omega]
theorem Mm{l:List aM}{tick:Int}{a i:Nat}(h:a≤i)(hi:i<l.length):fj l tick a (i+1)=gK tick (fj l tick a i) (l.getD i default).aG:=by
 unfold fj
 rw[show max a (i+1)=i+1 by omega,show max a i=i by omega,Yu,Yu,V6 tick (by simpa using hi),MP hi]
theorem WJ{l:List aM}{tick:Int}{a i:Nat}(hi:i<l.length)(h:tick<(l.getD i default).tick∨¬(l.getD i default).kind=3):fj l tick a (i+1)=fj l tick a i:=by
 rcases YU i a with h1|h1
 ·exact Mn h1
 ·rw[Mm h1 hi]
  exact ZV (by rcases h with h|h;exact .inr h;exact .inl h)
theorem WI{l:List aM}{tick:Int}{a i:Nat}(h1:a≤i)(hi:i<l.length)(h2:¬tick<(l.getD i default).tick)(h3:(l.getD i default).kind=3):fj l tick a (i+1)=if(bR (fj l tick a i) (l.getD i default).bZ).2=0 then(bR (fj l tick a i) (l.getD i default).bZ).1 else fj l tick a i:=by
 rw[Mm h1 hi]
 unfold gK yr
 rw[Z7 (by rintro(h|h);exact h h3;exact h2 h)]
 by_cases h:(bR (fj l tick a i) (l.getD i default).bZ).2=0
 ·rw[ZV h];exact ZV h
 ·rw[Z7 h];exact Z7 h
theorem WH{l:List aM}{tick:Int}{a i:Nat}(h:∀ e∈l,FB e.bZ.feature)(hl:l.length≤900):CB 900 (fj l tick a i):=by
 refine(FQ tick _ fun e he=> ?_).le ?_
 ·obtain⟨x,hx,rfl⟩:=Zi.1 he
  exact h x (YS hx)
 ·rw[ZW,Zx];omega
theorem aaM(l:List aM):((l.map aM.cells).all fun r=>r.all AV.one)=true:=by
 rw[List.all_map,Zz];intro x _;rfl
def Met(f:aq)(n:af)(vs:List Int)(j:Nat)(B:Bool):Prop:=B=true↔(f.name≠n∨f.version∈vs.take j)
theorem aeV(f:aq)(n:af)(vs:List Int):Met f n vs 0 (!decide (f.name=n)):=by unfold Met;simp
theorem QA{f:aq}{n:af}{vs:List Int}{j:Nat}{B:Bool}(h:Met f n vs j B)(hj:j<vs.length):Met f n vs (j+1) (B || decide (vs.getD j default=f.version)):=by
 unfold Met at *
 rw[ZC hj,Zy,Zg,YO,h,Z3,Z1 hj,ZR]
 simp only[Zp]
 constructor
 ·rintro((h|h)|h)
  ·exact .inl h
  ·exact .inr (.inl h)
  ·exact .inr (.inr h.symm)
 ·rintro(h|h|h)
  ·exact .inl (.inl h)
  ·exact .inl (.inr h)
  ·exact .inr h.symm
theorem aeW{f:aq}{n:af}{vs:List Int}{j:Nat}{B:Bool}(h:Met f n vs j B)(hj:¬(j:Int)<vs.length)(hv:f.name=n→f.version∈vs):B=true:=by
 unfold Met at h
 rw[h,Zq (by omega)]
 by_cases e:f.name=n
 ·exact .inr (hv e)
 ·exact .inl e
theorem afE(l:List aM)(t k:Int)(n:af)(hf:∀ e∈l,e.Fits)(hn:n.size≤2 ^ 59)(hE:Pure prog 5 [] (.v (.bool true))):Pure prog 4 [.sl false 40 (l.map aM.cells),iv t,iv k,sv n] (.v (.bool true)):=by
 have hF:=abb l hf
 by_cases Oo:yH l∧0≤k∧k≤l.length∧n.size≤100
 case neg=>
  refine k4.p fun σ=> ?_
  repeat'(first|exact .nil|refine .k0 ?_|refine .k1 ?_|refine .k2 ?_|refine .k4 ?_|refine .k7 ?_|refine .k9 ?_|(refine .cd ?_ ?_<;>(intro hc;skip))|refine .r1 ?_ ?_|(refine .m2 ?_ ?_;intro hlen)|refine .t2 ?_ ?_ ?_|refine .an rfl (by intro aI;first|exact hE|exact hF|fail) ?_ ?_|fail)
  try any_goals(exact Zo)
  all_goals(try simp only[BL]at *)
  all_goals first|(cases hc;done)|(exfalso;exact Oo ⟨hc.1.1.1,by omega,by omega,by omega⟩)|(refine Sx.Fin.wk Zs ?_;repeat' first|exact .refl _|fail)
 obtain⟨po,Af,ku,im⟩:=Oo
 rw[YJ po]at hF
 have gI:∀ e∈l,FB e.bZ.feature:=fun e he=>abh (po.2 e he).1.2.1 (hf e he).f
 obtain⟨a,rfl⟩:∃ a:Nat,k=a:=⟨k.toNat,by omega⟩
 have Hw:a≤l.length:=by omega
 have aj6:=po.1
 have G1:=B5 (l.take a) t (fun e h=>gI e (YS h)) (by rw[Zx];omega)
 have ka:=B5 l t gI (by omega)
 have zD:=B5 l 9223372036854775807 gI (by omega)
 have hV:=ajr l n gI (by omega)
 have CP:=B5 (jH t l) 9223372036854775807 (fun e h=>gI e (Ze.1 h).1) (ZI (X8 _ _) (by omega))
 rw[aaF l t _ fun e he=>(hf e he).k]at CP
 have G2:=fun i (h:i<l.length)=>FN KJ JO (fj l t a i) (l.getD i default).bZ 900 (by decide) (WH gI (by omega)) (gI _ (dp h))
 have de:=ajq (l.map aM.aG) 9223372036854775807 n
 rw[show gF ((l.take a).map aM.aG) t=fj l t a 0 by unfold fj;rw[Nat.max_eq_left (ZM a)]]at G1
 rw[show gF (l.map aM.aG) t=fj l t a l.length by unfold fj;rw[Nat.max_eq_right Hw,Yr]]at ka CP
 refine k4.pc (fun d=>bif ([94]:List Nat).elem d then 3 else 0) fun σ=> ?_
 repeat'(first|exact .nil|refine .k0 ?_|refine .k1 ?_|refine .k2 ?_|refine .k4 ?_|refine .k6 ?_|refine .k7 ?_|refine .k9 ?_|(refine .cd ?_ ?_<;>(intro hc;skip))|refine .r1 ?_ ?_|(refine .l1 ?_;intro b)|(refine .m2 ?_ ?_;intro hlen)|refine .t2 ?_ ?_ ?_|refine .an rfl (by intro aI;first|exact hE|exact hF|(refine G1.wk ?_;(repeat' first|exact .refl _|fail);done)|fail) ?_ ?_|fail)
 try any_goals(exact Zo)
 all_goals(try simp only[BL]at *)
 ·cases hc
 ·exfalso;omega
 clear hE hF G1 hc hlen
 generalize b=b9
 refine cr (fun m rg σ'=>∃ (i:Nat) (x:AV) (τ:Store),i≤l.length∧m=l.length-i∧yO 40 64 ((jH t (l.take i)).map aM.cells) x τ∧σ'=τ++(9,b9,.cells (fj l t a i).cells)::σ∧rg=[(0,.sl false 40 (l.map aM.cells)),(1,iv t),(2,iv a),(3,sv n),(9,.lp 9 b9 0),(10,x),(11,iv i)]) l.length rfl ⟨_,_,Zr,Zs,0,_,[],ZM _,rfl,.inl ⟨rfl,rfl,rfl⟩,rfl,rfl⟩ ?_
 rintro m _ _ ⟨i,x,τ,hi,hm,hx,rfl,rfl⟩
 rcases YU i l.length with aw|pw
 ·have abH:=G2 i aw
  have Pc:(i:Int)<(l.length:Int):=by omega
  have pz:(jH t (l.take i)).length≤60:=ZI (X8 _ _) (by rw[Zx];omega)
  have gT:¬t<(l.getD i default).tick→(jH t (l.take (i+1))).map aM.cells=(jH t (l.take i)).map aM.cells++[(l.getD i default).cells]:=fun h=>by
   rw[MN aw,ZV (by omega),YZ];rfl
  have eL:t<(l.getD i default).tick→(jH t (l.take (i+1))).map aM.cells=(jH t (l.take i)).map aM.cells:=fun h=>by
   rw[MN aw,Z7 (by omega),YP]
  have xK:=WJ (l:=l) (tick:=t) (a:=a) aw
  have xE:=Mn (l:=l) (tick:=t) (a:=a) (i:=i)
  have mS:=fun h:a≤i=>WI (l:=l) (tick:=t) (a:=a) h aw
  generalize bR (fj l t a i) (l.getD i default).bZ=ap at *
  obtain⟨d,ae⟩:=ap
  generalize fj l t a i=c1 at *
  clear ka zD CP hV G2 de
  rcases id hx with⟨h0,rfl,rfl⟩|⟨b1,u1,q1,rfl,rfl⟩
  all_goals
   repeat'(first|exact .nil|refine .k0 ?_|refine .k1 ?_|refine .k2 ?_|refine .k3 ?_|refine .k4 ?_|refine .k6 ?_|refine .k8 ?_|refine .k9 ?_|(refine .cd ?_ ?_<;>(intro hc;skip))|refine .r1 ?_ ?_|(refine .l1 ?_;intro b)|(refine .m2 ?_ ?_;intro hlen)|refine .t1 ?_ ?_ ?_|refine .u1 ?_ ?_ ?_ (fun b u c=> ?_)|refine .u2 ?_ ?_ ?_ (fun b u c=> ?_)|refine .an rfl (by intro aI;first|exact abH|fail) ?_ ?_|(show List.all _ _=true;rfl)|fail)
   try any_goals(exact Zo)
   all_goals(try simp only[BL]at *)
  any_goals(show(1:Nat)≤1000000;decide)
  any_goals(show 1 * 528≤_;decide)
  try any_goals(first|omega|(simp only[ZS,ZA,Z4,ZW,Zx,L1,Su,Sp,Y0];omega))
  try any_goals exact aaM _
  ·refine⟨l.length-(i+1),by omega,_,_,Zr,Zs,i+1,_,[],by omega,rfl,?_,?_,by rw[cm (n:=l.length) (by omega) (by assumption)]⟩
   ·rw[eL hc];exact hx
   ·rw[xK (.inl hc)];try rfl
  ·rename_i bA k1 k2 k3
   refine⟨l.length-(i+1),by omega,_,_,Zr,.cons (.refl _),i+1,_,[(64,bA,.tail u c)],by omega,rfl,.inr ⟨bA,u,c,?_,rfl⟩,?_,by rw[cm (n:=l.length) (by omega) (by assumption)]⟩
   ·rw[gT k2];first|(rw[h0];rfl)|fail
   ·rw[mS (by omega) k2 k3.2,ZV hc];rfl
  ·rename_i bA k1 k2 k3
   refine⟨l.length-(i+1),by omega,_,_,Zr,.cons (.refl _),i+1,_,[(64,bA,.tail u c)],by omega,rfl,.inr ⟨bA,u,c,?_,rfl⟩,?_,by rw[cm (n:=l.length) (by omega) (by assumption)]⟩
   ·rw[gT k2];first|(rw[h0];rfl)|fail
   ·rw[mS (by omega) k2 k3.2,Z7 hc];rfl
  ·rename_i k1 k2
   refine⟨l.length-(i+1),by omega,_,_,Zr,.refl _,i+1,_,[(64,b,.tail u c)],by omega,rfl,.inr ⟨b,u,c,?_,rfl⟩,?_,by rw[cm (n:=l.length) (by omega) (by assumption)]⟩
   ·rw[gT k2];first|(rw[h0];rfl)|fail
   ·rw[hc.elim (fun h=>xE (by omega)) (fun h=>xK (.inr h))];rfl
  ·refine⟨l.length-(i+1),by omega,_,_,Zr,Zs,i+1,_,[(64,b1,.tail u1 q1)],by omega,rfl,?_,?_,by rw[cm (n:=l.length) (by omega) (by assumption)]⟩
   ·rw[eL hc];exact hx
   ·rw[xK (.inl hc)];try rfl
  ·rename_i bA k1 k2 k3
   refine⟨l.length-(i+1),by omega,_,_,Zr,.cons (.refl _),i+1,_,[(64,bA,.tail u c)],by omega,rfl,.inr ⟨bA,u,c,?_,rfl⟩,?_,by rw[cm (n:=l.length) (by omega) (by assumption)]⟩
   ·rw[gT k2];rfl
   ·rw[mS (by omega) k2 k3.2,ZV hc];rfl
  ·rename_i bA k1 k2 k3
   refine⟨l.length-(i+1),by omega,_,_,Zr,.cons (.refl _),i+1,_,[(64,bA,.tail u c)],by omega,rfl,.inr ⟨bA,u,c,?_,rfl⟩,?_,by rw[cm (n:=l.length) (by omega) (by assumption)]⟩
   ·rw[gT k2];rfl
   ·rw[mS (by omega) k2 k3.2,Z7 hc];rfl
  ·rename_i k1 k2
   refine⟨l.length-(i+1),by omega,_,_,Zr,.refl _,i+1,_,[(64,b,.tail u c)],by omega,rfl,.inr ⟨b,u,c,?_,rfl⟩,?_,by rw[cm (n:=l.length) (by omega) (by assumption)]⟩
   ·rw[gT k2];rfl
   ·rw[hc.elim (fun h=>xE (by omega)) (fun h=>xK (.inr h))];rfl
 ·have AB:=hx.wk
  have c9:=hx.sub (σ:=(9,b9,.cells (fj l t a i).cells)::σ)
  obtain rfl:i=l.length:=by omega
  rw[Yr]at AB
  refine Vr (ak:=[(0,.sl false 40 (l.map aM.cells)),(1,iv t),(2,iv a),(3,sv n),(9,.lp 9 b9 0),(10,.sl false 40 ((jH t l).map aM.cells)),(11,iv l.length)]) (σ':=(9,b9,.cells (fj l t a l.length).cells)::σ) ?_ (.cons (Wk.refl _) (.cons (Wk.refl _) (.cons (Wk.refl _) (.cons (Wk.refl _) (.cons (Wk.refl _) (.cons AB (.cons (Wk.refl _) .nil))))))) c9
  have hB3:CB 900 (gF (l.map aM.aG) 9223372036854775807):=(FQ _ _ fun e he=>by obtain⟨x,hx,rfl⟩:=Zi.1 he;exact gI x hx).le (by rw[ZW];omega)
  obtain⟨-,q2,q3,q4, -⟩:=hB3
  clear hx AB c9 G2
  generalize fj l t a l.length=c1 at *
  generalize gF (l.map aM.aG) 9223372036854775807=c3 at *
  generalize (wj (l.map aM.aG) 9223372036854775807 n).2=vs at *
  repeat'(first|exact .nil|refine .k0 ?_|refine .k1 ?_|refine .k2 ?_|refine .k3 ?_|refine .k6 ?_|refine .k8 ?_|refine .k9 ?_|(refine .cd ?_ ?_<;>(intro hc;skip))|refine .r1 ?_ ?_|(refine .l1 ?_;intro b)|(refine .m2 ?_ ?_;intro hlen)|refine .t1 ?_ ?_ ?_|refine .u2 ?_ ?_ ?_ (fun b u c=> ?_)|refine .u3 ?_ ?_ (fun jr=> ?_) (fun ey b u c=> ?_)|refine .an rfl (by intro aI;first|exact ka|exact zD|exact hV|fail) ?_ ?_|refine .r8 ?_ ?_|fail)
  try any_goals(exact Zo)
  all_goals(try simp only[BL]at *)
  any_goals(exfalso;omega)
  any_goals exact Nd _
  any_goals(show _≤1000000;decide)
  any_goals(show _ * 248≤_;simp only[Z4,ZW,ZA];omega)
  all_goals
   clear zD hV hlen hc
   refine cr (fun m rg σ'=>∃ i:Nat,i≤c3.all.length∧m=c3.all.length-i∧σ'=(9,b9,.cells c1.cells)::σ∧rg=[(0,.sl false 40 (l.map aM.cells)),(1,iv t),(3,sv n),(9,.lp 9 b9 0),(10,.sl false 40 ((jH t l).map aM.cells)),(15,.sl false 1 (vs.map fun v=>[iv v])),(16,.sl false 18 (c3.all.map aq.cells)),(17,iv i)]) c3.all.length rfl ?_ ?_
   ·refine⟨[(0,.sl false 40 (l.map aM.cells)),(1,iv t),(3,sv n),(9,.lp 9 b9 0),(10,.sl false 40 ((jH t l).map aM.cells)),(15,.sl false 1 (vs.map fun v=>[iv v])),(16,.sl false 18 (c3.all.map aq.cells)),(17,iv (0:Nat))],(9,b9,.cells c1.cells)::σ,?_,Zs,0,ZM _,rfl,rfl,rfl⟩
    refine .cons (Wk.refl _) (.cons (Wk.refl _) (.cons (Wk.refl _) (.cons (Wk.refl _) (.cons (Wk.refl _) (.cons (Wk.refl _) (.cons ?_ (.cons (Wk.refl _) .nil)))))))
    first|exact .flr (by simp[au.all, *])|exact .afw (by simp[au.all, *])
   rintro m _ _ ⟨i,hi,hm,rfl,rfl⟩
   repeat'(first|exact .nil|refine .k0 ?_|refine .k1 ?_|refine .k2 ?_|refine .k5 ?_|refine .k6 ?_|refine .k7 ?_|refine .k8 ?_|refine .k9 ?_|(refine .cd ?_ ?_<;>(intro hc;skip))|refine .r1 ?_ ?_|(refine .m2 ?_ ?_;intro hlen)|refine .t1 ?_ ?_ ?_|refine .an rfl (by intro aI;first|exact ka|exact CP|exact ah8 _) ?_ ?_|fail)
   try any_goals(exact Zo)
   all_goals(try simp only[BL]at *)
   ·have aj8:=hlen
    clear hlen
    refine cr (fun m2 rg σ'=>∃ (j:Nat) (B:Bool),j≤vs.length∧m2=vs.length-j∧Met (c3.all.getD i default) n vs j B∧σ'=(9,b9,.cells c1.cells)::σ∧rg=[(0,.sl false 40 (l.map aM.cells)),(1,iv t),(3,sv n),(9,.lp 9 b9 0),(10,.sl false 40 ((jH t l).map aM.cells)),(15,.sl false 1 (vs.map fun v=>[iv v])),(16,.sl false 18 (c3.all.map aq.cells)),(17,iv i),(18,.v (.bool B)),(19,iv j)]) vs.length rfl ⟨_,_,Zr,Zs,0,_,ZM _,rfl,aeV _ _ _,rfl,rfl⟩ ?_
    rintro m2 _ _ ⟨j,B,hj,ew,hB,rfl,rfl⟩
    cases B
    ·repeat'(first|exact .nil|refine .k0 ?_|refine .k1 ?_|refine .k2 ?_|refine .k3 ?_|refine .k6 ?_|refine .k7 ?_|refine .k8 ?_|refine .k9 ?_|(refine .cd ?_ ?_<;>(intro hc;skip))|refine .r1 ?_ ?_|(refine .m2 ?_ ?_;intro hlen)|refine .t1 ?_ ?_ ?_|fail)
     try any_goals(exact Zo)
     all_goals(try simp only[BL]at *)
     ·exact⟨vs.length-(j+1),by omega,_,_,Zr,Zs,j+1,_,by omega,rfl,QA hB (by omega),rfl,by rw[cm (n:=vs.length) (by omega) (by assumption)];try rfl⟩
     ·exact absurd (aeW hB (by assumption) (de _ (dp (l:=c3.all) (by omega)))) (by decide)
     ·cases hc
    ·repeat'(first|exact .nil|refine .k0 ?_|refine .k1 ?_|refine .k2 ?_|refine .k3 ?_|refine .k4 ?_|refine .k6 ?_|refine .k7 ?_|refine .k8 ?_|refine .k9 ?_|(refine .cd ?_ ?_<;>(intro hc;skip))|refine .r1 ?_ ?_|(refine .m2 ?_ ?_;intro hlen)|refine .t1 ?_ ?_ ?_|fail)
     try any_goals(exact Zo)
     all_goals(try simp only[BL]at *)
     ·exact⟨vs.length-(j+1),by omega,_,_,Zr,Zs,j+1,_,by omega,rfl,QA hB (by omega),rfl,by rw[cm (n:=vs.length) (by omega) (by assumption)];try rfl⟩
     ·cases hc
     ·exact⟨c3.all.length-(i+1),by omega,_,_,Zr,Zs,i+1,by omega,rfl,rfl,by rw[cm (n:=c3.all.length) (by omega) (by assumption)]⟩
   ·exact Zw
end Go.Proofs.YthdeaajdmdmfnaaGreatDoor
