import Derived.Test.YtmemninechdogaaGreatDoorAr
import Derived.Test.YtmemninechdogaaGreatDoorAf
import Derived.Test.YtmemninechdogaaGreatDoorAa
set_option linter.all false
set_option maxRecDepth 100000
set_option maxHeartbeats 4000000
namespace Go.Proofs.YtmemninechdogaaGreatDoor
open _root_.Go.Proofs.Tryz
open Go.RowKit Go.Proofs Go.Shelf
open Go.Sx (AV Mem RL R M0 Glob)
attribute [local go_sem] Oper.semAt_some
def cQ(W:World)(B:Nat)(cs:Array Value)(t:TypeId):Prop:=W.heap[B]? =some (.cells cs t (0,0))
section
variable {W W':World}{B B' j:Nat}{cs:Array Value}{t:TypeId}{v:Value}{row:Option Nat}
theorem cQ.lt(h:cQ W B cs t):B<W.heap.size:=(ZW.1 h).1
theorem cQ.cell(h:cQ W B cs t)(hj:cs[j]? =some v):W.cell? ⟨B,j,none⟩=some v:=by simp only[World.cell?,show W.heap[B]? =_ from h];exact hj
theorem cQ.frozen(h:cQ W B cs t)(j:Nat):W.frozen? ⟨B,j,none⟩=false:=by simp[World.frozen?,show W.heap[B]? =_ from h]
theorem cQ.kept(h:cQ W B cs t)(hg:W.grownBy W' row)(hr:∀r,row=some r->∃o:Obj,W.heap[r]? =some o/\o.isCells=false):cQ W' B cs t:=
 (hg.block B h.lt (fun e=>by
  obtain⟨o,h1,h2⟩:=hr B e.symm
  rw[show W.heap[B]? =_ from h]at h1;cases h1;cases h2)).trans h
theorem cQ.alloc(h:cQ W B cs t)(o:Obj):cQ (W.alloc o) B cs t:=(heap_alloc_old W o _ h.lt).trans h
theorem cQ.dr(h:cQ W B cs t)(e:W'=W.drew):cQ W' B cs t:=by rw[e];exact h
theorem cQ.new(W:World)(cs:Array Value)(t:TypeId):cQ (W.alloc (.cells cs t)) W.heap.size cs t:=heap_alloc_new W _
theorem cQ.set(h:cQ W B cs t)(j:Nat)(v:Value):cQ (W.setCell ⟨B,j,none⟩ v) B (cs.setIfInBounds j v) t:=by exact heap_setCell_same W B j cs t v h
theorem cQ.other(h:cQ W B cs t)(aW:B'≠B):cQ (W.setCell ⟨B',j,none⟩ v) B cs t:=(heap_setCell_other W _ B v (fun e=>aW e.symm)).trans h
end
theorem aeU{P:Program}[Glob P]{M M':Mem}{w0:Sx.Base}{W W':World}{q:Sx.Store}(hI:Sx.Inv P M w0 q W)(hJ:Sx.Inv P M' ⟨W,M⟩ [] W')(hM:M.le M'):Sx.Inv P M' w0 q W':=by
 have hn:∀b o,b<W.heap.size->M b o=none->M' b o=none:=fun b o hb h=>by
  cases e:M' b o with
  |none=>rfl|some v=>have:=hJ.bm b o v e hb;grind
 refine⟨hJ.os.trans hI.os,hJ.tape.trans hI.tape,hJ.output.trans hI.output,ZD hI.size hJ.size,fun k hk=>(hJ.old k (Yz hk hI.size)).trans (hI.old k hk),hJ.bZ,fun e he=>⟨(hI.st e he).1,?_⟩,hI.nd,hJ.gl,hI.gw,fun b o v h hb=>hI.bm b o v (hJ.bm b o v h (Yz hb hI.size)) hb⟩;have hb:=hI.ub he;have ho:=hJ.old e.2.1 hb;have h2:=(hI.st e he).2;cases hx:e.2.2 with
 |cells l=>rw[hx]at h2;obtain⟨h1,cs,t,h3,h4⟩:=h2;exact⟨fun o=>hn _ _ hb (h1 o),cs,t,ho.trans h3,h4.mono hM⟩
 |tail u c=>rw[hx]at h2;obtain⟨h1,cs,t,h3,h4⟩:=h2;exact⟨fun o h=>hn _ _ hb (h1 o h),cs,t,ho.trans h3,h4⟩
 |map es k=>rw[hx]at h2;obtain⟨h1,l,h3,h4,h5⟩:=h2;exact⟨fun o=>hn _ _ hb (h1 o),l,ho.trans h3,h4,h5.mono hM⟩
structure Mid(n m:Nat)(W W':World):Prop where
 os:W'.os=W.os
 tape:W'.tape=W.tape
 output:W'.output=W.output
 size:W.heap.size<=W'.heap.size
 kB:∀b,b<n\/m<=b->W'.heap[b]? =W.heap[b]?
theorem Mid.refl(n m:Nat)(W:World):Mid n m W W:=⟨rfl,rfl,rfl,ZO _,fun _ _=>rfl⟩
theorem Mid.set{n m:Nat}{W W':World}(h:Mid n m W W'){b j:Nat}(h1:n<=b)(h2:b<m)(v:Value):Mid n m W (W'.setCell ⟨b,j,none⟩ v):=
 ⟨h.os,h.tape,h.output,by rw[World.size_setCell];exact h.size,fun k hk=>(heap_setCell_other W' _ k v (show k≠b by omega)).trans (h.kB k hk)⟩
theorem Mid.put{n m:Nat}{W W':World}(h:Mid n m W W'){b:Nat}(h1:n<=b)(h2:b<m)(o:Obj):Mid n m W (W'.putObj b o):=
 have g:=grownBy_putObj' W' b o
 ⟨h.os,h.tape,h.output,ZD h.size g.size,fun k hk=>(World.putObj_heap_other (show k≠b by omega)).trans (h.kB k hk)⟩
theorem aeW{P:Program}[Glob P]{M:Mem}{w0:Sx.Base}{W W':World}{q:Sx.Store}{n m:Nat}(hI:Sx.Inv P M w0 q W)(h:Mid n m W W')(h0:w0.heap.size<=n)(hs:∀e∈q,e.2.1<n)(hM:∀b o v,M b o=some v->b<n\/m<=b):Sx.Inv P M w0 q W':=by
 refine⟨h.os.trans hI.os,h.tape.trans hI.tape,h.output.trans hI.output,ZD hI.size h.size,fun k hk=>(h.kB k (.inl (by omega))).trans (hI.old k hk),fun b o v hv=>?_,fun e he=>⟨(hI.st e he).1,?_⟩,hI.nd,hI.gl,hI.gw,hI.bm⟩
 .have:=hI.bZ b o v hv;simp only[World.cell?,h.kB b (hM b o v hv)]at this|-;grind
 .have ho:=h.kB e.2.1 (.inl (hs e he));have h2:=(hI.st e he).2;cases hx:e.2.2 with
  |cells l=>rw[hx]at h2;obtain⟨h1,cs,t,h3,h4⟩:=h2;exact⟨h1,cs,t,ho.trans h3,h4⟩
  |tail u c=>rw[hx]at h2;obtain⟨h1,cs,t,h3,h4⟩:=h2;exact⟨h1,cs,t,ho.trans h3,h4⟩
  |map es k=>rw[hx]at h2;obtain⟨h1,l,h3,h4,h5⟩:=h2;exact⟨h1,l,ho.trans h3,h4,h5⟩
theorem TP(l:List aO):∀r∈l.map aO.cells,r.length=4:=fun r hr=>by obtain⟨f,_,rfl⟩:=Ze.1 hr;rfl
theorem TQ(l:List aO):∀r∈l.map aO.cells,r.all AV.one=true:=fun r hr=>by obtain⟨f,_,rfl⟩:=Ze.1 hr;rfl
def uo{len:Nat}(nf:Fin len->ae)(nm:ae)(pre:List (Fin len)):Int:=pre.foldl (fun a x=>if jc (nf x) nm=true then((x.val:Nat):Int)else a) (len:Int)
theorem Sq{len:Nat}(nf:Fin len->ae)(nm:ae)(pre:List (Fin len))(x:Fin len):uo nf nm (pre++[x])=if jc (nf x) nm=true then((x.val:Nat):Int)else uo nf nm pre:=by simp[uo]
theorem WY(ad:Option Addr)(len cap:Nat)(a1 a2 a3:Option Addr)(n1 c1 n2 c2 n3 c3:Nat)(cx:Array Value)(w:World)(nm:ae)(ya:cx[1]? =some (.string nm))(cs:Nat->Value)(nf:Fin len->ae)(bY:∀x:Fin len,cs (x.val*4)= .string (nf x))(en:Fin len->ae)(vC:∀x:Fin len,cs (x.val*4+1)= .string (en x))(fl:Fin len->Option Addr×Nat×Nat)(eg:∀x:Fin len,cs (x.val*4+2)= .slice (fl x).1 (fl x).2.1 (fl x).2.2)(kp:Fin len->Int)(ry:∀x:Fin len,cs (x.val*4+3)= .int .i64 (kp x))(hl:len<=100000)
  (hc:len=0\/∃b off,ad=some ⟨b,off,none⟩/\b<w.heap.size/\∀j,j<len*4->w.cell? ⟨b,off+j,none⟩=some (cs j)) (R:Ending->World->Prop)
  (DY:∀x,nf x=nm->∀W',Below w.heap.size w W'->R (.returned (.tuple #[.agg #[.slice ad len cap,.slice a1 n1 c1,.slice a2 n2 c2,.slice a3 n3 c3],.int .i64 121])) W')
  {M:Mem} {w0:Sx.Base} {q:Sx.Store} (hI:Sx.Inv prog M w0 q w) (tl:List aO) (qh:tl.length=len) (hR:Sx.R M (.sl false 4 (tl.map aO.cells)) (.slice ad len cap)) (tb:aO) (fa:Option Addr) (fn fc:Nat) (eu:cx[2]? =some (.string tb.dh)) (iy:cx[3]? =some (.slice fa fn fc)) (hx4:cx[4]? =some (.int .i64 tb.aH)) (rE:RL M tb.cells [.string nm,.string tb.dh,.slice fa fn fc,.int .i64 tb.aH])
  (vP:uo nf nm (List.finRange len).reverse=((jx tl nm:Nat):Int))
  (DF:(∀x,nf x≠nm)->∀(M':Mem) (v:Value) (W':World),M.le M'->Sx.Inv prog M' w0 q W'->Sx.R M' (.sl true 4 ((jL tl (jx tl nm) tb).map aO.cells)) v->R (.returned (.tuple #[.agg #[v,.slice a1 n1 c1,.slice a2 n2 c2,.slice a3 n3 c3],.int .i64 0])) W'):
  Calls prog 66 #[.agg #[.slice ad len cap,.slice a1 n1 c1,.slice a2 n2 c2,.slice a3 n3 c3],.agg cx] w R:=by
 refine(callsIn_wide (n:=5)).1 ?_;refine callsIn_of_wp_marks func66 rfl trivial ?_ rfl;simp only[ntmps66,YB,ZY,ZP,Nat.reduceAdd,Nat.reduceSub,Array.replicate_succ,Array.replicate_zero,List.push_toArray,List.append_toArray,Zf,ZB]
 gi_wp2_with (first|(gi_at_call 123;refine(MB Fence.wide (5-1) trivial rfl _ _ _ _).mono ?_;rintro e w' ⟨rfl,rfl⟩)|(refine⟨trivial,?_⟩;gi_at_call 123;refine(MB Fence.wide (5-1) trivial rfl _ _ _ _).mono ?_;rintro e w' ⟨rfl,rfl⟩))
 have r2:=(((((cQ.new w #[.slice ad len cap,.slice a1 n1 c1,.slice a2 n2 c2,.slice a3 n3 c3] 25).alloc (.cells cx 47)).alloc (.cells #[.slice none 0 0,.slice none 0 0,.slice none 0 0,.slice none 0 0] 25)).alloc (.cells #[.int .i64 0] 41)).alloc (.cells #[.int .i64 (len:Int)] 3)).alloc (.cells #[.slice ad len cap] 22);have r3:=((((cQ.new (w.alloc (.cells #[.slice ad len cap,.slice a1 n1 c1,.slice a2 n2 c2,.slice a3 n3 c3] 25)) cx 47).alloc (.cells #[.slice none 0 0,.slice none 0 0,.slice none 0 0,.slice none 0 0] 25)).alloc (.cells #[.int .i64 0] 41)).alloc (.cells #[.int .i64 (len:Int)] 3)).alloc (.cells #[.slice ad len cap] 22);have r4:=(((cQ.new ((w.alloc (.cells #[.slice ad len cap,.slice a1 n1 c1,.slice a2 n2 c2,.slice a3 n3 c3] 25)).alloc (.cells cx 47)) #[.slice none 0 0,.slice none 0 0,.slice none 0 0,.slice none 0 0] 25).alloc (.cells #[.int .i64 0] 41)).alloc (.cells #[.int .i64 (len:Int)] 3)).alloc (.cells #[.slice ad len cap] 22);have r5:=((cQ.new (((w.alloc (.cells #[.slice ad len cap,.slice a1 n1 c1,.slice a2 n2 c2,.slice a3 n3 c3] 25)).alloc (.cells cx 47)).alloc (.cells #[.slice none 0 0,.slice none 0 0,.slice none 0 0,.slice none 0 0] 25)) #[.int .i64 0] 41).alloc (.cells #[.int .i64 (len:Int)] 3)).alloc (.cells #[.slice ad len cap] 22);have r6:=(cQ.new ((((w.alloc (.cells #[.slice ad len cap,.slice a1 n1 c1,.slice a2 n2 c2,.slice a3 n3 c3] 25)).alloc (.cells cx 47)).alloc (.cells #[.slice none 0 0,.slice none 0 0,.slice none 0 0,.slice none 0 0] 25)).alloc (.cells #[.int .i64 0] 41)) #[.int .i64 (len:Int)] 3).alloc (.cells #[.slice ad len cap] 22);have r7:=cQ.new (((((w.alloc (.cells #[.slice ad len cap,.slice a1 n1 c1,.slice a2 n2 c2,.slice a3 n3 c3] 25)).alloc (.cells cx 47)).alloc (.cells #[.slice none 0 0,.slice none 0 0,.slice none 0 0,.slice none 0 0] 25)).alloc (.cells #[.int .i64 0] 41)).alloc (.cells #[.int .i64 (len:Int)] 3)) #[.slice ad len cap] 22;simp only[World.size_alloc]at r2 r3 r4 r5 r6 r7;obtain⟨W0,Dw⟩:∃W0,W0=(((((w.alloc (.cells #[.slice ad len cap,.slice a1 n1 c1,.slice a2 n2 c2,.slice a3 n3 c3] 25)).alloc (.cells cx 47)).alloc (.cells #[.slice none 0 0,.slice none 0 0,.slice none 0 0,.slice none 0 0] 25)).alloc (.cells #[.int .i64 0] 41)).alloc (.cells #[.int .i64 (len:Int)] 3)).alloc (.cells #[.slice ad len cap] 22):=⟨_,rfl⟩
 have qe:W0.heap.size=w.heap.size+6:=by rw[Dw];simp
 have vi:Below w.heap.size w W0:=by rw[Dw];exact((((((Below.refl _ w).alloc (ZO _) _).alloc (by simp) _).alloc (by simp;omega) _).alloc (by simp;omega) _).alloc (by simp;omega) _).alloc (by simp;omega) _
 rw[<-Dw]at r2 r3 r4 r5 r6 r7|-;clear Dw;have eY:len=0\/∃b off,ad=some ⟨b,off,none⟩/\b<w.heap.size/\∀j,j<len*4->W0.cell? ⟨b,off+j,none⟩=some (cs j):=by
  rcases hc with h|⟨b,off,h1,h2,h3⟩
  .exact .inl h
  .exact .inr ⟨b,off,h1,h2,fun j hj=>(vi.cell (p:=⟨b,off+j,none⟩) h2).trans (h3 j hj)⟩
 refine wpIn_rangeFunc_ownH rfl (by decide) (gf:=167) (lb:= #[.pointer (some ⟨w.heap.size+1+1+1+1+1,0,none⟩)]) rfl trivial (enters_of func167 (by kernel_rfl) rfl)
  (aau Fence.wide (5-1) trivial rfl (by decide) (w.heap.size+1+1+1+1+1) w.heap.size len cap ad cs (by omega) W0 (by omega) (by omega) r7 eY) ahf (ahe (by omega)) (Below.refl _ _) (fun _=>rfl)
  (fun pre W=>(cQ W (w.heap.size) #[.slice ad len cap,.slice a1 n1 c1,.slice a2 n2 c2,.slice a3 n3 c3] 25/\cQ W (w.heap.size+1) cx 47/\cQ W (w.heap.size+1+1) #[.slice none 0 0,.slice none 0 0,.slice none 0 0,.slice none 0 0] 25/\cQ W (w.heap.size+1+1+1) #[.int .i64 0] 41/\cQ W (w.heap.size+1+1+1+1) #[.int .i64 (uo nf nm pre)] 3/\∀x∈pre,nf x≠nm)/\Below w.heap.size w W)
  (fun c pre W=>(c= .ret/\(∃x,nf x=nm)/\cQ W (w.heap.size+1+1) #[.slice ad len cap,.slice a1 n1 c1,.slice a2 n2 c2,.slice a3 n3 c3] 25/\cQ W (w.heap.size+1+1+1) #[.int .i64 121] 41)/\Below w.heap.size w W)
  (OwnFrom.and (Own.from (fun s A B row hs hg hr=>⟨hs.1.kept hg hr,hs.2.1.kept hg hr,hs.2.2.1.kept hg hr,hs.2.2.2.1.kept hg hr,hs.2.2.2.2.1.kept hg hr,hs.2.2.2.2.2⟩) _) (ownFrom_below (ZO _) (by omega)))
  (fun c=>OwnFrom.and (Own.from (fun s A B row hs hg hr=>⟨hs.1,hs.2.1,hs.2.2.1.kept hg hr,hs.2.2.2.kept hg hr⟩) _) (ownFrom_below (ZO _) (by omega)))
  ⟨⟨r2,r3,r4,r5,r6,fun _ h=>(by cases h)⟩,vi⟩
  (fun x a' W=>∃Bx,w.heap.size+1+1+1+1<Bx/\cQ W Bx #[.string (nf x),.string (en x),.slice (fl x).1 (fl x).2.1 (fl x).2.2,.int .i64 (kp x)] 45/\a'={tmps:= #[.agg #[.slice ad len cap,.slice a1 n1 c1,.slice a2 n2 c2,.slice a3 n3 c3],.agg cx,.pointer (some ⟨w.heap.size,0,none⟩),.pointer (some ⟨w.heap.size+1,0,none⟩),.pointer (some ⟨w.heap.size+1+1,0,none⟩),.pointer (some ⟨w.heap.size+1+1+1,0,none⟩),.pointer (some ⟨w.heap.size+1+1+1+1,0,none⟩),.int .i64 ((x.val:Nat):Int),.pointer (some ⟨Bx,0,none⟩),.pointer (some ⟨w.heap.size,0,none⟩),.slice ad len cap,.int .i64 (len:Int),.pointer (some ⟨w.heap.size,0,none⟩),.slice ad len cap,.func (.func 167) #[] #[.pointer (some ⟨w.heap.size+1+1+1+1+1,0,none⟩)],.int .i64 ((x.val:Nat):Int),.agg #[.string (nf x),.string (en x),.slice (fl x).1 (fl x).2.1 (fl x).2.2,.int .i64 (kp x)],undef,undef,undef,undef,undef,undef,undef,undef,undef,undef,undef,undef,undef,undef,undef,undef,undef,undef,undef,undef,undef,undef,undef,undef],defers:=[]})
  (fun x a'=>Own.from (fun _ A B row hs hg hr=>(by obtain⟨Bx,h1,h2,h3⟩:=hs;exact⟨Bx,h1,h2.kept hg hr,h3⟩)) _) ?assign ?body ?done ?stop
 case assign=>
  rintro l pre x W K ⟨⟨g2,g3,g4,g5,g6,g7⟩,gB⟩ hK;clear DY DF vP rE hR hI eY hc
  gi_wp2
  exact hK _ _ ((KeepsOthers.alloc _ _).from _) ⟨(Below.refl _ W).alloc gB.size _,fun v h=>h.alloc _⟩ ⟨⟨g2.alloc _,g3.alloc _,g4.alloc _,g5.alloc _,g6.alloc _,g7⟩,gB.alloc gB.size _⟩ ⟨W.heap.size,g6.lt,cQ.new _ _ _,rfl⟩
 case body=>
  rintro l pre x a' W hlw ⟨r,hr⟩ ⟨⟨g2,g3,g4,g5,g6,g7⟩,gB⟩ ⟨Bx,hBx,gx,rfl⟩ az;have Qz:W.cell? ⟨w.heap.size,0,none⟩=some (.slice ad len cap):=g2.cell rfl;have QA:W.cell? ⟨w.heap.size,1,none⟩=some (.slice a1 n1 c1):=g2.cell rfl;have QB:W.cell? ⟨w.heap.size,2,none⟩=some (.slice a2 n2 c2):=g2.cell rfl;have QC:W.cell? ⟨w.heap.size,3,none⟩=some (.slice a3 n3 c3):=g2.cell rfl;have QH:W.cell? ⟨w.heap.size+1+1,0,none⟩=some (.slice none 0 0):=g4.cell rfl;have JU:W.cell? ⟨w.heap.size+1+1,1,none⟩=some (.slice none 0 0):=g4.cell rfl;have QI:W.cell? ⟨w.heap.size+1+1,2,none⟩=some (.slice none 0 0):=g4.cell rfl;have JV:W.cell? ⟨w.heap.size+1+1,3,none⟩=some (.slice none 0 0):=g4.cell rfl;have k5:W.cell? ⟨w.heap.size+1+1+1,0,none⟩=some (.int .i64 0):=g5.cell rfl;have k6:W.cell? ⟨w.heap.size+1+1+1+1,0,none⟩=some (.int .i64 (uo nf nm pre)):=g6.cell rfl;have k3:=g3.cell ya;have kx:W.cell? ⟨Bx,0,none⟩=some (.string (nf x)):=gx.cell rfl;have f40:=g4.frozen 0;have f41:=g4.frozen 1;have f42:=g4.frozen 2;have f43:=g4.frozen 3;have f5:=g5.frozen 0;have f6:=g6.frozen 0;clear hr eY hc DY bY vC eg ry r2 r3 r4 r5 r6 r7 DF vP rE hR hI
  gi_wp2
  .rename_i he;have j5:nf x=nm:=by rw[Sx.sZ]at he;exact Yl he
   exact⟨(((((KeepsOthers.setCell _ _ _).trans (KeepsOthers.setCell _ _ _)).trans (KeepsOthers.setCell _ _ _)).trans (KeepsOthers.setCell _ _ _)).trans (KeepsOthers.setCell _ _ _)).from _,⟨rfl,⟨x,j5⟩,((((g4.set 0 _).set 1 _).set 2 _).set 3 _).other (by omega),((((g5.other (by omega)).other (by omega)).other (by omega)).other (by omega)).set 0 _⟩,
    ((((gB.setCell (p:=⟨w.heap.size+1+1,0,none⟩) (show w.heap.size<=w.heap.size+1+1 by omega) _).setCell (p:=⟨w.heap.size+1+1,1,none⟩) (show w.heap.size<=w.heap.size+1+1 by omega) _).setCell (p:=⟨w.heap.size+1+1,2,none⟩) (show w.heap.size<=w.heap.size+1+1 by omega) _).setCell (p:=⟨w.heap.size+1+1,3,none⟩) (show w.heap.size<=w.heap.size+1+1 by omega) _).setCell (p:=⟨w.heap.size+1+1+1,0,none⟩) (show w.heap.size<=w.heap.size+1+1+1 by omega) _⟩
  .rename_i he hg;have j5:¬nf x=nm:=by rw[Sx.sZ]at he;exact of_decide_eq_false he
   have vF:jc (nf x) nm=true:=by unfold jc;rw[Zp j5,Xm];exact hg
   exact⟨(KeepsOthers.setCell _ _ _).from _,⟨(Below.refl _ W).setCell (p:=⟨w.heap.size+1+1+1+1,0,none⟩) (show w.heap.size<=w.heap.size+1+1+1+1 by omega) _,fun v h=>cQ.other h (by omega)⟩,⟨g2.other (by omega),g3.other (by omega),g4.other (by omega),g5.other (by omega),by rw[Sq,Z3 vF];exact g6.set 0 _,fun y hy=>(ZI.1 hy).elim (g7 y) fun h=>by rw[Zd.1 h];exact j5⟩,gB.setCell (p:=⟨w.heap.size+1+1+1+1,0,none⟩) (show w.heap.size<=w.heap.size+1+1+1+1 by omega) _⟩
  .rename_i he hg;have j5:¬nf x=nm:=by rw[Sx.sZ]at he;exact of_decide_eq_false he
   have vF:¬jc (nf x) nm=true:=by unfold jc;rw[Zp j5,Xm,hg];decide
   exact⟨KeepsFrom.refl _ _,⟨Below.refl _ _,fun _ h=>h⟩,⟨g2,g3,g4,g5,by rw[Sq,Z9 vF];exact g6,fun y hy=>(ZI.1 hy).elim (g7 y) fun h=>by rw[Zd.1 h];exact j5⟩,gB⟩
 case stop=>
  rintro D c pre W hD-⟨⟨rfl,⟨x,hx⟩,g4,g5⟩,gB⟩ hK;have hb:=belowK_b (w:=w) (ZO _) W D _ (.deferred none) (by omega) hK rfl rfl
  gi_wp2
  refine⟨by simp,.inl ⟨_,_,rfl,run_takeDeferred hK,?_⟩⟩;have h4:=g4.kept (grownBy_putObj' W D (.deferred none)) (fun r e=>by cases e;exact⟨_,hK,rfl⟩);have h5:=g5.kept (grownBy_putObj' W D (.deferred none)) (fun r e=>by cases e;exact⟨_,hK,rfl⟩);refine⟨_,?_,DY x hx _ (gB.trans hb)⟩;have QH:(W.putObj D (Obj.deferred none)).cell? ⟨w.heap.size+1+1,0,none⟩=some (.slice ad len cap):=h4.cell rfl;have JU:(W.putObj D (Obj.deferred none)).cell? ⟨w.heap.size+1+1,1,none⟩=some (.slice a1 n1 c1):=h4.cell rfl;have QI:(W.putObj D (Obj.deferred none)).cell? ⟨w.heap.size+1+1,2,none⟩=some (.slice a2 n2 c2):=h4.cell rfl;have JV:(W.putObj D (Obj.deferred none)).cell? ⟨w.heap.size+1+1,3,none⟩=some (.slice a3 n3 c3):=h4.cell rfl;have k5:(W.putObj D (Obj.deferred none)).cell? ⟨w.heap.size+1+1+1,0,none⟩=some (.int .i64 121):=h5.cell rfl;simp[results,f66,go_sem,QH,JU,QI,JV,k5]
 case done=>
  rintro D xs W hD rfl ⟨⟨g2,g3,g4,g5,g6,g7⟩,gB⟩ hK;rw[vP]at g6;have gM:=(ZW.1 hK).1;have pX:=(hI.after gB).ft;have hJ:=Ec pX;obtain⟨Wd,oI⟩:∃Wd,Wd=W.drew:=⟨_,rfl⟩
  have e2:=g2.dr oI;have e3:=g3.dr oI;have e4:=g4.dr oI;have e5:=g5.dr oI;have e6:=g6.dr oI;have eD:Wd.heap[D]? =some (.deferred (some [])):=by rw[oI];exact hK
  rw[<-oI]at pX hJ;have ON:∀{M':Mem} {V:World},Sx.Inv prog M' ⟨Wd,M⟩ [] V->∀b o v,M' b o=some v->b<w.heap.size\/Wd.heap.size<=b:=fun h b o v hv=>by
   rcases YN b Wd.heap.size with hb|hb
   .exact .inl (World.block_lt_of_cell? _ _ (hI.bZ b o v (h.bm b o v hv hb)))
   .exact .inr hb
  rename_i adK;apply adK;rw[wpIn_wide];apply wp_seq;have bl:w.heap.size+5<=Wd.heap.size:=by have:=e6.lt;omega
  have HK:∀{M':Mem} {af:Sx.Store} {V:World},Sx.Inv prog M' ⟨Wd,M⟩ af V->∀k,k<Wd.heap.size->k≠w.heap.size->V.heap[k]? =Wd.heap[k]? :=fun h k hk _=>h.old k hk;have HO:∀{M':Mem} {af:Sx.Store} {V:World} {b:Nat} {cs:Array Value} {ty:TypeId},Sx.Inv prog M' ⟨Wd,M⟩ af V->cQ Wd b cs ty->b<Wd.heap.size->cQ V b cs ty:=fun h hr hb=>(h.old _ hb).trans hr;have HC:∀{M':Mem} {af:Sx.Store} {V:World},M.le M'->Sx.Inv prog M' ⟨Wd,M⟩ af V->Calls prog 125 #[.slice ad len cap] V fun e W'=>∃M3 x z v,e= .returned v/\M.le M3/\Sx.Inv prog M3 ⟨Wd,M⟩ (z++af) W'/\Sx.R M3 x v/\Sx.oj 4 (tl.map aO.cells) x z:=fun hM bg=>by refine((aa4 (tl.map aO.cells) (TP tl) (TQ tl) (by rw[Z5];omega) _) _ _ _ [_] bg (RL.cons (hR.mono hM) RL.nil)).mono fun e W' ⟨M2,r,af,h1,h2,h3,x,z,h4,h5,h6⟩=>?_;subst h4 h5;cases e<;>simp only[Sx.jV]at h3;exact⟨M2,x,z,_,rfl,hM.trans h1,h2,h3,h6⟩
  have hpA:(jL tl (jx tl nm) tb).map aO.cells=(tl.map aO.cells).take (jx tl nm)++tb.cells::(tl.map aO.cells).drop (jx tl nm):=by unfold jL;rw[Zl,Zz,XJ,Xn]
  have HP:∀{M':Mem} {z:Sx.Store} {x:AV} {v:Value} {V:World} {g:Nat},M.le M'->Sx.Inv prog M' ⟨Wd,M⟩ ((17,g,.cells tb.cells)::(z++[])) V->Sx.R M' x v->Sx.oj 4 (tl.map aO.cells) x z->Calls prog 124 #[v,.int .i64 (jx tl nm:Int),.slice (some ⟨g,0,none⟩) 1 1] V fun e W'=>∃M4 a4 n4 c4,e= .returned (.slice a4 n4 c4)/\M.le M4/\Sx.Inv prog M4 ⟨Wd,M⟩ [] W'/\Sx.R M4 (.sl true 4 ((jL tl (jx tl nm) tb).map aO.cells)) (.slice a4 n4 c4):=fun hM bg hv hx=>by refine((aeL (k:=jx tl nm) hx (TP tl) (TQ tl) rfl rfl (by rw[Z5];exact List.findIdx_le_length) (by rw[Z5];omega)) _ _ _ [_,_,_] bg (RL.cons hv (RL.cons (.v _) (RL.cons (.ms _ _ _ _ _) RL.nil)))).mono fun e W' ⟨M2,r,af,h1,h2,h3,h4,h5⟩=>?_;subst h4 h5;cases e<;>simp only[Sx.jV]at h3;rw[<-hpA]at h3;obtain⟨a4,c4,e4, -⟩:=uT h3;subst e4;exact⟨M2,_,_,_,rfl,hM.trans h1,h2,h3⟩
  have HB:∀{M':Mem} {af:Sx.Store} {V:World},M.le M'->Sx.Inv prog M' ⟨Wd,M⟩ af V->Sx.Inv prog M' ⟨Wd,M⟩ ((17,V.heap.size,.cells tb.cells)::af) (V.alloc (.cells #[.string nm,.string tb.dh,.slice fa fn fc,.int .i64 tb.aH] 45)):=fun hM bg=>bg.box (cs:=[.string nm,.string tb.dh,.slice fa fn fc,.int .i64 tb.aH]) 45 (rE.mono hM) 17;have L6:∀V:World,(∀k,k<Wd.heap.size->k≠w.heap.size->V.heap[k]? =Wd.heap[k]?)->cQ V (w.heap.size+1+1+1+1) #[.int .i64 ((jx tl nm:Nat):Int)] 3:=fun V h=>(h _ (by omega) (by omega)).trans e6;have L3:∀V:World,(∀k,k<Wd.heap.size->k≠w.heap.size->V.heap[k]? =Wd.heap[k]?)->cQ V (w.heap.size+1) cx 47:=fun V h=>(h _ (by omega) (by omega)).trans e3;clear DY eY hc bY vC eg ry r2 r3 r4 r5 r6 r7 g2 g3 g4 g5 g6 gB hK vP;refine wp_region_noPanic ?_;refine wp_region_held_drew (S:=fun V=>∀k,k<Wd.heap.size->k≠w.heap.size->V.heap[k]? =Wd.heap[k]?) (by kernel_rfl) (by rw[oI];exact fun _ _ _=>rfl) (fun hH=>?_);rw[<-oI]at hH|-;have hDw:D<Wd.heap.size:=by rw[oI];exact gM
  clear oI gM;refine wpAnyH_take (i:=0) (oi:=.mk (some 31) (.fieldAddr _ (.tmp 2) 0) _ _ _ _) (v:=.pointer (some ⟨w.heap.size,0,none⟩)) rfl (by kernel_rfl) (by kernel_rfl) (by kernel_rfl) (fun _ _ _ h=>h) (Or.inl ⟨by rfl,fun V _=>by go_simp⟩) hH ?_;try simp only[Act.put,Zx,Zh,Za]
  refine wpAnyH_take (i:=3) (oi:=.mk (some 34) (.load 3 (.tmp 6)) _ _ _ _) (v:=.int .i64 ((jx tl nm:Nat):Int)) rfl (by kernel_rfl) (by kernel_rfl) (by kernel_rfl) (fun _ _ _ h=>h) (Or.inl ⟨by rfl,fun V h=>by have:=(L6 V h).cell (j:=0) (v:=.int .i64 ((jx tl nm:Nat):Int)) rfl;go_simp⟩) hH ?_;try simp only[Act.put,Zx,Zh,Za]
  refine wpAnyH_take (i:=4) (oi:=.mk (some 35) (.fieldAddr _ (.tmp 3) 1) _ _ _ _) (v:=.pointer (some ⟨w.heap.size+1,1,none⟩)) rfl (by kernel_rfl) (by kernel_rfl) (by kernel_rfl) (fun _ _ _ h=>h) (Or.inl ⟨by rfl,fun V _=>by go_simp⟩) hH ?_;try simp only[Act.put,Zx,Zh,Za]
  refine wpAnyH_take (i:=5) (oi:=.mk (some 36) (.load 45 (.tmp 35)) _ _ _ _) (v:=.agg #[.string nm,.string tb.dh,.slice fa fn fc,.int .i64 tb.aH]) rfl (by kernel_rfl) (by kernel_rfl) (by kernel_rfl) (fun _ _ _ h=>h) (Or.inl ⟨by rfl,fun V h=>by have c1:=(L3 V h).cell ya;have c2:=(L3 V h).cell eu;have c3:=(L3 V h).cell iy;have c4:=(L3 V h).cell hx4;go_simp⟩) hH ?_;try simp only[Act.put,Zx,Zh,Za]
  refine wpAnyH_ready (rs:=[1,6]) (by kernel_rfl) (by simp) (AllReadyH.cons (o:=.mk (some 32) (.load 22 (.tmp 31)) _ _ _ _) rfl (fun K hK=>?_) (AllReadyH.cons (o:=.mk (some 37) (.buildSlice _ _ _) _ _ _ _) rfl (fun K hK=>?_) AllReadyH.nil));have k2:=(e2).cell (j:=0) (v:=.slice ad len cap) rfl
  go_simp
  refine hK.out _ _ (fun _ _ _=>rfl) (fun hH=>?_);clear hK K;try simp only[Act.put,Zx,Zh,Za]
  refine wpAnyH_ready (rs:=[2,6]) (by kernel_rfl) (by simp) (AllReadyH.cons (o:=.mk (some 33) (.call _) _ _ _ _) rfl (fun K hK=>?_) (AllReadyH.cons (o:=.mk (some 37) (.buildSlice _ _ _) _ _ _ _) rfl (fun K hK=>?_) AllReadyH.nil))
  go_simp
  go_at_call 125
  refine(HC (Sx.Mem.le.refl M) hJ).mono ?_;rintro e W3 ⟨M3,x,z,v,rfl,lP,cq,qi,iy⟩
  go_wp2_with fail
  refine hK.out _ _ (HK cq) (fun hH=>?_);clear hK K;try simp only[Act.put,Zx,Zh,Za]
  refine wpAnyH_ready (rs:=[6]) (by kernel_rfl) (by simp) (AllReadyH.cons (o:=.mk (some 37) (.buildSlice _ _ _) _ _ _ _) rfl (fun K hK=>?_) AllReadyH.nil)
  go_simp
  refine hK.out _ _ (HK (HB lP cq)) (fun hH=>?_);clear hK K;try simp only[Act.put,Zx,Zh,Za]
  have xG:=HB lP cq
  rotate_left
  go_simp
  refine hK.out _ _ (HK (HB (Sx.Mem.le.refl M) hJ)) (fun hH=>?_);clear hK K;try simp only[Act.put,Zx,Zh,Za]
  refine wpAnyH_ready (rs:=[2]) (by kernel_rfl) (by simp) (AllReadyH.cons (o:=.mk (some 33) (.call _) _ _ _ _) rfl (fun K hK=>?_) AllReadyH.nil)
  go_simp
  go_at_call 125
  refine(HC (Sx.Mem.le.refl M) (HB (Sx.Mem.le.refl M) hJ)).mono ?_;rintro e W3 ⟨M3,x,z,v,rfl,lP,cq,qi,iy⟩
  go_wp2_with fail
  refine hK.out _ _ (HK cq) (fun hH=>?_);clear hK K;try simp only[Act.put,Zx,Zh,Za]
  have xG:=cq.perm List.perm_middle
  rotate_left
  go_simp
  refine hK.out _ _ (HK (HB (Sx.Mem.le.refl M) hJ)) (fun hH=>?_);clear hK K;try simp only[Act.put,Zx,Zh,Za]
  refine wpAnyH_ready (rs:=[1]) (by kernel_rfl) (by simp) (AllReadyH.cons (o:=.mk (some 32) (.load 22 (.tmp 31)) _ _ _ _) rfl (fun K hK=>?_) AllReadyH.nil);have k2:=(e2.alloc (.cells #[.string nm,.string tb.dh,.slice fa fn fc,.int .i64 tb.aH] 45)).cell (j:=0) (v:=.slice ad len cap) rfl
  go_simp
  refine hK.out _ _ (HK (HB (Sx.Mem.le.refl M) hJ)) (fun hH=>?_);clear hK K;try simp only[Act.put,Zx,Zh,Za]
  refine wpAnyH_ready (rs:=[2]) (by kernel_rfl) (by simp) (AllReadyH.cons (o:=.mk (some 33) (.call _) _ _ _ _) rfl (fun K hK=>?_) AllReadyH.nil)
  go_simp
  go_at_call 125
  refine(HC (Sx.Mem.le.refl M) (HB (Sx.Mem.le.refl M) hJ)).mono ?_;rintro e W3 ⟨M3,x,z,v,rfl,lP,cq,qi,iy⟩
  go_wp2_with fail
  refine hK.out _ _ (HK cq) (fun hH=>?_);clear hK K;try simp only[Act.put,Zx,Zh,Za]
  have xG:=cq.perm List.perm_middle
  all_goals
   refine wpAnyH_ready (rs:=[7]) (by kernel_rfl) (by simp) (AllReadyH.cons (o:=.mk (some 38) (.call _) _ _ _ _) rfl (fun K hK=>?_) AllReadyH.nil)
   go_simp
   go_at_call 124
   refine(HP lP xG qi iy).mono ?_;rintro e W4 ⟨M4,a4,n4,c4,rfl,pY,jd,yc⟩
   go_wp2_with fail
   refine hK.out _ _ (HK jd) (fun hH=>?_);clear hK K;try simp only[Act.put,Zx,Zh,Za]
   refine wpAnyH_ready (rs:=[8]) (by kernel_rfl) (by simp) (AllReadyH.cons (o:=.mk (some 39) (.fieldAddr _ (.tmp 2) 0) _ _ _ _) rfl (fun K hK=>?_) AllReadyH.nil)
   go_simp
   refine hK.out _ _ (HK jd) (fun hH=>?_);clear hK K;try simp only[Act.put,Zx,Zh,Za]
   refine wpAnyH_ready (rs:=[9]) (by kernel_rfl) (by simp) (AllReadyH.cons (o:=.mk none (.store 22 (.tmp 39) (.tmp 38)) _ _ _ _) rfl (fun K hK=>?_) AllReadyH.nil);have o2:=HO jd e2 (by omega);have o4:=HO jd e4 (by omega);have o5:=HO jd e5 (by omega);have oD:=(jd.old D (by omega)).trans eD;have c20:=o2.cell (j:=0) (v:=.slice ad len cap) rfl;have f20:=o2.frozen 0
   go_simp
   refine hK.out _ _ (fun k hk aW=>(heap_setCell_other W4 _ k _ aW).trans (jd.old k hk)) (fun hH=>wpAnyH_done (by kernel_rfl) ?_ _);clear hK K c20 f20 hH;refine NoPanic.normal ?_;have p2:cQ _ _ #[.slice a4 n4 c4,.slice a1 n1 c1,.slice a2 n2 c2,.slice a3 n3 c3] _:=o2.set 0 (.slice a4 n4 c4);have p4:=o4.other (j:=0) (v:=.slice a4 n4 c4) (B':=w.heap.size) (by omega);have p5:=o5.other (j:=0) (v:=.slice a4 n4 c4) (B':=w.heap.size) (by omega);have pD:=((KeepsOthers.setCell W4 ⟨w.heap.size,0,none⟩ (.slice a4 n4 c4)).same D _ oD rfl)
   have hm:=(Mid.refl w.heap.size Wd.heap.size W4).set (b:=w.heap.size) (j:=0) (ZO _) (by omega) (.slice a4 n4 c4);clear o2 o4 o5 oD;generalize W4.setCell ⟨w.heap.size,0,none⟩ (.slice a4 n4 c4)=W5 at*;have q20:W5.cell? ⟨w.heap.size,0,none⟩=some (.slice a4 n4 c4):=p2.cell rfl;have q21:W5.cell? ⟨w.heap.size,1,none⟩=some (.slice a1 n1 c1):=p2.cell rfl;have yx:W5.cell? ⟨w.heap.size,2,none⟩=some (.slice a2 n2 c2):=p2.cell rfl;have q23:W5.cell? ⟨w.heap.size,3,none⟩=some (.slice a3 n3 c3):=p2.cell rfl;have q40:W5.cell? ⟨w.heap.size+1+1,0,none⟩=some (.slice none 0 0):=p4.cell rfl;have f40:=p4.frozen 0;have q41:W5.cell? ⟨w.heap.size+1+1,1,none⟩=some (.slice none 0 0):=p4.cell rfl;have f41:=p4.frozen 1;have q42:W5.cell? ⟨w.heap.size+1+1,2,none⟩=some (.slice none 0 0):=p4.cell rfl;have f42:=p4.frozen 2;have q43:W5.cell? ⟨w.heap.size+1+1,3,none⟩=some (.slice none 0 0):=p4.cell rfl;have f43:=p4.frozen 3;have q5:W5.cell? ⟨w.heap.size+1+1+1,0,none⟩=some (.int .i64 0):=p5.cell rfl;have f5:=p5.frozen 0;have s4:=((((p4.set 0 (.slice a4 n4 c4)).set 1 (.slice a1 n1 c1)).set 2 (.slice a2 n2 c2)).set 3 (.slice a3 n3 c3)).other (j:=0) (v:=.int .i64 0) (B':=w.heap.size+1+1+1) (by omega);have s5:=((((p5.other (j:=0) (v:=.slice a4 n4 c4) (B':=w.heap.size+1+1) (by omega)).other (j:=1) (v:=.slice a1 n1 c1) (B':=w.heap.size+1+1) (by omega)).other (j:=2) (v:=.slice a2 n2 c2) (B':=w.heap.size+1+1) (by omega)).other (j:=3) (v:=.slice a3 n3 c3) (B':=w.heap.size+1+1) (by omega)).set 0 (.int .i64 0);have fg:=((((hm.set (b:=w.heap.size+1+1) (j:=0) (by omega) (by omega) (.slice a4 n4 c4)).set (b:=w.heap.size+1+1) (j:=1) (by omega) (by omega) (.slice a1 n1 c1)).set (b:=w.heap.size+1+1) (j:=2) (by omega) (by omega) (.slice a2 n2 c2)).set (b:=w.heap.size+1+1) (j:=3) (by omega) (by omega) (.slice a3 n3 c3)).set (b:=w.heap.size+1+1+1) (j:=0) (by omega) (by omega) (.int .i64 0);have sD:=(((((KeepsOthers.setCell W5 ⟨w.heap.size+1+1,0,none⟩ (.slice a4 n4 c4)).trans (KeepsOthers.setCell _ ⟨w.heap.size+1+1,1,none⟩ (.slice a1 n1 c1))).trans (KeepsOthers.setCell _ ⟨w.heap.size+1+1,2,none⟩ (.slice a2 n2 c2))).trans (KeepsOthers.setCell _ ⟨w.heap.size+1+1,3,none⟩ (.slice a3 n3 c3))).trans (KeepsOthers.setCell _ ⟨w.heap.size+1+1+1,0,none⟩ (.int .i64 0))).same D _ pD rfl;have u4:=s4.kept (grownBy_putObj' _ D (.deferred none)) (fun r e=>by cases e;exact⟨_,sD,rfl⟩);have u5:=s5.kept (grownBy_putObj' _ D (.deferred none)) (fun r e=>by cases e;exact⟨_,sD,rfl⟩);have z0:=u4.cell (j:=0) (v:=.slice a4 n4 c4) rfl;have z1:=u4.cell (j:=1) (v:=.slice a1 n1 c1) rfl;have z2:=u4.cell (j:=2) (v:=.slice a2 n2 c2) rfl;have z3:=u4.cell (j:=3) (v:=.slice a3 n3 c3) rfl;have z5:=u5.cell (j:=0) (v:=.int .i64 0) rfl;have oN:=DF (fun x=>g7 x (by simp)) M4 _ _ pY (aeW (aeU pX jd pY) (fg.put (b:=D) (by omega) hDw (.deferred none)) hI.size (fun e he=>hI.ub he) (ON jd)) yc;clear u4 u5 fg hm s4 s5 HC HP HB HK HO L6 L3 ON xG cq jd pX hJ hI DF g7 hR yc qi iy rE
   go_wp2
   refine⟨by simp,.inl ⟨_,_,rfl,run_takeDeferred sD,?_⟩⟩;refine⟨_,?_,oN⟩;simp[results,f66,go_sem,z0,z1,z2,z3,z5]
