/- catalog.shortest: the states of its walk. -/
import Derived.Test.YthdeaajdmdmfnaaGreatDoorCk
import Derived.Test.YthdeaajdmdmfnaaGreatDoorSet
import Derived.Test.YthdeaajdmdmfnaaGreatDoorNm
import Derived.Lib.SliceRun
import Derived.WalkMore
import Derived.Test.YthdeaajdmdmfnaaGreatDoorCi
import Derived.Test.YthdeaajdmdmfnaaGreatDoorSxZ
set_option linter.unusedVariables false
set_option linter.unusedSimpArgs false
namespace Go.Proofs.YthdeaajdmdmfnaaGreatDoor
open _root_.Go.Proofs.Tryz
open Go.RowKit Go.Proofs Go.Tb Go.Maps
open Go.Sx (AV Mem RL R M0 Glob)
structure dX(base:Nat)(a:af)(n:Nat)(P:List (List af))(br:List Value)(v:Value)(wr:World):Prop where
 r:wr.ownsRow base 87 1 v P.length br
 l:br.length=P.length
 p:∀ (i:Nat) (h1:i<br.length) (h2:i<P.length),wr.ownsRow base 9 1 br[i] n ((a::P[i]).map .string)
theorem A4{w:World}{base:Nat}{e:TypeId}{v:Value}{n:Nat}{xs:List Value}(h:w.ownsRow base e 1 v n xs){k:Nat}(hk:v.ownBlock=some k):∃ cur,w.heap[k]? =some (.cells cur e (0,0)):=by
 rcases h.2 with⟨rfl,_⟩|⟨g,cap,cur,rfl,hb,hg,_⟩
 ·simp[Value.ownBlock]at hk
 ·simp[Value.ownBlock]at hk;subst hk;exact⟨cur,hg⟩
theorem JP{w w':World}{base:Nat}{e:TypeId}{v:Value}{n:Nat}{xs:List Value}(h:w.ownsRow base e 1 v n xs)(hb:Below w.heap.size w w'):w'.ownsRow base e 1 v n xs:=by
 refine⟨h.1,?_⟩
 rcases h.2 with hn|⟨g,cap,cur,rfl,zV,uU,rest⟩
 ·exact .inl hn
 ·exact .inr ⟨g,cap,cur,rfl,zV,by rw[hb.block g (Z6.1 uU).1];exact uU,rest⟩
theorem dX.below{base:Nat}{a:af}{n:Nat}{P:List (List af)}{br:List Value}{v:Value}{w w':World}(h:dX base a n P br v w)(hb:Below w.heap.size w w'):dX base a n P br v w':=
 ⟨JP h.r hb,h.l,fun i h1 h2=>JP (h.p i h1 h2) hb⟩
theorem Eb{w:World}{base:Nat}{e:TypeId}{v:Value}{n:Nat}{xs:List Value}(h:w.ownsRow base e 1 v n xs){b:Nat}(hb:∀ cur,w.heap[b]?≠some (.cells cur e (0,0))):v.ownBlock≠some b:=fun e'=>by
 obtain⟨cur,hc⟩:=A4 h e';exact hb cur hc
theorem dX.map{base:Nat}{a:af}{n:Nat}{P:List (List af)}{br:List Value}{v:Value}{w w':World}{b:Nat}(h:dX base a n P br v w)(hb:∃ es c,w.heap[b]? =some (.map es c))(hg:w.grownBy w' (some b)):dX base a n P br v w':=
 ⟨h.r.kept hg (.inr (Eb h.r fun cur=>AY hb cur _ _)),h.l,fun i h1 h2=>(h.p i h1 h2).kept hg (.inr (Eb (h.p i h1 h2) fun cur=>AY hb cur _ _))⟩
theorem dX.other{base:Nat}{a:af}{n:Nat}{P:List (List af)}{br:List Value}{v v':Value}{w w':World}{xs:List Value}{k oW:Nat}(h:dX base a n P br v w)(h':w.ownsRow oW 87 1 v' k xs)(aE:∀ g,v'.ownBlock=some g→v.ownBlock≠some g)(hg:w.grownBy w' v'.ownBlock):dX base a n P br v w':=by
 refine⟨h.r.kept hg ?_,h.l,fun i h1 h2=>(h.p i h1 h2).kept hg ?_⟩
 ·cases hb:v'.ownBlock with
  |none=>cases hv:v.ownBlock<;>simp
  |some g=>exact .inr (aE g hb)
 ·cases hb:v'.ownBlock with
  |none=>cases hv:br[i].ownBlock<;>simp
  |some g=>
   obtain⟨cur,hc⟩:=A4 h' hb
   refine .inr (Eb (h.p i h1 h2) fun F7 e=> ?_)
   rw[hc]at e;cases e
theorem dX.push{base:Nat}{a:af}{n:Nat}{P:List (List af)}{br:List Value}{v v' u:Value}{q:List af}{w w':World}(h:dX base a n P br v w)(hu:w.ownsRow base 9 1 u n ((a::q).map .string))(hg:w.grownBy w' v.ownBlock)(hr:w'.ownsRow base 87 1 v' (P.length+1) (br++[u])):dX base a n (P++[q]) (br++[u]) v' w':=by
 have key:∀ {x:Value} {n:Nat} {xs:List Value},w.ownsRow base 9 1 x n xs→w'.ownsRow base 9 1 x n xs:=fun {x n xs} hx=>by
  refine hx.kept hg ?_
  cases hb:v.ownBlock with
  |none=>cases hv:x.ownBlock<;>simp
  |some g=>
   obtain⟨cur,hc⟩:=A4 h.r hb
   refine .inr (Eb hx fun F7 e=> ?_)
   rw[hc]at e;cases e
 refine⟨by rw[Z4,YB];exact hr,by simp[h.l],fun i h1 h2=> ?_⟩
 have hl:=h.l
 by_cases hi:i<P.length
 ·rw[Yf hi,Yf (by omega)]
  exact key (h.p i (by omega) hi)
 ·obtain rfl:i=P.length:=by simp at h2;omega
  rw[YM (by omega),YM (by omega)]
  simpa using key hu
theorem dX.nil(base:Nat)(a:af)(n:Nat)(w:World):dX base a n [] [] (.slice none 0 0) w:=⟨World.ownsRow_nil _ _ _ _,rfl,fun i h=>absurd h (by simp)⟩
theorem Qu:∀ (a:af) (q:List af),(a::q)[q.length]? =some (bB a q)
 |a,[]=>rfl
 |a,b::l=>by
  have:=Qu b l
  rw[bB,← this];rfl
theorem dX.at{base:Nat}{a:af}{n:Nat}{P:List (List af)}{br:List Value}{v:Value}{w:World}(h:dX base a (n+1) P br v w){i:Nat}(hi:i<P.length)(hn:P[i].length=n):
  ∃ g cap g2 oZ,v= .slice (some ⟨g,0,none⟩) P.length cap∧w.cell? ⟨g,i,none⟩=some (.slice (some ⟨g2,0,none⟩) (n+1) oZ)∧w.cell? ⟨g2,n,none⟩=some (.string (bB a P[i]))∧w.ownsRow base 9 1 (.slice (some ⟨g2,0,none⟩) (n+1) oZ) (n+1) ((a::P[i]).map .string)∧br[i]? =some (.slice (some ⟨g2,0,none⟩) (n+1) oZ):=by
 have hl:=h.l
 obtain⟨cur,Ia⟩:∃ g,v.ownBlock=some g:=by
  rcases h.r.2 with⟨rfl,hz⟩|⟨g,cap,cur,rfl,_⟩
  ·omega
  ·exact⟨g,rfl⟩
 have hc:=h.r.cells Ia i br[i] (Z1 (by omega))
 have hp:=h.p i (by omega) hi
 rcases h.r.2 with⟨rfl,hz⟩|⟨g,cap,F7,rfl,_⟩
 ·omega
 simp only[Value.ownBlock,ZY]at Ia
 subst Ia
 rw[Addr.add_lit,ZH]at hc
 rcases hp.2 with⟨h1,h2⟩|⟨g2,oZ,ajX,h1,_⟩
 ·omega
 have cG:=hp.cells (g:=g2) (by rw[h1];rfl) n (.string (bB a P[i])) (by
  have:=Qu a P[i]
  rw[hn]at this
  rw[X2,this];rfl)
 rw[Addr.add_lit,ZH]at cG
 rw[h1]at hc hp
 exact⟨g,cap,g2,oZ,rfl,hc,cG,hp,by rw[← h1];exact Z1 (by omega)⟩
theorem dX.own{base:Nat}{a:af}{n:Nat}{P:List (List af)}{br:List Value}{v u:Value}{w:World}(h:dX base a n P br v w){i:Nat}(hu:br[i]? =some u)(hi:i<P.length):w.ownsRow base 9 1 u n ((a::P[i]).map .string):=by
 obtain⟨h1,rfl⟩:=ZE.1 hu
 exact h.p i h1 hi
theorem Ea{w:World}{base oW:Nat}{e:TypeId}{v:Value}{n:Nat}{xs:List Value}(h:w.ownsRow base e 1 v n xs)(hb:oW≤base):w.ownsRow oW e 1 v n xs:=by
 refine⟨h.1,?_⟩
 rcases h.2 with hn|⟨g,cap,cur,rfl,zV,rest⟩
 ·exact .inl hn
 ·exact .inr ⟨g,cap,cur,rfl,ZI hb zV,rest⟩
theorem dX.mono{base oW:Nat}{a:af}{n:Nat}{P:List (List af)}{br:List Value}{v:Value}{w:World}(h:dX base a n P br v w)(hb:oW≤base):dX oW a n P br v w:=⟨Ea h.r hb,h.l,fun i h1 h2=>Ea (h.p i h1 h2) hb⟩
structure jg(w:World)(a:af)(bs lv n:Nat)(P:List (List af))(br:List Value)(vp:Value)(Q:List (List af))(cN:List Value)(S:List af)(wr:World)(vl:Value):Prop where
 p:dX w.heap.size a (n+1) P br vp wr
 q:dX lv a (n+2) Q cN vl wr
 s:cB wr bs S
 k:Below w.heap.size w wr
 d:∀ g,vp.ownBlock=some g→g<lv
 b:w.heap.size≤bs
 l:w.heap.size≤lv
 z:lv≤wr.heap.size
theorem jg.below{w:World}{a:af}{bs lv n:Nat}{P:List (List af)}{br:List Value}{vp:Value}{Q:List (List af)}{cN:List Value}{S:List af}{wr w':World}{vl:Value}(h:jg w a bs lv n P br vp Q cN S wr vl)(hb:Below wr.heap.size wr w'):jg w a bs lv n P br vp Q cN S w' vl:=
 ⟨h.p.below hb,h.q.below hb,Kj h.s hb,h.k.trans (wQ hb h.k.size),h.d,h.b,h.l,ZI h.z hb.size⟩
theorem jg.mark{w:World}{a:af}{bs lv n:Nat}{P:List (List af)}{br:List Value}{vp:Value}{Q:List (List af)}{cN:List Value}{S S':List af}{wr w':World}{vl:Value}(h:jg w a bs lv n P br vp Q cN S wr vl)(hs:cB w' bs S')(hg:wr.grownBy w' (some bs)):jg w a bs lv n P br vp Q cN S' w' vl:=by
 have hb:=h.b
 exact⟨h.p.map h.s.isMap hg,h.q.map h.s.isMap hg,hs,h.k.trans ((bw.kY hg).below h.k.size (by simpa using hb)),h.d,h.b,h.l,ZI h.z hg.size⟩
theorem jg.push{w:World}{a:af}{bs lv n:Nat}{P:List (List af)}{br:List Value}{vp:Value}{Q:List (List af)}{cN:List Value}{S:List af}{wr w':World}{vl lF u:Value}{q:List af}(h:jg w a bs lv n P br vp Q cN S wr vl)(hu:wr.ownsRow lv 9 1 u (n+2) ((a::q).map .string))(hg:wr.grownBy w' vl.ownBlock)(hr:w'.ownsRow lv 87 1 lF (Q.length+1) (cN++[u])):
  jg w a bs lv n P br vp (Q++[q]) (cN++[u]) S w' lF:=by
 refine⟨h.p.other h.q.r (fun g hg e=>by have:=(h.q.r.lt g hg).1;have:=h.d g e;omega) hg,h.q.push hu hg hr,?_,?_,h.d,h.b,h.l,ZI h.z hg.size⟩
 ·refine dj.kept h.s hg ?_
  cases hb:vl.ownBlock with
  |none=>simp
  |some g=>
   obtain⟨cur,hc⟩:=A4 h.q.r hb
   simp only[ne_eq,ZY]
   rintro rfl
   exact AY h.s.isMap _ _ _ hc
 ·cases hb:vl.ownBlock with
  |none=>rw[hb]at hg;exact h.k.trans ((bw.D3 hg []).below h.k.size (by simp))
  |some g=>
   rw[hb]at hg
   have:=(h.q.r.lt g hb).1
   have:=h.l
   exact h.k.trans ((bw.kY hg).below h.k.size (by simp;omega))
theorem jg.level{w:World}{a:af}{bs n:Nat}{P:List (List af)}{br:List Value}{vp:Value}{S:List af}{wr:World}(h1:dX w.heap.size a (n+1) P br vp wr)(h2:cB wr bs S)(h3:Below w.heap.size w wr)(hb:w.heap.size≤bs):jg w a bs wr.heap.size n P br vp [] [] S wr (.slice none 0 0):=
 ⟨h1,dX.nil _ _ _ _,h2,h3,fun g hg=>(h1.r.lt g hg).2,hb,h3.size,ZX _⟩
theorem dX.first(w:World)(a:af):dX w.heap.size a (0+1) [[]] [.slice (some ⟨w.heap.size+1,0,none⟩) 1 1] (.slice (some ⟨w.heap.size+2,0,none⟩) 1 1) (((w.alloc (.map #[] 0)).alloc (.cells #[.string a] 9)).alloc (.cells #[.slice (some ⟨w.heap.size+1,0,none⟩) 1 1] 87))∧
  cB (((w.alloc (.map #[] 0)).alloc (.cells #[.string a] 9)).alloc (.cells #[.slice (some ⟨w.heap.size+1,0,none⟩) 1 1] 87)) w.heap.size []∧
  Below w.heap.size w (((w.alloc (.map #[] 0)).alloc (.cells #[.string a] 9)).alloc (.cells #[.slice (some ⟨w.heap.size+1,0,none⟩) 1 1] 87)):=by
 have e1:=heap_alloc_new (w.alloc (.map #[] 0)) (.cells #[.string a] 9)
 rw[show(w.alloc (.map #[] 0)).heap.size=w.heap.size+1 by simp]at e1
 have e2:=heap_alloc_new ((w.alloc (.map #[] 0)).alloc (.cells #[.string a] 9)) (.cells #[.slice (some ⟨w.heap.size+1,0,none⟩) 1 1] 87)
 rw[show((w.alloc (.map #[] 0)).alloc (.cells #[.string a] 9)).heap.size=w.heap.size+2 by simp]at e2
 have e1':=(heap_alloc_old ((w.alloc (.map #[] 0)).alloc (.cells #[.string a] 9)) (.cells #[.slice (some ⟨w.heap.size+1,0,none⟩) 1 1] 87) (Z6.1 e1).1).trans e1
 refine⟨⟨⟨rfl,.inr ⟨w.heap.size+2,1,_,rfl,by omega,e2,by simp,by decide,by simp,by simp⟩⟩,rfl,fun i h1 h2=> ?_⟩,((Ev w _ _ _).alloc _).alloc _,((((bw.refl w []).alloc _).alloc _).alloc _).below (ZX _) (by simp)⟩
 obtain rfl:i=0:=by simpa using h1
 exact⟨rfl,.inr ⟨w.heap.size+1,1,_,rfl,by omega,e1',by simp,by decide,by simp,by simp⟩⟩
theorem afb{w w':World}{e:TypeId}{lo:Nat}{v:Value}{L:List af}(h:names w e lo v L)(hk:∀ (g:Nat) (cur:Array Value),w.heap[g]? =some (Obj.cells cur e (0,0))→w'.heap[g]? =w.heap[g]?):names w' e lo v L:=by
 obtain⟨a,cap,rfl,h1,h2,h3⟩:=h
 exact⟨a,cap,rfl,h1,h2,fun hc=>by obtain⟨g,off,cur,g1,g2,g3,g4⟩:=h3 hc;exact⟨g,off,cur,g1,g2,(hk g _ g3).trans g3,g4⟩⟩
theorem afc{w w':World}{lo base n:Nat}{v vl:Value}{L:List af}{xs:List Value}(h:names w 9 lo v L)(hq:w.ownsRow base 87 1 vl n xs)(hg:w.grownBy w' vl.ownBlock):names w' 9 lo v L:=by
 refine afb h fun g cur hc=>hg.block g (Z6.1 hc).1 fun e=> ?_
 obtain⟨F7,gb⟩:=A4 hq e.symm
 rw[hc]at gb;cases gb
theorem Ef{fs:List aq}:∀ {a:af} {q:List af},a∈cR fs→eW (deps fs) a q→bB a q∈cR fs
 |_,[],h,_=>h
 |a,b::l,_,h=>Ef (a:=b) (q:=l) (zm h.1) h.2
theorem jd.Sr{fs:List aq}{a:af}{k:Nat}{P:List (List af)}{S:List af}(ha:a∈cR fs)(h:jd (deps fs) a k P S):S.length≤(cR fs).length:=jU h.d fun x hx=>by
 obtain⟨q,h1,h2,_⟩:=h.r x hx
 rw[← h2];exact Ef ha h1
theorem Xc{w W:World}{a:af}{bs lv n:Nat}{P:List (List af)}{br:List Value}{vp:Value}{Q:List (List af)}{cN:List Value}{S:List af}{vl:Value}{g2 oZ:Nat}{q:List af}(h:jg w a bs lv n P br vp Q cN S W vl)(hn:n≤274877906944)
  (hq:W.ownsRow w.heap.size 9 1 (.slice (some ⟨g2,0,none⟩) (n+1) oZ) (n+1) ((a::q).map .string)):Calls prog 187 #[.slice (some ⟨g2,0,none⟩) (n+1) oZ] W fun e W'=>∃ v,e= .returned v∧W'.ownsRow W.heap.size 9 1 v (n+1) ((a::q).map .string)∧Below W.heap.size W W':=by
 have hl:=hq.1
 rw[ZW,Yb]at hl
 refine(Tryz.slices_Clone_string g2 0 (n+1) oZ (a::q) W (by omega) (by omega) (fun j hj=> ?_)).mono fun e W' ⟨v,h1,h2,_,h4⟩=>⟨v,h1,?_,h4⟩
 ·have:=hq.cells (g:=g2) rfl j (.string ((a::q).getD j ByteArray.empty)) (by rw[X2,Z3,Z1 hj];rfl)
  rw[Addr.add_lit]at this
  simpa using this
 ·rw[Zq (by omega)]at h2;exact h2
structure L2(fs:List aq)(w:World)(a:af)(bs lv k:Nat)(P:List (List af))(br:List Value)(vp:Value)(S:List af)(i:Nat)(cN:List Value)(t:List (List af)×List af)(wr:World)(vl:Value):Prop where
 s:jg w a bs lv k P br vp t.1 cN t.2 wr vl
 e:t=jj (deps fs) a (P.take i) ([],S)
 b:t.1.length≤t.2.length
 n:∀ x∈t.2,x∈cR fs
 no:∀ j (hj:j<P.length),j<i→a∉deps fs (bB a P[j])
structure L3(fs:List aq)(w:World)(a:af)(bs lv k:Nat)(P:List (List af))(br:List Value)(vp:Value)(p:List af)(t0:List (List af)×List af)(v40:Value)(j:Nat)(cN:List Value)(t:List (List af)×List af)(wr:World)(vl:Value):Prop where
 s:jg w a bs lv k P br vp t.1 cN t.2 wr vl
 e:t=ext1 p ((deps fs (bB a p)).take j) t0
 b:t.1.length≤t.2.length
 n:∀ x∈t.2,x∈cR fs
 v:names wr 9 0 v40 (deps fs (bB a p))
theorem L3.seen{fs:List aq}{w:World}{a:af}{bs lv k:Nat}{P:List (List af)}{br:List Value}{vp:Value}{p:List af}{t0:List (List af)×List af}{v40:Value}{j:Nat}{cN:List Value}{t:List (List af)×List af}{wr:World}{vl:Value}(h:L3 fs w a bs lv k P br vp p t0 v40 j cN t wr vl)(hj:j<(deps fs (bB a p)).length)(de:(deps fs (bB a p))[j]∈t.2):L3 fs w a bs lv k P br vp p t0 v40 (j+1) cN t wr vl:=by
 refine⟨h.s,?_,h.b,h.n,h.v⟩
 rw[ZC hj,Gm,← h.e,ZV de]
theorem L3.len{fs:List aq}{w:World}{a:af}{bs lv k:Nat}{P:List (List af)}{br:List Value}{vp:Value}{p:List af}{t0:List (List af)×List af}{v40:Value}{j:Nat}{cN:List Value}{t:List (List af)×List af}{wr:World}{vl:Value}(h:L3 fs w a bs lv k P br vp p t0 v40 j cN t wr vl):t.1.length≤(cR fs).length∧t.2.length≤(cR fs).length:=by
 have h1:=jU h.s.s.1 h.n
 have h2:=h.b
 omega
theorem L3.push{fs:List aq}{w:World}{a:af}{bs lv k:Nat}{P:List (List af)}{br:List Value}{vp:Value}{p:List af}{t0:List (List af)×List af}{v40:Value}{j:Nat}{cN:List Value}{t:List (List af)×List af}{wr w1 w4:World}{vl lF u:Value}(h:L3 fs w a bs lv k P br vp p t0 v40 j cN t wr vl)(hj:j<(deps fs (bB a p)).length)(de:(deps fs (bB a p))[j]∉t.2)
  (hs:jg w a bs lv k P br vp t.1 cN (ins t.2 (deps fs (bB a p))[j]) w1 vl) (hv:names w1 9 0 v40 (deps fs (bB a p))) (hu:w1.ownsRow lv 9 1 u (k+2) ((a::(p++[(deps fs (bB a p))[j]])).map .string)) (hg:w1.grownBy w4 vl.ownBlock) (hr:w4.ownsRow lv 87 1 lF (t.1.length+1) (cN++[u])):
  L3 fs w a bs lv k P br vp p t0 v40 (j+1) (cN++[u]) (t.1++[p++[(deps fs (bB a p))[j]]],t.2++[(deps fs (bB a p))[j]]) w4 lF:=by
 have e:ins t.2 (deps fs (bB a p))[j]=t.2++[(deps fs (bB a p))[j]]:=by unfold ins;rw[Z7 de]
 rw[e]at hs
 refine⟨hs.push hu hg hr,?_,?_,fun x hx=> ?_,afc hv hs.q.r hg⟩
 ·rw[ZC hj,Gm,← h.e,Z7 de]
 ·have:=h.b;simp only[Z4,YB];omega
 ·rcases Zy.1 hx with hx|hx
  ·exact h.n x hx
  ·rw[Zg]at hx;subst hx;exact zm (Zf hj)
theorem L3.done{fs:List aq}{w:World}{a:af}{bs lv k:Nat}{P:List (List af)}{br:List Value}{vp:Value}{S:List af}{i:Nat}{ajf:List Value}{t0:List (List af)×List af}{wr0:World}{vl0:Value}{v40:Value}{j:Nat}{cN:List Value}{t:List (List af)×List af}{wr:World}{vl:Value}(hi:i<P.length)(h0:L2 fs w a bs lv k P br vp S i ajf t0 wr0 vl0)
  (h:L3 fs w a bs lv k P br vp P[i] t0 v40 j cN t wr vl) (hj:(deps fs (bB a P[i])).length≤j) (kv:a∉deps fs (bB a P[i])):L2 fs w a bs lv k P br vp S (i+1) cN t wr vl:=by
 refine⟨h.s,?_,h.b,h.n,fun x hx xR=> ?_⟩
 ·rw[h.e,Zq hj,ZC hi,Gn,← h0.e]
 ·rcases X9 (X3 xR)with h1|rfl
  ·exact h0.no x hx h1
  ·exact kv
theorem afu{w:World}{base:Nat}{e:TypeId}{v:Value}{n:Nat}{xs:List Value}(h:w.ownsRow base e 1 v n xs):∀ u∈[v],u.oneCell'=true:=fun u hu=>by
 rw[Zg]at hu;subst hu
 rcases h.2 with⟨rfl,_⟩|⟨g,cap,cur,rfl,_⟩<;>rfl
theorem Q8{w:World}{base:Nat}{e:TypeId}{v:Value}{n:Nat}{xs:List Value}(h:w.ownsRow base e 1 v n xs)(hn:0<n):∃ g cap,v= .slice (some ⟨g,0,none⟩) n cap:=by
 rcases h.2 with⟨_,h1⟩|⟨g,cap,cur,h1,_⟩
 ·omega
 ·exact⟨g,cap,h1⟩
theorem aiE(s:af):∀ u∈[Value.string s],u.oneCell'=true:=fun u hu=>by rw[Zg]at hu;subst hu;rfl
theorem Mq(w:World)(v:Value)(t:TypeId):∀ j u,[v][j]? =some u→(w.alloc (.cells #[v] t)).cell? ((⟨w.heap.size,0,none⟩:Addr).add j)=some u:=fun j u hj=>by
 match j,hj with
 |0,hj=>
  simp only[List.getElem?_cons_zero,ZY]at hj
  subst hj
  rw[Addr.add_lit,qi (heap_alloc_new _ _)];rfl
theorem NK{w w':World}{base:Nat}{e:TypeId}{v:Value}{n:Nat}{xs:List Value}(h:w.ownsRow base e 1 v n xs)(hg:w.grownBy w' v.ownBlock)(hb:base≤w.heap.size):Below base w w':=
 ⟨hg.os,hg.tape,hg.output,hg.size,fun k hk=>hg.block k (by omega) fun e'=>by have:=(h.lt k e'.symm).1;omega⟩
theorem L2.start{fs:List aq}{w:World}{a:af}{k:Nat}{P:List (List af)}{br:List Value}{vp:Value}{S:List af}{wr:World}(ha:a∈cR fs)(h1:dX w.heap.size a (k+1) P br vp wr)(h2:cB wr w.heap.size S)(h3:Below w.heap.size w wr)(h4:jd (deps fs) a k P S):L2 fs w a w.heap.size wr.heap.size k P br vp S 0 [] ([],S) wr (.slice none 0 0):=
 ⟨jg.level h1 h2 h3 (ZX _),rfl,ZM _,fun x hx=>by obtain⟨q,h5,h6,_⟩:=h4.r x hx;rw[← h6];exact Ef ha h5,fun j _ h=>absurd h (by omega)⟩
theorem L3.start{fs:List aq}{w:World}{a:af}{bs lv k:Nat}{P:List (List af)}{br:List Value}{vp:Value}{S:List af}{i:Nat}{cN:List Value}{t:List (List af)×List af}{wr w5:World}{vl:Value}{p:List af}{v40:Value}{l0:Nat}(h:L2 fs w a bs lv k P br vp S i cN t wr vl)(hb:Below wr.heap.size wr w5)(hv:names w5 9 l0 v40 (deps fs (bB a p))):
  L3 fs w a bs lv k P br vp p t v40 0 cN t w5 vl:=⟨h.s.below hb,rfl,h.b,h.n,hv.mono (ZM _)⟩
theorem aiz{w:World}{a:af}{bs lv n:Nat}{P:List (List af)}{br:List Value}{vp:Value}{Q:List (List af)}{cN:List Value}{S:List af}{w1 w2 w3:World}{vl v1:Value}{m:Nat}{xs:List Value}(s1:jg w a bs lv n P br vp Q cN S w1 vl)(bV:w2.ownsRow w1.heap.size 9 1 v1 m xs)(dZ:Below w1.heap.size w1 w2){o1:Obj}(pq:(w2.alloc o1).grownBy w3 v1.ownBlock)(o2:Obj):
  (w3.alloc o2).ownsRow lv 87 1 vl Q.length cN∧lv≤(w3.alloc o2).heap.size:=by
 have l2:=dZ.size
 have b3:Below w1.heap.size w2 (w2.alloc o1):=⟨rfl,rfl,rfl,by simp,fun k hk=>heap_alloc_old w2 o1 (by omega)⟩
 have b4:=NK (bV.alloc o1) pq (by simp;omega)
 have l4:=b4.size
 have b5:Below w1.heap.size w3 (w3.alloc o2):=⟨rfl,rfl,rfl,by simp,fun k hk=>heap_alloc_old w3 o2 (by simp at l4;omega)⟩
 have s5:=s1.below (((dZ.trans b3).trans b4).trans b5)
 exact⟨s5.q.r,s5.z⟩
theorem L3.step{fs:List aq}{w:World}{a:af}{bs lv k:Nat}{P:List (List af)}{br:List Value}{vp:Value}{p:List af}{t0:List (List af)×List af}{v40:Value}{j:Nat}{cN:List Value}{t:List (List af)×List af}{wr w1 w2 w3 w4:World}{vl lF v1 u:Value}(h:L3 fs w a bs lv k P br vp p t0 v40 j cN t wr vl)(hj:j<(deps fs (bB a p)).length)(de:(deps fs (bB a p))[j]∉t.2){o1 o2:Obj}
  (hs:cB w1 bs (ins t.2 (deps fs (bB a p))[j])) (ij:wr.grownBy w1 (some bs)) (bV:w2.ownsRow w1.heap.size 9 1 v1 (k+1) ((a::p).map .string)) (dZ:Below w1.heap.size w1 w2)
  (lW:w3.ownsRow w1.heap.size 9 1 u (k+1+1) ((a::p).map .string++[.string (deps fs (bB a p))[j]])) (pq:(w2.alloc o1).grownBy w3 v1.ownBlock)
  (IQ:w4.ownsRow lv 87 1 lF (t.1.length+1) (cN++[u])) (z8:(w3.alloc o2).grownBy w4 vl.ownBlock):
  L3 fs w a bs lv k P br vp p t0 v40 (j+1) (cN++[u]) (t.1++[p++[(deps fs (bB a p))[j]]],t.2++[(deps fs (bB a p))[j]]) w4 lF:=by
 have s1:=h.s.mark hs ij
 have n1:=h.v.grown ij (AY h.s.s.isMap)
 have l2:=dZ.size
 have b3:Below w1.heap.size w2 (w2.alloc o1):=⟨rfl,rfl,rfl,by simp,fun k hk=>heap_alloc_old w2 o1 (by omega)⟩
 have b4:=NK (bV.alloc o1) pq (by simp;omega)
 have l4:=b4.size
 have b5:Below w1.heap.size w3 (w3.alloc o2):=⟨rfl,rfl,rfl,by simp,fun k hk=>heap_alloc_old w3 o2 (by simp at l4;omega)⟩
 have bb:=((dZ.trans b3).trans b4).trans b5
 refine h.push hj de (s1.below bb) (QJ n1 bb) ?_ z8 IQ
 have:=Ea (lW.alloc o2) s1.z
 have e:(a::(p++[(deps fs (bB a p))[j]])).map Value.string=(a::p).map .string++[.string (deps fs (bB a p))[j]]:=by simp
 rw[e];exact this
theorem afH:(prog.info? 87).map (fun i=>(i.zero,i.size,i.bytes))=some (some (.slice none 0 0),1,24):=by kernel_rfl
set_option maxHeartbeats 4000000 in
set_option maxRecDepth 1000000 in
theorem aih(fs:List aq)(hlen:fs.length≤274877906944){w:World}{bA lo:Nat}{L:List af}{Fm:af→Nat}(hA:gY w bA lo fs L Fm)(a:af)(ha:a∈cR fs):
  Calls prog 132 #[.map (some bA),.string a] w fun e W'=>∃ v,e= .returned v∧Below w.heap.size w W'∧((v= .slice none 0 0∧∀ q,¬je (deps fs) a q)∨∃ q,oR (deps fs) a q∧∃ n,W'.ownsRow w.heap.size 9 1 v n ((a::q).map .string)):=by
 have hN:=JI fs
 have OJ:= @run_makeMap prog
 have ON:maxLen=9223372036854775807:=rfl
 have Ob:a∈L:=(hA.l a).2 (x8.1 ha)
 have has:a.size≤maxLen:=hA.m.2.1 a Ob
 obtain⟨i0,eE,dR,jT,gy⟩:=info_parts Sl
 obtain⟨i1,qx,hy0,hy1,Pb⟩:=info_parts afH
 obtain⟨Rel,ph⟩:∃ Rel:Nat→Value→World→Prop,∀ n v wr,Rel n v wr↔∃ k P br S,dX w.heap.size a (k+1) P br v wr∧cB wr w.heap.size S∧Below w.heap.size w wr∧jd (deps fs) a k P S∧k≤(cR fs).length+1∧n=(cR fs).length+1-k:=⟨_,fun _ _ _=>Iff.rfl⟩
 have H0:Hd (∃ n,Rel n (.slice (some ⟨w.heap.size+2,0,none⟩) 1 1) (((w.alloc (.map #[] 0)).alloc (.cells #[.string a] 9)).alloc (.cells #[.slice (some ⟨w.heap.size+1,0,none⟩) 1 1] 87))):=by
  obtain⟨h1,h2,h3⟩:=dX.first w a
  exact⟨⟨_,(ph _ _ _).2 ⟨0,_,_,_,h1,h2,h3,jd.start _ _,ZM _,rfl⟩⟩⟩
 have BO:=Hd.mk ph
 have HA:=Hd.mk hA
 have Ha:=Hd.mk ha
 clear ph hA ha Ob
 go_enter func132,ntmps132
 go_wp2
 go_loopw [6] (fun v wr=>∃ n,Rel n v wr) (fun v wr=>mu fun n=>Rel n v wr)
 case atStart=>exact H0.out
 clear H0
 obtain⟨k,P,br,S,hP,hS,hB,hI,hk,hn⟩:=(BO.out _ _ _).1 (ae4 hrel)
 obtain⟨wo,rfl⟩:∃ wo:World,wo=wr:=⟨wr,rfl⟩
 by_cases aE:P=[]
 ·subst aE
  rcases hP.r.2 with⟨rfl,_⟩|⟨g,cap,cur,rfl,_⟩
  all_goals
   have TJ:=Hd.mk hI.none
   clear hn hrel BO hI hP
   go_wp2
   go_ret
   exact⟨_,rfl,hB,.inl ⟨rfl,TJ.out⟩⟩
 ·have hk9:k≤274877906944:=by have:=hI.z aE;have:=hI.Sr Ha.out;omega
  have hPl:0<P.length:=XZ.2 aE
  obtain⟨gp,zg,rfl,hPm⟩:∃ gp zg,u6= .slice (some ⟨gp,0,none⟩) P.length zg∧P.length≤maxLen:=by
   rcases hP.r.2 with⟨_,h⟩|⟨g,cap,cur,h,_,_,h1,h2,_⟩
   ·omega
   ·exact⟨g,cap,h,by omega⟩
  have HL:Hd (∀ (P':List (List af)) (KS:List Value) (S':List af) (v':Value) (w':World),dX w.heap.size a (k+1+1) P' KS v' w'→cB w' w.heap.size S'→Below w.heap.size w w'→jd (deps fs) a (k+1) P' S'→(∃ n,Rel n v' w')∧(mu fun n=>Rel n v' w')<mu fun n=>Rel n (.slice (some ⟨gp,0,none⟩) P.length zg) wo):=⟨fun P' KS S' v' w' h1 h2 h3 h4=>by
   have h5:k≤(cR fs).length:=ZI (hI.z aE) (hI.Sr Ha.out)
   have h6:=(BO.out _ v' w').2 ⟨k+1,P',KS,S',h1,h2,h3,h4,by omega,rfl⟩
   exact⟨⟨_,h6⟩,ae3 h6 (by rw[hn];omega)⟩⟩
  have H2:=Hd.mk (L2.start Ha.out hP hS hB hI)
  have HI:=Hd.mk hI
  clear hn hrel BO hP hS hB hI aE
  go_wp2
  go_loopw [7,22] (fun vl i wr=>∃ (i':Nat) (cN:List Value) (t:List (List af)×List af),i= .int .i64 i'∧i'≤P.length∧Hd (L2 fs w a w.heap.size wo.heap.size k P br (.slice (some ⟨gp,0,none⟩) P.length zg) S i' cN t wr vl)) (fun _ i _=>P.length-(intOf i).toNat)
  case atStart=>exact⟨0,[],_,rfl,ZM _,H2⟩
  clear H2
  obtain⟨i,cN,t,rfl,hi,HS⟩:=hrel
  by_cases aw:i<P.length
  ·obtain⟨_,_,g2,oZ,he,bV,cG,dt,O5⟩:=HS.out.s.p.at aw (HI.out.p _ (Zf aw)).2
   cases he
   obtain⟨p,hp⟩:∃ p,p=P[i]:=⟨_,rfl⟩
   rw[← hp]at cG dt
   have OQ:eW (deps fs) a p:=hp ▸ (HI.out.p _ (Zf aw)).1
   obtain⟨z,hz⟩:∃ z,z=bB a p:=⟨_,rfl⟩
   rw[← hz]at cG
   have DA:z∈L:=(HA.out.l z).2 (x8.1 (hz ▸ Ef Ha.out OQ))
   have fu:z.size≤maxLen:=HA.out.m.2.1 z DA
   have Fh:=Hd.mk (HA.out.below HS.out.s.k)
   obtain⟨D,hD,NY⟩:=Fh.out.s z DA
   have HD:=Hd.mk hD
   have BN:=Hd.mk NY
   have Hp:=Hd.mk hp
   have Hz:=Hd.mk hz
   have HO:=Hd.mk dt
   have TG:=Hd.mk O5
   clear O5 hD NY hp hz dt OQ
   by_cases Db:a∈D
   ·have HB:=Hd.mk (HI.out.found (Z1 aw) (by have:=(BN.out a).1 Db;rw[Hz.out,Hp.out]at this;exact this) (fun j hj q hq=>by obtain⟨dK,rfl⟩:=ZE.1 hq;exact HS.out.no j dK hj))
    go_wp2_with (first
     |(at_lookup;refine Bw _ rfl _ _ 194 rfl underlying9 underlying194 (zeroValue200 _) bA L Fm rfl Fh.out.m z rfl fu ?_;rw[ZV DA])
     |(at_lookup;refine E6 _ rfl _ _ 200 rfl underlying9 underlying4 underlying200 (zeroValue4 _) (Fm z) D rfl HD.out a rfl has ?_;rw[YJ Db]))
    go_ret
    exact⟨_,rfl,HS.out.s.k,.inr ⟨p,by rw[Hp.out];exact HB.out,_,HO.out⟩⟩
   ·have kv:Hd (a∉deps fs (bB a P[i])):=⟨fun h=>Db ((BN.out a).2 (by rw[Hz.out,Hp.out];exact h))⟩
    have gj:Hd (D.length≤4398046511104):=⟨by have:=jU HD.out.1 (b:=cR fs) (fun m hm=>zm ((BN.out m).1 hm));omega⟩
    go_wp2_with (first
     |(at_lookup;refine Bw _ rfl _ _ 194 rfl underlying9 underlying194 (zeroValue200 _) bA L Fm rfl Fh.out.m z rfl fu ?_;rw[ZV DA])
     |(at_lookup;refine E6 _ rfl _ _ 200 rfl underlying9 underlying4 underlying200 (zeroValue4 _) (Fm z) D rfl HD.out a rfl has ?_;rw[Zh Db])
     |(go_at_call 186;refine(aep _ _).mono ?_;rintro e w6 ⟨rfl,rfl⟩)
     |(go_at_call 130;refine(aim HD.out gj.out).mono ?_;rintro e w5 ⟨v40,TX,rfl,gT,eL,IX,pE⟩;have abQ:TX=deps fs (bB a p):=tH gT (Ge _ _) (fun x=>by rw[eL,BN.out,Hz.out]);subst abQ;have H3:=Hd.mk (L3.start HS.out (B7 pE) IX);obtain⟨a40,WD,rfl⟩:=IX.shape;clear gT eL IX pE))
    have iR:(deps fs (bB a p)).length≤274877906944:=by have:=jU (EC (Ge fs (bB a p))) (b:=cR fs) (fun m hm=>zm hm);omega
    obtain⟨Tf,rfl⟩:∃ Tf:World,Tf=wr:=⟨wr,rfl⟩
    go_loopw [7,42] (fun vl i wr=>∃ (j:Nat) (EX:List Value) (t':List (List af)×List af),i= .int .i64 j∧j≤(deps fs (bB a p)).length∧Hd (L3 fs w a w.heap.size wo.heap.size k P br (.slice (some ⟨gp,0,none⟩) P.length zg) p t (.slice a40 (deps fs (bB a p)).length WD) j EX t' wr vl)) (fun _ i _=>(deps fs (bB a p)).length-(intOf i).toNat)
    case atStart=>exact⟨0,cN,t,rfl,ZM _,H3⟩
    clear H3 bV cG HO
    obtain⟨j,EX,t',rfl,hj,HR⟩:=hrel
    by_cases kr:j<(deps fs (bB a p)).length
    ·obtain⟨g40,akf,c40,he,abW⟩:=HR.out.v.cell kr
     cases he
     obtain⟨s,hs⟩:∃ s,s=(deps fs (bB a p))[j]:=⟨_,rfl⟩
     rw[← hs]at abW
     have pF:s.size≤maxLen:=HA.out.m.2.1 s ((HA.out.l s).2 (x8.1 (hs ▸ zm (Zf kr))))
     have Hs:=Hd.mk hs
     clear hs
     obtain⟨l1,l2⟩:=HR.out.len
     by_cases de:s∈t'.2
     ·go_wp2_with (at_lookup;refine E6 _ rfl _ _ 200 rfl underlying9 underlying4 underlying200 (zeroValue4 _) w.heap.size t'.2 rfl HR.out.s.s s rfl pF ?_;rw[YJ de])
      go_roundw
      case rel=>exact⟨j+1,EX,t',by go_num,kr,⟨HR.out.seen kr (by rw[← Hs.out];exact de)⟩⟩
      case measure=>simp[intOf];omega
     ·have TH:Hd ((deps fs (bB a p))[j]∉t'.2):=⟨by rw[← Hs.out];exact de⟩
      go_wp2_with (first
       |(at_lookup;refine E6 _ rfl _ _ 200 rfl underlying9 underlying4 underlying200 (zeroValue4 _) w.heap.size t'.2 rfl HR.out.s.s s rfl pF ?_;rw[Zh de])
       |(at_mapUpdate;refine K8 _ rfl _ _ _ 200 rfl underlying9 underlying4 underlying200 w.heap.size t'.2 rfl HR.out.s.s (by omega) s rfl pF rfl ?_;intro w1 IZ ij;have Fi:=Hd.mk (HR.out.s.mark IZ ij);have H1:=Hd.mk (And.intro IZ ij);clear IZ ij)
       |(go_at_call 187;refine(Xc (q:=p) Fi.out hk9 (by rw[Hp.out];exact Fi.out.p.own TG.out aw)).mono ?_;rintro e w2 ⟨v1,rfl,dQ,dZ⟩;have H2:=Hd.mk (And.intro dQ dZ);clear dQ dZ)
       |(at_builtin;refine wpList_append_own _ rfl (.tmp 54) (.tmp 56) 87 rfl w1.heap.size 9 i0 (.string ⟨#[]⟩) 1 16 underlying87 eE dR jT gy rfl (by decide) v1 (k+1) _ rfl (H2.out.1.alloc _) ⟨w2.heap.size,0,none⟩ 1 1 [.string s] rfl rfl (Mq _ _ _) (aiE s) (by omega) (by omega) (by have:=H2.out.2.size;simp;omega) ?_;intro u3 w3 lW pq _;obtain⟨g5,rQ,rfl⟩:=Q8 lW (by omega);have H3:=Hd.mk (And.intro lW pq);have H4:=Hd.mk (aiz Fi.out H2.out.1 H2.out.2 pq (.cells #[.slice (some ⟨g5,0,none⟩) (k+1+1) rQ] 87));clear lW pq)
       |(at_builtin;refine wpList_append_own _ rfl (.tmp 52) (.tmp 58) 261 rfl wo.heap.size 87 i1 (.slice none 0 0) 1 24 underlying261 qx hy0 hy1 Pb rfl (by decide) u7 t'.1.length EX rfl H4.out.1 ⟨w3.heap.size,0,none⟩ 1 1 [.slice (some ⟨g5,0,none⟩) (k+1+1) rQ] rfl rfl (Mq _ _ _) (afu H3.out.1) (by omega) (by omega) H4.out.2 ?_;intro u4 w4 IQ z8 _))
      have HE:=HR.out.step kr TH.out (by rw[← Hs.out];exact H1.out.1) H1.out.2 H2.out.1 H2.out.2 (by rw[← Hs.out];exact H3.out.1) H3.out.2 IQ z8
      go_roundw
      case rel=>exact⟨j+1,_,_,by go_num,kr,⟨HE⟩⟩
      case measure=>simp[intOf];omega
    ·have HE:=Hd.mk (L3.done aw HS.out (by rw[← Hp.out];exact HR.out) (by rw[← Hp.out];omega) kv.out)
     go_wp2
     go_roundw
     case rel=>exact⟨i+1,_,_,by go_num,aw,HE⟩
     case measure=>simp[intOf];omega
  ·have Hn:Hd (∀ q∈P,a∉deps fs (bB a q)):=⟨fun q hq=>by obtain⟨j,hj,rfl⟩:=YG hq;exact HS.out.no j hj (by omega)⟩
   have ht:t=jj (deps fs) a P ([],S):=by rw[HS.out.e,Zq (by omega)]
   have HB:=Hd.mk (HI.out.next (fun n=>Ge fs n) Hn.out)
   have TD:=Hd.mk (HS.out.s.q.mono HS.out.s.l)
   subst ht
   have HE:=Hd.mk (HL.out _ _ _ _ _ TD.out HS.out.s.s HS.out.s.k HB.out)
   go_wp2
   go_roundw
   case rel=>exact HE.out.1
   case measure=>exact HE.out.2
def kM(base:Nat)(wr:World)(v:Value)(l:List af):Prop:=(l=[]∧v= .slice none 0 0)∨∃ g cap,v= .slice (some ⟨g,0,none⟩) l.length cap∧0<l.length∧l.length≤maxLen∧wr.ownsRow base 9 1 v l.length (l.map .string)
theorem kM.below{base:Nat}{w w':World}{v:Value}{l:List af}(h:kM base w v l)(hb:Below w.heap.size w w'):kM base w' v l:=by
 rcases h with h|⟨g,cap,h1,h2,h3,h4⟩
 ·exact .inl h
 ·exact .inr ⟨g,cap,h1,h2,h3,JP h4 hb⟩
theorem kM.pP{base n:Nat}{w:World}{v:Value}{l:List af}(h0:0<l.length)(h:w.ownsRow base 9 1 v n (l.map .string)):kM base w v l:=by
 have h1:=h.1
 rw[ZW,Yb]at h1
 subst h1
 obtain⟨g,cap,rfl⟩:=Q8 h h0
 refine .inr ⟨g,cap,rfl,h0,?_,h⟩
 rcases h.2 with⟨h2,_⟩|⟨g',mF,cur,h2,_,_,h3,h4,_⟩
 ·cases h2
 ·omega
theorem kM.mono{base oW:Nat}{w:World}{v:Value}{l:List af}(h:kM base w v l)(hb:oW≤base):kM oW w v l:=by
 rcases h with h|⟨g,cap,h1,h2,h3,h4⟩
 ·exact .inl h
 ·exact .inr ⟨g,cap,h1,h2,h3,Ea h4 hb⟩
theorem kM.names{base:Nat}{w:World}{v:Value}{l:List af}(h:kM base w v l):names w 9 base v l:=by
 rcases h with⟨rfl,rfl⟩|⟨g,cap,_,_,_,h⟩
 ·exact⟨none,0,rfl,by simp,by simp,fun h=>absurd h (by omega)⟩
 ·exact names.QW h
structure oS(w:World)(fs:List aq)(bA lo:Nat)(vN:Value)(L:List af)(F:af→Nat)(k:Nat)(l:List af)(wr:World)(vl:Value):Prop where
 v:kM w.heap.size wr vl l
 c:jB (deps fs) (cR fs) k l
 a:gY wr bA (w.heap.size+1) fs L F
 k:Below w.heap.size w wr
 r:qc wr lo vN (cR fs)
theorem oS.below{w:World}{fs:List aq}{bA lo:Nat}{vN:Value}{L:List af}{F:af→Nat}{k:Nat}{l:List af}{wr w':World}{vl:Value}(h:oS w fs bA lo vN L F k l wr vl)(hb:Below wr.heap.size wr w'):oS w fs bA lo vN L F k l w' vl:=
 ⟨h.v.below hb,h.c,h.a.below hb,h.k.trans (wQ hb h.k.size),h.r.to (.below hb)⟩
theorem oS.turn{w:World}{fs:List aq}{bA lo:Nat}{vN:Value}{L:List af}{F:af→Nat}{k k':Nat}{l l':List af}{wr:World}{vl lF:Value}(h:oS w fs bA lo vN L F k l wr vl)(hv:kM w.heap.size wr lF l')(hc:jB (deps fs) (cR fs) k' l'):oS w fs bA lo vN L F k' l' wr lF:=
 ⟨hv,hc,h.a,h.k,h.r⟩
theorem oS.start{w w1 w2 w4:World}{fs:List aq}{bA:Nat}{o:Obj}{vN:Value}{L:List af}{F:af→Nat}{e:TypeId}{l0:Nat}(sQ:w1=w.alloc o)(ha:gY w2 bA (w.heap.size+1) fs L F)(hb:Below (w.heap.size+1) w1 w2)(hn:names w4 e l0 vN (cR fs))(h4:Below w2.heap.size w2 w4):
  oS w fs bA w4.heap.size vN L F 0 [] w4 (.slice none 0 0):=by
 subst sQ
 have l1:=hb.size
 have uI:Below w.heap.size w w2:=B7 hb
 simp at l1
 exact⟨.inl ⟨rfl,rfl⟩,jB.start _ _,ha.below h4,uI.trans (wQ h4 (by omega)),qc.QU hn (ZX _)⟩
set_option maxHeartbeats 4000000 in
set_option maxRecDepth 1000000 in
theorem aah(c:au)(hF:wx c.features){M:Mem}{w:World}(hI:Sx.Inv prog M ⟨w,M⟩ [] w){Cc:Array Value}(hC:RL M c.cells Cc.toList):
  Calls prog 77 #[.agg Cc] w fun e W'=>∃ v,e= .returned v∧names W' 9 w.heap.size v (qm (deps c.features) (cR c.features))∧Below w.heap.size w W':=by
 have lC:Cc.size=4:=by have:=hC.1;simpa[au.cells]using this.symm
 have VD:Sx.eH prog 25=some (true,Cc.toList.length):=by rw[ZQ,lC];kernel_rfl
 clear lC
 have su:Below w.heap.size w (w.alloc (.cells Cc 25)):=((bw.refl w []).alloc _).below (ZX _) (by simp)
 have G6:=aap c hF (FT hI su) hC
 rw[show(w.alloc (.cells Cc 25)).heap.size=w.heap.size+1 by simp]at G6
 have Lk:=Hd.mk G6
 clear G6
 have HC:=Hd.mk (agm (heap_alloc_new w (.cells Cc 25)))
 have hlen:=hF.l
 have ON:maxLen=9223372036854775807:=rfl
 have aka:∀ (w:World) (a:Option Addr) (n k:Nat),(binOp .neq 87 (.slice a n k) (.slice none 0 0)).run prog w= .ok (.bool (!a.isNone)) w:=fun w a n k=>run_neq_slice_nil_any w _ _ a n k 0 0 underlying87
 have aj1:∀ (w:World) (a:Option Addr) (n k:Nat),(binOp .eql 87 (.slice a n k) (.slice none 0 0)).run prog w= .ok (.bool a.isNone) w:=fun w a n k=>Lib.run_eql_slice_nil w _ _ a n k 0 0 underlying87
 clear hI hC su
 go_enter func77,ntmps77
 go_wp2_with (first
  |(show wpList _ _ _ (⟨some 7,_,_,_,_,_⟩::_) _ _;refine ze rfl 25 (.tmp 1) rfl w.heap.size 0 rfl Cc HC.out VD ?_)
  |(go_at_call 129;refine Lk.out.mono ?_;rintro e w2 ⟨L,Fm,rfl,hA,dZ⟩;have HA:=Hd.mk (And.intro hA dZ);clear Lk HC hA dZ)
  |(go_at_call 131;refine(aeq _ _).mono ?_;rintro e w3 ⟨rfl,rfl⟩)
  |(go_at_call 130;refine(ain HA.out.1.m (ZI HA.out.1.len (by omega))).mono ?_;rintro e w4 ⟨vN,S,rfl,uE,zO,Hu,N9⟩;have HS:=Hd.mk (oS.start rfl HA.out.1 HA.out.2 (HA.out.1.names uE zO ▸ Hu) (B7 N9));have hS5:=HA.out.1.names uE zO;subst hS5;obtain⟨aN,WE,rfl⟩:=Hu.shape;clear uE zO Hu N9 HA))
 have hN9:(cR c.features).length≤274877906944:=ZI (JI _) hlen
 go_loopw [2,13] (fun vl i wr=>∃ (k:Nat) (l:List af),i= .int .i64 k∧k≤(cR c.features).length∧Hd (oS w c.features (w.heap.size+2) w4.heap.size (.slice aN (cR c.features).length WE) L Fm k l wr vl)) (fun _ i _=>(cR c.features).length-(intOf i).toNat)
 case atStart=>exact⟨0,[],rfl,ZM _,HS⟩
 clear HS
 obtain⟨k,l,rfl,hk,HS⟩:=hrel
 by_cases aw:k<(cR c.features).length
 ·obtain⟨_,_,he,_,hcell⟩:=HS.out.r
  cases he
  obtain⟨gN,akg,rfl,hgN,Oh⟩:=hcell k aw
  obtain⟨s,hs⟩:∃ s,s=(cR c.features)[k]:=⟨_,rfl⟩
  rw[← hs]at Oh
  have Ln:=Hd.mk (aih c.features hlen HS.out.a s (hs ▸ Zf aw))
  have Hs:=Hd.mk hs
  clear hs hcell
  go_wp2_with (go_at_call 132;refine Ln.out.mono ?_;rintro e w5 ⟨v5,rfl,C1,OR⟩;have kL:=Hd.mk (HS.out.below C1);have TE:Hd ((v5= .slice none 0 0∧∀ q,¬je (deps c.features) s q)∨∃ q g5 rQ,v5= .slice (some ⟨g5,0,none⟩) (q.length+1) rQ∧q.length+1≤maxLen∧oR (deps c.features) s q∧kM w.heap.size w5 v5 (s::q)):=⟨by rcases OR with h|⟨q,h1,n,h2⟩;exact .inl h;have h3:=(kM.pP (by simp) h2).mono HS.out.k.size;rcases h3 with⟨h4,_⟩|⟨g5,rQ,h5,h6,h7,h8⟩;cases h4;exact .inr ⟨q,g5,rQ,h5,h7,h1,.inr ⟨g5,rQ,h5,h6,h7,h8⟩⟩⟩;clear Ln C1 OR Oh;rcases TE.out with⟨rfl,kv⟩|⟨q,g5,rQ,rfl,hq5,hB,hq⟩<;>rcases kL.out.v with⟨rfl,rfl⟩|⟨gl,ajW,rfl,sG,sH,Iw⟩)
  all_goals have hs:=Hs.out;subst hs
  ·go_roundw
   case rel=>exact⟨k+1,_,by go_num,aw,⟨kL.out.turn kL.out.v (kL.out.c.none aw kv)⟩⟩
   case measure=>simp[intOf];omega
  ·go_roundw
   case rel=>exact⟨k+1,_,by go_num,aw,⟨kL.out.turn kL.out.v (kL.out.c.none aw kv)⟩⟩
   case measure=>simp[intOf];omega
  ·go_roundw
   case rel=>exact⟨k+1,_,by go_num,aw,⟨kL.out.turn hq (kL.out.c.take aw hB (.inl rfl))⟩⟩
   case measure=>simp[intOf];omega
  ·go_roundw
   case rel=>exact⟨k+1,_,by go_num,aw,⟨kL.out.turn hq (kL.out.c.take aw hB (.inr (by omega)))⟩⟩
   case measure=>simp[intOf];omega
  ·go_roundw
   case rel=>exact⟨k+1,_,by go_num,aw,⟨kL.out.turn kL.out.v (kL.out.c.skip aw hB (by intro e;rw[e]at sG;simp at sG) (by omega))⟩⟩
   case measure=>simp[intOf];omega
 ·have ie:Hd (l=qm (deps c.features) (cR c.features)):=⟨by have h:=HS.out.c;rw[show k=(cR c.features).length by omega]at h;exact h.done (QH _)⟩
  go_wp2
  go_ret
  exact⟨_,rfl,ie.out ▸ HS.out.v.names,HS.out.k⟩
end Go.Proofs.YthdeaajdmdmfnaaGreatDoor
namespace Go.Proofs.YthdeaajdmdmfnaaGreatDoor
open _root_.Go.Proofs.Tryz
open Go.RowKit Go.Proofs Go.Tb Go.Maps
open Go.Sx (AV Mem RL R M0 Glob Store BlkOK Base Inv)
def mn(M:Mem)(n:Nat)(w':World):Mem:=fun b o=>if n≤b then w'.cell? ⟨b,o,none⟩else M b o
theorem JF{M:Mem}{w0:Base}{w w':World}{σ:Store}(hI:Inv prog M w0 σ w):M.le (mn M w.heap.size w'):=fun b o v h=>by
 have:=World.block_lt_of_cell? _ _ (hI.bL b o v h)
 unfold mn
 rw[Z7 (by simp at this;omega)];exact h
theorem Py{M:Mem}{w0:Base}{w w':World}{σ:Store}(hI:Inv prog M w0 σ w)(hb:Below w.heap.size w w'):Inv prog (mn M w.heap.size w') w0 σ w':=by
 have h1:=hI.after hb
 have hle:=JF (w':=w') hI
 refine⟨h1.os,h1.tape,h1.output,h1.size,h1.old,fun b o v h=> ?_,fun e he=> ?_,h1.nd,fun g l hl=>(h1.gl g l hl).mono hle,h1.gw,fun b o v hv aw=>h1.bm b o v (by unfold mn at hv;rwa [Z7 (by have:=hI.size;omega)]at hv) aw⟩
 ·unfold mn at h
  split at h
  ·exact h
  ·exact h1.bL b o v h
 ·obtain⟨g1,g2⟩:=h1.st e he
  refine⟨g1,?_⟩
  obtain⟨_,g3⟩:=hI.st e he
  have aw:e.2.1<w.heap.size:=by
   cases hx:e.2.2 with
   |cells l=>rw[hx]at g3;obtain⟨_,cs,t,a2,_⟩:=g3;exact(Z6.1 a2).1
   |tail u c=>rw[hx]at g3;obtain⟨_,cs,t,a2,_⟩:=g3;exact(Z6.1 a2).1
   |map es k=>rw[hx]at g3;obtain⟨_,l,a2,_⟩:=g3;exact(Z6.1 a2).1
  have hN:∀ o,mn M w.heap.size w' e.2.1 o=M e.2.1 o:=fun o=>by unfold mn;rw[Z7 (by omega)]
  cases hx:e.2.2 with
  |cells l=>rw[hx]at g2;obtain⟨a1,cs,t,a2,a3⟩:=g2;exact⟨fun o=>(hN o).trans (a1 o),cs,t,a2,a3.mono hle⟩
  |tail u c=>rw[hx]at g2;obtain⟨a1,cs,t,a2,a3⟩:=g2;exact⟨fun o ho=>(hN o).trans (a1 o ho),cs,t,a2,a3⟩
  |map es k=>rw[hx]at g2;obtain⟨a1,l,a2,a3,a4⟩:=g2;exact⟨fun o=>(hN o).trans (a1 o),l,a2,a3,a4.mono hle⟩
theorem xW{M:Mem}{w0:Base}{w:World}{σ:Store}(hI:Inv prog M w0 σ w):Inv prog M ⟨w,M⟩ [] w:=
 ⟨rfl,rfl,rfl,ZX _,fun _ _=>rfl,hI.bL,fun e he=>(by cases he),List.nodup_nil,hI.gl,GW.az hI.gw hI.size fun k cs t f h=>hI.old k (Z6.1 h).1,fun _ _ _ h _=>h⟩
theorem QI{M:Mem}{w':World}{n lo:Nat}{e:TypeId}{v:Value}{L:List af}(h:names w' e lo v L)(hl:n≤lo):R (mn M n w') (.sl false 1 (L.map iZ)) v:=by
 obtain⟨a,cap,rfl,h1,h2,h3⟩:=h
 by_cases hc:cap=0
 ·subst hc
  have:L=[]:=Zt (by omega)
  subst this
  exact .nil false 1 a (by simp)
 ·obtain⟨g,off,cur,rfl,g2,g3,g4,g5⟩:=h3 (by omega)
  have:=R.sl (M:=mn M n w') false 1 (L.map iZ) g off cap (fun k=> .string (L.getD k ⟨#[]⟩)) (fun i hi=>by rw[Zu];rfl) (fun k hk=> ?_) (fun i hi j hj=> ?_) (by rw[ZW];exact h1) h2
  ·rw[ZW]at this;exact this
  ·have hk:k<L.length:=by simpa using hk
   unfold mn
   rw[ZV (by omega),qi g3,g5 k hk,Z3,Z1 hk];rfl
  ·have hi:i<L.length:=by simpa using hi
   simp only[Zu,iZ,ZS,ZA]at hj ⊢
   obtain rfl:j=0:=by omega
   rw[Z3,Yb,Ym,Z1 hi]
   exact .v _
theorem Pure.new{f:FuncId}{xs:List AV}{r:AV}(h:∀ (M:Mem) (w:World) (cs:List Value),Inv prog M ⟨w,M⟩ [] w→RL M xs cs→Calls prog f cs.toArray w fun e w'=>(∃ v,e= .returned v∧R (mn M w.heap.size w') r v)∧Below w.heap.size w w'):Sx.Pure prog f xs r:=
 ⟨fun σ M w0 w cs hI hR=>(h M w cs (xW hI) hR).mono fun e w' ⟨⟨v,he,hv⟩,hb⟩=>⟨mn M w.heap.size w',.ret r,σ,JF hI,Py hI hb,by subst he;exact hv,rfl,rfl⟩⟩
theorem RL.VE{M:Mem}{l:List AV}{cs:List Value}(h:RL M [.agg l] cs):∃ C:Array Value,cs.toArray= #[.agg C]∧RL M l C.toList:=by
 obtain⟨v,rfl,h1⟩:=Sx.RL.cJ h
 obtain⟨bO,rfl,h2⟩:=h1.oG
 exact⟨bO.toArray,rfl,by simpa using h2⟩
abbrev EG(l:List af):AV:= .sl false 1 (l.map iZ)
theorem aag(c:au)(hF:wx c.features):Sx.Pure prog 77 [.agg c.cells] (EG (qm (deps c.features) (cR c.features))):=Pure.new fun M w cs hI hR=>by
 obtain⟨C,e,hC⟩:=RL.VE hR
 rw[e]
 exact(aah c hF hI hC).mono fun e w' ⟨v,h1,h2,h3⟩=>⟨⟨v,h1,QI h2 (ZX _)⟩,h3⟩
end Go.Proofs.YthdeaajdmdmfnaaGreatDoor
