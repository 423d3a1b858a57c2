import Derived.Test.YtmemninechdogaaGreatDoorCk
set_option linter.all false
namespace Go.Proofs.YtmemninechdogaaGreatDoor
open _root_.Go.Proofs.Tryz
open Go.RowKit Go.Proofs Go.Tb Go.Maps
open Go.Sx (AV Mem RL R M0 Glob)
structure eG(base:Nat)(a:ae)(n:Nat)(P:List (List ae))(bo:List Value)(v:Value)(wr:World):Prop where
 r:wr.ownsRow base 85 1 v P.length bo
 l:bo.length=P.length
 p:∀(i:Nat) (h1:i<bo.length) (h2:i<P.length),wr.ownsRow base 9 1 bo[i] n ((a::P[i]).map .string)
theorem Bn{w:World}{base:Nat}{e:TypeId}{v:Value}{n:Nat}{xs:List Value}(h:w.ownsRow base e 1 v n xs){k:Nat}(hk:v.ownBlock=some k):∃cur,w.heap[k]? =some (.cells cur e (0,0)):=by
 rcases h.2 with⟨rfl,_⟩|⟨g,cap,cur,rfl,hb,hg,_⟩
 .simp[Value.ownBlock]at hk
 .simp[Value.ownBlock]at hk;grind
theorem Kk{w w':World}{base:Nat}{e:TypeId}{v:Value}{n:Nat}{xs:List Value}(h:w.ownsRow base e 1 v n xs)(hb:Below w.heap.size w w'):w'.ownsRow base e 1 v n xs:=by
 refine⟨h.1,?_⟩;rcases h.2 with hn|⟨g,cap,cur,rfl,Ag,vH,rest⟩
 .grind
 .exact .inr ⟨g,cap,cur,rfl,Ag,by rw[hb.block g (ZW.1 vH).1];grind,rest⟩
theorem eG.below{base:Nat}{a:ae}{n:Nat}{P:List (List ae)}{bo:List Value}{v:Value}{w w':World}(h:eG base a n P bo v w)(hb:Below w.heap.size w w'):eG base a n P bo v w':=
 ⟨Kk h.r hb,h.l,fun i h1 h2=>Kk (h.p i h1 h2) hb⟩
theorem EI{w:World}{base:Nat}{e:TypeId}{v:Value}{n:Nat}{xs:List Value}(h:w.ownsRow base e 1 v n xs){b:Nat}(hb:∀cur,w.heap[b]?≠some (.cells cur e (0,0))):v.ownBlock≠some b:=fun e'=>by obtain⟨cur,hc⟩:=Bn h e';grind
theorem eG.map{base:Nat}{a:ae}{n:Nat}{P:List (List ae)}{bo:List Value}{v:Value}{w w':World}{b:Nat}(h:eG base a n P bo v w)(hb:∃es c,w.heap[b]? =some (.map es c))(hg:w.grownBy w' (some b)):eG base a n P bo v w':=
 ⟨h.r.kept hg (.inr (EI h.r fun cur=>Bh hb cur _ _)),h.l,fun i h1 h2=>(h.p i h1 h2).kept hg (.inr (EI (h.p i h1 h2) fun cur=>Bh hb cur _ _))⟩
theorem eG.other{base:Nat}{a:ae}{n:Nat}{P:List (List ae)}{bo:List Value}{v v':Value}{w w':World}{xs:List Value}{k pK:Nat}(h:eG base a n P bo v w)(h':w.ownsRow pK 85 1 v' k xs)(aW:∀g,v'.ownBlock=some g->v.ownBlock≠some g)(hg:w.grownBy w' v'.ownBlock):eG base a n P bo v w':=by
 refine⟨h.r.kept hg ?_,h.l,fun i h1 h2=>(h.p i h1 h2).kept hg ?_⟩
 .cases hb:v'.ownBlock with
  |none=>grind|some g=>grind
 .cases hb:v'.ownBlock with
  |none=>grind|some g=>obtain⟨cur,hc⟩:=Bn h' hb;refine .inr (EI (h.p i h1 h2) fun G2 e=>?_);grind
theorem eG.push{base:Nat}{a:ae}{n:Nat}{P:List (List ae)}{bo:List Value}{v v' u:Value}{q:List ae}{w w':World}(h:eG base a n P bo v w)(hu:w.ownsRow base 9 1 u n ((a::q).map .string))(hg:w.grownBy w' v.ownBlock)(hr:w'.ownsRow base 85 1 v' (P.length+1) (bo++[u])):eG base a n (P++[q]) (bo++[u]) v' w':=by
 have key:∀{x:Value} {n:Nat} {xs:List Value},w.ownsRow base 9 1 x n xs->w'.ownsRow base 9 1 x n xs:=fun {x n xs} hx=>by
  refine hx.kept hg ?_;cases hb:v.ownBlock with
  |none=>grind|some g=>obtain⟨cur,hc⟩:=Bn h.r hb;refine .inr (EI hx fun G2 e=>?_);grind
 refine⟨by grind,by simp[h.l],fun i h1 h2=>?_⟩;have hl:=h.l;by_cases hi:i<P.length
 .rw[YI hi,YI (by omega)];exact key (h.p i (by omega) hi)
 grind
theorem eG.nil(base:Nat)(a:ae)(n:Nat)(w:World):eG base a n [] [] (.slice none 0 0) w:=⟨World.ownsRow_nil _ _ _ _,rfl,fun i h=>absurd h (by simp)⟩
theorem Rm:∀(a:ae) (q:List ae),(a::q)[q.length]? =some (br a q)
 |a,[]=>rfl|a,b::l=>by have:=Rm b l;rw[br,<-this];rfl
theorem eG.at{base:Nat}{a:ae}{n:Nat}{P:List (List ae)}{bo:List Value}{v:Value}{w:World}(h:eG base a (n+1) P bo v w){i:Nat}(hi:i<P.length)(hn:P[i].length=n):
  ∃g cap g2 pN,v= .slice (some ⟨g,0,none⟩) P.length cap/\w.cell? ⟨g,i,none⟩=some (.slice (some ⟨g2,0,none⟩) (n+1) pN)/\w.cell? ⟨g2,n,none⟩=some (.string (br a P[i]))/\w.ownsRow base 9 1 (.slice (some ⟨g2,0,none⟩) (n+1) pN) (n+1) ((a::P[i]).map .string)/\bo[i]? =some (.slice (some ⟨g2,0,none⟩) (n+1) pN):=by
 have hl:=h.l;obtain⟨cur,IM⟩:∃g,v.ownBlock=some g:=by
  rcases h.r.2 with⟨rfl,hz⟩|⟨g,cap,cur,rfl,_⟩
  .omega
  .exact⟨g,rfl⟩
 have hc:=h.r.cells IM i bo[i] (ZX (by omega));have hp:=h.p i (by omega) hi;rcases h.r.2 with⟨rfl,hz⟩|⟨g,cap,G2,rfl,_⟩
 .omega
 simp only[Value.ownBlock,ZV]at IM;rw[Addr.add_lit,ZH]at hc;rcases hp.2 with⟨h1,h2⟩|⟨g2,pN,amL,h1,_⟩
 .omega
 have bO:=hp.cells (g:=g2) (by rw[h1];rfl) n (.string (br a P[i])) (by
  have:=Rm a P[i]
  grind)
 rw[Addr.add_lit,ZH]at bO;grind
theorem eG.own{base:Nat}{a:ae}{n:Nat}{P:List (List ae)}{bo:List Value}{v u:Value}{w:World}(h:eG base a n P bo v w){i:Nat}(hu:bo[i]? =some u)(hi:i<P.length):w.ownsRow base 9 1 u n ((a::P[i]).map .string):=by obtain⟨h1,rfl⟩:=ZG.1 hu;exact h.p i h1 hi
theorem EH{w:World}{base pK:Nat}{e:TypeId}{v:Value}{n:Nat}{xs:List Value}(h:w.ownsRow base e 1 v n xs)(hb:pK<=base):w.ownsRow pK e 1 v n xs:=by
 refine⟨h.1,?_⟩;rcases h.2 with hn|⟨g,cap,cur,rfl,Ag,rest⟩
 .grind
 .exact .inr ⟨g,cap,cur,rfl,ZD hb Ag,rest⟩
theorem eG.mono{base pK:Nat}{a:ae}{n:Nat}{P:List (List ae)}{bo:List Value}{v:Value}{w:World}(h:eG base a n P bo v w)(hb:pK<=base):eG pK a n P bo v w:=⟨EH h.r hb,h.l,fun i h1 h2=>EH (h.p i h1 h2) hb⟩
structure jo(w:World)(a:ae)(bs lv n:Nat)(P:List (List ae))(bo:List Value)(vp:Value)(Q:List (List ae))(cS:List Value)(S:List ae)(wr:World)(vl:Value):Prop where
 p:eG w.heap.size a (n+1) P bo vp wr
 q:eG lv a (n+2) Q cS vl wr
 s:cz wr bs S
 k:Below w.heap.size w wr
 d:∀g,vp.ownBlock=some g->g<lv
 b:w.heap.size<=bs
 l:w.heap.size<=lv
 z:lv<=wr.heap.size
theorem jo.below{w:World}{a:ae}{bs lv n:Nat}{P:List (List ae)}{bo:List Value}{vp:Value}{Q:List (List ae)}{cS:List Value}{S:List ae}{wr w':World}{vl:Value}(h:jo w a bs lv n P bo vp Q cS S wr vl)(hb:Below wr.heap.size wr w'):jo w a bs lv n P bo vp Q cS S w' vl:=
 ⟨h.p.below hb,h.q.below hb,KV h.s hb,h.k.trans (xe hb h.k.size),h.d,h.b,h.l,ZD h.z hb.size⟩
theorem jo.mark{w:World}{a:ae}{bs lv n:Nat}{P:List (List ae)}{bo:List Value}{vp:Value}{Q:List (List ae)}{cS:List Value}{S S':List ae}{wr w':World}{vl:Value}(h:jo w a bs lv n P bo vp Q cS S wr vl)(hs:cz w' bs S')(hg:wr.grownBy w' (some bs)):jo w a bs lv n P bo vp Q cS S' w' vl:=by have hb:=h.b;exact⟨h.p.map h.s.isMap hg,h.q.map h.s.isMap hg,hs,h.k.trans ((bz.lu hg).below h.k.size (by grind)),h.d,h.b,h.l,ZD h.z hg.size⟩
theorem jo.push{w:World}{a:ae}{bs lv n:Nat}{P:List (List ae)}{bo:List Value}{vp:Value}{Q:List (List ae)}{cS:List Value}{S:List ae}{wr w':World}{vl mq u:Value}{q:List ae}(h:jo w a bs lv n P bo vp Q cS S wr vl)(hu:wr.ownsRow lv 9 1 u (n+2) ((a::q).map .string))(hg:wr.grownBy w' vl.ownBlock)(hr:w'.ownsRow lv 85 1 mq (Q.length+1) (cS++[u])):
  jo w a bs lv n P bo vp (Q++[q]) (cS++[u]) S w' mq:=by
 refine⟨h.p.other h.q.r (fun g hg e=>by have:=(h.q.r.lt g hg).1;have:=h.d g e;omega) hg,h.q.push hu hg hr,?_,?_,h.d,h.b,h.l,ZD h.z hg.size⟩
 .refine dt.kept h.s hg ?_;cases hb:vl.ownBlock with
  |none=>simp|some g=>obtain⟨cur,hc⟩:=Bn h.q.r hb;simp;rintro rfl;exact Bh h.s.isMap _ _ _ hc
 .cases hb:vl.ownBlock with
  |none=>rw[hb]at hg;exact h.k.trans ((bz.EB hg []).below h.k.size (by simp))|some g=>rw[hb]at hg;have:=(h.q.r.lt g hb).1;have:=h.l;exact h.k.trans ((bz.lu hg).below h.k.size (by grind))
theorem jo.level{w:World}{a:ae}{bs n:Nat}{P:List (List ae)}{bo:List Value}{vp:Value}{S:List ae}{wr:World}(h1:eG w.heap.size a (n+1) P bo vp wr)(h2:cz wr bs S)(h3:Below w.heap.size w wr)(hb:w.heap.size<=bs):jo w a bs wr.heap.size n P bo vp [] [] S wr (.slice none 0 0):=
 ⟨h1,eG.nil _ _ _ _,h2,h3,fun g hg=>(h1.r.lt g hg).2,hb,h3.size,ZO _⟩
theorem eG.first(w:World)(a:ae):eG w.heap.size a (0+1) [[]] [.slice (some ⟨w.heap.size+1,0,none⟩) 1 1] (.slice (some ⟨w.heap.size+2,0,none⟩) 1 1) (((w.alloc (.map #[] 0)).alloc (.cells #[.string a] 9)).alloc (.cells #[.slice (some ⟨w.heap.size+1,0,none⟩) 1 1] 85))/\
  cz (((w.alloc (.map #[] 0)).alloc (.cells #[.string a] 9)).alloc (.cells #[.slice (some ⟨w.heap.size+1,0,none⟩) 1 1] 85)) w.heap.size []/\
  Below w.heap.size w (((w.alloc (.map #[] 0)).alloc (.cells #[.string a] 9)).alloc (.cells #[.slice (some ⟨w.heap.size+1,0,none⟩) 1 1] 85)):=by
 have e1:=heap_alloc_new (w.alloc (.map #[] 0)) (.cells #[.string a] 9);rw[show(w.alloc (.map #[] 0)).heap.size=w.heap.size+1 by simp]at e1;have e2:=heap_alloc_new ((w.alloc (.map #[] 0)).alloc (.cells #[.string a] 9)) (.cells #[.slice (some ⟨w.heap.size+1,0,none⟩) 1 1] 85);rw[show((w.alloc (.map #[] 0)).alloc (.cells #[.string a] 9)).heap.size=w.heap.size+2 by simp]at e2;have e1':=(heap_alloc_old ((w.alloc (.map #[] 0)).alloc (.cells #[.string a] 9)) (.cells #[.slice (some ⟨w.heap.size+1,0,none⟩) 1 1] 85) (ZW.1 e1).1).trans e1;refine⟨⟨⟨rfl,.inr ⟨w.heap.size+2,1,_,rfl,by omega,e2,by simp,by decide,by simp,by simp⟩⟩,rfl,fun i h1 h2=>?_⟩,((E7 w _ _ _).alloc _).alloc _,((((bz.refl w []).alloc _).alloc _).alloc _).below (ZO _) (by simp)⟩;obtain rfl:i=0:=by grind
 exact⟨rfl,.inr ⟨w.heap.size+1,1,_,rfl,by omega,e1',by simp,by decide,by simp,by simp⟩⟩
theorem ah2{w w':World}{e:TypeId}{lo:Nat}{v:Value}{L:List ae}(h:names w e lo v L)(hk:∀(g:Nat) (cur:Array Value),w.heap[g]? =some (Obj.cells cur e (0,0))->w'.heap[g]? =w.heap[g]?):names w' e lo v L:=by obtain⟨a,cap,rfl,h1,h2,h3⟩:=h;exact⟨a,cap,rfl,h1,h2,fun hc=>by obtain⟨g,off,cur,g1,g2,g3,g4⟩:=h3 hc;exact⟨g,off,cur,g1,g2,(hk g _ g3).trans g3,g4⟩⟩
theorem ah3{w w':World}{lo base n:Nat}{v vl:Value}{L:List ae}{xs:List Value}(h:names w 9 lo v L)(hq:w.ownsRow base 85 1 vl n xs)(hg:w.grownBy w' vl.ownBlock):names w' 9 lo v L:=by refine ah2 h fun g cur hc=>hg.block g (ZW.1 hc).1 fun e=>?_;obtain⟨G2,gG⟩:=Bn hq e.symm;grind
theorem EM{fs:List aj}:∀{a:ae} {q:List ae},a∈bX fs->dw (deps fs) a q->br a q∈bX fs
 |_,[],h,_=>h|a,b::l,_,h=>EM (a:=b) (q:=l) (xo h.1) h.2
theorem jn.TJ{fs:List aj}{a:ae}{k:Nat}{P:List (List ae)}{S:List ae}(ha:a∈bX fs)(h:jn (deps fs) a k P S):S.length<=(bX fs).length:=jh h.d fun x hx=>by obtain⟨q,h1,h2,_⟩:=h.r x hx;rw[<-h2];exact EM ha h1
theorem aa9{w W:World}{a:ae}{bs lv n:Nat}{P:List (List ae)}{bo:List Value}{vp:Value}{Q:List (List ae)}{cS:List Value}{S:List ae}{vl:Value}{g2 pN:Nat}{q:List ae}(h:jo w a bs lv n P bo vp Q cS S W vl)(hn:n<=274877906944)
  (hq:W.ownsRow w.heap.size 9 1 (.slice (some ⟨g2,0,none⟩) (n+1) pN) (n+1) ((a::q).map .string)):Calls prog 194 #[.slice (some ⟨g2,0,none⟩) (n+1) pN] W fun e W'=>∃v,e= .returned v/\W'.ownsRow W.heap.size 9 1 v (n+1) ((a::q).map .string)/\Below W.heap.size W W':=by
 have hl:=hq.1;rw[Z5,Yt]at hl;refine(Tryz.slices_Clone_string g2 0 (n+1) pN (a::q) W (by omega) (by omega) (fun j hj=>?_)).mono fun e W' ⟨v,h1,h2,_,h4⟩=>⟨v,h1,?_,h4⟩
 .have:=hq.cells (g:=g2) rfl j (.string ((a::q).getD j ByteArray.empty)) (by grind);rw[Addr.add_lit]at this;grind
 grind
structure L2(fs:List aj)(w:World)(a:ae)(bs lv k:Nat)(P:List (List ae))(bo:List Value)(vp:Value)(S:List ae)(i:Nat)(cS:List Value)(t:List (List ae)×List ae)(wr:World)(vl:Value):Prop where
 s:jo w a bs lv k P bo vp t.1 cS t.2 wr vl
 e:t=ju (deps fs) a (P.take i) ([],S)
 b:t.1.length<=t.2.length
 n:∀x∈t.2,x∈bX fs
 no:∀j (hj:j<P.length),j<i->a∉deps fs (br a P[j])
structure L3(fs:List aj)(w:World)(a:ae)(bs lv k:Nat)(P:List (List ae))(bo:List Value)(vp:Value)(p:List ae)(t0:List (List ae)×List ae)(v40:Value)(j:Nat)(cS:List Value)(t:List (List ae)×List ae)(wr:World)(vl:Value):Prop where
 s:jo w a bs lv k P bo vp t.1 cS t.2 wr vl
 e:t=ext1 p ((deps fs (br a p)).take j) t0
 b:t.1.length<=t.2.length
 n:∀x∈t.2,x∈bX fs
 v:names wr 9 0 v40 (deps fs (br a p))
theorem L3.seen{fs:List aj}{w:World}{a:ae}{bs lv k:Nat}{P:List (List ae)}{bo:List Value}{vp:Value}{p:List ae}{t0:List (List ae)×List ae}{v40:Value}{j:Nat}{cS:List Value}{t:List (List ae)×List ae}{wr:World}{vl:Value}(h:L3 fs w a bs lv k P bo vp p t0 v40 j cS t wr vl)(hj:j<(deps fs (br a p)).length)(dy:(deps fs (br a p))[j]∈t.2):L3 fs w a bs lv k P bo vp p t0 v40 (j+1) cS t wr vl:=by refine⟨h.s,?_,h.b,h.n,h.v⟩;rw[ZU hj,Hl,<-h.e,Z3 dy]
theorem L3.len{fs:List aj}{w:World}{a:ae}{bs lv k:Nat}{P:List (List ae)}{bo:List Value}{vp:Value}{p:List ae}{t0:List (List ae)×List ae}{v40:Value}{j:Nat}{cS:List Value}{t:List (List ae)×List ae}{wr:World}{vl:Value}(h:L3 fs w a bs lv k P bo vp p t0 v40 j cS t wr vl):t.1.length<=(bX fs).length/\t.2.length<=(bX fs).length:=by have h1:=jh h.s.s.1 h.n;have h2:=h.b;omega
theorem L3.push{fs:List aj}{w:World}{a:ae}{bs lv k:Nat}{P:List (List ae)}{bo:List Value}{vp:Value}{p:List ae}{t0:List (List ae)×List ae}{v40:Value}{j:Nat}{cS:List Value}{t:List (List ae)×List ae}{wr w1 w4:World}{vl mq u:Value}(h:L3 fs w a bs lv k P bo vp p t0 v40 j cS t wr vl)(hj:j<(deps fs (br a p)).length)(dy:(deps fs (br a p))[j]∉t.2)
  (hs:jo w a bs lv k P bo vp t.1 cS (ins t.2 (deps fs (br a p))[j]) w1 vl) (hv:names w1 9 0 v40 (deps fs (br a p))) (hu:w1.ownsRow lv 9 1 u (k+2) ((a::(p++[(deps fs (br a p))[j]])).map .string)) (hg:w1.grownBy w4 vl.ownBlock) (hr:w4.ownsRow lv 85 1 mq (t.1.length+1) (cS++[u])):
  L3 fs w a bs lv k P bo vp p t0 v40 (j+1) (cS++[u]) (t.1++[p++[(deps fs (br a p))[j]]],t.2++[(deps fs (br a p))[j]]) w4 mq:=by
 have e:ins t.2 (deps fs (br a p))[j]=t.2++[(deps fs (br a p))[j]]:=by unfold ins;grind
 rw[e]at hs;refine⟨hs.push hu hg hr,?_,?_,fun x hx=>?_,ah3 hv hs.q.r hg⟩
 .rw[ZU hj,Hl,<-h.e,Z9 dy]
 .have:=h.b;grind
 .rcases ZI.1 hx with hx|hx
  .exact h.n x hx
  .rw[Zd]at hx;subst hx;exact xo (Zb hj)
theorem L3.done{fs:List aj}{w:World}{a:ae}{bs lv k:Nat}{P:List (List ae)}{bo:List Value}{vp:Value}{S:List ae}{i:Nat}{al0:List Value}{t0:List (List ae)×List ae}{wr0:World}{vl0:Value}{v40:Value}{j:Nat}{cS:List Value}{t:List (List ae)×List ae}{wr:World}{vl:Value}(hi:i<P.length)(h0:L2 fs w a bs lv k P bo vp S i al0 t0 wr0 vl0)
  (h:L3 fs w a bs lv k P bo vp P[i] t0 v40 j cS t wr vl) (hj:(deps fs (br a P[i])).length<=j) (kO:a∉deps fs (br a P[i])):L2 fs w a bs lv k P bo vp S (i+1) cS t wr vl:=by
 refine⟨h.s,?_,h.b,h.n,fun x hx ye=>?_⟩
 .rw[h.e,ZM hj,ZU hi,Hm,<-h0.e]
 .rcases X3 (XM ye)with h1|rfl
  .exact h0.no x hx h1
  grind
theorem aiz{w:World}{base:Nat}{e:TypeId}{v:Value}{n:Nat}{xs:List Value}(h:w.ownsRow base e 1 v n xs):∀u∈[v],u.oneCell'=true:=fun u hu=>by rw[Zd]at hu;subst hu;rcases h.2 with⟨rfl,_⟩|⟨g,cap,cur,rfl,_⟩<;>rfl
theorem Sh{w:World}{base:Nat}{e:TypeId}{v:Value}{n:Nat}{xs:List Value}(h:w.ownsRow base e 1 v n xs)(hn:0<n):∃g cap,v= .slice (some ⟨g,0,none⟩) n cap:=by
 rcases h.2 with⟨_,h1⟩|⟨g,cap,cur,h1,_⟩
 .omega
 grind
theorem alk(s:ae):∀u∈[Value.string s],u.oneCell'=true:=fun u hu=>by rw[Zd]at hu;subst hu;rfl
theorem MU(w:World)(v:Value)(t:TypeId):∀j u,[v][j]? =some u->(w.alloc (.cells #[v] t)).cell? ((⟨w.heap.size,0,none⟩:Addr).add j)=some u:=fun j u hj=>by
 match j,hj with
 |0,hj=>simp at hj;subst hj;rw[Addr.add_lit,pO (heap_alloc_new _ _)];rfl
theorem OA{w w':World}{base:Nat}{e:TypeId}{v:Value}{n:Nat}{xs:List Value}(h:w.ownsRow base e 1 v n xs)(hg:w.grownBy w' v.ownBlock)(hb:base<=w.heap.size):Below base w w':=
 ⟨hg.os,hg.tape,hg.output,hg.size,fun k hk=>hg.block k (by omega) fun e'=>by have:=(h.lt k e'.symm).1;omega⟩
theorem L2.start{fs:List aj}{w:World}{a:ae}{k:Nat}{P:List (List ae)}{bo:List Value}{vp:Value}{S:List ae}{wr:World}(ha:a∈bX fs)(h1:eG w.heap.size a (k+1) P bo vp wr)(h2:cz wr w.heap.size S)(h3:Below w.heap.size w wr)(h4:jn (deps fs) a k P S):L2 fs w a w.heap.size wr.heap.size k P bo vp S 0 [] ([],S) wr (.slice none 0 0):=
 ⟨jo.level h1 h2 h3 (ZO _),rfl,Z4 _,fun x hx=>by obtain⟨q,h5,h6,_⟩:=h4.r x hx;rw[<-h6];exact EM ha h5,fun j _ h=>absurd h (by omega)⟩
theorem L3.start{fs:List aj}{w:World}{a:ae}{bs lv k:Nat}{P:List (List ae)}{bo:List Value}{vp:Value}{S:List ae}{i:Nat}{cS:List Value}{t:List (List ae)×List ae}{wr w5:World}{vl:Value}{p:List ae}{v40:Value}{l0:Nat}(h:L2 fs w a bs lv k P bo vp S i cS t wr vl)(hb:Below wr.heap.size wr w5)(hv:names w5 9 l0 v40 (deps fs (br a p))):
  L3 fs w a bs lv k P bo vp p t v40 0 cS t w5 vl:=⟨h.s.below hb,rfl,h.b,h.n,hv.mono (Z4 _)⟩
theorem ale{w:World}{a:ae}{bs lv n:Nat}{P:List (List ae)}{bo:List Value}{vp:Value}{Q:List (List ae)}{cS:List Value}{S:List ae}{w1 w2 w3:World}{vl v1:Value}{m:Nat}{xs:List Value}(s1:jo w a bs lv n P bo vp Q cS S w1 vl)(bC:w2.ownsRow w1.heap.size 9 1 v1 m xs)(dC:Below w1.heap.size w1 w2){o1:Obj}(hg3:(w2.alloc o1).grownBy w3 v1.ownBlock)(o2:Obj):
  (w3.alloc o2).ownsRow lv 85 1 vl Q.length cS/\lv<=(w3.alloc o2).heap.size:=by
 have l2:=dC.size;have b3:Below w1.heap.size w2 (w2.alloc o1):=⟨rfl,rfl,rfl,by simp,fun k hk=>heap_alloc_old w2 o1 (by omega)⟩
 have b4:=OA (bC.alloc o1) hg3 (by simp;omega);have l4:=b4.size;have b5:Below w1.heap.size w3 (w3.alloc o2):=⟨rfl,rfl,rfl,by simp,fun k hk=>heap_alloc_old w3 o2 (by simp at l4;omega)⟩
 have s5:=s1.below (((dC.trans b3).trans b4).trans b5);exact⟨s5.q.r,s5.z⟩
theorem L3.step{fs:List aj}{w:World}{a:ae}{bs lv k:Nat}{P:List (List ae)}{bo:List Value}{vp:Value}{p:List ae}{t0:List (List ae)×List ae}{v40:Value}{j:Nat}{cS:List Value}{t:List (List ae)×List ae}{wr w1 w2 w3 w4:World}{vl mq v1 u:Value}(h:L3 fs w a bs lv k P bo vp p t0 v40 j cS t wr vl)(hj:j<(deps fs (br a p)).length)(dy:(deps fs (br a p))[j]∉t.2){o1 o2:Obj}
  (hs:cz w1 bs (ins t.2 (deps fs (br a p))[j])) (iO:wr.grownBy w1 (some bs)) (bC:w2.ownsRow w1.heap.size 9 1 v1 (k+1) ((a::p).map .string)) (dC:Below w1.heap.size w1 w2)
  (kQ:w3.ownsRow w1.heap.size 9 1 u (k+1+1) ((a::p).map .string++[.string (deps fs (br a p))[j]])) (hg3:(w2.alloc o1).grownBy w3 v1.ownBlock)
  (Jo:w4.ownsRow lv 85 1 mq (t.1.length+1) (cS++[u])) (An:(w3.alloc o2).grownBy w4 vl.ownBlock):
  L3 fs w a bs lv k P bo vp p t0 v40 (j+1) (cS++[u]) (t.1++[p++[(deps fs (br a p))[j]]],t.2++[(deps fs (br a p))[j]]) w4 mq:=by
 have s1:=h.s.mark hs iO;have n1:=h.v.grown iO (Bh h.s.s.isMap);have l2:=dC.size;have b3:Below w1.heap.size w2 (w2.alloc o1):=⟨rfl,rfl,rfl,by simp,fun k hk=>heap_alloc_old w2 o1 (by omega)⟩
 have b4:=OA (bC.alloc o1) hg3 (by simp;omega);have l4:=b4.size;have b5:Below w1.heap.size w3 (w3.alloc o2):=⟨rfl,rfl,rfl,by simp,fun k hk=>heap_alloc_old w3 o2 (by simp at l4;omega)⟩
 have bb:=((dC.trans b3).trans b4).trans b5;refine h.push hj dy (s1.below bb) (RE n1 bb) ?_ An Jo;have:=EH (kQ.alloc o2) s1.z;grind
theorem aiL:(prog.info? 85).map (fun i=>(i.zero,i.size,i.bytes))=some (some (.slice none 0 0),1,24):=by kernel_rfl
set_option maxHeartbeats 4000000 in
set_option maxRecDepth 1000000 in
theorem akW(fs:List aj)(hlen:fs.length<=274877906944){w:World}{bA lo:Nat}{L:List ae}{Fm:ae->Nat}(hA:iG w bA lo fs L Fm)(a:ae)(ha:a∈bX fs):
  Calls prog 139 #[.map (some bA),.string a] w fun e W'=>∃v,e= .returned v/\Below w.heap.size w W'/\((v= .slice none 0 0/\∀q,¬fG (deps fs) a q)\/∃q,np (deps fs) a q/\∃n,W'.ownsRow w.heap.size 9 1 v n ((a::q).map .string)):=by
 have hN:=Be fs;have Pw:=@run_makeMap prog;have Pz:maxLen=9223372036854775807:=rfl;have O2:a∈L:=(hA.l a).2 (yl.1 ha);have has:a.size<=maxLen:=hA.m.2.1 a O2;obtain⟨i0,eH,ew,iz,gV⟩:=info_parts TE;obtain⟨i1,oP,hy0,hy1,PY⟩:=info_parts aiL;obtain⟨Rel,pZ⟩:∃Rel:Nat->Value->World->Prop,∀n v wr,Rel n v wr↔∃k P bo S,eG w.heap.size a (k+1) P bo v wr/\cz wr w.heap.size S/\Below w.heap.size w wr/\jn (deps fs) a k P S/\k<=(bX fs).length+1/\n=(bX fs).length+1-k:=⟨_,fun _ _ _=>Iff.rfl⟩
 have H0:Hd (∃n,Rel n (.slice (some ⟨w.heap.size+2,0,none⟩) 1 1) (((w.alloc (.map #[] 0)).alloc (.cells #[.string a] 9)).alloc (.cells #[.slice (some ⟨w.heap.size+1,0,none⟩) 1 1] 85))):=by obtain⟨h1,h2,h3⟩:=eG.first w a;exact⟨⟨_,(pZ _ _ _).2 ⟨0,_,_,_,h1,h2,h3,jn.start _ _,Z4 _,rfl⟩⟩⟩
 have Cb:=Hd.mk pZ;have HA:=Hd.mk hA;have Ha:=Hd.mk ha;clear pZ hA ha O2
 go_enter func139,ntmps139
 go_wp2
 go_loopw [6] (fun v wr=>∃n,Rel n v wr) (fun v wr=>mu fun n=>Rel n v wr)
 case atStart=>exact H0.out
 clear H0;obtain⟨k,P,bo,S,hP,hS,hB,hI,hk,hn⟩:=(Cb.out _ _ _).1 (ahS hrel);obtain⟨wo,rfl⟩:∃wo:World,wo=wr:=⟨wr,rfl⟩
 by_cases aW:P=[]
 .subst aW;rcases hP.r.2 with⟨rfl,_⟩|⟨g,cap,cur,rfl,_⟩
  all_goals
   have Va:=Hd.mk hI.none;clear hn hrel Cb hI hP
   go_wp2
   go_ret
   exact⟨_,rfl,hB,.inl ⟨rfl,Va.out⟩⟩
 .have hk9:k<=274877906944:=by have:=hI.z aW;have:=hI.TJ Ha.out;omega
  have hPl:0<P.length:=X4.2 aW;obtain⟨gp,zA,rfl,hPm⟩:∃gp zA,u6= .slice (some ⟨gp,0,none⟩) P.length zA/\P.length<=maxLen:=by
   rcases hP.r.2 with⟨_,h⟩|⟨g,cap,cur,h,_,_,h1,h2,_⟩
   .omega
   .exact⟨g,cap,h,by omega⟩
  have HL:Hd (∀(P':List (List ae)) (Lt:List Value) (S':List ae) (v':Value) (w':World),eG w.heap.size a (k+1+1) P' Lt v' w'->cz w' w.heap.size S'->Below w.heap.size w w'->jn (deps fs) a (k+1) P' S'->(∃n,Rel n v' w')/\(mu fun n=>Rel n v' w')<mu fun n=>Rel n (.slice (some ⟨gp,0,none⟩) P.length zA) wo):=⟨fun P' Lt S' v' w' h1 h2 h3 h4=>by
   have h5:k<=(bX fs).length:=ZD (hI.z aW) (hI.TJ Ha.out);have h6:=(Cb.out _ v' w').2 ⟨k+1,P',Lt,S',h1,h2,h3,h4,by omega,rfl⟩
   exact⟨⟨_,h6⟩,ahR h6 (by rw[hn];omega)⟩⟩
  have H2:=Hd.mk (L2.start Ha.out hP hS hB hI);have HI:=Hd.mk hI;clear hn hrel Cb hP hS hB hI aW
  go_wp2
  go_loopw [7,22] (fun vl i wr=>∃(i':Nat) (cS:List Value) (t:List (List ae)×List ae),i= .int .i64 i'/\i'<=P.length/\Hd (L2 fs w a w.heap.size wo.heap.size k P bo (.slice (some ⟨gp,0,none⟩) P.length zA) S i' cS t wr vl)) (fun _ i _=>P.length-(intOf i).toNat)
  case atStart=>exact⟨0,[],_,rfl,Z4 _,H2⟩
  clear H2;obtain⟨i,cS,t,rfl,hi,HS⟩:=hrel;by_cases az:i<P.length
  .obtain⟨_,_,g2,pN,he,bC,bO,dL,PV⟩:=HS.out.s.p.at az (HI.out.p _ (Zb az)).2;cases he;obtain⟨p,hp⟩:∃p,p=P[i]:=⟨_,rfl⟩
   rw[<-hp]at bO dL;have PD:dw (deps fs) a p:=hp ▸ (HI.out.p _ (Zb az)).1;obtain⟨z,hz⟩:∃z,z=br a p:=⟨_,rfl⟩
   rw[<-hz]at bO;have D8:z∈L:=(HA.out.l z).2 (yl.1 (hz ▸ EM Ha.out PD));have fS:z.size<=maxLen:=HA.out.m.2.1 z D8;have F7:=Hd.mk (HA.out.below HS.out.s.k);obtain⟨D,hD,OP⟩:=F7.out.s z D8;have HD:=Hd.mk hD;have Ca:=Hd.mk OP;have Hp:=Hd.mk hp;have Hz:=Hd.mk hz;have HO:=Hd.mk dL;have U8:=Hd.mk PV;clear PV hD OP hp hz dL PD;by_cases DJ:a∈D
   .have HB:=Hd.mk (HI.out.found (ZX az) (by have:=(Ca.out a).1 DJ;rw[Hz.out,Hp.out]at this;exact this) (fun j hj q hq=>by obtain⟨dU,rfl⟩:=ZG.1 hq;exact HS.out.no j dU hj))
    go_wp2_with (first
     |(at_lookup;refine BT _ rfl _ _ 204 rfl underlying9 underlying204 (zeroValue210 _) bA L Fm rfl F7.out.m z rfl fS ?_;rw[Z3 D8])
     |(at_lookup;refine FU _ rfl _ _ 210 rfl underlying9 underlying4 underlying210 (zeroValue4 _) (Fm z) D rfl HD.out a rfl has ?_;rw[Y7 DJ]))
    go_ret
    exact⟨_,rfl,HS.out.s.k,.inr ⟨p,by rw[Hp.out];exact HB.out,_,HO.out⟩⟩
   .have kO:Hd (a∉deps fs (br a P[i])):=⟨fun h=>DJ ((Ca.out a).2 (by rw[Hz.out,Hp.out];exact h))⟩
    have gM:Hd (D.length<=4398046511104):=⟨by have:=jh HD.out.1 (b:=bX fs) (fun m hm=>xo ((Ca.out m).1 hm));omega⟩
    go_wp2_with (first
     |(at_lookup;refine BT _ rfl _ _ 204 rfl underlying9 underlying204 (zeroValue210 _) bA L Fm rfl F7.out.m z rfl fS ?_;rw[Z3 D8])
     |(at_lookup;refine FU _ rfl _ _ 210 rfl underlying9 underlying4 underlying210 (zeroValue4 _) (Fm z) D rfl HD.out a rfl has ?_;rw[Zp DJ])
     |(go_at_call 193;refine(aha _ _).mono ?_;rintro e w6 ⟨rfl,rfl⟩)
     |(go_at_call 137;refine(ak2 HD.out gM.out).mono ?_;rintro e w5 ⟨v40,Vp,rfl,kS,fy,Js,qf⟩;have adA:Vp=deps fs (br a p):=qA kS (CS _ _) (fun x=>by rw[fy,Ca.out,Hz.out]);subst adA;have H3:=Hd.mk (L3.start HS.out (Cz qf) Js);obtain⟨a40,aaR,rfl⟩:=Js.shape;clear kS fy Js qf))
    have iN:(deps fs (br a p)).length<=274877906944:=by have:=jh (Fe (CS fs (br a p))) (b:=bX fs) (fun m hm=>xo hm);omega
    obtain⟨UE,rfl⟩:∃UE:World,UE=wr:=⟨wr,rfl⟩
    go_loopw [7,42] (fun vl i wr=>∃(j:Nat) (FL:List Value) (t':List (List ae)×List ae),i= .int .i64 j/\j<=(deps fs (br a p)).length/\Hd (L3 fs w a w.heap.size wo.heap.size k P bo (.slice (some ⟨gp,0,none⟩) P.length zA) p t (.slice a40 (deps fs (br a p)).length aaR) j FL t' wr vl)) (fun _ i _=>(deps fs (br a p)).length-(intOf i).toNat)
    case atStart=>exact⟨0,cS,t,rfl,Z4 _,H3⟩
    clear H3 bC bO HO;obtain⟨j,FL,t',rfl,hj,HR⟩:=hrel;by_cases kM:j<(deps fs (br a p)).length
    .obtain⟨g40,am0,c40,he,adG⟩:=HR.out.v.cell kM;cases he;obtain⟨s,hs⟩:∃s,s=(deps fs (br a p))[j]:=⟨_,rfl⟩
     rw[<-hs]at adG;have qg:s.size<=maxLen:=HA.out.m.2.1 s ((HA.out.l s).2 (yl.1 (hs ▸ xo (Zb kM))));have Hs:=Hd.mk hs;clear hs;obtain⟨l1,l2⟩:=HR.out.len;by_cases dy:s∈t'.2
     .go_wp2_with (at_lookup;refine FU _ rfl _ _ 210 rfl underlying9 underlying4 underlying210 (zeroValue4 _) w.heap.size t'.2 rfl HR.out.s.s s rfl qg ?_;rw[Y7 dy])
      go_roundw
      case rel=>exact⟨j+1,FL,t',by go_num,kM,⟨HR.out.seen kM (by rw[<-Hs.out];exact dy)⟩⟩
      case measure=>simp[intOf];omega
     .have U9:Hd ((deps fs (br a p))[j]∉t'.2):=⟨by rw[<-Hs.out];exact dy⟩
      go_wp2_with (first
       |(at_lookup;refine FU _ rfl _ _ 210 rfl underlying9 underlying4 underlying210 (zeroValue4 _) w.heap.size t'.2 rfl HR.out.s.s s rfl qg ?_;rw[Zp dy])
       |(at_mapUpdate;refine LK _ rfl _ _ _ 210 rfl underlying9 underlying4 underlying210 w.heap.size t'.2 rfl HR.out.s.s (by omega) s rfl qg rfl ?_;intro w1 Jv iO;have F8:=Hd.mk (HR.out.s.mark Jv iO);have H1:=Hd.mk (And.intro Jv iO);clear Jv iO)
       |(go_at_call 194;refine(aa9 (q:=p) F8.out hk9 (by rw[Hp.out];exact F8.out.p.own U8.out az)).mono ?_;rintro e w2 ⟨v1,rfl,dV,dC⟩;have H2:=Hd.mk (And.intro dV dC);clear dV dC)
       |(at_builtin;refine wpList_append_own _ rfl (.tmp 54) (.tmp 56) 85 rfl w1.heap.size 9 i0 (.string ⟨#[]⟩) 1 16 underlying85 eH ew iz gV rfl (by decide) v1 (k+1) _ rfl (H2.out.1.alloc _) ⟨w2.heap.size,0,none⟩ 1 1 [.string s] rfl rfl (MU _ _ _) (alk s) (by omega) (by omega) (by have:=H2.out.2.size;simp;omega) ?_;intro u3 w3 kQ hg3 _;obtain⟨g5,s6,rfl⟩:=Sh kQ (by omega);have H3:=Hd.mk (And.intro kQ hg3);have H4:=Hd.mk (ale F8.out H2.out.1 H2.out.2 hg3 (.cells #[.slice (some ⟨g5,0,none⟩) (k+1+1) s6] 85));clear kQ hg3)
       |(at_builtin;refine wpList_append_own _ rfl (.tmp 52) (.tmp 58) 272 rfl wo.heap.size 85 i1 (.slice none 0 0) 1 24 underlying272 oP hy0 hy1 PY rfl (by decide) u7 t'.1.length FL rfl H4.out.1 ⟨w3.heap.size,0,none⟩ 1 1 [.slice (some ⟨g5,0,none⟩) (k+1+1) s6] rfl rfl (MU _ _ _) (aiz H3.out.1) (by omega) (by omega) H4.out.2 ?_;intro u4 w4 Jo An _))
      have HE:=HR.out.step kM U9.out (by rw[<-Hs.out];exact H1.out.1) H1.out.2 H2.out.1 H2.out.2 (by rw[<-Hs.out];exact H3.out.1) H3.out.2 Jo An
      go_roundw
      case rel=>exact⟨j+1,_,_,by go_num,kM,⟨HE⟩⟩
      case measure=>simp[intOf];omega
    .have HE:=Hd.mk (L3.done az HS.out (by rw[<-Hp.out];exact HR.out) (by rw[<-Hp.out];omega) kO.out)
     go_wp2
     go_roundw
     case rel=>exact⟨i+1,_,_,by go_num,az,HE⟩
     case measure=>simp[intOf];omega
  .have Hn:Hd (∀q∈P,a∉deps fs (br a q)):=⟨fun q hq=>by obtain⟨j,hj,rfl⟩:=Zc hq;exact HS.out.no j hj (by omega)⟩
   have ht:t=ju (deps fs) a P ([],S):=by rw[HS.out.e,ZM (by omega)]
   have HB:=Hd.mk (HI.out.next (fun n=>CS fs n) Hn.out);have U5:=Hd.mk (HS.out.s.q.mono HS.out.s.l);subst ht;have HE:=Hd.mk (HL.out _ _ _ _ _ U5.out HS.out.s.s HS.out.s.k HB.out)
   go_wp2
   go_roundw
   case rel=>exact HE.out.1
   case measure=>exact HE.out.2
def lH(base:Nat)(wr:World)(v:Value)(l:List ae):Prop:=(l=[]/\v= .slice none 0 0)\/∃g cap,v= .slice (some ⟨g,0,none⟩) l.length cap/\0<l.length/\l.length<=maxLen/\wr.ownsRow base 9 1 v l.length (l.map .string)
theorem lH.below{base:Nat}{w w':World}{v:Value}{l:List ae}(h:lH base w v l)(hb:Below w.heap.size w w'):lH base w' v l:=by
 rcases h with h|⟨g,cap,h1,h2,h3,h4⟩
 .exact .inl h
 .exact .inr ⟨g,cap,h1,h2,h3,Kk h4 hb⟩
theorem lH.pe{base n:Nat}{w:World}{v:Value}{l:List ae}(h0:0<l.length)(h:w.ownsRow base 9 1 v n (l.map .string)):lH base w v l:=by
 have h1:=h.1;rw[Z5,Yt]at h1;subst h1;obtain⟨g,cap,rfl⟩:=Sh h h0;refine .inr ⟨g,cap,rfl,h0,?_,h⟩;rcases h.2 with⟨h2,_⟩|⟨g',xh,cur,h2,_,_,h3,h4,_⟩
 .cases h2
 grind
theorem lH.mono{base pK:Nat}{w:World}{v:Value}{l:List ae}(h:lH base w v l)(hb:pK<=base):lH pK w v l:=by
 rcases h with h|⟨g,cap,h1,h2,h3,h4⟩
 .exact .inl h
 .exact .inr ⟨g,cap,h1,h2,h3,EH h4 hb⟩
theorem lH.names{base:Nat}{w:World}{v:Value}{l:List ae}(h:lH base w v l):names w 9 base v l:=by
 rcases h with⟨rfl,rfl⟩|⟨g,cap,_,_,_,h⟩
 .exact⟨none,0,rfl,by simp,by simp,fun h=>absurd h (by omega)⟩
 .exact names.R3 h
structure pz(w:World)(fs:List aj)(bA lo:Nat)(vN:Value)(L:List ae)(F:ae->Nat)(k:Nat)(l:List ae)(wr:World)(vl:Value):Prop where
 v:lH w.heap.size wr vl l
 c:jQ (deps fs) (bX fs) k l
 a:iG wr bA (w.heap.size+1) fs L F
 k:Below w.heap.size w wr
 r:qO wr lo vN (bX fs)
theorem pz.below{w:World}{fs:List aj}{bA lo:Nat}{vN:Value}{L:List ae}{F:ae->Nat}{k:Nat}{l:List ae}{wr w':World}{vl:Value}(h:pz w fs bA lo vN L F k l wr vl)(hb:Below wr.heap.size wr w'):pz w fs bA lo vN L F k l w' vl:=
 ⟨h.v.below hb,h.c,h.a.below hb,h.k.trans (xe hb h.k.size),h.r.to (.below hb)⟩
theorem pz.turn{w:World}{fs:List aj}{bA lo:Nat}{vN:Value}{L:List ae}{F:ae->Nat}{k k':Nat}{l l':List ae}{wr:World}{vl mq:Value}(h:pz w fs bA lo vN L F k l wr vl)(hv:lH w.heap.size wr mq l')(hc:jQ (deps fs) (bX fs) k' l'):pz w fs bA lo vN L F k' l' wr mq:=
 ⟨hv,hc,h.a,h.k,h.r⟩
theorem pz.start{w w1 w2 w4:World}{fs:List aj}{bA:Nat}{o:Obj}{vN:Value}{L:List ae}{F:ae->Nat}{e:TypeId}{l0:Nat}(tQ:w1=w.alloc o)(ha:iG w2 bA (w.heap.size+1) fs L F)(hb:Below (w.heap.size+1) w1 w2)(hn:names w4 e l0 vN (bX fs))(h4:Below w2.heap.size w2 w4):
  pz w fs bA w4.heap.size vN L F 0 [] w4 (.slice none 0 0):=by
 subst tQ;have l1:=hb.size;have vw:Below w.heap.size w w2:=Cz hb;simp at l1;exact⟨.inl ⟨rfl,rfl⟩,jQ.start _ _,ha.below h4,vw.trans (xe h4 (by omega)),qO.R2 hn (ZO _)⟩
set_option maxHeartbeats 4000000 in
set_option maxRecDepth 1000000 in
theorem abt(c:ay)(hF:wT c.features){M:Mem}{w:World}(hI:Sx.Inv prog M ⟨w,M⟩ [] w){Cc:Array Value}(hC:RL M c.cells Cc.toList):
  Calls prog 79 #[.agg Cc] w fun e W'=>∃v,e= .returned v/\names W' 9 w.heap.size v (lJ (deps c.features) (bX c.features))/\Below w.heap.size w W':=by
 have lC:Cc.size=4:=by have:=hC.1;simpa[ay.cells]using this.symm
 have W8:Sx.iH prog 25=some (true,Cc.toList.length):=by rw[Zu,lC];kernel_rfl
 clear lC;have rm:Below w.heap.size w (w.alloc (.cells Cc 25)):=((bz.refl w []).alloc _).below (ZO _) (by simp);have Im:=abD c hF (GI hI rm) hC;rw[show(w.alloc (.cells Cc 25)).heap.size=w.heap.size+1 by simp]at Im;have LU:=Hd.mk Im;clear Im;have HC:=Hd.mk (ajk (heap_alloc_new w (.cells Cc 25)));have hlen:=hF.l;have Pz:maxLen=9223372036854775807:=rfl;have amV:∀(w:World) (a:Option Addr) (n k:Nat),(binOp .neq 85 (.slice a n k) (.slice none 0 0)).run prog w= .ok (.bool (!a.isNone)) w:=fun w a n k=>run_neq_slice_nil_any w _ _ a n k 0 0 underlying85;have amO:∀(w:World) (a:Option Addr) (n k:Nat),(binOp .eql 85 (.slice a n k) (.slice none 0 0)).run prog w= .ok (.bool a.isNone) w:=fun w a n k=>Lib.run_eql_slice_nil w _ _ a n k 0 0 underlying85;clear hI hC rm
 go_enter func79,ntmps79
 go_wp2_with (first
  |(show wpList _ _ _ (⟨some 7,_,_,_,_,_⟩::_) _ _;refine zx rfl 25 (.tmp 1) rfl w.heap.size 0 rfl Cc HC.out W8 ?_)
  |(go_at_call 136;refine LU.out.mono ?_;rintro e w2 ⟨L,Fm,rfl,hA,dC⟩;have HA:=Hd.mk (And.intro hA dC);clear LU HC hA dC)
  |(go_at_call 138;refine(ahb _ _).mono ?_;rintro e w3 ⟨rfl,rfl⟩)
  |(go_at_call 137;refine(ak3 HA.out.1.m (ZD HA.out.1.len (by omega))).mono ?_;rintro e w4 ⟨vN,S,rfl,vq,vr,Iy,OX⟩;have HS:=Hd.mk (pz.start rfl HA.out.1 HA.out.2 (HA.out.1.names vq vr ▸ Iy) (Cz OX));have hS5:=HA.out.1.names vq vr;subst hS5;obtain⟨aN,aaS,rfl⟩:=Iy.shape;clear vq vr Iy OX HA))
 have hN9:(bX c.features).length<=274877906944:=ZD (Be _) hlen
 go_loopw [2,13] (fun vl i wr=>∃(k:Nat) (l:List ae),i= .int .i64 k/\k<=(bX c.features).length/\Hd (pz w c.features (w.heap.size+2) w4.heap.size (.slice aN (bX c.features).length aaS) L Fm k l wr vl)) (fun _ i _=>(bX c.features).length-(intOf i).toNat)
 case atStart=>exact⟨0,[],rfl,Z4 _,HS⟩
 clear HS;obtain⟨k,l,rfl,hk,HS⟩:=hrel;by_cases az:k<(bX c.features).length
 .obtain⟨_,_,he,_,AN⟩:=HS.out.r;cases he;obtain⟨gN,am1,rfl,hgN,Pb⟩:=AN k az;obtain⟨s,hs⟩:∃s,s=(bX c.features)[k]:=⟨_,rfl⟩
  rw[<-hs]at Pb;have LX:=Hd.mk (akW c.features hlen HS.out.a s (hs ▸ Zb az));have Hs:=Hd.mk hs;clear hs AN
  go_wp2_with (go_at_call 139;refine LX.out.mono ?_;rintro e w5 ⟨v5,rfl,Dy,PH⟩;have lG:=Hd.mk (HS.out.below Dy);have U6:Hd ((v5= .slice none 0 0/\∀q,¬fG (deps c.features) s q)\/∃q g5 s6,v5= .slice (some ⟨g5,0,none⟩) (q.length+1) s6/\q.length+1<=maxLen/\np (deps c.features) s q/\lH w.heap.size w5 v5 (s::q)):=⟨by rcases PH with h|⟨q,h1,n,h2⟩;exact .inl h;have h3:=(lH.pe (by simp) h2).mono HS.out.k.size;rcases h3 with⟨h4,_⟩|⟨g5,s6,h5,h6,h7,h8⟩;cases h4;exact .inr ⟨q,g5,s6,h5,h7,h1,.inr ⟨g5,s6,h5,h6,h7,h8⟩⟩⟩;clear LX Dy PH Pb;rcases U6.out with⟨rfl,kO⟩|⟨q,g5,s6,rfl,hq5,hB,hq⟩<;>rcases lG.out.v with⟨rfl,rfl⟩|⟨gl,amK,rfl,oQ,qa,hl3⟩)
  all_goals have hs:=Hs.out;subst hs
  .go_roundw
   case rel=>exact⟨k+1,_,by go_num,az,⟨lG.out.turn lG.out.v (lG.out.c.none az kO)⟩⟩
   case measure=>simp[intOf];omega
  .go_roundw
   case rel=>exact⟨k+1,_,by go_num,az,⟨lG.out.turn lG.out.v (lG.out.c.none az kO)⟩⟩
   case measure=>simp[intOf];omega
  .go_roundw
   case rel=>exact⟨k+1,_,by go_num,az,⟨lG.out.turn hq (lG.out.c.take az hB (.inl rfl))⟩⟩
   case measure=>simp[intOf];omega
  .go_roundw
   case rel=>exact⟨k+1,_,by go_num,az,⟨lG.out.turn hq (lG.out.c.take az hB (.inr (by omega)))⟩⟩
   case measure=>simp[intOf];omega
  .go_roundw
   case rel=>exact⟨k+1,_,by go_num,az,⟨lG.out.turn lG.out.v (lG.out.c.skip az hB (by intro e;rw[e]at oQ;simp at oQ) (by omega))⟩⟩
   case measure=>simp[intOf];omega
 .have oN:Hd (l=lJ (deps c.features) (bX c.features)):=⟨by have h:=HS.out.c;rw[show k=(bX c.features).length by omega]at h;exact h.done (Ka _)⟩
  go_wp2
  go_ret
  exact⟨_,rfl,oN.out ▸ HS.out.v.names,HS.out.k⟩
end Go.Proofs.YtmemninechdogaaGreatDoor
namespace Go.Proofs.YtmemninechdogaaGreatDoor
open _root_.Go.Proofs.Tryz
open Go.RowKit Go.Proofs Go.Tb Go.Maps
open Go.Sx (AV Mem RL R M0 Glob Store BlkOK Base Inv)
def nc(M:Mem)(n:Nat)(w':World):Mem:=fun b o=>if n<=b then w'.cell? ⟨b,o,none⟩else M b o
theorem J6{M:Mem}{w0:Base}{w w':World}{y:Store}(hI:Inv prog M w0 y w):M.le (nc M w.heap.size w'):=fun b o v h=>by have:=World.block_lt_of_cell? _ _ (hI.bZ b o v h);unfold nc;grind
theorem Qj{M:Mem}{w0:Base}{w w':World}{y:Store}(hI:Inv prog M w0 y w)(hb:Below w.heap.size w w'):Inv prog (nc M w.heap.size w') w0 y w':=by
 have h1:=hI.after hb;have hle:=J6 (w':=w') hI;refine⟨h1.os,h1.tape,h1.output,h1.size,h1.old,fun b o v h=>?_,fun e he=>?_,h1.nd,fun g l hl=>(h1.gl g l hl).mono hle,h1.gw,fun b o v hv az=>h1.bm b o v (by unfold nc at hv;rwa [Z9 (by have:=hI.size;omega)]at hv) az⟩
 .unfold nc at h;split at h
  .exact h
  .exact h1.bZ b o v h
 .obtain⟨g1,g2⟩:=h1.st e he;refine⟨g1,?_⟩;obtain⟨_,g3⟩:=hI.st e he;have az:e.2.1<w.heap.size:=by
   cases hx:e.2.2 with
   |cells l=>rw[hx]at g3;obtain⟨_,cs,t,a2,_⟩:=g3;grind
   |tail u c=>rw[hx]at g3;obtain⟨_,cs,t,a2,_⟩:=g3;grind
   |map es k=>rw[hx]at g3;obtain⟨_,l,a2,_⟩:=g3;grind
  have hN:∀o,nc M w.heap.size w' e.2.1 o=M e.2.1 o:=fun o=>by unfold nc;grind
  cases hx:e.2.2 with
  |cells l=>rw[hx]at g2;obtain⟨a1,cs,t,a2,a3⟩:=g2;exact⟨fun o=>(hN o).trans (a1 o),cs,t,a2,a3.mono hle⟩
  |tail u c=>rw[hx]at g2;obtain⟨a1,cs,t,a2,a3⟩:=g2;exact⟨fun o ho=>(hN o).trans (a1 o ho),cs,t,a2,a3⟩
  |map es k=>rw[hx]at g2;obtain⟨a1,l,a2,a3,a4⟩:=g2;exact⟨fun o=>(hN o).trans (a1 o),l,a2,a3,a4.mono hle⟩
theorem Ec{M:Mem}{w0:Base}{w:World}{y:Store}(hI:Inv prog M w0 y w):Inv prog M ⟨w,M⟩ [] w:=
 ⟨rfl,rfl,rfl,ZO _,fun _ _=>rfl,hI.bZ,fun e he=>(by cases he),List.nodup_nil,hI.gl,GW.aH hI.gw hI.size fun k cs t f h=>hI.old k (ZW.1 h).1,fun _ _ _ h _=>h⟩
theorem RD{M:Mem}{w':World}{n lo:Nat}{e:TypeId}{v:Value}{L:List ae}(h:names w' e lo v L)(hl:n<=lo):R (nc M n w') (.sl false 1 (L.map dq)) v:=by
 obtain⟨a,cap,rfl,h1,h2,h3⟩:=h;by_cases hc:cap=0
 .subst hc;have:L=[]:=Zt (by omega);subst this;exact .nil false 1 a (by simp)
 .obtain⟨g,off,cur,rfl,g2,g3,g4,g5⟩:=h3 (by omega);have:=R.sl (M:=nc M n w') false 1 (L.map dq) g off cap (fun k=>.string (L.getD k ⟨#[]⟩)) (fun i hi=>by rw[Zv];rfl) (fun k hk=>?_) (fun i hi j hj=>?_) (by grind) h2
  .grind
  .have hk:k<L.length:=by grind
   unfold nc;rw[Z3 (by omega),pO g3,g5 k hk,Z1,ZX hk];rfl
  .have hi:i<L.length:=by grind
   simp only[Zv,dq,ZY,ZP]at hj|-;obtain rfl:j=0:=by omega
   rw[Z1,Yt,Yr,ZX hi];exact .v _
theorem Pure.new{f:FuncId}{xs:List AV}{r:AV}(h:∀(M:Mem) (w:World) (cs:List Value),Inv prog M ⟨w,M⟩ [] w->RL M xs cs->Calls prog f cs.toArray w fun e w'=>(∃v,e= .returned v/\R (nc M w.heap.size w') r v)/\Below w.heap.size w w'):Sx.Pure prog f xs r:=
 ⟨fun y M w0 w cs hI hR=>(h M w cs (Ec hI) hR).mono fun e w' ⟨⟨v,he,hv⟩,hb⟩=>⟨nc M w.heap.size w',.ret r,y,J6 hI,Qj hI hb,by subst he;exact hv,rfl,rfl⟩⟩
theorem RL.aab{M:Mem}{l:List AV}{cs:List Value}(h:RL M [.agg l] cs):∃C:Array Value,cs.toArray= #[.agg C]/\RL M l C.toList:=by obtain⟨v,rfl,h1⟩:=Sx.RL.cR h;obtain⟨cs',rfl,h2⟩:=h1.qq;grind
abbrev Fj(l:List ae):AV:=.sl false 1 (l.map dq)
theorem abr(c:ay)(hF:wT c.features):Sx.Pure prog 79 [.agg c.cells] (Fj (lJ (deps c.features) (bX c.features))):=Pure.new fun M w cs hI hR=>by obtain⟨C,e,hC⟩:=RL.aab hR;rw[e];exact(abt c hF hI hC).mono fun e w' ⟨v,h1,h2,h3⟩=>⟨⟨v,h1,RD h2 (ZO _)⟩,h3⟩
