/- whole, walked: ahead of the door, and together. -/
import Derived.Test.YtbihckigennlhaaGreatDoorWf
set_option linter.unusedSimpArgs false
set_option linter.unusedVariables false
set_option linter.unusedSectionVars false
set_option maxRecDepth 100000
set_option maxHeartbeats 4000000
namespace Go.Proofs.YtbihckigennlhaaGreatDoor
open Go.Sx Go.Proofs
theorem xd{P:Program}[Glob P]{N:Nat}{cfg:Nat→Nat}{Q:Exit→ae→Store→Prop}{rg:ae}{σ:Store}{a:AC}(h:WK P N cfg Q a [] rg σ):SW P N a.erase Q rg σ:=h.h.h
theorem wG{k:Int}{x:List UInt8}{at_:Int}(h:x.length≤16384)(h2:k≠2)(h3:k≠3):nw ⟨k,⟨x.toArray⟩,at_⟩:=⟨by show x.toArray.size≤_;simpa using h,fun e=>absurd e h2,fun e=>absurd e h3⟩
theorem ayG{x:List UInt8}{at_:Int}(h:x.length≤16384)(hd:iz x)(he:lL x=0):nw ⟨2,⟨x.toArray⟩,at_⟩:=by
 refine⟨by show x.toArray.size≤_;simpa using h,fun _=> ?_,fun e=>absurd (show(2:Int)=3 from e) (by decide)⟩
 refine⟨by simpa using hd,?_⟩
 unfold lL at he
 split at he
 ·cases he
 ·show ei x.toArray.toList 0≤_
  simp only[List.toList_toArray]at *
  omega
theorem ayF{a b:List UInt8}{at_:Int}(h:(a++46::b).length≤16384)(ha:iz a)(hb:iz b)(he:jV (a++46::b)=0):nw ⟨3,⟨(a++46::b).toArray⟩,at_⟩:=by
 refine⟨by show(a++46::b).toArray.size≤_;simpa using h,fun e=>absurd (show(3:Int)=2 from e) (by decide),fun _=>⟨a,b,by simp,ha,hb,?_⟩⟩
 have sF:∀ c∈a,(c != 46)=true:=fun c hc=>by
  have:=ha.2 c hc
  simp only[bne_iff_ne,ne_eq]
  intro e;subst e;simp at this
 have e1:(a++46::b).takeWhile (fun b=>b != 46)=a:=by
  rw[List.takeWhile_append_of_pos sF];simp
 have e2:(a++46::b).dropWhile (fun b=>b != 46)=46::b:=by
  rw[List.dropWhile_append_of_pos sF];simp
 unfold jV at he
 simp only[e1,e2,X0,List.drop_zero]at he
 split at he
 ·cases he
 ·split at he
  ·cases he
  ·exact⟨by omega,by omega⟩
theorem aab{l:List UInt8}{b:UInt8}(h:l.head? =some b):l=b::l.drop 1:=by
 cases l with
 |nil=>cases h
 |cons x r=>cases h;rfl
theorem adw{s:List UInt8}(hs:s≠[])(hl:s.length≤16384)(at_:Int)(h0:(ax s).2.2=0)(h1:(ax s).1≠-1)(h2:(ax s).1≠4)(h3:(ax s).1≠0):nw ⟨(ax s).1,⟨(s.take (ax s).2.1).toArray⟩,at_⟩:=by
 obtain⟨c,r,rfl⟩:=List.exists_cons_of_ne_nil hs
 have hle:∀ n,((c::r).take n).length≤16384:=fun n=>by rw[ZT];omega
 by_cases c1:aC c=1
 ·rw[p_1 c1]at h3;exact absurd rfl h3
 by_cases c6:aC c=6
 ·rw[BN c6]at h3;exact absurd rfl h3
 by_cases c2:aC c=2
 ·rw[FR c2];exact wG (hle _) (show(1:Int)≠2 by decide) (show(1:Int)≠3 by decide)
 by_cases c3:aC c=3
 ·have hn:0<aD aO (c::r):=by unfold aD;rw[ZG,if_pos (by unfold aO;exact Zi c3)];simp
  rw[BK c3]at h0 ⊢
  generalize hN:aD aO (c::r)=n at *
  generalize hT:(c::r).drop n=t at *
  generalize hM:aD aO (t.drop 1)=m at *
  have hd:=xC (s:=c::r) (by omega)
  rw[hN]at hd
  split at h0
  ·rename_i hh
   rw[if_pos hh]at⊢
   have ht:=aab hh.1
   have hb:=xC (s:=t.drop 1) (by omega)
   rw[hM]at hb
   have e:(c::r).take (n+1+m)=(c::r).take n++46::(t.drop 1).take m:=by
    conv=>lhs;rw[show n+1+m=n+(1+m) by omega,List.take_add,hT,ht,show 1+m=m+1 by omega,Yl]
   have hl2:=hle (n+1+m)
   simp only at h0 ⊢
   rw[e]at h0 hl2 ⊢
   exact ayF hl2 hd hb h0
  ·rename_i hh
   rw[if_neg hh]
   exact ayG (hle _) hd h0
 by_cases c5:aC c=5
 ·rw[BM c5]at h1 h2;split at h2
  ·exact absurd rfl h2
  ·rename_i hh;rw[if_neg hh]at h1;exact absurd rfl h1
 by_cases c7:aC c=7∨aC c=8
 ·rw[q9 c7]at h1 ⊢
  split
  ·exact wG (hle _) (by decide) (by decide)
  ·split
   ·exact wG (hle _) (by decide) (by decide)
   ·rename_i a b;rw[if_neg a,if_neg b]at h1;exact absurd rfl h1
 ·rw[FQ ⟨c1,c6,c2,c3,c5,fun e=>c7 (.inl e),fun e=>c7 (.inr e)⟩]at h1;exact absurd rfl h1
theorem Bv:∀ (n:Nat) (at_ st:Int) (s:List UInt8),s.length≤16384→(∀ t∈(cA n at_ st s).1,nw t)∧(cA n at_ st s).1.length≤s.length+1
 |0,at_,st,s,_=>⟨fun t ht=>by
   simp only[cA,Y3]at ht
   subst ht;exact wG (x:=[]) (by simp) (by decide) (by decide),by simp[cA]⟩
 |n+1,at_,st,[],_=>⟨fun t ht=>by
   rw[lex_nil]at ht
   simp only[Y3]at ht
   subst ht;exact wG (x:=[]) (by simp) (by decide) (by decide),by rw[lex_nil];simp⟩
 |n+1,at_,st,c::r,hl=>by
  have hs:c::r≠[]:=by simp
  have qJ:=BQ hs
  have hk:=adw hs hl at_
  rw[om n at_ st hs]
  generalize Bj:c::r=s at *
  generalize ax s=p at *
  have hd:∀ k,(s.drop k).length≤16384:=fun k=>by rw[Zx];omega
  have i1:=Bv n (at_+1) at_ (s.drop 1) (hd 1)
  have i2:=Bv n (at_+p.2.1) st (s.drop p.2.1) (hd _)
  have l1:(s.drop 1).length+1≤s.length:=by rw[Zx];omega
  have l2:(s.drop p.2.1).length+1≤s.length:=by rw[Zx];omega
  split
  ·exact⟨i1.1,by have:=i1.2;simp only;omega⟩
  ·split
   ·exact⟨i2.1,by have:=i2.2;simp only;omega⟩
   ·split
    ·refine⟨fun t ht=> ?_,by have:=i2.2;simp only[Z9];omega⟩
     rcases ZV.1 ht with rfl|ht
     ·exact wG (by simp only[Zx,ZT];omega) (by decide) (by decide)
     ·exact i2.1 t ht
    ·split
     ·refine⟨fun t ht=> ?_,by have:=i2.2;simp only[Z9];omega⟩
      rcases ZV.1 ht with rfl|ht
      ·rename_i a b c d
       exact hk (by simpa using b) a c d
      ·exact i2.1 t ht
     ·exact⟨i2.1,by have:=i2.2;omega⟩
theorem ayL{s:List UInt8}(hl:s.length≤16384):Gd (dh s).1:=
 ⟨vI _ _ _ _,(Bv _ _ _ s hl).1,by have:=(Bv s.length 0 (-1) s hl).2;show(cA s.length 0 (-1) s).1.length≤_;omega⟩
end Go.Proofs.YtbihckigennlhaaGreatDoor
