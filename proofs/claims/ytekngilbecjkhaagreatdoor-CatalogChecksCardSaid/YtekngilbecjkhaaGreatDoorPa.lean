/- Words. -/
import Derived.Test.YtekngilbecjkhaaGreatDoorCodeA
import Derived.Test.YtekngilbecjkhaaGreatDoorCodeB
import Derived.Test.YtekngilbecjkhaaGreatDoorPt
import Derived.Test.YtekngilbecjkhaaGreatDoorGl
import Derived.Lib.ItoaLen
set_option linter.unusedSimpArgs false
set_option linter.unusedVariables false
set_option maxRecDepth 100000
namespace Go.Proofs.YtekngilbecjkhaaGreatDoor
open Go.Sx Go.Proofs
def Low(c:Nat):Prop:=97≤c∧c≤122
instance (c:Nat):Decidable (Low c):=inferInstanceAs (Decidable (_∧_))
def Dig(c:Nat):Prop:=48≤c∧c≤57
instance (c:Nat):Decidable (Dig c):=inferInstanceAs (Decidable (_∧_))
def Wch(c:Nat):Prop:=Low c∨Dig c∨c=95
instance (c:Nat):Decidable (Wch c):=inferInstanceAs (Decidable (_∨_))
def Word(s:Str):Prop:=1≤s.size∧s.size≤24∧Low ((byteAt s 0).toNat)∧∀ i,i<s.size→Wch ((byteAt s i).toNat)
instance (s:Str):Decidable (Word s):=inferInstanceAs (Decidable (_∧_∧_∧_))
theorem cons_lt{P:Nat→Prop}{i:Nat}(h:∀ j,j<i→P j)(hi:P i):∀ j,j<i+1→P j:=fun j hj=>by
 rcases Nat.lt_or_ge j i with h'|h'
 ·exact h j h'
 ·obtain rfl:j=i:=by omega
  exact hi
theorem outside_ok(n m:Int)(hm: -1000≤m∧m≤1000):Pure Tryz.prog 123 [iv n,iv m] (.v (.bool (decide (n>m∨n< -m)))):=by
 refine Pure.runk (fun _=>0) Tryz.func123 comp123 era123 (Nat.le_of_ble_eq_true rfl) fun σ=> ?_
 repeat'(first|exact .nil|refine .k0 ?_|refine .k1 ?_|refine .k2 ?_|refine .k4 ?_|refine .k7 ?_|refine .r1 ?_ ?_|fail)
 try any_goals(exact Zo)
 all_goals(try simp only[BL]at *)
 ·rw[i64w (by omega)]
  (((refine Sx.Fin.intro Zs (bd ?_);(try simp only[BL]at *);(try simp only[Low,Dig,Wch,and_assoc]at *)));try omega)
theorem far_ok(n:Int):Pure Tryz.prog 129 [iv n] (.v (.bool (decide (n>8∨n< -8)))):=by
 refine Pure.runk (fun _=>0) Tryz.func129 comp129 era129 (Nat.le_of_ble_eq_true rfl) fun σ=> ?_
 repeat'(first|exact .nil|refine .k0 ?_|refine .k1 ?_|refine .k2 ?_|refine .k4 ?_|refine .k7 ?_|refine .r1 ?_ ?_|fail)
 try any_goals(exact Zo)
 all_goals(try simp only[BL]at *)
 ·(((refine Sx.Fin.intro Zs (bd ?_);(try simp only[BL]at *);(try simp only[Low,Dig,Wch,and_assoc]at *)));try omega)
theorem letter_ok(c:UInt8):Pure Tryz.prog 126 [.v (.int .u8 c.toNat)] (.v (.bool (decide (Low c.toNat)))):=by
 refine Pure.runk (fun _=>0) Tryz.func126 comp126 era126 (Nat.le_of_ble_eq_true rfl) fun σ=> ?_
 repeat'(first|exact .nil|refine .k0 ?_|refine .k1 ?_|refine .k2 ?_|refine .k4 ?_|refine .k7 ?_|refine .r1 ?_ ?_|fail)
 all_goals(try simp only[BL]at *)
 ·(((refine Sx.Fin.intro Zs (bd ?_);(try simp only[BL]at *);(try simp only[Low,Dig,Wch,and_assoc]at *)));try omega)
theorem digit_ok(c:UInt8):Pure Tryz.prog 127 [.v (.int .u8 c.toNat)] (.v (.bool (decide (Dig c.toNat)))):=by
 refine Pure.runk (fun _=>0) Tryz.func127 comp127 era127 (Nat.le_of_ble_eq_true rfl) fun σ=> ?_
 repeat'(first|exact .nil|refine .k0 ?_|refine .k1 ?_|refine .k2 ?_|refine .k4 ?_|refine .k7 ?_|refine .r1 ?_ ?_|fail)
 all_goals(try simp only[BL]at *)
 ·(((refine Sx.Fin.intro Zs (bd ?_);(try simp only[BL]at *);(try simp only[Low,Dig,Wch,and_assoc]at *)));try omega)
theorem word_ok(s:Str):Pure Tryz.prog 122 [sv s] (.v (.bool (decide (Word s)))):=by
 refine Pure.runk (fun _=>0) Tryz.func122 comp122 era122 (Nat.le_of_ble_eq_true rfl) fun σ=> ?_
 repeat'(first|exact .nil|refine .k0 ?_|refine .k1 ?_|refine .k2 ?_|refine .k4 ?_|refine .k6 ?_|refine .k7 ?_|refine .k9 ?_|(refine .cd ?_ ?_<;>(intro hc;skip))|refine .r1 ?_ ?_|refine .t5 ?_ ?_ ?_|fail)
 try any_goals(exact Zo)
 all_goals(try simp only[BL]at *)
 ·refine Sx.Fin.intro Zs (bf ?_)
  rintro⟨h1,h2,h3,h4⟩
  simp only[Low,Dig,Wch]at h3
  omega
 refine WK_loop (fun n rg σ'=>∃ i:Nat,i≤s.size∧n=s.size-i∧(∀ j,j<i→Wch ((byteAt s j).toNat))∧σ'=σ∧rg=[(0,sv s),(24,iv s.size),(25,iv i)]) s.size rfl ⟨_,_,Zr,Zs,0,Nat.zero_le _,rfl,fun j hj=>absurd hj (by omega),rfl,rfl⟩ ?_
 rintro n _ _ ⟨i,hi,hn,hp,rfl,rfl⟩
 repeat'(first|exact .nil|refine .k0 ?_|refine .k1 ?_|refine .k2 ?_|refine .k4 ?_|refine .k6 ?_|refine .k7 ?_|refine .k8 ?_|refine .k9 ?_|(refine .cd ?_ ?_<;>(intro hc;skip))|refine .r1 ?_ ?_|refine .t5 ?_ ?_ ?_|fail)
 try any_goals(exact Zo)
 all_goals(try simp only[BL]at *)
 ·refine Sx.Fin.intro Zs (bf ?_)
  rintro⟨h1,h2,h3,h4⟩
  have:=h4 i (by omega)
  simp only[Low,Dig,Wch]at this
  omega
 ·refine⟨s.size-(i+1),by omega,_,_,Zr,Zs,i+1,by omega,rfl,cons_lt hp ?_,rfl,by rw[i64w (by omega)];rfl⟩
  simp only[Low,Dig,Wch]
  omega
 ·refine Sx.Fin.intro Zs (bt ?_)
  refine⟨by omega,by omega,by simp only[Low,Dig,Wch];omega,fun j hj=>hp j (by omega)⟩
theorem wordR_ok(s:Str):Pure Tryz.prog 128 [sv s] (.v (.bool (decide (Word s)))):=by
 refine Pure.runk (fun _=>0) Tryz.func128 comp128 era128 (Nat.le_of_ble_eq_true rfl) fun σ=> ?_
 repeat'(first|exact .nil|refine .k0 ?_|refine .k1 ?_|refine .k2 ?_|refine .k4 ?_|refine .k6 ?_|refine .k7 ?_|refine .k9 ?_|(refine .cd ?_ ?_<;>(intro hc;skip))|refine .r1 ?_ ?_|refine .t5 ?_ ?_ ?_|fail)
 try any_goals(exact Zo)
 all_goals(try simp only[BL]at *)
 ·refine Sx.Fin.intro Zs (bf ?_)
  rintro⟨h1,h2,h3,h4⟩
  simp only[Low,Dig,Wch]at h3
  omega
 refine WK_loop (fun n rg σ'=>∃ i:Nat,i≤s.size∧n=s.size-i∧(∀ j,j<i→Wch ((byteAt s j).toNat))∧σ'=σ∧rg=[(0,sv s),(3,iv i)]) s.size rfl ⟨_,_,Zr,Zs,0,Nat.zero_le _,rfl,fun j hj=>absurd hj (by omega),rfl,rfl⟩ ?_
 rintro n _ _ ⟨i,hi,hn,hp,rfl,rfl⟩
 repeat'(first|exact .nil|refine .k0 ?_|refine .k1 ?_|refine .k2 ?_|refine .k4 ?_|refine .k6 ?_|refine .k7 ?_|refine .k8 ?_|refine .k9 ?_|(refine .cd ?_ ?_<;>(intro hc;skip))|refine .r1 ?_ ?_|refine .t5 ?_ ?_ ?_|fail)
 try any_goals(exact Zo)
 all_goals(try simp only[BL]at *)
 ·refine Sx.Fin.intro Zs (bf ?_)
  rintro⟨h1,h2,h3,h4⟩
  have:=h4 i (by omega)
  simp only[Low,Dig,Wch]at this
  omega
 ·refine⟨s.size-(i+1),by omega,_,_,Zr,Zs,i+1,by omega,rfl,cons_lt hp ?_,rfl,by rw[i64w (by omega)];rfl⟩
  simp only[Low,Dig,Wch]
  omega
 ·refine Sx.Fin.intro Zs (bt ?_)
  refine⟨by omega,by omega,by simp only[Low,Dig,Wch];omega,fun j hj=>hp j (by omega)⟩
def kwB:List (List UInt8):=[[116,97,98,108,101],[102,101,97,116,117,114,101],[111,102],[107,101,101,112],[98,111,111,108],[116,101,120,116],[107,101,121],[105,110,116],[100,101,99],[105,102],[116,104,101,110],[101,108,115,101],[100,101,102,97,117,108,116],[111,114],[97,110,100],[110,111,116],[116,114,117,101],[102,97,108,115,101],[110,117,108,108],
 [99,111,117,110,116],[115,117,109],[109,101,97,110],[109,105,110],[109,97,120],[102,105,114,115,116],[108,97,115,116],[100,105,115,116,105,110,99,116],[113,117,97,110,116,105,108,101],[100,101,99,97,121],[97,108,108],[115,108,105,100,105,110,103],[116,117,109,98,108,105,110,103],[115,101,115,115,105,111,110],[119,104,101,114,101]]
def KW(s:Str):Prop:=s.data.toList∈kwB
instance (s:Str):Decidable (KW s):=inferInstanceAs (Decidable (_∈_))
def Name(s:Str):Prop:=Word s∧¬KW s
instance (s:Str):Decidable (Name s):=inferInstanceAs (Decidable (_∧_))
def spaced:List (List UInt8)→List UInt8
 |[]=>[32]
 |w::ws=>32::w++spaced ws
theorem infix_spaced(s:List UInt8)(hs:(32:UInt8)∉s)(hs0:s≠[]):∀ (ws:List (List UInt8)),(∀ w∈ws,(32:UInt8)∉w)→((32::s++[32]) <:+: spaced ws↔s∈ws)
 |[],_=>by
  simp only[spaced,List.not_mem_nil,iff_false]
  intro h
  have:=h.length_le
  simp at this
 |w::ws,hw=>by
  have ih:=infix_spaced s hs hs0 ws (fun x hx=>hw x (by simp[hx]))
  have hw0:=hw w (by simp)
  have hsp:∃ t,spaced ws=32::t:=by cases ws<;>exact⟨_,rfl⟩
  obtain⟨t,ht⟩:=hsp
  rw[List.mem_cons,← ih]
  simp only[spaced,List.cons_append]
  rw[List.infix_cons_iff]
  constructor
  ·rintro(h|h)
   ·left
    rw[List.cons_prefix_cons]at h
    have h:=h.2
    rw[ht]at h
    have key:∀ (s w t:List UInt8),(32:UInt8)∉s→(32:UInt8)∉w→s++[32] <+: w++32::t→s=w:=by
     intro s
     induction s with
     |nil=>
      intro w t _ hw h
      cases w with
      |nil=>rfl
      |cons a w=>
       simp only[List.nil_append,List.cons_append,List.cons_prefix_cons]at h
       exact absurd (by rw[h.1];simp) hw
     |cons a s ih=>
      intro w t hs hw h
      cases w with
      |nil=>
       simp only[List.nil_append,List.cons_append,List.cons_prefix_cons]at h
       exact absurd (by rw[h.1];simp) hs
      |cons b w=>
       simp only[List.cons_append,List.cons_prefix_cons]at h
       rw[h.1,ih w t (fun x=>hs (by simp[x])) (fun x=>hw (by simp[x])) h.2]
    exact key s w t hs hw0 h
   ·right
    have key:∀ (w:List UInt8),(32:UInt8)∉w→(32::s++[32]) <:+: w++spaced ws→(32::s++[32]) <:+: spaced ws:=by
     intro w
     induction w with
     |nil=>intro _ h;exact h
     |cons a w ih2=>
      intro hw h
      simp only[List.cons_append]at h
      rw[List.infix_cons_iff]at h
      rcases h with h|h
      ·rw[List.cons_prefix_cons]at h
       exact absurd (by rw[h.1];simp) hw
      ·exact ih2 (fun x=>hw (by simp[x])) h
    exact key w hw0 h
  ·rintro(rfl|h)
   ·left
    rw[List.cons_prefix_cons]
    refine⟨rfl,?_⟩
    rw[ht]
    exact⟨t,by simp⟩
   ·right
    exact h.trans (List.suffix_append _ _).isInfix
theorem index_infix(t:List UInt8):∀ s:List UInt8,0≤Lib.index s t↔t <:+: s
 |[]=>by
  unfold Lib.index
  cases t with
  |nil=>simp
  |cons a t=>simp
 |b::s=>by
  have ih:=index_infix t s
  rw[List.infix_cons_iff,← ih]
  have hg:=Lib.index_ge s t
  have e0:Lib.index (b::s) t=if t.isPrefixOf (b::s)then 0 else if Lib.index s t == -1 then -1 else Lib.index s t+1:=rfl
  rw[e0]
  cases h:t.isPrefixOf (b::s)with
  |true=>simp only[if_true];exact⟨fun _=> .inl (List.isPrefixOf_iff_prefix.1 h),fun _=>by decide⟩
  |false=>
   have hn:¬t <+: b::s:=fun hp=>by rw[List.isPrefixOf_iff_prefix.2 hp]at h;cases h
   simp only[Bool.false_eq_true,if_false]
   split
   ·rename_i e
    have e:Lib.index s t= -1:=by simpa using e
    simp only[e]
    exact⟨fun h=>absurd h (by decide),fun h=>h.elim (fun h=>absurd h hn) (fun h=>absurd h (by decide))⟩
   ·rename_i e
    have e:Lib.index s t≠-1:=by simpa using e
    exact⟨fun _=> .inr (by omega),fun _=>by omega⟩
theorem indexByte_mem(c:UInt8):∀ s:List UInt8,0≤Lib.indexByte s c↔c∈s
 |[]=>by simp[Lib.indexByte]
 |b::s=>by
  have ih:=indexByte_mem c s
  have hg:=Lib.indexByte_ge s c
  rw[List.mem_cons,← ih]
  have e0:Lib.indexByte (b::s) c=if b == c then 0 else if Lib.indexByte s c == -1 then -1 else Lib.indexByte s c+1:=rfl
  rw[e0]
  by_cases h:b=c
  ·subst h;simp
  ·have h':(b == c)=false:=by simpa using h
   rw[h']
   simp only[Bool.false_eq_true,if_false]
   split
   ·rename_i e
    have e:Lib.indexByte s c= -1:=by simpa using e
    simp only[e]
    exact⟨fun h=>absurd h (by decide),fun hh=>hh.elim (fun e=>absurd e.symm h) (fun h=>absurd h (by decide))⟩
   ·rename_i e
    have e:Lib.indexByte s c≠-1:=by simpa using e
    exact⟨fun _=> .inr (by omega),fun _=>by omega⟩
theorem kw_spaced(s:Str)(h0:s.data.toList≠[])(hs:(32:UInt8)∉s.data.toList):Lib.contains (spaced kwB) (32::s.data.toList++[32])=decide (KW s):=by
 have h:=infix_spaced s.data.toList hs h0 kwB (by decide)
 rw[Bool.eq_iff_iff,decide_eq_true_iff]
 unfold Lib.contains
 rw[decide_eq_true_iff,index_infix]
 exact h
theorem kw_blank{s:Str}(h:(32:UInt8)∈s.data.toList):¬KW s:=fun hk=>by
 have:∀ w∈kwB,(32:UInt8)∉w:=by decide
 exact this _ hk h
theorem kw_empty{s:Str}(h:s.data.toList=[]):¬KW s:=fun hk=>by
 have:∀ w∈kwB,w≠[]:=by decide
 exact this _ hk h
theorem str_ext{a b:Str}(h:a.data.toList=b.data.toList):a=b:=by
 cases a;cases b;congr 1;exact Array.ext' h
theorem str_nil{s:Str}:s=⟨#[]⟩↔s.data.toList=[]:=⟨fun h=>by rw[h],fun h=>str_ext h⟩
theorem str_app(a b:Str):(a++b).data.toList=a.data.toList++b.data.toList:=by simp
theorem str_size(a:Str):a.size=a.data.toList.length:=rfl
theorem keyword_ok(s:Str)(hs:s.size≤1000):Pure Tryz.prog 91 [sv s] (.v (.bool (decide (KW s)))):=by
 refine Pure.runk (fun _=>0) Tryz.func91 comp91 era91 (Nat.le_of_ble_eq_true rfl) fun σ=> ?_
 repeat'(first|exact .nil|refine .k0 ?_|refine .k1 ?_|refine .k2 ?_|refine .k4 ?_|refine .k7 ?_|refine .r1 ?_ ?_|refine .an rfl (by intro hob;first|exact contains_one_ok _ _|exact contains_ok _ _ (by decide)) ?_ ?_|fail)
 all_goals(try simp only[BL]at *)
 ·intro _
  simp only[ByteArray.size_append]
  have h1:(⟨#[32]⟩:Str).size=1:=rfl
  omega
 ·intro _
  have h1:(⟨#[32]⟩:Str).size=1:=rfl
  omega
 refine Sx.Fin.intro Zs ?_
 congr 2
 have e1:(⟨#[32]⟩++s++⟨#[32]⟩:Str).data.toList=32::s.data.toList++[32]:=by simp[str_app]
 rw[e1]
 have e2:Lib.contains (spaced kwB) (32::s.data.toList++[32])=Lib.contains _ (32::s.data.toList++[32]):=rfl
 by_cases h0:s.data.toList=[]
 ·rw[decide_eq_false (kw_empty h0),decide_eq_true (str_nil.2 h0)];rfl
 ·by_cases h1:(32:UInt8)∈s.data.toList
  ·rw[decide_eq_false (kw_blank h1),decide_eq_true ((indexByte_mem _ _).2 h1)];simp
  ·rw[← kw_spaced s h0 h1,decide_eq_false (fun h=>h0 (str_nil.1 h)),decide_eq_false (fun h=>h1 ((indexByte_mem _ _).1 h))]
   simp only[Bool.not_false,Bool.true_and]
   rfl
set_option maxHeartbeats 4000000 in
theorem keywordR_ok(s:Str):Pure Tryz.prog 98 [sv s] (.v (.bool (decide (KW s)))):=by
 refine Pure.runk (fun _=>0) Tryz.func98 comp98 era98 (Nat.le_of_ble_eq_true rfl) fun σ=> ?_
 repeat'(first|exact .nil|refine .k0 ?_|refine .k1 ?_|refine .k2 ?_|refine .k6 ?_|refine .k7 ?_|refine .k9 ?_|(refine .cd ?_ ?_<;>(intro hc;first|exact kf hc (by assumption)|skip))|refine .r1 ?_ ?_|fail)
 all_goals(try simp only[BL]at *)
 all_goals first
  |(refine Sx.Fin.intro Zs (bt ?_)
    subst hc
    decide)
  |(refine Sx.Fin.intro Zs (bf ?_)
    intro hk
    have hall:∀ w∈kwB,s≠⟨w.toArray⟩:=by
     simp only[kwB,List.forall_mem_cons]
     repeat'(first|assumption|(intro _ h;cases h;done)|refine⟨?_,?_⟩)
    exact hall _ hk (str_ext (by simp)))
theorem size_zero{s:Str}:s.size=0↔s=⟨#[]⟩:=by
 rw[str_nil,str_size];exact List.length_eq_zero_iff
theorem name_le(s:Str)(h24:s.size≤24):Pure Tryz.prog 62 [sv s] (.v (.bool (decide (Name s)))):=by
 refine Pure.runk (fun _=>0) Tryz.func62 comp62 era62 (Nat.le_of_ble_eq_true rfl) fun σ=> ?_
 repeat'(first|exact .nil|refine .k0 ?_|refine .k1 ?_|refine .k2 ?_|refine .k4 ?_|refine .k6 ?_|refine .k7 ?_|refine .k9 ?_|(refine .cd ?_ ?_<;>(intro hc;skip))|refine .r1 ?_ ?_|refine .an rfl (by intro hob;first|exact keyword_ok _ (by first|omega|fail)|fail) ?_ ?_|fail)
 try any_goals(exact Zo)
 all_goals(try simp only[BL]at *)
 ·refine Sx.Fin.intro Zs (bf ?_)
  rintro⟨⟨h1,_⟩,h2⟩
  rcases hc with(hc|hc)|hc
  ·have:=size_zero.2 hc;omega
  ·omega
  ·exact h2 hc
 have hne:s.size≠0:=fun h=>hc.1.1 (size_zero.1 h)
 refine WK_loop (fun n rg σ'=>∃ i:Nat,i≤s.size∧n=s.size-i∧(0<i→Low (byteAt s 0).toNat)∧(∀ j,j<i→Wch (byteAt s j).toNat)∧σ'=σ∧rg=[(0,sv s),(17,iv s.size),(18,iv i)]) s.size rfl ⟨_,_,Zr,Zs,0,Nat.zero_le _,rfl,fun h=>absurd h (by omega),fun j hj=>absurd hj (by omega),rfl,rfl⟩ ?_
 rintro n _ _ ⟨i,hi,hn,hp0,hp,rfl,rfl⟩
 repeat'(first|exact .nil|refine .k0 ?_|refine .k1 ?_|refine .k2 ?_|refine .k4 ?_|refine .k6 ?_|refine .k7 ?_|refine .k8 ?_|refine .k9 ?_|(refine .cd ?_ ?_<;>(intro hc;skip))|refine .r1 ?_ ?_|refine .t5 ?_ ?_ ?_|fail)
 try any_goals(exact Zo)
 all_goals(try simp only[BL]at *)
 ·refine⟨s.size-(i+1),by omega,_,_,Zr,Zs,i+1,by omega,rfl,fun _=> ?_,cons_lt hp (.inl (by simp only[Low];omega)),rfl,by rw[i64w (by omega)];rfl⟩
  by_cases h0:i=0
  ·subst h0;simp only[Low];omega
  ·exact hp0 (by omega)
 ·refine⟨s.size-(i+1),by omega,_,_,Zr,Zs,i+1,by omega,rfl,fun _=>hp0 (by omega),cons_lt hp ?_,rfl,by rw[i64w (by omega)];rfl⟩
  simp only[Low,Dig,Wch];omega
 ·refine Sx.Fin.intro Zs (bf ?_)
  rintro⟨⟨_,_,h0,h1⟩,_⟩
  have h2:=h1 i (by omega)
  by_cases h3:i=0
  ·subst h3;simp only[Low,Dig,Wch]at *;omega
  ·simp only[Low,Dig,Wch]at *;omega
 ·refine Sx.Fin.intro Zs (bt ?_)
  exact⟨⟨by omega,h24,hp0 (by omega),fun j hj=>hp j (by omega)⟩,by rename_i h1 _;exact h1.2⟩
theorem name_gt(s:Str)(h24:¬s.size≤24):Pure Tryz.prog 62 [sv s] (.v (.bool (decide (Name s)))):=by
 refine Pure.runk (fun _=>0) Tryz.func62 comp62 era62 (Nat.le_of_ble_eq_true rfl) fun σ=> ?_
 repeat'(first|exact .nil|refine .k0 ?_|refine .k1 ?_|refine .k2 ?_|refine .k4 ?_|refine .k6 ?_|refine .k7 ?_|refine .k9 ?_|(refine .cd ?_ ?_<;>(intro hc;skip))|refine .r1 ?_ ?_|refine .an rfl (by intro hob;first|exact keyword_ok _ (by(simp only[BL]at *;omega))|fail) ?_ ?_|fail)
 try any_goals(exact Zo)
 all_goals(try simp only[BL]at *)
 ·refine Sx.Fin.intro Zs (bf ?_)
  rintro⟨⟨_,h2,_⟩,_⟩
  omega
 ·exfalso
  omega
theorem name_ok(s:Str):Pure Tryz.prog 62 [sv s] (.v (.bool (decide (Name s)))):=by
 by_cases h:s.size≤24
 ·exact name_le s h
 ·exact name_gt s h
def wordLen(l:List UInt8)(at_:Nat):Nat:=match l.drop at_ with
 |[]=>0
 |c::t=>if Low c.toNat then 1+(t.takeWhile fun c=>decide (Wch c.toNat)).length else 0
theorem takeWhile_len{α:Type}[Inhabited α](p:α→Bool):∀ (t:List α) (n:Nat),n≤t.length→(∀ j,j<n→p (t.getD j default)=true)→(n=t.length∨p (t.getD n default)=false)→(t.takeWhile p).length=n
 |[],n,h,_,_=>by simp at h;simp[h]
 |c::t,0,_,_,h=>by
  rcases h with h|h
  ·simp at h
  ·have h:p c=false:=by simpa using h
   rw[List.takeWhile_cons,h];rfl
 |c::t,n+1,h,ha,he=>by
  have h0:p c=true:=by simpa using ha 0 (by omega)
  rw[List.takeWhile_cons,h0]
  simp only[if_true,List.length_cons]
  rw[takeWhile_len p t n (by simpa using h) (fun j hj=>by simpa using ha (j+1) (by omega)) (by simpa using he)]
theorem wordLen_0{l:List UInt8}{k:Nat}(hk:k<l.length)(h:¬Low (l.getD k default).toNat):wordLen l k=0:=by
 unfold wordLen
 rw[drop_get hk]
 simp only[if_neg h]
theorem wordLen_n{l:List UInt8}{k n:Nat}(hk:k<l.length)(h:Low (l.getD k default).toNat)(hn:1≤n)(hle:k+n≤l.length)(ha:∀ j,1≤j→j<n→Wch (l.getD (k+j) default).toNat)(he:k+n=l.length∨¬Wch (l.getD (k+n) default).toNat):wordLen l k=n:=by
 unfold wordLen
 rw[drop_get hk]
 simp only[if_pos h]
 have e:∀ j,(l.drop (k+1)).getD j default=l.getD (k+(j+1)) default:=fun j=>by simp only[List.getD_eq_getElem?_getD,List.getElem?_drop];congr 2;omega
 rw[takeWhile_len _ _ (n-1) (by simp;omega) (fun j hj=>by rw[e];exact decide_eq_true (ha (j+1) (by omega) (by omega)))]
 ·omega
 ·rw[e,show n-1+1=n from by omega]
  rcases he with he|he
  ·left;simp;omega
  ·right;exact decide_eq_false he
theorem word83_ok(l:List UInt8)(k:Nat)(nn:Bool)(hk:k<l.length)(hl:l.length≤9000000000000000000):Pure Tryz.prog 97 [.sl nn 1 (l.map byteRow),iv k] (iv (wordLen l k)):=by
 refine Pure.runk (fun _=>0) Tryz.func97 comp97 era97 (Nat.le_of_ble_eq_true rfl) fun σ=> ?_
 repeat'(first|exact .nil|refine .k0 ?_|refine .k1 ?_|refine .k2 ?_|refine .k6 ?_|refine .k7 ?_|refine .k9 ?_|(refine .cd ?_ ?_<;>(intro hc;skip))|refine .r1 ?_ ?_|refine .t1 ?_ ?_ ?_|refine .an rfl (by intro hob;first|exact letter_ok _|fail) ?_ ?_|fail)
 try any_goals(exact Zo)
 all_goals(try simp only[BL]at *)
 ·rw[wordLen_0 hk hc];exact Zw
 refine WK_loop (fun n rg σ'=>∃ i:Nat,1≤i∧k+i≤l.length∧n=l.length-i∧(∀ j,1≤j→j<i→Wch (l.getD (k+j) default).toNat)∧σ'=σ∧rg=[(0,.sl nn 1 (l.map byteRow)),(1,iv k),(5,iv i)]) (l.length-1) rfl ⟨_,_,Zr,Zs,1,Nat.le_refl _,by omega,rfl,fun j h1 h2=>absurd h2 (by omega),rfl,rfl⟩ ?_
 rintro n _ _ ⟨i,hi,hle,hn,hp,rfl,rfl⟩
 repeat'(first|exact .nil|refine .k0 ?_|refine .k1 ?_|refine .k2 ?_|refine .k3 ?_|refine .k4 ?_|refine .k6 ?_|refine .k7 ?_|refine .k8 ?_|refine .k9 ?_|(refine .cd ?_ ?_<;>(intro hc;skip))|refine .r1 ?_ ?_|(refine .m2 ?_ ?_;intro hlen)|refine .t1 ?_ ?_ ?_|refine .an rfl (by intro hob;first|exact letter_ok _|exact digit_ok _) ?_ ?_|fail)
 all_goals(try simp only[BL]at *)
 all_goals(have hw:IntKind.i64.wrap ((k:Int)+i)=((k+i:Nat):Int):=by rw[i64w (by omega)];omega)
 all_goals(simp only[hw,Int.toNat_natCast]at *)
 ·refine⟨l.length-(i+1),by omega,_,_,Zr,Zs,i+1,by omega,by omega,rfl,fun j h1 h2=> ?_,rfl,by rw[i64w (by omega)];rfl⟩
  by_cases h:j<i
  ·exact hp j h1 h
  ·obtain rfl:j=i:=by omega
   rcases hc.2 with(h3|h3)|h3
   ·exact .inl h3
   ·exact .inr (.inl h3)
   ·exact .inr (.inr (by omega))
 ·have h0:Low (l.getD k default).toNat:=by assumption
  rw[wordLen_n hk h0 hi hle hp (by
   rcases hc with h1|h1
   ·left;omega
   ·right
    rintro(h3|h3|h3)
    ·exact h1.1.1 h3
    ·exact h1.1.2 h3
    ·exact h1.2 (by omega))]
  exact Zw
 all_goals(intro h1;omega)
theorem wordLen_size{s:Str}(h1:1≤s.size):(wordLen s.data.toList 0=s.size)↔(Low (byteAt s 0).toNat∧∀ i,i<s.size→Wch (byteAt s i).toNat):=by
 have hl:s.data.toList.length=s.size:=rfl
 have hb:∀ i,s.data.toList.getD i default=byteAt s i:=fun i=>rfl
 constructor
 ·intro h
  have h0:Low (byteAt s 0).toNat:=by
   by_cases h2:Low (byteAt s 0).toNat
   ·exact h2
   ·rw[wordLen_0 (by omega) (by rw[hb];exact h2)]at h;omega
  refine⟨h0,fun i hi=> ?_⟩
  by_cases hi0:i=0
  ·subst hi0;exact .inl h0
  ·unfold wordLen at h
   rw[drop_get (by omega:0<s.data.toList.length),hb]at h
   simp only[Nat.zero_add,if_pos h0]at h
   have hlen:(s.data.toList.drop 1).length=s.size-1:=by rw[List.length_drop,hl]
   have hpre:=List.takeWhile_prefix (p:=fun c:UInt8=>decide (Wch c.toNat)) (l:=s.data.toList.drop 1)
   have heq:=hpre.eq_of_length (by omega)
   have hmem:byteAt s i∈s.data.toList.drop 1:=by
    rw[← hb,getD_eq (by omega:i<s.data.toList.length)]
    rw[List.mem_iff_getElem]
    exact⟨i-1,by omega,by rw[List.getElem_drop];congr 1;omega⟩
   rw[← heq]at hmem
   have:=List.all_eq_true.1 (List.all_takeWhile (p:=fun c:UInt8=>decide (Wch c.toNat)) (l:=s.data.toList.drop 1)) _ hmem
   exact of_decide_eq_true this
 ·rintro⟨h0,h⟩
  exact wordLen_n (by omega) (by rw[hb];exact h0) h1 (by omega) (fun j _ hj=>by rw[hb,Nat.zero_add];exact h j (by omega)) (.inl (by omega))
theorem word0_ok(s:Str)(h:¬s=⟨#[]⟩∧s.size≤24):Pure Tryz.prog 97 [.sl true 1 (s.data.toList.map byteRow),iv 0] (iv (wordLen s.data.toList 0)):=by
 have h0:s.size≠0:=fun e=>h.1 (size_zero.1 e)
 exact word83_ok s.data.toList 0 true (by rw[← str_size];omega) (by rw[← str_size];omega)
theorem nameR_ok(s:Str):Pure Tryz.prog 68 [sv s] (.v (.bool (decide (Name s)))):=by
 refine Pure.runk (fun _=>0) Tryz.func68 comp68 era68 (Nat.le_of_ble_eq_true rfl) fun σ=> ?_
 repeat'(first|exact .nil|refine .k0 ?_|refine .k1 ?_|refine .k2 ?_|refine .k4 ?_|refine .k7 ?_|refine .r1 ?_ ?_|refine .an rfl (by intro hob;first|exact keywordR_ok _|exact word0_ok _ (by simp only[BL]at hob;exact⟨hob.1,by omega⟩)) ?_ ?_|refine .t7 ?_ ?_ ?_|fail)
 try any_goals(exact Zo)
 all_goals(try simp only[BL]at *)
 ·(refine Sx.Fin.intro Zs (bd ?_);(try simp only[BL]at *);(try simp only[Low,Dig,Wch,and_assoc]at *))
  unfold Name Word
  constructor
  ·rintro⟨h1,h2,h3,h4⟩
   have h0:s.size≠0:=fun e=>h1 (size_zero.1 e)
   have h6:wordLen s.data.toList 0=s.size:=by omega
   have h5:=(wordLen_size (by omega)).1 h6
   exact⟨⟨by omega,by omega,h5⟩,h4⟩
  ·rintro⟨⟨h1,h2,h3⟩,h4⟩
   have h5:=(wordLen_size h1).2 h3
   exact⟨fun e=>by have:=size_zero.2 e;omega,by omega,by omega,h4⟩
def firstIdx{α:Type}(p:α→Bool):List α→Nat→Int
 |[],_=> -1
 |x::l,k=>if p x then k else firstIdx p l (k+1)
theorem firstIdx_ge{α:Type}(p:α→Bool):∀ (l:List α) (k:Nat),0≤firstIdx p l k↔∃ x∈l,p x=true
 |[],k=>by simp[firstIdx]
 |x::l,k=>by
  unfold firstIdx
  cases h:p x with
  |true=>simp[h]
  |false=>simp[h,firstIdx_ge p l (k+1)]
theorem firstIdx_no{α:Type}{p:α→Bool}:∀ {l:List α} {k:Nat},(∀ x∈l,p x=false)→firstIdx p l k= -1
 |[],k,_=>rfl
 |x::l,k,h=>by unfold firstIdx;rw[h x (by simp)];exact firstIdx_no fun y hy=>h y (by simp[hy])
theorem firstIdx_at{α:Type}[Inhabited α]{p:α→Bool}:∀ {l:List α} {k i:Nat},(∀ j,j<i→p (l.getD j default)=false)→i<l.length→p (l.getD i default)=true→firstIdx p l k=((k+i:Nat):Int)
 |[],k,i,_,h,_=>absurd h (by simp)
 |x::l,k,0,_,_,h=>by
  have h:p x=true:=h
  unfold firstIdx;rw[h];simp
 |x::l,k,i+1,ha,hi,h=>by
  have h0:p x=false:=ha 0 (by omega)
  unfold firstIdx
  rw[h0]
  simp only[Bool.false_eq_true,if_false]
  rw[firstIdx_at (k:=k+1) (i:=i) (fun j hj=>ha (j+1) (by omega)) (by simpa using hi) h]
  congr 1;omega
theorem take_all{α:Type}[Inhabited α]{p:α→Prop}{l:List α}(h:∀ j,j<l.length→p (l.getD j default)):∀ x∈l,p x:=fun x hx=>by
 obtain⟨i,hi,rfl⟩:=List.mem_iff_getElem.1 hx
 have:=h i hi
 rwa [getD_eq hi]at this
theorem indexS_ok(l:List Str)(x:Str):Pure Tryz.prog 146 [.sl false 1 (l.map strRow),sv x] (iv (firstIdx (fun y=>decide (x=y)) l 0)):=by
 refine Pure.runk (fun _=>0) Tryz.func146 comp146 era146 (Nat.le_of_ble_eq_true rfl) fun σ=> ?_
 repeat'(first|exact .nil|refine .k0 ?_|refine .k1 ?_|refine .k2 ?_|refine .k6 ?_|refine .r1 ?_ ?_|(refine .m2 ?_ ?_;intro hlen)|fail)
 all_goals(try simp only[BL]at *)
 refine WK_loop (fun n rg σ'=>∃ i:Nat,i≤l.length∧n=l.length-i∧(∀ j,j<i→¬x=l.getD j default)∧σ'=σ∧rg=[(0,.sl false 1 (l.map strRow)),(1,sv x),(7,iv l.length),(8,iv i)]) l.length rfl ⟨_,_,Zr,Zs,0,Nat.zero_le _,rfl,fun j hj=>absurd hj (by omega),rfl,rfl⟩ ?_
 rintro n _ _ ⟨i,hi,hn,hp,rfl,rfl⟩
 repeat'(first|exact .nil|refine .k0 ?_|refine .k1 ?_|refine .k2 ?_|refine .k6 ?_|refine .k7 ?_|refine .k8 ?_|refine .k9 ?_|(refine .cd ?_ ?_<;>(intro hc;skip))|refine .r1 ?_ ?_|refine .t1 ?_ ?_ ?_|fail)
 try any_goals(exact Zo)
 all_goals(try simp only[BL]at *)
 ·rw[firstIdx_at (p:=fun y=>decide (x=y)) (l:=l) (k:=0) (i:=i) (fun j hj=>decide_eq_false (hp j hj)) (by omega) (decide_eq_true hc),Nat.zero_add]
  exact Zw
 ·refine⟨l.length-(i+1),by omega,_,_,Zr,Zs,i+1,by omega,rfl,cons_lt hp hc,rfl,by rw[up1 (by omega) hlen]⟩
 ·rw[firstIdx_no (fun y hy=>decide_eq_false (take_all (p:=fun y=>¬x=y) (fun j hj=>hp j (by omega)) y hy))]
  exact Zw
theorem containsS_ok(l:List Str)(x:Str):Pure Tryz.prog 110 [.sl false 1 (l.map strRow),sv x] (.v (.bool (decide (∃ y∈l,x=y)))):=by
 refine Pure.runk (fun _=>0) Tryz.func110 comp110 era110 (Nat.le_of_ble_eq_true rfl) fun σ=> ?_
 repeat'(first|exact .nil|refine .k0 ?_|refine .k1 ?_|refine .k2 ?_|refine .k7 ?_|refine .r1 ?_ ?_|refine .an rfl (by intro hob;exact indexS_ok _ _) ?_ ?_|fail)
 all_goals(try simp only[BL]at *)
 ·(refine Sx.Fin.intro Zs (bd ?_);(try simp only[BL]at *);(try simp only[Low,Dig,Wch,and_assoc]at *))
  rw[firstIdx_ge]
  simp only[decide_eq_true_eq]
theorem one_ok(l:List Str)(x:Str):Pure Tryz.prog 154 [sv x,.sl false 1 (l.map strRow)] (.v (.bool (decide (∃ y∈l,x=y)))):=by
 refine Pure.runk (fun _=>0) Tryz.func154 comp154 era154 (Nat.le_of_ble_eq_true rfl) fun σ=> ?_
 repeat'(first|exact .nil|refine .k0 ?_|refine .k1 ?_|refine .k2 ?_|refine .k6 ?_|refine .r1 ?_ ?_|fail)
 all_goals(try simp only[BL]at *)
 refine WK_loop (fun n rg σ'=>∃ i:Nat,i≤l.length∧n=l.length-i∧(∀ j,j<i→¬l.getD j default=x)∧σ'=σ∧rg=[(0,sv x),(1,.sl false 1 (l.map strRow)),(5,iv i)]) l.length rfl ⟨_,_,Zr,Zs,0,Nat.zero_le _,rfl,fun j hj=>absurd hj (by omega),rfl,rfl⟩ ?_
 rintro n _ _ ⟨i,hi,hn,hp,rfl,rfl⟩
 repeat'(first|exact .nil|refine .k0 ?_|refine .k1 ?_|refine .k2 ?_|refine .k6 ?_|refine .k7 ?_|refine .k8 ?_|refine .k9 ?_|(refine .cd ?_ ?_<;>(intro hc;skip))|refine .r1 ?_ ?_|(refine .m2 ?_ ?_;intro hlen)|refine .t1 ?_ ?_ ?_|fail)
 try any_goals(exact Zo)
 all_goals(try simp only[BL]at *)
 ·refine Sx.Fin.intro Zs (bt ?_)
  exact⟨_,getD_mem (by omega),hc.symm⟩
 ·refine⟨l.length-(i+1),by omega,_,_,Zr,Zs,i+1,by omega,rfl,cons_lt hp hc,rfl,by rw[up1 (by omega) hlen]⟩
 ·refine Sx.Fin.intro Zs (bf ?_)
  rintro⟨y,hy,rfl⟩
  exact take_all (p:=fun y=>¬y=x) (fun j hj=>hp j (by omega)) x hy rfl
theorem facNo_ok(f:Fac):Pure Tryz.prog 95 [.agg f.cells] (.v (.bool (decide (¬Name f.name)))):=by
 refine Pure.runk (fun _=>0) Tryz.func95 comp95 era95 (Nat.le_of_ble_eq_true rfl) fun σ=> ?_
 repeat'(first|exact .nil|refine .k0 ?_|refine .k1 ?_|refine .k2 ?_|refine .k7 ?_|refine .r1 ?_ ?_|(refine .m1 ?_ ?_;intro b)|refine .an rfl (by intro hob;exact name_ok _) ?_ ?_|fail)
 all_goals(try simp only[BL]at *)
 ·refine Sx.Fin.intro Zs ?_
  rw[decide_not]
theorem indexF_ok(u:List Fac):Pure Tryz.prog 124 [.sl false 2 (u.map Fac.cells),.v (.func (.func 95) #[] #[])] (iv (firstIdx (fun f=>decide (¬Name f.name)) u 0)):=by
 refine Pure.runk (fun _=>0) Tryz.func124 comp124 era124 (Nat.le_of_ble_eq_true rfl) fun σ=> ?_
 repeat'(first|exact .nil|refine .k0 ?_|refine .k1 ?_|refine .k2 ?_|refine .k6 ?_|refine .r1 ?_ ?_|(refine .m2 ?_ ?_;intro hlen)|fail)
 all_goals(try simp only[BL]at *)
 refine WK_loop (fun n rg σ'=>∃ i:Nat,i≤u.length∧n=u.length-i∧(∀ j,j<i→Name (u.getD j default).name)∧σ'=σ∧rg=[(0,.sl false 2 (u.map Fac.cells)),(1,.v (.func (.func 95) #[] #[])),(7,iv u.length),(8,iv i)]) u.length rfl ⟨_,_,Zr,Zs,0,Nat.zero_le _,rfl,fun j hj=>absurd hj (by omega),rfl,rfl⟩ ?_
 rintro n _ _ ⟨i,hi,hn,hp,rfl,rfl⟩
 repeat'(first|exact .nil|refine .k0 ?_|refine .k1 ?_|refine .k2 ?_|refine .k6 ?_|refine .k7 ?_|refine .k8 ?_|refine .k9 ?_|(refine .cd ?_ ?_<;>(intro hc;skip))|refine .r1 ?_ ?_|refine .t1 ?_ ?_ ?_|refine .an rfl (by intro hob;exact facNo_ok _) ?_ ?_|fail)
 try any_goals(exact Zo)
 all_goals(try simp only[BL]at *)
 ·rw[firstIdx_at (p:=fun f:Fac=>decide (¬Name f.name)) (l:=u) (k:=0) (i:=i) (fun j hj=>decide_eq_false (fun h=>h (hp j hj))) (by omega) (decide_eq_true hc),Nat.zero_add]
  exact Zw
 ·refine⟨u.length-(i+1),by omega,_,_,Zr,Zs,i+1,by omega,rfl,cons_lt hp (Decidable.not_not.1 hc),rfl,by rw[up1 (by omega) hlen]⟩
 ·rw[firstIdx_no (fun y hy=>decide_eq_false (fun h=>h (take_all (p:=fun y:Fac=>Name y.name) (fun j hj=>hp j (by omega)) y hy)))]
  exact Zw
theorem containsF_ok(u:List Fac):Pure Tryz.prog 94 [.sl false 2 (u.map Fac.cells),.v (.func (.func 95) #[] #[])] (.v (.bool (decide (∃ f∈u,¬Name f.name)))):=by
 refine Pure.runk (fun _=>0) Tryz.func94 comp94 era94 (Nat.le_of_ble_eq_true rfl) fun σ=> ?_
 repeat'(first|exact .nil|refine .k0 ?_|refine .k1 ?_|refine .k2 ?_|refine .k7 ?_|refine .r1 ?_ ?_|refine .an rfl (by intro hob;exact indexF_ok _) ?_ ?_|fail)
 all_goals(try simp only[BL]at *)
 ·(refine Sx.Fin.intro Zs (bd ?_);(try simp only[BL]at *);(try simp only[Low,Dig,Wch,and_assoc]at *))
  rw[firstIdx_ge]
  simp only[decide_eq_true_eq]
theorem eq_of_getD{α:Type}[Inhabited α]{a b:List α}(hl:a.length=b.length)(h:∀ j,j<a.length→a.getD j default=b.getD j default):a=b:=by
 apply List.ext_getElem hl
 intro i h1 h2
 have:=h i h1
 rwa [getD_eq h1,getD_eq h2]at this
theorem fac_eq{a b:Fac}(h:a.name=b.name∧a.exp=b.exp):a=b:=by cases a;cases b;simp_all
theorem same_ok(a b:List Fac):Pure Tryz.prog 105 [.sl false 2 (a.map Fac.cells),.sl false 2 (b.map Fac.cells)] (.v (.bool (decide (a=b)))):=by
 refine Pure.runk (fun _=>0) Tryz.func105 comp105 era105 (Nat.le_of_ble_eq_true rfl) fun σ=> ?_
 repeat'(first|exact .nil|refine .k0 ?_|refine .k1 ?_|refine .k2 ?_|refine .k6 ?_|refine .k7 ?_|refine .k9 ?_|(refine .cd ?_ ?_<;>(intro hc;skip))|refine .r1 ?_ ?_|(refine .m2 ?_ ?_;intro hlen)|fail)
 all_goals(try simp only[BL]at *)
 ·refine Sx.Fin.intro Zs (bf ?_)
  rintro rfl;exact hc rfl
 refine WK_loop (fun n rg σ'=>∃ i:Nat,i≤a.length∧n=a.length-i∧(∀ j,j<i→a.getD j default=b.getD j default)∧σ'=σ∧rg=[(0,.sl false 2 (a.map Fac.cells)),(1,.sl false 2 (b.map Fac.cells)),(5,iv i)]) a.length rfl ⟨_,_,Zr,Zs,0,Nat.zero_le _,rfl,fun j hj=>absurd hj (by omega),rfl,rfl⟩ ?_
 rintro n _ _ ⟨i,hi,hn,hp,rfl,rfl⟩
 repeat'(first|exact .nil|refine .k0 ?_|refine .k1 ?_|refine .k2 ?_|refine .k5 ?_|refine .k6 ?_|refine .k7 ?_|refine .k8 ?_|refine .k9 ?_|(refine .cd ?_ ?_<;>(intro hc;skip))|refine .r1 ?_ ?_|(refine .m2 ?_ ?_;intro hlen)|refine .t1 ?_ ?_ ?_|fail)
 try any_goals(exact Zo)
 all_goals(try simp only[BL]at *)
 ·refine Sx.Fin.intro Zs (bf ?_)
  rintro rfl
  rcases hc with hc|hc<;>exact hc rfl
 ·refine⟨a.length-(i+1),by omega,_,_,Zr,Zs,i+1,by omega,rfl,cons_lt hp (fac_eq hc),rfl,by rw[up1 (by omega) hlen]⟩
 ·refine Sx.Fin.intro Zs (bt ?_)
  exact eq_of_getD (by omega) (fun j hj=>hp j (by omega))
theorem equal_ok(a b:List Fac):Pure Tryz.prog 125 [.sl false 2 (a.map Fac.cells),.sl false 2 (b.map Fac.cells)] (.v (.bool (decide (a=b)))):=by
 refine Pure.runk (fun _=>0) Tryz.func125 comp125 era125 (Nat.le_of_ble_eq_true rfl) fun σ=> ?_
 repeat'(first|exact .nil|refine .k0 ?_|refine .k1 ?_|refine .k2 ?_|refine .k6 ?_|refine .k7 ?_|refine .k9 ?_|(refine .cd ?_ ?_<;>(intro hc;skip))|refine .r1 ?_ ?_|(refine .m2 ?_ ?_;intro hlen)|fail)
 all_goals(try simp only[BL]at *)
 ·refine Sx.Fin.intro Zs (bf ?_)
  rintro rfl;exact hc rfl
 refine WK_loop (fun n rg σ'=>∃ i:Nat,i≤a.length∧n=a.length-i∧(∀ j,j<i→a.getD j default=b.getD j default)∧σ'=σ∧rg=[(0,.sl false 2 (a.map Fac.cells)),(1,.sl false 2 (b.map Fac.cells)),(12,iv a.length),(13,iv i)]) a.length rfl ⟨_,_,Zr,Zs,0,Nat.zero_le _,rfl,fun j hj=>absurd hj (by omega),rfl,rfl⟩ ?_
 rintro n _ _ ⟨i,hi,hn,hp,rfl,rfl⟩
 repeat'(first|exact .nil|refine .k0 ?_|refine .k1 ?_|refine .k2 ?_|refine .k5 ?_|refine .k6 ?_|refine .k7 ?_|refine .k8 ?_|refine .k9 ?_|(refine .cd ?_ ?_<;>(intro hc;skip))|refine .r1 ?_ ?_|refine .t1 ?_ ?_ ?_|fail)
 try any_goals(exact Zo)
 all_goals(try simp only[BL]at *)
 ·refine Sx.Fin.intro Zs (bf ?_)
  rintro rfl
  rcases hc with hc|hc<;>exact hc rfl
 ·refine⟨a.length-(i+1),by omega,_,_,Zr,Zs,i+1,by omega,rfl,cons_lt hp (fac_eq hc),rfl,by rw[up1 (by omega) hlen]⟩
 ·refine Sx.Fin.intro Zs (bt ?_)
  exact eq_of_getD (by omega) (fun j hj=>hp j (by omega))
def leS(a b:Str):Bool:=Op.bytesLess a.toList b.toList || decide (a=b)
def facErr(p:Option Str)(f:Fac):Int:=if¬Word f.name then 1 else if f.exp=0∨f.exp>8∨f.exp< -8 then 70 else match p with
 |some p=>if leS f.name p=true then 3 else 0
 |none=>0
def unitErrL:Option Str→List Fac→Int
 |_,[]=>0
 |p,f::l=>if facErr p f=0 then unitErrL (some f.name) l else facErr p f
def unitErr(u:List Fac):Int:=if u.length>4 then 2 else unitErrL none u
def prevAt(u:List Fac)(i:Nat):Option Str:=if i=0 then none else some (u.getD (i-1) default).name
theorem unitErrL_step{u:List Fac}{i:Nat}(hi:i<u.length)(h:facErr (prevAt u i) (u.getD i default)=0):unitErrL (prevAt u i) (u.drop i)=unitErrL (prevAt u (i+1)) (u.drop (i+1)):=by
 rw[drop_get hi,unitErrL,if_pos h];rfl
theorem unitErrL_end{u:List Fac}{i:Nat}{e:Int}(hi:i<u.length)(h:facErr (prevAt u i) (u.getD i default)=e)(he:e≠0):unitErrL (prevAt u i) (u.drop i)=e:=by
 rw[drop_get hi,unitErrL,if_neg (by rw[h];exact he),h]
theorem unitCheck_ok(u:List Fac):Pure Tryz.prog 93 [.sl false 2 (u.map Fac.cells)] (iv (unitErr u)):=by
 refine Pure.runk (fun _=>0) Tryz.func93 comp93 era93 (Nat.le_of_ble_eq_true rfl) fun σ=> ?_
 repeat'(first|exact .nil|refine .k0 ?_|refine .k1 ?_|refine .k2 ?_|refine .k6 ?_|refine .k7 ?_|refine .k9 ?_|(refine .cd ?_ ?_<;>(intro hc;skip))|refine .r1 ?_ ?_|(refine .m2 ?_ ?_;intro hlen)|fail)
 all_goals(try simp only[BL]at *)
 ·rw[unitErr,if_pos (by omega)]
  exact Zw
 have hu:unitErr u=unitErrL none u:=if_neg (by omega)
 refine WK_loop (fun n rg σ'=>∃ i:Nat,i≤u.length∧n=u.length-i∧unitErr u=unitErrL (prevAt u i) (u.drop i)∧σ'=σ∧rg=[(0,.sl false 2 (u.map Fac.cells)),(8,.sl false 2 (u.map Fac.cells)),(9,iv u.length),(10,iv i)]) u.length rfl ⟨_,_,Zr,Zs,0,Nat.zero_le _,rfl,hu,rfl,rfl⟩ ?_
 rintro n _ _ ⟨i,hi,hn,hp,rfl,rfl⟩
 repeat'(first|exact .nil|refine .k0 ?_|refine .k1 ?_|refine .k2 ?_|refine .k3 ?_|refine .k4 ?_|refine .k5 ?_|refine .k6 ?_|refine .k7 ?_|refine .k8 ?_|refine .k9 ?_|(refine .cd ?_ ?_<;>(intro hc;skip))|refine .r1 ?_ ?_|(refine .l1 ?_;intro b)|refine .t1 ?_ ?_ ?_|refine .an rfl (by intro hob;first|exact word_ok _|exact outside_ok _ 8 (by decide)|fail) ?_ ?_|fail)
 try any_goals(exact Zo)
 all_goals(try simp only[BL]at *)
 ·rw[hp,unitErrL_end (e:=1) (by omega) (by unfold facErr;rw[if_pos hc]) (by decide)]
  exact Zw
 ·rename_i hw
  rw[hp,unitErrL_end (e:=70) (by omega) (by unfold facErr;rw[if_neg (fun h=>h hw),if_pos (by omega)]) (by decide)]
  exact Zw
 ·rename_i hw he
  rw[pred1 (by omega) (by omega),Int.toNat_natCast]at hc
  rw[hp,unitErrL_end (e:=3) (by omega) (by
   unfold facErr;rw[if_neg (fun h=>h hw),if_neg (by omega),prevAt,if_neg (by omega)]
   exact if_pos (by simp only[leS,Bool.or_eq_true,decide_eq_true_eq];exact hc.2)) (by decide)]
  exact Zw
 ·rename_i hw he
  refine⟨u.length-(i+1),by omega,_,_,Zr,Zs,i+1,by omega,rfl,?_,rfl,by rw[up1 (n:=u.length) (by omega) (by assumption)]⟩
  rw[hp]
  refine unitErrL_step (by omega) ?_
  unfold facErr;rw[if_neg (fun h=>h hw),if_neg (by omega)]
  by_cases h0:i=0
  ·rw[prevAt,if_pos h0]
  ·rw[pred1 (by omega) (by omega),Int.toNat_natCast]at hc
   rw[prevAt,if_neg h0]
   refine if_neg ?_
   rcases hc with hc|hc
   ·omega
   ·simp only[leS,Bool.or_eq_true,decide_eq_true_eq]
    rintro(h|h)
    ·rw[h]at hc;exact Bool.noConfusion hc.1
    ·exact hc.2 h
 all_goals(try(intro h0;rw[pred1 (by omega) (by omega)];omega))
 ·rw[hp,List.drop_eq_nil_of_le (by omega),unitErrL]
  exact Zw
theorem unitCheckR_ok(u:List Fac):Pure Tryz.prog 100 [.sl false 2 (u.map Fac.cells)] (iv (unitErr u)):=by
 refine Pure.runk (fun _=>0) Tryz.func100 comp100 era100 (Nat.le_of_ble_eq_true rfl) fun σ=> ?_
 repeat'(first|exact .nil|refine .k0 ?_|refine .k1 ?_|refine .k2 ?_|refine .k6 ?_|refine .k7 ?_|refine .k9 ?_|(refine .cd ?_ ?_<;>(intro hc;skip))|refine .r1 ?_ ?_|(refine .m2 ?_ ?_;intro hlen)|fail)
 all_goals(try simp only[BL]at *)
 ·rw[unitErr,if_pos (by omega)]
  exact Zw
 have hu:unitErr u=unitErrL none u:=if_neg (by omega)
 refine WK_loop (fun n rg σ'=>∃ i:Nat,i≤u.length∧n=u.length-i∧unitErr u=unitErrL (prevAt u i) (u.drop i)∧σ'=σ∧rg=[(0,.sl false 2 (u.map Fac.cells)),(3,iv i)]) u.length rfl ⟨_,_,Zr,Zs,0,Nat.zero_le _,rfl,hu,rfl,rfl⟩ ?_
 rintro n _ _ ⟨i,hi,hn,hp,rfl,rfl⟩
 repeat'(first|exact .nil|refine .k0 ?_|refine .k1 ?_|refine .k2 ?_|refine .k3 ?_|refine .k4 ?_|refine .k5 ?_|refine .k6 ?_|refine .k7 ?_|refine .k8 ?_|refine .k9 ?_|(refine .cd ?_ ?_<;>(intro hc;skip))|refine .r1 ?_ ?_|(refine .m2 ?_ ?_;intro hlen)|refine .t1 ?_ ?_ ?_|refine .an rfl (by intro hob;first|exact wordR_ok _|exact far_ok _) ?_ ?_|fail)
 try any_goals(exact Zo)
 all_goals(try simp only[BL]at *)
 ·rw[hp,unitErrL_end (e:=1) (by omega) (by unfold facErr;rw[if_pos hc]) (by decide)]
  exact Zw
 ·rename_i hw
  rw[hp,unitErrL_end (e:=70) (by omega) (by unfold facErr;rw[if_neg (fun h=>h hw),if_pos (by omega)]) (by decide)]
  exact Zw
 ·rename_i hw he
  rw[pred1 (by omega) (by omega),Int.toNat_natCast]at hc
  rw[hp,unitErrL_end (e:=3) (by omega) (by
   unfold facErr;rw[if_neg (fun h=>h hw),if_neg (by omega),prevAt,if_neg (by omega)]
   exact if_pos (by simp only[leS,Bool.or_eq_true,decide_eq_true_eq];exact hc.2)) (by decide)]
  exact Zw
 ·rename_i hw he
  refine⟨u.length-(i+1),by omega,_,_,Zr,Zs,i+1,by omega,rfl,?_,rfl,by rw[up1 (n:=u.length) (by omega) (by assumption)]⟩
  rw[hp]
  refine unitErrL_step (by omega) ?_
  unfold facErr;rw[if_neg (fun h=>h hw),if_neg (by omega)]
  by_cases h0:i=0
  ·rw[prevAt,if_pos h0]
  ·rw[pred1 (by omega) (by omega),Int.toNat_natCast]at hc
   rw[prevAt,if_neg h0]
   refine if_neg ?_
   rcases hc with hc|hc
   ·omega
   ·simp only[leS,Bool.or_eq_true,decide_eq_true_eq]
    rintro(h|h)
    ·rw[h]at hc;exact Bool.noConfusion hc.1
    ·exact hc.2 h
 all_goals(try(intro h0;rw[pred1 (by omega) (by omega)];omega))
 ·rw[hp,List.drop_eq_nil_of_le (by omega),unitErrL]
  exact Zw
theorem bi{n m:Int}(h:n=m):AV.v (.int .i64 n)=iv m:=by rw[h]
def Num(t:Ty):Prop:=t.kind=2∨t.kind=3
instance (t:Ty):Decidable (Num t):=inferInstanceAs (Decidable (_∨_))
theorem isNumber_ok(t:Ty):Pure Tryz.prog 92 [.agg t.cells] (.v (.bool (decide (Num t)))):=by
 refine Pure.runk (fun _=>0) Tryz.func92 comp92 era92 (Nat.le_of_ble_eq_true rfl) fun σ=> ?_
 repeat'(first|exact .nil|refine .k0 ?_|refine .k1 ?_|refine .k2 ?_|refine .k4 ?_|refine .k7 ?_|refine .r1 ?_ ?_|(refine .m1 ?_ ?_;intro b)|fail)
 try any_goals(exact Zo)
 all_goals(try simp only[BL]at *)
 ·(((refine Sx.Fin.intro Zs (bd ?_);(try simp only[BL]at *);(try simp only[Low,Dig,Wch,and_assoc]at *)));try omega)
  unfold Num;omega
theorem number_ok(t:Ty):Pure Tryz.prog 99 [.agg t.cells] (.v (.bool (decide (Num t)))):=by
 refine Pure.runk (fun _=>0) Tryz.func99 comp99 era99 (Nat.le_of_ble_eq_true rfl) fun σ=> ?_
 repeat'(first|exact .nil|refine .k0 ?_|refine .k1 ?_|refine .k2 ?_|refine .k4 ?_|refine .k7 ?_|refine .r1 ?_ ?_|(refine .m1 ?_ ?_;intro b)|fail)
 try any_goals(exact Zo)
 all_goals(try simp only[BL]at *)
 ·(((refine Sx.Fin.intro Zs (bd ?_);(try simp only[BL]at *);(try simp only[Low,Dig,Wch,and_assoc]at *)));try omega)
  unfold Num;omega
def tyErr(t:Ty):Int:=
 if t.kind<1∨t.kind>5∨(t.unit≠[]∧¬Num t)∨(t.kind=5∧¬Name t.of)∨(t.kind≠5∧t.of≠⟨#[]⟩)then 3
 else if unitErr t.unit≠0∨∃ f∈t.unit,¬Name f.name then 70 else 0
theorem name_ne{s:Str}(h:Name s):s≠⟨#[]⟩:=fun e=>by have:=h.1.1;rw[size_zero.2 e]at this;omega
theorem tyErr_3{t:Ty}(h:t.kind<1∨t.kind>5∨(t.unit≠[]∧¬Num t)∨(t.kind=5∧¬Name t.of)∨(t.kind≠5∧t.of≠⟨#[]⟩)):tyErr t=3:=if_pos h
theorem tyErr_70{t:Ty}(h:¬(t.kind<1∨t.kind>5∨(t.unit≠[]∧¬Num t)∨(t.kind=5∧¬Name t.of)∨(t.kind≠5∧t.of≠⟨#[]⟩)))(h':unitErr t.unit≠0∨∃ f∈t.unit,¬Name f.name):tyErr t=70:=(if_neg h).trans (if_pos h')
theorem tyErr_0{t:Ty}(h:¬(t.kind<1∨t.kind>5∨(t.unit≠[]∧¬Num t)∨(t.kind=5∧¬Name t.of)∨(t.kind≠5∧t.of≠⟨#[]⟩)))(h':¬(unitErr t.unit≠0∨∃ f∈t.unit,¬Name f.name)):tyErr t=0:=(if_neg h).trans (if_neg h')
theorem len_pos{α:Type}{l:List α}:0<(l.length:Int)↔l≠[]:=by cases l<;>simp<;>omega
theorem typeR_ok(t:Ty):Pure Tryz.prog 69 [.agg t.cells] (iv (tyErr t)):=by
 have hl:= @len_pos Fac t.unit
 refine Pure.runk (fun _=>0) Tryz.func69 comp69 era69 (Nat.le_of_ble_eq_true rfl) fun σ=> ?_
 repeat'(first|exact .nil|refine .k0 ?_|refine .k1 ?_|refine .k2 ?_|refine .k4 ?_|refine .k6 ?_|refine .k7 ?_|refine .k9 ?_|(refine .cd ?_ ?_<;>(intro hc;skip))|refine .r1 ?_ ?_|(refine .m1 ?_ ?_;intro b)|(refine .m2 ?_ ?_;intro hlen)|refine .an rfl (by intro hob;first|exact nameR_ok _|exact unitCheckR_ok _|exact number_ok _) ?_ ?_|fail)
 try any_goals(exact Zo)
 all_goals(try simp only[BL]at *)
 ·rw[tyErr_3 (by omega)]
  exact Zw
 ·rw[tyErr_3 (by grind)]
  exact Zw
 ·rw[tyErr_70 (by grind) (.inl hc)]
  exact Zw
 rename_i h1 h2
 refine WK_loop (fun n rg σ'=>∃ i:Nat,i≤t.unit.length∧n=t.unit.length-i∧(∀ j,j<i→Name (t.unit.getD j default).name)∧σ'=(1,b,Blk.cells t.cells)::σ∧rg=[(1,.lp 1 b 0),(3,iv i)]) t.unit.length rfl ⟨_,_,Zr,Zs,0,Nat.zero_le _,rfl,fun j hj=>absurd hj (by omega),rfl,rfl⟩ ?_
 rintro n _ _ ⟨i,hi,hn,hp,rfl,rfl⟩
 repeat'(first|exact .nil|refine .k0 ?_|refine .k1 ?_|refine .k2 ?_|refine .k6 ?_|refine .k7 ?_|refine .k8 ?_|refine .k9 ?_|(refine .cd ?_ ?_<;>(intro hc;skip))|refine .r1 ?_ ?_|(refine .m2 ?_ ?_;intro hlen)|refine .t1 ?_ ?_ ?_|refine .an rfl (by intro hob;first|exact nameR_ok _|fail) ?_ ?_|fail)
 try any_goals(exact Zo)
 all_goals(try simp only[BL]at *)
 ·rw[tyErr_70 (by grind) (.inr ⟨_,getD_mem (i:=i) (by omega),hc⟩)]
  exact Zw
 ·refine⟨t.unit.length-(i+1),by omega,_,_,Zr,Zs,i+1,by omega,rfl,cons_lt hp hc,rfl,by rw[up1 (by omega) hlen]⟩
 ·have hall:=take_all (p:=fun f:Fac=>Name f.name) (fun j hj=>hp j (by omega))
  rw[tyErr_0 (by grind) (by grind)]
  exact Zw
theorem type_ok(t:Ty):Pure Tryz.prog 65 [.agg t.cells] (iv (tyErr t)):=by
 have hl:= @len_pos Fac t.unit
 have hn:= @name_ne t.of
 refine Pure.runk (fun _=>0) Tryz.func65 comp65 era65 (Nat.le_of_ble_eq_true rfl) fun σ=> ?_
 repeat'(first|exact .nil|refine .k0 ?_|refine .k1 ?_|refine .k2 ?_|refine .k4 ?_|refine .k7 ?_|refine .k9 ?_|(refine .cd ?_ ?_<;>(intro hc;skip))|refine .r1 ?_ ?_|(refine .m1 ?_ ?_;intro b)|(refine .m2 ?_ ?_;intro hlen)|refine .an rfl (by intro hob;first|exact name_ok _|exact unitCheck_ok _|exact containsF_ok _|exact isNumber_ok _|fail) ?_ ?_|fail)
 try any_goals(exact Zo)
 all_goals(try simp only[BL]at *)
 ·rw[tyErr_3 (by grind)]
  exact Zw
 ·cases(decide (t.kind=5) == !decide (t.of=⟨#[]⟩))<;>simp
 ·rw[tyErr_3 (by grind)]
  exact Zw
 ·rename_i h1 h2
  rw[tyErr_70 (by grind) hc]
  exact Zw
 ·rename_i h1 h2
  rw[tyErr_0 (by grind) (by grind)]
  exact Zw
def pr(low:Nat)(c:UInt8):Prop:=low≤c.toNat∧c.toNat≤126∧c.toNat≠34∧c.toNat≠92
instance (low:Nat)(c:UInt8):Decidable (pr low c):=inferInstanceAs (Decidable (_∧_∧_∧_))
def Prt(s:Str)(low:Nat):Prop:=∀ i,i<s.size→pr low (byteAt s i)
instance (s:Str)(low:Nat):Decidable (Prt s low):=inferInstanceAs (Decidable (∀ i,i<s.size→_))
def fieldsOK(v:Val):Prop:=0≤v.kind∧v.kind≤5∧(v.kind≤3→v.s=⟨#[]⟩)∧(v.kind=0→v.n=0)∧(v.kind=1→v.n=0∨v.n=1)∧(4≤v.kind→v.n=0)
instance (v:Val):Decidable (fieldsOK v):=inferInstanceAs (Decidable (_∧_∧_∧_∧_∧_))
def valErr(v:Val):Int:=
 if¬fieldsOK v then 1
 else if v.n< -1152921504606846976∨v.n>1152921504606846976∨(v.kind=4∧v.s.size>64)∨(v.kind=5∧v.s.size>32)then 2
 else if(v.kind=4∧¬Prt v.s 32)∨(v.kind=5∧(v.s=⟨#[]⟩∨¬Prt v.s 33))then 3 else 0
theorem printable_ok(s:Str)(low:UInt8)(hs:s.size≤1000):Pure Tryz.prog 194 [sv s,.v (.int .u8 low.toNat)] (.v (.bool (decide (Prt s low.toNat)))):=by
 refine Pure.runk (fun _=>0) Tryz.func194 comp194 era194 (Nat.le_of_ble_eq_true rfl) fun σ=> ?_
 repeat'(first|exact .nil|refine .k0 ?_|refine .k1 ?_|refine .k2 ?_|refine .k6 ?_|refine .r1 ?_ ?_|fail)
 all_goals(try simp only[BL]at *)
 refine WK_loop (fun n rg σ'=>∃ i:Nat,i≤s.size∧n=s.size-i∧(∀ j,j<i→pr low.toNat (byteAt s j))∧σ'=σ∧rg=[(0,sv s),(1,.v (.int .u8 low.toNat)),(5,iv i)]) s.size rfl ⟨_,_,Zr,Zs,0,Nat.zero_le _,rfl,fun j hj=>absurd hj (by omega),rfl,rfl⟩ ?_
 rintro n _ _ ⟨i,hi,hn,hp,rfl,rfl⟩
 repeat'(first|exact .nil|refine .k0 ?_|refine .k1 ?_|refine .k2 ?_|refine .k4 ?_|refine .k6 ?_|refine .k7 ?_|refine .k8 ?_|refine .k9 ?_|(refine .cd ?_ ?_<;>(intro hc;skip))|refine .r1 ?_ ?_|refine .t5 ?_ ?_ ?_|fail)
 try any_goals(exact Zo)
 all_goals(try simp only[BL]at *)
 ·refine Sx.Fin.intro Zs (bf ?_)
  intro h
  have:=h i (by omega)
  unfold pr at this
  omega
 ·refine⟨s.size-(i+1),by omega,_,_,Zr,Zs,i+1,by omega,rfl,cons_lt hp ?_,rfl,by rw[i64w (by omega)];rfl⟩
  unfold pr;omega
 ·refine Sx.Fin.intro Zs (bt ?_)
  exact fun j hj=>hp j (by omega)
theorem fields_ok(v:Val):Pure Tryz.prog 182 [.agg v.cells] (.v (.bool (decide (fieldsOK v)))):=by
 refine Pure.runk (fun _=>0) Tryz.func182 comp182 era182 (Nat.le_of_ble_eq_true rfl) fun σ=> ?_
 repeat'(first|exact .nil|refine .k0 ?_|refine .k1 ?_|refine .k2 ?_|refine .k4 ?_|refine .k6 ?_|refine .k7 ?_|refine .k9 ?_|(refine .cd ?_ ?_<;>(intro hc;first|exact kf hc (by assumption)|skip))|refine .r1 ?_ ?_|(refine .m1 ?_ ?_;intro b)|fail)
 try any_goals(exact Zo)
 all_goals(try simp only[BL]at *)
 all_goals(refine Sx.Fin.intro Zs (bd ?_);unfold fieldsOK;grind)
theorem text_ok(s:Str):Pure Tryz.prog 184 [sv s] (.v (.bool (decide (s.size≤64∧Prt s 32)))):=by
 refine Pure.runk (fun _=>0) Tryz.func184 comp184 era184 (Nat.le_of_ble_eq_true rfl) fun σ=> ?_
 repeat'(first|exact .nil|refine .k0 ?_|refine .k1 ?_|refine .k2 ?_|refine .k4 ?_|refine .k7 ?_|refine .r1 ?_ ?_|refine .an rfl (by intro hob;first|exact printable_ok _ 32 (by(simp only[BL]at *;omega))|fail) ?_ ?_|fail)
 all_goals(try simp only[BL]at *)
 ·refine Sx.Fin.intro Zs (bd ?_)
  have:UInt8.toNat 32=32:=rfl
  grind
theorem key_ok(s:Str):Pure Tryz.prog 185 [sv s] (.v (.bool (decide (s≠⟨#[]⟩∧s.size≤32∧Prt s 33)))):=by
 refine Pure.runk (fun _=>0) Tryz.func185 comp185 era185 (Nat.le_of_ble_eq_true rfl) fun σ=> ?_
 repeat'(first|exact .nil|refine .k0 ?_|refine .k1 ?_|refine .k2 ?_|refine .k4 ?_|refine .k7 ?_|refine .r1 ?_ ?_|refine .an rfl (by intro hob;first|exact printable_ok _ 33 (by(simp only[BL]at *;omega))|fail) ?_ ?_|fail)
 all_goals(try simp only[BL]at *)
 ·refine Sx.Fin.intro Zs (bd ?_)
  have:UInt8.toNat 33=33:=rfl
  grind
theorem inRange_ok(n:Int):Pure Tryz.prog 183 [iv n] (.v (.bool (decide (-1152921504606846976≤n∧n≤1152921504606846976)))):=by
 refine Pure.runk (fun _=>0) Tryz.func183 comp183 era183 (Nat.le_of_ble_eq_true rfl) fun σ=> ?_
 repeat'(first|exact .nil|refine .k0 ?_|refine .k1 ?_|refine .k2 ?_|refine .k4 ?_|refine .k7 ?_|refine .r1 ?_ ?_|fail)
 all_goals(try simp only[BL]at *)
 ·(((refine Sx.Fin.intro Zs (bd ?_);(try simp only[BL]at *);(try simp only[pr,fieldsOK,and_assoc]at *)));try omega)
theorem valueR_ok(v:Val):Pure Tryz.prog 169 [.agg v.cells] (iv (valErr v)):=by
 refine Pure.runk (fun _=>0) Tryz.func169 comp169 era169 (Nat.le_of_ble_eq_true rfl) fun σ=> ?_
 repeat'(first|exact .nil|refine .k0 ?_|refine .k1 ?_|refine .k2 ?_|refine .k4 ?_|refine .k7 ?_|refine .k9 ?_|(refine .cd ?_ ?_<;>(intro hc;skip))|refine .r1 ?_ ?_|(refine .m1 ?_ ?_;intro b)|refine .an rfl (by intro hob;first|exact fields_ok _|exact text_ok _|exact key_ok _|exact inRange_ok _) ?_ ?_|fail)
 try any_goals(exact Zo)
 all_goals(try simp only[BL]at *)
 all_goals(refine Sx.Fin.intro Zs (bi ?_);unfold valErr;grind)
theorem value_ok(v:Val):Pure Tryz.prog 109 [.agg v.cells] (iv (valErr v)):=by
 refine Pure.runk (fun _=>0) Tryz.func109 comp109 era109 (Nat.le_of_ble_eq_true rfl) fun σ=> ?_
 repeat'(first|exact .nil|refine .k0 ?_|refine .k1 ?_|refine .k2 ?_|refine .k4 ?_|refine .k6 ?_|refine .k7 ?_|refine .k9 ?_|(refine .cd ?_ ?_<;>(intro hc;first|exact kf hc (by assumption)|skip))|refine .r1 ?_ ?_|(refine .m1 ?_ ?_;intro b)|fail)
 try any_goals(exact Zo)
 all_goals(try simp only[BL]at *)
 any_goals(refine Sx.Fin.intro Zs (bi ?_);unfold valErr fieldsOK;grind)
 ·refine WK_loop (fun n rg σ'=>∃ i:Nat,i≤v.s.size∧n=v.s.size-i∧(∀ j,j<i→pr 33 (byteAt v.s j))∧σ'=(1,b,Blk.cells v.cells)::σ∧rg=[(1,.lp 1 b 0),(6,.v (.int .u8 33)),(88,iv v.s.size),(89,iv i)]) v.s.size rfl ⟨_,_,Zr,Zs,0,Nat.zero_le _,rfl,fun j hj=>absurd hj (by omega),rfl,rfl⟩ ?_
  rintro n _ _ ⟨i,hi,hn,hp,rfl,rfl⟩
  repeat'(first|exact .nil|refine .k0 ?_|refine .k1 ?_|refine .k2 ?_|refine .k4 ?_|refine .k6 ?_|refine .k7 ?_|refine .k8 ?_|refine .k9 ?_|(refine .cd ?_ ?_<;>(intro hc;skip))|refine .r1 ?_ ?_|refine .t5 ?_ ?_ ?_|fail)
  try any_goals(exact Zo)
  all_goals(try simp only[BL]at *)
  ·refine Sx.Fin.intro Zs (bi ?_)
   have:¬Prt v.s 33:=fun h=>by have:=h i (by omega);unfold pr at this;omega
   unfold valErr fieldsOK;grind
  ·refine⟨v.s.size-(i+1),by omega,_,_,Zr,Zs,i+1,by omega,rfl,cons_lt hp ?_,rfl,by rw[i64w (by omega)];rfl⟩
   unfold pr;omega
  ·refine Sx.Fin.intro Zs (bi ?_)
   have:Prt v.s 33:=fun j hj=>hp j (by omega)
   unfold valErr fieldsOK;grind
 ·refine WK_loop (fun n rg σ'=>∃ i:Nat,i≤v.s.size∧n=v.s.size-i∧(∀ j,j<i→pr 32 (byteAt v.s j))∧σ'=(1,b,Blk.cells v.cells)::σ∧rg=[(1,.lp 1 b 0),(6,.v (.int .u8 32)),(88,iv v.s.size),(89,iv i)]) v.s.size rfl ⟨_,_,Zr,Zs,0,Nat.zero_le _,rfl,fun j hj=>absurd hj (by omega),rfl,rfl⟩ ?_
  rintro n _ _ ⟨i,hi,hn,hp,rfl,rfl⟩
  repeat'(first|exact .nil|refine .k0 ?_|refine .k1 ?_|refine .k2 ?_|refine .k4 ?_|refine .k6 ?_|refine .k7 ?_|refine .k8 ?_|refine .k9 ?_|(refine .cd ?_ ?_<;>(intro hc;skip))|refine .r1 ?_ ?_|refine .t5 ?_ ?_ ?_|fail)
  try any_goals(exact Zo)
  all_goals(try simp only[BL]at *)
  ·refine Sx.Fin.intro Zs (bi ?_)
   have:¬Prt v.s 32:=fun h=>by have:=h i (by omega);unfold pr at this;omega
   unfold valErr fieldsOK;grind
  ·refine⟨v.s.size-(i+1),by omega,_,_,Zr,Zs,i+1,by omega,rfl,cons_lt hp ?_,rfl,by rw[i64w (by omega)];rfl⟩
   unfold pr;omega
  ·refine Sx.Fin.intro Zs (bi ?_)
   have:Prt v.s 32:=fun j hj=>hp j (by omega)
   unfold valErr fieldsOK;grind
def Ex.lay(x:Ex):List AV:=[iv x.kind,sv x.op,sv x.name,sv x.table,iv x.val.kind,iv x.val.n,sv x.val.s,.sl false 2 (x.unit.map Fac.cells),iv x.param,iv x.win.kind,iv x.win.size,.sl false 12 (x.args.map Ex.row)]
theorem Ex.args_le(x:Ex):x.args.length<x.size:=by
 have:∀ l:List Ex,l.length≤Ex.sizeL l:=fun l=>by
  induction l with
  |nil=>simp
  |cons y l ih=>have:=Ex.size_pos y;simp only[List.length_cons,Ex.sizeL];omega
 have:=this x.args
 rw[Ex.size_args];omega
theorem Ex.step_size{x:Ex}{i:Nat}(h:i<x.args.length)(hs:x.size≤100000):IntKind.i64.wrap (((1+Ex.sizeL (x.args.take i):Nat):Int)+(x.args.getD i default).size)=((1+Ex.sizeL (x.args.take (i+1)):Nat):Int):=by
 have h1:=Ex.sizeL_take h
 have h2:=Ex.sizeL_take_le x.args (i+1)
 have h3:=Ex.size_args x
 rw[i64w (by omega),h1];omega
theorem Ex.step_depth{x:Ex}{i:Nat}(h:i<x.args.length):(if false=true then(if((x.args.getD i default).depth:Int)<(Ex.depthL (x.args.take i):Int)then((x.args.getD i default).depth:Int)else Ex.depthL (x.args.take i))else(if((x.args.getD i default).depth:Int)>(Ex.depthL (x.args.take i):Int)then((x.args.getD i default).depth:Int)else Ex.depthL (x.args.take i)))=((Ex.depthL (x.args.take (i+1)):Nat):Int):=by
 rw[if_neg Bool.false_ne_true,Ex.depthL_take h]
 split<;>omega
theorem Ex.end_depth{x:Ex}{i:Nat}(h:x.args.length≤i)(hs:x.size≤100000):IntKind.i64.wrap ((Ex.depthL (x.args.take i):Int)+1)=(x.depth:Int):=by
 have:=Ex.depth_le x
 have h2:=Ex.depth_args x
 rw[List.take_of_length_le h,i64w (by omega)];omega
theorem sizeR_ok(x:Ex):x.size≤100000→Pure Tryz.prog 101 [.agg x.row] (iv x.size):=by
 induction x using Ex.ind with
 |h x ih=>
 intro hs
 have ih':∀ y∈x.args,Pure Tryz.prog 101 [.agg y.row] (iv y.size):=fun y hy=>ih y hy (by have:=Ex.size_lt hy;omega)
 have hl:=Ex.args_le x
 rw[Ex.row_eq]
 refine Pure.runk (fun _=>0) Tryz.func101 comp101 era101 (Nat.le_of_ble_eq_true rfl) fun σ=> ?_
 repeat'(first|exact .nil|refine .k0 ?_|refine .k1 ?_|refine .k2 ?_|refine .k6 ?_|refine .r1 ?_ ?_|(refine .m1 ?_ ?_;intro b)|fail)
 all_goals(try simp only[BL]at *)
 refine WK_loop (fun n rg σ'=>∃ i:Nat,i≤x.args.length∧n=x.args.length-i∧σ'=(1,b,Blk.cells x.lay)::σ∧rg=[(1,.lp 1 b 0),(3,iv (1+Ex.sizeL (x.args.take i):Nat)),(4,iv i)]) x.args.length rfl ⟨_,_,Zr,Zs,0,Nat.zero_le _,rfl,rfl,rfl⟩ ?_
 rintro n _ _ ⟨i,hi,hn,rfl,rfl⟩
 repeat'(first|exact .nil|refine .k0 ?_|refine .k1 ?_|refine .k2 ?_|refine .k6 ?_|refine .k7 ?_|refine .k8 ?_|refine .k9 ?_|(refine .cd ?_ ?_<;>(intro hc;skip))|refine .r1 ?_ ?_|(refine .m2 ?_ ?_;intro hlen)|refine .t1 ?_ ?_ ?_|refine .an rfl (by intro hob;exact ih' (x.args.getD i default) (getD_mem (by(simp only[BL]at *;omega)))) ?_ ?_|fail)
 try any_goals(exact Zo)
 all_goals(try simp only[BL]at *)
 ·refine⟨x.args.length-(i+1),by omega,_,_,Zr,Zs,i+1,by omega,rfl,rfl,?_⟩
  rw[Ex.step_size (by omega) hs,i64w (by omega)];rfl
 ·rw[List.take_of_length_le (i:=i) (l:=x.args) (by omega),Ex.size_args]
  exact Zw
theorem depthR_ok(x:Ex):x.size≤100000→Pure Tryz.prog 102 [.agg x.row] (iv x.depth):=by
 induction x using Ex.ind with
 |h x ih=>
 intro hs
 have ih':∀ y∈x.args,Pure Tryz.prog 102 [.agg y.row] (iv y.depth):=fun y hy=>ih y hy (by have:=Ex.size_lt hy;omega)
 have hl:=Ex.args_le x
 rw[Ex.row_eq]
 refine Pure.runk (fun _=>0) Tryz.func102 comp102 era102 (Nat.le_of_ble_eq_true rfl) fun σ=> ?_
 repeat'(first|exact .nil|refine .k0 ?_|refine .k1 ?_|refine .k2 ?_|refine .k6 ?_|refine .r1 ?_ ?_|(refine .m1 ?_ ?_;intro b)|fail)
 all_goals(try simp only[BL]at *)
 refine WK_loop (fun n rg σ'=>∃ i:Nat,i≤x.args.length∧n=x.args.length-i∧σ'=(1,b,Blk.cells x.lay)::σ∧rg=[(1,.lp 1 b 0),(3,iv (Ex.depthL (x.args.take i):Nat)),(4,iv i)]) x.args.length rfl ⟨_,_,Zr,Zs,0,Nat.zero_le _,rfl,rfl,rfl⟩ ?_
 rintro n _ _ ⟨i,hi,hn,rfl,rfl⟩
 repeat'(first|exact .nil|refine .k0 ?_|refine .k1 ?_|refine .k2 ?_|refine .k6 ?_|refine .k7 ?_|refine .k8 ?_|refine .k9 ?_|(refine .cd ?_ ?_<;>(intro hc;skip))|refine .r1 ?_ ?_|(refine .m2 ?_ ?_;intro hlen)|refine .t1 ?_ ?_ ?_|refine .an rfl (by intro hob;exact ih' (x.args.getD i default) (getD_mem (by(simp only[BL]at *;omega)))) ?_ ?_|fail)
 try any_goals(exact Zo)
 all_goals(try simp only[BL]at *)
 ·refine⟨x.args.length-(i+1),by omega,_,_,Zr,Zs,i+1,by omega,rfl,rfl,?_⟩
  rw[Ex.step_depth (by omega),i64w (by omega)];rfl
 ·refine Sx.Fin.intro Zs (bi ?_)
  exact Ex.end_depth (by omega) hs
theorem size_ok(x:Ex):x.size≤100000→Pure Tryz.prog 82 [.agg x.row] (iv x.size):=by
 induction x using Ex.ind with
 |h x ih=>
 intro hs
 have ih':∀ y∈x.args,Pure Tryz.prog 82 [.agg y.row] (iv y.size):=fun y hy=>ih y hy (by have:=Ex.size_lt hy;omega)
 have hl:=Ex.args_le x
 rw[Ex.row_eq]
 refine Pure.runk (fun _=>0) Tryz.func82 comp82 era82 (Nat.le_of_ble_eq_true rfl) fun σ=> ?_
 repeat'(first|exact .nil|refine .k0 ?_|refine .k1 ?_|refine .k2 ?_|refine .k6 ?_|refine .r1 ?_ ?_|(refine .m1 ?_ ?_;intro b)|(refine .m2 ?_ ?_;intro hlen)|fail)
 all_goals(try simp only[BL]at *)
 refine WK_loop (fun n rg σ'=>∃ i:Nat,i≤x.args.length∧n=x.args.length-i∧σ'=(1,b,Blk.cells x.lay)::σ∧rg=[(2,iv (1+Ex.sizeL (x.args.take i):Nat)),(6,.sl false 12 (x.args.map Ex.row)),(7,iv x.args.length),(8,iv i)]) x.args.length rfl ⟨_,_,Zr,Zs,0,Nat.zero_le _,rfl,rfl,rfl⟩ ?_
 rintro n _ _ ⟨i,hi,hn,rfl,rfl⟩
 repeat'(first|exact .nil|refine .k0 ?_|refine .k1 ?_|refine .k2 ?_|refine .k6 ?_|refine .k7 ?_|refine .k8 ?_|refine .k9 ?_|(refine .cd ?_ ?_<;>(intro hc;skip))|refine .r1 ?_ ?_|(refine .l1 ?_;intro b)|refine .t1 ?_ ?_ ?_|refine .an rfl (by intro hob;exact ih' (x.args.getD i default) (getD_mem (by(simp only[BL]at *;omega)))) ?_ ?_|fail)
 try any_goals(exact Zo)
 all_goals(try simp only[BL]at *)
 ·refine⟨x.args.length-(i+1),by omega,_,_,Zr,Zs,i+1,by omega,rfl,rfl,?_⟩
  rw[Ex.step_size (by omega) hs,i64w (by omega)];rfl
 ·rw[List.take_of_length_le (i:=i) (l:=x.args) (by omega),Ex.size_args]
  exact Zw
theorem depth_ok(x:Ex):x.size≤100000→Pure Tryz.prog 83 [.agg x.row] (iv x.depth):=by
 induction x using Ex.ind with
 |h x ih=>
 intro hs
 have ih':∀ y∈x.args,Pure Tryz.prog 83 [.agg y.row] (iv y.depth):=fun y hy=>ih y hy (by have:=Ex.size_lt hy;omega)
 have hl:=Ex.args_le x
 rw[Ex.row_eq]
 refine Pure.runk (fun _=>0) Tryz.func83 comp83 era83 (Nat.le_of_ble_eq_true rfl) fun σ=> ?_
 repeat'(first|exact .nil|refine .k0 ?_|refine .k1 ?_|refine .k2 ?_|refine .k6 ?_|refine .r1 ?_ ?_|(refine .m1 ?_ ?_;intro b)|(refine .m2 ?_ ?_;intro hlen)|fail)
 all_goals(try simp only[BL]at *)
 refine WK_loop (fun n rg σ'=>∃ i:Nat,i≤x.args.length∧n=x.args.length-i∧σ'=(1,b,Blk.cells x.lay)::σ∧rg=[(2,iv (Ex.depthL (x.args.take i):Nat)),(6,.sl false 12 (x.args.map Ex.row)),(7,iv x.args.length),(8,iv i)]) x.args.length rfl ⟨_,_,Zr,Zs,0,Nat.zero_le _,rfl,rfl,rfl⟩ ?_
 rintro n _ _ ⟨i,hi,hn,rfl,rfl⟩
 repeat'(first|exact .nil|refine .k0 ?_|refine .k1 ?_|refine .k2 ?_|refine .k6 ?_|refine .k7 ?_|refine .k8 ?_|refine .k9 ?_|(refine .cd ?_ ?_<;>(intro hc;skip))|refine .r1 ?_ ?_|(refine .l1 ?_;intro b)|refine .t1 ?_ ?_ ?_|refine .an rfl (by intro hob;exact ih' (x.args.getD i default) (getD_mem (by(simp only[BL]at *;omega)))) ?_ ?_|fail)
 try any_goals(exact Zo)
 all_goals(try simp only[BL]at *)
 ·refine⟨x.args.length-(i+1),by omega,_,_,Zr,Zs,i+1,by omega,rfl,rfl,?_⟩
  rw[Ex.step_depth (by omega),i64w (by omega)];rfl
 ·refine Sx.Fin.intro Zs (bi ?_)
  exact Ex.end_depth (by omega) hs
def Ex.lens(x:Ex):Nat:=x.op.size+x.name.size+x.table.size+x.val.s.size
mutual
def Ex.wt:Ex→Nat
 | .mk _ o n t v _ _ _ ks=>max (o.size+n.size+t.size+v.s.size) (Ex.wtL ks)
def Ex.wtL:List Ex→Nat
 |[]=>0
 |x::l=>max x.wt (Ex.wtL l)
end
def Ex.big(x:Ex)(n:Int):Prop:=n<1∨x.lens>300∨x.unit.length>10∨x.args.length>10∨∃ f∈x.unit,f.name.size>100
instance (x:Ex)(n:Int):Decidable (x.big n):=inferInstanceAs (Decidable (_∨_∨_∨_∨_))
def FewTy(t:Ty):Prop:=t.of.size≤300∧t.unit.length≤10∧∀ f∈t.unit,f.name.size≤100
instance (t:Ty):Decidable (FewTy t):=inferInstanceAs (Decidable (_∧_∧_))
end Go.Proofs.YtekngilbecjkhaaGreatDoor
namespace Go.Sx
open Go.Proofs.YtekngilbecjkhaaGreatDoor
theorem Wk.row{l:List Ex}{nn:Bool}:Wk (.sl nn 12 (l.map Ex.row)) (.sl nn 12 (l.map Ex.cells)):=by rw[Ex.cells_row];exact Wk.refl _
end Go.Sx
namespace Go.Proofs.YtekngilbecjkhaaGreatDoor
open Go.Sx Go.Proofs
def Ex.Flat(a b:Ex):Prop:=a.kind=b.kind∧a.op=b.op∧a.name=b.name∧a.table=b.table∧a.val=b.val∧a.unit=b.unit∧a.param=b.param∧a.win=b.win
instance (a b:Ex):Decidable (a.Flat b):=inferInstanceAs (Decidable (_∧_∧_∧_∧_∧_∧_∧_))
theorem val_eq{a b:Val}:a=b↔a.kind=b.kind∧a.n=b.n∧a.s=b.s:=by cases a;cases b;simp
theorem win_eq{a b:Win}:a=b↔a.kind=b.kind∧a.size=b.size:=by cases a;cases b;simp
theorem flat_ok(a b:Ex):Pure Tryz.prog 151 [.agg a.row,.agg b.row] (.v (.bool (decide (a.Flat b)))):=by
 rw[Ex.row_eq a,Ex.row_eq b]
 refine Pure.runk (fun _=>0) Tryz.func151 comp151 era151 (Nat.le_of_ble_eq_true rfl) fun σ=> ?_
 repeat'(first|exact .nil|refine .k0 ?_|refine .k1 ?_|refine .k2 ?_|refine .k4 ?_|refine .k7 ?_|refine .r1 ?_ ?_|(refine .m1 ?_ ?_;intro b)|refine .an rfl (by intro hob;first|exact same_ok _ _|fail) ?_ ?_|fail)
 all_goals(try simp only[BL]at *)
 ·refine Sx.Fin.intro Zs (bd ?_)
  unfold Ex.Flat;rw[val_eq,win_eq];grind
theorem bare_ok(a b:Ex):Pure Tryz.prog 111 [.agg a.row,.agg b.row] (.v (.bool (decide (a.Flat b)))):=by
 rw[Ex.row_eq a,Ex.row_eq b]
 refine Pure.runk (fun _=>0) Tryz.func111 comp111 era111 (Nat.le_of_ble_eq_true rfl) fun σ=> ?_
 repeat'(first|exact .nil|refine .k0 ?_|refine .k1 ?_|refine .k2 ?_|refine .k4 ?_|refine .k7 ?_|refine .r1 ?_ ?_|(refine .m1 ?_ ?_;intro b)|refine .an rfl (by intro hob;exact equal_ok _ _) ?_ ?_|fail)
 all_goals(try simp only[BL]at *)
 ·refine Sx.Fin.intro Zs (bd ?_)
  unfold Ex.Flat;rw[val_eq,win_eq];grind
def tru:Ex:=⟨1,⟨#[]⟩,⟨#[]⟩,⟨#[]⟩,⟨1,1,⟨#[]⟩⟩,[],0,⟨0,0⟩,[]⟩
theorem true_ok:Pure Tryz.prog 132 [] (.agg tru.row):=by
 refine Pure.runk (fun _=>0) Tryz.func132 comp132 era132 (Nat.le_of_ble_eq_true rfl) fun σ=> ?_
 repeat'(first|exact .nil|refine .k0 ?_|refine .k1 ?_|refine .k2 ?_|refine .k7 ?_|refine .r1 ?_ ?_|(refine .l1 ?_;intro b)|fail)
 all_goals(try simp only[BL]at *)
 ·refine Sx.Fin.wk Zs (Wk.agg ?_)
  show WkL _ tru.lay
  unfold Ex.lay
  repeat' first|exact .refl _|exact .nil|refine .cons ?_ ?_|fail
theorem aggregates_ok:Pure Tryz.prog 170 [] (.sl false 1 (aggL.map strRow)):=by
 refine Pure.runk (fun _=>0) Tryz.func170 comp170 era170 (Nat.le_of_ble_eq_true rfl) fun σ=> ?_
 repeat'(first|exact .nil|refine .k0 ?_|refine .k1 ?_|refine .k2 ?_|refine .k7 ?_|refine .r1 ?_ ?_|fail)
 all_goals(try simp only[BL]at *)
 ·decide
 ·refine Sx.Fin.wk Zs ?_
  exact Wk.sl
theorem operators_ok:Pure Tryz.prog 155 [] (.sl false 1 (binL.map strRow)):=by
 refine Pure.runk (fun _=>0) Tryz.func155 comp155 era155 (Nat.le_of_ble_eq_true rfl) fun σ=> ?_
 repeat'(first|exact .nil|refine .k0 ?_|refine .k1 ?_|refine .k2 ?_|refine .k7 ?_|refine .r1 ?_ ?_|fail)
 all_goals(try simp only[BL]at *)
 ·decide
 ·refine Sx.Fin.wk Zs ?_
  exact Wk.sl
def winOK(w:Win):Prop:=(w.kind=1∧w.size=0)∨(1<w.kind∧w.kind≤4∧1≤w.size∧w.size≤1099511627776)
instance (w:Win):Decidable (winOK w):=inferInstanceAs (Decidable (_∨_∧_∧_∧_))
theorem windowR_ok(w:Win):Pure Tryz.prog 171 [.agg w.cells] (.v (.bool (decide (winOK w)))):=by
 refine Pure.runk (fun _=>0) Tryz.func171 comp171 era171 (Nat.le_of_ble_eq_true rfl) fun σ=> ?_
 repeat'(first|exact .nil|refine .k0 ?_|refine .k1 ?_|refine .k2 ?_|refine .k4 ?_|refine .k7 ?_|refine .k9 ?_|(refine .cd ?_ ?_<;>(intro hc;skip))|refine .r1 ?_ ?_|(refine .m1 ?_ ?_;intro b)|fail)
 all_goals(try simp only[BL]at *)
 all_goals(refine Sx.Fin.intro Zs (bd ?_);unfold winOK;grind)
def litEx(x:Ex):Ex:=⟨1,⟨#[]⟩,x.name,⟨#[]⟩,x.val,x.unit,0,⟨0,0⟩,[]⟩
def litOK(x:Ex):Prop:=valErr x.val=0∧0≤x.val.n∧tyErr ⟨x.val.kind,x.unit,x.name⟩=0∧x.Flat (litEx x)
instance (x:Ex):Decidable (litOK x):=inferInstanceAs (Decidable (_∧_∧_∧_))
theorem literalR_ok(x:Ex):Pure Tryz.prog 152 [.agg x.row] (.v (.bool (decide (litOK x)))):=by
 rw[Ex.row_eq x]
 refine Pure.runk (fun _=>0) Tryz.func152 comp152 era152 (Nat.le_of_ble_eq_true rfl) fun σ=> ?_
 repeat'(first|exact .nil|refine .k0 ?_|refine .k1 ?_|refine .k2 ?_|refine .k4 ?_|refine .k7 ?_|refine .k9 ?_|(refine .cd ?_ ?_<;>(intro hc;skip))|refine .r1 ?_ ?_|(refine .l1 ?_;intro b)|(refine .m1 ?_ ?_;intro b)|refine .an rfl (by intro hob;first|exact valueR_ok _|exact typeR_ok ⟨x.val.kind,x.unit,x.name⟩|(refine(flat_ok x (litEx x)).wk ?_;(repeat' first|exact .row|exact .refl _|exact .nil|refine .cons ?_ ?_|refine .agg ?_|fail);done)) ?_ ?_|fail)
 try any_goals(exact Zo)
 all_goals(try simp only[BL]at *)
 all_goals(refine Sx.Fin.intro Zs (bd ?_);unfold litOK;grind)
def aggEx(x:Ex):Ex:=⟨5,x.op,⟨#[]⟩,x.table,⟨0,0,⟨#[]⟩⟩,[],x.param,x.win,[]⟩
def parOK(x:Ex):Prop:=if x.op=⟨#[113,117,97,110,116,105,108,101]⟩then 1≤x.param∧x.param≤1000 else if x.op=⟨#[100,101,99,97,121]⟩then 1≤x.param∧x.param≤1073741824 else x.param=0
instance (x:Ex):Decidable (parOK x):=by unfold parOK;infer_instance
def aggOK(x:Ex):Prop:=(∃ y∈aggL,x.op=y)∧Name x.table∧winOK x.win∧parOK x∧x.Flat (aggEx x)
instance (x:Ex):Decidable (aggOK x):=inferInstanceAs (Decidable (_∧_∧_∧_∧_))
theorem aggregateR_ok(x:Ex):Pure Tryz.prog 153 [.agg x.row] (.v (.bool (decide (aggOK x)))):=by
 rw[Ex.row_eq x]
 refine Pure.runk (fun _=>0) Tryz.func153 comp153 era153 (Nat.le_of_ble_eq_true rfl) fun σ=> ?_
 repeat'(first|exact .nil|refine .k0 ?_|refine .k1 ?_|refine .k2 ?_|refine .k4 ?_|refine .k5 ?_|refine .k7 ?_|refine .k9 ?_|(refine .cd ?_ ?_<;>(intro hc;skip))|refine .r1 ?_ ?_|(refine .m1 ?_ ?_;intro b)|refine .an rfl (by intro hob;first|exact nameR_ok _|exact windowR_ok x.win|exact aggregates_ok|exact one_ok aggL x.op|(refine(flat_ok x (aggEx x)).wk ?_;(repeat' first|exact .row|exact .refl _|exact .nil|refine .cons ?_ ?_|refine .agg ?_|fail);done)) ?_ ?_|fail)
 try any_goals(exact Zo)
 all_goals(try simp only[BL]at *)
 all_goals(refine Sx.Fin.intro Zs (bd ?_);unfold aggOK parOK;have hqd:(⟨#[113,117,97,110,116,105,108,101]⟩:Str)≠⟨#[100,101,99,97,121]⟩:=by decide
           first|grind|fail)
def namEx(x:Ex):Ex:=⟨x.kind,⟨#[]⟩,x.name,⟨#[]⟩,⟨0,0,⟨#[]⟩⟩,[],0,⟨0,0⟩,[]⟩
def opEx(x:Ex):Ex:=⟨x.kind,x.op,⟨#[]⟩,⟨#[]⟩,⟨0,0,⟨#[]⟩⟩,[],0,⟨0,0⟩,[]⟩
def namOK(x:Ex):Prop:=Name x.name∧x.Flat (namEx x)
instance (x:Ex):Decidable (namOK x):=inferInstanceAs (Decidable (_∧_))
def nodeN(x:Ex):Int:=if x.kind=4∨x.kind=6 then 1 else if x.kind=5∨x.kind=7∨x.kind=9 then 2 else if x.kind=8 then 3 else 0
def nodeB(x:Ex)(ins:Bool):Prop:=
 if x.kind=1 then litOK x else if x.kind=2 then ins=true∧namOK x else if x.kind=3∨x.kind=4 then ins=false∧namOK x
 else if x.kind=5 then ins=false∧aggOK x else if x.kind=6 then x.Flat (opEx x)∧∃ y∈unL,x.op=y
 else if x.kind=7 then x.Flat (opEx x)∧∃ y∈binL,x.op=y else if x.kind=8∨x.kind=9 then x.Flat (opEx x)∧x.op=⟨#[]⟩else False
instance (x:Ex)(ins:Bool):Decidable (nodeB x ins):=by unfold nodeB;infer_instance
theorem bt2{n m:Int}{b:Bool}{p:Prop}[Decidable p](h1:n=m)(h2:b=true↔p):AV.tup [.v (.int .i64 n),.v (.bool b)]= .tup [iv m,.v (.bool (decide p))]:=by rw[h1,bd h2]
theorem nodeR_ok(x:Ex)(ins:Bool):Pure Tryz.prog 130 [.agg x.row,.v (.bool ins)] (.tup [iv (nodeN x),.v (.bool (decide (nodeB x ins)))]):=by
 rw[Ex.row_eq x]
 refine Pure.runk (fun _=>0) Tryz.func130 comp130 era130 (Nat.le_of_ble_eq_true rfl) fun σ=> ?_
 repeat'(first|exact .nil|refine .k0 ?_|refine .k1 ?_|refine .k2 ?_|refine .k4 ?_|refine .k5 ?_|refine .k6 ?_|refine .k7 ?_|refine .k9 ?_|(refine .cd ?_ ?_<;>(intro hc;skip))|refine .r1 ?_ ?_|(refine .m1 ?_ ?_;intro b)|refine .an rfl (by intro hob;first|exact nameR_ok _|(refine(literalR_ok x).wk ?_;(repeat' first|exact .row|exact .refl _|refine .cons ?_ ?_|refine .agg ?_|fail);done)|(refine(aggregateR_ok x).wk ?_;(repeat' first|exact .row|exact .refl _|refine .cons ?_ ?_|refine .agg ?_|fail);done)|exact operators_ok|exact one_ok binL x.op|(refine(one_ok unL x.op).wk ?_;(repeat' first|exact .refl _|refine .cons ?_ ?_|exact .sl|fail);done)|(refine(flat_ok x (namEx x)).wk ?_;(repeat' first|exact .row|exact .refl _|exact .nil|refine .cons ?_ ?_|refine .agg ?_|fail);done)|(refine(flat_ok x (opEx x)).wk ?_;(repeat' first|exact .row|exact .refl _|exact .nil|refine .cons ?_ ?_|refine .agg ?_|fail);done)) ?_ ?_|fail)
 try any_goals(exact Zo)
 all_goals(try simp only[BL]at *)
 all_goals(refine Sx.Fin.intro Zs (bt2 ?_ ?_)<;>grind [nodeN,nodeB,namOK])
mutual
def Ex.eqB:Ex→Ex→Bool
 | .mk k o n t v u p w ks,.mk k' o' n' t' v' u' p' w' ks'=>decide (k=k'∧o=o'∧n=n'∧t=t'∧v=v'∧u=u'∧p=p'∧w=w') && Ex.eqL ks ks'
def Ex.eqL:List Ex→List Ex→Bool
 |[],[]=>true
 |x::l,y::m=>x.eqB y && Ex.eqL l m
 |[],_::_=>false
 |_::_,[]=>false
end
mutual
theorem Ex.eqB_iff:∀ a b:Ex,a.eqB b=true↔a=b
 | .mk k o n t v u p w ks,.mk k' o' n' t' v' u' p' w' ks'=>by
  rw[Ex.eqB,Bool.and_eq_true,decide_eq_true_eq,Ex.eqL_iff ks ks',Ex.mk.injEq]
  simp only[and_assoc]
theorem Ex.eqL_iff:∀ a b:List Ex,Ex.eqL a b=true↔a=b
 |[],[]=>by simp[Ex.eqL]
 |x::l,y::m=>by rw[Ex.eqL,Bool.and_eq_true,Ex.eqB_iff x y,Ex.eqL_iff l m,List.cons.injEq]
 |[],_::_=>by simp[Ex.eqL]
 |_::_,[]=>by simp[Ex.eqL]
end
instance:DecidableEq Ex:=fun a b=>decidable_of_iff _ (Ex.eqB_iff a b)
theorem Ex.eq_iff{a b:Ex}:a=b↔a.Flat b∧a.args=b.args:=by
 cases a;cases b
 simp only[Ex.mk.injEq,Ex.Flat,Ex.kind,Ex.op,Ex.name,Ex.table,Ex.val,Ex.unit,Ex.param,Ex.win,Ex.args,and_assoc]
theorem sameExpr_ok(x:Ex):∀ e:Ex,Pure Tryz.prog 131 [.agg x.row,.agg e.row] (.v (.bool (decide (x=e)))):=by
 induction x using Ex.ind with
 |h x ih=>
 intro e
 have ih':=ih
 rw[Ex.row_eq x,Ex.row_eq e]
 refine Pure.runk (fun _=>0) Tryz.func131 comp131 era131 (Nat.le_of_ble_eq_true rfl) fun σ=> ?_
 repeat'(first|exact .nil|refine .k0 ?_|refine .k1 ?_|refine .k2 ?_|refine .k4 ?_|refine .k6 ?_|refine .k7 ?_|refine .k9 ?_|(refine .cd ?_ ?_<;>(intro hc;skip))|refine .r1 ?_ ?_|(refine .m1 ?_ ?_;intro b)|(refine .m2 ?_ ?_;intro hlen)|refine .an rfl (by intro hob;first|(refine(flat_ok x e).wk ?_;(repeat' first|exact .row|exact .refl _|refine .cons ?_ ?_|refine .agg ?_|fail);done)|fail) ?_ ?_|fail)
 try any_goals(exact Zo)
 all_goals(try simp only[BL]at *)
 ·refine Sx.Fin.intro Zs (bf ?_)
  intro h
  rw[h]at hc
  rcases hc with hc|hc
  ·exact hc (by unfold Ex.Flat;grind)
  ·exact hc rfl
 rename_i b0 hl0
 refine WK_loop (fun n rg σ'=>∃ i:Nat,i≤x.args.length∧n=x.args.length-i∧(∀ j,j<i→x.args.getD j default=e.args.getD j default)∧σ'=(3,b,Blk.cells e.lay)::(2,b0,Blk.cells x.lay)::σ∧rg=[(2,.lp 2 b0 0),(3,.lp 3 b 0),(5,iv i)]) x.args.length rfl ⟨_,_,Zr,Zs,0,Nat.zero_le _,rfl,fun j hj=>absurd hj (by omega),rfl,rfl⟩ ?_
 rintro n _ _ ⟨i,hi,hn,hp,rfl,rfl⟩
 repeat'(first|exact .nil|refine .k0 ?_|refine .k1 ?_|refine .k2 ?_|refine .k5 ?_|refine .k6 ?_|refine .k7 ?_|refine .k8 ?_|refine .k9 ?_|(refine .cd ?_ ?_<;>(intro hc;skip))|refine .r1 ?_ ?_|(refine .m2 ?_ ?_;intro hlen)|refine .t1 ?_ ?_ ?_|refine .an rfl (by intro hob;exact ih' (x.args.getD i default) (getD_mem (by(simp only[BL]at *;omega))) (e.args.getD i default)) ?_ ?_|fail)
 try any_goals(exact Zo)
 all_goals(try simp only[BL]at *)
 ·refine Sx.Fin.intro Zs (bf ?_)
  rintro rfl;exact hc rfl
 ·refine⟨x.args.length-(i+1),by omega,_,_,Zr,Zs,i+1,by omega,rfl,cons_lt hp hc,rfl,by rw[up1 (by omega) hlen]⟩
 ·refine Sx.Fin.intro Zs (bt ?_)
  rename_i h1
  exact Ex.eq_iff.2 ⟨h1.1,eq_of_getD (by omega) (fun j hj=>hp j (by omega))⟩
theorem bq{b c:Bool}(h:b=true↔c=true):AV.v (.bool b)=AV.v (.bool c):=by rw[Bool.eq_iff_iff.2 h]
def cnt:Str:=⟨#[99,111,117,110,116]⟩
mutual
def form:Bool→Ex→Bool
 |ins,.mk k o n t v u p w ks=>decide (nodeB (.mk k o n t v u p w ks) ins) && decide ((ks.length:Int)=nodeN (.mk k o n t v u p w ks)) && formL (ins || decide (k=5)) ks && (decide (¬(k=5∧o=cnt)) || decide (ks.getD 0 default=tru))
def formL:Bool→List Ex→Bool
 |_,[]=>true
 |ins,x::l=>form ins x && formL ins l
end
theorem formL_iff(ins:Bool):∀ l:List Ex,formL ins l=true↔∀ x∈l,form ins x=true
 |[]=>by simp[formL]
 |x::l=>by simp[formL,formL_iff ins l]
theorem form_iff(ins:Bool)(x:Ex):form ins x=true↔nodeB x ins∧(x.args.length:Int)=nodeN x∧(∀ y∈x.args,form (ins || decide (x.kind=5)) y=true)∧(x.kind=5→x.op=cnt→x.args.getD 0 default=tru):=by
 cases x
 rw[form]
 simp only[Bool.and_eq_true,Bool.or_eq_true,decide_eq_true_eq,formL_iff,Ex.args,Ex.kind,Ex.op]
 constructor
 ·rintro⟨⟨⟨h1,h2⟩,h3⟩,h4⟩
  exact⟨h1,h2,h3,fun a b=>h4.resolve_left fun h=>h ⟨a,b⟩⟩
 ·rintro⟨h1,h2,h3,h4⟩
  refine⟨⟨⟨h1,h2⟩,h3⟩,Decidable.or_iff_not_imp_left.2 fun h=> ?_⟩
  have:=Decidable.not_not.1 h
  exact h4 this.1 this.2
theorem formR_ok(x:Ex):∀ ins,Pure Tryz.prog 103 [.agg x.row,.v (.bool ins)] (.v (.bool (form ins x))):=by
 induction x using Ex.ind with
 |h x ih=>
 intro ins
 have ih':=ih
 rw[Ex.row_eq x]
 refine Pure.runk (fun _=>0) Tryz.func103 comp103 era103 (Nat.le_of_ble_eq_true rfl) fun σ=> ?_
 repeat'(first|exact .nil|refine .k0 ?_|refine .k1 ?_|refine .k2 ?_|refine .k4 ?_|refine .k6 ?_|refine .k7 ?_|refine .k9 ?_|(refine .cd ?_ ?_<;>(intro hc;skip))|refine .r1 ?_ ?_|(refine .m1 ?_ ?_;intro b)|(refine .m2 ?_ ?_;intro hlen)|refine .an rfl (by intro hob;first|(refine(nodeR_ok x ins).wk ?_;(repeat' first|exact .row|exact .refl _|refine .cons ?_ ?_|refine .agg ?_|fail);done)|fail) ?_ ?_|fail)
 try any_goals(exact Zo)
 all_goals(try simp only[BL]at *)
 ·refine Sx.Fin.intro Zs (bq ?_)
  rw[form_iff]
  grind
 refine WK_loop (fun n rg σ'=>∃ i:Nat,i≤x.args.length∧n=x.args.length-i∧(∀ j,j<i→form (ins || decide (x.kind=5)) (x.args.getD j default)=true)∧σ'=(2,b,Blk.cells x.lay)::σ∧rg=[(1,.v (.bool ins)),(2,.lp 2 b 0),(5,iv (nodeN x)),(7,iv i)]) x.args.length rfl ⟨_,_,Zr,Zs,0,Nat.zero_le _,rfl,fun j hj=>absurd hj (by omega),rfl,rfl⟩ ?_
 rintro n _ _ ⟨i,hi,hn,hp,rfl,rfl⟩
 repeat'(first|exact .nil|refine .k0 ?_|refine .k1 ?_|refine .k2 ?_|refine .k3 ?_|refine .k4 ?_|refine .k5 ?_|refine .k6 ?_|refine .k7 ?_|refine .k8 ?_|refine .k9 ?_|(refine .cd ?_ ?_<;>(intro hc;skip))|refine .r1 ?_ ?_|refine .t1 ?_ ?_ ?_|refine .an rfl (by intro hob;first|exact sameExpr_ok _ _|exact true_ok|exact ih' (x.args.getD i default) (getD_mem (by(simp only[BL]at *;omega))) _|fail) ?_ ?_|fail)
 try any_goals(exact Zo)
 all_goals(try simp only[BL]at *)
 ·refine Sx.Fin.intro Zs (bq ?_)
  rw[form_iff]
  constructor
  ·intro h;exact Bool.noConfusion h
  ·rintro⟨h1,h2,h3,h4⟩
   have:=h3 _ (getD_mem (i:=i) (by omega))
   rw[hc]at this
   exact this
 ·rename_i h1 h2
  refine⟨x.args.length-(i+1),by omega,_,_,Zr,Zs,i+1,by omega,rfl,cons_lt hp hc,rfl,?_⟩
  have:nodeN x≤3:=by unfold nodeN;repeat' split
                     all_goals omega
  rw[i64w (by omega)];rfl
 ·refine Sx.Fin.intro Zs (bq ?_)
  rw[form_iff]
  have hall:=take_all (p:=fun y=>form (ins || decide (x.kind=5)) y=true) (l:=x.args) (fun j hj=>hp j (by omega))
  show _↔_∧_∧_∧(_→x.op=(⟨#[99,111,117,110,116]⟩:Str)→_)
  grind
 ·rename_i h1
  intro h
  have h2:nodeN x=2:=by unfold nodeN;rw[if_neg (by omega),if_pos (by omega)]
  omega
set_option maxHeartbeats 4000000
def emEx(x:Ex):Ex:=⟨x.kind,⟨#[]⟩,⟨#[]⟩,⟨#[]⟩,⟨0,0,⟨#[]⟩⟩,[],0,⟨0,0⟩,[]⟩
def litEx'(x:Ex):Ex:=⟨x.kind,⟨#[]⟩,x.name,⟨#[]⟩,x.val,x.unit,0,⟨0,0⟩,[]⟩
def aggEx'(x:Ex):Ex:=⟨x.kind,x.op,⟨#[]⟩,x.table,⟨0,0,⟨#[]⟩⟩,[],x.param,x.win,[]⟩
theorem flat_lit(x:Ex)(h:x.kind=1):x.Flat (litEx x)↔x.Flat (litEx' x):=by unfold litEx litEx';rw[h]
theorem flat_agg(x:Ex)(h:x.kind=5):x.Flat (aggEx x)↔x.Flat (aggEx' x):=by unfold aggEx aggEx';rw[h]
theorem flat_em(x:Ex):x.Flat (emEx x)↔x.Flat (opEx x)∧x.op=⟨#[]⟩:=by
 show _∧x.op=⟨#[]⟩∧_↔(_∧x.op=x.op∧_)∧_
 constructor
 ·rintro⟨h1,h2,h3⟩;exact⟨⟨h1,rfl,h3⟩,h2⟩
 ·rintro⟨⟨h1, -,h3⟩,h2⟩;exact⟨h1,h2,h3⟩
theorem q_d:(⟨#[113,117,97,110,116,105,108,101]⟩:Str)≠⟨#[100,101,99,97,121]⟩:=by decide
def FormF(x:Ex)(ins:Bool):Prop:=form ins x=true↔(∀ y∈x.args,form (ins || decide (x.kind=5)) y=true)∧(x.kind=5→x.op=cnt→x.args.getD 0 default=tru)
theorem ff_false{x:Ex}{ins q:Bool}{i:Nat}(hF:FormF x ins)(hq:q=(ins || decide (x.kind=5)))(hi:i<x.args.length)(hc:form q (x.args.getD i default)=false):false=true↔form ins x=true:=by
 unfold FormF at hF
 rw[hF,← hq]
 constructor
 ·intro h;exact Bool.noConfusion h
 ·rintro⟨h, -⟩
  have:=h _ (getD_mem hi)
  rw[hc]at this
  exact this
theorem form_lit{q:Bool}{y:Ex}(h:form q y=true)(hf:y.Flat tru):y=tru:=by
 rw[form_iff]at h
 have hk:y.kind=1:=hf.1
 have hn:nodeN y=0:=by unfold nodeN;rw[if_neg (by omega),if_neg (by omega),if_neg (by omega)]
 have:y.args=[]:=List.eq_nil_of_length_eq_zero (by omega)
 exact Ex.eq_iff.2 ⟨hf,this⟩
theorem ff_all{x:Ex}{q:Bool}{i:Nat}(hi:x.args.length≤i)(hp:∀ j,j<i→form q (x.args.getD j default)=true):∀ y∈x.args,form q y=true:=take_all (p:=fun y=>form q y=true) fun j hj=>hp j (by omega)
theorem ff_end{x:Ex}{ins q:Bool}(hF:FormF x ins)(hq:q=(ins || decide (x.kind=5)))(hall:∀ y∈x.args,form q y=true)(h0:0<x.args.length)(hc:x.op=⟨#[99,111,117,110,116]⟩∧x.kind=5):decide ((x.args.getD 0 default).Flat tru)=true↔form ins x=true:=by
 unfold FormF at hF
 rw[hF,← hq,decide_eq_true_eq]
 constructor
 ·intro h;exact⟨hall,fun _ _=>form_lit (hall _ (getD_mem h0)) h⟩
 ·rintro⟨-,h⟩;rw[h hc.2 hc.1];decide
theorem ff_true{x:Ex}{ins q:Bool}(hF:FormF x ins)(hq:q=(ins || decide (x.kind=5)))(hall:∀ y∈x.args,form q y=true)(hc:¬x.op=⟨#[99,111,117,110,116]⟩∨¬x.kind=5):true=true↔form ins x=true:=by
 unfold FormF at hF
 rw[hF,← hq]
 refine⟨fun _=>⟨hall,fun h1 h2=> ?_⟩,fun _=>rfl⟩
 rcases hc with h|h
 ·exact absurd h2 h
 ·exact absurd h1 h
theorem proper_ok(x:Ex):∀ ins,Pure Tryz.prog 84 [.agg x.row,.v (.bool ins)] (.v (.bool (form ins x))):=by
 induction x using Ex.ind with
 |h x ih=>
 intro ins
 have ih':=ih
 rw[Ex.row_eq x]
 refine Pure.runk (fun _=>0) Tryz.func84 comp84 era84 (Nat.le_of_ble_eq_true rfl) fun σ=> ?_
 repeat'(first|exact .nil|refine .k0 ?_|refine .k1 ?_|refine .k2 ?_|refine .k3 ?_|refine .k4 ?_|refine .k6 ?_|refine .k7 ?_|refine .k9 ?_|(refine .cd ?_ ?_<;>(intro hc;first|exact kf hc (by assumption)|skip))|refine .r1 ?_ ?_|(refine .l1 ?_;intro b)|(refine .m1 ?_ ?_;intro b)|(refine .m2 ?_ ?_;intro hlen)|refine .an rfl (by intro hob;first|exact value_ok x.val|exact type_ok ⟨x.val.kind,x.unit,x.name⟩|exact name_ok _|exact containsS_ok aggL x.op|exact containsS_ok unL x.op|exact containsS_ok binL x.op|(refine(bare_ok x (litEx' x)).wk ?_;(repeat' first|exact .row|exact .refl _|exact .nil|refine .cons ?_ ?_|refine .agg ?_|fail);done)|(refine(bare_ok x (namEx x)).wk ?_;(repeat' first|exact .row|exact .refl _|exact .nil|refine .cons ?_ ?_|refine .agg ?_|fail);done)|(refine(bare_ok x (aggEx' x)).wk ?_;(repeat' first|exact .row|exact .refl _|exact .nil|refine .cons ?_ ?_|refine .agg ?_|fail);done)|(refine(bare_ok x (opEx x)).wk ?_;(repeat' first|exact .row|exact .refl _|exact .nil|refine .cons ?_ ?_|refine .agg ?_|fail);done)|(refine(bare_ok x (emEx x)).wk ?_;(repeat' first|exact .row|exact .refl _|exact .nil|refine .cons ?_ ?_|refine .agg ?_|fail);done)|fail) ?_ ?_|refine .r9 ?_ ?_|fail)
 try any_goals(exact Zo)
 all_goals(try simp only[BL]at *)
 all_goals first
  |(exfalso;omega)
  |(with_reducible refine Sx.Fin.intro ?_ (bq ?_)
    rotate_left
    rw[form_iff]
    have h1:=flat_lit x
    have h2:=flat_agg x
    have h3:=flat_em x
    have hqd:=q_d
    clear ih ih'
    focus grind [nodeB,nodeN,litOK,aggOK,namOK,parOK,winOK]
    repeat' first|exact .refl _|refine .cons ?_)
  |skip
 all_goals
  have hF:FormF x ins:=by
   unfold FormF
   rw[form_iff]
   have h1:=flat_lit x
   have h2:=flat_agg x
   have h3:=flat_em x
   have hqd:=q_d
   clear ih ih'
   grind [nodeB,nodeN,litOK,aggOK,namOK,parOK,winOK]
 all_goals have hN:x.kind=5→x.args.length=2:=by intro h;omega
 all_goals refine WK_loop (fun n rg σ'=>∃ (i:Nat) (q:Bool) (b0 b:Nat) (c:List AV),q=(ins || decide (x.kind=5))∧i≤x.args.length∧n=x.args.length-i∧(∀ j,j<i→form q (x.args.getD j default)=true)∧σ'=(5,b,Blk.cells c)::(2,b0,Blk.cells x.lay)::σ∧rg=[(1,.v (.bool q)),(2,.lp 2 b0 0),(186,.sl false 12 (x.args.map Ex.row)),(187,iv x.args.length),(188,iv i)]) x.args.length rfl ⟨_,_,Zr,Zs,0,_,_,_,_,by simp[*],Nat.zero_le _,rfl,fun j hj=>absurd hj (by omega),rfl,rfl⟩ ?_
 all_goals clear hlen
 all_goals rintro n _ _ ⟨i,q,b0,b,c,hq,hi,hn,hp,rfl,rfl⟩
 all_goals clear ih
 repeat'(first|exact .nil|refine .k0 ?_|refine .k1 ?_|refine .k2 ?_|refine .k4 ?_|refine .k6 ?_|refine .k7 ?_|refine .k8 ?_|refine .k9 ?_|(refine .cd ?_ ?_<;>(intro hc;skip))|refine .r1 ?_ ?_|(refine .l1 ?_;intro b)|refine .t1 ?_ ?_ ?_|refine .an rfl (by intro hob;first|(refine(bare_ok (x.args.getD 0 default) tru).wk ?_;(repeat' first|exact .refl _|exact .nil|refine .cons ?_ ?_|refine .agg ?_|fail);done)|exact ih' (x.args.getD i default) (getD_mem (by(simp only[BL]at *;omega))) _) ?_ ?_|fail)
 try any_goals(exact Zo)
 all_goals(try simp only[BL]at *)
 all_goals first
  |(with_reducible refine Sx.Fin.intro ?_ (bq ?_)
    rotate_left
    focus first
     |exact ff_false hF hq (by omega) hc
     |exact ff_end hF hq (ff_all (by omega) hp) (by omega) hc
     |exact ff_true hF hq (ff_all (by omega) hp) hc
    repeat' first|exact .refl _|refine .cons ?_)
  |(refine⟨x.args.length-(i+1),by omega,_,_,Zr,Zs,i+1,_,_,_,_,hq,by omega,rfl,cons_lt hp hc,rfl,by rw[i64w (by omega)];rfl⟩)
  |trace_state
def shape(x:Ex):Int:=if 64<x.size∨12<x.depth then 2 else if form false x=true then 0 else 3
theorem shape_ok(x:Ex)(hs:x.size≤100000):Pure Tryz.prog 56 [.agg x.row] (iv (shape x)):=by
 rw[Ex.row_eq x]
 refine Pure.runk (fun _=>0) Tryz.func56 comp56 era56 (Nat.le_of_ble_eq_true rfl) fun σ=> ?_
 repeat'(first|exact .nil|refine .k0 ?_|refine .k1 ?_|refine .k2 ?_|refine .k4 ?_|refine .k7 ?_|refine .k9 ?_|(refine .cd ?_ ?_<;>(intro hc;skip))|refine .r1 ?_ ?_|(refine .m1 ?_ ?_;intro b)|refine .an rfl (by intro hob;first|(refine(size_ok x (by first|omega|fail)).wk ?_;(repeat' first|exact .row|exact .refl _|refine .cons ?_ ?_|refine .agg ?_|fail);done)|(refine(depth_ok x (by first|omega|fail)).wk ?_;(repeat' first|exact .row|exact .refl _|refine .cons ?_ ?_|refine .agg ?_|fail);done)|(refine(proper_ok x false).wk ?_;(repeat' first|exact .row|exact .refl _|refine .cons ?_ ?_|refine .agg ?_|fail);done)|fail) ?_ ?_|fail)
 try any_goals(exact Zo)
 all_goals(try simp only[BL]at *)
 all_goals(refine Sx.Fin.intro Zs (bi ?_);unfold shape;grind)
theorem shapeR_ok(x:Ex)(hs:x.size≤100000):Pure Tryz.prog 70 [.agg x.row] (iv (shape x)):=by
 rw[Ex.row_eq x]
 refine Pure.runk (fun _=>0) Tryz.func70 comp70 era70 (Nat.le_of_ble_eq_true rfl) fun σ=> ?_
 repeat'(first|exact .nil|refine .k0 ?_|refine .k1 ?_|refine .k2 ?_|refine .k4 ?_|refine .k7 ?_|refine .k9 ?_|(refine .cd ?_ ?_<;>(intro hc;skip))|refine .r1 ?_ ?_|(refine .m1 ?_ ?_;intro b)|refine .an rfl (by intro hob;first|(refine(sizeR_ok x (by first|omega|fail)).wk ?_;(repeat' first|exact .row|exact .refl _|refine .cons ?_ ?_|refine .agg ?_|fail);done)|(refine(depthR_ok x (by first|omega|fail)).wk ?_;(repeat' first|exact .row|exact .refl _|refine .cons ?_ ?_|refine .agg ?_|fail);done)|(refine(formR_ok x false).wk ?_;(repeat' first|exact .row|exact .refl _|refine .cons ?_ ?_|refine .agg ?_|fail);done)) ?_ ?_|fail)
 try any_goals(exact Zo)
 all_goals(try simp only[BL]at *)
 all_goals(refine Sx.Fin.intro Zs (bi ?_);unfold shape;grind)
theorem str_len(s:Str):s.data.toList.length=s.size:=rfl
theorem szl(a:Array UInt8):(⟨a⟩:Str).size=a.size:=rfl
theorem app_size(a b:Str):(a++b).size=a.size+b.size:=by rw[str_size,str_app,List.length_append];rfl
def facS(f:Fac):Str:=if f.exp=1 then f.name else f.name++(⟨#[94]⟩++itoaS f.exp)
def unitS(u:List Fac):Str:=joinS (u.map facS) ⟨#[42]⟩
theorem take_snoc{α:Type}[Inhabited α]{l:List α}{i:Nat}(h:i<l.length):l.take (i+1)=l.take i++[l.getD i default]:=by
 rw[getD_eq h,List.take_succ_eq_append_getElem h]
theorem bs{a b:Str}(h:a=b):AV.v (.string a)=sv b:=by rw[h]
def unitT(u:List Fac):Str:=if u=[]then⟨#[]⟩else⟨#[32,91]⟩++(unitS u++⟨#[93]⟩)
def lowD:Nat→Nat→List UInt8
 |0,_=>[]
 |k+1,x=>lowD k (x / 10)++[UInt8.ofNat (48+x % 10)]
def decS(x:Nat):Str:=⟨(Lib.decDigits (x / 10 ^ 6)++46::lowD 6 x).toArray⟩
def boolS(n:Int):Str:=if n=1 then⟨#[116,114,117,101]⟩else⟨#[102,97,108,115,101]⟩
def intS(n:Int):Str:=⟨(Lib.decDigits n.toNat).toArray⟩
def valS(v:Val):Str:=
 if v.kind=1 then boolS v.n else if v.kind=2 then intS v.n else if v.kind=3 then decS v.n.toNat
 else if v.kind=4 then⟨#[34]⟩++(v.s++⟨#[34]⟩)else if v.kind=5 then⟨#[64]⟩++v.s else⟨#[110,117,108,108]⟩
structure VOK(v:Val):Prop where
 e:valErr v=0
 n:0≤v.n
theorem VOK.kinds{v:Val}(h:VOK v):0≤v.kind∧v.kind≤5∧v.n≤1152921504606846976∧v.s.size≤64:=by
 have:=h.e
 have h0:=h.n
 unfold valErr at this
 split at this
 ·omega
 ·rename_i hf
  have hf:=Decidable.not_not.1 hf
  split at this
  ·omega
  ·rename_i hb
   have hs:v.kind≤3→v.s.size=0:=fun h=>by rw[hf.2.2.1 h];rfl
   refine⟨hf.1,hf.2.1,by omega,?_⟩
   have:=hf.2.1
   omega
def rank(x:Ex):Int:=
 if x.kind=8 then 0 else if x.kind=9 then 1
 else if x.kind=6 then(if x.op=⟨#[45]⟩then 8 else if x.op=⟨#[110,111,116]⟩then 4 else 9)
 else if x.kind=7 then(if x.op=⟨#[111,114]⟩then 2 else if x.op=⟨#[97,110,100]⟩then 3 else if x.op=⟨#[43]⟩∨x.op=⟨#[45]⟩then 6 else if x.op=⟨#[42]⟩∨x.op=⟨#[47]⟩then 7 else 5)
 else 9
def winT(w:Win):Str:=
 if w.kind=2 then⟨#[115,108,105,100,105,110,103,32]⟩++intS w.size else if w.kind=3 then⟨#[116,117,109,98,108,105,110,103,32]⟩++intS w.size
 else if w.kind=4 then⟨#[115,101,115,115,105,111,110,32]⟩++intS w.size else⟨#[97,108,108]⟩
def litT(x:Ex):Str:=if x.val.kind=5 then⟨#[64]⟩++(x.name++(⟨#[32,34]⟩++(x.val.s++⟨#[34]⟩)))else valS x.val++unitT x.unit
def par(s:Str):Str:=⟨#[40]⟩++(s++⟨#[41]⟩)
def atF(x:Ex)(T:Nat→Str)(i:Nat)(r:Int):Str:=if rank (x.args.getD i default)<r then par (T i)else T i
def aggT(x:Ex)(T:Nat→Str):Str:=
 x.op++(⟨#[40]⟩++(x.table++((if x.op=cnt then⟨#[]⟩else⟨#[44,32]⟩++T 0)++((if x.param=0 then⟨#[]⟩else⟨#[44,32]⟩++intS x.param)
  ++(⟨#[44,32]⟩++(winT x.win++((if x.args.getD 1 default=tru then⟨#[]⟩else⟨#[32,119,104,101,114,101,32]⟩++T 1)++⟨#[41]⟩)))))))
def unT(x:Ex)(T:Nat→Str):Str:=
 if x.op=⟨#[45]⟩then⟨#[45]⟩++atF x T 0 8 else if x.op=⟨#[110,111,116]⟩then⟨#[110,111,116,32]⟩++atF x T 0 4 else⟨#[110,117,108,108,40]⟩++(T 0++⟨#[41]⟩)
def leftR(x:Ex):Int:=if rank x=5 then 6 else rank x
def binT(x:Ex)(T:Nat→Str):Str:=atF x T 0 (leftR x)++(⟨#[32]⟩++(x.op++(⟨#[32]⟩++atF x T 1 (rank x+1))))
def ifT(x:Ex)(T:Nat→Str):Str:=⟨#[105,102,32]⟩++(T 0++(⟨#[32,116,104,101,110,32]⟩++(T 1++(⟨#[32,101,108,115,101,32]⟩++T 2))))
def defT(x:Ex)(T:Nat→Str):Str:=atF x T 0 1++(⟨#[32,100,101,102,97,117,108,116,32]⟩++atF x T 1 2)
def textF(x:Ex)(T:Nat→Str):Str:=
 if x.kind=1 then litT x else if x.kind=4 then x.name++(⟨#[32,111,102,32,40]⟩++(T 0++⟨#[41]⟩))else if x.kind=5 then aggT x T
 else if x.kind=6 then unT x T else if x.kind=7 then binT x T else if x.kind=8 then ifT x T else if x.kind=9 then defT x T else x.name
mutual
def text:Ex→Str
 | .mk k o n t v u p w ks=>textF (.mk k o n t v u p w ks) (fun i=>(textL ks).getD i ⟨#[]⟩)
def textL:List Ex→List Str
 |[]=>[]
 |x::l=>text x::textL l
end
structure FOK(x:Ex)(ins:Bool):Prop where
 nb:nodeB x ins
 nn:(x.args.length:Int)=nodeN x
 sub:∀ y∈x.args,form (ins || decide (x.kind=5)) y=true
 cn:x.kind=5→x.op=cnt→x.args.getD 0 default=tru
theorem FOK.of{x:Ex}{ins:Bool}(h:form ins x=true):FOK x ins:=by
 obtain⟨h1,h2,h3,h4⟩:=(form_iff ins x).1 h
 exact⟨h1,h2,h3,h4⟩
theorem parts{x:Ex}{ins:Bool}(h:FOK x ins):
  (x.kind=1→litOK x∧x.args.length=0)∧(x.kind=2∨x.kind=3→namOK x∧x.args.length=0)∧(x.kind=4→namOK x∧x.args.length=1)∧(x.kind=5→aggOK x∧x.args.length=2)
  ∧(x.kind=6→x.args.length=1∧∃ y∈unL,x.op=y)∧(x.kind=7→x.args.length=2∧∃ y∈binL,x.op=y)∧(x.kind=8→x.args.length=3)∧(x.kind=9→x.args.length=2):=by
 have hb:=h.nb
 have hn:=h.nn
 unfold nodeB at hb
 unfold nodeN at hn
 refine⟨fun e=> ?_,fun e=> ?_,fun e=> ?_,fun e=> ?_,fun e=> ?_,fun e=> ?_,fun e=> ?_,fun e=> ?_⟩
 all_goals grind
end Go.Proofs.YtekngilbecjkhaaGreatDoor
namespace Go.Sx
structure At(P:Program)[Glob P](f:FuncId)(xs:List AV)(r:AV)(σ:Store):Prop where
 sp:Spec P f xs σ fun r' σ'=>r'= .ret r∧σ'=σ
theorem At.wk{P:Program}[Glob P]{f:FuncId}{xs bs:List AV}{r:AV}{σ:Store}(h:At P f bs r σ)(hw:WkL xs bs):At P f xs r σ:=
 ⟨fun M w0 w cs hI hR=>h.sp M w0 w cs hI (hw.sound hR)⟩
theorem callP_at{P:Program}[Glob P]{f:FuncId}{xs:List AV}{σ:Store}{K:AV→Store→Prop}{E:List PanicEntry→Store→Prop}{r:AV}(h:At P f xs r σ)(k:K r σ):CallP P f xs σ K E:=
 ⟨_,h.sp,fun _ _ ⟨e,e'⟩=>by cases e;subst e';exact k,fun _ _ ⟨e,_⟩=>by cases e⟩
theorem At.runk{P:Program}[Glob P]{f:FuncId}{fn:Func}{fc:FC}{xs:List AV}{r:AV}{σ:Store}{a:AC}(cfg:Nat→Nat)(hf:P.funcs[f]? =some fn)(hc:compF P fn=some fc)(ha:fc.code=a.erase)(hlen:xs.length≤fc.N)
  (h:WK P fc.N cfg (pureQ fc.res r σ) a [] (argR 0 xs) σ):At P f xs r σ:=by
 have h1:=h.h.h
 rw[← ha]at h1
 refine⟨?_⟩
 have:=Spec.intro (Q:=fun r' σ'=>∃ x,r'= .ret x∧Wk x r∧Sub σ σ') hf hc hlen (h1.mono (fun e rg σ' hq=>by
  cases e with
  |normal=>obtain⟨x,h1,h2,h3⟩:=hq;exact⟨x,h1,x,rfl,h2,h3⟩
  |ret=>obtain⟨x,h1,h2,h3⟩:=hq;exact⟨x,h1,x,rfl,h2,h3⟩
  |_=>exact hq.elim))
 refine this.weak ?_
 rintro r' σ' ⟨x,rfl,h2,h3⟩
 exact⟨.ret r,σ,⟨rfl,rfl⟩,h3,h2⟩
section
variable {P:Program}[Glob P]{cfg:Nat→Nat}{K:Regs→Store→Prop}{E:List PanicEntry→Store→Prop}{σ:Store}{l:List CI}{d:Nat}{v:AV}{xr:XR}{ps:List Prop}{g:Option (Nat×Bool)}{og:Option Bool}{xs:List AV}{args:List Operand}
theorem VX_callA{f:FuncId}{r:AV}(h:argO xr g args=some (og,xs,ps))(hp:og.getD true=true→At P f xs r σ)(hps:OB ps)(k:VX P cfg l K E (putX og d r xr) σ):VX P cfg (⟨some d,.call f args,g⟩::l) K E xr σ:=by
 obtain⟨hc,he⟩:=argO_eq h
 refine VX_gen hc (fun hg=> ?_) (fun hg=> ?_)
 ·simp only[vcO,he hps hg]
  refine callP_at (hp hg) ?_
  rw[← putX_t hg];exact k.h
 ·rw[← putX_f hg (v:=r)];exact k.h
theorem VX_callvA{f:FuncId}{r fv:AV}{fo:Operand}{a c:Array Value}(h:argO xr g (fo::args)=some (og,fv::xs,ps))(hf:fnO fv=some (f,a,c))(hcl:callable P f=true)(hp:og.getD true=true→At P f (a.toList.map .v++xs++c.toList.map .v) r σ)(hps:OB ps)(k:VX P cfg l K E (putX og d r xr) σ):
  VX P cfg (⟨some d,.callv fo args,g⟩::l) K E xr σ:=by
 obtain⟨hc,he⟩:=argO_eq h
 refine VX_gen hc (fun hg=> ?_) (fun hg=> ?_)
 ·have:=he hps hg
  simp only[evs,List.cons.injEq]at this
  simp only[vcO,this.1,this.2,fnO_eq hf]
  refine⟨hcl,callP_at (hp hg) ?_⟩
  rw[← putX_t hg];exact k.h
 ·rw[← putX_f hg (v:=r)];exact k.h
end
theorem Wk.ptr(t b o:Nat):Wk (.v (.pointer (some ⟨b,o,none⟩))) (.lp t b o):=fun M x h=>by
 obtain rfl:=h.of_v
 exact .lp t b o
end Go.Sx
namespace Go.Proofs.YtekngilbecjkhaaGreatDoor
open Go.Sx Go.Proofs
theorem sameName_ok(x f:Fld)(b:Nat)(τ:Store):At Tryz.prog 64 [.agg x.cells,.lp 4 b 0] (.v (.bool (decide (x.name=f.name)))) ((4,b,Blk.cells f.cells)::τ):=by
 refine At.runk (fun _=>0) Tryz.func64 comp64 era64 (Nat.le_of_ble_eq_true rfl) ?_
 repeat'(first|exact .nil|refine .k0 ?_|refine .k1 ?_|refine .k2 ?_|refine .k7 ?_|refine .r1 ?_ ?_|(refine .m1 ?_ ?_;intro b)|fail)
 all_goals(try simp only[BL]at *)
 ·exact Sx.Fin.intro Zs rfl
theorem indexT_ok(fs:List Fld)(f:Fld)(b:Nat)(τ:Store):At Tryz.prog 88 [.sl false 4 (fs.map Fld.cells),.v (.func (.func 64) #[] #[.pointer (some ⟨b,0,none⟩)])] (iv (firstIdx (fun x=>decide (x.name=f.name)) fs 0)) ((4,b,Blk.cells f.cells)::τ):=by
 refine At.runk (fun _=>0) Tryz.func88 comp88 era88 (Nat.le_of_ble_eq_true rfl) ?_
 repeat'(first|exact .nil|refine .k0 ?_|refine .k1 ?_|refine .k2 ?_|refine .k6 ?_|refine .r1 ?_ ?_|(refine .m2 ?_ ?_;intro hlen)|fail)
 all_goals(try simp only[BL]at *)
 refine WK_loop (fun n rg σ'=>∃ i:Nat,i≤fs.length∧n=fs.length-i∧(∀ j,j<i→¬(fs.getD j default).name=f.name)∧σ'=(4,b,Blk.cells f.cells)::τ∧rg=[(0,.sl false 4 (fs.map Fld.cells)),(1,.v (.func (.func 64) #[] #[.pointer (some ⟨b,0,none⟩)])),(7,iv fs.length),(8,iv i)]) fs.length rfl ⟨_,_,Zr,Zs,0,Nat.zero_le _,rfl,fun j hj=>absurd hj (by omega),rfl,rfl⟩ ?_
 rintro n _ _ ⟨i,hi,hn,hp,rfl,rfl⟩
 repeat'(first|exact .nil|refine .k0 ?_|refine .k1 ?_|refine .k2 ?_|refine .k6 ?_|refine .k7 ?_|refine .k8 ?_|refine .k9 ?_|(refine .cd ?_ ?_<;>(intro hc;skip))|refine .r1 ?_ ?_|refine .t1 ?_ ?_ ?_|fail)
 try any_goals(exact Zo)
 all_goals(try simp only[BL]at *)
 refine VX_callvA rfl rfl (by rfl) (fun _=>(sameName_ok (fs.getD i default) f b τ).wk (WkL.cons (Wk.refl _) (WkL.cons (Wk.ptr _ _ _) WkL.nil))) OB.nil ?_
 repeat'(first|exact .nil|refine .k0 ?_|refine .k1 ?_|refine .k2 ?_|refine .k7 ?_|refine .k9 ?_|(refine .cd ?_ ?_<;>(intro hc;skip))|refine .r1 ?_ ?_|fail)
 all_goals(try simp only[BL]at *)
 ·rw[firstIdx_at (p:=fun x:Fld=>decide (x.name=f.name)) (l:=fs) (k:=0) (i:=i) (fun j hj=>decide_eq_false (hp j hj)) (by omega) (decide_eq_true hc),Nat.zero_add]
  exact Zw
 ·refine⟨fs.length-(i+1),by omega,_,_,Zr,Zs,i+1,by omega,rfl,cons_lt hp hc,rfl,by rw[up1 (by omega) hlen]⟩
 ·rw[firstIdx_no (fun y hy=>decide_eq_false (take_all (p:=fun y:Fld=>¬y.name=f.name) (fun j hj=>hp j (by omega)) y hy))]
  exact Zw
theorem containsT_ok(fs:List Fld)(f:Fld)(b:Nat)(τ:Store):At Tryz.prog 63 [.sl false 4 (fs.map Fld.cells),.v (.func (.func 64) #[] #[.pointer (some ⟨b,0,none⟩)])] (.v (.bool (decide (∃ x∈fs,x.name=f.name)))) ((4,b,Blk.cells f.cells)::τ):=by
 refine At.runk (fun _=>0) Tryz.func63 comp63 era63 (Nat.le_of_ble_eq_true rfl) ?_
 repeat'(first|exact .nil|refine .k0 ?_|refine .k1 ?_|refine .k2 ?_|refine .r1 ?_ ?_|fail)
 all_goals(try simp only[BL]at *)
 refine VX_callA rfl (fun _=>indexT_ok fs f b τ) OB.nil ?_
 repeat'(first|exact .nil|refine .k0 ?_|refine .k1 ?_|refine .k7 ?_|refine .r1 ?_ ?_|fail)
 all_goals(try simp only[BL]at *)
 ·refine Sx.Fin.intro Zs (bd ?_)
  rw[decide_eq_true_eq,firstIdx_ge]
  simp only[decide_eq_true_eq]
def fldErr(prev:List Fld)(f:Fld):Int:=if¬Name f.name then 3 else if∃ x∈prev,x.name=f.name then 121 else tyErr f.type
def fldErrL:List Fld→List Fld→Int
 |_,[]=>0
 |prev,f::l=>if fldErr prev f=0 then fldErrL (prev++[f]) l else fldErr prev f
def tabErr(t:Tab):Int:=
 if¬(Name t.name∧Name t.entity∧0≤t.keep∧t.keep≤1099511627776)then 3 else if t.fields.length>8 then 2 else fldErrL [] t.fields
theorem fldErrL_step{u:List Fld}{i:Nat}(hi:i<u.length)(h:fldErr (u.take i) (u.getD i default)=0):fldErrL (u.take i) (u.drop i)=fldErrL (u.take (i+1)) (u.drop (i+1)):=by
 rw[drop_get hi,fldErrL,if_pos h,take_snoc hi]
theorem fldErrL_end{u:List Fld}{i:Nat}{e:Int}(hi:i<u.length)(h:fldErr (u.take i) (u.getD i default)=e)(he:e≠0):fldErrL (u.take i) (u.drop i)=e:=by
 rw[drop_get hi,fldErrL,if_neg (by rw[h];exact he),h]
theorem table_ok(t:Tab):Pure Tryz.prog 36 [.agg t.cells] (iv (tabErr t)):=by
 refine Pure.runk (fun _=>0) Tryz.func36 comp36 era36 (Nat.le_of_ble_eq_true rfl) fun σ=> ?_
 repeat'(first|exact .nil|refine .k0 ?_|refine .k1 ?_|refine .k2 ?_|refine .k4 ?_|refine .k6 ?_|refine .k7 ?_|refine .k9 ?_|(refine .cd ?_ ?_<;>(intro hc;skip))|refine .r1 ?_ ?_|(refine .m1 ?_ ?_;intro b)|(refine .m2 ?_ ?_;intro hlen)|refine .an rfl (by intro hob;first|exact name_ok _|fail) ?_ ?_|fail)
 try any_goals(exact Zo)
 all_goals(try simp only[BL]at *)
 ·refine Sx.Fin.intro Zs (bi ?_)
  unfold tabErr;rw[if_pos (by grind)]
 ·refine Sx.Fin.intro Zs (bi ?_)
  unfold tabErr;rw[if_neg (by grind),if_pos (by omega)]
 rename_i h1 h2
 have hu:tabErr t=fldErrL [] t.fields:=by unfold tabErr;rw[if_neg (by grind),if_neg (by omega)]
 refine WK_loop (fun n rg σ'=>∃ (i:Nat),i≤t.fields.length∧n=t.fields.length-i∧tabErr t=fldErrL (t.fields.take i) (t.fields.drop i)∧σ'=(1,b,Blk.cells t.cells)::σ∧rg=[(1,.lp 1 b 0),(31,.sl false 4 (t.fields.map Fld.cells)),(32,iv t.fields.length),(33,iv i)]) t.fields.length rfl ⟨_,_,Zr,Zs,0,Nat.zero_le _,rfl,hu,rfl,rfl⟩ ?_
 rintro n _ _ ⟨i,hi,hn,hp,rfl,rfl⟩
 repeat'(first|exact .nil|refine .k0 ?_|refine .k1 ?_|refine .k2 ?_|refine .k6 ?_|refine .k7 ?_|refine .k8 ?_|refine .k9 ?_|(refine .cd ?_ ?_<;>(intro hc;skip))|refine .r1 ?_ ?_|(refine .l1 ?_;intro b)|refine .t1 ?_ ?_ ?_|refine .t2 ?_ ?_ ?_|refine .an rfl (by intro hob;first|exact name_ok _|fail) ?_ ?_|fail)
 try any_goals(exact Zo)
 all_goals(try simp only[BL]at *)
 ·rw[hp,fldErrL_end (e:=3) (by omega) (if_pos hc) (by decide)]
  exact Zw
 refine VX_callA rfl (fun _=>containsT_ok (t.fields.take i) (t.fields.getD i default) _ _) OB.nil ?_
 repeat'(first|exact .nil|refine .k0 ?_|refine .k1 ?_|refine .k2 ?_|refine .k7 ?_|refine .k9 ?_|(refine .cd ?_ ?_<;>(intro hc;skip))|refine .r1 ?_ ?_|refine .an rfl (by intro hob;exact type_ok (t.fields.getD i default).type) ?_ ?_|fail)
 all_goals(try simp only[BL]at *)
 ·rw[hp,fldErrL_end (e:=121) (by omega) (by unfold fldErr;rw[if_neg (fun h=>h ‹_›),if_pos hc]) (by decide)]
  exact Zw
 ·rw[hp,fldErrL_end (by omega) (by unfold fldErr;rw[if_neg (fun h=>h ‹_›),if_neg ‹_›]) hc]
  exact Zw
 ·refine⟨t.fields.length-(i+1),by omega,_,_,Zr,Zs,i+1,by omega,rfl,?_,rfl,by rw[up1 (n:=t.fields.length) (by omega) (by assumption)]⟩
  rw[hp,fldErrL_step (by omega) (by unfold fldErr;rw[if_neg (fun h=>h ‹_›),if_neg ‹_›];exact hc)]
 ·rw[hp,List.drop_eq_nil_of_le (by omega),fldErrL]
  exact Zw
theorem fldErrL_ok:∀ (l p:List Fld),fldErrL p l=0→∀ f∈l,Name f.name∧tyErr f.type=0
 |[],_,_,f,hf=>absurd hf (by simp)
 |g::l,p,h,f,hf=>by
  rw[fldErrL]at h
  split at h
  ·rename_i h0
   rcases List.mem_cons.1 hf with rfl|hf
   ·unfold fldErr at h0
    split at h0
    ·omega
    ·rename_i hn
     split at h0
     ·omega
     ·exact⟨Decidable.not_not.1 hn,h0⟩
   ·exact fldErrL_ok l _ h f hf
  ·rename_i h0;exact absurd h h0
structure TOK(t:Tab):Prop where
 n:t.name.size≤24
 e:t.entity.size≤24
 k:0≤t.keep∧t.keep≤1099511627776
 l:t.fields.length≤8
 f:∀ f∈t.fields,Name f.name∧tyErr f.type=0
theorem TOK.of{t:Tab}(h:tabErr t=0):TOK t:=by
 unfold tabErr at h
 split at h
 ·omega
 ·rename_i h1
  have h1:=Decidable.not_not.1 h1
  split at h
  ·omega
  ·exact⟨h1.1.1.2.1,h1.2.1.1.2.1,h1.2.2,by omega,fldErrL_ok _ _ h⟩
end Go.Proofs.YtekngilbecjkhaaGreatDoor
