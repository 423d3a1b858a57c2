/- The reference: lists of names. -/
import Derived.Test.YtekngilbecjkhaaGreatDoorCe
import Derived.Test.YtekngilbecjkhaaGreatDoorDa
import Derived.Test.YtekngilbecjkhaaGreatDoorCd
set_option linter.unusedSimpArgs false
set_option linter.unusedVariables false
set_option maxRecDepth 100000
set_option maxHeartbeats 4000000
namespace Go.Proofs.YtekngilbecjkhaaGreatDoor
open Go.Sx Go.Proofs Go.Tb
abbrev strsA(l:List Str):AV:= .sl false 1 (l.map strRow)
theorem in_take{l:List Str}{s:Str}{i:Nat}(hi:l.length≤i)(h:∀ j,j<i→¬l.getD j default=s):s∉l:=fun hm=>by
 obtain⟨j,hj,e⟩:=List.getElem_of_mem hm
 exact h j (by omega) (by rw[List.getD_eq_getElem?_getD,List.getElem?_eq_getElem hj];exact e)
theorem in_ok(l:List Str)(s:Str):Pure Tryz.prog 25 [strsA l,sv s] (.v (.bool (decide (s∈l)))):=by
 refine Pure.runk (fun _=>0) Tryz.func25 comp25 era25 (Nat.le_of_ble_eq_true rfl) fun σ=> ?_
 repeat'(first|exact .nil|refine .k0 ?_|refine .k1 ?_|refine .k2 ?_|refine .k6 ?_|refine .r1 ?_ ?_|fail)
 all_goals(try simp only[BL]at *)
 refine WK_loop (fun n rg σ'=>∃ i:Nat,i≤l.length∧n=l.length-i∧(∀ j,j<i→¬l.getD j default=s)∧σ'=σ∧rg=[(0,strsA l),(1,sv s),(5,iv i)]) l.length rfl ⟨_,_,Zr,Zs,0,Nat.zero_le _,rfl,fun j hj=>absurd hj (by omega),rfl,rfl⟩ ?_
 rintro n _ _ ⟨i,hi,hn,hp,rfl,rfl⟩
 repeat'(first|exact .nil|refine .k0 ?_|refine .k1 ?_|refine .k2 ?_|refine .k6 ?_|refine .k7 ?_|refine .k8 ?_|refine .k9 ?_|(refine .cd ?_ ?_<;>(intro hc;skip))|refine .r1 ?_ ?_|(refine .m2 ?_ ?_;intro hlen)|refine .t1 ?_ ?_ ?_|fail)
 try any_goals(exact Zo)
 all_goals(try simp only[BL]at *)
 ·have hm:s∈l:=by rw[← hc];exact getD_mem (by omega)
  refine Sx.Fin.intro Zs (bt ?_)
  exact hm
 ·refine⟨l.length-(i+1),by omega,_,_,Zr,Zs,i+1,by omega,rfl,cons_lt hp hc,rfl,by rw[up1 (n:=l.length) (by omega) (by assumption)]⟩
 ·refine Sx.Fin.intro Zs (bf ?_)
  exact in_take (by omega) hp
theorem sameNames_ok(a b:List Str):Pure Tryz.prog 17 [strsA a,strsA b] (.v (.bool (decide (a=b)))):=by
 refine Pure.runk (fun _=>0) Tryz.func17 comp17 era17 (Nat.le_of_ble_eq_true rfl) fun σ=> ?_
 repeat'(first|exact .nil|refine .k0 ?_|refine .k1 ?_|refine .k2 ?_|refine .k6 ?_|refine .k7 ?_|refine .k9 ?_|(refine .cd ?_ ?_<;>(intro hc;skip))|refine .r1 ?_ ?_|(refine .m2 ?_ ?_;intro hlen)|fail)
 all_goals(try simp only[BL]at *)
 ·refine Sx.Fin.intro Zs (bf ?_)
  intro e;subst e;omega
 refine WK_loop (fun n rg σ'=>∃ i:Nat,i≤a.length∧n=a.length-i∧(∀ j,j<i→a.getD j default=b.getD j default)∧σ'=σ∧rg=[(0,strsA a),(1,strsA b),(5,iv i)]) a.length rfl ⟨_,_,Zr,Zs,0,Nat.zero_le _,rfl,fun j hj=>absurd hj (by omega),rfl,rfl⟩ ?_
 rintro n _ _ ⟨i,hi,hn,hp,rfl,rfl⟩
 repeat'(first|exact .nil|refine .k0 ?_|refine .k1 ?_|refine .k2 ?_|refine .k5 ?_|refine .k6 ?_|refine .k7 ?_|refine .k8 ?_|refine .k9 ?_|(refine .cd ?_ ?_<;>(intro hc;skip))|refine .r1 ?_ ?_|(refine .m2 ?_ ?_;intro hlen)|refine .t1 ?_ ?_ ?_|fail)
 try any_goals(exact Zo)
 all_goals(try simp only[BL]at *)
 ·refine Sx.Fin.intro Zs (bf ?_)
  intro e;subst e;exact hc rfl
 ·refine⟨a.length-(i+1),by omega,_,_,Zr,Zs,i+1,by omega,rfl,cons_lt hp hc,rfl,by rw[up1 (n:=a.length) (by omega) (by assumption)]⟩
 ·refine Sx.Fin.intro Zs (bt ?_)
  refine List.ext_getElem (by omega) fun j h1 h2=> ?_
  have:=hp j (by omega)
  rwa [getD_eq h1,getD_eq h2]at this
theorem strs_one(l:List Str):((l.map strRow).all fun r=>r.all AV.one)=true:=by
 rw[List.all_map,List.all_eq_true];intro x _;rfl
theorem putAt_eq{s:Str}:∀ {l:List Str} {k:Nat},k≤l.length→(∀ j,j<k→sLt (l.getD j default) s=true)→(k<l.length→¬sLt (l.getD k default) s=true)→putAt l s=k
 |[],k,h,_,_=>by simp at h;subst h;rfl
 |a::l,0,_,_,h=>by have:=h (by simp);unfold putAt;rw[if_neg (by simpa using this)]
 |a::l,k+1,h,hp,hn=>by
  have h0:=hp 0 (by omega)
  unfold putAt
  rw[if_pos (by simpa using h0),putAt_eq (l:=l) (k:=k) (by simpa using h) (fun j hj=>by have:=hp (j+1) (by omega);simpa using this) (fun hk=>by have:=hn (by simpa using hk);simpa using this)]
theorem put_ok(l:List Str)(s:Str)(hl:l.length≤1000000):Pure Tryz.prog 54 [strsA l,sv s] (strsA (putL l s)):=by
 refine Pure.runk (fun d=>bif ([34]:List Nat).elem d then 1 else 0) Tryz.func54 comp54 era54 (Nat.le_of_ble_eq_true rfl) fun σ=> ?_
 repeat'(first|exact .nil|refine .k0 ?_|refine .k1 ?_|refine .k2 ?_|refine .k6 ?_|refine .r1 ?_ ?_|fail)
 all_goals(try simp only[BL]at *)
 refine WK_loop (fun n rg σ'=>∃ i:Nat,i≤l.length∧n=l.length-i∧(∀ j,j<i→sLt (l.getD j default) s=true)∧σ'=σ∧rg=[(0,strsA l),(1,sv s),(5,iv i)]) l.length rfl ⟨_,_,Zr,Zs,0,Nat.zero_le _,rfl,fun j hj=>absurd hj (by omega),rfl,rfl⟩ ?_
 rintro n _ _ ⟨i,hi,hn,hp,rfl,rfl⟩
 repeat'(first|exact .nil|refine .k0 ?_|refine .k1 ?_|refine .k2 ?_|refine .k3 ?_|refine .k4 ?_|refine .k6 ?_|refine .k7 ?_|refine .k8 ?_|refine .k9 ?_|(refine .cd ?_ ?_<;>(intro hc;skip))|refine .r1 ?_ ?_|(refine .m2 ?_ ?_;intro hlen)|refine .t1 ?_ ?_ ?_|refine .t2 ?_ ?_ ?_|refine .t3 ?_ ?_ ?_|(refine .l2 ?_;intro b)|refine .u2 ?_ ?_ ?_ (fun b u c=> ?_)|(show List.all _ _=true;rfl)|fail)
 try any_goals(exact Zo)
 all_goals(try simp only[BL]at *)
 any_goals((simp only[List.length_cons,List.length_nil,List.length_append,List.length_map,List.length_take,app_size,szl,str_len,List.size_toArray];omega))
 ·refine⟨l.length-(i+1),by omega,_,_,Zr,Zs,i+1,by omega,rfl,cons_lt hp hc.2,rfl,by rw[up1 (n:=l.length) (by omega) (by assumption)]⟩
 all_goals have hpa:=putAt_eq hi hp (fun hk h=>by rename_i h1;first|(rcases h1 with h1|h1;exact h1 (by omega);unfold sLt at h;rw[h1]at h;cases h)|fail)
 ·have e:=putL_at l s
  rw[hpa,if_pos ⟨by omega,hc.2⟩]at e
  rw[e];exact Zw
 ·exact strs_one _
 ·simp only[List.length_append,List.length_map,List.length_take,List.length_drop,List.length_cons,List.length_nil];omega
 ·exact strs_one _
 ·have e:=putL_at l s
  rw[hpa,if_neg (by rintro⟨h1,h2⟩;rcases hc with h|h;exact h (by omega);exact h h2)]at e
  rw[e,show([]++List.map strRow (List.take i l)++[[AV.v (Value.string s)]]++List.map strRow (List.drop i l))=(List.take i l++[s]++List.drop i l).map strRow by simp[strRow]]
  exact Zw
theorem find_no{fs:List Fea}{n:Str}(h:∀ j,j<fs.length→¬(fs.getD j default).name=n):findF fs n=none:=by
 unfold findF
 rw[List.find?_eq_none]
 intro x hx
 obtain⟨j,hj,rfl⟩:=List.getElem_of_mem hx
 have:=h j hj
 rw[getD_eq hj]at this
 simpa using this
theorem find_at{fs:List Fea}{n:Str}{i:Nat}(hi:i<fs.length)(h:∀ j,j<i→¬(fs.getD j default).name=n)(hn:(fs.getD i default).name=n):findF fs n=some (fs.getD i default):=by
 unfold findF
 rw[getD_eq hi]at hn ⊢
 rw[List.find?_eq_some_iff_getElem]
 refine⟨by simpa using hn,i,hi,rfl,fun j hj=> ?_⟩
 have:=h j hj
 rw[getD_eq (Nat.lt_trans hj hi)]at this
 simpa using this
theorem find12_ok(fs:List Fea)(n:Str)(o:Option Fea)(h:findF fs n=o):Pure Tryz.prog 60 [.sl false 18 (fs.map Fea.cells),sv n] (foundF o):=by
 subst h
 refine Pure.runk (fun _=>0) Tryz.func60 comp60 era60 (Nat.le_of_ble_eq_true rfl) fun σ=> ?_
 repeat'(first|exact .nil|refine .k0 ?_|refine .k1 ?_|refine .k2 ?_|refine .k6 ?_|refine .r1 ?_ ?_|(refine .l1 ?_;intro b)|fail)
 all_goals(try simp only[BL]at *)
 refine WK_loop (fun m rg σ'=>∃ i:Nat,i≤fs.length∧m=fs.length-i∧(∀ j,j<i→¬(fs.getD j default).name=n)∧σ'=(4,b,Blk.cells feaZ)::σ∧rg=[(0,.sl false 18 (fs.map Fea.cells)),(1,sv n),(4,.lp 4 b 0),(6,iv i)]) fs.length rfl ⟨_,_,Zr,Zs,0,Nat.zero_le _,rfl,fun j hj=>absurd hj (by omega),rfl,rfl⟩ ?_
 rintro m _ _ ⟨i,hi,hn,hp,rfl,rfl⟩
 repeat'(first|exact .nil|refine .k0 ?_|refine .k1 ?_|refine .k2 ?_|refine .k6 ?_|refine .k7 ?_|refine .k8 ?_|refine .k9 ?_|(refine .cd ?_ ?_<;>(intro hc;skip))|refine .r1 ?_ ?_|(refine .m2 ?_ ?_;intro hlen)|refine .t1 ?_ ?_ ?_|fail)
 try any_goals(exact Zo)
 all_goals(try simp only[BL]at *)
 ·rw[find_at (by omega) hp hc]
  exact Zw
 ·refine⟨fs.length-(i+1),by omega,_,_,Zr,Zs,i+1,by omega,rfl,cons_lt hp hc,rfl,by rw[up1 (n:=fs.length) (by omega) (by assumption)]⟩
 ·rw[find_no (fun j hj=>hp j (by omega))]
  exact Zw
theorem putF_app:∀ (a b:List Fea) (l:List Str),putF (a++b) l=putF b (putF a l)
 |[],_,_=>rfl
 |_::a,b,_=>putF_app a b _
theorem putF_take{fs:List Fea}{i:Nat}(hi:i<fs.length)(l:List Str):putF (fs.take (i+1)) l=putL (putF (fs.take i) l) (fs.getD i default).name:=by
 rw[List.take_succ_eq_append_getElem hi,putF_app,getD_eq hi];rfl
theorem names12_ok(c:Cat)(hl:c.features.length≤1000000):Pure Tryz.prog 26 [.agg c.cells] (strsA (namesF c.features)):=by
 refine Pure.runk (fun _=>0) Tryz.func26 comp26 era26 (Nat.le_of_ble_eq_true rfl) fun σ=> ?_
 repeat'(first|exact .nil|refine .k0 ?_|refine .k1 ?_|refine .k2 ?_|refine .k6 ?_|refine .r1 ?_ ?_|(refine .m1 ?_ ?_;intro b)|fail)
 all_goals(try simp only[BL]at *)
 refine WK_loop (fun n rg σ'=>∃ i:Nat,i≤c.features.length∧n=c.features.length-i∧σ'=(1,b,Blk.cells c.cells)::σ∧rg=[(1,.lp 1 b 0),(3,strsA (putF (c.features.take i) [])),(4,iv i)]) c.features.length rfl ⟨_,_,Zr,Zs,0,Nat.zero_le _,rfl,rfl,rfl⟩ ?_
 rintro n _ _ ⟨i,hi,hn,rfl,rfl⟩
 repeat'(first|exact .nil|refine .k0 ?_|refine .k1 ?_|refine .k2 ?_|refine .k6 ?_|refine .k7 ?_|refine .k8 ?_|refine .k9 ?_|(refine .cd ?_ ?_<;>(intro hc;skip))|refine .r1 ?_ ?_|(refine .m2 ?_ ?_;intro hlen)|refine .t1 ?_ ?_ ?_|refine .an rfl (by intro hob;exact put_ok (putF (c.features.take i) []) _ (by have:=putF_len (c.features.take i) [];rw[List.length_take]at this;simp at this;omega)) ?_ ?_|fail)
 try any_goals(exact Zo)
 all_goals(try simp only[BL]at *)
 ·refine⟨c.features.length-(i+1),by omega,_,_,Zr,Zs,i+1,by omega,rfl,rfl,?_⟩
  rw[putF_take (by omega),up1 (n:=c.features.length) (by omega) (by assumption)]
 ·rw[show namesF c.features=putF (c.features.take i) [] by rw[List.take_of_length_le (by omega)];rfl]
  exact Zw
theorem putL_len(l:List Str)(s:Str):(putL l s).length≤l.length+1:=by
 induction l with
 |nil=>simp[putL]
 |cons a l ih=>
  unfold putL
  split
  ·simp only[List.length_cons];omega
  ·split<;>simp
mutual
theorem dirL_len:∀ (x:Ex) (a:List Str×List Str),(dirL x a).1.length≤a.1.length+x.feats.length∧(dirL x a).2.length≤a.2.length+x.tabs.length
 | .mk k o n t v u p w ks,a=>by
  have ih:=dirLL_len ks (if k=3∨k=4 then(putL a.1 n,a.2)else if k=5 then(a.1,putL a.2 t)else a)
  rw[dirL,Ex.feats,Ex.tabs,List.length_append,List.length_append]
  have h1:=putL_len a.1 n
  have h2:=putL_len a.2 t
  by_cases h:k=3∨k=4
  ·rw[if_pos h]at ih ⊢
   have h5:¬k=5:=by omega
   simp only[if_pos h,if_neg h5,List.length_nil,List.length_singleton]at *;omega
  ·by_cases h5:k=5
   ·rw[if_neg h,if_pos h5]at ih ⊢
    simp only[if_neg h,if_pos h5,List.length_nil,List.length_singleton]at *;omega
   ·rw[if_neg h,if_neg h5]at ih ⊢
    simp only[if_neg h,if_neg h5,List.length_nil]at *;omega
theorem dirLL_len:∀ (l:List Ex) (a:List Str×List Str),(dirLL l a).1.length≤a.1.length+(Ex.featsL l).length∧(dirLL l a).2.length≤a.2.length+(Ex.tabsL l).length
 |[],a=>by simp[dirLL,Ex.featsL,Ex.tabsL]
 |x::l,a=>by
  have h1:=dirL_len x a
  have h2:=dirLL_len l (dirL x a)
  rw[dirLL,Ex.featsL,Ex.tabsL,List.length_append,List.length_append];omega
end
theorem dirLL_app:∀ (l m:List Ex) (a:List Str×List Str),dirLL (l++m) a=dirLL m (dirLL l a)
 |[],_,_=>by rw[dirLL];rfl
 |x::l,m,a=>by rw[List.cons_append,dirLL,dirLL_app l m,dirLL]
theorem dirLL_take{l:List Ex}{i:Nat}(hi:i<l.length)(a:List Str×List Str):dirLL (l.take (i+1)) a=dirL (l.getD i default) (dirLL (l.take i) a):=by
 rw[List.take_succ_eq_append_getElem hi,dirLL_app,getD_eq hi,dirLL,dirLL]
def dir0(x:Ex)(a:List Str×List Str):List Str×List Str:=if x.kind=3∨x.kind=4 then(putL a.1 x.name,a.2)else if x.kind=5 then(a.1,putL a.2 x.table)else a
theorem dirL_eq(x:Ex)(a:List Str×List Str):dirL x a=dirLL x.args (dir0 x a):=by cases x;rw[dirL];rfl
theorem feats_eq'(x:Ex):x.feats=(if x.kind=3∨x.kind=4 then[x.name]else[])++Ex.featsL x.args:=by cases x;rw[Ex.feats];rfl
theorem tabs_eq'(x:Ex):x.tabs=(if x.kind=5 then[x.table]else[])++Ex.tabsL x.args:=by cases x;rw[Ex.tabs];rfl
theorem dir0_len(x:Ex)(a:List Str×List Str):(dir0 x a).1.length+(Ex.featsL x.args).length≤a.1.length+x.feats.length∧(dir0 x a).2.length+(Ex.tabsL x.args).length≤a.2.length+x.tabs.length:=by
 have h1:=putL_len a.1 x.name
 have h2:=putL_len a.2 x.table
 rw[feats_eq',tabs_eq',List.length_append,List.length_append]
 unfold dir0
 by_cases h:x.kind=3∨x.kind=4
 ·have h5:¬x.kind=5:=by omega
  simp only[if_pos h,if_neg h5,List.length_nil,List.length_singleton];omega
 ·by_cases h5:x.kind=5
  ·simp only[if_neg h,if_pos h5,List.length_nil,List.length_singleton];omega
  ·simp only[if_neg h,if_neg h5,List.length_nil];omega
theorem getD_len(l:List Ex){i:Nat}(hi:i<l.length):(Ex.featsL (l.take i)).length+(l.getD i default).feats.length≤(Ex.featsL l).length∧(Ex.tabsL (l.take i)).length+(l.getD i default).tabs.length≤(Ex.tabsL l).length:=by
 have e:l=l.take i++(l.getD i default::l.drop (i+1)):=by
  rw[getD_eq hi,List.getElem_cons_drop hi,List.take_append_drop]
 have app1:∀ (a b:List Ex),(Ex.featsL (a++b)).length=(Ex.featsL a).length+(Ex.featsL b).length:=fun a=>by
  induction a with
  |nil=>intro b;simp[Ex.featsL]
  |cons x a ih=>intro b;rw[List.cons_append,Ex.featsL,Ex.featsL,List.length_append,List.length_append,ih];omega
 have app2:∀ (a b:List Ex),(Ex.tabsL (a++b)).length=(Ex.tabsL a).length+(Ex.tabsL b).length:=fun a=>by
  induction a with
  |nil=>intro b;simp[Ex.tabsL]
  |cons x a ih=>intro b;rw[List.cons_append,Ex.tabsL,Ex.tabsL,List.length_append,List.length_append,ih];omega
 have h1:=congrArg (fun l=>(Ex.featsL l).length) e
 have h2:=congrArg (fun l=>(Ex.tabsL l).length) e
 simp only[app1,app2,Ex.featsL,Ex.tabsL,List.length_append]at h1 h2
 omega
def DirR(x:Ex):Prop:=∀ (F T:List Str),F.length+x.feats.length≤1000000→T.length+x.tabs.length≤1000000→Pure Tryz.prog 22 [.agg x.row,strsA F,strsA T] (.tup [strsA (dirL x (F,T)).1,strsA (dirL x (F,T)).2])
theorem dirR_step(x:Ex)(ih:∀ i,i<x.args.length→DirR (x.args.getD i default)):DirR x:=fun F T hF hT=>by
 rw[Ex.row_eq x,dirL_eq]
 have hd:=dir0_len x (F,T)
 refine Pure.runk (fun _=>0) Tryz.func22 comp22 era22 (Nat.le_of_ble_eq_true rfl) fun σ=> ?_
 repeat'(first|exact .nil|refine .k0 ?_|refine .k1 ?_|refine .k2 ?_|refine .k4 ?_|refine .k6 ?_|refine .k9 ?_|(refine .cd ?_ ?_<;>(intro hc;skip))|refine .r1 ?_ ?_|(refine .m1 ?_ ?_;intro b)|refine .an rfl (by intro hob;first|exact put_ok _ _ (by omega)|fail) ?_ ?_|fail)
 try any_goals(exact Zo)
 all_goals(try simp only[BL]at *)
 ·omega
 all_goals
  refine WK_loop (fun n rg σ'=>∃ i:Nat,i≤x.args.length∧n=x.args.length-i∧σ'=(3,b,Blk.cells x.lay)::σ∧rg=[(1,strsA (dirLL (x.args.take i) (dir0 x (F,T))).1),(2,strsA (dirLL (x.args.take i) (dir0 x (F,T))).2),(3,.lp 3 b 0),(8,iv i)]) x.args.length rfl ⟨_,_,Zr,Zs,0,Nat.zero_le _,rfl,rfl,(by
   rw[List.take_zero,dirLL]
   first
    |(rw[show dir0 x (F,T)=(putL F x.name,T)from if_pos (by assumption)];rfl)
    |(rw[show dir0 x (F,T)=(F,putL T x.table)from(if_neg (by omega)).trans (if_pos (by assumption))];rfl)
    |(rw[show dir0 x (F,T)=(F,T)from(if_neg (by omega)).trans (if_neg (by assumption))];rfl))⟩ ?_
  rintro n _ _ ⟨i,hi,hn,rfl,rfl⟩
  have hA:=fun(h:i<x.args.length)=>ih i h (dirLL (x.args.take i) (dir0 x (F,T))).1 (dirLL (x.args.take i) (dir0 x (F,T))).2 (by have h1:=dirLL_len (x.args.take i) (dir0 x (F,T));have h2:=getD_len x.args h;omega) (by have h1:=dirLL_len (x.args.take i) (dir0 x (F,T));have h2:=getD_len x.args h;omega)
  repeat'(first|exact .nil|refine .k0 ?_|refine .k1 ?_|refine .k2 ?_|refine .k6 ?_|refine .k7 ?_|refine .k8 ?_|refine .k9 ?_|(refine .cd ?_ ?_<;>(intro hc;skip))|refine .r1 ?_ ?_|(refine .m2 ?_ ?_;intro hlen)|refine .t1 ?_ ?_ ?_|refine .an rfl (by intro hob;exact hA (by(simp only[BL]at *;omega))) ?_ ?_|fail)
  try any_goals(exact Zo)
  all_goals(try simp only[BL]at *)
  all_goals first
   |(refine⟨x.args.length-(i+1),by omega,_,_,Zr,Zs,i+1,by omega,rfl,rfl,?_⟩;rw[dirLL_take (by omega),up1 (n:=x.args.length) (by omega) (by assumption)])
   |(rw[List.take_of_length_le (by omega)];(refine Sx.Fin.wk Zs ?_;repeat' first|exact .refl _|fail))
theorem dirR_all:∀ (n:Nat) (x:Ex),x.size≤n→DirR x
 |0,x,h=>by cases x;simp[Ex.size]at h
 |n+1,x,h=>dirR_step x fun k hk=>dirR_all n _ (by
  have:=Ex.size_arg x hk;omega)
theorem dirR_ok(x:Ex):DirR x:=dirR_all x.size x (Nat.le_refl _)
end Go.Proofs.YtekngilbecjkhaaGreatDoor
